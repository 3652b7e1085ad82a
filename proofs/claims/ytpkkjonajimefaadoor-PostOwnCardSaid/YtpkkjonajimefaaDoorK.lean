/- The post's own functions over its bag: new, how many, sent, what stands at a place. -/
import Derived.Test.YtpkkjonajimefaaDoorP
set_option linter.unusedVariables false
set_option linter.unusedSimpArgs false
namespace Go.Proofs.YtpkkjonajimefaaDoor
open Go.RowKit

def PostAt (B : Nat) (w : World) (p : Value) (ms : List MsgM) : Prop :=
  ∃ b r, p = .pointer (some ⟨b, 0, none⟩) ∧ B ≤ b ∧ w.heap[b]? = some (.cells #[.iface 59 (.pointer (some ⟨r, 0, none⟩))] 66 (0, 0)) ∧ BagAt B w r ms
theorem PostAt.below {B : Nat} {w w' : World} {p : Value} {ms : List MsgM} (h : PostAt B w p ms) (hb : Below w.heap.size w w') : PostAt B w' p ms := by
  obtain ⟨b, r, e, h0, h1, h2⟩ := h
  exact ⟨b, r, e, h0, block_below h1 hb, h2.below hb⟩

theorem new_any (w : World) : Calls Tryd.prog 15 #[] w fun e w' => ∃ b, e = .returned (.pointer (some ⟨b, 0, none⟩)) ∧ PostAt w.heap.size w' (.pointer (some ⟨b, 0, none⟩)) [] ∧ Below w.heap.size w w' := by
  go_enter Tryd.func15, Tryd.ntmps15
  go_wp2
  go_ret
  refine ⟨_, rfl, ⟨_, w.heap.size, rfl, by omega, alloc_second _ _ _, Nat.le_refl _, .slice none 0 0, fun _ => undef, ?_, World.ownsRow_nil _ _ _ _, fun i h => absurd h (Nat.not_lt_zero _)⟩, below_alloc' (below_alloc' (Below.refl _ _) _) _⟩
  rw [Below.heap_alloc _ _ _ (by simp)]
  exact alloc_at _ _

set_option maxRecDepth 100000 in
theorem len_any (B : Nat) (w : World) (p : Value) (ms : List MsgM) (h : PostAt B w p ms) : Calls Tryd.prog 26 #[p] w fun e w' => e = .returned (.int .i64 ms.length) ∧ w = w' := by
  obtain ⟨b, r, rfl, h0, h1, h2⟩ := h
  have c0 := cell_of_block h1 0 _ rfl
  have H2 := Lib.hid h2
  clear h1 h2
  go_enter Tryd.func26, Tryd.ntmps26
  go_wp2_with (go_at_call 85; fail)
  refine (rlen_any B _ r ms H2.out).mono ?_
  rintro e w1 ⟨rfl, rfl⟩
  go_wp2
  go_ret
  exact ⟨rfl, rfl⟩

set_option maxHeartbeats 2000000 in
set_option maxRecDepth 100000 in
theorem at_any (B : Nat) (w : World) (p : Value) (ms : List MsgM) (h : PostAt B w p ms) (i : Int) : Calls Tryd.prog 25 #[p, .int .i64 i] w fun e w' =>
    ∃ v, e = .returned (.tuple #[v, .bool (decide (0 ≤ i ∧ i < ms.length))]) ∧ MsgAt w.heap.size w' v (if 0 ≤ i ∧ i < ms.length then ms.getD i.toNat noMsg else noMsg) ∧ Below w.heap.size w w' := by
  obtain ⟨b, r, rfl, h0, h1, h2⟩ := h
  have c0 : ∀ o, (w.alloc o).cell? ⟨b, 0, none⟩ = some (.iface 59 (.pointer (some ⟨r, 0, none⟩))) := fun o => cell_of_block (block_below h1 (below_alloc' (Below.refl _ _) _)) 0 _ rfl
  have H2 := Lib.hid h2
  clear h1 h2
  obtain ⟨mj, hmj⟩ : ∃ mj, mj = (if 0 ≤ i ∧ i < (ms.length : Int) then ms.getD i.toNat noMsg else noMsg) := ⟨_, rfl⟩
  obtain ⟨bj, hbj⟩ : ∃ bj, bj = decide (0 ≤ i ∧ i < (ms.length : Int)) := ⟨_, rfl⟩
  have HMJ := Lib.hid hmj
  have HBJ := Lib.hid hbj
  rw [← hmj, ← hbj]
  clear hmj hbj
  go_enter Tryd.func25, Tryd.ntmps25
  go_wp2_with (go_at_call 84; fail)
  generalize hw2 : World.alloc w _ = w2
  have hb2 : Below w.heap.size w w2 := by rw [← hw2]; exact below_alloc' (Below.refl _ _) _
  have z0 : w2.heap[w.heap.size]? = some (.cells #[.int .i64 0, .int .i64 0, .int .i64 0, .int .i64 0, .slice none 0 0, .slice none 0 0, .bool false] 26 (0, 0)) := by rw [← hw2]; exact alloc_at _ _
  clear hw2 c0
  refine (rat_any B w2 r ms (H2.out.below hb2) i).mono ?_
  rw [← HMJ.out, ← HBJ.out]
  rintro e w3 ⟨v', rfl, hv', hb3⟩
  have HV := Lib.hid hv'
  obtain ⟨u', x', rfl, ⟨cu, hru, _⟩, hix⟩ := hv'
  obtain ⟨a1, c1, rfl⟩ := own_slicen hru
  obtain ⟨a2, c2, rfl⟩ := own_slicen hix
  have y0 := block_below z0 hb3
  have HB3 := Lib.hid (below_call hb2 hb3)
  have HS2 := Lib.hid hb2.size
  have n0 := cell_of_block y0 0 _ rfl
  have n1 := cell_of_block y0 1 _ rfl
  have n2 := cell_of_block y0 2 _ rfl
  have n3 := cell_of_block y0 3 _ rfl
  have n4 := cell_of_block y0 4 _ rfl
  have n5 := cell_of_block y0 5 _ rfl
  have n6 := cell_of_block y0 6 _ rfl
  have fr := free_of_block y0
  have Y0 := Lib.hid y0
  clear z0 y0 hb2 hb3 hru hix
  go_wp2
  obtain ⟨zf, hbf⟩ := set7 w3 w.heap.size _ _ (.int .i64 mj.kind) (.int .i64 mj.src) (.int .i64 mj.dst) (.int .i64 mj.gang) (.slice a1 mj.pods.length c1) (.slice a2 mj.peers.length c2) (.bool mj.yes) Y0.out rfl
  generalize hwf : World.setCell _ _ _ = wf at zf hbf ⊢
  clear hwf n0 n1 n2 n3 n4 n5 n6 fr
  have f0 := cell_of_block zf 0 _ rfl
  have f1 := cell_of_block zf 1 _ rfl
  have f2 := cell_of_block zf 2 _ rfl
  have f3 := cell_of_block zf 3 _ rfl
  have f4 := cell_of_block zf 4 _ rfl
  have f5 := cell_of_block zf 5 _ rfl
  have f6 := cell_of_block zf 6 _ rfl
  exact bodyPost_ret (v := .tuple #[.agg #[.int .i64 mj.kind, .int .i64 mj.src, .int .i64 mj.dst, .int .i64 mj.gang, .slice a1 mj.pods.length c1, .slice a2 mj.peers.length c2, .bool mj.yes], .bool bj]) (by simp [results, Tryd.results25, go_sem, f0, f1, f2, f3, f4, f5, f6]) rfl
    ⟨_, rfl, (HV.out.base HS2.out).still (hbf.still Y0.out (by unfold Parts; decide)), Below.but HB3.out hbf (Nat.le_refl _) HB3.out.size⟩

/-- A row of messages. -/
def MsgsAt (w : World) (v : Value) (l : List MsgM) : Prop :=
  ∃ c, w.ownsRow 0 26 7 v l.length (flat l.length c) ∧ ∀ i, i < l.length → (c i).length = 7 ∧ MsgAt 0 w (.agg (c i).toArray) (l.getD i noMsg) ∧ (l.getD i noMsg).few
/-- What a bag holds when these have been put in. -/
def sent (ms l : List MsgM) : List MsgM := l.foldl (fun ms m => if ms.length < 200 then ms ++ [m] else ms) ms
theorem sent_snoc (ms l : List MsgM) (m : MsgM) : sent ms (l ++ [m]) = if (sent ms l).length < 200 then sent ms l ++ [m] else sent ms l := by
  unfold sent
  rw [List.foldl_append]
  rfl

set_option maxHeartbeats 2000000 in
set_option maxRecDepth 100000 in
theorem send_any (B : Nat) (w : World) (p : Value) (ms : List MsgM) (h : PostAt B w p ms) (hB : B ≤ w.heap.size) (v : Value) (l : List MsgM) (hl : MsgsAt w v l) (hn : l.length ≤ 1073741824) : Calls Tryd.prog 22 #[p, v] w fun e w' =>
    e = .returned (.tuple #[]) ∧ PostAt B w' p (sent ms l) ∧ Below B w w' ∧ Still Rest w w' := by
  obtain ⟨b, r, rfl, h0, h1, h2⟩ := h
  obtain ⟨c, hrow, hc⟩ := hl
  obtain ⟨a, cap, rfl⟩ := own_slicen hrow
  have H1 := Lib.hid h1
  have H2 := Lib.hid h2
  have HR := Lib.hid hrow
  have HC := Lib.hid hc
  clear h1 h2 hrow hc
  go_enter Tryd.func22, Tryd.ntmps22
  go_wp2
  go_loopw [8] (fun i wr => ∃ k : Nat, i = .int .i64 k ∧ k ≤ l.length ∧ BagAt B wr r (sent ms (l.take k)) ∧ Below B w wr ∧ Still Rest w wr) (fun i _ => l.length - (intOf i).toNat)
  case atStart => exact ⟨0, rfl, Nat.zero_le _, H2.out, Below.refl _ _, fun _ _ _ _ h => h⟩
  case round =>
    obtain ⟨k, rfl, hk, hbag, hbw, hsw⟩ := hrel
    have HBAG := Lib.hid hbag
    have HBW := Lib.hid hbw
    have HSW := Lib.hid hsw
    clear hbag hbw hsw
    by_cases hlt : k < l.length
    · have hlt' : (k : Int) < l.length := by omega
      obtain ⟨g, cap', eu, hg, hgs⟩ := (own_forms HR.out).resolve_left (by rintro ⟨_, h, _⟩; omega)
      injection eu with e1 e2 e3
      subst e1 e3
      obtain ⟨mk, hmk⟩ : ∃ mk, mk = l.getD k noMsg := ⟨_, rfl⟩
      obtain ⟨hc7, hmsg, hfew⟩ := HC.out k hlt
      rw [← hmk] at hmsg hfew
      have hl7 : ∀ i, i < l.length → (c i).length = 7 := fun i hi => (HC.out i hi).1
      have hrw := own_still HR.out HSW.out ⟨by decide, by decide⟩
      have hm1 := hmsg.still (parts_rest HSW.out)
      obtain ⟨u, x, ev, ⟨_, q1, _⟩, q2⟩ := hmsg
      obtain ⟨b1, d1, rfl⟩ := own_slicen q1
      obtain ⟨b2, d2, rfl⟩ := own_slicen q2
      have ec : c k = [.int .i64 mk.kind, .int .i64 mk.src, .int .i64 mk.dst, .int .i64 mk.gang, .slice b1 mk.pods.length d1, .slice b2 mk.peers.length d2, .bool mk.yes] := by
        have := congrArg (fun v : Value => match v with | .agg cs => cs.toList | _ => []) ev
        simpa using this
      have hcell : ∀ j, j < 7 → ∀ v, (c k)[j]? = some v → wr.cell? ⟨g, k * 7 + j, none⟩ = some v := fun j hj v hv => by
        rw [hrw.cellAt _ (by have := Nat.mul_le_mul_right 7 (show k + 1 ≤ l.length from hlt); omega), flat_get hl7 hlt hj, hv]
      rw [ec] at hcell
      have e0 : wr.cell? ⟨g, k * 7, none⟩ = _ := hcell 0 (by omega) _ rfl
      have e1 := hcell 1 (by omega) _ rfl
      have e2 := hcell 2 (by omega) _ rfl
      have e3 := hcell 3 (by omega) _ rfl
      have e4 := hcell 4 (by omega) _ rfl
      have e5 := hcell 5 (by omega) _ rfl
      have e6 := hcell 6 (by omega) _ rfl
      rw [ev] at hm1
      have HM1 := Lib.hid hm1
      have HFW := Lib.hid hfew
      have HMK := Lib.hid hmk
      clear hcell hl7 hrw hm1 ev ec hc7 q1 q2 hfew hmk
      go_wp2
      generalize hw5 : World.alloc wr _ = w5
      have hb5 : Below wr.heap.size wr w5 := by rw [← hw5]; exact below_alloc' (Below.refl _ _) _
      have zp : w5.heap[wr.heap.size]? = some (.cells #[.int .i64 mk.kind, .int .i64 mk.src, .int .i64 mk.dst, .int .i64 mk.gang, .slice b1 mk.pods.length d1, .slice b2 mk.peers.length d2, .bool mk.yes] 26 (0, 0)) := by rw [← hw5]; exact alloc_at _ _
      clear hw5 e0 e1 e2 e3 e4 e5 e6
      have zb := block_below (HSW.out _ _ _ ⟨by decide, by decide⟩ H1.out) hb5
      have hs : ∀ w6, Below w5.drew.heap.size w5.drew w6 → w6.cell? ⟨b, 0, none⟩ = some (.iface 59 (.pointer (some ⟨r, 0, none⟩))) ∧ w6.cell? ⟨wr.heap.size, 0, none⟩ = some (.int .i64 mk.kind) ∧ w6.cell? ⟨wr.heap.size, 1, none⟩ = some (.int .i64 mk.src) ∧ w6.cell? ⟨wr.heap.size, 2, none⟩ = some (.int .i64 mk.dst) ∧ w6.cell? ⟨wr.heap.size, 3, none⟩ = some (.int .i64 mk.gang) ∧ w6.cell? ⟨wr.heap.size, 4, none⟩ = some (.slice b1 mk.pods.length d1) ∧ w6.cell? ⟨wr.heap.size, 5, none⟩ = some (.slice b2 mk.peers.length d2) ∧ w6.cell? ⟨wr.heap.size, 6, none⟩ = some (.bool mk.yes) := fun w6 h => by
        have k0 := block_below (w := w5.drew) zb h
        have k1 := block_below (w := w5.drew) zp h
        exact ⟨cell_of_block k0 0 _ rfl, cell_of_block k1 0 _ rfl, cell_of_block k1 1 _ rfl, cell_of_block k1 2 _ rfl, cell_of_block k1 3 _ rfl, cell_of_block k1 4 _ rfl, cell_of_block k1 5 _ rfl, cell_of_block k1 6 _ rfl⟩
      have HS := Lib.hid hs
      have HB5 := Lib.hid hb5
      clear hs zb zp hb5
      refine' Par.wp_region_pars (fun w w' => Below w.heap.size w w') 5 (by kernel_rfl) (by kernel_rfl) (by kernel_rfl) (by kernel_rfl) (by kernel_rfl) (by kernel_rfl)
        (fun w => Below.refl _ w) (fun h k => below_call h k) (fun vals => ?_)
      rotate_left
      simp only [List.take_succ_cons, List.take_zero, List.drop_succ_cons, List.drop_zero]
      iterate 5 (apply Par.par_x rfl; (focus (intro w6 hR hD K hK; replace hK := Lib.hid hK; obtain ⟨e0, e1, e2, e3, e4, e5, e6, e7⟩ := HS.out w6 hR; clear hR hD; go_simp; exact hK.out _ (Below.refl _ _))); simp only [Act.put, List.setIfInBounds_toArray, List.set_cons_zero, List.set_cons_succ, Nat.reduceAdd, List.cons_append, List.nil_append])
      refine Par.par_end fun w6 hR hp => ?_
      clear hp
      have hb6 := below_call HB5.out.drew hR
      have HB6 := Lib.hid hb6
      clear hR hb6 HS
      go_wp2_with (go_at_call 86; fail)
      refine (rput_any B w6 r _ (HBAG.out.below HB6.out) (Nat.le_trans hB (Nat.le_trans HBW.out.size HB6.out.size)) _ mk (HM1.out.still (Still.of_below HB6.out)) HFW.out).mono ?_
      rintro e w7 ⟨rfl, hbag7, hb7, hs7⟩
      have HBAG7 := Lib.hid hbag7
      have HB7 := Lib.hid hb7
      have HS7 := Lib.hid hs7
      clear hbag7 hb7 hs7
      go_wp2
      go_roundw
      case rel =>
        refine ⟨k + 1, by go_num, by omega, ?_, HBW.out.trans ((HB6.out.mono (Nat.le_trans hB HBW.out.size)).trans HB7.out), HSW.out.trans ((Still.of_below HB6.out).trans HS7.out)⟩
        have e : l.take (k + 1) = l.take k ++ [mk] := by
          rw [List.take_add_one, HMK.out, List.getD_eq_getElem?_getD, List.getElem?_eq_getElem hlt]; rfl
        rw [e, sent_snoc]
        exact HBAG7.out
      case measure => simp [intOf]; omega
    · obtain rfl : k = l.length := by omega
      go_wp2
      have hbag := HBAG.out
      rw [List.take_length] at hbag
      exact bodyPost_end (v := .tuple #[]) (by simp [results, Tryd.results22, go_sem]) rfl ⟨rfl, ⟨b, r, rfl, h0, HSW.out _ _ _ ⟨by decide, by decide⟩ H1.out, hbag⟩, HBW.out, HSW.out⟩
end Go.Proofs.YtpkkjonajimefaaDoor
