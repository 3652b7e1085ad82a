/- The reference's post: messages sent; one that comes twice. -/
import Derived.Test.YtpkkjonajimefaaDoorRt
set_option linter.unusedVariables false
set_option linter.unusedSimpArgs false
namespace Go.Proofs.YtpkkjonajimefaaDoor
open Go.RowKit

/-- One row of messages may have grown. -/
def GrewM (row : Option Nat) (w w' : World) : Prop := w.grownBy w' row ∧ Still (fun e => e ≠ 26) w w'
theorem GrewM.refl (row : Option Nat) (w : World) : GrewM row w w := ⟨⟨rfl, rfl, rfl, Nat.le_refl _, fun _ _ _ => rfl⟩, fun _ _ _ _ h => h⟩
theorem GrewM.trans {row : Option Nat} {a b c : World} (h : GrewM row a b) (k : GrewM row b c) : GrewM row a c :=
  ⟨⟨k.1.os.trans h.1.os, k.1.tape.trans h.1.tape, k.1.output.trans h.1.output, Nat.le_trans h.1.size k.1.size, fun i hi hne => (k.1.block i (Nat.lt_of_lt_of_le hi h.1.size) hne).trans (h.1.block i hi hne)⟩, h.2.trans k.2⟩
theorem GrewM.of_below {row : Option Nat} {w w' : World} (h : Below w.heap.size w w') : GrewM row w w' := ⟨⟨h.os, h.tape, h.output, h.size, fun k hk _ => h.block k hk⟩, Still.of_below h⟩
theorem GrewM.parts {row : Option Nat} {w w' : World} (h : GrewM row w w') : Still Parts w w' := still_sub h.2 fun e he => by rcases he with rfl | rfl | rfl <;> decide
theorem msg_agg {B : Nat} {w : World} {v : Value} {m : MsgM} (h : MsgAt B w v m) : ∃ a1 c1 a2 c2, v = .agg #[.int .i64 m.kind, .int .i64 m.src, .int .i64 m.dst, .int .i64 m.gang, .slice a1 m.pods.length c1, .slice a2 m.peers.length c2, .bool m.yes] := by
  obtain ⟨u, x, rfl, ⟨_, h1, _⟩, h2⟩ := h
  obtain ⟨a1, c1, rfl⟩ := own_slicen h1
  obtain ⟨a2, c2, rfl⟩ := own_slicen h2
  exact ⟨_, _, _, _, rfl⟩
theorem msgs_one {B : Nat} {w : World} {v : Value} {l : List MsgM} (c : Nat → List Value) (hcc : ∀ i, i < l.length → (c i).length = 7 ∧ MsgAt B w (.agg (c i).toArray) (l.getD i noMsg) ∧ (l.getD i noMsg).few) : ∀ u ∈ flat l.length c, u.oneCell' = true := by
  intro u hu
  obtain ⟨q, hq, hu⟩ := flat_mem hu
  obtain ⟨s1, t1, s2, t2, e⟩ := msg_agg (hcc q hq).2.1
  have ec := congrArg (fun v : Value => match v with | .agg cs => cs.toList | _ => []) e
  have ec' : c q = [.int .i64 (l.getD q noMsg).kind, .int .i64 (l.getD q noMsg).src, .int .i64 (l.getD q noMsg).dst, .int .i64 (l.getD q noMsg).gang, .slice s1 (l.getD q noMsg).pods.length t1, .slice s2 (l.getD q noMsg).peers.length t2, .bool (l.getD q noMsg).yes] := by simpa using ec
  rw [ec'] at hu
  simp only [List.mem_cons, List.not_mem_nil, or_false] at hu
  rcases hu with rfl | rfl | rfl | rfl | rfl | rfl | rfl <;> rfl

/-- The reference's post, its row beside a given one. -/
def RefSep (B : Nat) (w : World) (x : Value) (ms : List MsgM) (v : Value) : Prop :=
  ∃ b sl, x = .pointer (some ⟨b, 0, none⟩) ∧ B ≤ b ∧ w.heap[b]? = some (.cells #[sl] 38 (0, 0)) ∧ MsgRow B w sl ms ∧ (sl.ownBlock = none ∨ sl.ownBlock ≠ v.ownBlock)
theorem RefSep.at_ {B : Nat} {w : World} {x v : Value} {ms : List MsgM} (h : RefSep B w x ms v) : RefAt B w x ms := by
  obtain ⟨b, sl, h1, h2, h3, h4, _⟩ := h
  exact ⟨b, sl, h1, h2, h3, h4⟩
theorem RefAt.sep {B : Nat} {w0 w : World} {x v : Value} {ms : List MsgM} (h : RefAt B w0 x ms) (k : Still RefT w0 w) (hv : ∀ g, v.ownBlock = some g → w0.heap.size ≤ g) : RefSep B w x ms v := by
  have h' := h.still k
  obtain ⟨b, sl, h1, h2, h3, c, h4, _⟩ := h
  obtain ⟨b', sl', h5, h6, h7, h8⟩ := h'
  rw [h1] at h5
  injection h5 with h5
  injection h5 with h5
  injection h5 with h5
  subst h5
  have h9 := k _ _ _ (.inl rfl) h3
  rw [h7] at h9
  injection h9 with h9
  injection h9 with h9 _
  have h10 : sl' = sl := by simpa using h9
  subst h10
  refine ⟨b, sl', h1, h2, h7, h8, ?_⟩
  cases hs : sl'.ownBlock with
  | none => exact .inl rfl
  | some g =>
    refine .inr fun e => ?_
    have := hv g e.symm
    have := (h4.lt g hs).2
    omega

set_option maxHeartbeats 8000000 in
set_option maxRecDepth 100000 in
theorem refSend_any (B : Nat) (w : World) (x : Value) (ms : List MsgM) (v : Value) (h : RefSep B w x ms v) (hB : B ≤ w.heap.size) (hms : ms.length ≤ 200) (l : List MsgM) (hl : MsgsAt w v l) (hn : l.length ≤ 100000) : Calls Tryd.prog 23 #[x, v] w fun e w' =>
    e = .returned (.tuple #[]) ∧ RefAt B w' x (sent ms l) ∧ Below B w w' ∧ Still RefOut w w' := by
  obtain ⟨va, vc, rfl⟩ : ∃ a c, v = .slice a l.length c := by
    obtain ⟨_, h1, _⟩ := hl
    exact own_slicen h1
  have H := Lib.hid h
  have HL := Lib.hid hl
  obtain ⟨b, sl0, rfl, hbB, _⟩ := h
  clear hl
  go_enter Tryd.func23, Tryd.ntmps23
  go_wp2
  go_loopw [4] (fun i wr => ∃ k : Nat, i = .int .i64 k ∧ k ≤ l.length ∧ ms.length + k ≤ 200 ∧ RefSep B wr (.pointer (some ⟨b, 0, none⟩)) (ms ++ l.take k) (.slice va l.length vc) ∧ MsgsAt wr (.slice va l.length vc) l ∧ Below B w wr ∧ Still RefOut w wr) (fun i _ => l.length - (intOf i).toNat)
  case atStart => exact ⟨0, rfl, Nat.zero_le _, by omega, by rw [List.take_zero, List.append_nil]; exact H.out, HL.out, Below.refl _ _, fun _ _ _ _ h => h⟩
  case round =>
    clear H HL
    obtain ⟨k, rfl, hk, hk2, href, hl, hb, hs⟩ := hrel
    have HREF := Lib.hid href
    have HL := Lib.hid hl
    have HB := Lib.hid hb
    have HS := Lib.hid hs
    obtain ⟨b', sl, e, _, hblk, ⟨cc, hown, hcc⟩, hsep⟩ := href
    injection e with e
    injection e with e
    injection e with e
    subst e
    obtain ⟨L, hL⟩ : ∃ L, ms ++ l.take k = L := ⟨_, rfl⟩
    rw [hL] at hown hcc
    have hLl : L.length = ms.length + k := by rw [← hL, List.length_append, List.length_take]; omega
    obtain ⟨sa, sc, rfl⟩ := own_slicen hown
    have c0 := cell_of_block hblk 0 _ rfl
    have HBLK := Lib.hid hblk
    have HOWN := Lib.hid hown
    have HCC := Lib.hid hcc
    have HSEP := Lib.hid hsep
    have HLL := Lib.hid hL
    have HLEN := Lib.hid hLl
    have hL200 : L.length ≤ 200 := by omega
    clear hl hb hs hblk hown hcc hsep hL hLl
    by_cases hkl : k < l.length
    · have hkl' : (k : Int) < l.length := by omega
      by_cases h200 : L.length < 200
      · have h200' : (L.length : Int) < 200 := by omega
        obtain ⟨g, a1, c1, a2, c2, rfl, _, hcell, hm, hf⟩ := msgs_cells (B := 0) (show MsgRow 0 wr (.slice va l.length vc) l from HL.out) hkl
        obtain ⟨mk, hmk⟩ : ∃ mk, l.getD k noMsg = mk := ⟨_, rfl⟩
        rw [hmk] at hcell hm hf
        have hgl : g < wr.heap.size := World.block_lt_of_cell? wr _ (hcell 0 _ rfl)
        have hrow : Value.ownBlock (.slice sa L.length sc) ≠ some g := by
          rcases HSEP.out with h | h
          · rw [h]; simp
          · intro e; exact h e
        have hfacts : ∀ w6, GrewM (Value.ownBlock (.slice sa L.length sc)) wr.drew w6 → w6.cell? ⟨b, 0, none⟩ = some (.slice sa L.length sc) ∧ (∀ j x, [Value.int .i64 mk.kind, .int .i64 mk.src, .int .i64 mk.dst, .int .i64 mk.gang, .slice a1 mk.pods.length c1, .slice a2 mk.peers.length c2, .bool mk.yes][j]? = some x → w6.cell? ⟨g, k * 7 + j, none⟩ = some x) ∧ MsgAt 0 w6 (.agg #[.int .i64 mk.kind, .int .i64 mk.src, .int .i64 mk.dst, .int .i64 mk.gang, .slice a1 mk.pods.length c1, .slice a2 mk.peers.length c2, .bool mk.yes]) mk := fun w6 h =>
          ⟨cell_of_block (h.2 _ _ _ (by decide) HBLK.out) 0 _ rfl, fun j x hx => (World.cell?_of_block (h.1.block g hgl (fun e => hrow e.symm))).trans (hcell j x hx), hm.still h.parts⟩
        have HFA := Lib.hid hfacts
        have HF := Lib.hid hf
        have HMK := Lib.hid hmk
        have HROW := Lib.hid hrow
        clear hfacts hf hmk hcell hm hrow
        have hrlt : ∀ g', Value.ownBlock (.slice sa L.length sc) = some g' → g' < wr.heap.size := fun g' hg' => (HOWN.out.lt g' hg').2
        have HRLT := Lib.hid hrlt
        clear hrlt c0
        have c0 := cell_of_block HBLK.out 0 _ rfl
        go_upto_region 3 with fail
        clear c0
        refine' Pas.wp_region_pass (fun w w' => Below w.heap.size w w') (GrewM (Value.ownBlock (.slice sa L.length sc))) 14 (by kernel_rfl) (by kernel_rfl) (by kernel_rfl) (by kernel_rfl) (by kernel_rfl) (by kernel_rfl)
          (fun w => GrewM.refl _ _) (fun h k => GrewM.trans h k) [(fun w3 => w3.ownsRow B 26 7 (.slice sa L.length sc) L.length (flat L.length cc), 11)] ?_ ?_ (fun vals => ?_)
        case refine'_2 =>
          simp only [List.forall_mem_cons]
          exact ⟨own_drew HOWN.out, by simp⟩
        case refine'_3 =>
          simp only [List.forall_mem_cons]
          exact ⟨fun w1 w2 k h => own_below h k, by simp⟩
        rotate_left
        simp only [List.take_succ_cons, List.take_zero, List.drop_succ_cons, List.drop_zero]
        (apply Pas.pas_x (fun _ _ h => GrewM.of_below h) rfl; (focus (intro w6 hR hD hP K hK; replace hK := Lib.hid hK; skip; clear hR hD hP; go_simp; exact hK.out _ (Below.refl _ _))); simp only [Act.put, List.setIfInBounds_toArray, List.set_cons_zero, List.set_cons_succ, Nat.reduceAdd, List.cons_append, List.nil_append])
        (apply Pas.pas_x (fun _ _ h => GrewM.of_below h) rfl; (focus (intro w6 hR hD hP K hK; replace hK := Lib.hid hK; skip; clear hR hD hP; go_simp; exact hK.out _ (Below.refl _ _))); simp only [Act.put, List.setIfInBounds_toArray, List.set_cons_zero, List.set_cons_succ, Nat.reduceAdd, List.cons_append, List.nil_append])
        (apply Pas.pas_x (fun _ _ h => GrewM.of_below h) rfl; (focus (intro w6 hR hD hP K hK; replace hK := Lib.hid hK; skip; clear hR hD hP; go_simp; exact hK.out _ (Below.refl _ _))); simp only [Act.put, List.setIfInBounds_toArray, List.set_cons_zero, List.set_cons_succ, Nat.reduceAdd, List.cons_append, List.nil_append])
        (apply Pas.pas_x (fun _ _ h => GrewM.of_below h) rfl; (focus (intro w6 hR hD hP K hK; replace hK := Lib.hid hK; skip; clear hR hD hP; go_simp; exact hK.out _ (Below.refl _ _))); simp only [Act.put, List.setIfInBounds_toArray, List.set_cons_zero, List.set_cons_succ, Nat.reduceAdd, List.cons_append, List.nil_append])
        (apply Pas.pas_x (fun _ _ h => GrewM.of_below h) rfl; (focus (intro w6 hR hD hP K hK; replace hK := Lib.hid hK; have c0 := (HFA.out w6 hR).1; clear hR hD hP; go_simp; exact hK.out _ (Below.refl _ _))); simp only [Act.put, List.setIfInBounds_toArray, List.set_cons_zero, List.set_cons_succ, Nat.reduceAdd, List.cons_append, List.nil_append])
        (apply Pas.pas_x (fun _ _ h => GrewM.of_below h) rfl; (focus (intro w6 hR hD hP K hK; replace hK := Lib.hid hK; skip; clear hR hD hP; go_simp; exact hK.out _ (Below.refl _ _))); simp only [Act.put, List.setIfInBounds_toArray, List.set_cons_zero, List.set_cons_succ, Nat.reduceAdd, List.cons_append, List.nil_append])
        (apply Pas.pas_x (fun _ _ h => GrewM.of_below h) rfl; (focus (intro w6 hR hD hP K hK; replace hK := Lib.hid hK; skip; clear hR hD hP; go_simp; exact hK.out _ (Below.refl _ _))); simp only [Act.put, List.setIfInBounds_toArray, List.set_cons_zero, List.set_cons_succ, Nat.reduceAdd, List.cons_append, List.nil_append])
        (apply Pas.pas_x (fun _ _ h => GrewM.of_below h) rfl; (focus (intro w6 hR hD hP K hK; replace hK := Lib.hid hK; skip; clear hR hD hP; go_simp; exact hK.out _ (Below.refl _ _))); simp only [Act.put, List.setIfInBounds_toArray, List.set_cons_zero, List.set_cons_succ, Nat.reduceAdd, List.cons_append, List.nil_append])
        (apply Pas.pas_x (fun _ _ h => GrewM.of_below h) rfl; (focus (intro w6 hR hD hP K hK; replace hK := Lib.hid hK; have hc := (HFA.out w6 hR).2.1; have e0 : w6.cell? ⟨g, k * 7, none⟩ = some (.int .i64 mk.kind) := hc 0 _ rfl; have e1 := hc 1 _ rfl; have e2 := hc 2 _ rfl; have e3 := hc 3 _ rfl; have e4 := hc 4 _ rfl; have e5 := hc 5 _ rfl; have e6 := hc 6 _ rfl; clear hc; clear hR hD hP; go_simp; exact hK.out _ (Below.refl _ _))); simp only [Act.put, List.setIfInBounds_toArray, List.set_cons_zero, List.set_cons_succ, Nat.reduceAdd, List.cons_append, List.nil_append])
        (apply Pas.pas_r (fun v w' => MsgAt 0 w' v mk) (fun _ _ h => GrewM.of_below h) rfl (fun v w1 w2 h k => h.still (Still.of_below k)); (focus (intro w6 hR hD hP K hK; replace hK := Lib.hid hK; have hmm := (HFA.out w6 hR).2.2; clear hR hD hP; go_simp; refine (copied_any 0 w6 _ mk hmm HF.out).mono ?_; rintro r w7 ⟨v', rfl, hv, hb⟩; exact hK.out _ _ hb (hv.base (Nat.zero_le _)))); simp only [Act.put, List.setIfInBounds_toArray, List.set_cons_zero, List.set_cons_succ, Nat.reduceAdd, List.cons_append, List.nil_append])
        (apply Pas.pas_r (fun v w' => ∃ g1 cs, v = .slice (some ⟨g1, 0, none⟩) 1 1 ∧ Value.ownBlock (.slice sa L.length sc) ≠ some g1 ∧ w'.heap[g1]? = some (.cells (List.toArray cs) 26 (0, 0)) ∧ cs.length = 7 ∧ MsgAt 0 w' (.agg cs.toArray) mk) (fun _ _ h => GrewM.of_below h) rfl (fun v w1 w2 h k => by obtain ⟨g1, cs, h1, h2, h3, h4, h5⟩ := h; exact ⟨g1, cs, h1, h2, block_below h3 k, h4, h5.still (Still.of_below k)⟩); (focus (intro w6 hR hD hP K hK; replace hK := Lib.hid hK; have hmm : MsgAt 0 w6 (vals 9) mk := hD 9 (by kernel_rfl); have HMM := Lib.hid hmm; obtain ⟨b1, d1, b2, d2, ev⟩ := msg_agg hmm; rw [ev] at HMM; simp only [ev] at hK ⊢; have hne : Value.ownBlock (.slice sa L.length sc) ≠ some w6.heap.size := (fun e => absurd (HRLT.out _ e) (by have := hR.1.size; have h2 : wr.drew.heap.size = wr.heap.size := rfl; omega)); have HNE := Lib.hid hne; clear hR hD hP hmm ev hne; go_simp; exact hK.out _ _ (below_alloc' (Below.refl _ _) _) ⟨_, [.int .i64 mk.kind, .int .i64 mk.src, .int .i64 mk.dst, .int .i64 mk.gang, .slice b1 mk.pods.length d1, .slice b2 mk.peers.length d2, .bool mk.yes], rfl, HNE.out, alloc_at _ _, rfl, HMM.out.still (Still.of_below (below_alloc' (Below.refl _ _) _))⟩)); simp only [Act.put, List.setIfInBounds_toArray, List.set_cons_zero, List.set_cons_succ, Nat.reduceAdd, List.cons_append, List.nil_append])
        (apply Pas.pas_s (GrewM (Value.ownBlock (.slice sa L.length sc))) (fun v w' => ∃ cs : List Value, cs.length = 7 ∧ MsgAt 0 w' (.agg cs.toArray) mk ∧ w'.ownsRow B 26 7 v (L.length + 1) (flat L.length cc ++ cs) ∧ (v.ownBlock = Value.ownBlock (.slice sa L.length sc) ∨ ∀ g', v.ownBlock = some g' → wr.heap.size ≤ g')) (fun _ _ h => h) rfl (fun _ w1 w2 h k => by obtain ⟨cs, h1, h2, h3, h4⟩ := h; exact ⟨cs, h1, h2.still (Still.of_below k), own_below h3 k, h4⟩); (focus (intro w6 hR hD hP K hK; replace hK := Lib.hid hK; obtain ⟨g1, cs, eg, _, hg, h7, hm⟩ : ∃ g1 cs, vals 10 = .slice (some ⟨g1, 0, none⟩) 1 1 ∧ Value.ownBlock (.slice sa L.length sc) ≠ some g1 ∧ w6.heap[g1]? = some (.cells (List.toArray cs) 26 (0, 0)) ∧ cs.length = 7 ∧ MsgAt 0 w6 (.agg cs.toArray) mk := hD 10 (by kernel_rfl); simp only [eg] at hK ⊢; have hown := hP _ (List.mem_cons_self ..) (.inl rfl); have hBs : B ≤ w6.heap.size := Nat.le_trans (Nat.le_trans hB HB.out.size) hR.1.size; have hsz : wr.heap.size ≤ w6.heap.size := hR.1.size; obtain ⟨b1, d1, b2, d2, ev⟩ := msg_agg hm; have ec : cs = [.int .i64 mk.kind, .int .i64 mk.src, .int .i64 mk.dst, .int .i64 mk.gang, .slice b1 mk.pods.length d1, .slice b2 mk.peers.length d2, .bool mk.yes] := (by have := congrArg (fun v : Value => match v with | .agg cs => cs.toList | _ => []) ev; simpa using this); exact wp_app_full elt_msgs (.tmp 23) (.tmp 29) rfl (ad := ⟨g1, 0, none⟩) (c := 1) (m := 1) (news := cs) rfl rfl hown (by rw [h7]) (by have := news_row hg; simpa using this) (by rw [ec]; simp [Value.oneCell']) (by omega) hBs fun v' w7 h1 h2 h3 h4 => hK.out _ _ ⟨h3, h2.still⟩ ⟨cs, h7, hm.still (still_sub h2.still fun e he => by rcases he with rfl | rfl | rfl <;> decide), h1, h4.imp id fun h g' hg' => Nat.le_trans hsz (h g' hg')⟩)); simp only [Act.put, List.setIfInBounds_toArray, List.set_cons_zero, List.set_cons_succ, Nat.reduceAdd, List.cons_append, List.nil_append])
        (apply Pas.pas_x (fun _ _ h => GrewM.of_below h) rfl; (focus (intro w6 hR hD hP K hK; replace hK := Lib.hid hK; skip; clear hR hD hP; go_simp; exact hK.out _ (Below.refl _ _))); simp only [Act.put, List.setIfInBounds_toArray, List.set_cons_zero, List.set_cons_succ, Nat.reduceAdd, List.cons_append, List.nil_append])
        (apply Pas.pas_x (fun _ _ h => GrewM.of_below h) rfl; (focus (intro w6 hR hD hP K hK; replace hK := Lib.hid hK; skip; clear hR hD hP; go_simp; exact hK.out _ (Below.refl _ _))); simp only [Act.put, List.setIfInBounds_toArray, List.set_cons_zero, List.set_cons_succ, Nat.reduceAdd, List.cons_append, List.nil_append])
        refine Pas.pas_ends ?_ ?_ fun w6 hR hp => ?_
        · simp only [Pas.AllK, List.append_assoc, List.nil_append, List.cons_append, true_and, and_true, true_or, or_true, Nat.reduceAdd]
          refine ⟨.inr fun v w1 w2 h k q => q.still k.parts, .inr fun v w1 w2 h k q => ?_⟩
          obtain ⟨g1, cs, q1, q2, q3, q4, q5⟩ := q
          exact ⟨g1, cs, q1, q2, (k.1.block g1 (Array.getElem?_eq_some_iff.1 q3).1 (fun e => q2 e.symm)).trans q3, q4, q5.still k.parts⟩
        · simp [Pas.AllK]
        obtain ⟨cs, hcs7, hcsm, ho11, hnew⟩ : ∃ cs : List Value, cs.length = 7 ∧ MsgAt 0 w6 (.agg cs.toArray) mk ∧ w6.ownsRow B 26 7 (vals 11) (L.length + 1) (flat L.length cc ++ cs) ∧ ((vals 11).ownBlock = Value.ownBlock (.slice sa L.length sc) ∨ ∀ g', (vals 11).ownBlock = some g' → wr.heap.size ≤ g') := hp 11 (by simp)
        clear hp
        obtain ⟨ta, tc, ev⟩ := own_slicen ho11
        rw [ev] at ho11 hnew
        simp only [ev]
        have hbl6 := hR.2 _ _ _ (by decide) HBLK.out
        have cb := cell_of_block hbl6 0 _ rfl
        have frb := free_of_block hbl6 0
        have HR := Lib.hid hR
        have HO11 := Lib.hid ho11
        have HCSM := Lib.hid hcsm
        have HNEW := Lib.hid hnew
        have HBL6 := Lib.hid hbl6
        clear ev ho11 hcsm hnew hR hbl6
        go_wp2
        have hbut := But.set w6 b 0 (.slice ta (L.length + 1) tc)
        have hst := hbut.still HBL6.out (T := fun e => e ≠ 38) (by simp)
        have b7 : (w6.setCell ⟨b, 0, none⟩ (.slice ta (L.length + 1) tc)).heap[b]? = some (.cells #[.slice ta (L.length + 1) tc] 38 (0, 0)) := heap_setCell_same _ _ _ _ _ _ HBL6.out
        generalize World.setCell _ _ _ = w7 at hbut hst b7 ⊢
        have HST := Lib.hid hst
        have HBUT := Lib.hid hbut
        have B7 := Lib.hid b7
        clear hst hbut b7 cb frb
        go_roundw
        case rel =>
          have e1 : ms ++ l.take (k + 1) = L ++ [mk] := by
            rw [← HLL.out, List.append_assoc, ← HMK.out, List.take_add_one, List.getD_eq_getElem?_getD, List.getElem?_eq_getElem hkl]
            rfl
          have hpar : Still Parts wr w7 := HR.out.parts.trans (still_sub HST.out fun e he => by rcases he with rfl | rfl | rfl <;> decide)
          refine ⟨k + 1, by go_num, by omega, by have := HLEN.out; omega, ?_, ?_, ?_, ?_⟩
          · rw [e1]
            refine ⟨b, _, rfl, hbB, B7.out, ?_, ?_⟩
            · exact (MsgRow.snoc (w := w6) (fun i hi => ⟨(HCC.out i hi).1, (HCC.out i hi).2.1.still HR.out.parts, (HCC.out i hi).2.2⟩) hcs7 HCSM.out HF.out HO11.out (fun _ _ _ _ h => h)).still (still_sub HST.out fun e he => by rcases he with rfl | rfl | rfl | rfl <;> decide)
            · rcases HNEW.out with h | h
              · rw [h]; exact HSEP.out
              · refine .inr fun e => ?_
                have := h g e
                omega
          · obtain ⟨dd, hd1, hd2⟩ := HL.out
            refine ⟨dd, own_still ((own_drew hd1).kept HR.out.1 (.inr fun e => HROW.out e.symm)) HST.out (by decide), fun i hi => ⟨(hd2 i hi).1, (hd2 i hi).2.1.still hpar, (hd2 i hi).2.2⟩⟩
          · refine Below.but ?_ HBUT.out hbB ?_
            · exact (HB.out.drew.grown HR.out.1 (Nat.le_trans hB HB.out.size) (fun g' hg' => (HOWN.out.lt g' hg').1))
            · exact Nat.le_trans (Nat.le_trans hB HB.out.size) HR.out.1.size
          · exact HS.out.trans ((still_sub HR.out.2 fun e he => he.2).trans (still_sub HST.out fun e he => he.1))
        case measure => simp [intOf]; omega
      · have h200' : ¬ (L.length : Int) < 200 := by omega
        go_wp2
        refine bodyPost_end (v := .tuple #[]) (by simp [results, Tryd.results23, go_sem]) rfl ⟨rfl, ?_, HB.out, HS.out⟩
        have e1 : sent ms l = ms ++ l.take k := by
          have := HLEN.out
          rw [sent_eq l ms hms, List.take_append, List.take_of_length_le (by omega), show 200 - ms.length = k by omega]
        rw [e1]
        exact HREF.out.at_
    · obtain rfl : k = l.length := by omega
      go_wp2
      refine bodyPost_end (v := .tuple #[]) (by simp [results, Tryd.results23, go_sem]) rfl ⟨rfl, ?_, HB.out, HS.out⟩
      have e1 : sent ms l = ms ++ l.take l.length := by
        rw [sent_eq l ms hms, List.take_length, List.take_of_length_le (by rw [List.length_append]; omega)]
      rw [e1]
      exact HREF.out.at_
end Go.Proofs.YtpkkjonajimefaaDoor
