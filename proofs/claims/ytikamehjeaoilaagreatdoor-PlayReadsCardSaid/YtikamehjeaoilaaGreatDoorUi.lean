/- The reference's kinds, rows of pods. -/
import Derived.Test.YtikamehjeaoilaaGreatDoorUf
import Derived.Test.YtikamehjeaoilaaGreatDoorKg
set_option linter.unusedVariables false
set_option linter.unusedSimpArgs false
namespace Go.Proofs.YtikamehjeaoilaaGreatDoor
open Go.RowKit

theorem str_beq (a b : List UInt8) : ((str a).toList == (str b).toList) = decide (a = b) := by
  rw [str_toList, str_toList]
  by_cases h : a = b <;> simp [h]
set_option maxHeartbeats 4000000 in
set_option maxRecDepth 100000 in
theorem rkind_any (x : List UInt8) (w : World) : Calls Tryz.prog 46 #[.string (str x)] w fun e w' => e = .returned (.int .i64 (kindOf x : Nat)) ∧ Below w.heap.size w w' := by
  obtain ⟨zx, hzx⟩ : ∃ z, str x = z := ⟨_, rfl⟩
  rw [hzx]
  have HZX := Lib.hid hzx
  clear hzx
  go_enter Tryz.func46, Tryz.ntmps46
  go_wp2
  go_loopw [3] (fun i wr => ∃ k : Nat, i = .int .i64 k ∧ 1 ≤ k ∧ k ≤ 12 ∧ (∀ j, 1 ≤ j → j < k → verb j ≠ x) ∧ Below w.heap.size w wr) (fun i _ => 12 - (intOf i).toNat)
  case atStart => exact ⟨1, rfl, Nat.le_refl _, by omega, (fun j h1 h2 => by omega), Below.refl _ _⟩
  case round =>
    obtain ⟨k, rfl, hk1, hk2, hno, hb⟩ := hrel
    have HNO := Lib.hid hno
    have HB := Lib.hid hb
    clear hno hb
    have hkw : IntKind.i64.wrap ((k : Int) + 1) = ((k + 1 : Nat) : Int) := by rw [IntWalk.i64_in _ (by omega)]; omega
    by_cases hlt : k ≤ 11
    · have k0 : (k : Int) ≤ 11 := by omega
      go_wp2_with fail
      refine (rverb_any k hk1 hlt wr).mono ?_
      rintro e w1 ⟨rfl, hb1⟩
      have HB1 := Lib.hid (below_call HB.out hb1)
      clear hb1
      have hbq := str_beq (verb k) x
      rw [HZX.out] at hbq
      obtain ⟨zv, hzv⟩ : ∃ z, str (verb k) = z := ⟨_, rfl⟩
      rw [hzv] at hbq ⊢
      clear hzv
      by_cases he : verb k = x
      · rw [decide_eq_true he] at hbq
        have hkd : kindOf x = k := by rw [← he]; exact kindOf_verb hk1 hlt
        have HKD := Lib.hid hkd
        clear he hkd
        go_wp2
        go_ret
        exact ⟨ret_int (by rw [HKD.out]), HB1.out⟩
      · rw [decide_eq_false he] at hbq
        have HE := Lib.hid he
        clear he
        go_wp2
        go_roundw
        case rel =>
          refine ⟨k + 1, by go_num, by omega, by omega, fun j h1 h2 => ?_, HB1.out⟩
          by_cases e : j = k
          · subst e; exact HE.out
          · exact HNO.out j h1 (by omega)
        case measure => simp [intOf]; omega
    · have k0 : ¬ (k : Int) ≤ 11 := by omega
      have hkd : kindOf x = 0 := by
        by_cases h : kindOf x = 0
        · exact h
        · have := kindOf_inv h
          exact absurd this.2.2 (HNO.out _ this.1 (by omega))
      have HKD := Lib.hid hkd
      clear hkd
      go_wp2
      go_ret
      exact ⟨ret_int (by rw [HKD.out]; rfl), HB.out⟩
theorem mapM_all {α β : Type} {f : α → Option β} : ∀ {l : List α} {r : List β}, l.length = r.length → (∀ i (h : i < l.length) (h' : i < r.length), f l[i] = some r[i]) → l.mapM f = some r
  | [], [], _, _ => by simp
  | a :: l, b :: r, hl, h => by
    have h0 := h 0 (by simp) (by simp)
    have ih := mapM_all (f := f) (l := l) (r := r) (by simpa using hl) fun i hi hi' => by
      have := h (i + 1) (by simpa using hi) (by simpa using hi')
      simpa using this
    simp only [List.getElem_cons_zero] at h0
    simp [List.mapM_cons, h0, ih]
theorem mapM_no {α β : Type} {f : α → Option β} {l : List α} {i : Nat} (hi : i < l.length) (h : f l[i] = none) : l.mapM f = none := by
  cases e : l.mapM f with
  | none => rfl
  | some r =>
    have := mapM_some e
    have := this.2 i hi (by omega)
    rw [h] at this
    cases this
end Go.Proofs.YtikamehjeaoilaaGreatDoor
/-! The reference's rows of pods. -/
set_option linter.unusedVariables false
set_option linter.unusedSimpArgs false
namespace Go.Proofs.YtikamehjeaoilaaGreatDoor
open Go.RowKit

theorem podW_is (s : List UInt8) (x : PodL) (h : ∀ m, pPod s = some m → x = m) : podW s = if ((pPod s).isSome && (nameB x.name && (setB x.picks && setB x.bears))) = true then some x else none := by
  unfold podW
  cases hp : pPod s with
  | none => rfl
  | some m =>
    have := h m hp
    subst this
    simp
set_option maxHeartbeats 16000000 in
set_option maxRecDepth 1000000 in
theorem rpods_any (v : Value) (ws : List (List UInt8)) (w : World) (hr : Rows w v ws) (hf : few ws) :
    Calls Tryz.prog 48 #[v] w fun e w' => ∃ v', e = .returned (.tuple #[v', .bool (ws.mapM podW).isSome]) ∧ (∀ ps, ws.mapM podW = some ps → PodsT w.heap.size w' v' ps) ∧ (ws.mapM podW = none → v' = .slice none 0 0) ∧ Below w.heap.size w w' := by
  obtain ⟨a, c, rfl, hwl, hcs⟩ := hr
  have HCS := Lib.hid hcs
  have HF := Lib.hid hf
  obtain ⟨n, hn⟩ : ∃ n, ws.length = n := ⟨_, rfl⟩
  rw [hn] at hwl ⊢
  have HN := Lib.hid hn
  clear hcs hf hn
  go_enter Tryz.func48, Tryz.ntmps48
  go_wp2
  go_loopw [4, 5] (fun v i wr => ∃ (k : Nat) (acc : List PodL), i = .int .i64 k ∧ k ≤ n ∧ acc.length = k ∧ (∀ i (h : i < ws.length) (h' : i < acc.length), podW ws[i] = some acc[i]) ∧ PodsT w.heap.size wr v acc ∧ Below w.heap.size w wr) (fun _ i _ => n - (intOf i).toNat)
  case atStart => exact ⟨0, [], rfl, Nat.zero_le _, rfl, (fun i h h' => absurd h' (by simp)), PodsT.nil _ _, Below.refl _ _⟩
  case round =>
    obtain ⟨k, acc, rfl, hk, hal, hacc, hpods, hb⟩ := hrel
    have HAC := Lib.hid hacc
    have HP := Lib.hid hpods
    have HB := Lib.hid hb
    have HAL := Lib.hid hal
    clear hacc hpods hb hal
    by_cases hlt : k < n
    · have hlt' : (k : Int) < (n : Int) := by omega
      have hkw : IntKind.i64.wrap ((k : Int) + 1) = ((k + 1 : Nat) : Int) := by rw [IntWalk.i64_in _ (by omega)]; omega
      have hkws : k < ws.length := by rw [HN.out]; exact hlt
      obtain ⟨bb, off, rfl, hc⟩ := HCS.out k hkws
      have hcx := cell_below hc HB.out
      obtain ⟨t, ht⟩ : ∃ t, ws[k] = t := ⟨_, rfl⟩
      have htl : t.length ≤ 4294967280 := by rw [← ht]; exact HF.out.2 _ (List.getElem_mem hkws)
      rw [ht] at hcx
      have HT := Lib.hid ht
      have HTL := Lib.hid htl
      have HKW := Lib.hid hkws
      have HLT := Lib.hid hlt
      clear ht htl hc hlt
      go_wp2_with fail
      refine (rdpod_any t HTL.out wr).mono ?_
      rintro e w2 ⟨x, u, y, rfl, hu, hy, hbd, hxn, ⟨hul, hux⟩, ⟨hyl, hyx⟩, hpp, hb2⟩
      have HPW := Lib.hid (podW_is t x hpp)
      have hfu : few x.picks := ⟨by have := HTL.out; omega, fun z hz => by have := hux z hz; have := HTL.out; omega⟩
      have hfy : few x.bears := ⟨by have := HTL.out; omega, fun z hz => by have := hyx z hz; have := HTL.out; omega⟩
      have HU := Lib.hid hu
      have HY := Lib.hid hy
      have HFU := Lib.hid hfu
      have HFY := Lib.hid hfy
      have hnm : (str x.name).size ≤ maxLen := by rw [str_size]; have := HTL.out; unfold maxLen; omega
      obtain ⟨sx, hsx⟩ : ∃ q, setB x.picks = q := ⟨_, rfl⟩
      obtain ⟨sy, hsy⟩ : ∃ q, setB x.bears = q := ⟨_, rfl⟩
      obtain ⟨nx, hnx⟩ : ∃ q, nameB x.name = q := ⟨_, rfl⟩
      obtain ⟨ok, hok⟩ : ∃ q, (pPod t).isSome = q := ⟨_, rfl⟩
      have HSX := Lib.hid hsx
      have HSY := Lib.hid hsy
      have HNX : Hid (nameS (str x.name) = nx) := Lib.hid hnx
      have HNM := Lib.hid hnm
      have HPW2 : Hid (podW t = if (ok && (nx && (sx && sy))) = true then some x else none) := Lib.hid (by rw [HPW.out, hok, hnx, hsx, hsy])
      rw [hok]
      clear hsx hsy hnx hok hpp hux hyx hbd hxn hul hyl hnm hfu hfy
      have HB2 := Lib.hid (below_call HB.out hb2)
      have HP2 := Lib.hid (HP.out.below hb2)
      obtain ⟨au, lu, cu, rfl⟩ := own_slice hu
      obtain ⟨ay, ly, cy, rfl⟩ := own_slice hy
      have HBS := Lib.hid hb2.size
      have HWS := Lib.hid HB.out.size
      clear hu hy hb2
      obtain ⟨zn, hzn⟩ : ∃ q, str x.name = q := ⟨_, rfl⟩
      obtain ⟨n1, hn1⟩ : ∃ q, x.shard = q := ⟨_, rfl⟩
      obtain ⟨n2, hn2⟩ : ∃ q, x.cpu = q := ⟨_, rfl⟩
      obtain ⟨n3, hn3⟩ : ∃ q, x.mem = q := ⟨_, rfl⟩
      obtain ⟨fl, hfl⟩ : ∃ q, x.alone = q := ⟨_, rfl⟩
      have HX1 := Lib.hid (And.intro hzn (And.intro hn1 (And.intro hn2 (And.intro hn3 hfl))))
      rw [hzn] at HNX HNM
      rw [hzn, hn1, hn2, hn3, hfl]
      clear hzn hn1 hn2 hn3 hfl
      have hz3 : (w2.alloc (.cells #[.string zn, .int .i64 n1, .int .i64 n2, .int .i64 n3, .slice au lu cu, .slice ay ly cy, .bool fl] 54)).heap[w2.heap.size]? = some (.cells #[.string zn, .int .i64 n1, .int .i64 n2, .int .i64 n3, .slice au lu cu, .slice ay ly cy, .bool fl] 54 (0, 0)) := alloc_at _ _
      have hb3 : Below w2.heap.size w2 (w2.alloc (.cells #[.string zn, .int .i64 n1, .int .i64 n2, .int .i64 n3, .slice au lu cu, .slice ay ly cy, .bool fl] 54)) := below_alloc' (Below.refl _ _) _
      have q0 := cell_of_block hz3 0 _ rfl
      cases ok
      · have HB3 := Lib.hid (below_call HB2.out hb3)
        clear hz3 hb3 q0
        have hno : ws.mapM podW = none := mapM_no hkws (by rw [HT.out, HPW2.out]; rfl)
        have HNO := Lib.hid hno
        clear hno
        go_wp2
        go_ret2
        exact ⟨_, by rw [HNO.out]; rfl, (fun ps h => by rw [HNO.out] at h; cases h), fun _ => rfl, HB3.out⟩
      · cases nx
        · have HB3 := Lib.hid (below_call HB2.out hb3)
          clear hz3 hb3
          go_wp2_with fail
          refine (rname_is HNM.out HNX.out _).mono ?_
          rintro e w4 ⟨rfl, hb4⟩
          have HB4 := Lib.hid (below_call HB3.out hb4)
          clear hb4 q0
          have hno : ws.mapM podW = none := mapM_no hkws (by rw [HT.out, HPW2.out]; rfl)
          have HNO := Lib.hid hno
          clear hno
          go_wp2
          go_ret2
          exact ⟨_, by rw [HNO.out]; rfl, (fun ps h => by rw [HNO.out] at h; cases h), fun _ => rfl, HB4.out⟩
        · go_wp2_with fail
          generalize World.alloc w2 _ = w3 at hz3 hb3 q0 ⊢
          refine (rname_is HNM.out HNX.out w3).mono ?_
          rintro e w4 ⟨rfl, hb4⟩
          have hz4 := block_below hz3 hb4
          have q3 := cell_of_block hz4 4 _ rfl
          have HZ4 := Lib.hid hz4
          have HB4 := Lib.hid (below_call (below_call HB2.out hb3) hb4)
          have HC4 := Lib.hid (below_call hb3 hb4)
          have htu : Texts w4 (.slice au lu cu) (x.picks.map str) := Texts.of_strs (own_below HU.out HC4.out) HFU.out
          have hty : Texts w4 (.slice ay ly cy) (x.bears.map str) := Texts.of_strs (own_below HY.out HC4.out) HFY.out
          have HTY := Lib.hid hty
          have hsu := rset_any _ _ w4 htu
          rw [setS_B, HSX.out] at hsu
          have HSU := Lib.hid hsu
          clear hz3 hb3 q0 hb4 hz4 htu hty hsu
          cases sx
          · go_wp2_with fail
            refine HSU.out.mono ?_
            rintro e w5 ⟨rfl, hb5⟩
            have HB5 := Lib.hid (below_call HB4.out hb5)
            clear hb5 q3
            have hno : ws.mapM podW = none := mapM_no hkws (by rw [HT.out, HPW2.out]; rfl)
            have HNO := Lib.hid hno
            clear hno
            go_wp2
            go_ret2
            exact ⟨_, by rw [HNO.out]; rfl, (fun ps h => by rw [HNO.out] at h; cases h), fun _ => rfl, HB5.out⟩
          · go_wp2_with fail
            refine HSU.out.mono ?_
            rintro e w5 ⟨rfl, hb5⟩
            have hz5 := block_below HZ4.out hb5
            have q4 := cell_of_block hz5 5 _ rfl
            have HZ5 := Lib.hid hz5
            have HB5 := Lib.hid (below_call HB4.out hb5)
            have HC5 := Lib.hid (below_call HC4.out hb5)
            have hsy := rset_any _ _ w5 (HTY.out.below hb5)
            rw [setS_B, HSY.out] at hsy
            have HSV := Lib.hid hsy
            clear hb5 q3 hz5 hsy
            cases sy
            · go_wp2_with fail
              refine HSV.out.mono ?_
              rintro e w6 ⟨rfl, hb6⟩
              have HB6 := Lib.hid (below_call HB5.out hb6)
              clear hb6 q4
              have hno : ws.mapM podW = none := mapM_no hkws (by rw [HT.out, HPW2.out]; rfl)
              have HNO := Lib.hid hno
              clear hno
              go_wp2
              go_ret2
              exact ⟨_, by rw [HNO.out]; rfl, (fun ps h => by rw [HNO.out] at h; cases h), fun _ => rfl, HB6.out⟩
            · go_wp2_with fail
              refine HSV.out.mono ?_
              rintro e w6 ⟨rfl, hb6⟩
              have hz6 := block_below HZ5.out hb6
              have p0 := cell_of_block hz6 0 _ rfl
              have p1 := cell_of_block hz6 1 _ rfl
              have p2 := cell_of_block hz6 2 _ rfl
              have p3 := cell_of_block hz6 3 _ rfl
              have p4 := cell_of_block hz6 4 _ rfl
              have p5 := cell_of_block hz6 5 _ rfl
              have p6 := cell_of_block hz6 6 _ rfl
              have HB6 := Lib.hid (below_call HB5.out hb6)
              have HC6 := Lib.hid (below_call HC5.out hb6)
              have hp6 := HP2.out.below HC6.out
              have hpt : PodT w.heap.size w6 [.string zn, .int .i64 n1, .int .i64 n2, .int .i64 n3, .slice au lu cu, .slice ay ly cy, .bool fl] x := by
                obtain ⟨x1, x2, x3, x4, x5⟩ := HX1.out
                refine ⟨.slice au lu cu, .slice ay ly cy, by rw [x1, x2, x3, x4, x5], ?_, ?_⟩
                · exact (Tx.of_strs (own_below HU.out HC6.out) HFU.out).base (by have := HBS.out; have := HWS.out; omega)
                · exact (Tx.of_strs (own_below HY.out HC6.out) HFY.out).base (by have := HBS.out; have := HWS.out; omega)
              obtain ⟨cc, hrow, hel⟩ := hp6
              have HROW := Lib.hid hrow
              have HEL := Lib.hid hel
              have HPT := Lib.hid hpt
              have HA2 := Lib.hid (show acc.length ≤ 4294967296 by have := HAL.out; omega)
              clear hb6 q4 hz6 hrow hel hpt
              go_wp2_with (at_builtin; refine list_appends elt_pods _ _ rfl rfl rfl rfl (World.ownsRow.alloc HROW.out _) (show (([.string zn, .int .i64 n1, .int .i64 n2, .int .i64 n3, .slice au lu cu, .slice ay ly cy, .bool fl] : List Value)).length = 1 * 7 from rfl) (World.news_of_block (alloc_at _ _)) (by simp [Value.oneCell']) (by have := HA2.out; omega) (by have := HB6.out.size; simp; omega) ?_; intro v' w7 hown hgrow; have HO7 := Lib.hid hown; have HG7 := Lib.hid hgrow; clear hown hgrow)
              go_roundw
              case rel =>
                refine ⟨k + 1, acc ++ [x], by go_num, HLT.out, by rw [List.length_append, HAL.out]; rfl, fun i h h' => ?_, ?_, (HB6.out.alloc HB6.out.size _).grown HG7.out (by have := HB6.out.size; simp; omega) (fun k hk => (HROW.out.lt k hk).1)⟩
                · by_cases e : i = k
                  · subst e
                    rw [HT.out, HPW2.out]
                    simp [HAL.out]
                  · rw [List.getElem_append_left (by have := HAL.out; simp at h'; omega)]
                    exact HAC.out i h _
                · exact PodsT.snoc (World.ownsRow.alloc HROW.out _) (fun q hq => (HEL.out q hq).below (below_alloc' (Below.refl _ _) _)) (HPT.out.below (below_alloc' (Below.refl _ _) _)) HO7.out HG7.out
              case measure => have := HLT.out; simp [intOf]; omega
    · have hke : k = n := by omega
      have hall : ws.mapM podW = some acc := mapM_all (by rw [HAL.out, HN.out, hke]) HAC.out
      have HALL := Lib.hid hall
      clear hall hke
      go_wp2
      go_ret2
      exact ⟨_, by rw [HALL.out]; rfl, (fun ps h => by rw [HALL.out] at h; cases h; exact HP.out), (fun h => by rw [HALL.out] at h; cases h), HB.out⟩
end Go.Proofs.YtikamehjeaoilaaGreatDoor
/-! The reference reads a line's words as an event (printed by gen_ui.py). -/
set_option linter.unusedVariables false
set_option linter.unusedSimpArgs false
namespace Go.Proofs.YtikamehjeaoilaaGreatDoor
open Go.RowKit

/-- The rows of an event. -/
def Ev3 (base : Nat) (w : World) (vp u x : Value) (ps : List PodL) (ms ts : List (List UInt8)) : Prop := PodsT base w vp ps ∧ Strs base w u (ms.map str) ∧ Strs base w x (ts.map str)
theorem Ev3.below {base : Nat} {w w' : World} {vp u x : Value} {ps : List PodL} {ms ts : List (List UInt8)} (h : Ev3 base w vp u x ps ms ts) (k : Below w.heap.size w w') : Ev3 base w' vp u x ps ms ts := ⟨h.1.below k, own_below h.2.1 k, own_below h.2.2 k⟩
theorem podsT_gbx {base t : Nat} {w w' : World} {v : Value} {l : List PodL} {cs : Array Value} {T : TypeId} (h : PodsT base w v l) (ht : w.heap[t]? = some (.cells cs T (0, 0))) (h1 : 54 ≠ T) (h2 : 9 ≠ T) (k : Gb t w w') : PodsT base w' v l := by
  obtain ⟨c, p1, p2⟩ := h
  refine ⟨c, own_gbx p1 ht h1 k, fun i hi => (p2 i hi).kept fun b ds hb => Gb.block' k hb fun eg => ?_⟩
  subst eg
  rw [ht] at hb
  injection hb with hb
  injection hb with _ hb
  exact absurd hb.symm h2
theorem Ev3.gbx {base t : Nat} {w w' : World} {vp u x : Value} {ps : List PodL} {ms ts : List (List UInt8)} {cs : Array Value} {T : TypeId} (h : Ev3 base w vp u x ps ms ts) (ht : w.heap[t]? = some (.cells cs T (0, 0))) (h1 : 54 ≠ T) (h2 : 9 ≠ T) (k : Gb t w w') : Ev3 base w' vp u x ps ms ts :=
  ⟨podsT_gbx h.1 ht h1 h2 k, own_gbx h.2.1 ht h2 k, own_gbx h.2.2 ht h2 k⟩
theorem ev3_nil (base : Nat) (w : World) : Ev3 base w (.slice none 0 0) (.slice none 0 0) (.slice none 0 0) [] [] [] := ⟨PodsT.nil _ _, World.ownsRow_nil _ _ _ _, World.ownsRow_nil _ _ _ _⟩
theorem evOf_k (t0 t1 : List UInt8) (r : List (List UInt8)) : evOf (t0 :: t1 :: r) = evArgs (kindOf t0) (t1 :: r) := rfl
theorem ev_zero {t0 t1 : List UInt8} {r : List (List UInt8)} (h : kindOf t0 = 0) : evOf (t0 :: t1 :: r) = none := by rw [evOf_k, h]; rfl
theorem num_opt {t : List UInt8} {n : Nat} {b : Bool} (h : (numW 999999 t).isSome = b) (k : ∀ m, numW 999999 t = some m → n = m) : numW 999999 t = if b = true then some n else none := by
  cases hn : numW 999999 t with
  | none => rw [hn] at h; subst h; rfl
  | some m => rw [hn] at h; subst h; rw [k m hn]; rfl
theorem ev_one {t0 t1 : List UInt8} {r : List (List UInt8)} {n : Nat} {b : Bool} (h : kindOf t0 = 1) (hn : numW 999999 t1 = if b = true then some n else none) : evOf (t0 :: t1 :: r) = if b = true then (r.mapM podW).map fun ps => ⟨1, 0, 0, n, ps, noNode⟩ else none := by
  rw [evOf_k, h]
  unfold evArgs
  simp only [Nat.reduceEqDiff, if_false, if_true, hn]
  cases b <;> simp
theorem ev_three {t0 t1 t2 : List UInt8} {n : Nat} {b : Bool} {k : Nat} (h : kindOf t0 = k) (hk : k = 4 ∨ k = 5 ∨ k = 10) (hn : numW 999999 t1 = if b = true then some n else none) :
    evOf [t0, t1, t2] = if b = true then (if k = 4 then (nodeW t2).map fun d => ⟨4, n, 0, 0, [], d⟩ else if k = 5 then (if nameB t2 = true then some ⟨5, n, 0, 0, [], ⟨t2, 0, 0, [], [], false⟩⟩ else none) else (numW 999999 t2).map fun m => ⟨10, n, m, 0, [], noNode⟩) else none := by
  rw [evOf_k, h]
  unfold evArgs
  rcases hk with rfl | rfl | rfl <;> simp only [Nat.reduceEqDiff, if_false, if_true, hn] <;> cases b <;> simp
theorem ev_not3 {t0 t1 : List UInt8} {r : List (List UInt8)} {k : Nat} (h : kindOf t0 = k) (hk : k = 4 ∨ k = 5 ∨ k = 10) (hr : r.length ≠ 1) : evOf (t0 :: t1 :: r) = none := by
  rw [evOf_k, h]
  unfold evArgs
  match r, hr with
  | [], _ => rcases hk with rfl | rfl | rfl <;> simp
  | [_], hr => exact absurd rfl hr
  | _ :: _ :: _, _ => rcases hk with rfl | rfl | rfl <;> simp
theorem ev_two {t0 t1 : List UInt8} {r : List (List UInt8)} {n : Nat} {b : Bool} {k : Nat} (h : kindOf t0 = k) (h0 : k ≠ 0) (h1 : k ≠ 1) (h4 : k ≠ 4) (h5 : k ≠ 5) (h10 : k ≠ 10) (hn : numW 999999 t1 = if b = true then some n else none) :
    evOf (t0 :: t1 :: r) = if (b && decide (r.length = 0)) = true then some ⟨k, n, 0, 0, [], noNode⟩ else none := by
  rw [evOf_k, h]
  unfold evArgs
  rw [if_neg h0, if_neg h1, if_neg h4, if_neg h5, if_neg h10]
  match r with
  | [] => simp only [hn]; cases b <;> simp
  | _ :: _ => simp
theorem nodeW_is (s : List UInt8) (x : NodeL) (h : ∀ m, pNode 999999999999999 s = some m → x = m) : nodeW s = if ((pNode 999999999999999 s).isSome && (nameB x.name && (setB x.marks && (setB x.taints && (decide (x.cpu ≤ 1099511627776) && decide (x.mem ≤ 1099511627776)))))) = true then some x else none := by
  unfold nodeW
  cases hp : pNode 999999999999999 s with
  | none => rfl
  | some m =>
    have := h m hp
    subst this
    simp only [Option.bind_some, Option.isSome_some, Bool.true_and, NodeL.goodB]
    congr 1
    cases nameB x.name <;> cases setB x.marks <;> cases setB x.taints <;> simp
/-- A row of texts whose room holds it. -/
def RowsC (w : World) (v : Value) (ls : List (List UInt8)) : Prop := ∃ a c, v = .slice a ls.length c ∧ ls.length ≤ 4294967281 ∧ ls.length ≤ c ∧ ∀ i (h : i < ls.length), ∃ b off, a = some ⟨b, off, none⟩ ∧ w.cell? ⟨b, off + i, none⟩ = some (.string (str ls[i]))
def RreadPost (ws : List (List UInt8)) (w : World) (e : Ending) (w' : World) : Prop :=
  ∃ (val : Value) (kd : Nat) (S : EvS), e = .returned (.tuple #[val, .bool (evOf ws).isSome]) ∧ EvR w.heap.size w' val kd S ∧ (∀ ev, evOf ws = some ev → ev.kind = kd ∧ S = ⟨ev.a, ev.b, ev.id, ev.pods, ev.node⟩) ∧ Below w.heap.size w w'
def zeroO : Obj := .cells #[.int .i64 0, .int .i64 0, .int .i64 0, .int .i64 0, .slice none 0 0, .string ⟨#[]⟩, .int .i64 0, .int .i64 0, .slice none 0 0, .slice none 0 0, .bool false] 34 (0, 0)
def evO (d0 d1 d2 d3 d4 d5 d6 d7 d8 d9 d10 : Value) : Obj := .cells #[d0, d1, d2, d3, d4, d5, d6, d7, d8, d9, d10] 34 (0, 0)
/-- The result's block, the event's, an event's rows, what stood. -/
structure Two (b : Nat) (w w' : World) (d0 d1 d2 d3 d4 d5 d6 d7 d8 d9 d10 vp u x : Value) (ps : List PodL) (ms ts : List (List UInt8)) : Prop where
  a : w'.heap[b]? = some zeroO
  q : w'.heap[b + 1]? = some (evO d0 d1 d2 d3 d4 d5 d6 d7 d8 d9 d10)
  bl : Below b w w'
  r : Ev3 b w' vp u x ps ms ts
section
variable {b : Nat} {w w' : World} {d0 d1 d2 d3 d4 d5 d6 d7 d8 d9 d10 vp u x : Value} {ps : List PodL} {ms ts : List (List UInt8)}
theorem Two.call (h : Two w.heap.size w w' d0 d1 d2 d3 d4 d5 d6 d7 d8 d9 d10 vp u x ps ms ts) {w2 : World} (k : Below w'.heap.size w' w2) : Two w.heap.size w w2 d0 d1 d2 d3 d4 d5 d6 d7 d8 d9 d10 vp u x ps ms ts :=
  ⟨block_below h.a k, block_below h.q k, below_call h.bl k, h.r.below k⟩
theorem Two.rows (h : Two b w w' d0 d1 d2 d3 d4 d5 d6 d7 d8 d9 d10 vp u x ps ms ts) {vp' u' x' : Value} {ps' : List PodL} {ms' ts' : List (List UInt8)} (r : Ev3 b w' vp' u' x' ps' ms' ts') : Two b w w' d0 d1 d2 d3 d4 d5 d6 d7 d8 d9 d10 vp' u' x' ps' ms' ts' := ⟨h.a, h.q, h.bl, r⟩
theorem two_new (w : World) : Two w.heap.size w ((w.alloc (.cells #[.int .i64 0, .int .i64 0, .int .i64 0, .int .i64 0, .slice none 0 0, .string ⟨#[]⟩, .int .i64 0, .int .i64 0, .slice none 0 0, .slice none 0 0, .bool false] 34)).alloc (.cells #[.int .i64 0, .int .i64 0, .int .i64 0, .int .i64 0, .slice none 0 0, .string ⟨#[]⟩, .int .i64 0, .int .i64 0, .slice none 0 0, .slice none 0 0, .bool false] 34)) (.int .i64 0) (.int .i64 0) (.int .i64 0) (.int .i64 0) (.slice none 0 0) (.string ⟨#[]⟩) (.int .i64 0) (.int .i64 0) (.slice none 0 0) (.slice none 0 0) (.bool false) (.slice none 0 0) (.slice none 0 0) (.slice none 0 0) [] [] [] :=
  ⟨block_below (alloc_at _ _) (below_alloc' (Below.refl _ _) _), alloc_second _ _ _, below_alloc' (below_alloc' (Below.refl _ _) _) _, ev3_nil _ _⟩
theorem Two.zf (h : Two b w w' d0 d1 d2 d3 d4 d5 d6 d7 d8 d9 d10 vp u x ps ms ts) : w'.cell? ⟨b, 0, none⟩ = some (.int .i64 0) ∧ w'.cell? ⟨b, 1, none⟩ = some (.int .i64 0) ∧ w'.cell? ⟨b, 2, none⟩ = some (.int .i64 0) ∧ w'.cell? ⟨b, 3, none⟩ = some (.int .i64 0) ∧ w'.cell? ⟨b, 4, none⟩ = some (.slice none 0 0) ∧ w'.cell? ⟨b, 5, none⟩ = some (.string ⟨#[]⟩) ∧ w'.cell? ⟨b, 6, none⟩ = some (.int .i64 0) ∧ w'.cell? ⟨b, 7, none⟩ = some (.int .i64 0) ∧ w'.cell? ⟨b, 8, none⟩ = some (.slice none 0 0) ∧ w'.cell? ⟨b, 9, none⟩ = some (.slice none 0 0) ∧ w'.cell? ⟨b, 10, none⟩ = some (.bool false) ∧ ∀ j, w'.frozen? ⟨b, j, none⟩ = false :=
  ⟨cell_of_block h.a 0 _ rfl, cell_of_block h.a 1 _ rfl, cell_of_block h.a 2 _ rfl, cell_of_block h.a 3 _ rfl, cell_of_block h.a 4 _ rfl, cell_of_block h.a 5 _ rfl, cell_of_block h.a 6 _ rfl, cell_of_block h.a 7 _ rfl, cell_of_block h.a 8 _ rfl, cell_of_block h.a 9 _ rfl, cell_of_block h.a 10 _ rfl, free_of_block h.a⟩
theorem Two.qf (h : Two b w w' d0 d1 d2 d3 d4 d5 d6 d7 d8 d9 d10 vp u x ps ms ts) : w'.cell? ⟨b + 1, 0, none⟩ = some d0 ∧ w'.cell? ⟨b + 1, 1, none⟩ = some d1 ∧ w'.cell? ⟨b + 1, 2, none⟩ = some d2 ∧ w'.cell? ⟨b + 1, 3, none⟩ = some d3 ∧ w'.cell? ⟨b + 1, 4, none⟩ = some d4 ∧ w'.cell? ⟨b + 1, 5, none⟩ = some d5 ∧ w'.cell? ⟨b + 1, 6, none⟩ = some d6 ∧ w'.cell? ⟨b + 1, 7, none⟩ = some d7 ∧ w'.cell? ⟨b + 1, 8, none⟩ = some d8 ∧ w'.cell? ⟨b + 1, 9, none⟩ = some d9 ∧ w'.cell? ⟨b + 1, 10, none⟩ = some d10 ∧ ∀ j, w'.frozen? ⟨b + 1, j, none⟩ = false :=
  ⟨cell_of_block h.q 0 _ rfl, cell_of_block h.q 1 _ rfl, cell_of_block h.q 2 _ rfl, cell_of_block h.q 3 _ rfl, cell_of_block h.q 4 _ rfl, cell_of_block h.q 5 _ rfl, cell_of_block h.q 6 _ rfl, cell_of_block h.q 7 _ rfl, cell_of_block h.q 8 _ rfl, cell_of_block h.q 9 _ rfl, cell_of_block h.q 10 _ rfl, free_of_block h.q⟩
theorem Two.s0 (h : Two b w w' d0 d1 d2 d3 d4 d5 d6 d7 d8 d9 d10 vp u x ps ms ts) (y : Value) : Two b w (w'.setCell ⟨b + 1, 0, none⟩ y) y d1 d2 d3 d4 d5 d6 d7 d8 d9 d10 vp u x ps ms ts :=
  ⟨setFar h.a (by omega), setAt h.q (by simp), h.bl.setCell (p := ⟨b + 1, 0, none⟩) (by show b ≤ b + 1; omega) y, h.r.gbx h.q (by decide) (by decide) (Gb.set _ _ _ _)⟩
theorem Two.s1 (h : Two b w w' d0 d1 d2 d3 d4 d5 d6 d7 d8 d9 d10 vp u x ps ms ts) (y : Value) : Two b w (w'.setCell ⟨b + 1, 1, none⟩ y) d0 y d2 d3 d4 d5 d6 d7 d8 d9 d10 vp u x ps ms ts :=
  ⟨setFar h.a (by omega), setAt h.q (by simp), h.bl.setCell (p := ⟨b + 1, 1, none⟩) (by show b ≤ b + 1; omega) y, h.r.gbx h.q (by decide) (by decide) (Gb.set _ _ _ _)⟩
theorem Two.s2 (h : Two b w w' d0 d1 d2 d3 d4 d5 d6 d7 d8 d9 d10 vp u x ps ms ts) (y : Value) : Two b w (w'.setCell ⟨b + 1, 2, none⟩ y) d0 d1 y d3 d4 d5 d6 d7 d8 d9 d10 vp u x ps ms ts :=
  ⟨setFar h.a (by omega), setAt h.q (by simp), h.bl.setCell (p := ⟨b + 1, 2, none⟩) (by show b ≤ b + 1; omega) y, h.r.gbx h.q (by decide) (by decide) (Gb.set _ _ _ _)⟩
theorem Two.s3 (h : Two b w w' d0 d1 d2 d3 d4 d5 d6 d7 d8 d9 d10 vp u x ps ms ts) (y : Value) : Two b w (w'.setCell ⟨b + 1, 3, none⟩ y) d0 d1 d2 y d4 d5 d6 d7 d8 d9 d10 vp u x ps ms ts :=
  ⟨setFar h.a (by omega), setAt h.q (by simp), h.bl.setCell (p := ⟨b + 1, 3, none⟩) (by show b ≤ b + 1; omega) y, h.r.gbx h.q (by decide) (by decide) (Gb.set _ _ _ _)⟩
theorem Two.s4 (h : Two b w w' d0 d1 d2 d3 d4 d5 d6 d7 d8 d9 d10 vp u x ps ms ts) (y : Value) : Two b w (w'.setCell ⟨b + 1, 4, none⟩ y) d0 d1 d2 d3 y d5 d6 d7 d8 d9 d10 vp u x ps ms ts :=
  ⟨setFar h.a (by omega), setAt h.q (by simp), h.bl.setCell (p := ⟨b + 1, 4, none⟩) (by show b ≤ b + 1; omega) y, h.r.gbx h.q (by decide) (by decide) (Gb.set _ _ _ _)⟩
theorem Two.s5 (h : Two b w w' d0 d1 d2 d3 d4 d5 d6 d7 d8 d9 d10 vp u x ps ms ts) (y : Value) : Two b w (w'.setCell ⟨b + 1, 5, none⟩ y) d0 d1 d2 d3 d4 y d6 d7 d8 d9 d10 vp u x ps ms ts :=
  ⟨setFar h.a (by omega), setAt h.q (by simp), h.bl.setCell (p := ⟨b + 1, 5, none⟩) (by show b ≤ b + 1; omega) y, h.r.gbx h.q (by decide) (by decide) (Gb.set _ _ _ _)⟩
theorem Two.s6 (h : Two b w w' d0 d1 d2 d3 d4 d5 d6 d7 d8 d9 d10 vp u x ps ms ts) (y : Value) : Two b w (w'.setCell ⟨b + 1, 6, none⟩ y) d0 d1 d2 d3 d4 d5 y d7 d8 d9 d10 vp u x ps ms ts :=
  ⟨setFar h.a (by omega), setAt h.q (by simp), h.bl.setCell (p := ⟨b + 1, 6, none⟩) (by show b ≤ b + 1; omega) y, h.r.gbx h.q (by decide) (by decide) (Gb.set _ _ _ _)⟩
theorem Two.s7 (h : Two b w w' d0 d1 d2 d3 d4 d5 d6 d7 d8 d9 d10 vp u x ps ms ts) (y : Value) : Two b w (w'.setCell ⟨b + 1, 7, none⟩ y) d0 d1 d2 d3 d4 d5 d6 y d8 d9 d10 vp u x ps ms ts :=
  ⟨setFar h.a (by omega), setAt h.q (by simp), h.bl.setCell (p := ⟨b + 1, 7, none⟩) (by show b ≤ b + 1; omega) y, h.r.gbx h.q (by decide) (by decide) (Gb.set _ _ _ _)⟩
theorem Two.s8 (h : Two b w w' d0 d1 d2 d3 d4 d5 d6 d7 d8 d9 d10 vp u x ps ms ts) (y : Value) : Two b w (w'.setCell ⟨b + 1, 8, none⟩ y) d0 d1 d2 d3 d4 d5 d6 d7 y d9 d10 vp u x ps ms ts :=
  ⟨setFar h.a (by omega), setAt h.q (by simp), h.bl.setCell (p := ⟨b + 1, 8, none⟩) (by show b ≤ b + 1; omega) y, h.r.gbx h.q (by decide) (by decide) (Gb.set _ _ _ _)⟩
theorem Two.s9 (h : Two b w w' d0 d1 d2 d3 d4 d5 d6 d7 d8 d9 d10 vp u x ps ms ts) (y : Value) : Two b w (w'.setCell ⟨b + 1, 9, none⟩ y) d0 d1 d2 d3 d4 d5 d6 d7 d8 y d10 vp u x ps ms ts :=
  ⟨setFar h.a (by omega), setAt h.q (by simp), h.bl.setCell (p := ⟨b + 1, 9, none⟩) (by show b ≤ b + 1; omega) y, h.r.gbx h.q (by decide) (by decide) (Gb.set _ _ _ _)⟩
theorem Two.s10 (h : Two b w w' d0 d1 d2 d3 d4 d5 d6 d7 d8 d9 d10 vp u x ps ms ts) (y : Value) : Two b w (w'.setCell ⟨b + 1, 10, none⟩ y) d0 d1 d2 d3 d4 d5 d6 d7 d8 d9 y vp u x ps ms ts :=
  ⟨setFar h.a (by omega), setAt h.q (by simp), h.bl.setCell (p := ⟨b + 1, 10, none⟩) (by show b ≤ b + 1; omega) y, h.r.gbx h.q (by decide) (by decide) (Gb.set _ _ _ _)⟩
theorem rread_leaf {ws : List (List UInt8)} {A : Act} {ok : Bool} (h : Two w.heap.size w w' d0 d1 d2 d3 d4 d5 d6 d7 d8 d9 d10 vp u x ps ms ts) (e2 : A.tmps[2]?.getD undef = .pointer (some ⟨w.heap.size, 0, none⟩)) (e3 : A.tmps[3]?.getD undef = .bool ok) (e4 : A.defers = []) {kd : Nat} {S : EvS}
    (hv : Value.agg #[d0, d1, d2, d3, d4, d5, d6, d7, d8, d9, d10] = .agg #[.int .i64 kd, .int .i64 S.a, .int .i64 S.b, .int .i64 S.id, vp, .string (str S.node.name), .int .i64 S.node.cpu, .int .i64 S.node.mem, u, x, .bool S.node.closed]) (hp : ps = S.pods) (hm : ms = S.node.marks) (ht : ts = S.node.taints) (hok : (evOf ws).isSome = ok) (hev : ∀ ev, evOf ws = some ev → ev.kind = kd ∧ S = ⟨ev.a, ev.b, ev.id, ev.pods, ev.node⟩) :
    bodyPost Tryz.prog Tryz.f24 (RreadPost ws w) Exit.ret A (w'.setCells w.heap.size 0 [d0, d1, d2, d3, d4, d5, d6, d7, d8, d9, d10]) := by
  have fb := sets11 d0 d1 d2 d3 d4 d5 d6 d7 d8 d9 d10 h.a
  have gb := below_sets (b := w.heap.size) (Nat.le_refl _) [d0, d1, d2, d3, d4, d5, d6, d7, d8, d9, d10] 0 w' h.bl
  have g3 := h.r.gbx h.a (by decide) (by decide) (Gb.sets w.heap.size [d0, d1, d2, d3, d4, d5, d6, d7, d8, d9, d10] 0 w')
  subst hp hm ht hok
  generalize w'.setCells w.heap.size 0 [d0, d1, d2, d3, d4, d5, d6, d7, d8, d9, d10] = W2 at fb gb g3 ⊢
  have k0 := cell_of_block fb 0 _ rfl
  have k1 := cell_of_block fb 1 _ rfl
  have k2 := cell_of_block fb 2 _ rfl
  have k3 := cell_of_block fb 3 _ rfl
  have k4 := cell_of_block fb 4 _ rfl
  have k5 := cell_of_block fb 5 _ rfl
  have k6 := cell_of_block fb 6 _ rfl
  have k7 := cell_of_block fb 7 _ rfl
  have k8 := cell_of_block fb 8 _ rfl
  have k9 := cell_of_block fb 9 _ rfl
  have k10 := cell_of_block fb 10 _ rfl
  exact bodyPost_ret (v := .tuple #[.agg #[d0, d1, d2, d3, d4, d5, d6, d7, d8, d9, d10], .bool (evOf ws).isSome]) (by simp [results, Tryz.results24, go_sem, e2, e3, k0, k1, k2, k3, k4, k5, k6, k7, k8, k9, k10]) e4 ⟨_, kd, S, rfl, ⟨_, _, _, hv, g3.1, g3.2.1, g3.2.2⟩, hev, gb⟩
end
set_option maxHeartbeats 32000000 in
set_option maxRecDepth 1000000 in
theorem rread_k0 (v : Value) (t0 t1 : List UInt8) (r : List (List UInt8)) (w : World) (hr : RowsC w v (t0 :: t1 :: r)) (hf : few (t0 :: t1 :: r)) (hkk : kindOf t0 = 0) : Calls Tryz.prog 24 #[v] w (RreadPost (t0 :: t1 :: r) w) := by
  obtain ⟨a, c, rfl, hwl, hcap, hcs⟩ := hr
  have HCAP := Lib.hid hcap
  have HF := Lib.hid hf
  have HCS := Lib.hid hcs
  clear hcap hf hcs
  have h2 : ¬ (t0 :: t1 :: r).length < 2 := by simp
  obtain ⟨rl, hrl⟩ : ∃ rl, r.length = rl := ⟨_, rfl⟩
  have hlen : (t0 :: t1 :: r).length = rl + 2 := by simp [hrl]
  rw [hlen] at hwl h2 ⊢
  have HRL := Lib.hid hrl
  have HLEN := Lib.hid hlen
  have hlt2 : ¬ (rl : Int) + 2 < 2 := by omega
  have hge1 : (0 : Int) < (rl : Int) + 2 := by omega
  have hge2 : (1 : Int) < (rl : Int) + 2 := by omega
  obtain ⟨bb, off, rfl, hc0⟩ := HCS.out 0 (by simp)
  obtain ⟨b2, o2, e2, hc1⟩ := HCS.out 1 (by simp)
  simp only [Option.some.injEq, Addr.mk.injEq, and_true] at e2
  obtain ⟨rfl, rfl⟩ := e2
  have hc0 : w.cell? ⟨bb, off, none⟩ = some (.string (str t0)) := hc0
  have hc1 : w.cell? ⟨bb, off + 1, none⟩ = some (.string (str t1)) := hc1
  have HC1 := Lib.hid hc1
  have HT1 : Hid (t1.length ≤ 4294967280) := Lib.hid (HF.out.2 _ (by simp))
  have q00 : ∀ o o', ((w.alloc o).alloc o').cell? ⟨bb, off, none⟩ = some (.string (str t0)) := fun o o' => cell_below hc0 (below_alloc' (below_alloc' (Below.refl _ _) _) _)
  clear hrl hlen hc0 hc1 h2
  go_enter Tryz.func24, Tryz.ntmps24
  go_wp2_with fail
  have H := Lib.hid (two_new w)
  generalize World.alloc (World.alloc w _) _ = w1 at H ⊢
  refine (rkind_any t0 w1).mono ?_
  rintro e w2 ⟨rfl, hb⟩
  replace H := Lib.hid (H.out.call hb)
  obtain ⟨kd, hkd⟩ : ∃ kd, kindOf t0 = kd := ⟨_, rfl⟩
  rw [hkd]
  have HKD := Lib.hid hkd
  have hk11 : kd ≤ 11 := by
    by_cases h : kd = 0
    · omega
    · have := kindOf_inv (w := t0) (by omega)
      omega
  clear hb q00 hkd
  have q11 : ∀ u, (w2.setCell ⟨w.heap.size + 1, 0, none⟩ u).cell? ⟨bb, off + 1, none⟩ = some (.string (str t1)) := fun u => cell_below HC1.out ⟨(H.out.s0 u).bl.os, (H.out.s0 u).bl.tape, (H.out.s0 u).bl.output, (H.out.s0 u).bl.size, (H.out.s0 u).bl.block⟩
  obtain ⟨q0, q1, q2, q3, q4, q5, q6, q7, q8, q9, q10, fq⟩ := H.out.qf
  go_wp2_with fail
  clear q11
  replace H := Lib.hid ((H.out).s0 (.int .i64 kd))
  generalize (w2.setCell ⟨w.heap.size + 1, 0, none⟩ (.int .i64 kd)) = w3 at H ⊢
  clear q0 q1 q2 q3 q4 q5 q6 q7 q8 q9 q10 fq
  refine (rdnumber_any t1 999999 (by decide) HT1.out w3).mono ?_
  rintro e w4 ⟨n, rfl, hn9, hnn, hb⟩
  replace H := Lib.hid (H.out.call hb)
  obtain ⟨okn, hokn⟩ : ∃ q, (numW 999999 t1).isSome = q := ⟨_, rfl⟩
  rw [hokn]
  have HNW := Lib.hid (num_opt hokn hnn)
  clear hb hokn hn9 hnn
  have hk : kd = 0 := by rw [← HKD.out]; exact hkk
  have HKK := Lib.hid hk
  have b0 : ((kd : Int) == 0) = true := by rw [hk]; rfl
  have b1 : ((kd : Int) == 1) = false := beq_eq_false_iff_ne.2 (by omega)
  have b4 : ((kd : Int) == 4) = false := beq_eq_false_iff_ne.2 (by omega)
  have b5 : ((kd : Int) == 5) = false := beq_eq_false_iff_ne.2 (by omega)
  have b10 : ((kd : Int) == 10) = false := beq_eq_false_iff_ne.2 (by omega)
  have HK := Lib.hid hkk
  clear hk hkk
  obtain ⟨l2b, l2⟩ : ∃ q, ((rl : Int) + 2 == 2) = q := ⟨_, rfl⟩
  obtain ⟨q0, q1, q2, q3, q4, q5, q6, q7, q8, q9, q10, fq⟩ := H.out.qf
  obtain ⟨z0, z1, z2, z3, z4, z5, z6, z7, z8, z9, z10, fz⟩ := H.out.zf
  go_wp2
  have hev : evOf (t0 :: t1 :: r) = none := by exact ev_zero HK.out
  exact rread_leaf (kd := kd) (S := ⟨0, 0, 0, [], noNode⟩) H.out rfl rfl rfl rfl rfl rfl rfl (by rw [hev]; rfl) (fun ev h => by rw [hev] at h; cases h)
set_option maxHeartbeats 32000000 in
set_option maxRecDepth 1000000 in
theorem rread_k1 (v : Value) (t0 t1 : List UInt8) (r : List (List UInt8)) (w : World) (hr : RowsC w v (t0 :: t1 :: r)) (hf : few (t0 :: t1 :: r)) (hkk : kindOf t0 = 1) : Calls Tryz.prog 24 #[v] w (RreadPost (t0 :: t1 :: r) w) := by
  obtain ⟨a, c, rfl, hwl, hcap, hcs⟩ := hr
  have HCAP := Lib.hid hcap
  have HF := Lib.hid hf
  have HCS := Lib.hid hcs
  clear hcap hf hcs
  have h2 : ¬ (t0 :: t1 :: r).length < 2 := by simp
  obtain ⟨rl, hrl⟩ : ∃ rl, r.length = rl := ⟨_, rfl⟩
  have hlen : (t0 :: t1 :: r).length = rl + 2 := by simp [hrl]
  rw [hlen] at hwl h2 ⊢
  have HRL := Lib.hid hrl
  have HLEN := Lib.hid hlen
  have hlt2 : ¬ (rl : Int) + 2 < 2 := by omega
  have hge1 : (0 : Int) < (rl : Int) + 2 := by omega
  have hge2 : (1 : Int) < (rl : Int) + 2 := by omega
  obtain ⟨bb, off, rfl, hc0⟩ := HCS.out 0 (by simp)
  obtain ⟨b2, o2, e2, hc1⟩ := HCS.out 1 (by simp)
  simp only [Option.some.injEq, Addr.mk.injEq, and_true] at e2
  obtain ⟨rfl, rfl⟩ := e2
  have hc0 : w.cell? ⟨bb, off, none⟩ = some (.string (str t0)) := hc0
  have hc1 : w.cell? ⟨bb, off + 1, none⟩ = some (.string (str t1)) := hc1
  have HC1 := Lib.hid hc1
  have HT1 : Hid (t1.length ≤ 4294967280) := Lib.hid (HF.out.2 _ (by simp))
  have q00 : ∀ o o', ((w.alloc o).alloc o').cell? ⟨bb, off, none⟩ = some (.string (str t0)) := fun o o' => cell_below hc0 (below_alloc' (below_alloc' (Below.refl _ _) _) _)
  clear hrl hlen hc0 hc1 h2
  go_enter Tryz.func24, Tryz.ntmps24
  go_wp2_with fail
  have H := Lib.hid (two_new w)
  generalize World.alloc (World.alloc w _) _ = w1 at H ⊢
  refine (rkind_any t0 w1).mono ?_
  rintro e w2 ⟨rfl, hb⟩
  replace H := Lib.hid (H.out.call hb)
  obtain ⟨kd, hkd⟩ : ∃ kd, kindOf t0 = kd := ⟨_, rfl⟩
  rw [hkd]
  have HKD := Lib.hid hkd
  have hk11 : kd ≤ 11 := by
    by_cases h : kd = 0
    · omega
    · have := kindOf_inv (w := t0) (by omega)
      omega
  clear hb q00 hkd
  have q11 : ∀ u, (w2.setCell ⟨w.heap.size + 1, 0, none⟩ u).cell? ⟨bb, off + 1, none⟩ = some (.string (str t1)) := fun u => cell_below HC1.out ⟨(H.out.s0 u).bl.os, (H.out.s0 u).bl.tape, (H.out.s0 u).bl.output, (H.out.s0 u).bl.size, (H.out.s0 u).bl.block⟩
  obtain ⟨q0, q1, q2, q3, q4, q5, q6, q7, q8, q9, q10, fq⟩ := H.out.qf
  go_wp2_with fail
  clear q11
  replace H := Lib.hid ((H.out).s0 (.int .i64 kd))
  generalize (w2.setCell ⟨w.heap.size + 1, 0, none⟩ (.int .i64 kd)) = w3 at H ⊢
  clear q0 q1 q2 q3 q4 q5 q6 q7 q8 q9 q10 fq
  refine (rdnumber_any t1 999999 (by decide) HT1.out w3).mono ?_
  rintro e w4 ⟨n, rfl, hn9, hnn, hb⟩
  replace H := Lib.hid (H.out.call hb)
  obtain ⟨okn, hokn⟩ : ∃ q, (numW 999999 t1).isSome = q := ⟨_, rfl⟩
  rw [hokn]
  have HNW := Lib.hid (num_opt hokn hnn)
  clear hb hokn hn9 hnn
  have hk : kd = 1 := by rw [← HKD.out]; exact hkk
  have HKK := Lib.hid hk
  have b0 : ((kd : Int) == 0) = false := beq_eq_false_iff_ne.2 (by omega)
  have b1 : ((kd : Int) == 1) = true := by rw [hk]; rfl
  have b4 : ((kd : Int) == 4) = false := beq_eq_false_iff_ne.2 (by omega)
  have b5 : ((kd : Int) == 5) = false := beq_eq_false_iff_ne.2 (by omega)
  have b10 : ((kd : Int) == 10) = false := beq_eq_false_iff_ne.2 (by omega)
  have HK := Lib.hid hkk
  clear hk hkk
  have HROWS : Hid (∀ w', Below w.heap.size w w' → Rows w' (.slice (some ⟨bb, off + 2, none⟩) rl (c - 2)) r) := Lib.hid fun w' hw' => by
    refine ⟨some ⟨bb, off + 2, none⟩, c - 2, by rw [HRL.out], by rw [HRL.out]; omega, fun i hi => ⟨bb, off + 2, rfl, ?_⟩⟩
    obtain ⟨b3, o3, e3, hc3⟩ := HCS.out (i + 2) (by simp; exact hi)
    simp only [Option.some.injEq, Addr.mk.injEq, and_true] at e3
    obtain ⟨rfl, rfl⟩ := e3
    have h5 : w.cell? ⟨bb, off + (i + 2), none⟩ = some (.string (str r[i])) := hc3
    rw [show off + 2 + i = off + (i + 2) by omega]
    exact cell_below h5 hw'
  have HROWN : Hid (c = 2 → ∀ w', Rows w' (.slice (some ⟨bb, off, none⟩) rl 0) r) := Lib.hid fun h w' => by
    have h0 : r.length = 0 := by have := HCAP.out; simp only [List.length_cons] at this; omega
    have h1 : rl = 0 := by rw [← HRL.out]; exact h0
    exact ⟨some ⟨bb, off, none⟩, 0, by rw [h0, h1], by rw [h0]; exact Nat.zero_le _, fun i hi => by rw [h0] at hi; exact absurd hi (Nat.not_lt_zero _)⟩
  have HFR : Hid (few r) := Lib.hid ⟨by have := HF.out.1; simp only [List.length_cons] at this; omega, fun x hx => HF.out.2 x (List.mem_cons_of_mem _ (List.mem_cons_of_mem _ hx))⟩
  obtain ⟨l2b, l2⟩ : ∃ q, ((rl : Int) + 2 == 2) = q := ⟨_, rfl⟩
  obtain ⟨q0, q1, q2, q3, q4, q5, q6, q7, q8, q9, q10, fq⟩ := H.out.qf
  go_wp2_with fail
  · replace H := Lib.hid ((H.out).s3 (.int .i64 n))
    generalize (w4.setCell ⟨w.heap.size + 1, 3, none⟩ (.int .i64 n)) = w5 at H ⊢
    clear q0 q1 q2 q3 q4 q5 q6 q7 q8 q9 q10 fq
    have hsz := H.out.bl.size
    refine (rpods_any _ r w5 (HROWN.out ‹c = 2› w5) HFR.out).mono ?_
    rintro e w6 ⟨vp, rfl, hps, hno, hb⟩
    replace H := Lib.hid (H.out.call hb)
    obtain ⟨okp, hokp⟩ : ∃ q, (r.mapM podW).isSome = q := ⟨_, rfl⟩
    rw [hokp]
    have hpp : ∃ ps, PodsT w.heap.size w6 vp ps ∧ r.mapM podW = if okp = true then some ps else none := by
      cases hm : r.mapM podW with
      | none => rw [hm] at hokp; subst hokp; exact ⟨[], by rw [hno hm]; exact PodsT.nil _ _, rfl⟩
      | some l => rw [hm] at hokp; subst hokp; exact ⟨l, (hps l hm).base hsz, rfl⟩
    obtain ⟨ps, hpt, hpm⟩ := hpp
    obtain ⟨av, lv, cv, rfl⟩ := (show ∃ a l c, vp = .slice a l c by obtain ⟨cc, hown, _⟩ := hpt; exact own_slice hown)
    have HEV : Hid (evOf (t0 :: t1 :: r) = if (okn && okp) = true then some ⟨1, 0, 0, n, ps, noNode⟩ else none) := Lib.hid (by
      rw [ev_one HK.out HNW.out, hpm]
      cases okn <;> cases okp <;> rfl)
    replace H := Lib.hid (H.out.rows (vp' := .slice av lv cv) ⟨hpt, H.out.r.2⟩)
    clear hb hsz hps hno hokp hpt hpm
    obtain ⟨q0, q1, q2, q3, q4, q5, q6, q7, q8, q9, q10, fq⟩ := H.out.qf
    go_upto_region 13 with fail
    replace H := Lib.hid ((H.out).s4 (.slice av lv cv))
    generalize (w6.setCell ⟨w.heap.size + 1, 4, none⟩ (.slice av lv cv)) = w7 at H ⊢
    clear q0 q1 q2 q3 q4 q5 q6 q7 q8 q9 q10 fq
    cases okn
    · obtain ⟨q0, q1, q2, q3, q4, q5, q6, q7, q8, q9, q10, fq⟩ := H.out.qf
      obtain ⟨z0, z1, z2, z3, z4, z5, z6, z7, z8, z9, z10, fz⟩ := H.out.zf
      go_wp2
      have hev : evOf (t0 :: t1 :: r) = none := by simpa using HEV.out
      exact rread_leaf (kd := kd) (S := ⟨0, 0, n, ps, noNode⟩) H.out rfl rfl rfl rfl rfl rfl rfl (by rw [hev]; rfl) (fun ev h => by rw [hev] at h; cases h)
    · cases okp
      · obtain ⟨q0, q1, q2, q3, q4, q5, q6, q7, q8, q9, q10, fq⟩ := H.out.qf
        obtain ⟨z0, z1, z2, z3, z4, z5, z6, z7, z8, z9, z10, fz⟩ := H.out.zf
        go_wp2
        have hev : evOf (t0 :: t1 :: r) = none := by simpa using HEV.out
        exact rread_leaf (kd := kd) (S := ⟨0, 0, n, ps, noNode⟩) H.out rfl rfl rfl rfl rfl rfl rfl (by rw [hev]; rfl) (fun ev h => by rw [hev] at h; cases h)
      · obtain ⟨q0, q1, q2, q3, q4, q5, q6, q7, q8, q9, q10, fq⟩ := H.out.qf
        obtain ⟨z0, z1, z2, z3, z4, z5, z6, z7, z8, z9, z10, fz⟩ := H.out.zf
        go_wp2
        have hev : evOf (t0 :: t1 :: r) = some ⟨1, 0, 0, n, ps, noNode⟩ := by simpa using HEV.out
        exact rread_leaf (kd := kd) (S := ⟨0, 0, n, ps, noNode⟩) H.out rfl rfl rfl rfl rfl rfl rfl (by rw [hev]; rfl) (fun ev h => by rw [hev] at h; cases h; exact ⟨HKK.out.symm, rfl⟩)
  · replace H := Lib.hid ((H.out).s3 (.int .i64 n))
    generalize (w4.setCell ⟨w.heap.size + 1, 3, none⟩ (.int .i64 n)) = w5 at H ⊢
    clear q0 q1 q2 q3 q4 q5 q6 q7 q8 q9 q10 fq
    have hsz := H.out.bl.size
    refine (rpods_any _ r w5 (HROWS.out w5 H.out.bl) HFR.out).mono ?_
    rintro e w6 ⟨vp, rfl, hps, hno, hb⟩
    replace H := Lib.hid (H.out.call hb)
    obtain ⟨okp, hokp⟩ : ∃ q, (r.mapM podW).isSome = q := ⟨_, rfl⟩
    rw [hokp]
    have hpp : ∃ ps, PodsT w.heap.size w6 vp ps ∧ r.mapM podW = if okp = true then some ps else none := by
      cases hm : r.mapM podW with
      | none => rw [hm] at hokp; subst hokp; exact ⟨[], by rw [hno hm]; exact PodsT.nil _ _, rfl⟩
      | some l => rw [hm] at hokp; subst hokp; exact ⟨l, (hps l hm).base hsz, rfl⟩
    obtain ⟨ps, hpt, hpm⟩ := hpp
    obtain ⟨av, lv, cv, rfl⟩ := (show ∃ a l c, vp = .slice a l c by obtain ⟨cc, hown, _⟩ := hpt; exact own_slice hown)
    have HEV : Hid (evOf (t0 :: t1 :: r) = if (okn && okp) = true then some ⟨1, 0, 0, n, ps, noNode⟩ else none) := Lib.hid (by
      rw [ev_one HK.out HNW.out, hpm]
      cases okn <;> cases okp <;> rfl)
    replace H := Lib.hid (H.out.rows (vp' := .slice av lv cv) ⟨hpt, H.out.r.2⟩)
    clear hb hsz hps hno hokp hpt hpm
    obtain ⟨q0, q1, q2, q3, q4, q5, q6, q7, q8, q9, q10, fq⟩ := H.out.qf
    go_upto_region 13 with fail
    replace H := Lib.hid ((H.out).s4 (.slice av lv cv))
    generalize (w6.setCell ⟨w.heap.size + 1, 4, none⟩ (.slice av lv cv)) = w7 at H ⊢
    clear q0 q1 q2 q3 q4 q5 q6 q7 q8 q9 q10 fq
    cases okn
    · obtain ⟨q0, q1, q2, q3, q4, q5, q6, q7, q8, q9, q10, fq⟩ := H.out.qf
      obtain ⟨z0, z1, z2, z3, z4, z5, z6, z7, z8, z9, z10, fz⟩ := H.out.zf
      go_wp2
      have hev : evOf (t0 :: t1 :: r) = none := by simpa using HEV.out
      exact rread_leaf (kd := kd) (S := ⟨0, 0, n, ps, noNode⟩) H.out rfl rfl rfl rfl rfl rfl rfl (by rw [hev]; rfl) (fun ev h => by rw [hev] at h; cases h)
    · cases okp
      · obtain ⟨q0, q1, q2, q3, q4, q5, q6, q7, q8, q9, q10, fq⟩ := H.out.qf
        obtain ⟨z0, z1, z2, z3, z4, z5, z6, z7, z8, z9, z10, fz⟩ := H.out.zf
        go_wp2
        have hev : evOf (t0 :: t1 :: r) = none := by simpa using HEV.out
        exact rread_leaf (kd := kd) (S := ⟨0, 0, n, ps, noNode⟩) H.out rfl rfl rfl rfl rfl rfl rfl (by rw [hev]; rfl) (fun ev h => by rw [hev] at h; cases h)
      · obtain ⟨q0, q1, q2, q3, q4, q5, q6, q7, q8, q9, q10, fq⟩ := H.out.qf
        obtain ⟨z0, z1, z2, z3, z4, z5, z6, z7, z8, z9, z10, fz⟩ := H.out.zf
        go_wp2
        have hev : evOf (t0 :: t1 :: r) = some ⟨1, 0, 0, n, ps, noNode⟩ := by simpa using HEV.out
        exact rread_leaf (kd := kd) (S := ⟨0, 0, n, ps, noNode⟩) H.out rfl rfl rfl rfl rfl rfl rfl (by rw [hev]; rfl) (fun ev h => by rw [hev] at h; cases h; exact ⟨HKK.out.symm, rfl⟩)
end Go.Proofs.YtikamehjeaoilaaGreatDoor
