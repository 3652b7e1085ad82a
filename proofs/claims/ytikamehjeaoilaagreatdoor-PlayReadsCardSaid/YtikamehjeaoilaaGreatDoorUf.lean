/- The reference's reader of a word: sign, must, name, number. -/
import Derived.Test.YtikamehjeaoilaaGreatDoorRg
import Derived.Test.YtikamehjeaoilaaGreatDoorSe
import Derived.BigQuiet
import Derived.Test.YtikamehjeaoilaaGreatDoorSn
import Derived.Test.YtikamehjeaoilaaGreatDoorPn
import Derived.Test.YtikamehjeaoilaaGreatDoorJb
import Derived.Test.YtikamehjeaoilaaGreatDoorJf
set_option linter.unusedVariables false
set_option linter.unusedSimpArgs false
namespace Go.Proofs.YtikamehjeaoilaaGreatDoor
open Go.RowKit

/-- The reader at block g: its text, its place, whether it is bad. -/
def RrAt (w : World) (g : Nat) (s : List UInt8) (p : Nat) (bad : Bool) : Prop := w.heap[g]? = some (.cells #[.string (str s), .int .i64 (p : Nat), .bool bad] 124 (0, 0)) ∧ p ≤ s.length ∧ s.length ≤ 4294967280
theorem RrAt.below {w w' : World} {g : Nat} {s : List UInt8} {p : Nat} {bad : Bool} (h : RrAt w g s p bad) (hb : Below w.heap.size w w') : RrAt w' g s p bad := ⟨block_below h.1 hb, h.2⟩
theorem str_at (s : List UInt8) (p : Nat) (h : p < (str s).size) : (str s)[p]'h = s.getD p 0 := by
  have h' : p < s.length := by rwa [str_size] at h
  rw [str_get, List.getD_eq_getElem?_getD, List.getElem?_eq_getElem h']
  rfl
def signR (s : List UInt8) (p : Nat) (bad : Bool) (c : UInt8) : Bool := !bad && (decide (p < s.length) && s.getD p 0 == c)
theorem set3b {w : World} {g : Nat} {T : TypeId} {a b c : Value} (y : Value) (h : w.heap[g]? = some (.cells #[a, b, c] T (0, 0))) : (w.setCell ⟨g, 1, none⟩ y).heap[g]? = some (.cells #[a, y, c] T (0, 0)) := by
  have := heap_setCell_same w g 1 _ _ y h
  simpa using this
theorem set3c {w : World} {g : Nat} {T : TypeId} {a b c : Value} (y : Value) (h : w.heap[g]? = some (.cells #[a, b, c] T (0, 0))) : (w.setCell ⟨g, 2, none⟩ y).heap[g]? = some (.cells #[a, b, y] T (0, 0)) := by
  have := heap_setCell_same w g 2 _ _ y h
  simpa using this
set_option maxHeartbeats 4000000 in
set_option maxRecDepth 100000 in
theorem rr_sign (g : Nat) (s : List UInt8) (p : Nat) (bad : Bool) (c : UInt8) (w : World) (h : RrAt w g s p bad) :
    Calls Tryz.prog 79 #[.pointer (some ⟨g, 0, none⟩), .int .u8 c.toNat] w fun e w' => e = .returned (.bool (signR s p bad c)) ∧ RrAt w' g s (if signR s p bad c = true then p + 1 else p) bad ∧ Gb g w w' := by
  obtain ⟨h1, h2, h3⟩ := h
  obtain ⟨z, hz⟩ : ∃ z, str s = z := ⟨_, rfl⟩
  have hzs : z.size = s.length := by rw [← hz, str_size]
  rw [hz] at h1
  have e0 := cell_of_block h1 0 _ rfl
  have e1 := cell_of_block h1 1 _ rfl
  have e2 := cell_of_block h1 2 _ rfl
  have fr := free_of_block h1 1
  have H1 := Lib.hid h1
  have HZ := Lib.hid hz
  have HZS := Lib.hid hzs
  clear h1 hz
  have hbq : ∀ nq, Gb g w (w.drewN nq) := fun nq => ⟨rfl, rfl, rfl, Nat.le_refl _, fun _ _ _ => rfl⟩
  have HBQ := Lib.hid hbq
  clear hbq
  cases bad
  · by_cases hp : p < s.length
    · have hpz : p < z.size := by omega
      have d0 : decide (z.size ≤ p) = false := decide_eq_false (by omega)
      have hpw : IntKind.i64.wrap ((p : Int) + 1) = ((p + 1 : Nat) : Int) := by rw [IntWalk.i64_in _ (by omega)]; omega
      obtain ⟨x, hx⟩ : ∃ x, s.getD p 0 = x := ⟨_, rfl⟩
      have hxz : z[p]'hpz = x := by have := HZ.out; subst this; rw [str_at, hx]
      have HX := Lib.hid hx
      have HP := Lib.hid hp
      clear hzs hx hp
      by_cases hxc : x = c
      · subst hxc
        have hs : signR s p false x = true := by unfold signR; rw [HX.out]; simp [HP.out]
        rw [hs, if_pos rfl]
        clear hs
        go_enter Tryz.func79, Tryz.ntmps79
        go_wp2
        go_quiet (fail)
        go_wp2
        go_ret
        exact ⟨rfl, ⟨by rw [HZ.out]; exact set3b _ (show (w.drewN _).heap[g]? = _ from H1.out), HP.out, h3⟩, (HBQ.out _).trans (Gb.set _ _ _ _)⟩
      · have d1 : ((x.toNat : Int) != (c.toNat : Int)) = true := by
          rw [bne_iff_ne]
          intro e
          exact hxc (UInt8.toNat_inj.1 (by omega))
        have hs : signR s p false c = false := by unfold signR; rw [HX.out, beq_eq_false_iff_ne.2 hxc]; simp
        rw [hs, if_neg (by simp)]
        clear hs
        go_enter Tryz.func79, Tryz.ntmps79
        go_wp2
        go_quiet (fail)
        go_wp2
        go_ret
        exact ⟨rfl, ⟨by rw [HZ.out]; exact H1.out, h2, h3⟩, HBQ.out _⟩
    · have d0 : decide (z.size ≤ p) = true := decide_eq_true (by omega)
      have hs : signR s p false c = false := by simp [signR, hp]
      rw [hs, if_neg (by simp)]
      clear hs hzs hp
      go_enter Tryz.func79, Tryz.ntmps79
      go_wp2
      go_quiet (fail)
      go_wp2
      go_ret
      exact ⟨rfl, ⟨by rw [HZ.out]; exact H1.out, h2, h3⟩, HBQ.out _⟩
  · have hs : signR s p true c = false := by simp [signR]
    rw [hs, if_neg (by simp)]
    clear hs hzs
    go_enter Tryz.func79, Tryz.ntmps79
    go_wp2
    go_quiet (fail)
    go_wp2
    go_ret
    exact ⟨rfl, ⟨by rw [HZ.out]; exact H1.out, h2, h3⟩, HBQ.out _⟩
set_option maxHeartbeats 4000000 in
set_option maxRecDepth 100000 in
theorem rr_must (g : Nat) (s : List UInt8) (p : Nat) (bad : Bool) (c : UInt8) (w : World) (h : RrAt w g s p bad) :
    Calls Tryz.prog 76 #[.pointer (some ⟨g, 0, none⟩), .int .u8 c.toNat] w fun e w' => e = .returned (.tuple #[]) ∧ RrAt w' g s (if signR s p bad c = true then p + 1 else p) (!signR s p bad c) ∧ Gb g w w' := by
  have hbb : signR s p bad c = true → bad = false := fun h => by cases bad <;> simp_all [signR]
  have hss := rr_sign g s p bad c w h
  obtain ⟨b, hb⟩ : ∃ b, signR s p bad c = b := ⟨_, rfl⟩
  rw [hb] at hss hbb ⊢
  have HBB := Lib.hid hbb
  have HSS := Lib.hid hss
  clear h hss hbb hb
  go_enter Tryz.func76, Tryz.ntmps76
  go_wp2_with fail
  refine HSS.out.mono ?_
  rintro e w1 ⟨rfl, hr, hg⟩
  have HR := Lib.hid hr
  have HG := Lib.hid hg
  clear hr hg
  cases b
  · have e2 := cell_of_block HR.out.1 2 _ rfl
    have fr := free_of_block HR.out.1 2
    go_wp2
    go_end0
    exact ⟨rfl, ⟨set3c _ HR.out.1, HR.out.2⟩, HG.out.trans (Gb.set _ _ _ _)⟩
  · obtain rfl := HBB.out rfl
    go_wp2
    go_end0
    exact ⟨rfl, HR.out, HG.out⟩
def signsL : List UInt8 := [32, 58, 44, 43, 126, 33, 62, 64]
set_option maxHeartbeats 4000000 in
theorem rparting_any (c : UInt8) (w : World) : Calls Tryz.prog 115 #[.int .u8 c.toNat] w fun e w' => e = .returned (.bool (parting c)) ∧ w = w' := by
  obtain ⟨b, hb⟩ : ∃ b, parting c = b := ⟨_, rfl⟩
  rw [hb]
  have HB := Lib.hid hb
  clear hb
  go_enter Tryz.func115, Tryz.ntmps115
  go_wp2
  go_loopw [3] (fun i wr => ∃ k : Nat, i = .int .i64 k ∧ k ≤ 8 ∧ w = wr ∧ ∀ j, j < k → signsL.getD j 0 ≠ c) (fun i _ => 8 - (intOf i).toNat)
  case atStart => exact ⟨0, rfl, Nat.zero_le _, rfl, fun j h => absurd h (Nat.not_lt_zero _)⟩
  case round =>
    obtain ⟨k, rfl, hk, rfl, hno⟩ := hrel
    have HNO := Lib.hid hno
    clear hno
    by_cases hlt : k < 8
    · have hlt' : (k : Int) < 8 := by omega
      obtain ⟨x, hx⟩ : ∃ x, signsL.getD k 0 = x := ⟨_, rfl⟩
      have hxz : (⟨#[32, 58, 44, 43, 126, 33, 62, 64]⟩ : ByteArray)[k]'(by simpa [ByteArray.size] using hlt) = x := by
        rw [← hx]
        exact str_at signsL k (by simpa [str_size, signsL] using hlt)
      have hkw : IntKind.i64.wrap ((k : Int) + 1) = ((k + 1 : Nat) : Int) := by rw [IntWalk.i64_in _ (by omega)]; omega
      have HX := Lib.hid hx
      clear hx
      by_cases hxc : x = c
      · subst hxc
        have hpb : b = true := by
          rw [← HB.out]
          have : x ∈ signsL := by
            rw [← HX.out, List.getD_eq_getElem?_getD, List.getElem?_eq_getElem (show k < signsL.length from hlt)]
            exact List.getElem_mem _
          simpa [parting, signsL] using this
        subst hpb
        go_wp2
        go_ret
        exact ⟨rfl, rfl⟩
      · have d1 : ((x.toNat : Int) == (c.toNat : Int)) = false := by
          rw [beq_eq_false_iff_ne]
          intro e
          exact hxc (UInt8.toNat_inj.1 (by omega))
        have hno : ∀ j, j < k + 1 → signsL.getD j 0 ≠ c := fun j hj => by
          by_cases e : j = k
          · subst e; rw [HX.out]; exact hxc
          · exact HNO.out j (by omega)
        have HN1 := Lib.hid hno
        clear hno hxc
        go_wp2
        go_roundw
        case rel => exact ⟨k + 1, by go_num, by omega, by first | trivial | rfl, HN1.out⟩
        case measure => simp [intOf]; omega
    · obtain rfl : k = 8 := by omega
      have hpb : b = false := by
        rw [← HB.out]
        cases hp : parting c with
        | false => rfl
        | true =>
          have hm : c ∈ signsL := by simpa [parting, signsL] using hp
          obtain ⟨j, hj, e⟩ := List.getElem_of_mem hm
          exact absurd (by rw [List.getD_eq_getElem?_getD, List.getElem?_eq_getElem hj]; exact e) (HNO.out j hj)
      subst hpb
      go_wp2
      go_ret
      exact ⟨rfl, rfl⟩
theorem extract_str (s : List UInt8) (p q : Nat) : (str s).extract p q = str ((s.drop p).take (q - p)) := by
  apply ByteArray.ext
  simp [str, ByteArray.data_extract]
theorem gb_drewN (g : Nat) (w : World) (nq : Nat) : Gb g w (w.drewN nq) := ⟨rfl, rfl, rfl, Nat.le_refl _, fun _ _ _ => rfl⟩
theorem rparting_is {c : UInt8} {b : Bool} (h : parting c = b) (w : World) : Calls Tryz.prog 115 #[.int .u8 c.toNat] w fun e w' => e = .returned (.bool b) ∧ w' = w := by
  subst h
  exact (rparting_any c w).mono fun e w' h => ⟨h.1, h.2.symm⟩
theorem tw_all {f : UInt8 → Bool} {s : List UInt8} {p q : Nat} (hq : q ≤ s.length) (hp : p ≤ q) (h : ∀ j, p ≤ j → j < q → f (s.getD j 0) = true) (he : q = s.length ∨ f (s.getD q 0) = false) :
    (s.drop p).takeWhile f = (s.drop p).take (q - p) ∧ (s.drop p).dropWhile f = s.drop q := by
  have := take_all (p := f) (l := s.drop p) (k := q - p) (by simp; omega) (fun j hj => by
    have := h (p + j) (by omega) (by omega)
    rw [List.getD_eq_getElem?_getD, List.getElem?_eq_getElem (by omega)] at this
    simpa using this) (by
    by_cases e : q = s.length
    · exact .inl (by simp [e])
    · have hq' : q < s.length := by omega
      refine .inr ⟨by simp; omega, ?_⟩
      have := he.resolve_left e
      rw [List.getD_eq_getElem?_getD, List.getElem?_eq_getElem hq'] at this
      have e2 : p + (q - p) = q := by omega
      simpa [e2] using this)
  refine ⟨this.1, this.2.trans ?_⟩
  rw [List.drop_drop]
  congr 1
  omega
set_option maxHeartbeats 4000000 in
set_option maxRecDepth 100000 in
theorem rr_name (g : Nat) (s : List UInt8) (p : Nat) (bad : Bool) (w : World) (h : RrAt w g s p bad) :
    Calls Tryz.prog 75 #[.pointer (some ⟨g, 0, none⟩)] w fun e w' => ∃ p', e = .returned (.string (str ((s.drop p).takeWhile fun c => !parting c))) ∧ s.drop p' = (s.drop p).dropWhile (fun c => !parting c) ∧ p ≤ p' ∧ RrAt w' g s p' (bad || decide ((s.drop p).takeWhile (fun c => !parting c) = [])) ∧ Gb g w w' := by
  obtain ⟨h1, h2, h3⟩ := h
  obtain ⟨z, hz⟩ : ∃ z, str s = z := ⟨_, rfl⟩
  have hzs : z.size = s.length := by rw [← hz, str_size]
  rw [hz] at h1
  have e1 := cell_of_block h1 1 _ rfl
  have H1 := Lib.hid h1
  have HZ := Lib.hid hz
  have HZS := Lib.hid hzs
  have H2 := Lib.hid h2
  have H3 := Lib.hid h3
  clear h1 hz hzs h2 h3
  go_enter Tryz.func75, Tryz.ntmps75
  go_wp2
  go_loopw [] (fun wr => ∃ q : Nat, wr.heap[g]? = some (.cells #[.string z, .int .i64 q, .bool bad] 124 (0, 0)) ∧ p ≤ q ∧ q ≤ s.length ∧ (∀ j, p ≤ j → j < q → (!parting (s.getD j 0)) = true) ∧ Gb g w wr) (fun wr => s.length - (match wr.cell? ⟨g, 1, none⟩ with | some (.int _ n) => n.toNat | _ => 0))
  case atStart => exact ⟨p, H1.out, Nat.le_refl _, H2.out, fun j h1 h2 => by omega, Gb.refl _ _⟩
  case round =>
    obtain ⟨q, hb, hpq, hql, hno, hg⟩ := hrel
    have c0 := cell_of_block hb 0 _ rfl
    have c1 := cell_of_block hb 1 _ rfl
    have c2 := cell_of_block hb 2 _ rfl
    have fr := free_of_block hb
    have HB := Lib.hid hb
    have HNO := Lib.hid hno
    have HG := Lib.hid hg
    have HPQ := Lib.hid hpq
    have HQL := Lib.hid hql
    have HBQ := Lib.hid (gb_drewN g)
    clear hb hno hg hpq hql
    have hqw : IntKind.i64.wrap ((q : Int) + 1) = ((q + 1 : Nat) : Int) := by have := HQL.out; have := H3.out; rw [IntWalk.i64_in _ (by omega)]; omega
    by_cases hlt : q < s.length
    · have hqz : q < z.size := by rw [HZS.out]; exact hlt
      have d0 : decide (q < z.size) = true := decide_eq_true hqz
      obtain ⟨x, hx⟩ : ∃ x, s.getD q 0 = x := ⟨_, rfl⟩
      have hxz : z[q]'hqz = x := by have := HZ.out; subst this; rw [str_at, hx]
      have HX := Lib.hid hx
      have HLT := Lib.hid hlt
      clear hx hlt
      by_cases hpx : parting x = true
      · have HTW := Lib.hid (tw_all (f := fun c => !parting c) HQL.out HPQ.out HNO.out (.inr (by show (!parting (s.getD q 0)) = false; rw [HX.out, hpx]; rfl)))
        go_wp2
        go_quiet ((refine (rparting_is hpx _).mono ?_; rintro e w'' ⟨he1, he2⟩; exact ⟨he1, _, he2⟩))
        generalize hw2 : World.drewN wr _ = w2
        have hb2 : w2.heap[g]? = some (.cells #[.string z, .int .i64 q, .bool bad] 124 (0, 0)) := by rw [← hw2]; exact HB.out
        have HG2 : Hid (Gb g w w2) := Lib.hid (by rw [← hw2]; exact HG.out.trans (HBQ.out _ _))
        have f0 := cell_of_block hb2 0 _ rfl
        have f1 := cell_of_block hb2 1 _ rfl
        have f2 := cell_of_block hb2 2 _ rfl
        have fr2 := free_of_block hb2
        have HB2 := Lib.hid hb2
        clear hw2 hb2 c0 c1 c2 fr
        by_cases hqp : q = p
        · subst hqp
          have htn : (s.drop q).takeWhile (fun c => !parting c) = [] := by rw [HTW.out.1]; simp
          have HTN := Lib.hid htn
          clear htn
          have hb3 : (w2.setCell ⟨g, 2, none⟩ (.bool true)).heap[g]? = some (.cells #[.string z, .int .i64 q, .bool true] 124 (0, 0)) := set3c _ HB2.out
          have f30 := cell_of_block hb3 0 _ rfl
          have f31 := cell_of_block hb3 1 _ rfl
          have HB3 := Lib.hid hb3
          have hqz' : q ≤ z.size := by rw [HZS.out]; exact HQL.out
          clear hb3
          go_wp2
          go_quiet (fail)
          go_wp2
          go_ret
          refine ⟨q, ?_, HTW.out.2.symm, Nat.le_refl _, ?_, ?_⟩
          · rw [HTN.out]; rfl
          · rw [HTN.out]; exact ⟨by rw [HZ.out]; have := HB3.out; simpa using this, HQL.out, H3.out⟩
          · exact HG2.out.trans ((Gb.set _ _ _ _).trans (HBQ.out _ _))
        · have hqp' : ((q : Int) == (p : Int)) = false := beq_eq_false_iff_ne.2 (by omega)
          have htn : (s.drop p).takeWhile (fun c => !parting c) ≠ [] := by
            rw [HTW.out.1]
            intro e
            have := congrArg List.length e
            have := HPQ.out
            have := HQL.out
            simp only [List.length_take, List.length_drop, List.length_nil] at *
            omega
          have HTN := Lib.hid htn
          clear htn
          have hxe : z.extract p q = str ((s.drop p).takeWhile fun c => !parting c) := by
            rw [HTW.out.1]
            have := HZ.out
            subst this
            rw [extract_str]
          have HXE := Lib.hid hxe
          clear hxe
          have hpq' : p ≤ q := HPQ.out
          have hqz' : q ≤ z.size := by rw [HZS.out]; exact HQL.out
          go_wp2
          go_quiet (fail)
          go_wp2
          go_ret
          refine ⟨q, ?_, HTW.out.2.symm, HPQ.out, ⟨?_, HQL.out, H3.out⟩, ?_⟩
          · first | rfl | exact ret_str HXE.out
          · rw [HZ.out, show (bad || decide ((s.drop p).takeWhile (fun c => !parting c) = [])) = bad by simp [HTN.out]]
            exact HB2.out
          · exact HG2.out.trans (HBQ.out _ _)
      · have hpx' : parting x = false := by simpa using hpx
        have hno : ∀ j, p ≤ j → j < q + 1 → (!parting (s.getD j 0)) = true := fun j h1 h2 => by
          by_cases e : j = q
          · subst e; rw [HX.out, hpx']; rfl
          · exact HNO.out j h1 (by omega)
        have HN1 := Lib.hid hno
        clear hno hpx
        go_wp2
        go_quiet ((refine (rparting_is hpx' _).mono ?_; rintro e w'' ⟨he1, he2⟩; exact ⟨he1, _, he2⟩))
        generalize hw2 : World.drewN wr _ = w2
        have hb2 : w2.heap[g]? = some (.cells #[.string z, .int .i64 q, .bool bad] 124 (0, 0)) := by rw [← hw2]; exact HB.out
        have HG2 : Hid (Gb g w w2) := Lib.hid (by rw [← hw2]; exact HG.out.trans (HBQ.out _ _))
        have f0 := cell_of_block hb2 0 _ rfl
        have f1 := cell_of_block hb2 1 _ rfl
        have f2 := cell_of_block hb2 2 _ rfl
        have fr2 := free_of_block hb2
        have HB2 := Lib.hid hb2
        have HC1 := Lib.hid c1
        clear hw2 hb2 c0 c1 c2 fr
        go_wp2
        have hb3 : (w2.setCell ⟨g, 1, none⟩ (.int .i64 ((q + 1 : Nat) : Int))).heap[g]? = some (.cells #[.string z, .int .i64 ((q + 1 : Nat) : Int), .bool bad] 124 (0, 0)) := set3b _ HB2.out
        have HB3 := Lib.hid hb3
        clear hb3
        go_roundw
        case rel => exact ⟨q + 1, by have := HB3.out; simpa using this, by have := HPQ.out; omega, HLT.out, HN1.out, HG2.out.trans (Gb.set _ _ _ _)⟩
        case measure =>
          have h3 : (w2.setCell ⟨g, 1, none⟩ (.int .i64 ((q : Int) + 1))).cell? ⟨g, 1, none⟩ = some (.int .i64 ((q : Int) + 1)) := by
            have := cell_of_block HB3.out 1 _ rfl
            simpa using this
          rw [h3, HC1.out]
          have := HLT.out
          simp
          omega
    · have hqe : q = s.length := by have := HQL.out; omega
      have d0 : decide (q < z.size) = false := decide_eq_false (by rw [HZS.out]; omega)
      have HTW := Lib.hid (tw_all (f := fun c => !parting c) HQL.out HPQ.out HNO.out (.inl hqe))
      clear hqe hlt
      go_wp2
      go_quiet (fail)
      generalize hw2 : World.drewN wr _ = w2
      have hb2 : w2.heap[g]? = some (.cells #[.string z, .int .i64 q, .bool bad] 124 (0, 0)) := by rw [← hw2]; exact HB.out
      have HG2 : Hid (Gb g w w2) := Lib.hid (by rw [← hw2]; exact HG.out.trans (HBQ.out _ _))
      have f0 := cell_of_block hb2 0 _ rfl
      have f1 := cell_of_block hb2 1 _ rfl
      have f2 := cell_of_block hb2 2 _ rfl
      have fr2 := free_of_block hb2
      have HB2 := Lib.hid hb2
      clear hw2 hb2 c0 c1 c2 fr
      by_cases hqp : q = p
      · subst hqp
        have htn : (s.drop q).takeWhile (fun c => !parting c) = [] := by rw [HTW.out.1]; simp
        have HTN := Lib.hid htn
        clear htn
        have hb3 : (w2.setCell ⟨g, 2, none⟩ (.bool true)).heap[g]? = some (.cells #[.string z, .int .i64 q, .bool true] 124 (0, 0)) := set3c _ HB2.out
        have f30 := cell_of_block hb3 0 _ rfl
        have f31 := cell_of_block hb3 1 _ rfl
        have HB3 := Lib.hid hb3
        have hqz' : q ≤ z.size := by rw [HZS.out]; exact HQL.out
        clear hb3
        go_wp2
        go_quiet (fail)
        go_wp2
        go_ret
        refine ⟨q, ?_, HTW.out.2.symm, Nat.le_refl _, ?_, ?_⟩
        · rw [HTN.out]; rfl
        · rw [HTN.out]; exact ⟨by rw [HZ.out]; have := HB3.out; simpa using this, HQL.out, H3.out⟩
        · exact HG2.out.trans ((Gb.set _ _ _ _).trans (HBQ.out _ _))
      · have hqp' : ((q : Int) == (p : Int)) = false := beq_eq_false_iff_ne.2 (by omega)
        have htn : (s.drop p).takeWhile (fun c => !parting c) ≠ [] := by
          rw [HTW.out.1]
          intro e
          have := congrArg List.length e
          have := HPQ.out
          have := HQL.out
          simp only [List.length_take, List.length_drop, List.length_nil] at *
          omega
        have HTN := Lib.hid htn
        clear htn
        have hxe : z.extract p q = str ((s.drop p).takeWhile fun c => !parting c) := by
          rw [HTW.out.1]
          have := HZ.out
          subst this
          rw [extract_str]
        have HXE := Lib.hid hxe
        clear hxe
        have hpq' : p ≤ q := HPQ.out
        have hqz' : q ≤ z.size := by rw [HZS.out]; exact HQL.out
        go_wp2
        go_quiet (fail)
        go_wp2
        go_ret
        refine ⟨q, ?_, HTW.out.2.symm, HPQ.out, ⟨?_, HQL.out, H3.out⟩, ?_⟩
        · first | rfl | exact ret_str HXE.out
        · rw [HZ.out, show (bad || decide ((s.drop p).takeWhile (fun c => !parting c) = [])) = bad by simp [HTN.out]]
          exact HB2.out
        · exact HG2.out.trans (HBQ.out _ _)
end Go.Proofs.YtikamehjeaoilaaGreatDoor
/-! The reference's reader of a word: numbers. -/
set_option linter.unusedVariables false
set_option linter.unusedSimpArgs false
namespace Go.Proofs.YtikamehjeaoilaaGreatDoor
open Go.RowKit

theorem val_take_snoc (l : List UInt8) (k : Nat) (h : k < l.length) : val (l.take (k + 1)) = val (l.take k) * 10 + ((l[k]).toNat - 48) := by
  rw [List.take_add_one, List.getElem?_eq_getElem h]
  exact val_snoc _ _
def RNumPost (g : Nat) (s : List UInt8) (p : Nat) (bad : Bool) (most : Nat) (w : World) (e : Ending) (w' : World) : Prop :=
  ∃ n p' bad', e = .returned (.int .i64 (n : Nat)) ∧ RrAt w' g s p' bad' ∧ n ≤ 10 * most + 9 ∧ p ≤ p' ∧ Gb g w w' ∧ (bad = true → bad' = true) ∧
    (bad = false → match pNum most (s.drop p) with | some (m, t) => n = m ∧ bad' = false ∧ s.drop p' = t | none => bad' = true)
theorem pnum_bad {s : List UInt8} {p q most : Nat} (hq : q ≤ s.length) (hp : p ≤ q) (hd : ∀ j, p ≤ j → j < q → dig (s.getD j 0) = true) (hv : most < val ((s.drop p).take (q - p))) : pNum most (s.drop p) = none := by
  have hl := take_len (p := dig) (l := s.drop p) (k := q - p) (by simp; omega) (fun j hj hk => by
    have := hd (p + j) (by omega) (by omega)
    rw [List.getD_eq_getElem?_getD, List.getElem?_eq_getElem (by simp at hj; omega)] at this
    simpa using this)
  have hle : (s.drop p).take (q - p) = ((s.drop p).takeWhile dig).take (q - p) := by
    have h1 : s.drop p = (s.drop p).takeWhile dig ++ (s.drop p).dropWhile dig := (List.takeWhile_append_dropWhile).symm
    conv => lhs; rw [h1]
    rw [List.take_append_of_le_length hl.1]
  rw [hle] at hv
  have := val_take_le ((s.drop p).takeWhile dig) (q - p)
  unfold pNum
  rw [if_pos (.inr (.inr (by omega)))]
/-- What is known where the loop has ended. -/
structure NumEnd (s : List UInt8) (p q n most : Nat) (bad bd : Bool) : Prop where
  pq : p ≤ q
  ql : q ≤ s.length
  no : ∀ j, p ≤ j → j < q → dig (s.getD j 0) = true
  nv : n = val ((s.drop p).take (q - p))
  b0 : bd = false → n ≤ most
  b1 : bad = true → bd = true
  b2 : bad = false → bd = true → most < n
  ex : bd = true ∨ q = s.length ∨ dig (s.getD q 0) = false
theorem NumEnd.over {s : List UInt8} {p q n most : Nat} {bad bd : Bool} (h : NumEnd s p q n most bad bd) (hb : bad = false) (hd : bd = true) : pNum most (s.drop p) = none :=
  pnum_bad h.ql h.pq h.no (by rw [← h.nv]; exact h.b2 hb hd)
theorem NumEnd.tw {s : List UInt8} {p q n most : Nat} {bad : Bool} (h : NumEnd s p q n most bad false) : (s.drop p).takeWhile dig = (s.drop p).take (q - p) ∧ (s.drop p).dropWhile dig = s.drop q :=
  tw_all h.ql h.pq h.no (h.ex.resolve_left (by simp))
theorem NumEnd.zero {s : List UInt8} {p n most : Nat} {bad bd : Bool} (h : NumEnd s p p n most bad bd) (hb : bad = false) : pNum most (s.drop p) = none := by
  cases bd
  · unfold pNum
    rw [if_pos (.inl (by rw [h.tw.1]; simp))]
  · exact h.over hb rfl
theorem NumEnd.nought {s : List UInt8} {p q n most : Nat} {bad bd : Bool} (h : NumEnd s p q n most bad bd) (hb : bad = false) (hq : p + 1 < q) (h0 : s.getD p 0 = 48) : pNum most (s.drop p) = none := by
  cases bd
  · have := h.ql
    unfold pNum
    rw [if_pos (.inr (.inl (by
      rw [h.tw.1]
      refine ⟨?_, by simp; omega⟩
      rw [List.head?_take, if_neg (by omega), List.head?_drop]
      rw [List.getD_eq_getElem?_getD, List.getElem?_eq_getElem (by omega)] at h0
      rw [List.getElem?_eq_getElem (by omega)]
      exact congrArg some h0)))]
  · exact h.over hb rfl
theorem NumEnd.fine {s : List UInt8} {p q n most : Nat} {bad bd : Bool} (h : NumEnd s p q n most bad bd) (hb : bad = false) (hq : p < q) (h0 : s.getD p 0 ≠ 48 ∨ q ≤ p + 1) :
    match pNum most (s.drop p) with | some (m, t) => n = m ∧ bd = false ∧ s.drop q = t | none => bd = true := by
  cases bd
  · have := h.ql
    have h1 := h.b0 rfl
    rw [h.nv] at h1
    have e : pNum most (s.drop p) = some (val ((s.drop p).take (q - p)), s.drop q) := by
      unfold pNum
      rw [h.tw.1, h.tw.2, if_neg]
      rintro (k | ⟨k1, k2⟩ | k)
      · have := congrArg List.length k
        simp at this
        omega
      · rw [List.head?_take, if_neg (by omega), List.head?_drop, List.getElem?_eq_getElem (by omega)] at k1
        rw [List.getD_eq_getElem?_getD, List.getElem?_eq_getElem (by omega)] at h0
        simp at k2
        rcases h0 with h0 | h0
        · exact h0 (by simpa using k1)
        · omega
      · omega
    rw [e]
    exact ⟨h.nv, rfl, rfl⟩
  · rw [h.over hb rfl]
set_option maxHeartbeats 8000000 in
set_option maxRecDepth 100000 in
theorem rr_number (g : Nat) (s : List UInt8) (p : Nat) (bad : Bool) (most : Nat) (hm : most ≤ 999999999999999) (w : World) (h : RrAt w g s p bad) :
    Calls Tryz.prog 73 #[.pointer (some ⟨g, 0, none⟩), .int .i64 most] w (RNumPost g s p bad most w) := by
  obtain ⟨h1, h2, h3⟩ := h
  obtain ⟨z, hz⟩ : ∃ z, str s = z := ⟨_, rfl⟩
  have hzs : z.size = s.length := by rw [← hz, str_size]
  rw [hz] at h1
  have e1 := cell_of_block h1 1 _ rfl
  have H1 := Lib.hid h1
  have HZ := Lib.hid hz
  have HZS := Lib.hid hzs
  have H2 := Lib.hid h2
  have H3 := Lib.hid h3
  have HM := Lib.hid hm
  have HBQ := Lib.hid (gb_drewN g)
  clear h1 hz hzs h2 h3 hm
  go_enter Tryz.func73, Tryz.ntmps73
  go_wp2
  go_loopw [6] (fun nn wr => ∃ (q n : Nat) (bd : Bool), nn = .int .i64 n ∧ wr.heap[g]? = some (.cells #[.string z, .int .i64 q, .bool bd] 124 (0, 0)) ∧ p ≤ q ∧ q ≤ s.length ∧ (∀ j, p ≤ j → j < q → dig (s.getD j 0) = true) ∧ n = val ((s.drop p).take (q - p)) ∧ n ≤ 10 * most + 9 ∧ (bd = false → n ≤ most) ∧ (bad = true → bd = true) ∧ (bad = false → bd = true → most < n) ∧ Gb g w wr)
    (fun _ wr => s.length - (match wr.cell? ⟨g, 1, none⟩ with | some (.int _ n) => n.toNat | _ => 0))
  case atStart => exact ⟨p, 0, bad, rfl, H1.out, Nat.le_refl _, H2.out, (fun j h1 h2 => by omega), (by simp [val, valF]), (by omega), (fun _ => Nat.zero_le _), (fun h => h), (fun h k => by rw [h] at k; exact absurd k (by simp)), Gb.refl _ _⟩
  case round =>
    obtain ⟨q, n, bd, rfl, hb, hpq, hql, hno, hn, hnm, hb0, hb1, hb2, hg⟩ := hrel
    have c0 := cell_of_block hb 0 _ rfl
    have c1 := cell_of_block hb 1 _ rfl
    have c2 := cell_of_block hb 2 _ rfl
    have fr := free_of_block hb
    have HB := Lib.hid hb
    have HNO := Lib.hid hno
    have HG := Lib.hid hg
    have HPQ := Lib.hid hpq
    have HQL := Lib.hid hql
    have HN := Lib.hid hn
    have HNM := Lib.hid hnm
    have HB0 := Lib.hid hb0
    have HB1 := Lib.hid hb1
    have HB2 := Lib.hid hb2
    clear hb hno hg hpq hql hn hnm hb0 hb1 hb2
    cases bd
    · by_cases hlt : q < s.length
      · have hqz : q < z.size := by rw [HZS.out]; exact hlt
        have d0 : decide (q < z.size) = true := decide_eq_true hqz
        obtain ⟨x, hx⟩ : ∃ x, s.getD q 0 = x := ⟨_, rfl⟩
        have hxz : z[q]'hqz = x := by have := HZ.out; subst this; rw [str_at, hx]
        have HX := Lib.hid hx
        have HLT := Lib.hid hlt
        clear hx hlt
        by_cases hd1 : 48 ≤ x.toNat
        · have d1 : decide ((48 : Int) ≤ (x.toNat : Int)) = true := decide_eq_true (by omega)
          by_cases hd2 : x.toNat ≤ 57
          · have d2 : decide ((x.toNat : Int) ≤ 57) = true := decide_eq_true (by omega)
            obtain ⟨dx, hdx⟩ : ∃ dx : Nat, x.toNat = 48 + dx := ⟨x.toNat - 48, by omega⟩
            have hdx9 : dx ≤ 9 := by omega
            have hn1 : n ≤ most := HB0.out rfl
            have hM := HM.out
            have hq3 := H3.out
            have hq4 := HLT.out
            have w0 : IntKind.i64.wrap (10 * (n : Int)) = 10 * (n : Int) := IntWalk.i64_in _ (by omega)
            have w1 : IntKind.u8.wrap ((x.toNat : Int) - 48) = ((dx : Nat) : Int) := by rw [hdx, IntWalk.u8_in _ (by omega)]; omega
            have w2 : IntKind.i64.wrap ((dx : Nat) : Int) = ((dx : Nat) : Int) := IntWalk.i64_in _ (by omega)
            have w3 : IntKind.i64.wrap (10 * (n : Int) + (dx : Int)) = ((10 * n + dx : Nat) : Int) := by rw [IntWalk.i64_in _ (by omega)]; omega
            have w4 : IntKind.i64.wrap ((q : Int) + 1) = ((q + 1 : Nat) : Int) := by rw [IntWalk.i64_in _ (by omega)]; omega
            have hno : ∀ j, p ≤ j → j < q + 1 → dig (s.getD j 0) = true := fun j h1 h2 => by
              by_cases e : j = q
              · subst e; rw [HX.out]; simp [dig]; omega
              · exact HNO.out j h1 (by omega)
            have hnv : 10 * n + dx = val ((s.drop p).take (q + 1 - p)) := by
              have := HPQ.out
              have hl := HLT.out
              rw [show q + 1 - p = (q - p) + 1 by omega, val_take_snoc _ _ (by simp; omega), ← HN.out]
              have e : (s.drop p)[q - p]'(by simp; omega) = x := by
                rw [← HX.out, List.getD_eq_getElem?_getD, List.getElem?_eq_getElem hl]
                simp
                congr 1
                omega
              rw [e]
              omega
            have HN1 := Lib.hid hno
            have HNV := Lib.hid hnv
            have HD9 := Lib.hid hdx9
            have HNL := Lib.hid hn1
            clear hno hnv hd1 hd2 hdx hdx9 hn1 hM hq3 hq4
            go_wp2
            go_quiet (fail)
            generalize hw2 : World.drewN wr _ = w2'
            have hb2 : w2'.heap[g]? = some (.cells #[.string z, .int .i64 q, .bool false] 124 (0, 0)) := by rw [← hw2]; exact HB.out
            have HG2 : Hid (Gb g w w2') := Lib.hid (by rw [← hw2]; exact HG.out.trans (HBQ.out _ _))
            have f0 := cell_of_block hb2 0 _ rfl
            have f1 := cell_of_block hb2 1 _ rfl
            have fr2 := free_of_block hb2
            have HW2 := Lib.hid hb2
            clear hw2 hb2 c0 c2 fr
            go_wp2
            go_quiet (fail)
            generalize hw3 : World.drewN w2' _ = w3'
            have hb2 : w3'.heap[g]? = some (.cells #[.string z, .int .i64 q, .bool false] 124 (0, 0)) := by rw [← hw3]; exact HW2.out
            replace HG2 : Hid (Gb g w w3') := Lib.hid (by rw [← hw3]; exact HG2.out.trans (HBQ.out _ _))
            have f0' := cell_of_block hb2 0 _ rfl
            have f1' := cell_of_block hb2 1 _ rfl
            have f2' := cell_of_block hb2 2 _ rfl
            have fr2' := free_of_block hb2
            replace HW2 := Lib.hid hb2
            clear hw3 hb2 f0 f1 fr2
            have hb3 : (w3'.setCell ⟨g, 1, none⟩ (.int .i64 ((q + 1 : Nat) : Int))).heap[g]? = some (.cells #[.string z, .int .i64 ((q + 1 : Nat) : Int), .bool false] 124 (0, 0)) := set3b _ HW2.out
            have HW3 := Lib.hid hb3
            have HC1 := Lib.hid c1
            clear hb3 c1
            by_cases hov : most < 10 * n + dx
            · have k1 : decide (most < 10 * n + dx) = true := decide_eq_true hov
              have k1' : decide ((most : Int) < 10 * (n : Int) + (dx : Int)) = true := decide_eq_true (by omega)
              have k1'' : (most : Int) < 10 * (n : Int) + (dx : Int) := by omega
              have HOV := Lib.hid hov
              clear hov
              go_wp2
              go_roundw
              case rel =>
                refine ⟨q + 1, 10 * n + dx, true, by go_num, ?_, by have := HPQ.out; omega, HLT.out, HN1.out, HNV.out, by have := HD9.out; have := HNL.out; omega, (fun h => by cases h), fun _ => rfl, fun _ _ => HOV.out, (HG2.out.trans (Gb.set _ _ _ _)).trans (Gb.set _ _ _ _)⟩
                have := set3c (.bool true) HW3.out
                simpa using this
              case measure =>
                have h4 : ((w3'.setCell ⟨g, 1, none⟩ (.int .i64 ((q : Int) + 1))).setCell ⟨g, 2, none⟩ (.bool true)).cell? ⟨g, 1, none⟩ = some (.int .i64 ((q : Int) + 1)) := by
                  have := cell_of_block (set3c (.bool true) HW3.out) 1 _ rfl
                  simpa using this
                rw [h4, HC1.out]
                have := HLT.out
                simp
                omega
            · have k1 : decide (most < 10 * n + dx) = false := decide_eq_false hov
              have k1' : decide ((most : Int) < 10 * (n : Int) + (dx : Int)) = false := decide_eq_false (by omega)
              have k1'' : ¬ (most : Int) < 10 * (n : Int) + (dx : Int) := by omega
              have HOV := Lib.hid (Nat.not_lt.1 hov)
              clear hov
              go_wp2
              go_roundw
              case rel =>
                exact ⟨q + 1, 10 * n + dx, false, by go_num, by have := HW3.out; simpa using this, by have := HPQ.out; omega, HLT.out, HN1.out, HNV.out, by have := HOV.out; omega, fun _ => HOV.out, HB1.out, (fun _ h => by cases h), HG2.out.trans (Gb.set _ _ _ _)⟩
              case measure =>
                have h4 : (w3'.setCell ⟨g, 1, none⟩ (.int .i64 ((q : Int) + 1))).cell? ⟨g, 1, none⟩ = some (.int .i64 ((q : Int) + 1)) := by
                  have := cell_of_block HW3.out 1 _ rfl
                  simpa using this
                rw [h4, HC1.out]
                have := HLT.out
                simp
                omega
          · have d2 : decide ((x.toNat : Int) ≤ 57) = false := decide_eq_false (by omega)
            have HE : Hid (NumEnd s p q n most bad false) := Lib.hid ⟨HPQ.out, HQL.out, HNO.out, HN.out, HB0.out, HB1.out, HB2.out, .inr (.inr (by rw [HX.out]; simp [dig]; omega))⟩
            clear hd1 hd2
            go_wp2
            go_quiet (fail)
            obtain ⟨bd, hbd⟩ : ∃ bd, bd = false := ⟨_, rfl⟩
            rw [← hbd] at HE HB
            clear hbd
            generalize hw2 : World.drewN wr _ = w2
            have hb2 : w2.heap[g]? = some (.cells #[.string z, .int .i64 q, .bool bd] 124 (0, 0)) := by rw [← hw2]; exact HB.out
            have HG2 : Hid (Gb g w w2) := Lib.hid (by rw [← hw2]; exact HG.out.trans (HBQ.out _ _))
            have f0 := cell_of_block hb2 0 _ rfl
            have f1 := cell_of_block hb2 1 _ rfl
            have f2 := cell_of_block hb2 2 _ rfl
            have fr2 := free_of_block hb2
            have HW2 := Lib.hid hb2
            clear hw2 hb2 c0 c1 c2 fr
            by_cases hqp : q = p
            · subst hqp
              go_wp2
              go_ret
              exact ⟨0, q, true, rfl, ⟨by rw [HZ.out]; exact set3c _ HW2.out, HQL.out, H3.out⟩, Nat.zero_le _, Nat.le_refl _, HG2.out.trans (Gb.set _ _ _ _), fun _ => rfl, fun h => by rw [HE.out.zero h]⟩
            · have hpq' : p < q := by have := HPQ.out; omega
              have hps : p < z.size := by rw [HZS.out]; have := HQL.out; omega
              have k0 : ((q : Int) == (p : Int)) = false := beq_eq_false_iff_ne.2 (by omega)
              have kw : IntKind.i64.wrap ((p : Int) + 1) = ((p + 1 : Nat) : Int) := by have := HQL.out; have := H3.out; rw [IntWalk.i64_in _ (by omega)]; omega
              obtain ⟨y, hy⟩ : ∃ y, s.getD p 0 = y := ⟨_, rfl⟩
              have hyz : z[p]'hps = y := by have := HZ.out; subst this; rw [str_at, hy]
              have HY := Lib.hid hy
              clear hy hqp
              by_cases h48 : y = 48
              · have k1 : ((y.toNat : Int) == 48) = true := by rw [h48]; rfl
                have HY0 : Hid (s.getD p 0 = 48) := Lib.hid (by rw [HY.out]; exact h48)
                by_cases hq1 : p + 1 < q
                · have k2 : decide (p + 1 < q) = true := decide_eq_true hq1
                  have k3 : decide ((p : Int) + 1 < (q : Int)) = true := decide_eq_true (by omega)
                  have HQ1 := Lib.hid hq1
                  clear h48 hq1
                  go_wp2
                  go_ret
                  exact ⟨0, q, true, rfl, ⟨by rw [HZ.out]; exact set3c _ HW2.out, HQL.out, H3.out⟩, Nat.zero_le _, HPQ.out, HG2.out.trans (Gb.set _ _ _ _), fun _ => rfl, fun h => by rw [HE.out.nought h HQ1.out HY0.out]⟩
                · have k2 : decide (p + 1 < q) = false := decide_eq_false hq1
                  have k3 : decide ((p : Int) + 1 < (q : Int)) = false := decide_eq_false (by omega)
                  have HQ1 := Lib.hid (Nat.not_lt.1 hq1)
                  have HPQ' := Lib.hid hpq'
                  clear h48 hq1 hpq'
                  go_wp2
                  go_ret
                  exact ⟨n, q, bd, rfl, ⟨by rw [HZ.out]; exact HW2.out, HQL.out, H3.out⟩, HNM.out, HPQ.out, HG2.out, HE.out.b1, fun h => HE.out.fine h HPQ'.out (.inr HQ1.out)⟩
              · have k1 : ((y.toNat : Int) == 48) = false := by
                  rw [beq_eq_false_iff_ne]
                  intro e
                  exact h48 (UInt8.toNat_inj.1 (by rw [show (48 : UInt8).toNat = 48 from rfl]; omega))
                have HY0 : Hid (s.getD p 0 ≠ 48) := Lib.hid (by rw [HY.out]; exact h48)
                have HPQ' := Lib.hid hpq'
                clear h48 hpq'
                go_wp2
                go_ret
                exact ⟨n, q, bd, rfl, ⟨by rw [HZ.out]; exact HW2.out, HQL.out, H3.out⟩, HNM.out, HPQ.out, HG2.out, HE.out.b1, fun h => HE.out.fine h HPQ'.out (.inl HY0.out)⟩
        · have d1 : decide ((48 : Int) ≤ (x.toNat : Int)) = false := decide_eq_false (by omega)
          have HE : Hid (NumEnd s p q n most bad false) := Lib.hid ⟨HPQ.out, HQL.out, HNO.out, HN.out, HB0.out, HB1.out, HB2.out, .inr (.inr (by rw [HX.out]; simp [dig]; omega))⟩
          clear hd1
          go_wp2
          go_quiet (fail)
          obtain ⟨bd, hbd⟩ : ∃ bd, bd = false := ⟨_, rfl⟩
          rw [← hbd] at HE HB
          clear hbd
          generalize hw2 : World.drewN wr _ = w2
          have hb2 : w2.heap[g]? = some (.cells #[.string z, .int .i64 q, .bool bd] 124 (0, 0)) := by rw [← hw2]; exact HB.out
          have HG2 : Hid (Gb g w w2) := Lib.hid (by rw [← hw2]; exact HG.out.trans (HBQ.out _ _))
          have f0 := cell_of_block hb2 0 _ rfl
          have f1 := cell_of_block hb2 1 _ rfl
          have f2 := cell_of_block hb2 2 _ rfl
          have fr2 := free_of_block hb2
          have HW2 := Lib.hid hb2
          clear hw2 hb2 c0 c1 c2 fr
          by_cases hqp : q = p
          · subst hqp
            go_wp2
            go_ret
            exact ⟨0, q, true, rfl, ⟨by rw [HZ.out]; exact set3c _ HW2.out, HQL.out, H3.out⟩, Nat.zero_le _, Nat.le_refl _, HG2.out.trans (Gb.set _ _ _ _), fun _ => rfl, fun h => by rw [HE.out.zero h]⟩
          · have hpq' : p < q := by have := HPQ.out; omega
            have hps : p < z.size := by rw [HZS.out]; have := HQL.out; omega
            have k0 : ((q : Int) == (p : Int)) = false := beq_eq_false_iff_ne.2 (by omega)
            have kw : IntKind.i64.wrap ((p : Int) + 1) = ((p + 1 : Nat) : Int) := by have := HQL.out; have := H3.out; rw [IntWalk.i64_in _ (by omega)]; omega
            obtain ⟨y, hy⟩ : ∃ y, s.getD p 0 = y := ⟨_, rfl⟩
            have hyz : z[p]'hps = y := by have := HZ.out; subst this; rw [str_at, hy]
            have HY := Lib.hid hy
            clear hy hqp
            by_cases h48 : y = 48
            · have k1 : ((y.toNat : Int) == 48) = true := by rw [h48]; rfl
              have HY0 : Hid (s.getD p 0 = 48) := Lib.hid (by rw [HY.out]; exact h48)
              by_cases hq1 : p + 1 < q
              · have k2 : decide (p + 1 < q) = true := decide_eq_true hq1
                have k3 : decide ((p : Int) + 1 < (q : Int)) = true := decide_eq_true (by omega)
                have HQ1 := Lib.hid hq1
                clear h48 hq1
                go_wp2
                go_ret
                exact ⟨0, q, true, rfl, ⟨by rw [HZ.out]; exact set3c _ HW2.out, HQL.out, H3.out⟩, Nat.zero_le _, HPQ.out, HG2.out.trans (Gb.set _ _ _ _), fun _ => rfl, fun h => by rw [HE.out.nought h HQ1.out HY0.out]⟩
              · have k2 : decide (p + 1 < q) = false := decide_eq_false hq1
                have k3 : decide ((p : Int) + 1 < (q : Int)) = false := decide_eq_false (by omega)
                have HQ1 := Lib.hid (Nat.not_lt.1 hq1)
                have HPQ' := Lib.hid hpq'
                clear h48 hq1 hpq'
                go_wp2
                go_ret
                exact ⟨n, q, bd, rfl, ⟨by rw [HZ.out]; exact HW2.out, HQL.out, H3.out⟩, HNM.out, HPQ.out, HG2.out, HE.out.b1, fun h => HE.out.fine h HPQ'.out (.inr HQ1.out)⟩
            · have k1 : ((y.toNat : Int) == 48) = false := by
                rw [beq_eq_false_iff_ne]
                intro e
                exact h48 (UInt8.toNat_inj.1 (by rw [show (48 : UInt8).toNat = 48 from rfl]; omega))
              have HY0 : Hid (s.getD p 0 ≠ 48) := Lib.hid (by rw [HY.out]; exact h48)
              have HPQ' := Lib.hid hpq'
              clear h48 hpq'
              go_wp2
              go_ret
              exact ⟨n, q, bd, rfl, ⟨by rw [HZ.out]; exact HW2.out, HQL.out, H3.out⟩, HNM.out, HPQ.out, HG2.out, HE.out.b1, fun h => HE.out.fine h HPQ'.out (.inl HY0.out)⟩
      · have hqe : q = s.length := by have := HQL.out; omega
        have d0 : decide (q < z.size) = false := decide_eq_false (by rw [HZS.out]; omega)
        have HE : Hid (NumEnd s p q n most bad false) := Lib.hid ⟨HPQ.out, HQL.out, HNO.out, HN.out, HB0.out, HB1.out, HB2.out, .inr (.inl hqe)⟩
        clear hqe hlt
        go_wp2
        go_quiet (fail)
        obtain ⟨bd, hbd⟩ : ∃ bd, bd = false := ⟨_, rfl⟩
        rw [← hbd] at HE HB
        clear hbd
        generalize hw2 : World.drewN wr _ = w2
        have hb2 : w2.heap[g]? = some (.cells #[.string z, .int .i64 q, .bool bd] 124 (0, 0)) := by rw [← hw2]; exact HB.out
        have HG2 : Hid (Gb g w w2) := Lib.hid (by rw [← hw2]; exact HG.out.trans (HBQ.out _ _))
        have f0 := cell_of_block hb2 0 _ rfl
        have f1 := cell_of_block hb2 1 _ rfl
        have f2 := cell_of_block hb2 2 _ rfl
        have fr2 := free_of_block hb2
        have HW2 := Lib.hid hb2
        clear hw2 hb2 c0 c1 c2 fr
        by_cases hqp : q = p
        · subst hqp
          go_wp2
          go_ret
          exact ⟨0, q, true, rfl, ⟨by rw [HZ.out]; exact set3c _ HW2.out, HQL.out, H3.out⟩, Nat.zero_le _, Nat.le_refl _, HG2.out.trans (Gb.set _ _ _ _), fun _ => rfl, fun h => by rw [HE.out.zero h]⟩
        · have hpq' : p < q := by have := HPQ.out; omega
          have hps : p < z.size := by rw [HZS.out]; have := HQL.out; omega
          have k0 : ((q : Int) == (p : Int)) = false := beq_eq_false_iff_ne.2 (by omega)
          have kw : IntKind.i64.wrap ((p : Int) + 1) = ((p + 1 : Nat) : Int) := by have := HQL.out; have := H3.out; rw [IntWalk.i64_in _ (by omega)]; omega
          obtain ⟨y, hy⟩ : ∃ y, s.getD p 0 = y := ⟨_, rfl⟩
          have hyz : z[p]'hps = y := by have := HZ.out; subst this; rw [str_at, hy]
          have HY := Lib.hid hy
          clear hy hqp
          by_cases h48 : y = 48
          · have k1 : ((y.toNat : Int) == 48) = true := by rw [h48]; rfl
            have HY0 : Hid (s.getD p 0 = 48) := Lib.hid (by rw [HY.out]; exact h48)
            by_cases hq1 : p + 1 < q
            · have k2 : decide (p + 1 < q) = true := decide_eq_true hq1
              have k3 : decide ((p : Int) + 1 < (q : Int)) = true := decide_eq_true (by omega)
              have HQ1 := Lib.hid hq1
              clear h48 hq1
              go_wp2
              go_ret
              exact ⟨0, q, true, rfl, ⟨by rw [HZ.out]; exact set3c _ HW2.out, HQL.out, H3.out⟩, Nat.zero_le _, HPQ.out, HG2.out.trans (Gb.set _ _ _ _), fun _ => rfl, fun h => by rw [HE.out.nought h HQ1.out HY0.out]⟩
            · have k2 : decide (p + 1 < q) = false := decide_eq_false hq1
              have k3 : decide ((p : Int) + 1 < (q : Int)) = false := decide_eq_false (by omega)
              have HQ1 := Lib.hid (Nat.not_lt.1 hq1)
              have HPQ' := Lib.hid hpq'
              clear h48 hq1 hpq'
              go_wp2
              go_ret
              exact ⟨n, q, bd, rfl, ⟨by rw [HZ.out]; exact HW2.out, HQL.out, H3.out⟩, HNM.out, HPQ.out, HG2.out, HE.out.b1, fun h => HE.out.fine h HPQ'.out (.inr HQ1.out)⟩
          · have k1 : ((y.toNat : Int) == 48) = false := by
              rw [beq_eq_false_iff_ne]
              intro e
              exact h48 (UInt8.toNat_inj.1 (by rw [show (48 : UInt8).toNat = 48 from rfl]; omega))
            have HY0 : Hid (s.getD p 0 ≠ 48) := Lib.hid (by rw [HY.out]; exact h48)
            have HPQ' := Lib.hid hpq'
            clear h48 hpq'
            go_wp2
            go_ret
            exact ⟨n, q, bd, rfl, ⟨by rw [HZ.out]; exact HW2.out, HQL.out, H3.out⟩, HNM.out, HPQ.out, HG2.out, HE.out.b1, fun h => HE.out.fine h HPQ'.out (.inl HY0.out)⟩
    · have HE : Hid (NumEnd s p q n most bad true) := Lib.hid ⟨HPQ.out, HQL.out, HNO.out, HN.out, HB0.out, HB1.out, HB2.out, .inl rfl⟩
      go_wp2
      go_quiet (fail)
      obtain ⟨bd, hbd⟩ : ∃ bd, bd = true := ⟨_, rfl⟩
      rw [← hbd] at HE HB
      clear hbd
      generalize hw2 : World.drewN wr _ = w2
      have hb2 : w2.heap[g]? = some (.cells #[.string z, .int .i64 q, .bool bd] 124 (0, 0)) := by rw [← hw2]; exact HB.out
      have HG2 : Hid (Gb g w w2) := Lib.hid (by rw [← hw2]; exact HG.out.trans (HBQ.out _ _))
      have f0 := cell_of_block hb2 0 _ rfl
      have f1 := cell_of_block hb2 1 _ rfl
      have f2 := cell_of_block hb2 2 _ rfl
      have fr2 := free_of_block hb2
      have HW2 := Lib.hid hb2
      clear hw2 hb2 c0 c1 c2 fr
      by_cases hqp : q = p
      · subst hqp
        go_wp2
        go_ret
        exact ⟨0, q, true, rfl, ⟨by rw [HZ.out]; exact set3c _ HW2.out, HQL.out, H3.out⟩, Nat.zero_le _, Nat.le_refl _, HG2.out.trans (Gb.set _ _ _ _), fun _ => rfl, fun h => by rw [HE.out.zero h]⟩
      · have hpq' : p < q := by have := HPQ.out; omega
        have hps : p < z.size := by rw [HZS.out]; have := HQL.out; omega
        have k0 : ((q : Int) == (p : Int)) = false := beq_eq_false_iff_ne.2 (by omega)
        have kw : IntKind.i64.wrap ((p : Int) + 1) = ((p + 1 : Nat) : Int) := by have := HQL.out; have := H3.out; rw [IntWalk.i64_in _ (by omega)]; omega
        obtain ⟨y, hy⟩ : ∃ y, s.getD p 0 = y := ⟨_, rfl⟩
        have hyz : z[p]'hps = y := by have := HZ.out; subst this; rw [str_at, hy]
        have HY := Lib.hid hy
        clear hy hqp
        by_cases h48 : y = 48
        · have k1 : ((y.toNat : Int) == 48) = true := by rw [h48]; rfl
          have HY0 : Hid (s.getD p 0 = 48) := Lib.hid (by rw [HY.out]; exact h48)
          by_cases hq1 : p + 1 < q
          · have k2 : decide (p + 1 < q) = true := decide_eq_true hq1
            have k3 : decide ((p : Int) + 1 < (q : Int)) = true := decide_eq_true (by omega)
            have HQ1 := Lib.hid hq1
            clear h48 hq1
            go_wp2
            go_ret
            exact ⟨0, q, true, rfl, ⟨by rw [HZ.out]; exact set3c _ HW2.out, HQL.out, H3.out⟩, Nat.zero_le _, HPQ.out, HG2.out.trans (Gb.set _ _ _ _), fun _ => rfl, fun h => by rw [HE.out.nought h HQ1.out HY0.out]⟩
          · have k2 : decide (p + 1 < q) = false := decide_eq_false hq1
            have k3 : decide ((p : Int) + 1 < (q : Int)) = false := decide_eq_false (by omega)
            have HQ1 := Lib.hid (Nat.not_lt.1 hq1)
            have HPQ' := Lib.hid hpq'
            clear h48 hq1 hpq'
            go_wp2
            go_ret
            exact ⟨n, q, bd, rfl, ⟨by rw [HZ.out]; exact HW2.out, HQL.out, H3.out⟩, HNM.out, HPQ.out, HG2.out, HE.out.b1, fun h => HE.out.fine h HPQ'.out (.inr HQ1.out)⟩
        · have k1 : ((y.toNat : Int) == 48) = false := by
            rw [beq_eq_false_iff_ne]
            intro e
            exact h48 (UInt8.toNat_inj.1 (by rw [show (48 : UInt8).toNat = 48 from rfl]; omega))
          have HY0 : Hid (s.getD p 0 ≠ 48) := Lib.hid (by rw [HY.out]; exact h48)
          have HPQ' := Lib.hid hpq'
          clear h48 hpq'
          go_wp2
          go_ret
          exact ⟨n, q, bd, rfl, ⟨by rw [HZ.out]; exact HW2.out, HQL.out, H3.out⟩, HNM.out, HPQ.out, HG2.out, HE.out.b1, fun h => HE.out.fine h HPQ'.out (.inl HY0.out)⟩
end Go.Proofs.YtikamehjeaoilaaGreatDoor
/-! The reference's reader of a word: pairs of numbers, rows of names. -/
set_option linter.unusedVariables false
set_option linter.unusedSimpArgs false
namespace Go.Proofs.YtikamehjeaoilaaGreatDoor
open Go.RowKit

theorem sign_p (s : List UInt8) (p : Nat) (c : UInt8) : pSign c (s.drop p) = (signR s p false c, s.drop (if signR s p false c = true then p + 1 else p)) := by
  unfold signR
  by_cases hp : p < s.length
  · rw [List.drop_eq_getElem_cons hp]
    have hg : s.getD p 0 = s[p] := by rw [List.getD_eq_getElem?_getD, List.getElem?_eq_getElem hp]; rfl
    rw [hg]
    by_cases h : s[p] = c
    · simp [pSign, h, hp]
    · simp [pSign, h, hp]
  · rw [List.drop_eq_nil_of_le (by omega)]
    simp [pSign, hp]
    omega
theorem must_p (s : List UInt8) (p : Nat) (c : UInt8) : pMust c (s.drop p) = if signR s p false c = true then some (s.drop (p + 1)) else none := by
  unfold pMust
  rw [sign_p]
  by_cases h : signR s p false c = true <;> simp [h]
theorem name_p (s : List UInt8) (p : Nat) : pName (s.drop p) = if (s.drop p).takeWhile (fun c => !parting c) = [] then none else some ((s.drop p).takeWhile (fun c => !parting c), (s.drop p).dropWhile (fun c => !parting c)) := rfl
def VecPost2 (g : Nat) (s : List UInt8) (p : Nat) (bad : Bool) (most : Nat) (w : World) (e : Ending) (w' : World) : Prop :=
  ∃ a b p' bad', e = .returned (.agg #[.int .i64 (a : Nat), .int .i64 (b : Nat)]) ∧ RrAt w' g s p' bad' ∧ a ≤ 10 * most + 9 ∧ b ≤ 10 * most + 9 ∧ p ≤ p' ∧ Gb g w w' ∧ (bad = true → bad' = true) ∧
    (bad = false → match pVec most (s.drop p) with | some (v, t) => v = (a, b) ∧ bad' = false ∧ s.drop p' = t | none => bad' = true)
set_option maxHeartbeats 4000000 in
set_option maxRecDepth 100000 in
theorem rr_vec (g : Nat) (s : List UInt8) (p : Nat) (bad : Bool) (most : Nat) (hm : most ≤ 999999999999999) (w : World) (h : RrAt w g s p bad) :
    Calls Tryz.prog 77 #[.pointer (some ⟨g, 0, none⟩), .int .i64 most] w (VecPost2 g s p bad most w) := by
  have HM := Lib.hid hm
  have H := Lib.hid h
  have hgl : g < w.heap.size := (Array.getElem?_eq_some_iff.1 h.1).1
  have HGL := Lib.hid hgl
  clear hm h hgl
  go_enter Tryz.func77, Tryz.ntmps77
  go_wp2_with fail
  have hz : (w.alloc (.cells #[.int .i64 0, .int .i64 0] 28)).heap[w.heap.size]? = some (.cells #[.int .i64 0, .int .i64 0] 28 (0, 0)) := alloc_at _ _
  have hb : Below w.heap.size w (w.alloc (.cells #[.int .i64 0, .int .i64 0] 28)) := below_alloc' (Below.refl _ _) _
  generalize World.alloc w _ = w1 at hz hb ⊢
  refine (rr_number g s p bad most HM.out w1 (H.out.below hb)).mono ?_
  rintro e w2 ⟨a, p1, b1, rfl, hr, hn, hpp, hg, hbb, hmm⟩
  have hz2 := hg.block' hz (by have := HGL.out; omega)
  have HZ2 := Lib.hid hz2
  have HG2 := Lib.hid ((Gb.of_below hb).trans hg)
  have HR := Lib.hid hr
  have HN := Lib.hid hn
  have HPP := Lib.hid hpp
  have HBB := Lib.hid hbb
  have HMM := Lib.hid hmm
  clear hz hb hz2 hg hr hn hpp hbb hmm
  go_wp2_with fail
  have hv3 : (w2.alloc (.cells #[.int .i64 a, .int .i64 0] 28)).heap[w2.heap.size]? = some (.cells #[.int .i64 a, .int .i64 0] 28 (0, 0)) := alloc_at _ _
  have hb3 : Below w2.heap.size w2 (w2.alloc (.cells #[.int .i64 a, .int .i64 0] 28)) := below_alloc' (Below.refl _ _) _
  have hs2 : g < w2.heap.size := (Array.getElem?_eq_some_iff.1 HR.out.1).1
  have hs2' : w.heap.size < w2.heap.size := (Array.getElem?_eq_some_iff.1 HZ2.out).1
  generalize World.alloc w2 _ = w3 at hv3 hb3 ⊢
  refine (rr_must g s p1 b1 44 w3 (HR.out.below hb3)).mono ?_
  rintro e w4 ⟨rfl, hr4, hg4⟩
  have HG4 := Lib.hid ((HG2.out.trans (Gb.of_below hb3)).trans hg4)
  have HV4 := Lib.hid (hg4.block' hv3 (by omega))
  have HZ4 := Lib.hid (hg4.block' (block_below HZ2.out hb3) (by have := HGL.out; omega))
  have HS2 := Lib.hid hs2
  have HS2' := Lib.hid hs2'
  have HR4 := Lib.hid hr4
  clear hv3 hb3 hr4 hg4 hs2 hs2'
  go_wp2_with fail
  refine (rr_number g s _ _ most HM.out w4 HR4.out).mono ?_
  rintro e w5 ⟨b, p5, b5, rfl, hr5, hn5, hpp5, hg5, hbb5, hmm5⟩
  have hv5 := hg5.block' HV4.out (by have := HS2.out; omega)
  have hz5 := hg5.block' HZ4.out (by have := HGL.out; omega)
  have v0 := cell_of_block hv5 0 _ rfl
  have v1 := cell_of_block hv5 1 _ rfl
  have z0 := cell_of_block hz5 0 _ rfl
  have z1 := cell_of_block hz5 1 _ rfl
  have fv := free_of_block hv5
  have fz := free_of_block hz5
  have hne : w2.heap.size ≠ w.heap.size := by have := HS2'.out; omega
  have hne' : w.heap.size ≠ w2.heap.size := by have := HS2'.out; omega
  have HV5 := Lib.hid hv5
  have HZ5 := Lib.hid hz5
  have HR5 := Lib.hid hr5
  have HN5 := Lib.hid hn5
  have HPP5 := Lib.hid hpp5
  have HG5 := Lib.hid (HG4.out.trans hg5)
  have HBB5 := Lib.hid hbb5
  have HMM5 := Lib.hid hmm5
  clear hv5 hz5 hr5 hn5 hpp5 hg5 hbb5 hmm5
  go_wp2
  have hz6 : (w5.setCell ⟨w2.heap.size, 1, none⟩ (.int .i64 b)).heap[w.heap.size]? = some (.cells #[.int .i64 0, .int .i64 0] 28 (0, 0)) := (Below.heap_setCell _ _ _ _ hne').trans HZ5.out
  have hz7 := set2 (.int .i64 a) (.int .i64 b) hz6
  have q0 := cell_of_block hz7 0 _ rfl
  have q1 := cell_of_block hz7 1 _ rfl
  have hr7 : RrAt (((w5.setCell ⟨w2.heap.size, 1, none⟩ (.int .i64 b)).setCell ⟨w.heap.size, 0, none⟩ (.int .i64 a)).setCell ⟨w.heap.size, 1, none⟩ (.int .i64 b)) g s p5 b5 := by
    have h1 : g ≠ w2.heap.size := by have := HS2.out; omega
    have h2 : g ≠ w.heap.size := by have := HGL.out; omega
    exact ⟨((Below.heap_setCell _ _ _ _ h2).trans (Below.heap_setCell _ _ _ _ h2)).trans ((Below.heap_setCell _ _ _ _ h1).trans HR5.out.1), HR5.out.2⟩
  have hg7 : Gb g w (((w5.setCell ⟨w2.heap.size, 1, none⟩ (.int .i64 b)).setCell ⟨w.heap.size, 0, none⟩ (.int .i64 a)).setCell ⟨w.heap.size, 1, none⟩ (.int .i64 b)) :=
    ((HG5.out.setNew (by have := HS2'.out; omega) _).setNew (Nat.le_refl _) _).setNew (Nat.le_refl _) _
  refine bodyPost_ret (v := .agg #[.int .i64 a, .int .i64 b]) (by simp [results, Tryz.results77, go_sem, q0, q1]) rfl ⟨a, b, p5, b5, rfl, hr7, HN.out, HN5.out, ?_, hg7, fun h => HBB5.out (by
    have := HBB.out h
    subst this
    simp [signR]), fun h => ?_⟩
  · have := HPP.out
    have := HPP5.out
    split at this <;> omega
  · have h1 := HMM.out h
    unfold pVec
    match hq : pNum most (s.drop p) with
    | none =>
      rw [hq] at h1
      simp only at h1
      subst h1
      simp only [Option.bind_none]
      exact HBB5.out (by simp [signR])
    | some (m, t) =>
      rw [hq] at h1
      obtain ⟨rfl, rfl, rfl⟩ := h1
      simp only [Option.bind_some, must_p]
      have h5 := HMM5.out
      cases hs : signR s p1 false 44
      · rw [hs] at h5
        simp only [Bool.false_eq_true, if_false, Option.bind_none]
        exact HBB5.out (by rw [hs]; rfl)
      · rw [hs] at h5
        simp only [if_true, Option.bind_some] at h5 ⊢
        have h6 := h5 rfl
        match hq2 : pNum most (s.drop (p1 + 1)) with
        | none => rw [hq2] at h6; simpa using h6
        | some (m2, t2) =>
          rw [hq2] at h6
          obtain ⟨rfl, rfl, rfl⟩ := h6
          simp
def rplace (w : World) (g : Nat) : Nat := match w.cell? ⟨g, 1, none⟩ with | some (.int _ n) => n.toNat | _ => 0
theorem RrAt.place {w : World} {g : Nat} {s : List UInt8} {p : Nat} {bad : Bool} (h : RrAt w g s p bad) : rplace w g = p := by
  unfold rplace
  rw [cell_of_block h.1 1 _ rfl]
  simp
/-- What a row of names is. -/
def RowPost2 (g : Nat) (s : List UInt8) (p : Nat) (bad : Bool) (c : UInt8) (w : World) (e : Ending) (w' : World) : Prop :=
  ∃ v ns p' bad', e = .returned v ∧ Strs w.heap.size w' v (ns.map str) ∧ ns.length ≤ s.length ∧ (∀ x ∈ ns, x.length ≤ s.length) ∧ RrAt w' g s p' bad' ∧ p ≤ p' ∧ Gb g w w' ∧ (bad = true → bad' = true) ∧
    (bad = false → ∀ k, s.length ≤ k + p → match pRow c k (s.drop p) with | some (l, t) => ns = l ∧ bad' = false ∧ s.drop p' = t | none => bad' = true)
set_option maxHeartbeats 4000000 in
set_option maxRecDepth 100000 in
theorem rr_row (g : Nat) (s : List UInt8) (p : Nat) (bad : Bool) (c : UInt8) (w : World) (h : RrAt w g s p bad) :
    Calls Tryz.prog 78 #[.pointer (some ⟨g, 0, none⟩), .int .u8 c.toNat] w (RowPost2 g s p bad c w) := by
  have hgl : g < w.heap.size := (Array.getElem?_eq_some_iff.1 h.1).1
  have hp0 := h.2.1
  have hs0 := h.2.2
  have HGL := Lib.hid hgl
  have H := Lib.hid h
  clear h
  go_enter Tryz.func78, Tryz.ntmps78
  go_wp2
  go_loopw [5] (fun v wr => ∃ (q : Nat) (bd : Bool) (acc : List (List UInt8)), RrAt wr g s q bd ∧ wr.ownsRow w.heap.size 9 1 v acc.length (acc.map strV) ∧ Gb g w wr ∧ p ≤ q ∧ acc.length + p ≤ q ∧ (∀ x ∈ acc, x.length ≤ s.length) ∧ (bad = true → bd = true) ∧
      (bad = false → ∀ k, s.length ≤ k + p → if bd = true then pRow c k (s.drop p) = none else pRow c k (s.drop p) = (pRow c (k - acc.length) (s.drop q)).map fun r => (acc ++ r.1, r.2))) (fun _ wr => s.length - rplace wr g)
  case atStart => exact ⟨p, bad, [], H.out, World.ownsRow_nil _ _ _ _, Gb.refl _ _, Nat.le_refl _, by simp, by simp, fun h => h, fun h k _ => by rw [h]; simp⟩
  case round =>
    obtain ⟨q, bd, acc, hr, hown, hgb, hpq, haq, hax, hbb, heq⟩ := hrel
    have hql := hr.2.1
    have hplace := hr.place
    have HPL := Lib.hid hplace
    have HR := Lib.hid hr
    have HO := Lib.hid hown
    have HG := Lib.hid hgb
    have HE := Lib.hid heq
    have HAX := Lib.hid hax
    have HBB := Lib.hid hbb
    clear hr hown hgb heq hax hbb hplace
    have hss := rr_sign g s q bd c wr HR.out
    obtain ⟨b, hb⟩ : ∃ b, signR s q bd c = b := ⟨_, rfl⟩
    rw [hb] at hss
    have HB := Lib.hid hb
    have HSS := Lib.hid hss
    clear hb hss
    go_wp2_with fail
    refine HSS.out.mono ?_
    rintro e w1 ⟨rfl, h1, hg1⟩
    have HG1 := Lib.hid (HG.out.trans hg1)
    have HO1 := Lib.hid (own_gb HO.out hg1 HGL.out)
    clear hg1
    cases b
    · have H1 := Lib.hid h1
      clear h1
      go_wp2
      go_ret
      refine ⟨_, acc, q, bd, rfl, ?_, by omega, HAX.out, H1.out, hpq, HG1.out, HBB.out, fun h k hk => ?_⟩
      · unfold Strs
        rw [List.length_map, List.map_map]
        exact HO1.out
      · have h2 := HE.out h k hk
        cases bd
        · rw [if_neg (by simp)] at h2
          have h3 : pRow c (k - acc.length) (s.drop q) = some ([], s.drop q) := by
            cases k - acc.length with
            | zero => rfl
            | succ m =>
              have h4 : (pSign c (s.drop q)).1 = false := by rw [sign_p]; exact HB.out
              rw [pRow, h4]
              rfl
          rw [h2, h3]
          simp
        · rw [if_pos rfl] at h2
          rw [h2]
    · have hbd : bd = false := by
        cases bd
        · rfl
        · have := HB.out; simp [signR] at this
      subst hbd
      have hqs : q < s.length := by
        have := HB.out
        simp only [signR, Bool.not_false, Bool.true_and, Bool.and_eq_true, decide_eq_true_eq] at this
        exact this.1
      have h1' : RrAt w1 g s (q + 1) false := h1
      have H1 := Lib.hid h1'
      clear h1 h1'
      go_wp2_with fail
      refine (rr_name g s (q + 1) false _ H1.out).mono ?_
      rintro e w2 ⟨q2, rfl, hd2, hq2, h2, hg2⟩
      have HD2 := Lib.hid hd2
      have hq2l := h2.2.1
      obtain ⟨n, hn⟩ : ∃ n, (s.drop (q + 1)).takeWhile (fun c => !parting c) = n := ⟨_, rfl⟩
      rw [hn] at h2 ⊢
      have HN := Lib.hid hn
      have H2 := Lib.hid h2
      have HG2 := Lib.hid (HG1.out.trans hg2)
      have HO2 := Lib.hid (own_gb HO1.out hg2 HGL.out)
      clear h2 hg2 hd2 hn
      go_wp2_with (at_builtin; refine list_appends elt_strs _ _ rfl rfl rfl rfl (World.ownsRow.alloc HO2.out _) (show [strV n].length = 1 * 1 from rfl) (news_row (alloc_at _ _)) (by simp [Value.oneCell', strV]) (by omega) (by have := HG2.out.size; simp; omega) ?_; intro v' w3 hown hgrow; have HO3 := Lib.hid hown; have HG3 := Lib.hid hgrow; clear hown hgrow)
      have h3 : RrAt w3 g s q2 (false || decide (n = [])) := ⟨block_far HG3.out (block_below H2.out.1 (below_alloc' (Below.refl _ _) _)) (fun e => by have := (HO2.out.lt g e).1; have := HGL.out; omega), H2.out.2⟩
      have H3 := Lib.hid h3
      clear h3
      go_roundw
      case rel =>
        refine ⟨q2, false || decide (n = []), acc ++ [n], H3.out, by simpa using HO3.out, Gb.grown (HG2.out.alloc _) HG3.out (fun j e => (HO2.out.lt j e).1), by omega, by simp; omega, ?_, fun h => absurd (HBB.out h) (by simp), fun h k hk => ?_⟩
        · intro x hx
          rcases List.mem_append.1 hx with hx | hx
          · exact HAX.out x hx
          · rw [List.mem_singleton.1 hx, ← HN.out]
            have := (List.takeWhile_prefix (l := s.drop (q + 1)) (fun c => !parting c)).length_le
            simp at this
            omega
        · have h4 := HE.out h k hk
          rw [if_neg (by simp)] at h4
          obtain ⟨m, hm⟩ : ∃ m, k - acc.length = m + 1 := ⟨k - acc.length - 1, by omega⟩
          have hsg : pSign c (s.drop q) = (true, s.drop (q + 1)) := by
            have h5 : signR s q false c = true := HB.out
            rw [sign_p, h5, if_pos rfl]
          rw [h4, hm, pRow, hsg, if_pos rfl, name_p, HN.out, ← HD2.out]
          by_cases hn0 : n = []
          · simp [hn0]
          · rw [if_neg (by simp [hn0]), if_neg hn0]
            have e1 : k - (acc ++ [n]).length = m := by simp; omega
            rw [e1]
            simp
            cases pRow c m (s.drop q2) <;> simp
      case measure =>
        rw [H3.out.place, HPL.out]
        omega
end Go.Proofs.YtikamehjeaoilaaGreatDoor
/-! The reference's names and sets. -/
set_option linter.unusedVariables false
set_option linter.unusedSimpArgs false
namespace Go.Proofs.YtikamehjeaoilaaGreatDoor
open Go.RowKit

set_option maxHeartbeats 8000000 in
set_option maxRecDepth 100000 in
theorem rname_any (s : ByteArray) (hs : s.size ≤ maxLen) (w : World) : Calls Tryz.prog 50 #[.string s] w fun e w' => e = .returned (.bool (nameS s)) ∧ Below w.heap.size w w' := by
  have HS := Lib.hid hs
  unfold maxLen at hs
  go_enter Tryz.func50, Tryz.ntmps50
  go_wp2
  go_loopw [3] (fun n w' => ∃ (pos b k : Nat), n = .int .i64 k ∧ w' = w.iter s pos ∧ nameGo s b pos = nameGo s s.size 0 ∧ s.size ≤ pos + b ∧ k + runesGo s b pos = runesGo s s.size 0 ∧ k ≤ pos) (fun _ w' => s.size - w'.iterPos w.heap.size)
  case atStart => exact ⟨0, s.size, 0, rfl, rfl, rfl, by omega, by omega, Nat.le_refl _⟩
  case round =>
    obtain ⟨pos, b, k, rfl, rfl, hc, hb, hk, hkp⟩ := hrel
    have HC := Lib.hid hc
    have HK := Lib.hid hk
    clear hc hk
    by_cases hp : pos < s.size
    · have hnx : ∀ ty, (Instr.next (.pointer (some ⟨w.heap.size, 0, none⟩)) true ty).run Tryz.prog (w.iter s pos) = _ := fun ty => run_next_any w s pos ty hp
      have hwd := width_pos s pos hp
      have hwl := width_le s pos hp
      obtain ⟨b, rfl⟩ : ∃ m, b = m + 1 := ⟨b - 1, by omega⟩
      have HST := Lib.hid (nameGo_step s b pos hp)
      have HRT := Lib.hid (runesGo_step s b pos hp)
      have hkw : IntKind.i64.wrap ((k : Int) + 1) = ((k + 1 : Nat) : Int) := by rw [IntWalk.i64_in _ (by omega)]; omega
      generalize hcc : (Utf8.decode s pos).1 = c at *
      generalize hww : (Utf8.decode s pos).2 = wd at *
      have HCC := Lib.hid hcc
      have HWW := Lib.hid hww
      clear hcc hww
      by_cases h47 : c ≤ 47
      · have f0 : decide (48 ≤ c) = false := decide_eq_false (by omega)
        have g0 : decide ((48 : Int) ≤ (c : Int)) = false := decide_eq_false (by omega)
        have f1 : decide (c ≤ 57) = true := decide_eq_true (by omega)
        have g1 : decide ((c : Int) ≤ 57) = true := decide_eq_true (by omega)
        have f2 : decide (c < 97) = true := decide_eq_true (by omega)
        have g2 : decide ((c : Int) < 97) = true := decide_eq_true (by omega)
        have f3 : decide (122 < c) = false := decide_eq_false (by omega)
        have g3 : decide ((122 : Int) < (c : Int)) = false := decide_eq_false (by omega)
        have f4 : decide (c < 945) = true := decide_eq_true (by omega)
        have g4 : decide ((c : Int) < 945) = true := decide_eq_true (by omega)
        have f5 : decide (969 < c) = false := decide_eq_false (by omega)
        have g5 : decide ((969 : Int) < (c : Int)) = false := decide_eq_false (by omega)
        have f6 : (c == 65533) = false := beq_eq_false_iff_ne.2 (by omega)
        have g6 : ((c : Int) == 65533) = false := beq_eq_false_iff_ne.2 (by omega)
        have HNO := Lib.hid (show runeOk pos c = false by rw [Bool.eq_false_iff]; unfold runeOk; simp only [ne_eq, Bool.or_eq_true, Bool.and_eq_true, decide_eq_true_eq]; omega)
        go_wp2
        go_ret
        refine ⟨?_, below_alloc' (Below.refl _ _) _⟩
        have : nameS s = false := by unfold nameS; rw [← HC.out, HST.out, HNO.out]; simp
        exact (ret_bool this).symm
      · skip
        by_cases h57 : c ≤ 57
        · have f0 : decide (48 ≤ c) = true := decide_eq_true (by omega)
          have g0 : decide ((48 : Int) ≤ (c : Int)) = true := decide_eq_true (by omega)
          have f1 : decide (c ≤ 57) = true := decide_eq_true (by omega)
          have g1 : decide ((c : Int) ≤ 57) = true := decide_eq_true (by omega)
          have f2 : decide (c < 97) = true := decide_eq_true (by omega)
          have g2 : decide ((c : Int) < 97) = true := decide_eq_true (by omega)
          have f3 : decide (122 < c) = false := decide_eq_false (by omega)
          have g3 : decide ((122 : Int) < (c : Int)) = false := decide_eq_false (by omega)
          have f4 : decide (c < 945) = true := decide_eq_true (by omega)
          have g4 : decide ((c : Int) < 945) = true := decide_eq_true (by omega)
          have f5 : decide (969 < c) = false := decide_eq_false (by omega)
          have g5 : decide ((969 : Int) < (c : Int)) = false := decide_eq_false (by omega)
          have f6 : (c == 65533) = false := beq_eq_false_iff_ne.2 (by omega)
          have g6 : ((c : Int) == 65533) = false := beq_eq_false_iff_ne.2 (by omega)
          by_cases h0 : pos = 0
          · have z0 : ((pos : Int) == 0) = true := by rw [h0]; rfl
            have HNO := Lib.hid (show runeOk pos c = false by rw [Bool.eq_false_iff]; unfold runeOk; simp only [ne_eq, Bool.or_eq_true, Bool.and_eq_true, decide_eq_true_eq]; omega)
            clear h0
            go_wp2
            go_ret
            refine ⟨?_, below_alloc' (Below.refl _ _) _⟩
            have : nameS s = false := by unfold nameS; rw [← HC.out, HST.out, HNO.out]; simp
            exact (ret_bool this).symm
          · have z0 : ((pos : Int) == 0) = false := beq_eq_false_iff_ne.2 (by omega)
            have HOK := Lib.hid (show runeOk pos c = true by unfold runeOk; simp only [Bool.or_eq_true, Bool.and_eq_true, decide_eq_true_eq]; omega)
            go_wp2
            go_roundw
            case rel => exact ⟨pos + wd, b, k + 1, by go_num, rfl, by rw [← HC.out, HST.out, HOK.out, Bool.true_and], by omega, by rw [← HK.out, HRT.out]; omega, by omega⟩
            case measure => simp; omega
        · skip
          by_cases h96 : c ≤ 96
          · have f0 : decide (48 ≤ c) = true := decide_eq_true (by omega)
            have g0 : decide ((48 : Int) ≤ (c : Int)) = true := decide_eq_true (by omega)
            have f1 : decide (c ≤ 57) = false := decide_eq_false (by omega)
            have g1 : decide ((c : Int) ≤ 57) = false := decide_eq_false (by omega)
            have f2 : decide (c < 97) = true := decide_eq_true (by omega)
            have g2 : decide ((c : Int) < 97) = true := decide_eq_true (by omega)
            have f3 : decide (122 < c) = false := decide_eq_false (by omega)
            have g3 : decide ((122 : Int) < (c : Int)) = false := decide_eq_false (by omega)
            have f4 : decide (c < 945) = true := decide_eq_true (by omega)
            have g4 : decide ((c : Int) < 945) = true := decide_eq_true (by omega)
            have f5 : decide (969 < c) = false := decide_eq_false (by omega)
            have g5 : decide ((969 : Int) < (c : Int)) = false := decide_eq_false (by omega)
            have f6 : (c == 65533) = false := beq_eq_false_iff_ne.2 (by omega)
            have g6 : ((c : Int) == 65533) = false := beq_eq_false_iff_ne.2 (by omega)
            have HNO := Lib.hid (show runeOk pos c = false by rw [Bool.eq_false_iff]; unfold runeOk; simp only [ne_eq, Bool.or_eq_true, Bool.and_eq_true, decide_eq_true_eq]; omega)
            go_wp2
            go_ret
            refine ⟨?_, below_alloc' (Below.refl _ _) _⟩
            have : nameS s = false := by unfold nameS; rw [← HC.out, HST.out, HNO.out]; simp
            exact (ret_bool this).symm
          · skip
            by_cases h122 : c ≤ 122
            · have f0 : decide (48 ≤ c) = true := decide_eq_true (by omega)
              have g0 : decide ((48 : Int) ≤ (c : Int)) = true := decide_eq_true (by omega)
              have f1 : decide (c ≤ 57) = false := decide_eq_false (by omega)
              have g1 : decide ((c : Int) ≤ 57) = false := decide_eq_false (by omega)
              have f2 : decide (c < 97) = false := decide_eq_false (by omega)
              have g2 : decide ((c : Int) < 97) = false := decide_eq_false (by omega)
              have f3 : decide (122 < c) = false := decide_eq_false (by omega)
              have g3 : decide ((122 : Int) < (c : Int)) = false := decide_eq_false (by omega)
              have f4 : decide (c < 945) = true := decide_eq_true (by omega)
              have g4 : decide ((c : Int) < 945) = true := decide_eq_true (by omega)
              have f5 : decide (969 < c) = false := decide_eq_false (by omega)
              have g5 : decide ((969 : Int) < (c : Int)) = false := decide_eq_false (by omega)
              have f6 : (c == 65533) = false := beq_eq_false_iff_ne.2 (by omega)
              have g6 : ((c : Int) == 65533) = false := beq_eq_false_iff_ne.2 (by omega)
              have HOK := Lib.hid (show runeOk pos c = true by unfold runeOk; simp only [Bool.or_eq_true, Bool.and_eq_true, decide_eq_true_eq]; omega)
              go_wp2
              go_roundw
              case rel => exact ⟨pos + wd, b, k + 1, by go_num, rfl, by rw [← HC.out, HST.out, HOK.out, Bool.true_and], by omega, by rw [← HK.out, HRT.out]; omega, by omega⟩
              case measure => simp; omega
            · skip
              by_cases h944 : c ≤ 944
              · have f0 : decide (48 ≤ c) = true := decide_eq_true (by omega)
                have g0 : decide ((48 : Int) ≤ (c : Int)) = true := decide_eq_true (by omega)
                have f1 : decide (c ≤ 57) = false := decide_eq_false (by omega)
                have g1 : decide ((c : Int) ≤ 57) = false := decide_eq_false (by omega)
                have f2 : decide (c < 97) = false := decide_eq_false (by omega)
                have g2 : decide ((c : Int) < 97) = false := decide_eq_false (by omega)
                have f3 : decide (122 < c) = true := decide_eq_true (by omega)
                have g3 : decide ((122 : Int) < (c : Int)) = true := decide_eq_true (by omega)
                have f4 : decide (c < 945) = true := decide_eq_true (by omega)
                have g4 : decide ((c : Int) < 945) = true := decide_eq_true (by omega)
                have f5 : decide (969 < c) = false := decide_eq_false (by omega)
                have g5 : decide ((969 : Int) < (c : Int)) = false := decide_eq_false (by omega)
                have f6 : (c == 65533) = false := beq_eq_false_iff_ne.2 (by omega)
                have g6 : ((c : Int) == 65533) = false := beq_eq_false_iff_ne.2 (by omega)
                have HNO := Lib.hid (show runeOk pos c = false by rw [Bool.eq_false_iff]; unfold runeOk; simp only [ne_eq, Bool.or_eq_true, Bool.and_eq_true, decide_eq_true_eq]; omega)
                go_wp2
                go_ret
                refine ⟨?_, below_alloc' (Below.refl _ _) _⟩
                have : nameS s = false := by unfold nameS; rw [← HC.out, HST.out, HNO.out]; simp
                exact (ret_bool this).symm
              · skip
                by_cases h969 : c ≤ 969
                · have f0 : decide (48 ≤ c) = true := decide_eq_true (by omega)
                  have g0 : decide ((48 : Int) ≤ (c : Int)) = true := decide_eq_true (by omega)
                  have f1 : decide (c ≤ 57) = false := decide_eq_false (by omega)
                  have g1 : decide ((c : Int) ≤ 57) = false := decide_eq_false (by omega)
                  have f2 : decide (c < 97) = false := decide_eq_false (by omega)
                  have g2 : decide ((c : Int) < 97) = false := decide_eq_false (by omega)
                  have f3 : decide (122 < c) = true := decide_eq_true (by omega)
                  have g3 : decide ((122 : Int) < (c : Int)) = true := decide_eq_true (by omega)
                  have f4 : decide (c < 945) = false := decide_eq_false (by omega)
                  have g4 : decide ((c : Int) < 945) = false := decide_eq_false (by omega)
                  have f5 : decide (969 < c) = false := decide_eq_false (by omega)
                  have g5 : decide ((969 : Int) < (c : Int)) = false := decide_eq_false (by omega)
                  have f6 : (c == 65533) = false := beq_eq_false_iff_ne.2 (by omega)
                  have g6 : ((c : Int) == 65533) = false := beq_eq_false_iff_ne.2 (by omega)
                  have HOK := Lib.hid (show runeOk pos c = true by unfold runeOk; simp only [Bool.or_eq_true, Bool.and_eq_true, decide_eq_true_eq]; omega)
                  go_wp2
                  go_roundw
                  case rel => exact ⟨pos + wd, b, k + 1, by go_num, rfl, by rw [← HC.out, HST.out, HOK.out, Bool.true_and], by omega, by rw [← HK.out, HRT.out]; omega, by omega⟩
                  case measure => simp; omega
                · skip
                  have f0 : decide (48 ≤ c) = true := decide_eq_true (by omega)
                  have g0 : decide ((48 : Int) ≤ (c : Int)) = true := decide_eq_true (by omega)
                  have f1 : decide (c ≤ 57) = false := decide_eq_false (by omega)
                  have g1 : decide ((c : Int) ≤ 57) = false := decide_eq_false (by omega)
                  have f2 : decide (c < 97) = false := decide_eq_false (by omega)
                  have g2 : decide ((c : Int) < 97) = false := decide_eq_false (by omega)
                  have f3 : decide (122 < c) = true := decide_eq_true (by omega)
                  have g3 : decide ((122 : Int) < (c : Int)) = true := decide_eq_true (by omega)
                  have f4 : decide (c < 945) = false := decide_eq_false (by omega)
                  have g4 : decide ((c : Int) < 945) = false := decide_eq_false (by omega)
                  have f5 : decide (969 < c) = true := decide_eq_true (by omega)
                  have g5 : decide ((969 : Int) < (c : Int)) = true := decide_eq_true (by omega)
                  have HNO := Lib.hid (show runeOk pos c = false by rw [Bool.eq_false_iff]; unfold runeOk; simp only [ne_eq, Bool.or_eq_true, Bool.and_eq_true, decide_eq_true_eq]; omega)
                  go_wp2
                  go_ret
                  refine ⟨?_, below_alloc' (Below.refl _ _) _⟩
                  have : nameS s = false := by unfold nameS; rw [← HC.out, HST.out, HNO.out]; simp
                  exact (ret_bool this).symm
    · have hnx : ∀ ty, (Instr.next (.pointer (some ⟨w.heap.size, 0, none⟩)) true ty).run Tryz.prog (w.iter s pos) = _ := fun ty => run_next_end w s pos ty hp
      have hn1 : nameGo s s.size 0 = true := by rw [← HC.out, nameGo_end s b pos hp]
      have hr1 : runesGo s s.size 0 = k := by rw [← HK.out, runesGo_end s b pos hp]; rfl
      have hz : s.size = 0 ↔ k = 0 := by
        constructor
        · intro h
          have := runesGo_le s s.size 0
          omega
        · intro h
          rw [h] at hr1
          by_cases h1 : 0 < s.size
          · obtain ⟨m, hm⟩ : ∃ m, s.size = m + 1 := ⟨s.size - 1, by omega⟩
            rw [hm, runesGo_step s m 0 h1] at hr1
            omega
          · omega
      have hnm : nameS s = (decide (1 ≤ k) && decide (k ≤ 8)) := by
        unfold nameS
        rw [hn1, hr1, Bool.true_and]
        congr 1
        by_cases h : k = 0
        · simp [h, hz.2 h]
        · have : s.size ≠ 0 := fun e => h (hz.1 e)
          simp [this]
          omega
      have HNM := Lib.hid hnm
      clear hn1 hr1 hz hnm
      by_cases h1 : 1 ≤ k
      · have f1 : decide (1 ≤ k) = true := decide_eq_true h1
        have g1 : decide ((1 : Int) ≤ (k : Int)) = true := decide_eq_true (by omega)
        by_cases h8 : k ≤ 8
        · have f2 : decide (k ≤ 8) = true := decide_eq_true h8
          have g2 : decide ((k : Int) ≤ 8) = true := decide_eq_true (by omega)
          go_wp2
          go_ret
          exact ⟨by rw [HNM.out, f1, f2]; rfl, below_alloc' (Below.refl _ _) _⟩
        · have f2 : decide (k ≤ 8) = false := decide_eq_false h8
          have g2 : decide ((k : Int) ≤ 8) = false := decide_eq_false (by omega)
          go_wp2
          go_ret
          exact ⟨by rw [HNM.out, f1, f2]; rfl, below_alloc' (Below.refl _ _) _⟩
      · have f1 : decide (1 ≤ k) = false := decide_eq_false h1
        have g1 : decide ((1 : Int) ≤ (k : Int)) = false := decide_eq_false (by omega)
        go_wp2
        go_ret
        exact ⟨by rw [HNM.out, f1]; rfl, below_alloc' (Below.refl _ _) _⟩
theorem rname_is {s : ByteArray} {b : Bool} (hs : s.size ≤ maxLen) (h : nameS s = b) (w : World) : Calls Tryz.prog 50 #[.string s] w fun e w' => e = .returned (.bool b) ∧ Below w.heap.size w w' := by
  subst h
  exact rname_any s hs w
set_option maxRecDepth 1000000 in
set_option maxHeartbeats 8000000 in
theorem rset_any (v : Value) (l : List ByteArray) (w : World) (hl : Texts w v l) : Calls Tryz.prog 51 #[v] w fun e w' => e = .returned (.bool (setS l)) ∧ Below w.heap.size w w' := by
  obtain ⟨pa, pc, rfl, hlen, hmx, hcs⟩ := hl
  have HMX := Lib.hid hmx
  have HCS := Lib.hid hcs
  clear hmx hcs
  by_cases h4 : l.length ≤ 4
  case neg =>
    have f4 : decide (4 < l.length) = true := decide_eq_true (by omega)
    have g4 : decide ((4 : Int) < (l.length : Int)) = true := decide_eq_true (by omega)
    have k4 : (4 : Int) < (l.length : Int) := by omega
    have HS4 := Lib.hid (show setS l = false by unfold setS; rw [show decide (l.length ≤ 4) = false from decide_eq_false h4, Bool.and_false])
    clear h4
    go_enter Tryz.func51, Tryz.ntmps51
    go_wp2
    go_ret
    exact ⟨(ret_bool HS4.out).symm, Below.refl _ _⟩
  have f4 : decide (4 < l.length) = false := decide_eq_false (by omega)
  have g4 : decide ((4 : Int) < (l.length : Int)) = false := decide_eq_false (by omega)
  have k4 : ¬ (4 : Int) < (l.length : Int) := by omega
  have H4 := Lib.hid h4
  clear h4
  go_enter Tryz.func51, Tryz.ntmps51
  go_wp2
  go_loopw [3] (fun i wr => ∃ k : Nat, i = .int .i64 k ∧ k ≤ l.length ∧ setGo l k = true ∧ Below w.heap.size w wr) (fun i _ => l.length - (intOf i).toNat)
  case atStart => exact ⟨0, rfl, Nat.zero_le _, rfl, Below.refl _ _⟩
  case round =>
    obtain ⟨k, rfl, hk, hg, hb⟩ := hrel
    have HG := Lib.hid hg
    have HB := Lib.hid hb
    clear hg hb f4 g4 k4
    by_cases hlt : k < l.length
    · have hlt' : (k : Int) < (l.length : Int) := by omega
      have hkw1 : IntKind.i64.wrap ((k : Int) + 1) = ((k + 1 : Nat) : Int) := by rw [IntWalk.i64_in _ (by omega)]; omega
      obtain ⟨bb, off, rfl, hc⟩ := HCS.out k hlt
      have hmax := HMX.out (l.getD k ByteArray.empty) (by rw [List.getD_eq_getElem?_getD, List.getElem?_eq_getElem hlt]; exact List.getElem_mem hlt)
      have hst : setGo l (k + 1) = (setGo l k && (nameS (l.getD k ByteArray.empty) && !(decide (0 < k) && !Op.bytesLess (l.getD (k - 1) ByteArray.empty).toList (l.getD k ByteArray.empty).toList))) := rfl
      have HST := Lib.hid hst
      have HLT := Lib.hid hlt
      have hcx := cell_below hc HB.out
      clear hst hc hlt
      generalize hx : l.getD k ByteArray.empty = x at *
      have HX := Lib.hid hx
      have HMAX := Lib.hid hmax
      clear hx hmax
      cases hn : nameS x with
      | false =>
        have HN := Lib.hid hn
        have hf : ∀ w6, Below wr.drew.heap.size wr.drew w6 → w6.cell? ⟨bb, off + k, none⟩ = some (.string x) := fun w6 h => cell_below (w := wr.drew) hcx h
        have HF := Lib.hid hf
        clear hn hf hcx
        go_wp2
        refine' Par.wp_region_pars (fun w w' => Below w.heap.size w w') 22 (by kernel_rfl) (by kernel_rfl) (by kernel_rfl) (by kernel_rfl) (by kernel_rfl) (by kernel_rfl)
          (fun w => Below.refl _ w) (fun h k => below_call h k) (fun vals => ?_)
        rotate_left
        simp only [List.take_succ_cons, List.take_zero, List.drop_succ_cons, List.drop_zero]
        iterate 4 (apply Par.par_x rfl; (focus (intro w6 hR hD K hK; replace hK := Lib.hid hK; have e0 := HF.out w6 hR; clear hR hD; go_simp; exact hK.out _ (Below.refl _ _))); simp only [Act.put, List.setIfInBounds_toArray, List.set_cons_zero, List.set_cons_succ, Nat.reduceAdd, List.cons_append, List.nil_append])
        (apply Par.par_x rfl; (focus (intro w6 hR hD K hK; replace hK := Lib.hid hK; clear hR hD; go_simp; refine (rname_is HMAX.out HN.out w6).mono ?_; rintro r w7 ⟨rfl, hb⟩; exact hK.out _ hb)); simp only [Act.put, List.setIfInBounds_toArray, List.set_cons_zero, List.set_cons_succ, Nat.reduceAdd, List.cons_append, List.nil_append])
        iterate 2 (apply Par.par_x rfl; (focus (intro w6 hR hD K hK; replace hK := Lib.hid hK; skip; clear hR hD; go_simp; exact hK.out _ (Below.refl _ _))); simp only [Act.put, List.setIfInBounds_toArray, List.set_cons_zero, List.set_cons_succ, Nat.reduceAdd, List.cons_append, List.nil_append])
        iterate 14 (apply Par.par_g (e := undef); (focus (intro w6 hR hD K hK; replace hK := Lib.hid hK; clear hR hD; go_simp; exact hK.out _ (Below.refl _ _))); simp only [Act.put, List.setIfInBounds_toArray, List.set_cons_zero, List.set_cons_succ, Nat.reduceAdd, List.cons_append, List.nil_append])
        (apply Par.par_x rfl; (focus (intro w6 hR hD K hK; replace hK := Lib.hid hK; skip; clear hR hD; go_simp; exact hK.out _ (Below.refl _ _))); simp only [Act.put, List.setIfInBounds_toArray, List.set_cons_zero, List.set_cons_succ, Nat.reduceAdd, List.cons_append, List.nil_append])
        refine Par.par_end fun w6 hR hp => ?_
        clear hp
        have HB6 := Lib.hid (below_call HB.out.drew hR)
        clear hR HF
        go_wp2
        go_ret
        exact ⟨(ret_bool (setS_false HLT.out (by rw [HST.out, HN.out]; simp))).symm, HB6.out⟩
      | true =>
        have HN := Lib.hid hn
        clear hn
        by_cases h0 : k = 0
        · have d0 : decide (0 < k) = false := decide_eq_false (by omega)
          have d0' : decide ((0 : Int) < (k : Int)) = false := decide_eq_false (by omega)
          have H0 := Lib.hid h0
          clear h0
          have hf : ∀ w6, Below wr.drew.heap.size wr.drew w6 → w6.cell? ⟨bb, off + k, none⟩ = some (.string x) := fun w6 h => cell_below (w := wr.drew) hcx h
          have HF := Lib.hid hf
          clear hf hcx
          go_wp2
          refine' Par.wp_region_pars (fun w w' => Below w.heap.size w w') 22 (by kernel_rfl) (by kernel_rfl) (by kernel_rfl) (by kernel_rfl) (by kernel_rfl) (by kernel_rfl)
            (fun w => Below.refl _ w) (fun h k => below_call h k) (fun vals => ?_)
          rotate_left
          simp only [List.take_succ_cons, List.take_zero, List.drop_succ_cons, List.drop_zero]
          iterate 4 (apply Par.par_x rfl; (focus (intro w6 hR hD K hK; replace hK := Lib.hid hK; have e0 := HF.out w6 hR; clear hR hD; go_simp; exact hK.out _ (Below.refl _ _))); simp only [Act.put, List.setIfInBounds_toArray, List.set_cons_zero, List.set_cons_succ, Nat.reduceAdd, List.cons_append, List.nil_append])
          (apply Par.par_x rfl; (focus (intro w6 hR hD K hK; replace hK := Lib.hid hK; clear hR hD; go_simp; refine (rname_is HMAX.out HN.out w6).mono ?_; rintro r w7 ⟨rfl, hb⟩; exact hK.out _ hb)); simp only [Act.put, List.setIfInBounds_toArray, List.set_cons_zero, List.set_cons_succ, Nat.reduceAdd, List.cons_append, List.nil_append])
          iterate 2 (apply Par.par_x rfl; (focus (intro w6 hR hD K hK; replace hK := Lib.hid hK; skip; clear hR hD; go_simp; exact hK.out _ (Below.refl _ _))); simp only [Act.put, List.setIfInBounds_toArray, List.set_cons_zero, List.set_cons_succ, Nat.reduceAdd, List.cons_append, List.nil_append])
          iterate 3 (apply Par.par_g; (focus (intro w6 hR hD K hK; replace hK := Lib.hid hK; skip; clear hR hD; go_simp; exact hK.out _ (Below.refl _ _))); simp only [Act.put, List.setIfInBounds_toArray, List.set_cons_zero, List.set_cons_succ, Nat.reduceAdd, List.cons_append, List.nil_append])
          iterate 10 (apply Par.par_g (e := undef); (focus (intro w6 hR hD K hK; replace hK := Lib.hid hK; clear hR hD; go_simp; exact hK.out _ (Below.refl _ _))); simp only [Act.put, List.setIfInBounds_toArray, List.set_cons_zero, List.set_cons_succ, Nat.reduceAdd, List.cons_append, List.nil_append])
          (apply Par.par_g; (focus (intro w6 hR hD K hK; replace hK := Lib.hid hK; skip; clear hR hD; go_simp; exact hK.out _ (Below.refl _ _))); simp only [Act.put, List.setIfInBounds_toArray, List.set_cons_zero, List.set_cons_succ, Nat.reduceAdd, List.cons_append, List.nil_append])
          (apply Par.par_x rfl; (focus (intro w6 hR hD K hK; replace hK := Lib.hid hK; skip; clear hR hD; go_simp; exact hK.out _ (Below.refl _ _))); simp only [Act.put, List.setIfInBounds_toArray, List.set_cons_zero, List.set_cons_succ, Nat.reduceAdd, List.cons_append, List.nil_append])
          refine Par.par_end fun w6 hR hp => ?_
          clear hp
          have HB6 := Lib.hid (below_call HB.out.drew hR)
          clear hR HF
          go_wp2
          go_roundw
          case rel => exact ⟨k + 1, by go_num, HLT.out, by rw [HST.out, HG.out, HN.out, d0]; rfl, HB6.out⟩
          case measure => have := HLT.out; simp [intOf]; omega
        · have hk0 : 0 < k := by omega
          have d0 : decide (0 < k) = true := decide_eq_true hk0
          have d0' : decide ((0 : Int) < (k : Int)) = true := decide_eq_true (by omega)
          obtain ⟨b2, o2, e2, hc2⟩ := HCS.out (k - 1) (by omega)
          simp only [Option.some.injEq, Addr.mk.injEq, and_true] at e2
          obtain ⟨rfl, rfl⟩ := e2
          generalize hy : l.getD (k - 1) ByteArray.empty = y at *
          have HY := Lib.hid hy
          have hkw : IntKind.i64.wrap ((k : Int) - 1) = k - 1 := kwid (by omega) (by omega)
          have hkn : ((k : Int) - 1).toNat = k - 1 := by omega
          have hk1 : (0 : Int) ≤ (k : Int) - 1 := by omega
          have hk3 : (1 : Int) ≤ (k : Int) := by omega
          have hk2 : (k : Int) - 1 < (l.length : Int) := by omega
          have hf : ∀ w6, Below wr.drew.heap.size wr.drew w6 → w6.cell? ⟨bb, off + k, none⟩ = some (.string x) ∧ w6.cell? ⟨bb, off + (k - 1), none⟩ = some (.string y) := fun w6 h => ⟨cell_below (w := wr.drew) hcx h, cell_below (w := wr.drew) (cell_below hc2 HB.out.drew) h⟩
          have HF := Lib.hid hf
          clear hy hc2 hf hcx h0
          cases hless : Op.bytesLess y.toList x.toList with
          | true =>
            have HLS := Lib.hid hless
            go_wp2
            refine' Par.wp_region_pars (fun w w' => Below w.heap.size w w') 22 (by kernel_rfl) (by kernel_rfl) (by kernel_rfl) (by kernel_rfl) (by kernel_rfl) (by kernel_rfl)
              (fun w => Below.refl _ w) (fun h k => below_call h k) (fun vals => ?_)
            rotate_left
            simp only [List.take_succ_cons, List.take_zero, List.drop_succ_cons, List.drop_zero]
            iterate 4 (apply Par.par_x rfl; (focus (intro w6 hR hD K hK; replace hK := Lib.hid hK; obtain ⟨e0, e1⟩ := HF.out w6 hR; clear hR hD; go_simp; exact hK.out _ (Below.refl _ _))); simp only [Act.put, List.setIfInBounds_toArray, List.set_cons_zero, List.set_cons_succ, Nat.reduceAdd, List.cons_append, List.nil_append])
            (apply Par.par_x rfl; (focus (intro w6 hR hD K hK; replace hK := Lib.hid hK; clear hR hD; go_simp; refine (rname_is HMAX.out HN.out w6).mono ?_; rintro r w7 ⟨rfl, hb⟩; exact hK.out _ hb)); simp only [Act.put, List.setIfInBounds_toArray, List.set_cons_zero, List.set_cons_succ, Nat.reduceAdd, List.cons_append, List.nil_append])
            iterate 2 (apply Par.par_x rfl; (focus (intro w6 hR hD K hK; replace hK := Lib.hid hK; skip; clear hR hD; go_simp; exact hK.out _ (Below.refl _ _))); simp only [Act.put, List.setIfInBounds_toArray, List.set_cons_zero, List.set_cons_succ, Nat.reduceAdd, List.cons_append, List.nil_append])
            iterate 7 (apply Par.par_g; (focus (intro w6 hR hD K hK; replace hK := Lib.hid hK; skip; clear hR hD; go_simp; exact hK.out _ (Below.refl _ _))); simp only [Act.put, List.setIfInBounds_toArray, List.set_cons_zero, List.set_cons_succ, Nat.reduceAdd, List.cons_append, List.nil_append])
            (apply Par.par_g; (focus (intro w6 hR hD K hK; replace hK := Lib.hid hK; obtain ⟨e0, e1⟩ := HF.out w6 hR; clear hR hD; go_simp; exact hK.out _ (Below.refl _ _))); simp only [Act.put, List.setIfInBounds_toArray, List.set_cons_zero, List.set_cons_succ, Nat.reduceAdd, List.cons_append, List.nil_append])
            iterate 3 (apply Par.par_g; (focus (intro w6 hR hD K hK; replace hK := Lib.hid hK; skip; clear hR hD; go_simp; exact hK.out _ (Below.refl _ _))); simp only [Act.put, List.setIfInBounds_toArray, List.set_cons_zero, List.set_cons_succ, Nat.reduceAdd, List.cons_append, List.nil_append])
            (apply Par.par_g; (focus (intro w6 hR hD K hK; replace hK := Lib.hid hK; obtain ⟨e0, e1⟩ := HF.out w6 hR; clear hR hD; go_simp; exact hK.out _ (Below.refl _ _))); simp only [Act.put, List.setIfInBounds_toArray, List.set_cons_zero, List.set_cons_succ, Nat.reduceAdd, List.cons_append, List.nil_append])
            iterate 2 (apply Par.par_g; (focus (intro w6 hR hD K hK; replace hK := Lib.hid hK; skip; clear hR hD; go_simp; exact hK.out _ (Below.refl _ _))); simp only [Act.put, List.setIfInBounds_toArray, List.set_cons_zero, List.set_cons_succ, Nat.reduceAdd, List.cons_append, List.nil_append])
            (apply Par.par_x rfl; (focus (intro w6 hR hD K hK; replace hK := Lib.hid hK; skip; clear hR hD; go_simp; exact hK.out _ (Below.refl _ _))); simp only [Act.put, List.setIfInBounds_toArray, List.set_cons_zero, List.set_cons_succ, Nat.reduceAdd, List.cons_append, List.nil_append])
            refine Par.par_end fun w6 hR hp => ?_
            clear hp
            have HB6 := Lib.hid (below_call HB.out.drew hR)
            clear hR HF
            go_wp2
            go_roundw
            case rel => exact ⟨k + 1, by go_num, HLT.out, by rw [HST.out, HG.out, HN.out, HLS.out]; simp, HB6.out⟩
            case measure => have := HLT.out; simp [intOf]; omega
          | false =>
            have HLS := Lib.hid hless
            go_wp2
            refine' Par.wp_region_pars (fun w w' => Below w.heap.size w w') 22 (by kernel_rfl) (by kernel_rfl) (by kernel_rfl) (by kernel_rfl) (by kernel_rfl) (by kernel_rfl)
              (fun w => Below.refl _ w) (fun h k => below_call h k) (fun vals => ?_)
            rotate_left
            simp only [List.take_succ_cons, List.take_zero, List.drop_succ_cons, List.drop_zero]
            iterate 4 (apply Par.par_x rfl; (focus (intro w6 hR hD K hK; replace hK := Lib.hid hK; obtain ⟨e0, e1⟩ := HF.out w6 hR; clear hR hD; go_simp; exact hK.out _ (Below.refl _ _))); simp only [Act.put, List.setIfInBounds_toArray, List.set_cons_zero, List.set_cons_succ, Nat.reduceAdd, List.cons_append, List.nil_append])
            (apply Par.par_x rfl; (focus (intro w6 hR hD K hK; replace hK := Lib.hid hK; clear hR hD; go_simp; refine (rname_is HMAX.out HN.out w6).mono ?_; rintro r w7 ⟨rfl, hb⟩; exact hK.out _ hb)); simp only [Act.put, List.setIfInBounds_toArray, List.set_cons_zero, List.set_cons_succ, Nat.reduceAdd, List.cons_append, List.nil_append])
            iterate 2 (apply Par.par_x rfl; (focus (intro w6 hR hD K hK; replace hK := Lib.hid hK; skip; clear hR hD; go_simp; exact hK.out _ (Below.refl _ _))); simp only [Act.put, List.setIfInBounds_toArray, List.set_cons_zero, List.set_cons_succ, Nat.reduceAdd, List.cons_append, List.nil_append])
            iterate 7 (apply Par.par_g; (focus (intro w6 hR hD K hK; replace hK := Lib.hid hK; skip; clear hR hD; go_simp; exact hK.out _ (Below.refl _ _))); simp only [Act.put, List.setIfInBounds_toArray, List.set_cons_zero, List.set_cons_succ, Nat.reduceAdd, List.cons_append, List.nil_append])
            (apply Par.par_g; (focus (intro w6 hR hD K hK; replace hK := Lib.hid hK; obtain ⟨e0, e1⟩ := HF.out w6 hR; clear hR hD; go_simp; exact hK.out _ (Below.refl _ _))); simp only [Act.put, List.setIfInBounds_toArray, List.set_cons_zero, List.set_cons_succ, Nat.reduceAdd, List.cons_append, List.nil_append])
            iterate 3 (apply Par.par_g; (focus (intro w6 hR hD K hK; replace hK := Lib.hid hK; skip; clear hR hD; go_simp; exact hK.out _ (Below.refl _ _))); simp only [Act.put, List.setIfInBounds_toArray, List.set_cons_zero, List.set_cons_succ, Nat.reduceAdd, List.cons_append, List.nil_append])
            (apply Par.par_g; (focus (intro w6 hR hD K hK; replace hK := Lib.hid hK; obtain ⟨e0, e1⟩ := HF.out w6 hR; clear hR hD; go_simp; exact hK.out _ (Below.refl _ _))); simp only [Act.put, List.setIfInBounds_toArray, List.set_cons_zero, List.set_cons_succ, Nat.reduceAdd, List.cons_append, List.nil_append])
            iterate 2 (apply Par.par_g; (focus (intro w6 hR hD K hK; replace hK := Lib.hid hK; skip; clear hR hD; go_simp; exact hK.out _ (Below.refl _ _))); simp only [Act.put, List.setIfInBounds_toArray, List.set_cons_zero, List.set_cons_succ, Nat.reduceAdd, List.cons_append, List.nil_append])
            (apply Par.par_x rfl; (focus (intro w6 hR hD K hK; replace hK := Lib.hid hK; skip; clear hR hD; go_simp; exact hK.out _ (Below.refl _ _))); simp only [Act.put, List.setIfInBounds_toArray, List.set_cons_zero, List.set_cons_succ, Nat.reduceAdd, List.cons_append, List.nil_append])
            refine Par.par_end fun w6 hR hp => ?_
            clear hp
            have HB6 := Lib.hid (below_call HB.out.drew hR)
            clear hR HF
            go_wp2
            go_ret
            exact ⟨(ret_bool (setS_false HLT.out (by rw [HST.out, HN.out, HLS.out]; simp [hk0]))).symm, HB6.out⟩
    · obtain rfl : k = l.length := by omega
      go_wp2
      go_ret
      exact ⟨ret_bool (by unfold setS; rw [HG.out]; simp [H4.out]), HB.out⟩
end Go.Proofs.YtikamehjeaoilaaGreatDoor
/-! The reference's words: a number, a node, a pod. -/
set_option linter.unusedVariables false
set_option linter.unusedSimpArgs false
namespace Go.Proofs.YtikamehjeaoilaaGreatDoor
open Go.RowKit

/-- What is left to read; nothing where it is bad. -/
def stt (s : List UInt8) (p : Nat) (bad : Bool) : Option (List UInt8) := if bad = true then none else some (s.drop p)
theorem stt_step {α β : Type} {S S' : Option (List UInt8)} {g : List UInt8 → Option (α × List UInt8)} {x : α} (h : S.bind g = S'.map fun t => (x, t)) (H : α × List UInt8 → Option β) : (S.bind fun t => (g t).bind H) = S'.bind fun t => H (x, t) := by
  have : (S.bind fun t => (g t).bind H) = (S.bind g).bind H := by cases S <;> rfl
  rw [this, h]
  cases S' <;> rfl
theorem stt_must {β : Type} {s : List UInt8} {p : Nat} {bad : Bool} {c : UInt8} (H : List UInt8 → Option β) : ((stt s p bad).bind fun t => (pMust c t).bind H) = (stt s (if signR s p bad c = true then p + 1 else p) (!signR s p bad c)).bind H := by
  cases bad
  · simp only [stt, Bool.false_eq_true, if_false, Option.bind_some, must_p]
    cases signR s p false c <;> simp
  · simp [stt, signR]
theorem stt_num {g : Nat} {s : List UInt8} {p most n p' : Nat} {bad bad' : Bool} (h1 : bad = true → bad' = true) (h2 : bad = false → match pNum most (s.drop p) with | some (m, t) => n = m ∧ bad' = false ∧ s.drop p' = t | none => bad' = true) :
    (stt s p bad).bind (pNum most) = (stt s p' bad').map fun t => (n, t) := by
  cases bad
  · have := h2 rfl
    simp only [stt, Bool.false_eq_true, if_false, Option.bind_some]
    match hq : pNum most (s.drop p) with
    | none => rw [hq] at this; simp only at this; rw [this]; rfl
    | some (m, t) => rw [hq] at this; obtain ⟨rfl, rfl, rfl⟩ := this; rfl
  · rw [h1 rfl]; rfl
theorem stt_vec {s : List UInt8} {p most a b p' : Nat} {bad bad' : Bool} (h1 : bad = true → bad' = true) (h2 : bad = false → match pVec most (s.drop p) with | some (v, t) => v = (a, b) ∧ bad' = false ∧ s.drop p' = t | none => bad' = true) :
    (stt s p bad).bind (pVec most) = (stt s p' bad').map fun t => ((a, b), t) := by
  cases bad
  · have := h2 rfl
    simp only [stt, Bool.false_eq_true, if_false, Option.bind_some]
    match hq : pVec most (s.drop p) with
    | none => rw [hq] at this; simp only at this; rw [this]; rfl
    | some (m, t) => rw [hq] at this; obtain ⟨rfl, rfl, rfl⟩ := this; rfl
  · rw [h1 rfl]; rfl
theorem stt_row {s : List UInt8} {p p' : Nat} {c : UInt8} {ns : List (List UInt8)} {bad bad' : Bool} (hp : p ≤ s.length) (h1 : bad = true → bad' = true) (h2 : bad = false → ∀ k, s.length ≤ k + p → match pRow c k (s.drop p) with | some (l, t) => ns = l ∧ bad' = false ∧ s.drop p' = t | none => bad' = true) :
    (stt s p bad).bind (fun t => pRow c t.length t) = (stt s p' bad').map fun t => (ns, t) := by
  cases bad
  · have := h2 rfl (s.drop p).length (by rw [List.length_drop]; omega)
    simp only [stt, Bool.false_eq_true, if_false, Option.bind_some]
    match hq : pRow c (s.drop p).length (s.drop p) with
    | none => rw [hq] at this; simp only at this; rw [this]; rfl
    | some (m, t) => rw [hq] at this; obtain ⟨rfl, rfl, rfl⟩ := this; rfl
  · rw [h1 rfl]; rfl
theorem stt_name {s : List UInt8} {p' : Nat} (h : s.drop p' = s.dropWhile (fun c => !parting c)) :
    pName s = (stt s p' (decide (s.takeWhile (fun c => !parting c) = []))).map fun t => (s.takeWhile (fun c => !parting c), t) := by
  unfold pName stt
  rw [h]
  by_cases e : s.takeWhile (fun c => !parting c) = [] <;> simp [e]
theorem stt_end {β : Type} {s : List UInt8} {p : Nat} {bad : Bool} (hp : p ≤ s.length) (F : Bool → β) : ((stt s p bad).bind fun t => if (pSign 33 t).2 = [] then some (F (pSign 33 t).1) else none) =
    if (!bad && decide ((if signR s p bad 33 = true then p + 1 else p) = s.length)) = true then some (F (signR s p bad 33)) else none := by
  cases bad
  · simp only [stt, Bool.false_eq_true, if_false, Option.bind_some, sign_p, Bool.not_false, Bool.true_and, decide_eq_true_eq]
    have hb : signR s p false 33 = true → p + 1 ≤ s.length := fun h => by
      simp only [signR, Bool.not_false, Bool.true_and, Bool.and_eq_true, decide_eq_true_eq] at h
      omega
    cases hs : signR s p false 33
    · simp [List.drop_eq_nil_iff]
      congr 1
      apply propext
      constructor <;> intro <;> omega
    · have := hb hs
      simp [List.drop_eq_nil_iff]
      congr 1
      apply propext
      constructor <;> intro <;> omega
  · simp [stt]
theorem stt_over {s : List UInt8} {p : Nat} {bad : Bool} (hp : p ≤ s.length) : (stt s p bad).bind (fun t => if t = [] then some () else none) = if (!bad && decide (p = s.length)) = true then some () else none := by
  cases bad
  · simp [stt, List.drop_eq_nil_iff]
    congr 1
    apply propext
    constructor <;> intro <;> omega
  · simp [stt]
theorem gb_sets (b : Nat) : ∀ (vs : List Value) (o : Nat) (w : World), Gb b w (w.setCells b o vs)
  | [], _, w => Gb.refl _ _
  | v :: vs, o, w => (Gb.set w b o v).trans (gb_sets b vs (o + 1) _)
set_option maxHeartbeats 4000000 in
set_option maxRecDepth 100000 in
theorem rdnumber_any (s : List UInt8) (most : Nat) (hm : most ≤ 999999999999999) (hl : s.length ≤ 4294967280) (w : World) :
    Calls Tryz.prog 47 #[.string (str s), .int .i64 most] w fun e w' => ∃ n, e = .returned (.tuple #[.int .i64 (n : Nat), .bool (numW most s).isSome]) ∧ n ≤ 10 * most + 9 ∧ (∀ m, numW most s = some m → n = m) ∧ Below w.heap.size w w' := by
  have HM := Lib.hid hm
  have HL := Lib.hid hl
  obtain ⟨z, hz⟩ : ∃ z, str s = z := ⟨_, rfl⟩
  have hzs : z.size = s.length := by rw [← hz, str_size]
  rw [hz]
  have HZ := Lib.hid hz
  have HZS := Lib.hid hzs
  obtain ⟨okk, hok⟩ : ∃ o, (numW most s).isSome = o := ⟨_, rfl⟩
  rw [hok]
  have HOK := Lib.hid hok
  clear hz hzs hm hl hok
  go_enter Tryz.func47, Tryz.ntmps47
  go_wp2_with fail
  have hb : Below w.heap.size w (w.alloc (.cells #[.string z, .int .i64 0, .bool false] 124)) := below_alloc' (Below.refl _ _) _
  have hr : RrAt (w.alloc (.cells #[.string z, .int .i64 0, .bool false] 124)) w.heap.size s 0 false := ⟨by rw [HZ.out]; exact alloc_at _ _, Nat.zero_le _, HL.out⟩
  generalize World.alloc w _ = w1 at hb hr ⊢
  refine (rr_number w.heap.size s 0 false most HM.out w1 hr).mono ?_
  rintro e w2 ⟨n, p, bad, rfl, hr2, hn, hpp, hg, hbb, hmm⟩
  have hsome : (numW most s) = if (!bad && decide (p = s.length)) = true then some n else none := by
    have h1 := stt_num (g := 0) (p := 0) hbb hmm
    have h2 : numW most s = ((stt s 0 false).bind (pNum most)).bind fun r => if r.2 = [] then some r.1 else none := by simp [stt, numW]
    rw [h2, h1]
    have h3 := stt_over (s := s) (p := p) (bad := bad) hr2.2.1
    cases hs : stt s p bad with
    | none => rw [hs] at h3; simp only [Option.bind_none] at h3; simp only [Option.map_none, Option.bind_none]; split at h3 <;> simp_all
    | some t => rw [hs] at h3; simp only [Option.bind_some] at h3; simp only [Option.map_some, Option.bind_some]; split at h3 <;> split at h3 <;> simp_all
  have hbo : (!bad && decide (p = s.length)) = okk := by
    rw [← HOK.out, hsome]
    cases h : (!bad && decide (p = s.length)) <;> simp
  have c1 := cell_of_block hr2.1 1 _ rfl
  have c2 := cell_of_block hr2.1 2 _ rfl
  have HB2 := Lib.hid (Gb.below hb hg (Nat.le_refl _) hb.size)
  have HSM := Lib.hid hsome
  have HN := Lib.hid hn
  clear hb hr hr2 hpp hg hbb hmm hsome hn
  cases bad
  · rw [← HZS.out] at hbo
    simp only [Bool.not_false, Bool.true_and] at hbo
    by_cases hpz : p = z.size
    · have d0 : ((p : Int) == (z.size : Int)) = true := by simp [hpz]
      obtain rfl : okk = true := by rw [← hbo]; simp [hpz]
      have HPZ := Lib.hid hpz
      clear hbo hpz
      go_wp2
      go_quiet (fail)
      go_wp2
      go_ret2
      exact ⟨n, rfl, HN.out, fun m h => by rw [HSM.out, if_pos (by simp [HPZ.out, HZS.out])] at h; exact Option.some.inj h, HB2.out.trans ⟨rfl, rfl, rfl, Nat.le_refl _, fun _ _ => rfl⟩⟩
    · have d0 : ((p : Int) == (z.size : Int)) = false := beq_eq_false_iff_ne.2 (by omega)
      obtain rfl : okk = false := by rw [← hbo]; simp [hpz]
      have HPZ := Lib.hid hpz
      clear hbo hpz
      go_wp2
      go_quiet (fail)
      go_wp2
      go_ret2
      exact ⟨n, rfl, HN.out, (fun m h => by rw [HSM.out, if_neg (by rw [← HZS.out]; simp [HPZ.out])] at h; cases h), HB2.out.trans ⟨rfl, rfl, rfl, Nat.le_refl _, fun _ _ => rfl⟩⟩
  · simp only [Bool.not_true, Bool.false_and] at hbo
    subst hbo
    go_wp2
    go_quiet (fail)
    go_wp2
    go_ret2
    exact ⟨n, rfl, HN.out, (fun m h => by rw [HSM.out] at h; simp at h), HB2.out.trans ⟨rfl, rfl, rfl, Nat.le_refl _, fun _ _ => rfl⟩⟩
def RNodePost (s : List UInt8) (w : World) (e : Ending) (w' : World) : Prop :=
  ∃ (x : NodeL) (u v : Value), e = .returned (.tuple #[.agg #[.string (str x.name), .int .i64 x.cpu, .int .i64 x.mem, u, v, .bool x.closed], .bool (pNode 999999999999999 s).isSome]) ∧ Strs w.heap.size w' u (x.marks.map str) ∧ Strs w.heap.size w' v (x.taints.map str) ∧ (x.cpu ≤ 9999999999999999 ∧ x.mem ≤ 9999999999999999) ∧ x.name.length ≤ s.length ∧ (x.marks.length ≤ s.length ∧ ∀ y ∈ x.marks, y.length ≤ s.length) ∧ (x.taints.length ≤ s.length ∧ ∀ y ∈ x.taints, y.length ≤ s.length) ∧ (∀ m, pNode 999999999999999 s = some m → x = m) ∧ Below w.heap.size w w'
set_option maxHeartbeats 16000000 in
set_option maxRecDepth 1000000 in
theorem rdnode_any (s : List UInt8) (hl : s.length ≤ 4294967280) (w : World) : Calls Tryz.prog 49 #[.string (str s)] w (RNodePost s w) := by
  have HL := Lib.hid hl
  obtain ⟨z, hz⟩ : ∃ z, str s = z := ⟨_, rfl⟩
  have hzs : z.size = s.length := by rw [← hz, str_size]
  rw [hz]
  have HZ := Lib.hid hz
  have HZS := Lib.hid hzs
  clear hz hzs hl
  go_enter Tryz.func49, Tryz.ntmps49
  go_wp2_with fail
  have hb : Below w.heap.size w ((w.alloc (.cells #[.string ⟨#[]⟩, .int .i64 0, .int .i64 0, .slice none 0 0, .slice none 0 0, .bool false] 31)).alloc (.cells #[.string z, .int .i64 0, .bool false] 124)) := below_alloc' (below_alloc' (Below.refl _ _) _) _
  have hr : RrAt ((w.alloc (.cells #[.string ⟨#[]⟩, .int .i64 0, .int .i64 0, .slice none 0 0, .slice none 0 0, .bool false] 31)).alloc (.cells #[.string z, .int .i64 0, .bool false] 124)) (w.heap.size + 1) s 0 false := ⟨by rw [HZ.out]; exact alloc_second _ _ _, Nat.zero_le _, HL.out⟩
  have ha : ((w.alloc (.cells #[.string ⟨#[]⟩, .int .i64 0, .int .i64 0, .slice none 0 0, .slice none 0 0, .bool false] 31)).alloc (.cells #[.string z, .int .i64 0, .bool false] 124)).heap[w.heap.size]? = some (.cells #[.string ⟨#[]⟩, .int .i64 0, .int .i64 0, .slice none 0 0, .slice none 0 0, .bool false] 31 (0, 0)) := block_below (alloc_at _ _) (below_alloc' (Below.refl _ _) _)
  generalize World.alloc (World.alloc w _) _ = w1 at hb hr ha ⊢
  refine (rr_name (w.heap.size + 1) s 0 false w1 hr).mono ?_
  rintro e w2 ⟨p1, rfl, hd1, hp1, hr2, hg2⟩
  rw [Bool.false_or] at hr2
  simp only [List.drop_zero] at hd1 hr2 ⊢
  obtain ⟨nm, hnm⟩ : ∃ nm, s.takeWhile (fun c => !parting c) = nm := ⟨_, rfl⟩
  have hnl : nm.length ≤ s.length := by rw [← hnm]; exact (List.takeWhile_prefix (l := s) (fun c => !parting c)).length_le
  have e1 := stt_name hd1
  rw [hnm] at hr2 e1 ⊢
  obtain ⟨b1, hb1⟩ : ∃ b, decide (nm = []) = b := ⟨_, rfl⟩
  rw [hb1] at hr2 e1
  have E1 := Lib.hid e1
  have HNL := Lib.hid hnl
  obtain ⟨zn, hzn⟩ : ∃ z, str nm = z := ⟨_, rfl⟩
  rw [hzn]
  have HZN := Lib.hid hzn
  have hs1 : w.heap.size + 1 < w1.heap.size := (Array.getElem?_eq_some_iff.1 hr.1).1
  have hs2 := hg2.size
  have HR := Lib.hid hr2
  have HA := Lib.hid (hg2.block' ha (by omega))
  have HB := Lib.hid (Gb.below hb hg2 (Nat.le_succ _) hb.size)
  have HS : Hid (w.heap.size + 1 < w2.heap.size) := Lib.hid (by omega)
  clear hb hr ha hd1 hp1 hr2 hg2 hnm hb1 hnl hzn hs1 hs2 e1
  go_wp2_with fail
  have hq : (w2.alloc (.cells #[.string zn, .int .i64 0, .int .i64 0, .slice none 0 0, .slice none 0 0, .bool false] 31)).heap[w2.heap.size]? = some (.cells #[.string zn, .int .i64 0, .int .i64 0, .slice none 0 0, .slice none 0 0, .bool false] 31 (0, 0)) := alloc_at _ _
  have hbq : Below w2.heap.size w2 (w2.alloc (.cells #[.string zn, .int .i64 0, .int .i64 0, .slice none 0 0, .slice none 0 0, .bool false] 31)) := below_alloc' (Below.refl _ _) _
  replace HR := Lib.hid (HR.out.below hbq)
  replace HA := Lib.hid (block_below HA.out hbq)
  replace HB := Lib.hid (below_call HB.out hbq)
  have HQ := Lib.hid hq
  clear hq
  obtain ⟨Q, hQ⟩ : ∃ Q, w2.heap.size = Q := ⟨_, rfl⟩
  rw [hQ] at HQ hbq HS ⊢
  generalize World.alloc w2 _ = w3 at HR HA HB HQ hbq ⊢
  clear hbq hQ
  obtain ⟨r58, hr58⟩ : ∃ r, signR s p1 b1 58 = r := ⟨_, rfl⟩
  have hms58 := rr_must (w.heap.size + 1) s p1 b1 58 w3 HR.out
  obtain ⟨p58, hp58⟩ : ∃ r, (if signR s p1 b1 58 = true then p1 + 1 else p1) = r := ⟨_, rfl⟩
  have EM58 : Hid (∀ (β : Type) (H : List UInt8 → Option β), ((stt s p1 b1).bind fun t => (pMust 58 t).bind H) = (stt s p58 (!r58)).bind H) := Lib.hid (fun β H => by rw [stt_must, hp58, hr58])
  rw [hr58] at hms58 hp58
  rw [hp58] at hms58
  obtain ⟨b58, hb58⟩ : ∃ b, (!r58) = b := ⟨_, rfl⟩
  rw [hb58] at hms58 EM58
  have HMS := Lib.hid hms58
  clear hms58 hp58 hr58 hb58
  refine (HMS.out).mono ?_
  rintro e w4 ⟨rfl, hr, hg⟩
  replace HA := Lib.hid (hg.block' HA.out (by omega))
  replace HQ := Lib.hid (hg.block' HQ.out (by have := HS.out; omega))
  replace HB := Lib.hid (Gb.below HB.out hg (Nat.le_succ _) HB.out.size)
  replace HR := Lib.hid hr
  clear hr hg 
  clear HMS
  go_wp2_with fail
  refine (rr_vec (w.heap.size + 1) s p58 b58 999999999999999 (by decide) w4 HR.out).mono ?_
  rintro e w5 ⟨va, vb, pv, bv, rfl, hr, hna, hnb, hpp, hg, hbb, hmm⟩
  replace HA := Lib.hid (hg.block' HA.out (by omega))
  replace HQ := Lib.hid (hg.block' HQ.out (by have := HS.out; omega))
  replace HB := Lib.hid (Gb.below HB.out hg (Nat.le_succ _) HB.out.size)
  replace HR := Lib.hid hr
  have BVA := Lib.hid hna
  have BVB := Lib.hid hnb
  clear hr hg hna hnb
  have EV := Lib.hid (stt_vec hbb hmm)
  clear hbb hmm hpp
  have q0 := cell_of_block HQ.out 0 _ rfl
  have q1 := cell_of_block HQ.out 1 _ rfl
  have q2 := cell_of_block HQ.out 2 _ rfl
  have q3 := cell_of_block HQ.out 3 _ rfl
  have q4 := cell_of_block HQ.out 4 _ rfl
  have q5 := cell_of_block HQ.out 5 _ rfl
  have fq := free_of_block HQ.out
  go_wp2_with fail
  replace HQ : Hid ((w5.setCell ⟨Q, 1, none⟩ (.int .i64 va)).heap[Q]? = some (.cells #[.string zn, .int .i64 va, .int .i64 0, .slice none 0 0, .slice none 0 0, .bool false] 31 (0, 0))) := Lib.hid (setAt (ds := #[.string zn, .int .i64 va, .int .i64 0, .slice none 0 0, .slice none 0 0, .bool false]) HQ.out (by simp))
  replace HA : Hid ((w5.setCell ⟨Q, 1, none⟩ (.int .i64 va)).heap[w.heap.size]? = some (.cells #[.string ⟨#[]⟩, .int .i64 0, .int .i64 0, .slice none 0 0, .slice none 0 0, .bool false] 31 (0, 0))) := Lib.hid (setFar HA.out (by have := HS.out; omega))
  replace HR : Hid (RrAt (w5.setCell ⟨Q, 1, none⟩ (.int .i64 va)) (w.heap.size + 1) s pv bv) := Lib.hid ⟨setFar HR.out.1 (by have := HS.out; omega), HR.out.2⟩
  replace HB : Hid (Below w.heap.size w (w5.setCell ⟨Q, 1, none⟩ (.int .i64 va))) := Lib.hid (HB.out.setCell (p := ⟨Q, 1, none⟩) (by have := HS.out; show w.heap.size ≤ Q; omega) (.int .i64 va))
  replace HQ : Hid (((w5.setCell ⟨Q, 1, none⟩ (.int .i64 va)).setCell ⟨Q, 2, none⟩ (.int .i64 vb)).heap[Q]? = some (.cells #[.string zn, .int .i64 va, .int .i64 vb, .slice none 0 0, .slice none 0 0, .bool false] 31 (0, 0))) := Lib.hid (setAt (ds := #[.string zn, .int .i64 va, .int .i64 vb, .slice none 0 0, .slice none 0 0, .bool false]) HQ.out (by simp))
  replace HA : Hid (((w5.setCell ⟨Q, 1, none⟩ (.int .i64 va)).setCell ⟨Q, 2, none⟩ (.int .i64 vb)).heap[w.heap.size]? = some (.cells #[.string ⟨#[]⟩, .int .i64 0, .int .i64 0, .slice none 0 0, .slice none 0 0, .bool false] 31 (0, 0))) := Lib.hid (setFar HA.out (by have := HS.out; omega))
  replace HR : Hid (RrAt ((w5.setCell ⟨Q, 1, none⟩ (.int .i64 va)).setCell ⟨Q, 2, none⟩ (.int .i64 vb)) (w.heap.size + 1) s pv bv) := Lib.hid ⟨setFar HR.out.1 (by have := HS.out; omega), HR.out.2⟩
  replace HB : Hid (Below w.heap.size w ((w5.setCell ⟨Q, 1, none⟩ (.int .i64 va)).setCell ⟨Q, 2, none⟩ (.int .i64 vb))) := Lib.hid (HB.out.setCell (p := ⟨Q, 2, none⟩) (by have := HS.out; show w.heap.size ≤ Q; omega) (.int .i64 vb))
  generalize hgw : ((w5.setCell ⟨Q, 1, none⟩ (.int .i64 va)).setCell ⟨Q, 2, none⟩ (.int .i64 vb)) = w6 at HQ HA HR HB  ⊢
  clear hgw q0 q1 q2 q3 q4 q5 fq
  have SZ43 : Hid (w.heap.size + 2 ≤ w6.heap.size) := Lib.hid (by have := HS.out; have := (Array.getElem?_eq_some_iff.1 HQ.out).1; omega)
  have hpl43 := HR.out.2.1
  refine (rr_row (w.heap.size + 1) s pv bv 43 w6 HR.out).mono ?_
  rintro e w7 ⟨u, ns, pr43, br43, rfl, ho, hnl, hnx, hr, hpp, hg, hbb, hmm⟩
  replace HA := Lib.hid (hg.block' HA.out (by omega))
  replace HQ := Lib.hid (hg.block' HQ.out (by have := HS.out; omega))
  replace HB := Lib.hid (Gb.below HB.out hg (Nat.le_succ _) HB.out.size)
  replace HR := Lib.hid hr
  have NL43 := Lib.hid hnl
  have NX43 := Lib.hid hnx
  clear hr hg hnl hnx
  have ER43 := Lib.hid (stt_row hpl43 hbb hmm)
  have hob43 := own_base ho (show w.heap.size + 2 ≤ _ by have := HS.out; have := (Array.getElem?_eq_some_iff.1 HQ.out).1; have := SZ43.out; omega)
  obtain ⟨au, lu, cu, rfl⟩ := own_slice hob43
  have O43 := Lib.hid hob43
  clear hbb hmm hpp hpl43 ho hob43
  have q0 := cell_of_block HQ.out 0 _ rfl
  have q1 := cell_of_block HQ.out 1 _ rfl
  have q2 := cell_of_block HQ.out 2 _ rfl
  have q3 := cell_of_block HQ.out 3 _ rfl
  have q4 := cell_of_block HQ.out 4 _ rfl
  have q5 := cell_of_block HQ.out 5 _ rfl
  have fq := free_of_block HQ.out
  go_wp2_with fail
  replace O43 := Lib.hid (own_set' (b := Q) (j := 3) O43.out HQ.out (by decide) (.slice au lu cu))
  replace HQ : Hid ((w7.setCell ⟨Q, 3, none⟩ (.slice au lu cu)).heap[Q]? = some (.cells #[.string zn, .int .i64 va, .int .i64 vb, .slice au lu cu, .slice none 0 0, .bool false] 31 (0, 0))) := Lib.hid (setAt (ds := #[.string zn, .int .i64 va, .int .i64 vb, .slice au lu cu, .slice none 0 0, .bool false]) HQ.out (by simp))
  replace HA : Hid ((w7.setCell ⟨Q, 3, none⟩ (.slice au lu cu)).heap[w.heap.size]? = some (.cells #[.string ⟨#[]⟩, .int .i64 0, .int .i64 0, .slice none 0 0, .slice none 0 0, .bool false] 31 (0, 0))) := Lib.hid (setFar HA.out (by have := HS.out; omega))
  replace HR : Hid (RrAt (w7.setCell ⟨Q, 3, none⟩ (.slice au lu cu)) (w.heap.size + 1) s pr43 br43) := Lib.hid ⟨setFar HR.out.1 (by have := HS.out; omega), HR.out.2⟩
  replace HB : Hid (Below w.heap.size w (w7.setCell ⟨Q, 3, none⟩ (.slice au lu cu))) := Lib.hid (HB.out.setCell (p := ⟨Q, 3, none⟩) (by have := HS.out; show w.heap.size ≤ Q; omega) (.slice au lu cu))
  generalize hgw : (w7.setCell ⟨Q, 3, none⟩ (.slice au lu cu)) = w8 at HQ HA HR HB O43 ⊢
  clear hgw q0 q1 q2 q3 q4 q5 fq
  have SZ126 : Hid (w.heap.size + 2 ≤ w8.heap.size) := Lib.hid (by have := HS.out; have := (Array.getElem?_eq_some_iff.1 HQ.out).1; omega)
  have hpl126 := HR.out.2.1
  refine (rr_row (w.heap.size + 1) s pr43 br43 126 w8 HR.out).mono ?_
  rintro e w9 ⟨v, ms, pr126, br126, rfl, ho, hnl, hnx, hr, hpp, hg, hbb, hmm⟩
  replace HA := Lib.hid (hg.block' HA.out (by omega))
  replace HQ := Lib.hid (hg.block' HQ.out (by have := HS.out; omega))
  replace O43 := Lib.hid (own_gb O43.out hg (by omega))
  replace HB := Lib.hid (Gb.below HB.out hg (Nat.le_succ _) HB.out.size)
  replace HR := Lib.hid hr
  have NL126 := Lib.hid hnl
  have NX126 := Lib.hid hnx
  clear hr hg hnl hnx
  have ER126 := Lib.hid (stt_row hpl126 hbb hmm)
  have hob126 := own_base ho (show w.heap.size + 2 ≤ _ by have := HS.out; have := (Array.getElem?_eq_some_iff.1 HQ.out).1; have := SZ126.out; omega)
  obtain ⟨av, lv, cv, rfl⟩ := own_slice hob126
  have O126 := Lib.hid hob126
  clear hbb hmm hpp hpl126 ho hob126
  have q0 := cell_of_block HQ.out 0 _ rfl
  have q1 := cell_of_block HQ.out 1 _ rfl
  have q2 := cell_of_block HQ.out 2 _ rfl
  have q3 := cell_of_block HQ.out 3 _ rfl
  have q4 := cell_of_block HQ.out 4 _ rfl
  have q5 := cell_of_block HQ.out 5 _ rfl
  have fq := free_of_block HQ.out
  go_wp2_with fail
  replace O43 := Lib.hid (own_set' (b := Q) (j := 4) O43.out HQ.out (by decide) (.slice av lv cv))
  replace O126 := Lib.hid (own_set' (b := Q) (j := 4) O126.out HQ.out (by decide) (.slice av lv cv))
  replace HQ : Hid ((w9.setCell ⟨Q, 4, none⟩ (.slice av lv cv)).heap[Q]? = some (.cells #[.string zn, .int .i64 va, .int .i64 vb, .slice au lu cu, .slice av lv cv, .bool false] 31 (0, 0))) := Lib.hid (setAt (ds := #[.string zn, .int .i64 va, .int .i64 vb, .slice au lu cu, .slice av lv cv, .bool false]) HQ.out (by simp))
  replace HA : Hid ((w9.setCell ⟨Q, 4, none⟩ (.slice av lv cv)).heap[w.heap.size]? = some (.cells #[.string ⟨#[]⟩, .int .i64 0, .int .i64 0, .slice none 0 0, .slice none 0 0, .bool false] 31 (0, 0))) := Lib.hid (setFar HA.out (by have := HS.out; omega))
  replace HR : Hid (RrAt (w9.setCell ⟨Q, 4, none⟩ (.slice av lv cv)) (w.heap.size + 1) s pr126 br126) := Lib.hid ⟨setFar HR.out.1 (by have := HS.out; omega), HR.out.2⟩
  replace HB : Hid (Below w.heap.size w (w9.setCell ⟨Q, 4, none⟩ (.slice av lv cv))) := Lib.hid (HB.out.setCell (p := ⟨Q, 4, none⟩) (by have := HS.out; show w.heap.size ≤ Q; omega) (.slice av lv cv))
  generalize hgw : (w9.setCell ⟨Q, 4, none⟩ (.slice av lv cv)) = w10 at HQ HA HR HB O43 O126 ⊢
  clear hgw q0 q1 q2 q3 q4 q5 fq
  obtain ⟨fl, hfl⟩ : ∃ r, signR s pr126 br126 33 = r := ⟨_, rfl⟩
  have hms := rr_sign (w.heap.size + 1) s pr126 br126 33 w10 HR.out
  obtain ⟨pe, hpe⟩ : ∃ r, (if signR s pr126 br126 33 = true then pr126 + 1 else pr126) = r := ⟨_, rfl⟩
  have hee : ∀ (β : Type) (F : Bool → β), ((stt s pr126 br126).bind fun t => if (pSign 33 t).2 = [] then some (F (pSign 33 t).1) else none) = if (!br126 && decide (pe = s.length)) = true then some (F fl) else none := fun β F => by rw [stt_end HR.out.2.1, hpe, hfl]
  have EE := Lib.hid hee
  rw [hpe, hfl] at hms
  have HMS := Lib.hid hms
  clear hms hpe hfl hee
  refine (HMS.out).mono ?_
  rintro e w11 ⟨rfl, hr, hg⟩
  replace HA := Lib.hid (hg.block' HA.out (by omega))
  replace HQ := Lib.hid (hg.block' HQ.out (by have := HS.out; omega))
  replace O43 := Lib.hid (own_gb O43.out hg (by omega))
  replace O126 := Lib.hid (own_gb O126.out hg (by omega))
  replace HB := Lib.hid (Gb.below HB.out hg (Nat.le_succ _) HB.out.size)
  replace HR := Lib.hid hr
  clear hr hg 
  clear HMS
  have hparse : (pNode 999999999999999 s) = if (!br126 && decide (pe = s.length)) = true then some (⟨nm, va, vb, ns, ms, fl⟩ : NodeL) else none := by
    unfold pNode pTail
    rw [E1.out]
    have k1 : ∀ (β : Type) (S : Option (List UInt8)) (x : List UInt8) (H : List UInt8 × List UInt8 → Option β), ((S.map fun t => (x, t)).bind H) = S.bind fun t => H (x, t) := fun β S x H => by cases S <;> rfl
    rw [k1]
    dsimp only
    rw [EM58.out, stt_step EV.out]
    dsimp only
    simp only [Option.map_bind, Function.comp_def]
    rw [stt_step ER43.out]
    dsimp only
    rw [stt_step ER126.out]
    dsimp only
    rw [← EE.out _ (fun f => (⟨nm, va, vb, ns, ms, f⟩ : NodeL))]
    cases stt s pr126 br126 with
    | none => rfl
    | some t => simp only [Option.bind_some]; split <;> rfl
  have q0 := cell_of_block HQ.out 0 _ rfl
  have q1 := cell_of_block HQ.out 1 _ rfl
  have q2 := cell_of_block HQ.out 2 _ rfl
  have q3 := cell_of_block HQ.out 3 _ rfl
  have q4 := cell_of_block HQ.out 4 _ rfl
  have q5 := cell_of_block HQ.out 5 _ rfl
  have fq := free_of_block HQ.out
  have HPA := Lib.hid hparse
  clear hparse
  have hpe := HR.out.2.1
  go_upto_region 8 with fail
  replace O43 := Lib.hid (own_set' (b := Q) (j := 5) O43.out HQ.out (by decide) (.bool fl))
  replace O126 := Lib.hid (own_set' (b := Q) (j := 5) O126.out HQ.out (by decide) (.bool fl))
  replace HQ : Hid ((w11.setCell ⟨Q, 5, none⟩ (.bool fl)).heap[Q]? = some (.cells #[.string zn, .int .i64 va, .int .i64 vb, .slice au lu cu, .slice av lv cv, .bool fl] 31 (0, 0))) := Lib.hid (setAt (ds := #[.string zn, .int .i64 va, .int .i64 vb, .slice au lu cu, .slice av lv cv, .bool fl]) HQ.out (by simp))
  replace HA : Hid ((w11.setCell ⟨Q, 5, none⟩ (.bool fl)).heap[w.heap.size]? = some (.cells #[.string ⟨#[]⟩, .int .i64 0, .int .i64 0, .slice none 0 0, .slice none 0 0, .bool false] 31 (0, 0))) := Lib.hid (setFar HA.out (by have := HS.out; omega))
  replace HR : Hid (RrAt (w11.setCell ⟨Q, 5, none⟩ (.bool fl)) (w.heap.size + 1) s pe br126) := Lib.hid ⟨setFar HR.out.1 (by have := HS.out; omega), HR.out.2⟩
  replace HB : Hid (Below w.heap.size w (w11.setCell ⟨Q, 5, none⟩ (.bool fl))) := Lib.hid (HB.out.setCell (p := ⟨Q, 5, none⟩) (by have := HS.out; show w.heap.size ≤ Q; omega) (.bool fl))
  generalize hgw : (w11.setCell ⟨Q, 5, none⟩ (.bool fl)) = wz at HQ HA HR HB O43 O126 ⊢
  clear hgw q0 q1 q2 q3 q4 q5 fq
  cases br126
  · by_cases hpz : pe = z.size
    · have d0 : ((pe : Int) == (z.size : Int)) = true := by simp [hpz]
      have HPZ := Lib.hid hpz
      clear hpz
      have hfac : ∀ w6, Gb w.heap.size wz.drew w6 → w6.heap[Q]? = some (.cells #[.string zn, .int .i64 va, .int .i64 vb, .slice au lu cu, .slice av lv cv, .bool fl] 31 (0, 0)) ∧ w6.heap[w.heap.size + 1]? = some (.cells #[.string z, .int .i64 pe, .bool false] 124 (0, 0)) ∧ w6.ownsRow (w.heap.size + 2) 9 1 (.slice au lu cu) (ns.map str).length ((ns.map str).map Value.string) ∧ w6.ownsRow (w.heap.size + 2) 9 1 (.slice av lv cv) (ms.map str).length ((ms.map str).map Value.string) := fun w6 h => ⟨h.block' (show wz.drew.heap[Q]? = _ from HQ.out) (by have := HS.out; omega), h.block' (show wz.drew.heap[w.heap.size + 1]? = _ by have := HR.out.1; rw [HZ.out] at this; exact this) (by omega), own_gb (own_drew O43.out) h (by omega), own_gb (own_drew O126.out) h (by omega)⟩
      have HF := Lib.hid hfac
      clear hfac
      refine' Se.wp_region_pass (fun w w' => Below w.heap.size w w') (Gb w.heap.size) 16 (by kernel_rfl) (by kernel_rfl) (by kernel_rfl) (by kernel_rfl) (by kernel_rfl) (by kernel_rfl)
        (fun w => Gb.refl _ _) (fun h k => Gb.trans h k) [(fun w3 => w3.heap[w.heap.size]? = some (.cells #[.string ⟨#[]⟩, .int .i64 0, .int .i64 0, .slice none 0 0, .slice none 0 0, .bool false] 31 (0, 0)), 15)] [] ?_ ?_ (by simp) (fun vals => ?_)
      case refine'_2 =>
        intro e he
        obtain rfl := List.mem_singleton.1 he
        exact HA.out
      case refine'_3 =>
        intro e he w1' w2' k h
        obtain rfl := List.mem_singleton.1 he
        exact block_below h k
      rotate_left
      simp only [List.take_succ_cons, List.take_zero, List.drop_succ_cons, List.drop_zero]
      (apply Se.pas_x (fun _ _ h => Gb.of_below h) rfl; (focus rfl); (focus (intro w6 hR hD hP K hK; replace hK := Lib.hid hK; have hq := (HF.out w6 hR).1; have e0 := cell_of_block hq 0 _ rfl; have e1 := cell_of_block hq 1 _ rfl; have e2 := cell_of_block hq 2 _ rfl; have e3 := cell_of_block hq 3 _ rfl; have e4 := cell_of_block hq 4 _ rfl; have e5 := cell_of_block hq 5 _ rfl; clear hR hD hP hq; go_simp; exact hK.out _ (Below.refl _ _))); simp only [Act.put, List.setIfInBounds_toArray, List.set_cons_zero, List.set_cons_succ, Nat.reduceAdd, List.cons_append, List.nil_append])
      iterate 3 (apply Se.pas_x (fun _ _ h => Gb.of_below h) rfl; (focus rfl); (focus (intro w6 hR hD hP K hK; replace hK := Lib.hid hK; skip; clear hR hD hP; go_simp; exact hK.out _ (Below.refl _ _))); simp only [Act.put, List.setIfInBounds_toArray, List.set_cons_zero, List.set_cons_succ, Nat.reduceAdd, List.cons_append, List.nil_append])
      (apply Se.pas_x (fun _ _ h => Gb.of_below h) rfl; (focus rfl); (focus (intro w6 hR hD hP K hK; replace hK := Lib.hid hK; have hq := (HF.out w6 hR).2.1; have r2 := cell_of_block hq 2 _ rfl; clear hR hD hP hq; go_simp; exact hK.out _ (Below.refl _ _))); simp only [Act.put, List.setIfInBounds_toArray, List.set_cons_zero, List.set_cons_succ, Nat.reduceAdd, List.cons_append, List.nil_append])
      iterate 2 (apply Se.pas_x (fun _ _ h => Gb.of_below h) rfl; (focus rfl); (focus (intro w6 hR hD hP K hK; replace hK := Lib.hid hK; skip; clear hR hD hP; go_simp; exact hK.out _ (Below.refl _ _))); simp only [Act.put, List.setIfInBounds_toArray, List.set_cons_zero, List.set_cons_succ, Nat.reduceAdd, List.cons_append, List.nil_append])
      iterate 3 (apply Se.pas_g (fun _ _ h => Gb.of_below h); (focus rfl); (focus (intro w6 hR hD hP K hK; replace hK := Lib.hid hK; skip; clear hR hD hP; go_simp; exact hK.out _ (Below.refl _ _))); simp only [Act.put, List.setIfInBounds_toArray, List.set_cons_zero, List.set_cons_succ, Nat.reduceAdd, List.cons_append, List.nil_append])
      (apply Se.pas_g (fun _ _ h => Gb.of_below h); (focus rfl); (focus (intro w6 hR hD hP K hK; replace hK := Lib.hid hK; have hq := (HF.out w6 hR).2.1; have r1 := cell_of_block hq 1 _ rfl; clear hR hD hP hq; go_simp; exact hK.out _ (Below.refl _ _))); simp only [Act.put, List.setIfInBounds_toArray, List.set_cons_zero, List.set_cons_succ, Nat.reduceAdd, List.cons_append, List.nil_append])
      iterate 3 (apply Se.pas_g (fun _ _ h => Gb.of_below h); (focus rfl); (focus (intro w6 hR hD hP K hK; replace hK := Lib.hid hK; skip; clear hR hD hP; go_simp; exact hK.out _ (Below.refl _ _))); simp only [Act.put, List.setIfInBounds_toArray, List.set_cons_zero, List.set_cons_succ, Nat.reduceAdd, List.cons_append, List.nil_append])
      (apply Se.pas_x (fun _ _ h => Gb.of_below h) rfl; (focus rfl); (focus (intro w6 hR hD hP K hK; replace hK := Lib.hid hK; skip; clear hR hD hP; go_simp; exact hK.out _ (Below.refl _ _))); simp only [Act.put, List.setIfInBounds_toArray, List.set_cons_zero, List.set_cons_succ, Nat.reduceAdd, List.cons_append, List.nil_append])
      (apply Se.pas_s (Gb w.heap.size) (fun _ w3 => w3.heap[w.heap.size]? = some (.cells #[.string zn, .int .i64 va, .int .i64 vb, .slice au lu cu, .slice av lv cv, .bool fl] 31 (0, 0))) (fun _ _ h => h) rfl (fun v w1 w2 h k => block_below h k); (focus rfl); (focus (intro w6 hR hD hP K hK; replace hK := Lib.hid hK; have hq := hP _ (List.mem_cons_self ..) (.inl rfl); have g0 := cell_of_block hq 0 _ rfl; have g1 := cell_of_block hq 1 _ rfl; have g2 := cell_of_block hq 2 _ rfl; have g3 := cell_of_block hq 3 _ rfl; have g4 := cell_of_block hq 4 _ rfl; have g5 := cell_of_block hq 5 _ rfl; have ff := fun j => free_of_block hq j; have HQ := Lib.hid hq; clear hR hD hP hq; go_simp; exact hK.out undef _ (gb_sets w.heap.size [.string zn, .int .i64 va, .int .i64 vb, .slice au lu cu, .slice av lv cv, .bool fl] 0 w6) (sets6 (.string zn) (.int .i64 va) (.int .i64 vb) (.slice au lu cu) (.slice av lv cv) (.bool fl) HQ.out))); simp only [Act.put, List.setIfInBounds_toArray, List.set_cons_zero, List.set_cons_succ, Nat.reduceAdd, List.cons_append, List.nil_append])
      refine Se.pas_ends (by simp [Se.AllK]) (by simp [Se.AllK]) fun w6 hR hp _ => ?_
      have h15 : (fun _ w3 => w3.heap[w.heap.size]? = some (.cells #[.string zn, .int .i64 va, .int .i64 vb, .slice au lu cu, .slice av lv cv, .bool fl] 31 (0, 0))) undef w6 := hp 15 (by simp)
      have H15 := Lib.hid (And.intro h15 (HF.out w6 hR).2.2)
      have HB6 := Lib.hid (Gb.below HB.out.drew hR (Nat.le_refl _) HB.out.size)
      clear hp h15 hR
      go_wp2
      have k0 := cell_of_block H15.out.1 0 _ rfl
      have k1 := cell_of_block H15.out.1 1 _ rfl
      have k2 := cell_of_block H15.out.1 2 _ rfl
      have k3 := cell_of_block H15.out.1 3 _ rfl
      have k4 := cell_of_block H15.out.1 4 _ rfl
      have k5 := cell_of_block H15.out.1 5 _ rfl
      have hpar := show (pNode 999999999999999 s) = some ⟨nm, va, vb, ns, ms, fl⟩ by rw [HPA.out, if_pos (by simp [HPZ.out, HZS.out])]
      rw [← HZN.out] at k0
      exact bodyPost_ret (v := .tuple #[.agg #[.string (str nm), .int .i64 va, .int .i64 vb, .slice au lu cu, .slice av lv cv, .bool fl], .bool true]) (by simp [results, Tryz.results49, go_sem, k0, k1, k2, k3, k4, k5]) rfl ⟨⟨nm, va, vb, ns, ms, fl⟩, .slice au lu cu, .slice av lv cv, by rw [hpar]; rfl, own_base H15.out.2.1 (by omega), own_base H15.out.2.2 (by omega), ⟨by have := BVA.out; omega, by have := BVB.out; omega⟩, HNL.out, ⟨NL43.out, NX43.out⟩, ⟨NL126.out, NX126.out⟩, (fun m hm => by rw [hpar] at hm; exact Option.some.inj hm), HB6.out⟩
    · have d0 : ((pe : Int) == (z.size : Int)) = false := beq_eq_false_iff_ne.2 (by omega)
      have HPZ := Lib.hid hpz
      clear hpz
      have hfac : ∀ w6, Gb w.heap.size wz.drew w6 → w6.heap[Q]? = some (.cells #[.string zn, .int .i64 va, .int .i64 vb, .slice au lu cu, .slice av lv cv, .bool fl] 31 (0, 0)) ∧ w6.heap[w.heap.size + 1]? = some (.cells #[.string z, .int .i64 pe, .bool false] 124 (0, 0)) ∧ w6.ownsRow (w.heap.size + 2) 9 1 (.slice au lu cu) (ns.map str).length ((ns.map str).map Value.string) ∧ w6.ownsRow (w.heap.size + 2) 9 1 (.slice av lv cv) (ms.map str).length ((ms.map str).map Value.string) := fun w6 h => ⟨h.block' (show wz.drew.heap[Q]? = _ from HQ.out) (by have := HS.out; omega), h.block' (show wz.drew.heap[w.heap.size + 1]? = _ by have := HR.out.1; rw [HZ.out] at this; exact this) (by omega), own_gb (own_drew O43.out) h (by omega), own_gb (own_drew O126.out) h (by omega)⟩
      have HF := Lib.hid hfac
      clear hfac
      refine' Se.wp_region_pass (fun w w' => Below w.heap.size w w') (Gb w.heap.size) 16 (by kernel_rfl) (by kernel_rfl) (by kernel_rfl) (by kernel_rfl) (by kernel_rfl) (by kernel_rfl)
        (fun w => Gb.refl _ _) (fun h k => Gb.trans h k) [(fun w3 => w3.heap[w.heap.size]? = some (.cells #[.string ⟨#[]⟩, .int .i64 0, .int .i64 0, .slice none 0 0, .slice none 0 0, .bool false] 31 (0, 0)), 15)] [] ?_ ?_ (by simp) (fun vals => ?_)
      case refine'_2 =>
        intro e he
        obtain rfl := List.mem_singleton.1 he
        exact HA.out
      case refine'_3 =>
        intro e he w1' w2' k h
        obtain rfl := List.mem_singleton.1 he
        exact block_below h k
      rotate_left
      simp only [List.take_succ_cons, List.take_zero, List.drop_succ_cons, List.drop_zero]
      (apply Se.pas_x (fun _ _ h => Gb.of_below h) rfl; (focus rfl); (focus (intro w6 hR hD hP K hK; replace hK := Lib.hid hK; have hq := (HF.out w6 hR).1; have e0 := cell_of_block hq 0 _ rfl; have e1 := cell_of_block hq 1 _ rfl; have e2 := cell_of_block hq 2 _ rfl; have e3 := cell_of_block hq 3 _ rfl; have e4 := cell_of_block hq 4 _ rfl; have e5 := cell_of_block hq 5 _ rfl; clear hR hD hP hq; go_simp; exact hK.out _ (Below.refl _ _))); simp only [Act.put, List.setIfInBounds_toArray, List.set_cons_zero, List.set_cons_succ, Nat.reduceAdd, List.cons_append, List.nil_append])
      iterate 3 (apply Se.pas_x (fun _ _ h => Gb.of_below h) rfl; (focus rfl); (focus (intro w6 hR hD hP K hK; replace hK := Lib.hid hK; skip; clear hR hD hP; go_simp; exact hK.out _ (Below.refl _ _))); simp only [Act.put, List.setIfInBounds_toArray, List.set_cons_zero, List.set_cons_succ, Nat.reduceAdd, List.cons_append, List.nil_append])
      (apply Se.pas_x (fun _ _ h => Gb.of_below h) rfl; (focus rfl); (focus (intro w6 hR hD hP K hK; replace hK := Lib.hid hK; have hq := (HF.out w6 hR).2.1; have r2 := cell_of_block hq 2 _ rfl; clear hR hD hP hq; go_simp; exact hK.out _ (Below.refl _ _))); simp only [Act.put, List.setIfInBounds_toArray, List.set_cons_zero, List.set_cons_succ, Nat.reduceAdd, List.cons_append, List.nil_append])
      iterate 2 (apply Se.pas_x (fun _ _ h => Gb.of_below h) rfl; (focus rfl); (focus (intro w6 hR hD hP K hK; replace hK := Lib.hid hK; skip; clear hR hD hP; go_simp; exact hK.out _ (Below.refl _ _))); simp only [Act.put, List.setIfInBounds_toArray, List.set_cons_zero, List.set_cons_succ, Nat.reduceAdd, List.cons_append, List.nil_append])
      iterate 3 (apply Se.pas_g (fun _ _ h => Gb.of_below h); (focus rfl); (focus (intro w6 hR hD hP K hK; replace hK := Lib.hid hK; skip; clear hR hD hP; go_simp; exact hK.out _ (Below.refl _ _))); simp only [Act.put, List.setIfInBounds_toArray, List.set_cons_zero, List.set_cons_succ, Nat.reduceAdd, List.cons_append, List.nil_append])
      (apply Se.pas_g (fun _ _ h => Gb.of_below h); (focus rfl); (focus (intro w6 hR hD hP K hK; replace hK := Lib.hid hK; have hq := (HF.out w6 hR).2.1; have r1 := cell_of_block hq 1 _ rfl; clear hR hD hP hq; go_simp; exact hK.out _ (Below.refl _ _))); simp only [Act.put, List.setIfInBounds_toArray, List.set_cons_zero, List.set_cons_succ, Nat.reduceAdd, List.cons_append, List.nil_append])
      iterate 3 (apply Se.pas_g (fun _ _ h => Gb.of_below h); (focus rfl); (focus (intro w6 hR hD hP K hK; replace hK := Lib.hid hK; skip; clear hR hD hP; go_simp; exact hK.out _ (Below.refl _ _))); simp only [Act.put, List.setIfInBounds_toArray, List.set_cons_zero, List.set_cons_succ, Nat.reduceAdd, List.cons_append, List.nil_append])
      (apply Se.pas_x (fun _ _ h => Gb.of_below h) rfl; (focus rfl); (focus (intro w6 hR hD hP K hK; replace hK := Lib.hid hK; skip; clear hR hD hP; go_simp; exact hK.out _ (Below.refl _ _))); simp only [Act.put, List.setIfInBounds_toArray, List.set_cons_zero, List.set_cons_succ, Nat.reduceAdd, List.cons_append, List.nil_append])
      (apply Se.pas_s (Gb w.heap.size) (fun _ w3 => w3.heap[w.heap.size]? = some (.cells #[.string zn, .int .i64 va, .int .i64 vb, .slice au lu cu, .slice av lv cv, .bool fl] 31 (0, 0))) (fun _ _ h => h) rfl (fun v w1 w2 h k => block_below h k); (focus rfl); (focus (intro w6 hR hD hP K hK; replace hK := Lib.hid hK; have hq := hP _ (List.mem_cons_self ..) (.inl rfl); have g0 := cell_of_block hq 0 _ rfl; have g1 := cell_of_block hq 1 _ rfl; have g2 := cell_of_block hq 2 _ rfl; have g3 := cell_of_block hq 3 _ rfl; have g4 := cell_of_block hq 4 _ rfl; have g5 := cell_of_block hq 5 _ rfl; have ff := fun j => free_of_block hq j; have HQ := Lib.hid hq; clear hR hD hP hq; go_simp; exact hK.out undef _ (gb_sets w.heap.size [.string zn, .int .i64 va, .int .i64 vb, .slice au lu cu, .slice av lv cv, .bool fl] 0 w6) (sets6 (.string zn) (.int .i64 va) (.int .i64 vb) (.slice au lu cu) (.slice av lv cv) (.bool fl) HQ.out))); simp only [Act.put, List.setIfInBounds_toArray, List.set_cons_zero, List.set_cons_succ, Nat.reduceAdd, List.cons_append, List.nil_append])
      refine Se.pas_ends (by simp [Se.AllK]) (by simp [Se.AllK]) fun w6 hR hp _ => ?_
      have h15 : (fun _ w3 => w3.heap[w.heap.size]? = some (.cells #[.string zn, .int .i64 va, .int .i64 vb, .slice au lu cu, .slice av lv cv, .bool fl] 31 (0, 0))) undef w6 := hp 15 (by simp)
      have H15 := Lib.hid (And.intro h15 (HF.out w6 hR).2.2)
      have HB6 := Lib.hid (Gb.below HB.out.drew hR (Nat.le_refl _) HB.out.size)
      clear hp h15 hR
      go_wp2
      have k0 := cell_of_block H15.out.1 0 _ rfl
      have k1 := cell_of_block H15.out.1 1 _ rfl
      have k2 := cell_of_block H15.out.1 2 _ rfl
      have k3 := cell_of_block H15.out.1 3 _ rfl
      have k4 := cell_of_block H15.out.1 4 _ rfl
      have k5 := cell_of_block H15.out.1 5 _ rfl
      have hpar := show (pNode 999999999999999 s) = none by rw [HPA.out, if_neg (by rw [← HZS.out]; simp [HPZ.out])]
      rw [← HZN.out] at k0
      exact bodyPost_ret (v := .tuple #[.agg #[.string (str nm), .int .i64 va, .int .i64 vb, .slice au lu cu, .slice av lv cv, .bool fl], .bool false]) (by simp [results, Tryz.results49, go_sem, k0, k1, k2, k3, k4, k5]) rfl ⟨⟨nm, va, vb, ns, ms, fl⟩, .slice au lu cu, .slice av lv cv, by rw [hpar]; rfl, own_base H15.out.2.1 (by omega), own_base H15.out.2.2 (by omega), ⟨by have := BVA.out; omega, by have := BVB.out; omega⟩, HNL.out, ⟨NL43.out, NX43.out⟩, ⟨NL126.out, NX126.out⟩, (fun m hm => by rw [hpar] at hm; cases hm), HB6.out⟩
  · have hfac : ∀ w6, Gb w.heap.size wz.drew w6 → w6.heap[Q]? = some (.cells #[.string zn, .int .i64 va, .int .i64 vb, .slice au lu cu, .slice av lv cv, .bool fl] 31 (0, 0)) ∧ w6.heap[w.heap.size + 1]? = some (.cells #[.string z, .int .i64 pe, .bool true] 124 (0, 0)) ∧ w6.ownsRow (w.heap.size + 2) 9 1 (.slice au lu cu) (ns.map str).length ((ns.map str).map Value.string) ∧ w6.ownsRow (w.heap.size + 2) 9 1 (.slice av lv cv) (ms.map str).length ((ms.map str).map Value.string) := fun w6 h => ⟨h.block' (show wz.drew.heap[Q]? = _ from HQ.out) (by have := HS.out; omega), h.block' (show wz.drew.heap[w.heap.size + 1]? = _ by have := HR.out.1; rw [HZ.out] at this; exact this) (by omega), own_gb (own_drew O43.out) h (by omega), own_gb (own_drew O126.out) h (by omega)⟩
    have HF := Lib.hid hfac
    clear hfac
    refine' Se.wp_region_pass (fun w w' => Below w.heap.size w w') (Gb w.heap.size) 16 (by kernel_rfl) (by kernel_rfl) (by kernel_rfl) (by kernel_rfl) (by kernel_rfl) (by kernel_rfl)
      (fun w => Gb.refl _ _) (fun h k => Gb.trans h k) [(fun w3 => w3.heap[w.heap.size]? = some (.cells #[.string ⟨#[]⟩, .int .i64 0, .int .i64 0, .slice none 0 0, .slice none 0 0, .bool false] 31 (0, 0)), 15)] [] ?_ ?_ (by simp) (fun vals => ?_)
    case refine'_2 =>
      intro e he
      obtain rfl := List.mem_singleton.1 he
      exact HA.out
    case refine'_3 =>
      intro e he w1' w2' k h
      obtain rfl := List.mem_singleton.1 he
      exact block_below h k
    rotate_left
    simp only [List.take_succ_cons, List.take_zero, List.drop_succ_cons, List.drop_zero]
    (apply Se.pas_x (fun _ _ h => Gb.of_below h) rfl; (focus rfl); (focus (intro w6 hR hD hP K hK; replace hK := Lib.hid hK; have hq := (HF.out w6 hR).1; have e0 := cell_of_block hq 0 _ rfl; have e1 := cell_of_block hq 1 _ rfl; have e2 := cell_of_block hq 2 _ rfl; have e3 := cell_of_block hq 3 _ rfl; have e4 := cell_of_block hq 4 _ rfl; have e5 := cell_of_block hq 5 _ rfl; clear hR hD hP hq; go_simp; exact hK.out _ (Below.refl _ _))); simp only [Act.put, List.setIfInBounds_toArray, List.set_cons_zero, List.set_cons_succ, Nat.reduceAdd, List.cons_append, List.nil_append])
    iterate 3 (apply Se.pas_x (fun _ _ h => Gb.of_below h) rfl; (focus rfl); (focus (intro w6 hR hD hP K hK; replace hK := Lib.hid hK; skip; clear hR hD hP; go_simp; exact hK.out _ (Below.refl _ _))); simp only [Act.put, List.setIfInBounds_toArray, List.set_cons_zero, List.set_cons_succ, Nat.reduceAdd, List.cons_append, List.nil_append])
    (apply Se.pas_x (fun _ _ h => Gb.of_below h) rfl; (focus rfl); (focus (intro w6 hR hD hP K hK; replace hK := Lib.hid hK; have hq := (HF.out w6 hR).2.1; have r2 := cell_of_block hq 2 _ rfl; clear hR hD hP hq; go_simp; exact hK.out _ (Below.refl _ _))); simp only [Act.put, List.setIfInBounds_toArray, List.set_cons_zero, List.set_cons_succ, Nat.reduceAdd, List.cons_append, List.nil_append])
    iterate 2 (apply Se.pas_x (fun _ _ h => Gb.of_below h) rfl; (focus rfl); (focus (intro w6 hR hD hP K hK; replace hK := Lib.hid hK; skip; clear hR hD hP; go_simp; exact hK.out _ (Below.refl _ _))); simp only [Act.put, List.setIfInBounds_toArray, List.set_cons_zero, List.set_cons_succ, Nat.reduceAdd, List.cons_append, List.nil_append])
    iterate 7 (apply Se.pas_g (e := undef) (fun _ _ h => Gb.of_below h); (focus rfl); (focus (intro w6 hR hD hP K hK; replace hK := Lib.hid hK; clear hR hD hP; go_simp; exact hK.out _ (Below.refl _ _))); simp only [Act.put, List.setIfInBounds_toArray, List.set_cons_zero, List.set_cons_succ, Nat.reduceAdd, List.cons_append, List.nil_append])
    (apply Se.pas_x (fun _ _ h => Gb.of_below h) rfl; (focus rfl); (focus (intro w6 hR hD hP K hK; replace hK := Lib.hid hK; skip; clear hR hD hP; go_simp; exact hK.out _ (Below.refl _ _))); simp only [Act.put, List.setIfInBounds_toArray, List.set_cons_zero, List.set_cons_succ, Nat.reduceAdd, List.cons_append, List.nil_append])
    (apply Se.pas_s (Gb w.heap.size) (fun _ w3 => w3.heap[w.heap.size]? = some (.cells #[.string zn, .int .i64 va, .int .i64 vb, .slice au lu cu, .slice av lv cv, .bool fl] 31 (0, 0))) (fun _ _ h => h) rfl (fun v w1 w2 h k => block_below h k); (focus rfl); (focus (intro w6 hR hD hP K hK; replace hK := Lib.hid hK; have hq := hP _ (List.mem_cons_self ..) (.inl rfl); have g0 := cell_of_block hq 0 _ rfl; have g1 := cell_of_block hq 1 _ rfl; have g2 := cell_of_block hq 2 _ rfl; have g3 := cell_of_block hq 3 _ rfl; have g4 := cell_of_block hq 4 _ rfl; have g5 := cell_of_block hq 5 _ rfl; have ff := fun j => free_of_block hq j; have HQ := Lib.hid hq; clear hR hD hP hq; go_simp; exact hK.out undef _ (gb_sets w.heap.size [.string zn, .int .i64 va, .int .i64 vb, .slice au lu cu, .slice av lv cv, .bool fl] 0 w6) (sets6 (.string zn) (.int .i64 va) (.int .i64 vb) (.slice au lu cu) (.slice av lv cv) (.bool fl) HQ.out))); simp only [Act.put, List.setIfInBounds_toArray, List.set_cons_zero, List.set_cons_succ, Nat.reduceAdd, List.cons_append, List.nil_append])
    refine Se.pas_ends (by simp [Se.AllK]) (by simp [Se.AllK]) fun w6 hR hp _ => ?_
    have h15 : (fun _ w3 => w3.heap[w.heap.size]? = some (.cells #[.string zn, .int .i64 va, .int .i64 vb, .slice au lu cu, .slice av lv cv, .bool fl] 31 (0, 0))) undef w6 := hp 15 (by simp)
    have H15 := Lib.hid (And.intro h15 (HF.out w6 hR).2.2)
    have HB6 := Lib.hid (Gb.below HB.out.drew hR (Nat.le_refl _) HB.out.size)
    clear hp h15 hR
    go_wp2
    have k0 := cell_of_block H15.out.1 0 _ rfl
    have k1 := cell_of_block H15.out.1 1 _ rfl
    have k2 := cell_of_block H15.out.1 2 _ rfl
    have k3 := cell_of_block H15.out.1 3 _ rfl
    have k4 := cell_of_block H15.out.1 4 _ rfl
    have k5 := cell_of_block H15.out.1 5 _ rfl
    have hpar := show (pNode 999999999999999 s) = none by rw [HPA.out, if_neg (by simp)]
    rw [← HZN.out] at k0
    exact bodyPost_ret (v := .tuple #[.agg #[.string (str nm), .int .i64 va, .int .i64 vb, .slice au lu cu, .slice av lv cv, .bool fl], .bool false]) (by simp [results, Tryz.results49, go_sem, k0, k1, k2, k3, k4, k5]) rfl ⟨⟨nm, va, vb, ns, ms, fl⟩, .slice au lu cu, .slice av lv cv, by rw [hpar]; rfl, own_base H15.out.2.1 (by omega), own_base H15.out.2.2 (by omega), ⟨by have := BVA.out; omega, by have := BVB.out; omega⟩, HNL.out, ⟨NL43.out, NX43.out⟩, ⟨NL126.out, NX126.out⟩, (fun m hm => by rw [hpar] at hm; cases hm), HB6.out⟩
def RPodPost (s : List UInt8) (w : World) (e : Ending) (w' : World) : Prop :=
  ∃ (x : PodL) (u v : Value), e = .returned (.tuple #[.agg #[.string (str x.name), .int .i64 x.shard, .int .i64 x.cpu, .int .i64 x.mem, u, v, .bool x.alone], .bool (pPod s).isSome]) ∧ Strs w.heap.size w' u (x.picks.map str) ∧ Strs w.heap.size w' v (x.bears.map str) ∧ (x.shard ≤ 9999999 ∧ x.cpu ≤ 10995116277769 ∧ x.mem ≤ 10995116277769) ∧ x.name.length ≤ s.length ∧ (x.picks.length ≤ s.length ∧ ∀ y ∈ x.picks, y.length ≤ s.length) ∧ (x.bears.length ≤ s.length ∧ ∀ y ∈ x.bears, y.length ≤ s.length) ∧ (∀ m, pPod s = some m → x = m) ∧ Below w.heap.size w w'
set_option maxHeartbeats 16000000 in
set_option maxRecDepth 1000000 in
theorem rdpod_any (s : List UInt8) (hl : s.length ≤ 4294967280) (w : World) : Calls Tryz.prog 74 #[.string (str s)] w (RPodPost s w) := by
  have HL := Lib.hid hl
  obtain ⟨z, hz⟩ : ∃ z, str s = z := ⟨_, rfl⟩
  have hzs : z.size = s.length := by rw [← hz, str_size]
  rw [hz]
  have HZ := Lib.hid hz
  have HZS := Lib.hid hzs
  clear hz hzs hl
  go_enter Tryz.func74, Tryz.ntmps74
  go_wp2_with fail
  have hb : Below w.heap.size w ((w.alloc (.cells #[.string ⟨#[]⟩, .int .i64 0, .int .i64 0, .int .i64 0, .slice none 0 0, .slice none 0 0, .bool false] 54)).alloc (.cells #[.string z, .int .i64 0, .bool false] 124)) := below_alloc' (below_alloc' (Below.refl _ _) _) _
  have hr : RrAt ((w.alloc (.cells #[.string ⟨#[]⟩, .int .i64 0, .int .i64 0, .int .i64 0, .slice none 0 0, .slice none 0 0, .bool false] 54)).alloc (.cells #[.string z, .int .i64 0, .bool false] 124)) (w.heap.size + 1) s 0 false := ⟨by rw [HZ.out]; exact alloc_second _ _ _, Nat.zero_le _, HL.out⟩
  have ha : ((w.alloc (.cells #[.string ⟨#[]⟩, .int .i64 0, .int .i64 0, .int .i64 0, .slice none 0 0, .slice none 0 0, .bool false] 54)).alloc (.cells #[.string z, .int .i64 0, .bool false] 124)).heap[w.heap.size]? = some (.cells #[.string ⟨#[]⟩, .int .i64 0, .int .i64 0, .int .i64 0, .slice none 0 0, .slice none 0 0, .bool false] 54 (0, 0)) := block_below (alloc_at _ _) (below_alloc' (Below.refl _ _) _)
  generalize World.alloc (World.alloc w _) _ = w1 at hb hr ha ⊢
  refine (rr_name (w.heap.size + 1) s 0 false w1 hr).mono ?_
  rintro e w2 ⟨p1, rfl, hd1, hp1, hr2, hg2⟩
  rw [Bool.false_or] at hr2
  simp only [List.drop_zero] at hd1 hr2 ⊢
  obtain ⟨nm, hnm⟩ : ∃ nm, s.takeWhile (fun c => !parting c) = nm := ⟨_, rfl⟩
  have hnl : nm.length ≤ s.length := by rw [← hnm]; exact (List.takeWhile_prefix (l := s) (fun c => !parting c)).length_le
  have e1 := stt_name hd1
  rw [hnm] at hr2 e1 ⊢
  obtain ⟨b1, hb1⟩ : ∃ b, decide (nm = []) = b := ⟨_, rfl⟩
  rw [hb1] at hr2 e1
  have E1 := Lib.hid e1
  have HNL := Lib.hid hnl
  obtain ⟨zn, hzn⟩ : ∃ z, str nm = z := ⟨_, rfl⟩
  rw [hzn]
  have HZN := Lib.hid hzn
  have hs1 : w.heap.size + 1 < w1.heap.size := (Array.getElem?_eq_some_iff.1 hr.1).1
  have hs2 := hg2.size
  have HR := Lib.hid hr2
  have HA := Lib.hid (hg2.block' ha (by omega))
  have HB := Lib.hid (Gb.below hb hg2 (Nat.le_succ _) hb.size)
  have HS : Hid (w.heap.size + 1 < w2.heap.size) := Lib.hid (by omega)
  clear hb hr ha hd1 hp1 hr2 hg2 hnm hb1 hnl hzn hs1 hs2 e1
  go_wp2_with fail
  have hq : (w2.alloc (.cells #[.string zn, .int .i64 0, .int .i64 0, .int .i64 0, .slice none 0 0, .slice none 0 0, .bool false] 54)).heap[w2.heap.size]? = some (.cells #[.string zn, .int .i64 0, .int .i64 0, .int .i64 0, .slice none 0 0, .slice none 0 0, .bool false] 54 (0, 0)) := alloc_at _ _
  have hbq : Below w2.heap.size w2 (w2.alloc (.cells #[.string zn, .int .i64 0, .int .i64 0, .int .i64 0, .slice none 0 0, .slice none 0 0, .bool false] 54)) := below_alloc' (Below.refl _ _) _
  replace HR := Lib.hid (HR.out.below hbq)
  replace HA := Lib.hid (block_below HA.out hbq)
  replace HB := Lib.hid (below_call HB.out hbq)
  have HQ := Lib.hid hq
  clear hq
  obtain ⟨Q, hQ⟩ : ∃ Q, w2.heap.size = Q := ⟨_, rfl⟩
  rw [hQ] at HQ hbq HS ⊢
  generalize World.alloc w2 _ = w3 at HR HA HB HQ hbq ⊢
  clear hbq hQ
  obtain ⟨r64, hr64⟩ : ∃ r, signR s p1 b1 64 = r := ⟨_, rfl⟩
  have hms64 := rr_must (w.heap.size + 1) s p1 b1 64 w3 HR.out
  obtain ⟨p64, hp64⟩ : ∃ r, (if signR s p1 b1 64 = true then p1 + 1 else p1) = r := ⟨_, rfl⟩
  have EM64 : Hid (∀ (β : Type) (H : List UInt8 → Option β), ((stt s p1 b1).bind fun t => (pMust 64 t).bind H) = (stt s p64 (!r64)).bind H) := Lib.hid (fun β H => by rw [stt_must, hp64, hr64])
  rw [hr64] at hms64 hp64
  rw [hp64] at hms64
  obtain ⟨b64, hb64⟩ : ∃ b, (!r64) = b := ⟨_, rfl⟩
  rw [hb64] at hms64 EM64
  have HMS := Lib.hid hms64
  clear hms64 hp64 hr64 hb64
  refine (HMS.out).mono ?_
  rintro e w4 ⟨rfl, hr, hg⟩
  replace HA := Lib.hid (hg.block' HA.out (by omega))
  replace HQ := Lib.hid (hg.block' HQ.out (by have := HS.out; omega))
  replace HB := Lib.hid (Gb.below HB.out hg (Nat.le_succ _) HB.out.size)
  replace HR := Lib.hid hr
  clear hr hg 
  clear HMS
  go_wp2_with fail
  refine (rr_number (w.heap.size + 1) s p64 b64 999999 (by decide) w4 HR.out).mono ?_
  rintro e w5 ⟨sh, pn1, bn1, rfl, hr, hn, hpp, hg, hbb, hmm⟩
  replace HA := Lib.hid (hg.block' HA.out (by omega))
  replace HQ := Lib.hid (hg.block' HQ.out (by have := HS.out; omega))
  replace HB := Lib.hid (Gb.below HB.out hg (Nat.le_succ _) HB.out.size)
  replace HR := Lib.hid hr
  have BN1 := Lib.hid hn
  clear hr hg hn
  have EN1 := Lib.hid (stt_num (g := 0) hbb hmm)
  clear hbb hmm hpp
  have q0 := cell_of_block HQ.out 0 _ rfl
  have q1 := cell_of_block HQ.out 1 _ rfl
  have q2 := cell_of_block HQ.out 2 _ rfl
  have q3 := cell_of_block HQ.out 3 _ rfl
  have q4 := cell_of_block HQ.out 4 _ rfl
  have q5 := cell_of_block HQ.out 5 _ rfl
  have q6 := cell_of_block HQ.out 6 _ rfl
  have fq := free_of_block HQ.out
  go_wp2_with fail
  replace HQ : Hid ((w5.setCell ⟨Q, 1, none⟩ (.int .i64 sh)).heap[Q]? = some (.cells #[.string zn, .int .i64 sh, .int .i64 0, .int .i64 0, .slice none 0 0, .slice none 0 0, .bool false] 54 (0, 0))) := Lib.hid (setAt (ds := #[.string zn, .int .i64 sh, .int .i64 0, .int .i64 0, .slice none 0 0, .slice none 0 0, .bool false]) HQ.out (by simp))
  replace HA : Hid ((w5.setCell ⟨Q, 1, none⟩ (.int .i64 sh)).heap[w.heap.size]? = some (.cells #[.string ⟨#[]⟩, .int .i64 0, .int .i64 0, .int .i64 0, .slice none 0 0, .slice none 0 0, .bool false] 54 (0, 0))) := Lib.hid (setFar HA.out (by have := HS.out; omega))
  replace HR : Hid (RrAt (w5.setCell ⟨Q, 1, none⟩ (.int .i64 sh)) (w.heap.size + 1) s pn1 bn1) := Lib.hid ⟨setFar HR.out.1 (by have := HS.out; omega), HR.out.2⟩
  replace HB : Hid (Below w.heap.size w (w5.setCell ⟨Q, 1, none⟩ (.int .i64 sh))) := Lib.hid (HB.out.setCell (p := ⟨Q, 1, none⟩) (by have := HS.out; show w.heap.size ≤ Q; omega) (.int .i64 sh))
  generalize hgw : (w5.setCell ⟨Q, 1, none⟩ (.int .i64 sh)) = w6 at HQ HA HR HB  ⊢
  clear hgw q0 q1 q2 q3 q4 q5 q6 fq
  obtain ⟨r58, hr58⟩ : ∃ r, signR s pn1 bn1 58 = r := ⟨_, rfl⟩
  have hms58 := rr_must (w.heap.size + 1) s pn1 bn1 58 w6 HR.out
  obtain ⟨p58, hp58⟩ : ∃ r, (if signR s pn1 bn1 58 = true then pn1 + 1 else pn1) = r := ⟨_, rfl⟩
  have EM58 : Hid (∀ (β : Type) (H : List UInt8 → Option β), ((stt s pn1 bn1).bind fun t => (pMust 58 t).bind H) = (stt s p58 (!r58)).bind H) := Lib.hid (fun β H => by rw [stt_must, hp58, hr58])
  rw [hr58] at hms58 hp58
  rw [hp58] at hms58
  obtain ⟨b58, hb58⟩ : ∃ b, (!r58) = b := ⟨_, rfl⟩
  rw [hb58] at hms58 EM58
  have HMS := Lib.hid hms58
  clear hms58 hp58 hr58 hb58
  refine (HMS.out).mono ?_
  rintro e w7 ⟨rfl, hr, hg⟩
  replace HA := Lib.hid (hg.block' HA.out (by omega))
  replace HQ := Lib.hid (hg.block' HQ.out (by have := HS.out; omega))
  replace HB := Lib.hid (Gb.below HB.out hg (Nat.le_succ _) HB.out.size)
  replace HR := Lib.hid hr
  clear hr hg 
  clear HMS
  go_wp2_with fail
  refine (rr_vec (w.heap.size + 1) s p58 b58 1099511627776 (by decide) w7 HR.out).mono ?_
  rintro e w8 ⟨va, vb, pv, bv, rfl, hr, hna, hnb, hpp, hg, hbb, hmm⟩
  replace HA := Lib.hid (hg.block' HA.out (by omega))
  replace HQ := Lib.hid (hg.block' HQ.out (by have := HS.out; omega))
  replace HB := Lib.hid (Gb.below HB.out hg (Nat.le_succ _) HB.out.size)
  replace HR := Lib.hid hr
  have BVA := Lib.hid hna
  have BVB := Lib.hid hnb
  clear hr hg hna hnb
  have EV := Lib.hid (stt_vec hbb hmm)
  clear hbb hmm hpp
  have q0 := cell_of_block HQ.out 0 _ rfl
  have q1 := cell_of_block HQ.out 1 _ rfl
  have q2 := cell_of_block HQ.out 2 _ rfl
  have q3 := cell_of_block HQ.out 3 _ rfl
  have q4 := cell_of_block HQ.out 4 _ rfl
  have q5 := cell_of_block HQ.out 5 _ rfl
  have q6 := cell_of_block HQ.out 6 _ rfl
  have fq := free_of_block HQ.out
  go_wp2_with fail
  replace HQ : Hid ((w8.setCell ⟨Q, 2, none⟩ (.int .i64 va)).heap[Q]? = some (.cells #[.string zn, .int .i64 sh, .int .i64 va, .int .i64 0, .slice none 0 0, .slice none 0 0, .bool false] 54 (0, 0))) := Lib.hid (setAt (ds := #[.string zn, .int .i64 sh, .int .i64 va, .int .i64 0, .slice none 0 0, .slice none 0 0, .bool false]) HQ.out (by simp))
  replace HA : Hid ((w8.setCell ⟨Q, 2, none⟩ (.int .i64 va)).heap[w.heap.size]? = some (.cells #[.string ⟨#[]⟩, .int .i64 0, .int .i64 0, .int .i64 0, .slice none 0 0, .slice none 0 0, .bool false] 54 (0, 0))) := Lib.hid (setFar HA.out (by have := HS.out; omega))
  replace HR : Hid (RrAt (w8.setCell ⟨Q, 2, none⟩ (.int .i64 va)) (w.heap.size + 1) s pv bv) := Lib.hid ⟨setFar HR.out.1 (by have := HS.out; omega), HR.out.2⟩
  replace HB : Hid (Below w.heap.size w (w8.setCell ⟨Q, 2, none⟩ (.int .i64 va))) := Lib.hid (HB.out.setCell (p := ⟨Q, 2, none⟩) (by have := HS.out; show w.heap.size ≤ Q; omega) (.int .i64 va))
  replace HQ : Hid (((w8.setCell ⟨Q, 2, none⟩ (.int .i64 va)).setCell ⟨Q, 3, none⟩ (.int .i64 vb)).heap[Q]? = some (.cells #[.string zn, .int .i64 sh, .int .i64 va, .int .i64 vb, .slice none 0 0, .slice none 0 0, .bool false] 54 (0, 0))) := Lib.hid (setAt (ds := #[.string zn, .int .i64 sh, .int .i64 va, .int .i64 vb, .slice none 0 0, .slice none 0 0, .bool false]) HQ.out (by simp))
  replace HA : Hid (((w8.setCell ⟨Q, 2, none⟩ (.int .i64 va)).setCell ⟨Q, 3, none⟩ (.int .i64 vb)).heap[w.heap.size]? = some (.cells #[.string ⟨#[]⟩, .int .i64 0, .int .i64 0, .int .i64 0, .slice none 0 0, .slice none 0 0, .bool false] 54 (0, 0))) := Lib.hid (setFar HA.out (by have := HS.out; omega))
  replace HR : Hid (RrAt ((w8.setCell ⟨Q, 2, none⟩ (.int .i64 va)).setCell ⟨Q, 3, none⟩ (.int .i64 vb)) (w.heap.size + 1) s pv bv) := Lib.hid ⟨setFar HR.out.1 (by have := HS.out; omega), HR.out.2⟩
  replace HB : Hid (Below w.heap.size w ((w8.setCell ⟨Q, 2, none⟩ (.int .i64 va)).setCell ⟨Q, 3, none⟩ (.int .i64 vb))) := Lib.hid (HB.out.setCell (p := ⟨Q, 3, none⟩) (by have := HS.out; show w.heap.size ≤ Q; omega) (.int .i64 vb))
  generalize hgw : ((w8.setCell ⟨Q, 2, none⟩ (.int .i64 va)).setCell ⟨Q, 3, none⟩ (.int .i64 vb)) = w9 at HQ HA HR HB  ⊢
  clear hgw q0 q1 q2 q3 q4 q5 q6 fq
  have SZ43 : Hid (w.heap.size + 2 ≤ w9.heap.size) := Lib.hid (by have := HS.out; have := (Array.getElem?_eq_some_iff.1 HQ.out).1; omega)
  have hpl43 := HR.out.2.1
  refine (rr_row (w.heap.size + 1) s pv bv 43 w9 HR.out).mono ?_
  rintro e w10 ⟨u, ns, pr43, br43, rfl, ho, hnl, hnx, hr, hpp, hg, hbb, hmm⟩
  replace HA := Lib.hid (hg.block' HA.out (by omega))
  replace HQ := Lib.hid (hg.block' HQ.out (by have := HS.out; omega))
  replace HB := Lib.hid (Gb.below HB.out hg (Nat.le_succ _) HB.out.size)
  replace HR := Lib.hid hr
  have NL43 := Lib.hid hnl
  have NX43 := Lib.hid hnx
  clear hr hg hnl hnx
  have ER43 := Lib.hid (stt_row hpl43 hbb hmm)
  have hob43 := own_base ho (show w.heap.size + 2 ≤ _ by have := HS.out; have := (Array.getElem?_eq_some_iff.1 HQ.out).1; have := SZ43.out; omega)
  obtain ⟨au, lu, cu, rfl⟩ := own_slice hob43
  have O43 := Lib.hid hob43
  clear hbb hmm hpp hpl43 ho hob43
  have q0 := cell_of_block HQ.out 0 _ rfl
  have q1 := cell_of_block HQ.out 1 _ rfl
  have q2 := cell_of_block HQ.out 2 _ rfl
  have q3 := cell_of_block HQ.out 3 _ rfl
  have q4 := cell_of_block HQ.out 4 _ rfl
  have q5 := cell_of_block HQ.out 5 _ rfl
  have q6 := cell_of_block HQ.out 6 _ rfl
  have fq := free_of_block HQ.out
  go_wp2_with fail
  replace O43 := Lib.hid (own_set' (b := Q) (j := 4) O43.out HQ.out (by decide) (.slice au lu cu))
  replace HQ : Hid ((w10.setCell ⟨Q, 4, none⟩ (.slice au lu cu)).heap[Q]? = some (.cells #[.string zn, .int .i64 sh, .int .i64 va, .int .i64 vb, .slice au lu cu, .slice none 0 0, .bool false] 54 (0, 0))) := Lib.hid (setAt (ds := #[.string zn, .int .i64 sh, .int .i64 va, .int .i64 vb, .slice au lu cu, .slice none 0 0, .bool false]) HQ.out (by simp))
  replace HA : Hid ((w10.setCell ⟨Q, 4, none⟩ (.slice au lu cu)).heap[w.heap.size]? = some (.cells #[.string ⟨#[]⟩, .int .i64 0, .int .i64 0, .int .i64 0, .slice none 0 0, .slice none 0 0, .bool false] 54 (0, 0))) := Lib.hid (setFar HA.out (by have := HS.out; omega))
  replace HR : Hid (RrAt (w10.setCell ⟨Q, 4, none⟩ (.slice au lu cu)) (w.heap.size + 1) s pr43 br43) := Lib.hid ⟨setFar HR.out.1 (by have := HS.out; omega), HR.out.2⟩
  replace HB : Hid (Below w.heap.size w (w10.setCell ⟨Q, 4, none⟩ (.slice au lu cu))) := Lib.hid (HB.out.setCell (p := ⟨Q, 4, none⟩) (by have := HS.out; show w.heap.size ≤ Q; omega) (.slice au lu cu))
  generalize hgw : (w10.setCell ⟨Q, 4, none⟩ (.slice au lu cu)) = w11 at HQ HA HR HB O43 ⊢
  clear hgw q0 q1 q2 q3 q4 q5 q6 fq
  have SZ126 : Hid (w.heap.size + 2 ≤ w11.heap.size) := Lib.hid (by have := HS.out; have := (Array.getElem?_eq_some_iff.1 HQ.out).1; omega)
  have hpl126 := HR.out.2.1
  refine (rr_row (w.heap.size + 1) s pr43 br43 126 w11 HR.out).mono ?_
  rintro e w12 ⟨v, ms, pr126, br126, rfl, ho, hnl, hnx, hr, hpp, hg, hbb, hmm⟩
  replace HA := Lib.hid (hg.block' HA.out (by omega))
  replace HQ := Lib.hid (hg.block' HQ.out (by have := HS.out; omega))
  replace O43 := Lib.hid (own_gb O43.out hg (by omega))
  replace HB := Lib.hid (Gb.below HB.out hg (Nat.le_succ _) HB.out.size)
  replace HR := Lib.hid hr
  have NL126 := Lib.hid hnl
  have NX126 := Lib.hid hnx
  clear hr hg hnl hnx
  have ER126 := Lib.hid (stt_row hpl126 hbb hmm)
  have hob126 := own_base ho (show w.heap.size + 2 ≤ _ by have := HS.out; have := (Array.getElem?_eq_some_iff.1 HQ.out).1; have := SZ126.out; omega)
  obtain ⟨av, lv, cv, rfl⟩ := own_slice hob126
  have O126 := Lib.hid hob126
  clear hbb hmm hpp hpl126 ho hob126
  have q0 := cell_of_block HQ.out 0 _ rfl
  have q1 := cell_of_block HQ.out 1 _ rfl
  have q2 := cell_of_block HQ.out 2 _ rfl
  have q3 := cell_of_block HQ.out 3 _ rfl
  have q4 := cell_of_block HQ.out 4 _ rfl
  have q5 := cell_of_block HQ.out 5 _ rfl
  have q6 := cell_of_block HQ.out 6 _ rfl
  have fq := free_of_block HQ.out
  go_wp2_with fail
  replace O43 := Lib.hid (own_set' (b := Q) (j := 5) O43.out HQ.out (by decide) (.slice av lv cv))
  replace O126 := Lib.hid (own_set' (b := Q) (j := 5) O126.out HQ.out (by decide) (.slice av lv cv))
  replace HQ : Hid ((w12.setCell ⟨Q, 5, none⟩ (.slice av lv cv)).heap[Q]? = some (.cells #[.string zn, .int .i64 sh, .int .i64 va, .int .i64 vb, .slice au lu cu, .slice av lv cv, .bool false] 54 (0, 0))) := Lib.hid (setAt (ds := #[.string zn, .int .i64 sh, .int .i64 va, .int .i64 vb, .slice au lu cu, .slice av lv cv, .bool false]) HQ.out (by simp))
  replace HA : Hid ((w12.setCell ⟨Q, 5, none⟩ (.slice av lv cv)).heap[w.heap.size]? = some (.cells #[.string ⟨#[]⟩, .int .i64 0, .int .i64 0, .int .i64 0, .slice none 0 0, .slice none 0 0, .bool false] 54 (0, 0))) := Lib.hid (setFar HA.out (by have := HS.out; omega))
  replace HR : Hid (RrAt (w12.setCell ⟨Q, 5, none⟩ (.slice av lv cv)) (w.heap.size + 1) s pr126 br126) := Lib.hid ⟨setFar HR.out.1 (by have := HS.out; omega), HR.out.2⟩
  replace HB : Hid (Below w.heap.size w (w12.setCell ⟨Q, 5, none⟩ (.slice av lv cv))) := Lib.hid (HB.out.setCell (p := ⟨Q, 5, none⟩) (by have := HS.out; show w.heap.size ≤ Q; omega) (.slice av lv cv))
  generalize hgw : (w12.setCell ⟨Q, 5, none⟩ (.slice av lv cv)) = w13 at HQ HA HR HB O43 O126 ⊢
  clear hgw q0 q1 q2 q3 q4 q5 q6 fq
  obtain ⟨fl, hfl⟩ : ∃ r, signR s pr126 br126 33 = r := ⟨_, rfl⟩
  have hms := rr_sign (w.heap.size + 1) s pr126 br126 33 w13 HR.out
  obtain ⟨pe, hpe⟩ : ∃ r, (if signR s pr126 br126 33 = true then pr126 + 1 else pr126) = r := ⟨_, rfl⟩
  have hee : ∀ (β : Type) (F : Bool → β), ((stt s pr126 br126).bind fun t => if (pSign 33 t).2 = [] then some (F (pSign 33 t).1) else none) = if (!br126 && decide (pe = s.length)) = true then some (F fl) else none := fun β F => by rw [stt_end HR.out.2.1, hpe, hfl]
  have EE := Lib.hid hee
  rw [hpe, hfl] at hms
  have HMS := Lib.hid hms
  clear hms hpe hfl hee
  refine (HMS.out).mono ?_
  rintro e w14 ⟨rfl, hr, hg⟩
  replace HA := Lib.hid (hg.block' HA.out (by omega))
  replace HQ := Lib.hid (hg.block' HQ.out (by have := HS.out; omega))
  replace O43 := Lib.hid (own_gb O43.out hg (by omega))
  replace O126 := Lib.hid (own_gb O126.out hg (by omega))
  replace HB := Lib.hid (Gb.below HB.out hg (Nat.le_succ _) HB.out.size)
  replace HR := Lib.hid hr
  clear hr hg 
  clear HMS
  have hparse : (pPod s) = if (!br126 && decide (pe = s.length)) = true then some (⟨nm, sh, va, vb, ns, ms, fl⟩ : PodL) else none := by
    unfold pPod pTail
    rw [E1.out]
    have k1 : ∀ (β : Type) (S : Option (List UInt8)) (x : List UInt8) (H : List UInt8 × List UInt8 → Option β), ((S.map fun t => (x, t)).bind H) = S.bind fun t => H (x, t) := fun β S x H => by cases S <;> rfl
    rw [k1]
    dsimp only
    rw [EM64.out, stt_step EN1.out]
    dsimp only
    rw [EM58.out, stt_step EV.out]
    dsimp only
    simp only [Option.map_bind, Function.comp_def]
    rw [stt_step ER43.out]
    dsimp only
    rw [stt_step ER126.out]
    dsimp only
    rw [← EE.out _ (fun f => (⟨nm, sh, va, vb, ns, ms, f⟩ : PodL))]
    cases stt s pr126 br126 with
    | none => rfl
    | some t => simp only [Option.bind_some]; split <;> rfl
  have q0 := cell_of_block HQ.out 0 _ rfl
  have q1 := cell_of_block HQ.out 1 _ rfl
  have q2 := cell_of_block HQ.out 2 _ rfl
  have q3 := cell_of_block HQ.out 3 _ rfl
  have q4 := cell_of_block HQ.out 4 _ rfl
  have q5 := cell_of_block HQ.out 5 _ rfl
  have q6 := cell_of_block HQ.out 6 _ rfl
  have fq := free_of_block HQ.out
  have HPA := Lib.hid hparse
  clear hparse
  have hpe := HR.out.2.1
  go_upto_region 10 with fail
  replace O43 := Lib.hid (own_set' (b := Q) (j := 6) O43.out HQ.out (by decide) (.bool fl))
  replace O126 := Lib.hid (own_set' (b := Q) (j := 6) O126.out HQ.out (by decide) (.bool fl))
  replace HQ : Hid ((w14.setCell ⟨Q, 6, none⟩ (.bool fl)).heap[Q]? = some (.cells #[.string zn, .int .i64 sh, .int .i64 va, .int .i64 vb, .slice au lu cu, .slice av lv cv, .bool fl] 54 (0, 0))) := Lib.hid (setAt (ds := #[.string zn, .int .i64 sh, .int .i64 va, .int .i64 vb, .slice au lu cu, .slice av lv cv, .bool fl]) HQ.out (by simp))
  replace HA : Hid ((w14.setCell ⟨Q, 6, none⟩ (.bool fl)).heap[w.heap.size]? = some (.cells #[.string ⟨#[]⟩, .int .i64 0, .int .i64 0, .int .i64 0, .slice none 0 0, .slice none 0 0, .bool false] 54 (0, 0))) := Lib.hid (setFar HA.out (by have := HS.out; omega))
  replace HR : Hid (RrAt (w14.setCell ⟨Q, 6, none⟩ (.bool fl)) (w.heap.size + 1) s pe br126) := Lib.hid ⟨setFar HR.out.1 (by have := HS.out; omega), HR.out.2⟩
  replace HB : Hid (Below w.heap.size w (w14.setCell ⟨Q, 6, none⟩ (.bool fl))) := Lib.hid (HB.out.setCell (p := ⟨Q, 6, none⟩) (by have := HS.out; show w.heap.size ≤ Q; omega) (.bool fl))
  generalize hgw : (w14.setCell ⟨Q, 6, none⟩ (.bool fl)) = wz at HQ HA HR HB O43 O126 ⊢
  clear hgw q0 q1 q2 q3 q4 q5 q6 fq
  cases br126
  · by_cases hpz : pe = z.size
    · have d0 : ((pe : Int) == (z.size : Int)) = true := by simp [hpz]
      have HPZ := Lib.hid hpz
      clear hpz
      have hfac : ∀ w6, Gb w.heap.size wz.drew w6 → w6.heap[Q]? = some (.cells #[.string zn, .int .i64 sh, .int .i64 va, .int .i64 vb, .slice au lu cu, .slice av lv cv, .bool fl] 54 (0, 0)) ∧ w6.heap[w.heap.size + 1]? = some (.cells #[.string z, .int .i64 pe, .bool false] 124 (0, 0)) ∧ w6.ownsRow (w.heap.size + 2) 9 1 (.slice au lu cu) (ns.map str).length ((ns.map str).map Value.string) ∧ w6.ownsRow (w.heap.size + 2) 9 1 (.slice av lv cv) (ms.map str).length ((ms.map str).map Value.string) := fun w6 h => ⟨h.block' (show wz.drew.heap[Q]? = _ from HQ.out) (by have := HS.out; omega), h.block' (show wz.drew.heap[w.heap.size + 1]? = _ by have := HR.out.1; rw [HZ.out] at this; exact this) (by omega), own_gb (own_drew O43.out) h (by omega), own_gb (own_drew O126.out) h (by omega)⟩
      have HF := Lib.hid hfac
      clear hfac
      refine' Se.wp_region_pass (fun w w' => Below w.heap.size w w') (Gb w.heap.size) 16 (by kernel_rfl) (by kernel_rfl) (by kernel_rfl) (by kernel_rfl) (by kernel_rfl) (by kernel_rfl)
        (fun w => Gb.refl _ _) (fun h k => Gb.trans h k) [(fun w3 => w3.heap[w.heap.size]? = some (.cells #[.string ⟨#[]⟩, .int .i64 0, .int .i64 0, .int .i64 0, .slice none 0 0, .slice none 0 0, .bool false] 54 (0, 0)), 15)] [] ?_ ?_ (by simp) (fun vals => ?_)
      case refine'_2 =>
        intro e he
        obtain rfl := List.mem_singleton.1 he
        exact HA.out
      case refine'_3 =>
        intro e he w1' w2' k h
        obtain rfl := List.mem_singleton.1 he
        exact block_below h k
      rotate_left
      simp only [List.take_succ_cons, List.take_zero, List.drop_succ_cons, List.drop_zero]
      (apply Se.pas_x (fun _ _ h => Gb.of_below h) rfl; (focus rfl); (focus (intro w6 hR hD hP K hK; replace hK := Lib.hid hK; have hq := (HF.out w6 hR).1; have e0 := cell_of_block hq 0 _ rfl; have e1 := cell_of_block hq 1 _ rfl; have e2 := cell_of_block hq 2 _ rfl; have e3 := cell_of_block hq 3 _ rfl; have e4 := cell_of_block hq 4 _ rfl; have e5 := cell_of_block hq 5 _ rfl; have e6 := cell_of_block hq 6 _ rfl; clear hR hD hP hq; go_simp; exact hK.out _ (Below.refl _ _))); simp only [Act.put, List.setIfInBounds_toArray, List.set_cons_zero, List.set_cons_succ, Nat.reduceAdd, List.cons_append, List.nil_append])
      iterate 3 (apply Se.pas_x (fun _ _ h => Gb.of_below h) rfl; (focus rfl); (focus (intro w6 hR hD hP K hK; replace hK := Lib.hid hK; skip; clear hR hD hP; go_simp; exact hK.out _ (Below.refl _ _))); simp only [Act.put, List.setIfInBounds_toArray, List.set_cons_zero, List.set_cons_succ, Nat.reduceAdd, List.cons_append, List.nil_append])
      (apply Se.pas_x (fun _ _ h => Gb.of_below h) rfl; (focus rfl); (focus (intro w6 hR hD hP K hK; replace hK := Lib.hid hK; have hq := (HF.out w6 hR).2.1; have r2 := cell_of_block hq 2 _ rfl; clear hR hD hP hq; go_simp; exact hK.out _ (Below.refl _ _))); simp only [Act.put, List.setIfInBounds_toArray, List.set_cons_zero, List.set_cons_succ, Nat.reduceAdd, List.cons_append, List.nil_append])
      iterate 2 (apply Se.pas_x (fun _ _ h => Gb.of_below h) rfl; (focus rfl); (focus (intro w6 hR hD hP K hK; replace hK := Lib.hid hK; skip; clear hR hD hP; go_simp; exact hK.out _ (Below.refl _ _))); simp only [Act.put, List.setIfInBounds_toArray, List.set_cons_zero, List.set_cons_succ, Nat.reduceAdd, List.cons_append, List.nil_append])
      iterate 3 (apply Se.pas_g (fun _ _ h => Gb.of_below h); (focus rfl); (focus (intro w6 hR hD hP K hK; replace hK := Lib.hid hK; skip; clear hR hD hP; go_simp; exact hK.out _ (Below.refl _ _))); simp only [Act.put, List.setIfInBounds_toArray, List.set_cons_zero, List.set_cons_succ, Nat.reduceAdd, List.cons_append, List.nil_append])
      (apply Se.pas_g (fun _ _ h => Gb.of_below h); (focus rfl); (focus (intro w6 hR hD hP K hK; replace hK := Lib.hid hK; have hq := (HF.out w6 hR).2.1; have r1 := cell_of_block hq 1 _ rfl; clear hR hD hP hq; go_simp; exact hK.out _ (Below.refl _ _))); simp only [Act.put, List.setIfInBounds_toArray, List.set_cons_zero, List.set_cons_succ, Nat.reduceAdd, List.cons_append, List.nil_append])
      iterate 3 (apply Se.pas_g (fun _ _ h => Gb.of_below h); (focus rfl); (focus (intro w6 hR hD hP K hK; replace hK := Lib.hid hK; skip; clear hR hD hP; go_simp; exact hK.out _ (Below.refl _ _))); simp only [Act.put, List.setIfInBounds_toArray, List.set_cons_zero, List.set_cons_succ, Nat.reduceAdd, List.cons_append, List.nil_append])
      (apply Se.pas_x (fun _ _ h => Gb.of_below h) rfl; (focus rfl); (focus (intro w6 hR hD hP K hK; replace hK := Lib.hid hK; skip; clear hR hD hP; go_simp; exact hK.out _ (Below.refl _ _))); simp only [Act.put, List.setIfInBounds_toArray, List.set_cons_zero, List.set_cons_succ, Nat.reduceAdd, List.cons_append, List.nil_append])
      (apply Se.pas_s (Gb w.heap.size) (fun _ w3 => w3.heap[w.heap.size]? = some (.cells #[.string zn, .int .i64 sh, .int .i64 va, .int .i64 vb, .slice au lu cu, .slice av lv cv, .bool fl] 54 (0, 0))) (fun _ _ h => h) rfl (fun v w1 w2 h k => block_below h k); (focus rfl); (focus (intro w6 hR hD hP K hK; replace hK := Lib.hid hK; have hq := hP _ (List.mem_cons_self ..) (.inl rfl); have g0 := cell_of_block hq 0 _ rfl; have g1 := cell_of_block hq 1 _ rfl; have g2 := cell_of_block hq 2 _ rfl; have g3 := cell_of_block hq 3 _ rfl; have g4 := cell_of_block hq 4 _ rfl; have g5 := cell_of_block hq 5 _ rfl; have g6 := cell_of_block hq 6 _ rfl; have ff := fun j => free_of_block hq j; have HQ := Lib.hid hq; clear hR hD hP hq; go_simp; exact hK.out undef _ (gb_sets w.heap.size [.string zn, .int .i64 sh, .int .i64 va, .int .i64 vb, .slice au lu cu, .slice av lv cv, .bool fl] 0 w6) (sets7 (.string zn) (.int .i64 sh) (.int .i64 va) (.int .i64 vb) (.slice au lu cu) (.slice av lv cv) (.bool fl) HQ.out))); simp only [Act.put, List.setIfInBounds_toArray, List.set_cons_zero, List.set_cons_succ, Nat.reduceAdd, List.cons_append, List.nil_append])
      refine Se.pas_ends (by simp [Se.AllK]) (by simp [Se.AllK]) fun w6 hR hp _ => ?_
      have h15 : (fun _ w3 => w3.heap[w.heap.size]? = some (.cells #[.string zn, .int .i64 sh, .int .i64 va, .int .i64 vb, .slice au lu cu, .slice av lv cv, .bool fl] 54 (0, 0))) undef w6 := hp 15 (by simp)
      have H15 := Lib.hid (And.intro h15 (HF.out w6 hR).2.2)
      have HB6 := Lib.hid (Gb.below HB.out.drew hR (Nat.le_refl _) HB.out.size)
      clear hp h15 hR
      go_wp2
      have k0 := cell_of_block H15.out.1 0 _ rfl
      have k1 := cell_of_block H15.out.1 1 _ rfl
      have k2 := cell_of_block H15.out.1 2 _ rfl
      have k3 := cell_of_block H15.out.1 3 _ rfl
      have k4 := cell_of_block H15.out.1 4 _ rfl
      have k5 := cell_of_block H15.out.1 5 _ rfl
      have k6 := cell_of_block H15.out.1 6 _ rfl
      have hpar := show (pPod s) = some ⟨nm, sh, va, vb, ns, ms, fl⟩ by rw [HPA.out, if_pos (by simp [HPZ.out, HZS.out])]
      rw [← HZN.out] at k0
      exact bodyPost_ret (v := .tuple #[.agg #[.string (str nm), .int .i64 sh, .int .i64 va, .int .i64 vb, .slice au lu cu, .slice av lv cv, .bool fl], .bool true]) (by simp [results, Tryz.results74, go_sem, k0, k1, k2, k3, k4, k5, k6]) rfl ⟨⟨nm, sh, va, vb, ns, ms, fl⟩, .slice au lu cu, .slice av lv cv, by rw [hpar]; rfl, own_base H15.out.2.1 (by omega), own_base H15.out.2.2 (by omega), ⟨by have := BN1.out; omega, by have := BVA.out; omega, by have := BVB.out; omega⟩, HNL.out, ⟨NL43.out, NX43.out⟩, ⟨NL126.out, NX126.out⟩, (fun m hm => by rw [hpar] at hm; exact Option.some.inj hm), HB6.out⟩
    · have d0 : ((pe : Int) == (z.size : Int)) = false := beq_eq_false_iff_ne.2 (by omega)
      have HPZ := Lib.hid hpz
      clear hpz
      have hfac : ∀ w6, Gb w.heap.size wz.drew w6 → w6.heap[Q]? = some (.cells #[.string zn, .int .i64 sh, .int .i64 va, .int .i64 vb, .slice au lu cu, .slice av lv cv, .bool fl] 54 (0, 0)) ∧ w6.heap[w.heap.size + 1]? = some (.cells #[.string z, .int .i64 pe, .bool false] 124 (0, 0)) ∧ w6.ownsRow (w.heap.size + 2) 9 1 (.slice au lu cu) (ns.map str).length ((ns.map str).map Value.string) ∧ w6.ownsRow (w.heap.size + 2) 9 1 (.slice av lv cv) (ms.map str).length ((ms.map str).map Value.string) := fun w6 h => ⟨h.block' (show wz.drew.heap[Q]? = _ from HQ.out) (by have := HS.out; omega), h.block' (show wz.drew.heap[w.heap.size + 1]? = _ by have := HR.out.1; rw [HZ.out] at this; exact this) (by omega), own_gb (own_drew O43.out) h (by omega), own_gb (own_drew O126.out) h (by omega)⟩
      have HF := Lib.hid hfac
      clear hfac
      refine' Se.wp_region_pass (fun w w' => Below w.heap.size w w') (Gb w.heap.size) 16 (by kernel_rfl) (by kernel_rfl) (by kernel_rfl) (by kernel_rfl) (by kernel_rfl) (by kernel_rfl)
        (fun w => Gb.refl _ _) (fun h k => Gb.trans h k) [(fun w3 => w3.heap[w.heap.size]? = some (.cells #[.string ⟨#[]⟩, .int .i64 0, .int .i64 0, .int .i64 0, .slice none 0 0, .slice none 0 0, .bool false] 54 (0, 0)), 15)] [] ?_ ?_ (by simp) (fun vals => ?_)
      case refine'_2 =>
        intro e he
        obtain rfl := List.mem_singleton.1 he
        exact HA.out
      case refine'_3 =>
        intro e he w1' w2' k h
        obtain rfl := List.mem_singleton.1 he
        exact block_below h k
      rotate_left
      simp only [List.take_succ_cons, List.take_zero, List.drop_succ_cons, List.drop_zero]
      (apply Se.pas_x (fun _ _ h => Gb.of_below h) rfl; (focus rfl); (focus (intro w6 hR hD hP K hK; replace hK := Lib.hid hK; have hq := (HF.out w6 hR).1; have e0 := cell_of_block hq 0 _ rfl; have e1 := cell_of_block hq 1 _ rfl; have e2 := cell_of_block hq 2 _ rfl; have e3 := cell_of_block hq 3 _ rfl; have e4 := cell_of_block hq 4 _ rfl; have e5 := cell_of_block hq 5 _ rfl; have e6 := cell_of_block hq 6 _ rfl; clear hR hD hP hq; go_simp; exact hK.out _ (Below.refl _ _))); simp only [Act.put, List.setIfInBounds_toArray, List.set_cons_zero, List.set_cons_succ, Nat.reduceAdd, List.cons_append, List.nil_append])
      iterate 3 (apply Se.pas_x (fun _ _ h => Gb.of_below h) rfl; (focus rfl); (focus (intro w6 hR hD hP K hK; replace hK := Lib.hid hK; skip; clear hR hD hP; go_simp; exact hK.out _ (Below.refl _ _))); simp only [Act.put, List.setIfInBounds_toArray, List.set_cons_zero, List.set_cons_succ, Nat.reduceAdd, List.cons_append, List.nil_append])
      (apply Se.pas_x (fun _ _ h => Gb.of_below h) rfl; (focus rfl); (focus (intro w6 hR hD hP K hK; replace hK := Lib.hid hK; have hq := (HF.out w6 hR).2.1; have r2 := cell_of_block hq 2 _ rfl; clear hR hD hP hq; go_simp; exact hK.out _ (Below.refl _ _))); simp only [Act.put, List.setIfInBounds_toArray, List.set_cons_zero, List.set_cons_succ, Nat.reduceAdd, List.cons_append, List.nil_append])
      iterate 2 (apply Se.pas_x (fun _ _ h => Gb.of_below h) rfl; (focus rfl); (focus (intro w6 hR hD hP K hK; replace hK := Lib.hid hK; skip; clear hR hD hP; go_simp; exact hK.out _ (Below.refl _ _))); simp only [Act.put, List.setIfInBounds_toArray, List.set_cons_zero, List.set_cons_succ, Nat.reduceAdd, List.cons_append, List.nil_append])
      iterate 3 (apply Se.pas_g (fun _ _ h => Gb.of_below h); (focus rfl); (focus (intro w6 hR hD hP K hK; replace hK := Lib.hid hK; skip; clear hR hD hP; go_simp; exact hK.out _ (Below.refl _ _))); simp only [Act.put, List.setIfInBounds_toArray, List.set_cons_zero, List.set_cons_succ, Nat.reduceAdd, List.cons_append, List.nil_append])
      (apply Se.pas_g (fun _ _ h => Gb.of_below h); (focus rfl); (focus (intro w6 hR hD hP K hK; replace hK := Lib.hid hK; have hq := (HF.out w6 hR).2.1; have r1 := cell_of_block hq 1 _ rfl; clear hR hD hP hq; go_simp; exact hK.out _ (Below.refl _ _))); simp only [Act.put, List.setIfInBounds_toArray, List.set_cons_zero, List.set_cons_succ, Nat.reduceAdd, List.cons_append, List.nil_append])
      iterate 3 (apply Se.pas_g (fun _ _ h => Gb.of_below h); (focus rfl); (focus (intro w6 hR hD hP K hK; replace hK := Lib.hid hK; skip; clear hR hD hP; go_simp; exact hK.out _ (Below.refl _ _))); simp only [Act.put, List.setIfInBounds_toArray, List.set_cons_zero, List.set_cons_succ, Nat.reduceAdd, List.cons_append, List.nil_append])
      (apply Se.pas_x (fun _ _ h => Gb.of_below h) rfl; (focus rfl); (focus (intro w6 hR hD hP K hK; replace hK := Lib.hid hK; skip; clear hR hD hP; go_simp; exact hK.out _ (Below.refl _ _))); simp only [Act.put, List.setIfInBounds_toArray, List.set_cons_zero, List.set_cons_succ, Nat.reduceAdd, List.cons_append, List.nil_append])
      (apply Se.pas_s (Gb w.heap.size) (fun _ w3 => w3.heap[w.heap.size]? = some (.cells #[.string zn, .int .i64 sh, .int .i64 va, .int .i64 vb, .slice au lu cu, .slice av lv cv, .bool fl] 54 (0, 0))) (fun _ _ h => h) rfl (fun v w1 w2 h k => block_below h k); (focus rfl); (focus (intro w6 hR hD hP K hK; replace hK := Lib.hid hK; have hq := hP _ (List.mem_cons_self ..) (.inl rfl); have g0 := cell_of_block hq 0 _ rfl; have g1 := cell_of_block hq 1 _ rfl; have g2 := cell_of_block hq 2 _ rfl; have g3 := cell_of_block hq 3 _ rfl; have g4 := cell_of_block hq 4 _ rfl; have g5 := cell_of_block hq 5 _ rfl; have g6 := cell_of_block hq 6 _ rfl; have ff := fun j => free_of_block hq j; have HQ := Lib.hid hq; clear hR hD hP hq; go_simp; exact hK.out undef _ (gb_sets w.heap.size [.string zn, .int .i64 sh, .int .i64 va, .int .i64 vb, .slice au lu cu, .slice av lv cv, .bool fl] 0 w6) (sets7 (.string zn) (.int .i64 sh) (.int .i64 va) (.int .i64 vb) (.slice au lu cu) (.slice av lv cv) (.bool fl) HQ.out))); simp only [Act.put, List.setIfInBounds_toArray, List.set_cons_zero, List.set_cons_succ, Nat.reduceAdd, List.cons_append, List.nil_append])
      refine Se.pas_ends (by simp [Se.AllK]) (by simp [Se.AllK]) fun w6 hR hp _ => ?_
      have h15 : (fun _ w3 => w3.heap[w.heap.size]? = some (.cells #[.string zn, .int .i64 sh, .int .i64 va, .int .i64 vb, .slice au lu cu, .slice av lv cv, .bool fl] 54 (0, 0))) undef w6 := hp 15 (by simp)
      have H15 := Lib.hid (And.intro h15 (HF.out w6 hR).2.2)
      have HB6 := Lib.hid (Gb.below HB.out.drew hR (Nat.le_refl _) HB.out.size)
      clear hp h15 hR
      go_wp2
      have k0 := cell_of_block H15.out.1 0 _ rfl
      have k1 := cell_of_block H15.out.1 1 _ rfl
      have k2 := cell_of_block H15.out.1 2 _ rfl
      have k3 := cell_of_block H15.out.1 3 _ rfl
      have k4 := cell_of_block H15.out.1 4 _ rfl
      have k5 := cell_of_block H15.out.1 5 _ rfl
      have k6 := cell_of_block H15.out.1 6 _ rfl
      have hpar := show (pPod s) = none by rw [HPA.out, if_neg (by rw [← HZS.out]; simp [HPZ.out])]
      rw [← HZN.out] at k0
      exact bodyPost_ret (v := .tuple #[.agg #[.string (str nm), .int .i64 sh, .int .i64 va, .int .i64 vb, .slice au lu cu, .slice av lv cv, .bool fl], .bool false]) (by simp [results, Tryz.results74, go_sem, k0, k1, k2, k3, k4, k5, k6]) rfl ⟨⟨nm, sh, va, vb, ns, ms, fl⟩, .slice au lu cu, .slice av lv cv, by rw [hpar]; rfl, own_base H15.out.2.1 (by omega), own_base H15.out.2.2 (by omega), ⟨by have := BN1.out; omega, by have := BVA.out; omega, by have := BVB.out; omega⟩, HNL.out, ⟨NL43.out, NX43.out⟩, ⟨NL126.out, NX126.out⟩, (fun m hm => by rw [hpar] at hm; cases hm), HB6.out⟩
  · have hfac : ∀ w6, Gb w.heap.size wz.drew w6 → w6.heap[Q]? = some (.cells #[.string zn, .int .i64 sh, .int .i64 va, .int .i64 vb, .slice au lu cu, .slice av lv cv, .bool fl] 54 (0, 0)) ∧ w6.heap[w.heap.size + 1]? = some (.cells #[.string z, .int .i64 pe, .bool true] 124 (0, 0)) ∧ w6.ownsRow (w.heap.size + 2) 9 1 (.slice au lu cu) (ns.map str).length ((ns.map str).map Value.string) ∧ w6.ownsRow (w.heap.size + 2) 9 1 (.slice av lv cv) (ms.map str).length ((ms.map str).map Value.string) := fun w6 h => ⟨h.block' (show wz.drew.heap[Q]? = _ from HQ.out) (by have := HS.out; omega), h.block' (show wz.drew.heap[w.heap.size + 1]? = _ by have := HR.out.1; rw [HZ.out] at this; exact this) (by omega), own_gb (own_drew O43.out) h (by omega), own_gb (own_drew O126.out) h (by omega)⟩
    have HF := Lib.hid hfac
    clear hfac
    refine' Se.wp_region_pass (fun w w' => Below w.heap.size w w') (Gb w.heap.size) 16 (by kernel_rfl) (by kernel_rfl) (by kernel_rfl) (by kernel_rfl) (by kernel_rfl) (by kernel_rfl)
      (fun w => Gb.refl _ _) (fun h k => Gb.trans h k) [(fun w3 => w3.heap[w.heap.size]? = some (.cells #[.string ⟨#[]⟩, .int .i64 0, .int .i64 0, .int .i64 0, .slice none 0 0, .slice none 0 0, .bool false] 54 (0, 0)), 15)] [] ?_ ?_ (by simp) (fun vals => ?_)
    case refine'_2 =>
      intro e he
      obtain rfl := List.mem_singleton.1 he
      exact HA.out
    case refine'_3 =>
      intro e he w1' w2' k h
      obtain rfl := List.mem_singleton.1 he
      exact block_below h k
    rotate_left
    simp only [List.take_succ_cons, List.take_zero, List.drop_succ_cons, List.drop_zero]
    (apply Se.pas_x (fun _ _ h => Gb.of_below h) rfl; (focus rfl); (focus (intro w6 hR hD hP K hK; replace hK := Lib.hid hK; have hq := (HF.out w6 hR).1; have e0 := cell_of_block hq 0 _ rfl; have e1 := cell_of_block hq 1 _ rfl; have e2 := cell_of_block hq 2 _ rfl; have e3 := cell_of_block hq 3 _ rfl; have e4 := cell_of_block hq 4 _ rfl; have e5 := cell_of_block hq 5 _ rfl; have e6 := cell_of_block hq 6 _ rfl; clear hR hD hP hq; go_simp; exact hK.out _ (Below.refl _ _))); simp only [Act.put, List.setIfInBounds_toArray, List.set_cons_zero, List.set_cons_succ, Nat.reduceAdd, List.cons_append, List.nil_append])
    iterate 3 (apply Se.pas_x (fun _ _ h => Gb.of_below h) rfl; (focus rfl); (focus (intro w6 hR hD hP K hK; replace hK := Lib.hid hK; skip; clear hR hD hP; go_simp; exact hK.out _ (Below.refl _ _))); simp only [Act.put, List.setIfInBounds_toArray, List.set_cons_zero, List.set_cons_succ, Nat.reduceAdd, List.cons_append, List.nil_append])
    (apply Se.pas_x (fun _ _ h => Gb.of_below h) rfl; (focus rfl); (focus (intro w6 hR hD hP K hK; replace hK := Lib.hid hK; have hq := (HF.out w6 hR).2.1; have r2 := cell_of_block hq 2 _ rfl; clear hR hD hP hq; go_simp; exact hK.out _ (Below.refl _ _))); simp only [Act.put, List.setIfInBounds_toArray, List.set_cons_zero, List.set_cons_succ, Nat.reduceAdd, List.cons_append, List.nil_append])
    iterate 2 (apply Se.pas_x (fun _ _ h => Gb.of_below h) rfl; (focus rfl); (focus (intro w6 hR hD hP K hK; replace hK := Lib.hid hK; skip; clear hR hD hP; go_simp; exact hK.out _ (Below.refl _ _))); simp only [Act.put, List.setIfInBounds_toArray, List.set_cons_zero, List.set_cons_succ, Nat.reduceAdd, List.cons_append, List.nil_append])
    iterate 7 (apply Se.pas_g (e := undef) (fun _ _ h => Gb.of_below h); (focus rfl); (focus (intro w6 hR hD hP K hK; replace hK := Lib.hid hK; clear hR hD hP; go_simp; exact hK.out _ (Below.refl _ _))); simp only [Act.put, List.setIfInBounds_toArray, List.set_cons_zero, List.set_cons_succ, Nat.reduceAdd, List.cons_append, List.nil_append])
    (apply Se.pas_x (fun _ _ h => Gb.of_below h) rfl; (focus rfl); (focus (intro w6 hR hD hP K hK; replace hK := Lib.hid hK; skip; clear hR hD hP; go_simp; exact hK.out _ (Below.refl _ _))); simp only [Act.put, List.setIfInBounds_toArray, List.set_cons_zero, List.set_cons_succ, Nat.reduceAdd, List.cons_append, List.nil_append])
    (apply Se.pas_s (Gb w.heap.size) (fun _ w3 => w3.heap[w.heap.size]? = some (.cells #[.string zn, .int .i64 sh, .int .i64 va, .int .i64 vb, .slice au lu cu, .slice av lv cv, .bool fl] 54 (0, 0))) (fun _ _ h => h) rfl (fun v w1 w2 h k => block_below h k); (focus rfl); (focus (intro w6 hR hD hP K hK; replace hK := Lib.hid hK; have hq := hP _ (List.mem_cons_self ..) (.inl rfl); have g0 := cell_of_block hq 0 _ rfl; have g1 := cell_of_block hq 1 _ rfl; have g2 := cell_of_block hq 2 _ rfl; have g3 := cell_of_block hq 3 _ rfl; have g4 := cell_of_block hq 4 _ rfl; have g5 := cell_of_block hq 5 _ rfl; have g6 := cell_of_block hq 6 _ rfl; have ff := fun j => free_of_block hq j; have HQ := Lib.hid hq; clear hR hD hP hq; go_simp; exact hK.out undef _ (gb_sets w.heap.size [.string zn, .int .i64 sh, .int .i64 va, .int .i64 vb, .slice au lu cu, .slice av lv cv, .bool fl] 0 w6) (sets7 (.string zn) (.int .i64 sh) (.int .i64 va) (.int .i64 vb) (.slice au lu cu) (.slice av lv cv) (.bool fl) HQ.out))); simp only [Act.put, List.setIfInBounds_toArray, List.set_cons_zero, List.set_cons_succ, Nat.reduceAdd, List.cons_append, List.nil_append])
    refine Se.pas_ends (by simp [Se.AllK]) (by simp [Se.AllK]) fun w6 hR hp _ => ?_
    have h15 : (fun _ w3 => w3.heap[w.heap.size]? = some (.cells #[.string zn, .int .i64 sh, .int .i64 va, .int .i64 vb, .slice au lu cu, .slice av lv cv, .bool fl] 54 (0, 0))) undef w6 := hp 15 (by simp)
    have H15 := Lib.hid (And.intro h15 (HF.out w6 hR).2.2)
    have HB6 := Lib.hid (Gb.below HB.out.drew hR (Nat.le_refl _) HB.out.size)
    clear hp h15 hR
    go_wp2
    have k0 := cell_of_block H15.out.1 0 _ rfl
    have k1 := cell_of_block H15.out.1 1 _ rfl
    have k2 := cell_of_block H15.out.1 2 _ rfl
    have k3 := cell_of_block H15.out.1 3 _ rfl
    have k4 := cell_of_block H15.out.1 4 _ rfl
    have k5 := cell_of_block H15.out.1 5 _ rfl
    have k6 := cell_of_block H15.out.1 6 _ rfl
    have hpar := show (pPod s) = none by rw [HPA.out, if_neg (by simp)]
    rw [← HZN.out] at k0
    exact bodyPost_ret (v := .tuple #[.agg #[.string (str nm), .int .i64 sh, .int .i64 va, .int .i64 vb, .slice au lu cu, .slice av lv cv, .bool fl], .bool false]) (by simp [results, Tryz.results74, go_sem, k0, k1, k2, k3, k4, k5, k6]) rfl ⟨⟨nm, sh, va, vb, ns, ms, fl⟩, .slice au lu cu, .slice av lv cv, by rw [hpar]; rfl, own_base H15.out.2.1 (by omega), own_base H15.out.2.2 (by omega), ⟨by have := BN1.out; omega, by have := BVA.out; omega, by have := BVB.out; omega⟩, HNL.out, ⟨NL43.out, NX43.out⟩, ⟨NL126.out, NX126.out⟩, (fun m hm => by rw [hpar] at hm; cases hm), HB6.out⟩
end Go.Proofs.YtikamehjeaoilaaGreatDoor
/-! The reference's words of a line. -/
set_option linter.unusedVariables false
set_option linter.unusedSimpArgs false
namespace Go.Proofs.YtikamehjeaoilaaGreatDoor
open Go.RowKit

/-- The words of what stands from a place on, where the next blank is known. -/
theorem split_at {s : List UInt8} {a i : Nat} (hi : i ≤ s.length) (ha : a ≤ i) (h : ∀ j, a ≤ j → j < i → s.getD j 0 ≠ 32) :
    splitC 32 (s.drop a) = if i = s.length then [s.drop a] else if s.getD i 0 = 32 then (s.drop a).take (i - a) :: splitC 32 (s.drop (i + 1)) else splitC 32 (s.drop a) := by
  have hn : (32 : UInt8) ∉ (s.drop a).take (i - a) := fun hm => by
    obtain ⟨j, hj, e⟩ := List.getElem_of_mem hm
    simp at hj
    have := h (a + j) (by omega) (by omega)
    rw [List.getD_eq_getElem?_getD, List.getElem?_eq_getElem (by omega)] at this
    rw [List.getElem_take, List.getElem_drop] at e
    exact this e
  have hs : s.drop a = (s.drop a).take (i - a) ++ s.drop i := by
    conv => lhs; rw [← List.take_append_drop (i - a) (s.drop a)]
    rw [List.drop_drop, show a + (i - a) = i by omega]
  split
  · rename_i e
    subst e
    have hz : (s.drop a).take (s.length - a) = s.drop a := by rw [List.take_of_length_le (by simp)]
    rw [hz] at hn
    have := splitC_app (c := 32) (s.drop a) [] hn
    simpa [splitC] using this
  · rename_i e
    split
    · rename_i e2
      have hd : s.drop i = 32 :: s.drop (i + 1) := by
        rw [List.drop_eq_getElem_cons (by omega)]
        rw [List.getD_eq_getElem?_getD, List.getElem?_eq_getElem (by omega)] at e2
        rw [show s[i] = 32 from e2]
      conv => lhs; rw [hs]
      rw [splitC_app _ _ hn, hd]
      simp [splitC]
    · rfl
set_option maxHeartbeats 8000000 in
set_option maxRecDepth 100000 in
theorem rwords_any (s : List UInt8) (hl : s.length ≤ 4294967280) (w : World) : Calls Tryz.prog 25 #[.string (str s)] w fun e w' => ∃ v, e = .returned v ∧ w'.ownsRow w.heap.size 9 1 v (wordsL s).length ((wordsL s).map strV) ∧ Below w.heap.size w w' := by
  obtain ⟨z, hz⟩ : ∃ z, str s = z := ⟨_, rfl⟩
  have hzs : z.size = s.length := by rw [← hz, str_size]
  rw [hz]
  have HZ := Lib.hid hz
  have HZS := Lib.hid hzs
  clear hz hzs
  go_enter Tryz.func25, Tryz.ntmps25
  go_wp2
  go_loopw [3, 4, 5] (fun v a i wr => ∃ (acc : List (List UInt8)) (at_ ix : Nat), a = .int .i64 at_ ∧ i = .int .i64 ix ∧ wr.ownsRow w.heap.size 9 1 v acc.length (acc.map strV) ∧ Below w.heap.size w wr ∧ at_ ≤ ix ∧ ix ≤ s.length + 1 ∧ (∀ j, at_ ≤ j → j < ix → s.getD j 0 ≠ 32) ∧ [] ∉ acc ∧ acc.length ≤ at_ ∧
      (ix = s.length + 1 → splitC 32 s = acc) ∧ (ix ≤ s.length → splitC 32 s = acc ++ splitC 32 (s.drop at_))) (fun _ _ i _ => s.length + 1 - (intOf i).toNat)
  case atStart => exact ⟨[], 0, 0, rfl, rfl, World.ownsRow_nil _ _ _ _, Below.refl _ _, Nat.le_refl _, by omega, (fun j h1 h2 => by omega), by simp, by simp, (fun h => by omega), by simp⟩
  case round =>
    obtain ⟨acc, a, i, rfl, rfl, ho, hb, hai, hil, hno, hne, hal, he1, he2⟩ := hrel
    have HO := Lib.hid ho
    have HB := Lib.hid hb
    have HNO := Lib.hid hno
    have HNE := Lib.hid hne
    have HE1 := Lib.hid he1
    have HE2 := Lib.hid he2
    clear ho hb hno hne he1 he2
    by_cases hlt : i ≤ s.length
    · have d0 : decide (i ≤ z.size) = true := decide_eq_true (by rw [HZS.out]; exact hlt)
      have k0 : (i : Int) ≤ (z.size : Int) := by rw [HZS.out]; omega
      have hiw : IntKind.i64.wrap ((i : Int) + 1) = ((i + 1 : Nat) : Int) := by rw [IntWalk.i64_in _ (by omega)]; omega
      have HSA := Lib.hid (split_at hlt hai HNO.out)
      have HLT := Lib.hid hlt
      by_cases hel : i = s.length
      · have d1 : ((i : Int) == (z.size : Int)) = true := by rw [hel, HZS.out]; simp
        have HEL := Lib.hid hel
        clear hel hlt
        by_cases hia : i = a
        · have hw : wordsL s = [] := by
            unfold wordsL
            rw [if_pos]
            rw [HE2.out HLT.out]
            refine List.mem_append_right _ ?_
            rw [HSA.out]
            subst hia
            rw [if_pos HEL.out, HEL.out]; simp
          have HW := Lib.hid hw
          have d2 : ((i : Int) == (a : Int)) = true := by simp [hia]
          clear hw hia
          go_wp2
          go_ret
          exact ⟨_, rfl, by rw [HW.out]; exact World.ownsRow_nil _ _ _ _, HB.out⟩
        · have d2 : ((i : Int) == (a : Int)) = false := beq_eq_false_iff_ne.2 (by omega)
          have hai' : a ≤ i := hai
          have hiz : i ≤ z.size := by rw [HZS.out]; exact HLT.out
          obtain ⟨n, hn⟩ : ∃ n, (s.drop a).take (i - a) = n := ⟨_, rfl⟩
          have hxe : z.extract a i = str n := by
            rw [← hn]
            have := HZ.out
            subst this
            rw [extract_str]
          have hnn : n ≠ [] := by
            rw [← hn]
            intro e
            have := congrArg List.length e
            have := HLT.out
            simp only [List.length_take, List.length_drop, List.length_nil] at *
            omega
          have hsp : splitC 32 s = acc ++ n :: [] := by
            rw [HE2.out HLT.out, HSA.out, ← hn]
            rw [if_pos HEL.out, HEL.out, List.take_of_length_le (by simp)]
          have HSP := Lib.hid hsp
          have HNN := Lib.hid hnn
          have HIA := Lib.hid hia
          clear hsp hnn hia hn
          go_wp2_with (at_builtin; refine list_appends elt_strs _ _ rfl rfl rfl rfl (World.ownsRow.alloc HO.out _) (show [strV n].length = 1 * 1 from rfl) (news_row (alloc_at _ _)) (by simp [Value.oneCell', strV]) (by omega) (by have := HB.out.size; simp; omega) ?_; intro v' w3 hown hgrow; have HO3 := Lib.hid hown; have HG3 := Lib.hid hgrow; clear hown hgrow)
          go_roundw
          case rel =>
            refine ⟨acc ++ [n], i + 1, i + 1, by go_num, by go_num, by simpa using HO3.out, (HB.out.alloc HB.out.size _).grown HG3.out (by have := HB.out.size; simp; omega) (fun k hk => (HO.out.lt k hk).1), Nat.le_refl _, by have := HLT.out; omega, (fun j h1 h2 => by omega), ?_, ?_, ?_, ?_⟩
            · intro hm
              rcases List.mem_append.1 hm with hm | hm
              · exact HNE.out hm
              · exact HNN.out (List.mem_singleton.1 hm).symm
            · have := HIA.out
              simp
              omega
            · intro h
              exact HSP.out
            · intro h
              have := HEL.out; omega
          case measure => have := HLT.out; simp [intOf]; omega
      · have d1 : ((i : Int) == (z.size : Int)) = false := beq_eq_false_iff_ne.2 (by rw [HZS.out]; omega)
        have hlt2 : i < s.length := by omega
        have hiz2 : i < z.size := by rw [HZS.out]; exact hlt2
        obtain ⟨x, hx⟩ : ∃ x, s.getD i 0 = x := ⟨_, rfl⟩
        have hxz : z[i]'hiz2 = x := by have := HZ.out; subst this; rw [str_at, hx]
        have HEL := Lib.hid hlt2
        have HX := Lib.hid hx
        clear hel hlt hlt2 hx
        by_cases h32 : x = 32
        · have d3 : ((x.toNat : Int) == 32) = true := by rw [h32]; rfl
          have HBL : Hid (s.getD i 0 = 32) := Lib.hid (by rw [HX.out]; exact h32)
          clear h32
          by_cases hia : i = a
          · have hw : wordsL s = [] := by
              unfold wordsL
              rw [if_pos]
              rw [HE2.out HLT.out]
              refine List.mem_append_right _ ?_
              rw [HSA.out]
              subst hia
              rw [if_neg (by have := HEL.out; omega), if_pos HBL.out]; simp
            have HW := Lib.hid hw
            have d2 : ((i : Int) == (a : Int)) = true := by simp [hia]
            clear hw hia
            go_wp2
            go_ret
            exact ⟨_, rfl, by rw [HW.out]; exact World.ownsRow_nil _ _ _ _, HB.out⟩
          · have d2 : ((i : Int) == (a : Int)) = false := beq_eq_false_iff_ne.2 (by omega)
            have hai' : a ≤ i := hai
            have hiz : i ≤ z.size := by rw [HZS.out]; exact HLT.out
            obtain ⟨n, hn⟩ : ∃ n, (s.drop a).take (i - a) = n := ⟨_, rfl⟩
            have hxe : z.extract a i = str n := by
              rw [← hn]
              have := HZ.out
              subst this
              rw [extract_str]
            have hnn : n ≠ [] := by
              rw [← hn]
              intro e
              have := congrArg List.length e
              have := HLT.out
              simp only [List.length_take, List.length_drop, List.length_nil] at *
              omega
            have hsp : splitC 32 s = acc ++ n :: splitC 32 (s.drop (i + 1)) := by
              rw [HE2.out HLT.out, HSA.out, ← hn]
              rw [if_neg (by have := HEL.out; omega), if_pos HBL.out]
            have HSP := Lib.hid hsp
            have HNN := Lib.hid hnn
            have HIA := Lib.hid hia
            clear hsp hnn hia hn
            go_wp2_with (at_builtin; refine list_appends elt_strs _ _ rfl rfl rfl rfl (World.ownsRow.alloc HO.out _) (show [strV n].length = 1 * 1 from rfl) (news_row (alloc_at _ _)) (by simp [Value.oneCell', strV]) (by omega) (by have := HB.out.size; simp; omega) ?_; intro v' w3 hown hgrow; have HO3 := Lib.hid hown; have HG3 := Lib.hid hgrow; clear hown hgrow)
            go_roundw
            case rel =>
              refine ⟨acc ++ [n], i + 1, i + 1, by go_num, by go_num, by simpa using HO3.out, (HB.out.alloc HB.out.size _).grown HG3.out (by have := HB.out.size; simp; omega) (fun k hk => (HO.out.lt k hk).1), Nat.le_refl _, by have := HLT.out; omega, (fun j h1 h2 => by omega), ?_, ?_, ?_, ?_⟩
              · intro hm
                rcases List.mem_append.1 hm with hm | hm
                · exact HNE.out hm
                · exact HNN.out (List.mem_singleton.1 hm).symm
              · have := HIA.out
                simp
                omega
              · intro h
                rw [HSP.out]
                have := HEL.out; omega
              · intro h
                rw [HSP.out]; simp
            case measure => have := HLT.out; simp [intOf]; omega
        · have d3 : ((x.toNat : Int) == 32) = false := by
            rw [beq_eq_false_iff_ne]
            intro e
            exact h32 (UInt8.toNat_inj.1 (by rw [show (32 : UInt8).toNat = 32 from rfl]; omega))
          have H32 := Lib.hid h32
          clear h32
          go_wp2
          go_roundw
          case rel =>
            refine ⟨acc, a, i + 1, rfl, by go_num, HO.out, HB.out, by omega, by have := HLT.out; omega, ?_, HNE.out, hal, (fun h => by have := HEL.out; omega), fun _ => HE2.out HLT.out⟩
            intro j h1 h2
            by_cases e : j = i
            · subst e; rw [HX.out]; exact H32.out
            · exact HNO.out j h1 (by omega)
          case measure => have := HLT.out; simp [intOf]; omega
    · have d0 : decide (i ≤ z.size) = false := decide_eq_false (by rw [HZS.out]; exact hlt)
      have k0 : ¬ (i : Int) ≤ (z.size : Int) := by rw [HZS.out]; omega
      have hw : wordsL s = acc := by
        unfold wordsL
        rw [HE1.out (by omega), if_neg HNE.out]
      have HW := Lib.hid hw
      clear hw
      go_wp2
      go_ret
      exact ⟨_, rfl, by rw [HW.out]; exact HO.out, HB.out⟩
end Go.Proofs.YtikamehjeaoilaaGreatDoor
