/- The keys of an empty map, sorted: there are none; a tick of a coordinator that knows nothing. -/
import Derived.Test.YtgkjlpielikecaaGreatDoorIc
import Derived.Test.YtgkjlpielikecaaGreatDoorIter
set_option linter.unusedVariables false
set_option linter.unusedSimpArgs false
namespace Go.Proofs.YtgkjlpielikecaaGreatDoor
open Go.RowKit Go.Maps Go.Sort Go.Shelf

theorem sortsA (m : Nat) : AnyZI.SortsIn Tryz.prog Tryz.sortedA_ren Fence.wide m :=
  ⟨fun blk off cap ss W hH hblk hsz => callsIn_wide.2 (AnyM.slices_Sort_int Tryz.sortA blk off cap ss W hH hblk hsz),
   fun p cap W => callsIn_wide.2 (AnyM.slices_Sort_int_none Tryz.sortA p cap W)⟩
theorem keysA_any (mb : Option Nat) (W : World) : Calls Tryz.prog 307 #[.map mb] W fun e w' => e = .returned (.func (.func 308) #[] #[.pointer (some ⟨W.heap.size, 0, none⟩)]) ∧ w' = W.alloc (.cells #[.map mb] 174) :=
  (callsIn_wide (n := 5)).1 (AnyZI.keys_in Tryz.keysA Fence.wide 5 trivial rfl mb W)
theorem own_empty {H : Type} {w : World} {m : Nat} (h : MapE w m) (P : Program) (k : TypeId) (R : Value → Option (DataW H × List MemPlace)) : w.ownsMap P k R m 0 (.map []) := by
  obtain ⟨es, clock, h1, h2, h3, h4⟩ := World.ownsMap_made w P k R
  have := alloc_at w (.map #[] 0)
  rw [this] at h1
  injection h1 with h1
  injection h1 with e1 e2
  subst e1 e2
  exact ⟨_, _, h, h2, h3, h4⟩
set_option maxHeartbeats 1000000 in
theorem sortedA_empty (m : Nat) (w : World) (hm : MapE w m) : Calls Tryz.prog 241 #[.func (.func 308) #[] #[.pointer (some ⟨w.heap.size, 0, none⟩)]] (w.alloc (.cells #[.map (some m)] 174)) fun e w' => e = .returned (.slice none 0 0) ∧ Below w.heap.size w w' := by
  have hseq : SeqGives Fence.wide 2 Tryz.prog 308 #[.pointer (some ⟨w.heap.size, 0, none⟩)] encZ (fun ss => ss.Perm (intKeys (.map [] : DataW Unit))) (Maps.size (.map [] : DataW Unit)) (w.alloc (.cells #[.map (some m)] 174)) :=
    AnyZI.keys_gives (ρ := Tryz.keysA_ren) { Tryz.keysA with } Fence.wide _ trivial rfl (by omega) w.heap.size m 0 (.map []) (R := fun _ => none) _ (by simp) (by simp) (own_empty (hm.below (below_alloc' (Below.refl _ _) _)) _ _ _)
  have cS := AnyZI.sorted_in Tryz.sortedA Fence.wide 5 trivial trivial trivial trivial rfl (by omega) (sortsA _) (enters_of Tryz.func161 (by kernel_rfl) rfl) 308 #[.pointer (some ⟨w.heap.size, 0, none⟩)] trivial (enters_of Tryz.func308 (by kernel_rfl) rfl) _ _ (by decide) (by decide) _ hseq
  refine ((callsIn_wide (n := 5)).1 cS).mono ?_
  rintro e w' ⟨v, ss, rfl, hS, hrow, hnil, hb⟩
  have : ss = [] := by
    have h2 : intKeys (.map [] : DataW Unit) = [] := by rfl
    rw [h2] at hS
    exact List.Perm.eq_nil hS
  exact ⟨by rw [hnil.2 this], (below_alloc' (Below.refl _ _) _).trans (hb.mono (by simp))⟩

set_option maxHeartbeats 1000000 in
set_option maxRecDepth 100000 in
theorem gangs_empty (c t : Nat) (n : Int) (w : World) (h : CoordE w c n t) : Calls Tryz.prog 301 #[.pointer (some ⟨c, 0, none⟩)] w fun e w' => e = .returned (.slice none 0 0) ∧ Below w.heap.size w w' := by
  obtain ⟨m, h1, h2⟩ := h
  have c2 := cell_of_block h1 2 _ rfl
  have H2 := Lib.hid h2
  clear h1 h2
  go_enter Tryz.func301, Tryz.ntmps301
  go_wp2_with fail
  refine (keysA_any (some m) w).mono ?_
  rintro e w1 ⟨rfl, rfl⟩
  go_wp2_with fail
  refine (sortedA_empty m w H2.out).mono ?_
  rintro e w1 ⟨rfl, hb⟩
  have HB := Lib.hid hb
  clear hb
  go_wp2_with fail
  refine (Tryz.slices_Clone_int_nil 0 0 w1).mono ?_
  rintro e w2 ⟨rfl, rfl⟩
  go_wp2
  go_ret
  exact ⟨rfl, HB.out⟩
set_option maxHeartbeats 1000000 in
set_option maxRecDepth 100000 in
theorem ctick_empty (c t : Nat) (n : Int) (w : World) (h : CoordE w c n t) : Calls Tryz.prog 295 #[.pointer (some ⟨c, 0, none⟩)] w fun e w' => e = .returned (.slice none 0 0) ∧ Below w.heap.size w w' := by
  have H := Lib.hid h
  clear h
  go_enter Tryz.func295, Tryz.ntmps295
  go_wp2_with fail
  refine (gangs_empty c t n w H.out).mono ?_
  rintro e w1 ⟨rfl, hb⟩
  have HB := Lib.hid hb
  clear hb
  go_wp2_with fail
  have hq : ∀ w, (binOp .eql 139 (.slice none 0 0) (.slice none 0 0)).run Tryz.prog w = .ok (.bool true) w := fun w => by kernel_rfl
  refine wp_loop_rounds 1 ?_
  rw [rounds_succ]
  go_wp2
  go_ret
  exact ⟨rfl, HB.out⟩
end Go.Proofs.YtgkjlpielikecaaGreatDoor
