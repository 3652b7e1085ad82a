/- Records read again by a shard; a new shard. -/
import Derived.Test.YtofofjfmhaggmaaGreatDoorWu
set_option linter.unusedVariables false
set_option linter.unusedSimpArgs false
namespace Go.Proofs.YtofofjfmhaggmaaGreatDoor
open Go.RowKit

/-! ### Plain -/
def ShL.replay1 (h : ShL) (r : RecL) : ShL :=
  if r.kind = 1 then { h with led := h.led.put r.node }
  else if r.kind = 2 then { h with led := h.led.gone r.node.name }
  else if r.kind = 3 then { h with led := h.led.take r.gang r.places }.set r.gang (.prepared r.peers 0)
  else if r.kind = 4 then h.set r.gang .bound
  else if r.kind = 5 then h.fin r.gang .aborted
  else if r.kind = 6 then h.fin r.gang .freed
  else h
def ShL.bare (me mode : Int) (rs : List RecL) (k : Nat) : ShL := ⟨me, mode, LedL.none, [], rs, k⟩
/-- A shard made of records. -/
def ShL.made (me mode : Int) (rs : List RecL) (k : Nat) : ShL := rs.foldl ShL.replay1 (ShL.bare me mode rs k)
theorem replay1_ok {h : ShL} {r : RecL} (hok : h.led.ok) (hp : r.kind = 3 → placesB r.places) : (h.replay1 r).led.ok := by
  have hg : ∀ g, (h.led.give g).ok := fun g => LedL.give_ok hok g
  unfold ShL.replay1
  split
  · exact LedL.put_ok hok _
  split
  · exact LedL.gone_ok hok _
  split
  · exact LedL.take_ok hok _ (hp (by assumption))
  split
  · exact hok
  split
  · exact hg _
  split
  · exact hg _
  · exact hok
theorem replay1_taken {h : ShL} {r : RecL} : (h.replay1 r).led.taken.length ≤ h.led.taken.length + 1 := by
  have hg : ∀ g, (h.led.give g).taken.length ≤ h.led.taken.length + 1 := fun g => by
    unfold LedL.give
    split
    · exact Nat.le_succ_of_le (List.length_filter_le _ _)
    · exact Nat.le_succ _
  unfold ShL.replay1
  split
  · show (h.led.put _).taken.length ≤ _
    unfold LedL.put
    split <;> exact Nat.le_succ _
  split
  · show (h.led.gone _).taken.length ≤ _
    unfold LedL.gone
    split <;> exact Nat.le_succ _
  split
  · show (h.led.take _ _).taken.length ≤ _
    unfold LedL.take
    split
    · show (setK _ _ _).length ≤ _
      unfold setK
      split <;> simp
    · exact Nat.le_succ _
  split
  · exact Nat.le_succ _
  split
  · exact hg _
  split
  · exact hg _
  · exact Nat.le_succ _

/-! ### A record as a value -/
def RecM (Q : Nat → Prop) (w : World) (ea : Option Addr) (en ec : Nat) (la : Option Addr) (ln lc : Nat) (ua : Option Addr) (un uc : Nat) (xa : Option Addr) (xn xc : Nat) (r : RecL) : Prop := Rq Q w 3 1 (.slice ea en ec) r.peers.length (r.peers.map fun n : Nat => Value.int .i64 n) ∧ PlacesQ Q w (.slice la ln lc) r.places ∧ StrsQ Q w (.slice ua un uc) r.node.marks ∧ StrsQ Q w (.slice xa xn xc) r.node.taints
def RecQ (Q : Nat → Prop) (w : World) (v : Value) (r : RecL) : Prop := ∃ ea en ec la ln lc ua un uc xa xn xc, v = .agg #[.int .i64 r.kind, .int .i64 r.gang, .slice ea en ec, .slice la ln lc, .string (str r.node.name), .int .i64 r.node.cpu, .int .i64 r.node.mem, .slice ua un uc, .slice xa xn xc, .bool r.node.closed] ∧ RecM Q w ea en ec la ln lc ua un uc xa xn xc r
section
variable {Q S : Nat → Prop} {w w' : World} {v : Value} {r : RecL} {ea la ua xa : Option Addr} {en ec ln lc un uc xn xc : Nat}
theorem RecM.below (h : RecM Q w ea en ec la ln lc ua un uc xa xn xc r) (k : Below w.heap.size w w') : RecM Q w' ea en ec la ln lc ua un uc xa xn xc r := ⟨h.1.below k, Rq.below h.2.1 k, h.2.2.1.below k, h.2.2.2.below k⟩
theorem RecM.mod (h : RecM Q w ea en ec la ln lc ua un uc xa xn xc r) (k : Mod S w w') (hS : ∀ g, g < w.heap.size → S g → Q g) : RecM Q w' ea en ec la ln lc ua un uc xa xn xc r := ⟨h.1.mod k hS, Rq.mod h.2.1 k hS, h.2.2.1.mod k hS, h.2.2.2.mod k hS⟩
theorem RecQ.below (h : RecQ Q w v r) (k : Below w.heap.size w w') : RecQ Q w' v r := by
  obtain ⟨ea, en, ec, la, ln, lc, ua, un, uc, xa, xn, xc, h1, h2⟩ := h
  exact ⟨ea, en, ec, la, ln, lc, ua, un, uc, xa, xn, xc, h1, h2.below k⟩
theorem RecQ.mod (h : RecQ Q w v r) (k : Mod S w w') (hS : ∀ g, g < w.heap.size → S g → Q g) : RecQ Q w' v r := by
  obtain ⟨ea, en, ec, la, ln, lc, ua, un, uc, xa, xn, xc, h1, h2⟩ := h
  exact ⟨ea, en, ec, la, ln, lc, ua, un, uc, xa, xn, xc, h1, h2.mod k hS⟩
theorem RecM.nodeQ (h : RecM Q w ea en ec la ln lc ua un uc xa xn xc r) {sn : ByteArray} {cn mn : Int} (h1 : str r.node.name = sn) (h2 : (r.node.cpu : Int) = cn) (h3 : (r.node.mem : Int) = mn) : NodeQ Q w (.agg #[.string sn, .int .i64 cn, .int .i64 mn, .slice ua un uc, .slice xa xn xc, .bool r.node.closed]) r.node := ⟨_, _, by rw [h1, h2, h3], h.2.2.1, h.2.2.2⟩
end
/-- What is not too great of a record. -/
structure RecFew (r : RecL) : Prop where
  node : r.kind = 1 → r.node.few
  places : r.kind = 3 → placesB r.places
  peers : r.peers.length ≤ 16
theorem placesB_few {l : List PlaceL} (h : placesB l) : fewP l := ⟨h.2.1, fun x hx => ⟨(h.2.2.1 x hx).2.2.1, (h.2.2.1 x hx).2.2.2⟩⟩
set_option maxRecDepth 100000 in
set_option maxHeartbeats 4000000 in
theorem replay_any {Q : Nat → Prop} {w : World} {s l a b m t : Nat} {tv : Value} {h : ShL} (H : ShardAt Q w s l a b m t tv h) (hQ : ∀ g, Q g → g < w.heap.size) (hok : h.led.ok) (hk : h.led.taken.length ≤ 1073741824) {v : Value} {r : RecL} (hr : RecQ Q w v r) (hf : RecFew r) :
    Calls Tryz.prog 47 #[.pointer (some ⟨s, 0, none⟩), v] w fun e w' => e = .returned (.tuple #[]) ∧ ShardAt Q w' s l a b m t tv (h.replay1 r) ∧ Mod (fun g => g = a ∨ g = b ∨ g = m) w w' := by
  obtain ⟨ea, en, ec, la, ln, lc, ua, un, uc, xa, xn, xc, rfl, hr⟩ := hr
  have HR := Lib.hid hr
  have HH := Lib.hid (And.intro H (And.intro hQ (And.intro hok hf)))
  obtain ⟨kd, hkd⟩ : ∃ kd : Int, (r.kind : Int) = kd := ⟨_, rfl⟩
  obtain ⟨g, hg⟩ : ∃ g : Int, (r.gang : Int) = g := ⟨_, rfl⟩
  obtain ⟨sn, hsn⟩ : ∃ sn, str r.node.name = sn := ⟨_, rfl⟩
  obtain ⟨cn, hcn⟩ : ∃ sn, (r.node.cpu : Int) = sn := ⟨_, rfl⟩
  obtain ⟨mn, hmn⟩ : ∃ sn, (r.node.mem : Int) = sn := ⟨_, rfl⟩
  have HSN := Lib.hid (And.intro hkd (And.intro hg (And.intro hsn (And.intro hcn hmn))))
  rw [hkd, hg, hsn, hcn, hmn]
  clear H hQ hok hf hkd hg hsn hcn hmn hr
  go_enter Tryz.func47, Tryz.ntmps47
  go_upto_region 1 with fail
  have z1 := alloc_at w (.cells #[.int .i64 kd, .int .i64 g, .slice ea en ec, .slice la ln lc, .string sn, .int .i64 cn, .int .i64 mn, .slice ua un uc, .slice xa xn xc, .bool r.node.closed] 67)
  have hb1 : Below w.heap.size w (w.alloc (.cells #[.int .i64 kd, .int .i64 g, .slice ea en ec, .slice la ln lc, .string sn, .int .i64 cn, .int .i64 mn, .slice ua un uc, .slice xa xn xc, .bool r.node.closed] 67)) := below_alloc' (Below.refl _ _) _
  generalize World.alloc w _ = w1 at z1 hb1 ⊢
  have hla : w.heap.size ≠ a := by have := HH.out.1.led.lt; omega
  have hlb : w.heap.size ≠ b := by have := HH.out.1.led.lt; omega
  have hFa : ∀ w6, Mod (fun k => k = a) w1.drew w6 → w6.heap[w.heap.size]? = some (.cells #[.int .i64 kd, .int .i64 g, .slice ea en ec, .slice la ln lc, .string sn, .int .i64 cn, .int .i64 mn, .slice ua un uc, .slice xa xn xc, .bool r.node.closed] 67 (0, 0)) ∧ w6.heap[s]? = some (.cells #[.int .i64 h.me, .int .i64 h.mode, .pointer (some ⟨t, 0, none⟩), .pointer (some ⟨l, 0, none⟩), .map (some m)] 94 (0, 0)) := fun w6 hm => by
    have hqa : Q a := HH.out.1.led.qa
    exact ⟨hm.block' (w := w1.drew) z1 hla, hm.block' (w := w1.drew) (HH.out.1.below hb1).z fun e => HH.out.1.qs (e ▸ hqa)⟩
  have hFb : ∀ w6, Mod (fun k => k = b) w1.drew w6 → w6.heap[w.heap.size]? = some (.cells #[.int .i64 kd, .int .i64 g, .slice ea en ec, .slice la ln lc, .string sn, .int .i64 cn, .int .i64 mn, .slice ua un uc, .slice xa xn xc, .bool r.node.closed] 67 (0, 0)) ∧ w6.heap[s]? = some (.cells #[.int .i64 h.me, .int .i64 h.mode, .pointer (some ⟨t, 0, none⟩), .pointer (some ⟨l, 0, none⟩), .map (some m)] 94 (0, 0)) := fun w6 hm => by
    have hqb : Q b := HH.out.1.led.qb
    exact ⟨hm.block' (w := w1.drew) z1 hlb, hm.block' (w := w1.drew) (HH.out.1.below hb1).z fun e => HH.out.1.qs (e ▸ hqb)⟩
  have HFa := Lib.hid hFa
  have HFb := Lib.hid hFb
  have HB := Lib.hid hb1
  have HZ := Lib.hid z1
  have k0 := cell_of_block z1 0 (.int .i64 kd) rfl
  clear hFa hFb z1 hb1 hla hlb
  have HRP := Lib.hid (show h.replay1 r = if kd = 1 then { h with led := h.led.put r.node }
    else if kd = 2 then { h with led := h.led.gone r.node.name }
    else if kd = 3 then { h with led := h.led.take r.gang r.places }.set r.gang (.prepared r.peers 0)
    else if kd = 4 then h.set r.gang .bound
    else if kd = 5 then h.fin r.gang .aborted
    else if kd = 6 then h.fin r.gang .freed
    else h by
      have e := HSN.out.1
      have e' : ∀ c : Nat, (kd = (c : Int)) = (r.kind = c) := fun c => by rw [← e]; exact propext Int.ofNat_inj
      have h1 := e' 1; have h2 := e' 2; have h3 := e' 3; have h4 := e' 4; have h5 := e' 5; have h6 := e' 6
      unfold ShL.replay1
      simp only [show (kd = 1) = (r.kind = 1) from h1, show (kd = 2) = (r.kind = 2) from h2, show (kd = 3) = (r.kind = 3) from h3, show (kd = 4) = (r.kind = 4) from h4, show (kd = 5) = (r.kind = 5) from h5, show (kd = 6) = (r.kind = 6) from h6])
  by_cases c1 : kd = 1
  · have q1 : (kd == 1) = true := by rw [c1]; rfl
    have HKH := Lib.hid (HRP.out.trans (if_pos c1))
    have HC1 := Lib.hid c1
    clear c1
    have HN1 := Lib.hid (show r.node.few from HH.out.2.2.2.node (by have := HSN.out.1; have := HC1.out; omega))
    go_upto_region 3 with fail
    refine' Se.wp_region_pass (fun w w' => Below w.heap.size w w') (Mod (fun k => k = a)) 7 (by kernel_rfl) (by kernel_rfl) (by kernel_rfl) (by kernel_rfl) (by kernel_rfl) (by kernel_rfl)
      (fun w => Mod.refl _ w) (fun h k => Mod.trans h k) [(fun w6 => LedAt Q w6 l a b h.led ∧ RecM Q w6 ea en ec la ln lc ua un uc xa xn xc r ∧ w.heap.size ≤ w6.heap.size, 6)] [] ?_ ?_ (by simp) (fun vals => ?_)
    case refine'_2 =>
      simp only [List.forall_mem_cons]
      exact ⟨⟨HH.out.1.led.below HB.out.drew, HR.out.below HB.out.drew, HB.out.size⟩, by simp⟩
    case refine'_3 =>
      simp only [List.forall_mem_cons]
      exact ⟨fun w1 w2 k h => ⟨LedAt.below h.1 k, h.2.1.below k, Nat.le_trans h.2.2 k.size⟩, by simp⟩
    rotate_left
    simp only [List.take_succ_cons, List.take_zero, List.drop_succ_cons, List.drop_zero]
    iterate 3 (apply Se.pas_x (fun _ _ h => Mod.of_below h) rfl; (focus rfl); (focus (intro w6 hR hD hP K hK; replace hK := Lib.hid hK; skip; clear hR hD hP; go_simp; exact hK.out _ (Below.refl _ _))); simp only [Act.put, List.setIfInBounds_toArray, List.set_cons_zero, List.set_cons_succ, Nat.reduceAdd, List.cons_append, List.nil_append])
    (apply Se.pas_x (fun _ _ h => Mod.of_below h) rfl; (focus rfl); (focus (intro w6 hR hD hP K hK; replace hK := Lib.hid hK; have e0 := cell_of_block (HFa.out w6 hR).2 3 (.pointer (some ⟨l, 0, none⟩)) rfl; clear hR hD hP; go_simp; exact hK.out _ (Below.refl _ _))); simp only [Act.put, List.setIfInBounds_toArray, List.set_cons_zero, List.set_cons_succ, Nat.reduceAdd, List.cons_append, List.nil_append])
    (apply Se.pas_x (fun _ _ h => Mod.of_below h) rfl; (focus rfl); (focus (intro w6 hR hD hP K hK; replace hK := Lib.hid hK; skip; clear hR hD hP; go_simp; exact hK.out _ (Below.refl _ _))); simp only [Act.put, List.setIfInBounds_toArray, List.set_cons_zero, List.set_cons_succ, Nat.reduceAdd, List.cons_append, List.nil_append])
    (apply Se.pas_x (fun _ _ h => Mod.of_below h) rfl; (focus rfl); (focus (intro w6 hR hD hP K hK; replace hK := Lib.hid hK; obtain ⟨e0, e1, e2, e3, e4, e5, e6, e7, e8, e9⟩ := cells10 (HFa.out w6 hR).1; clear hR hD hP; go_simp; exact hK.out _ (Below.refl _ _))); simp only [Act.put, List.setIfInBounds_toArray, List.set_cons_zero, List.set_cons_succ, Nat.reduceAdd, List.cons_append, List.nil_append])
    (apply Se.pas_s (Mod (fun k => k = a)) (fun v w' => LedAt Q w' l a b (h.led.put r.node)) (fun _ _ h => h) rfl (fun v w1 w2 h k => LedAt.below h k); (focus rfl); (focus (intro w6 hR hD hP K hK; replace hK := Lib.hid hK; have hx := hP _ (List.mem_cons_self ..) (.inl rfl); have HX := Lib.hid hx; clear hD hP hR hx; go_simp; refine (lput_any Q w6 l a b h.led HX.out.1 HH.out.2.2.1 hk (fun g hg => Nat.lt_of_lt_of_le (HH.out.2.1 g hg) HX.out.2.2) _ r.node (HX.out.2.1.nodeQ HSN.out.2.2.1 HSN.out.2.2.2.1 HSN.out.2.2.2.2) HN1.out).mono ?_; rintro e w7 ⟨rfl, hL, hMd⟩; exact hK.out _ _ hMd hL)); simp only [Act.put, List.setIfInBounds_toArray, List.set_cons_zero, List.set_cons_succ, Nat.reduceAdd, List.cons_append, List.nil_append])
    refine Se.pas_ends ?_ ?_ fun w5 hR hp _ => ?_
    · simp only [Se.AllK, true_and, and_true, true_or, or_true, Nat.reduceAdd]
      done
    · simp only [Se.AllK, true_and, and_true, Nat.reduceAdd]
      intro e he
      simp only [List.mem_cons, List.not_mem_nil, or_false] at he
      subst he
      exact .inl rfl
    have hL : LedAt Q w5 l a b (h.led.put r.node) := hp 6 (by simp)
    have hm5 : Mod (fun k => k = a) w w5 := (Mod.of_below HB.out.drew).trans hR
    have HR5 := Lib.hid (HR.out.mod hm5 fun g _ e => e ▸ HH.out.1.led.qa)
    have HZ5 := Lib.hid (HFa.out w5 hR).1
    have HS5 := Lib.hid (And.intro (HH.out.1.with_ledA hL hm5) (hm5.sub (T := fun g => g = a ∨ g = b ∨ g = m) fun g _ hg => Or.inl hg))
    clear hL hm5 hp hR
    go_wp2
    go_end0
    rw [HKH.out]
    exact ⟨rfl, HS5.out.1, HS5.out.2⟩
  have n1 : (kd == 1) = false := beq_eq_false_iff_ne.2 c1
  by_cases c2 : kd = 2
  · have q2 : (kd == 2) = true := by rw [c2]; rfl
    have HKH := Lib.hid (HRP.out.trans ((if_neg c1).trans (if_pos c2)))
    clear c1 c2
    go_upto_region 5 with fail
    refine' Se.wp_region_pass (fun w w' => Below w.heap.size w w') (Mod (fun k => k = a)) 8 (by kernel_rfl) (by kernel_rfl) (by kernel_rfl) (by kernel_rfl) (by kernel_rfl) (by kernel_rfl)
      (fun w => Mod.refl _ w) (fun h k => Mod.trans h k) [(fun w6 => LedAt Q w6 l a b h.led ∧ RecM Q w6 ea en ec la ln lc ua un uc xa xn xc r ∧ w.heap.size ≤ w6.heap.size, 7)] [] ?_ ?_ (by simp) (fun vals => ?_)
    case refine'_2 =>
      simp only [List.forall_mem_cons]
      exact ⟨⟨HH.out.1.led.below HB.out.drew, HR.out.below HB.out.drew, HB.out.size⟩, by simp⟩
    case refine'_3 =>
      simp only [List.forall_mem_cons]
      exact ⟨fun w1 w2 k h => ⟨LedAt.below h.1 k, h.2.1.below k, Nat.le_trans h.2.2 k.size⟩, by simp⟩
    rotate_left
    simp only [List.take_succ_cons, List.take_zero, List.drop_succ_cons, List.drop_zero]
    iterate 3 (apply Se.pas_x (fun _ _ h => Mod.of_below h) rfl; (focus rfl); (focus (intro w6 hR hD hP K hK; replace hK := Lib.hid hK; skip; clear hR hD hP; go_simp; exact hK.out _ (Below.refl _ _))); simp only [Act.put, List.setIfInBounds_toArray, List.set_cons_zero, List.set_cons_succ, Nat.reduceAdd, List.cons_append, List.nil_append])
    (apply Se.pas_x (fun _ _ h => Mod.of_below h) rfl; (focus rfl); (focus (intro w6 hR hD hP K hK; replace hK := Lib.hid hK; have e0 := cell_of_block (HFa.out w6 hR).2 3 (.pointer (some ⟨l, 0, none⟩)) rfl; clear hR hD hP; go_simp; exact hK.out _ (Below.refl _ _))); simp only [Act.put, List.setIfInBounds_toArray, List.set_cons_zero, List.set_cons_succ, Nat.reduceAdd, List.cons_append, List.nil_append])
    iterate 2 (apply Se.pas_x (fun _ _ h => Mod.of_below h) rfl; (focus rfl); (focus (intro w6 hR hD hP K hK; replace hK := Lib.hid hK; skip; clear hR hD hP; go_simp; exact hK.out _ (Below.refl _ _))); simp only [Act.put, List.setIfInBounds_toArray, List.set_cons_zero, List.set_cons_succ, Nat.reduceAdd, List.cons_append, List.nil_append])
    (apply Se.pas_x (fun _ _ h => Mod.of_below h) rfl; (focus rfl); (focus (intro w6 hR hD hP K hK; replace hK := Lib.hid hK; obtain ⟨e0, e1, e2, e3, e4, e5, e6, e7, e8, e9⟩ := cells10 (HFa.out w6 hR).1; clear hR hD hP; go_simp; exact hK.out _ (Below.refl _ _))); simp only [Act.put, List.setIfInBounds_toArray, List.set_cons_zero, List.set_cons_succ, Nat.reduceAdd, List.cons_append, List.nil_append])
    (apply Se.pas_s (Mod (fun k => k = a)) (fun v w' => LedAt Q w' l a b (h.led.gone r.node.name)) (fun _ _ h => h) rfl (fun v w1 w2 h k => LedAt.below h k); (focus rfl); (focus (intro w6 hR hD hP K hK; replace hK := Lib.hid hK; have hx := hP _ (List.mem_cons_self ..) (.inl rfl); have HX := Lib.hid hx; clear hD hP hR hx; go_simp; refine (lgone_any Q w6 l a b h.led HX.out.1 HH.out.2.2.1 hk r.node.name HSN.out.2.2.1).mono ?_; rintro e w7 ⟨rfl, hL, hMd⟩; exact hK.out _ _ hMd hL)); simp only [Act.put, List.setIfInBounds_toArray, List.set_cons_zero, List.set_cons_succ, Nat.reduceAdd, List.cons_append, List.nil_append])
    refine Se.pas_ends ?_ ?_ fun w5 hR hp _ => ?_
    · simp only [Se.AllK, true_and, and_true, true_or, or_true, Nat.reduceAdd]
      done
    · simp only [Se.AllK, true_and, and_true, Nat.reduceAdd]
      intro e he
      simp only [List.mem_cons, List.not_mem_nil, or_false] at he
      subst he
      exact .inl rfl
    have hL : LedAt Q w5 l a b (h.led.gone r.node.name) := hp 7 (by simp)
    have hm5 : Mod (fun k => k = a) w w5 := (Mod.of_below HB.out.drew).trans hR
    have HR5 := Lib.hid (HR.out.mod hm5 fun g _ e => e ▸ HH.out.1.led.qa)
    have HZ5 := Lib.hid (HFa.out w5 hR).1
    have HS5 := Lib.hid (And.intro (HH.out.1.with_ledA hL hm5) (hm5.sub (T := fun g => g = a ∨ g = b ∨ g = m) fun g _ hg => Or.inl hg))
    clear hL hm5 hp hR
    go_wp2
    go_end0
    rw [HKH.out]
    exact ⟨rfl, HS5.out.1, HS5.out.2⟩
  have n2 : (kd == 2) = false := beq_eq_false_iff_ne.2 c2
  by_cases c3 : kd = 3
  · have q3 : (kd == 3) = true := by rw [c3]; rfl
    have HKH := Lib.hid (HRP.out.trans ((if_neg c1).trans ((if_neg c2).trans (if_pos c3))))
    have HPF := Lib.hid (placesB_few (HH.out.2.2.2.places (by have := HSN.out.1; omega)))
    clear c1 c2 c3
    go_upto_region 7 with fail
    refine' Se.wp_region_pass (fun w w' => Below w.heap.size w w') (Mod (fun k => k = b)) 9 (by kernel_rfl) (by kernel_rfl) (by kernel_rfl) (by kernel_rfl) (by kernel_rfl) (by kernel_rfl)
      (fun w => Mod.refl _ w) (fun h k => Mod.trans h k) [(fun w6 => LedAt Q w6 l a b h.led ∧ RecM Q w6 ea en ec la ln lc ua un uc xa xn xc r ∧ w.heap.size ≤ w6.heap.size, 8)] [] ?_ ?_ (by simp) (fun vals => ?_)
    case refine'_2 =>
      simp only [List.forall_mem_cons]
      exact ⟨⟨HH.out.1.led.below HB.out.drew, HR.out.below HB.out.drew, HB.out.size⟩, by simp⟩
    case refine'_3 =>
      simp only [List.forall_mem_cons]
      exact ⟨fun w1 w2 k h => ⟨LedAt.below h.1 k, h.2.1.below k, Nat.le_trans h.2.2 k.size⟩, by simp⟩
    rotate_left
    simp only [List.take_succ_cons, List.take_zero, List.drop_succ_cons, List.drop_zero]
    iterate 3 (apply Se.pas_x (fun _ _ h => Mod.of_below h) rfl; (focus rfl); (focus (intro w6 hR hD hP K hK; replace hK := Lib.hid hK; skip; clear hR hD hP; go_simp; exact hK.out _ (Below.refl _ _))); simp only [Act.put, List.setIfInBounds_toArray, List.set_cons_zero, List.set_cons_succ, Nat.reduceAdd, List.cons_append, List.nil_append])
    (apply Se.pas_x (fun _ _ h => Mod.of_below h) rfl; (focus rfl); (focus (intro w6 hR hD hP K hK; replace hK := Lib.hid hK; have e0 := cell_of_block (HFb.out w6 hR).2 3 (.pointer (some ⟨l, 0, none⟩)) rfl; clear hR hD hP; go_simp; exact hK.out _ (Below.refl _ _))); simp only [Act.put, List.setIfInBounds_toArray, List.set_cons_zero, List.set_cons_succ, Nat.reduceAdd, List.cons_append, List.nil_append])
    (apply Se.pas_x (fun _ _ h => Mod.of_below h) rfl; (focus rfl); (focus (intro w6 hR hD hP K hK; replace hK := Lib.hid hK; skip; clear hR hD hP; go_simp; exact hK.out _ (Below.refl _ _))); simp only [Act.put, List.setIfInBounds_toArray, List.set_cons_zero, List.set_cons_succ, Nat.reduceAdd, List.cons_append, List.nil_append])
    (apply Se.pas_x (fun _ _ h => Mod.of_below h) rfl; (focus rfl); (focus (intro w6 hR hD hP K hK; replace hK := Lib.hid hK; obtain ⟨e0, e1, e2, e3, e4, e5, e6, e7, e8, e9⟩ := cells10 (HFb.out w6 hR).1; clear hR hD hP; go_simp; exact hK.out _ (Below.refl _ _))); simp only [Act.put, List.setIfInBounds_toArray, List.set_cons_zero, List.set_cons_succ, Nat.reduceAdd, List.cons_append, List.nil_append])
    (apply Se.pas_x (fun _ _ h => Mod.of_below h) rfl; (focus rfl); (focus (intro w6 hR hD hP K hK; replace hK := Lib.hid hK; skip; clear hR hD hP; go_simp; exact hK.out _ (Below.refl _ _))); simp only [Act.put, List.setIfInBounds_toArray, List.set_cons_zero, List.set_cons_succ, Nat.reduceAdd, List.cons_append, List.nil_append])
    (apply Se.pas_x (fun _ _ h => Mod.of_below h) rfl; (focus rfl); (focus (intro w6 hR hD hP K hK; replace hK := Lib.hid hK; obtain ⟨e0, e1, e2, e3, e4, e5, e6, e7, e8, e9⟩ := cells10 (HFb.out w6 hR).1; clear hR hD hP; go_simp; exact hK.out _ (Below.refl _ _))); simp only [Act.put, List.setIfInBounds_toArray, List.set_cons_zero, List.set_cons_succ, Nat.reduceAdd, List.cons_append, List.nil_append])
    (apply Se.pas_s (Mod (fun k => k = b)) (fun v w' => LedAt Q w' l a b (h.led.take g r.places)) (fun _ _ h => h) rfl (fun v w1 w2 h k => LedAt.below h k); (focus rfl); (focus (intro w6 hR hD hP K hK; replace hK := Lib.hid hK; have hx := hP _ (List.mem_cons_self ..) (.inl rfl); have HX := Lib.hid hx; clear hD hP hR hx; go_simp; refine (ltake_any Q w6 l a b h.led HX.out.1 HH.out.2.2.1 hk (fun g hg => Nat.lt_of_lt_of_le (HH.out.2.1 g hg) HX.out.2.2) g _ r.places HX.out.2.1.2.1 HPF.out).mono ?_; rintro e w7 ⟨rfl, hL, hMd⟩; exact hK.out _ _ hMd hL)); simp only [Act.put, List.setIfInBounds_toArray, List.set_cons_zero, List.set_cons_succ, Nat.reduceAdd, List.cons_append, List.nil_append])
    refine Se.pas_ends ?_ ?_ fun w5 hR hp _ => ?_
    · simp only [Se.AllK, true_and, and_true, true_or, or_true, Nat.reduceAdd]
      done
    · simp only [Se.AllK, true_and, and_true, Nat.reduceAdd]
      intro e he
      simp only [List.mem_cons, List.not_mem_nil, or_false] at he
      subst he
      exact .inl rfl
    have hL : LedAt Q w5 l a b (h.led.take g r.places) := hp 8 (by simp)
    have hm5 : Mod (fun k => k = b) w w5 := (Mod.of_below HB.out.drew).trans hR
    have HR5 := Lib.hid (HR.out.mod hm5 fun g _ e => e ▸ HH.out.1.led.qb)
    have HZ5 := Lib.hid (HFb.out w5 hR).1
    have HS5 := Lib.hid (And.intro (HH.out.1.with_led hL hm5) (hm5.sub (T := fun g => g = a ∨ g = b ∨ g = m) fun g _ hg => Or.inr (Or.inl hg)))
    have HQ5 := Lib.hid (show ∀ g, Q g → g < w5.heap.size from fun g hg => Nat.lt_of_lt_of_le (HH.out.2.1 g hg) hm5.size)
    have HONE := Lib.hid (show ∀ u ∈ r.peers.map fun n : Nat => Value.int .i64 n, u.oneCell' = true from fun u hu => by obtain ⟨n, _, rfl⟩ := List.mem_map.1 hu; rfl)
    have HN5 := Lib.hid (show r.peers.length ≤ 1099511627776 by have := HH.out.2.2.2.peers; omega)
    clear hL hm5 hp hR
    go_upto_region 8 with fail
    have hfB : ∀ w6, Below w5.heap.size w5.drew w6 → Below w5.heap.size w5 w6 := fun w6 hb => (Below.refl w5.heap.size w5).drew.trans hb
    have HFB := Lib.hid hfB
    clear hfB
    refine' Par.wp_region_pars (fun w w' => Below w.heap.size w w') 11 (by kernel_rfl) (by kernel_rfl) (by kernel_rfl) (by kernel_rfl) (by kernel_rfl) (by kernel_rfl)
      (fun w => Below.refl _ w) (fun h k => below_call h k) (fun vals => ?_)
    rotate_left
    simp only [List.take_succ_cons, List.take_zero, List.drop_succ_cons, List.drop_zero]
    iterate 3 (apply Par.par_x rfl; (focus (intro w6 hR hD K hK; replace hK := Lib.hid hK; skip; clear hR hD; go_simp; exact hK.out _ (Below.refl _ _))); simp only [Act.put, List.setIfInBounds_toArray, List.set_cons_zero, List.set_cons_succ, Nat.reduceAdd, List.cons_append, List.nil_append])
    (apply Par.par_x rfl; (focus (intro w6 hR hD K hK; replace hK := Lib.hid hK; have e0 := cell_of_block (block_below HS5.out.1.z (HFB.out w6 hR)) 4 (.map (some m)) rfl; clear hR hD; go_simp; exact hK.out _ (Below.refl _ _))); simp only [Act.put, List.setIfInBounds_toArray, List.set_cons_zero, List.set_cons_succ, Nat.reduceAdd, List.cons_append, List.nil_append])
    (apply Par.par_x rfl; (focus (intro w6 hR hD K hK; replace hK := Lib.hid hK; skip; clear hR hD; go_simp; exact hK.out _ (Below.refl _ _))); simp only [Act.put, List.setIfInBounds_toArray, List.set_cons_zero, List.set_cons_succ, Nat.reduceAdd, List.cons_append, List.nil_append])
    (apply Par.par_x rfl; (focus (intro w6 hR hD K hK; replace hK := Lib.hid hK; obtain ⟨e0, e1, e2, e3, e4, e5, e6, e7, e8, e9⟩ := cells10 (block_below HZ5.out (HFB.out w6 hR)); clear hR hD; go_simp; exact hK.out _ (Below.refl _ _))); simp only [Act.put, List.setIfInBounds_toArray, List.set_cons_zero, List.set_cons_succ, Nat.reduceAdd, List.cons_append, List.nil_append])
    (apply Par.par_x rfl; (focus (intro w6 hR hD K hK; replace hK := Lib.hid hK; skip; clear hR hD; go_simp; exact hK.out _ (Below.refl _ _))); simp only [Act.put, List.setIfInBounds_toArray, List.set_cons_zero, List.set_cons_succ, Nat.reduceAdd, List.cons_append, List.nil_append])
    (apply Par.par_x rfl; (focus (intro w6 hR hD K hK; replace hK := Lib.hid hK; obtain ⟨e0, e1, e2, e3, e4, e5, e6, e7, e8, e9⟩ := cells10 (block_below HZ5.out (HFB.out w6 hR)); clear hR hD; go_simp; exact hK.out _ (Below.refl _ _))); simp only [Act.put, List.setIfInBounds_toArray, List.set_cons_zero, List.set_cons_succ, Nat.reduceAdd, List.cons_append, List.nil_append])
    (apply Par.par_r (fun v w' => Rq Q w' 3 1 v r.peers.length (r.peers.map fun n : Nat => Value.int .i64 n)) rfl (fun v w1 w2 h k => Rq.below h k); (focus (intro w6 hR hD K hK; replace hK := Lib.hid hK; have HX := Lib.hid (And.intro (HR5.out.1.below (HFB.out w6 hR)) (HFB.out w6 hR).size); clear hR hD; go_simp; refine (clone_ints w6 _ _ 0 _ HX.out.1.1 HONE.out HN5.out).mono ?_; rintro e w7 ⟨v', rfl, ho, hb⟩; exact hK.out _ _ hb (Rq.new ho fun g hg => Nat.lt_of_lt_of_le (HQ5.out g hg) HX.out.2))); simp only [Act.put, List.setIfInBounds_toArray, List.set_cons_zero, List.set_cons_succ, Nat.reduceAdd, List.cons_append, List.nil_append])
    (apply Par.par_r (fun v w' => ∃ c, v = .agg #[c, .int .i64 0] ∧ Rq Q w' 3 1 c r.peers.length (r.peers.map fun n : Nat => Value.int .i64 n)) rfl (fun v w1 w2 h k => by obtain ⟨c, h1, h2⟩ := h; exact ⟨c, h1, Rq.below h2 k⟩); (focus (intro w6 hR hD K hK; replace hK := Lib.hid hK; have h8 : Rq Q w6 3 1 (vals 8) r.peers.length (r.peers.map fun n : Nat => Value.int .i64 n) := hD 8 (by kernel_rfl); obtain ⟨ca, cc, ec⟩ := own_slicen h8.1; rw [ec] at h8; have HX := Lib.hid h8; simp only [ec] at hK ⊢; clear hR hD h8 ec; go_simp; exact hK.out _ _ (Below.refl _ _) ⟨_, rfl, HX.out⟩)); simp only [Act.put, List.setIfInBounds_toArray, List.set_cons_zero, List.set_cons_succ, Nat.reduceAdd, List.cons_append, List.nil_append])
    (apply Par.par_r (fun v w' => ∃ c, v = .iface 98 (.agg #[c, .int .i64 0]) ∧ Rq Q w' 3 1 c r.peers.length (r.peers.map fun n : Nat => Value.int .i64 n)) rfl (fun v w1 w2 h k => by obtain ⟨c, h1, h2⟩ := h; exact ⟨c, h1, Rq.below h2 k⟩); (focus (intro w6 hR hD K hK; replace hK := Lib.hid hK; obtain ⟨c, ec, h8⟩ : ∃ c, vals 9 = .agg #[c, .int .i64 0] ∧ Rq Q w6 3 1 c r.peers.length (r.peers.map fun n : Nat => Value.int .i64 n) := hD 9 (by kernel_rfl); have HX := Lib.hid h8; simp only [ec] at hK ⊢; clear hR hD h8 ec; go_simp; exact hK.out _ _ (Below.refl _ _) ⟨_, rfl, HX.out⟩)); simp only [Act.put, List.setIfInBounds_toArray, List.set_cons_zero, List.set_cons_succ, Nat.reduceAdd, List.cons_append, List.nil_append])
    refine Par.par_end fun w7 hR hp => ?_
    obtain ⟨c, ec', h8⟩ : ∃ c, vals 10 = .iface 98 (.agg #[c, .int .i64 0]) ∧ Rq Q w7 3 1 c r.peers.length (r.peers.map fun n : Nat => Value.int .i64 n) := hp 10 (by simp)
    simp only [ec']
    have hS7 := HS5.out.1.below (HFB.out w7 hR)
    obtain ⟨w8, hr8, hS8, hD8⟩ := hS7.putM g (sv := .iface 98 (.agg #[c, .int .i64 0])) (st := .prepared r.peers 0) ⟨c, rfl, h8⟩
    have HS8 := Lib.hid (And.intro hS8 ((HS5.out.2.trans (.of_below (HFB.out w7 hR))).trans (hD8.sub fun g _ hg => Or.inr (Or.inr hg))))
    clear hS7 hS8 hD8 hp hR HFB ec' h8
    go_wp2
    go_end0
    rw [HKH.out, HSN.out.2.1]
    exact ⟨rfl, HS8.out.1, HS8.out.2⟩
  have n3 : (kd == 3) = false := beq_eq_false_iff_ne.2 c3
  by_cases c4 : kd = 4
  · have q4 : (kd == 4) = true := by rw [c4]; rfl
    have HKH := Lib.hid (HRP.out.trans ((if_neg c1).trans ((if_neg c2).trans ((if_neg c3).trans (if_pos c4)))))
    clear c1 c2 c3 c4
    go_upto_region 10 with fail
    have hfB : ∀ w6, Below w1.heap.size w1.drew w6 → Below w1.heap.size w1 w6 := fun w6 hb => (Below.refl w1.heap.size w1).drew.trans hb
    have HFB := Lib.hid hfB
    clear hfB
    refine' Par.wp_region_pars (fun w w' => Below w.heap.size w w') 8 (by kernel_rfl) (by kernel_rfl) (by kernel_rfl) (by kernel_rfl) (by kernel_rfl) (by kernel_rfl)
      (fun w => Below.refl _ w) (fun h k => below_call h k) (fun vals => ?_)
    rotate_left
    simp only [List.take_succ_cons, List.take_zero, List.drop_succ_cons, List.drop_zero]
    iterate 3 (apply Par.par_x rfl; (focus (intro w6 hR hD K hK; replace hK := Lib.hid hK; skip; clear hR hD; go_simp; exact hK.out _ (Below.refl _ _))); simp only [Act.put, List.setIfInBounds_toArray, List.set_cons_zero, List.set_cons_succ, Nat.reduceAdd, List.cons_append, List.nil_append])
    (apply Par.par_x rfl; (focus (intro w6 hR hD K hK; replace hK := Lib.hid hK; have e0 := cell_of_block (HH.out.1.below (below_call HB.out (HFB.out w6 hR))).z 4 (.map (some m)) rfl; clear hR hD; go_simp; exact hK.out _ (Below.refl _ _))); simp only [Act.put, List.setIfInBounds_toArray, List.set_cons_zero, List.set_cons_succ, Nat.reduceAdd, List.cons_append, List.nil_append])
    (apply Par.par_x rfl; (focus (intro w6 hR hD K hK; replace hK := Lib.hid hK; skip; clear hR hD; go_simp; exact hK.out _ (Below.refl _ _))); simp only [Act.put, List.setIfInBounds_toArray, List.set_cons_zero, List.set_cons_succ, Nat.reduceAdd, List.cons_append, List.nil_append])
    (apply Par.par_x rfl; (focus (intro w6 hR hD K hK; replace hK := Lib.hid hK; obtain ⟨e0, e1, e2, e3, e4, e5, e6, e7, e8, e9⟩ := cells10 (block_below HZ.out (HFB.out w6 hR)); clear hR hD; go_simp; exact hK.out _ (Below.refl _ _))); simp only [Act.put, List.setIfInBounds_toArray, List.set_cons_zero, List.set_cons_succ, Nat.reduceAdd, List.cons_append, List.nil_append])
    iterate 2 (apply Par.par_x rfl; (focus (intro w6 hR hD K hK; replace hK := Lib.hid hK; skip; clear hR hD; go_simp; exact hK.out _ (Below.refl _ _))); simp only [Act.put, List.setIfInBounds_toArray, List.set_cons_zero, List.set_cons_succ, Nat.reduceAdd, List.cons_append, List.nil_append])
    refine Par.par_end fun w7 hR hp => ?_
    have hb7 := below_call HB.out (HFB.out w7 hR)
    obtain ⟨w8, hr8, hS8, hD8⟩ := (HH.out.1.below hb7).putM g (sv := .iface 100 (.agg #[])) (st := .bound) rfl
    have HS8 := Lib.hid (And.intro hS8 ((Mod.of_below (S := fun g => g = a ∨ g = b ∨ g = m) hb7).trans (hD8.sub fun g _ hg => Or.inr (Or.inr hg))))
    clear hS8 hD8 hp hR HFB hb7
    go_wp2
    go_end0
    rw [HKH.out, HSN.out.2.1]
    exact ⟨rfl, HS8.out.1, HS8.out.2⟩
  have n4 : (kd == 4) = false := beq_eq_false_iff_ne.2 c4
  obtain ⟨k0, k1, k2, k3, k4, k5, k6, k7, k8, k9⟩ := cells10 HZ.out
  by_cases c5 : kd = 5
  · have q5 : (kd == 5) = true := by rw [c5]; rfl
    have HKH := Lib.hid (HRP.out.trans ((if_neg c1).trans ((if_neg c2).trans ((if_neg c3).trans ((if_neg c4).trans (if_pos c5))))))
    clear c1 c2 c3 c4 c5
    go_wp2_with fail
    refine (end_fin (HH.out.1.below HB.out) g (.iface 101 (.agg #[])) .aborted (fun _ => rfl) rfl).mono ?_
    rintro e w2 ⟨rfl, hS, hD⟩
    have HS5 := Lib.hid (And.intro hS ((Mod.of_below (S := fun g => g = a ∨ g = b ∨ g = m) HB.out).trans (hD.sub fun g _ hg => Or.inr hg)))
    clear hS hD
    go_wp2
    go_end0
    rw [HKH.out, HSN.out.2.1]
    exact ⟨rfl, HS5.out.1, HS5.out.2⟩
  have n5 : (kd == 5) = false := beq_eq_false_iff_ne.2 c5
  by_cases c6 : kd = 6
  · have q6 : (kd == 6) = true := by rw [c6]; rfl
    have HKH := Lib.hid (HRP.out.trans ((if_neg c1).trans ((if_neg c2).trans ((if_neg c3).trans ((if_neg c4).trans ((if_neg c5).trans (if_pos c6)))))))
    clear c1 c2 c3 c4 c5 c6
    go_wp2_with fail
    refine (end_fin (HH.out.1.below HB.out) g (.iface 102 (.agg #[])) .freed (fun _ => rfl) rfl).mono ?_
    rintro e w2 ⟨rfl, hS, hD⟩
    have HS5 := Lib.hid (And.intro hS ((Mod.of_below (S := fun g => g = a ∨ g = b ∨ g = m) HB.out).trans (hD.sub fun g _ hg => Or.inr hg)))
    clear hS hD
    go_wp2
    go_end0
    rw [HKH.out, HSN.out.2.1]
    exact ⟨rfl, HS5.out.1, HS5.out.2⟩
  have n6 : (kd == 6) = false := beq_eq_false_iff_ne.2 c6
  have HKH := Lib.hid (HRP.out.trans ((if_neg c1).trans ((if_neg c2).trans ((if_neg c3).trans ((if_neg c4).trans ((if_neg c5).trans (if_neg c6)))))))
  clear c1 c2 c3 c4 c5 c6
  go_wp2
  go_end0
  rw [HKH.out]
  exact ⟨rfl, HH.out.1.below HB.out, .of_below HB.out⟩
end Go.Proofs.YtofofjfmhaggmaaGreatDoor
