/- A pod as a text, by play. -/
import Derived.Test.YtoekofanmgdbmaaGreatDoorJb
import Derived.Test.YtoekofanmgdbmaaGreatDoorTg
set_option linter.unusedVariables false
set_option linter.unusedSimpArgs false
namespace Go.Proofs.YtoekofanmgdbmaaGreatDoor
open Go.RowKit

theorem rowT_app (c : UInt8) (a b : List (List UInt8)) : rowT c (a ++ b) = rowT c a ++ rowT c b := by simp [rowT]
theorem rowT_next {c : UInt8} {ls : List (List UInt8)} {i : Nat} (h : i < ls.length) : rowT c (ls.take (i + 1)) = rowT c (ls.take i) ++ c :: ls[i] := by
  rw [List.take_succ_eq_append_getElem h, rowT_app]
  simp [rowT]
theorem rowT_le (c : UInt8) (ls : List (List UInt8)) (i : Nat) : (rowT c (ls.take i)).length ≤ (rowT c ls).length := by
  have h := congrArg List.length (rowT_app c (ls.take i) (ls.drop i))
  rw [List.take_append_drop, List.length_append] at h
  omega
/-- A pod's text up to its signs. -/
def headT (p : PodL) : List UInt8 := p.name ++ 64 :: (Lib.decDigits p.shard ++ 58 :: vecT p.cpu p.mem)
theorem podT_head (p : PodL) : podT p = headT p ++ (rowT 43 p.picks ++ (rowT 126 p.bears ++ flagT p.alone)) := by simp [podT, headT, tailT]
theorem dec_len' (k : Nat) (h : k ≤ 9223372036854775807) : (Lib.decDigits k).length ≤ 21 := by
  have := Lib.itoa_length_le k (by omega) (by omega)
  rwa [Lib.itoa_nonneg] at this
theorem itoa_nat (w : World) (ht : Tabs w) (n : Nat) (hn : n ≤ 9223372036854775807) : Calls Tryz.prog 32 #[.int .i64 n] w fun e w' => e = .returned (.string (str (Lib.decDigits n))) ∧ Below w.heap.size w w' := by
  refine (itoa_any w ht n ⟨by omega, by omega⟩).mono ?_
  rw [Lib.itoa_nonneg]
  exact fun e w' h => h
theorem head_str (p : PodL) : str p.name ++ (⟨#[64]⟩ : ByteArray) ++ str (Lib.decDigits p.shard) ++ (⟨#[58]⟩ : ByteArray) ++ str (Lib.decDigits p.cpu) ++ (⟨#[44]⟩ : ByteArray) ++ str (Lib.decDigits p.mem) = str (headT p) := by
  rw [show (⟨#[64]⟩ : ByteArray) = str [64] from rfl, show (⟨#[58]⟩ : ByteArray) = str [58] from rfl, show (⟨#[44]⟩ : ByteArray) = str [44] from rfl]
  simp only [str_append]
  congr 1
  simp [headT, vecT]
set_option maxHeartbeats 4000000 in
set_option maxRecDepth 100000 in
theorem told_any (base : Nat) (cs : List Value) (p : PodL) (w : World) (ht : Tabs w) (hp : PodT base w cs p) (h1 : p.shard ≤ 999999) (h2 : p.cpu ≤ 1099511627776) (h3 : p.mem ≤ 1099511627776) (hl : (podT p).length ≤ 4294967000) :
    Calls Tryz.prog 35 #[.agg cs.toArray] w fun e w' => e = .returned (.string (str (podT p))) ∧ Below w.heap.size w w' := by
  have HT := Lib.hid ht
  obtain ⟨u, v, rfl, hu, hv⟩ := hp
  obtain ⟨au, cu, rfl, fu, gu⟩ := hu
  obtain ⟨av, cv, rfl, fv, gv⟩ := hv
  have HL := Lib.hid hl
  have hlen := congrArg List.length (podT_head p)
  simp only [List.length_append] at hlen
  have HLEN := Lib.hid hlen
  have HGU := Lib.hid gu
  have HGV := Lib.hid gv
  have HFU := Lib.hid fu
  have HFV := Lib.hid fv
  have H1 := Lib.hid h1
  have H2 := Lib.hid h2
  have H3 := Lib.hid h3
  obtain ⟨zn, hzn⟩ : ∃ z, str p.name = z := ⟨_, rfl⟩
  have hns : zn.size ≤ 4294967000 := by
    rw [← hzn, str_size]
    have : (headT p).length = p.name.length + (1 + ((Lib.decDigits p.shard).length + (1 + (vecT p.cpu p.mem).length))) := by simp [headT]; omega
    omega
  rw [hzn]
  have HZN := Lib.hid hzn
  obtain ⟨nu, hnu⟩ : ∃ n, p.picks.length = n := ⟨_, rfl⟩
  obtain ⟨nv, hnv⟩ : ∃ n, p.bears.length = n := ⟨_, rfl⟩
  rw [hnu, hnv]
  have HNU := Lib.hid hnu
  have HNV := Lib.hid hnv
  have hub : nu ≤ 4294967281 := by rw [← hnu]; exact Nat.le_trans fu.1 (by omega)
  have hvb : nv ≤ 4294967281 := by rw [← hnv]; exact Nat.le_trans fv.1 (by omega)
  obtain ⟨k1, hk1⟩ : ∃ k, p.shard = k := ⟨_, rfl⟩
  obtain ⟨k2, hk2⟩ : ∃ k, p.cpu = k := ⟨_, rfl⟩
  obtain ⟨k3, hk3⟩ : ∃ k, p.mem = k := ⟨_, rfl⟩
  obtain ⟨fl, hfl⟩ : ∃ k, p.alone = k := ⟨_, rfl⟩
  rw [hk1, hk2, hk3, hfl]
  have HK1 := Lib.hid hk1
  have HK2 := Lib.hid hk2
  have HK3 := Lib.hid hk3
  have HFL := Lib.hid hfl
  clear ht gu gv fu fv hl hlen h1 h2 h3 hzn hnu hnv hk1 hk2 hk3 hfl
  go_enter Tryz.func35, Tryz.ntmps35
  go_wp2_with fail
  have hz1 : (w.alloc (.cells #[.string zn, .int .i64 k1, .int .i64 k2, .int .i64 k3, .slice au nu cu, .slice av nv cv, .bool fl] 57)).heap[w.heap.size]? = some (.cells #[.string zn, .int .i64 k1, .int .i64 k2, .int .i64 k3, .slice au nu cu, .slice av nv cv, .bool fl] 57 (0, 0)) := alloc_at _ _
  have hb1 : Below w.heap.size w (w.alloc (.cells #[.string zn, .int .i64 k1, .int .i64 k2, .int .i64 k3, .slice au nu cu, .slice av nv cv, .bool fl] 57)) := below_alloc' (Below.refl _ _) _
  generalize World.alloc w _ = w1 at hz1 hb1 ⊢
  obtain ⟨d1, hd1⟩ : ∃ d, str (Lib.decDigits k1) = d := ⟨_, rfl⟩
  obtain ⟨d2, hd2⟩ : ∃ d, str (Lib.decDigits k2) = d := ⟨_, rfl⟩
  obtain ⟨d3, hd3⟩ : ∃ d, str (Lib.decDigits k3) = d := ⟨_, rfl⟩
  have l1 : d1.size ≤ 21 := by rw [← hd1, str_size]; exact dec_len' k1 (by have := H1.out; rw [HK1.out] at this; omega)
  have l2 : d2.size ≤ 21 := by rw [← hd2, str_size]; exact dec_len' k2 (by have := H2.out; rw [HK2.out] at this; omega)
  have l3 : d3.size ≤ 21 := by rw [← hd3, str_size]; exact dec_len' k3 (by have := H3.out; rw [HK3.out] at this; omega)
  have a1 : ¬ 9223372036854775807 < zn.size + 1 := by omega
  have a2 : ¬ 9223372036854775807 < zn.size + 1 + d1.size := by omega
  have a3 : ¬ 9223372036854775807 < zn.size + 1 + d1.size + 1 := by omega
  have a4 : ¬ 9223372036854775807 < zn.size + 1 + d1.size + 1 + d2.size := by omega
  have a5 : ¬ 9223372036854775807 < zn.size + 1 + d1.size + 1 + d2.size + 1 := by omega
  have a6 : ¬ 9223372036854775807 < zn.size + 1 + d1.size + 1 + d2.size + 1 + d3.size := by omega
  have HD1 := Lib.hid hd1
  have HD2 := Lib.hid hd2
  have HD3 := Lib.hid hd3
  have hs : ∀ w6, Below w1.drew.heap.size w1.drew w6 → w6.cell? ⟨w.heap.size, 0, none⟩ = some (.string zn) ∧ w6.cell? ⟨w.heap.size, 1, none⟩ = some (.int .i64 k1) ∧ w6.cell? ⟨w.heap.size, 2, none⟩ = some (.int .i64 k2) ∧ w6.cell? ⟨w.heap.size, 3, none⟩ = some (.int .i64 k3) := fun w6 h => by
    have hz := block_below (w := w1.drew) hz1 h
    exact ⟨cell_of_block hz 0 _ rfl, cell_of_block hz 1 _ rfl, cell_of_block hz 2 _ rfl, cell_of_block hz 3 _ rfl⟩
  have HS := Lib.hid hs
  have HB1 := Lib.hid hb1
  have HZ1 := Lib.hid hz1
  clear hd1 hd2 hd3 hs hb1 hz1
  go_wp2_with fail
  refine' Par.wp_region_pars (fun w w' => Below w.heap.size w w') 20 (by kernel_rfl) (by kernel_rfl) (by kernel_rfl) (by kernel_rfl) (by kernel_rfl) (by kernel_rfl)
    (fun w => Below.refl _ w) (fun h k => below_call h k) (fun vals => ?_)
  rotate_left
  simp only [List.take_succ_cons, List.take_zero, List.drop_succ_cons, List.drop_zero]
  (apply Par.par_x rfl; (focus (intro w6 hR hD K hK; replace hK := Lib.hid hK; obtain ⟨e0, e1, e2, e3⟩ := HS.out w6 hR; clear hR hD; go_simp; exact hK.out _ (Below.refl _ _))); simp only [Act.put, List.setIfInBounds_toArray, List.set_cons_zero, List.set_cons_succ, Nat.reduceAdd, List.cons_append, List.nil_append])
  (apply Par.par_x rfl; (focus (intro w6 hR hD K hK; replace hK := Lib.hid hK; obtain ⟨e0, e1, e2, e3⟩ := HS.out w6 hR; clear hR hD; go_simp; exact hK.out _ (Below.refl _ _))); simp only [Act.put, List.setIfInBounds_toArray, List.set_cons_zero, List.set_cons_succ, Nat.reduceAdd, List.cons_append, List.nil_append])
  (apply Par.par_x rfl; (focus (intro w6 hR hD K hK; replace hK := Lib.hid hK; skip; clear hR hD; go_simp; exact hK.out _ (Below.refl _ _))); simp only [Act.put, List.setIfInBounds_toArray, List.set_cons_zero, List.set_cons_succ, Nat.reduceAdd, List.cons_append, List.nil_append])
  (apply Par.par_x rfl; (focus (intro w6 hR hD K hK; replace hK := Lib.hid hK; obtain ⟨e0, e1, e2, e3⟩ := HS.out w6 hR; clear hR hD; go_simp; exact hK.out _ (Below.refl _ _))); simp only [Act.put, List.setIfInBounds_toArray, List.set_cons_zero, List.set_cons_succ, Nat.reduceAdd, List.cons_append, List.nil_append])
  (apply Par.par_x rfl; (focus (intro w6 hR hD K hK; replace hK := Lib.hid hK; obtain ⟨e0, e1, e2, e3⟩ := HS.out w6 hR; clear hR hD; go_simp; exact hK.out _ (Below.refl _ _))); simp only [Act.put, List.setIfInBounds_toArray, List.set_cons_zero, List.set_cons_succ, Nat.reduceAdd, List.cons_append, List.nil_append])
  (apply Par.par_x rfl; (focus (intro w6 hR hD K hK; replace hK := Lib.hid hK; have htb := HT.out.below (below_call HB1.out.drew hR); clear hR hD; go_simp; refine (itoa_nat w6 htb k1 (by have := H1.out; rw [HK1.out] at this; omega)).mono ?_; rw [HD1.out]; rintro r w7 ⟨rfl, hb⟩; exact hK.out _ hb)); simp only [Act.put, List.setIfInBounds_toArray, List.set_cons_zero, List.set_cons_succ, Nat.reduceAdd, List.cons_append, List.nil_append])
  (apply Par.par_x rfl; (focus (intro w6 hR hD K hK; replace hK := Lib.hid hK; skip; clear hR hD; go_simp; exact hK.out _ (Below.refl _ _))); simp only [Act.put, List.setIfInBounds_toArray, List.set_cons_zero, List.set_cons_succ, Nat.reduceAdd, List.cons_append, List.nil_append])
  (apply Par.par_x rfl; (focus (intro w6 hR hD K hK; replace hK := Lib.hid hK; skip; clear hR hD; go_simp; exact hK.out _ (Below.refl _ _))); simp only [Act.put, List.setIfInBounds_toArray, List.set_cons_zero, List.set_cons_succ, Nat.reduceAdd, List.cons_append, List.nil_append])
  (apply Par.par_x rfl; (focus (intro w6 hR hD K hK; replace hK := Lib.hid hK; obtain ⟨e0, e1, e2, e3⟩ := HS.out w6 hR; clear hR hD; go_simp; exact hK.out _ (Below.refl _ _))); simp only [Act.put, List.setIfInBounds_toArray, List.set_cons_zero, List.set_cons_succ, Nat.reduceAdd, List.cons_append, List.nil_append])
  (apply Par.par_x rfl; (focus (intro w6 hR hD K hK; replace hK := Lib.hid hK; obtain ⟨e0, e1, e2, e3⟩ := HS.out w6 hR; clear hR hD; go_simp; exact hK.out _ (Below.refl _ _))); simp only [Act.put, List.setIfInBounds_toArray, List.set_cons_zero, List.set_cons_succ, Nat.reduceAdd, List.cons_append, List.nil_append])
  (apply Par.par_x rfl; (focus (intro w6 hR hD K hK; replace hK := Lib.hid hK; obtain ⟨e0, e1, e2, e3⟩ := HS.out w6 hR; clear hR hD; go_simp; exact hK.out _ (Below.refl _ _))); simp only [Act.put, List.setIfInBounds_toArray, List.set_cons_zero, List.set_cons_succ, Nat.reduceAdd, List.cons_append, List.nil_append])
  (apply Par.par_x rfl; (focus (intro w6 hR hD K hK; replace hK := Lib.hid hK; have htb := HT.out.below (below_call HB1.out.drew hR); clear hR hD; go_simp; refine (itoa_nat w6 htb k2 (by have := H2.out; rw [HK2.out] at this; omega)).mono ?_; rw [HD2.out]; rintro r w7 ⟨rfl, hb⟩; exact hK.out _ hb)); simp only [Act.put, List.setIfInBounds_toArray, List.set_cons_zero, List.set_cons_succ, Nat.reduceAdd, List.cons_append, List.nil_append])
  (apply Par.par_x rfl; (focus (intro w6 hR hD K hK; replace hK := Lib.hid hK; skip; clear hR hD; go_simp; exact hK.out _ (Below.refl _ _))); simp only [Act.put, List.setIfInBounds_toArray, List.set_cons_zero, List.set_cons_succ, Nat.reduceAdd, List.cons_append, List.nil_append])
  (apply Par.par_x rfl; (focus (intro w6 hR hD K hK; replace hK := Lib.hid hK; skip; clear hR hD; go_simp; exact hK.out _ (Below.refl _ _))); simp only [Act.put, List.setIfInBounds_toArray, List.set_cons_zero, List.set_cons_succ, Nat.reduceAdd, List.cons_append, List.nil_append])
  (apply Par.par_x rfl; (focus (intro w6 hR hD K hK; replace hK := Lib.hid hK; obtain ⟨e0, e1, e2, e3⟩ := HS.out w6 hR; clear hR hD; go_simp; exact hK.out _ (Below.refl _ _))); simp only [Act.put, List.setIfInBounds_toArray, List.set_cons_zero, List.set_cons_succ, Nat.reduceAdd, List.cons_append, List.nil_append])
  (apply Par.par_x rfl; (focus (intro w6 hR hD K hK; replace hK := Lib.hid hK; obtain ⟨e0, e1, e2, e3⟩ := HS.out w6 hR; clear hR hD; go_simp; exact hK.out _ (Below.refl _ _))); simp only [Act.put, List.setIfInBounds_toArray, List.set_cons_zero, List.set_cons_succ, Nat.reduceAdd, List.cons_append, List.nil_append])
  (apply Par.par_x rfl; (focus (intro w6 hR hD K hK; replace hK := Lib.hid hK; obtain ⟨e0, e1, e2, e3⟩ := HS.out w6 hR; clear hR hD; go_simp; exact hK.out _ (Below.refl _ _))); simp only [Act.put, List.setIfInBounds_toArray, List.set_cons_zero, List.set_cons_succ, Nat.reduceAdd, List.cons_append, List.nil_append])
  (apply Par.par_x rfl; (focus (intro w6 hR hD K hK; replace hK := Lib.hid hK; have htb := HT.out.below (below_call HB1.out.drew hR); clear hR hD; go_simp; refine (itoa_nat w6 htb k3 (by have := H3.out; rw [HK3.out] at this; omega)).mono ?_; rw [HD3.out]; rintro r w7 ⟨rfl, hb⟩; exact hK.out _ hb)); simp only [Act.put, List.setIfInBounds_toArray, List.set_cons_zero, List.set_cons_succ, Nat.reduceAdd, List.cons_append, List.nil_append])
  (apply Par.par_x rfl; (focus (intro w6 hR hD K hK; replace hK := Lib.hid hK; skip; clear hR hD; go_simp; exact hK.out _ (Below.refl _ _))); simp only [Act.put, List.setIfInBounds_toArray, List.set_cons_zero, List.set_cons_succ, Nat.reduceAdd, List.cons_append, List.nil_append])
  (apply Par.par_x rfl; (focus (intro w6 hR hD K hK; replace hK := Lib.hid hK; skip; clear hR hD; go_simp; exact hK.out _ (Below.refl _ _))); simp only [Act.put, List.setIfInBounds_toArray, List.set_cons_zero, List.set_cons_succ, Nat.reduceAdd, List.cons_append, List.nil_append])
  refine Par.par_end fun w6 hR hp => ?_
  clear hp
  have HB6 := Lib.hid (below_call HB1.out.drew hR)
  have HZ6 := Lib.hid (block_below (w := w1.drew) HZ1.out hR)
  clear hR HS
  have hcat : zn ++ (⟨#[64]⟩ : ByteArray) ++ d1 ++ (⟨#[58]⟩ : ByteArray) ++ d2 ++ (⟨#[44]⟩ : ByteArray) ++ d3 = str (headT p) := by
    rw [← HZN.out, ← HD1.out, ← HD2.out, ← HD3.out, ← HK1.out, ← HK2.out, ← HK3.out]
    exact head_str p
  rw [hcat]
  clear hcat a1 a2 a3 a4 a5 a6 l1 l2 l3 hns
  have hq4 := cell_of_block HZ6.out 4 _ rfl
  have hq5 := cell_of_block HZ6.out 5 _ rfl
  have hq6 := cell_of_block HZ6.out 6 _ rfl
  have HU6 := Lib.hid (fun i (hi : i < p.picks.length) => by
    obtain ⟨b, off, cs, e1, _, e3, e4⟩ := HGU.out i hi
    exact (⟨b, off, e1, cell_of_block (block_below e3 HB6.out) _ _ e4⟩ : ∃ b off, au = some ⟨b, off, none⟩ ∧ w6.cell? ⟨b, off + i, none⟩ = some (.string (str p.picks[i]))))
  have HV6 := Lib.hid (fun i (hi : i < p.bears.length) => by
    obtain ⟨b, off, cs, e1, _, e3, e4⟩ := HGV.out i hi
    exact (⟨b, off, e1, cell_of_block (block_below e3 HB6.out) _ _ e4⟩ : ∃ b off, av = some ⟨b, off, none⟩ ∧ w6.cell? ⟨b, off + i, none⟩ = some (.string (str p.bears[i]))))
  go_wp2_with fail
  go_loopw [3, 30] (fun u x wr => ∃ i : Nat, x = .int .i64 i ∧ i ≤ nu ∧ u = .string (str (headT p ++ rowT 43 (p.picks.take i))) ∧ wr = w6) (fun _ x _ => nu - (intOf x).toNat)
  case atStart => exact ⟨0, rfl, Nat.zero_le _, by simp [rowT], rfl⟩
  case round =>
    obtain ⟨i, rfl, hi, rfl, rfl⟩ := hrel
    by_cases hin : i < nu
    · have hil : i < p.picks.length := by rw [HNU.out]; exact hin
      have hin' : (i : Int) < nu := by omega
      obtain ⟨b, off, rfl, hc⟩ := HU6.out i hil
      have hnx := rowT_next (c := 43) hil
      have hle := rowT_le 43 p.picks (i + 1)
      rw [hnx, List.length_append] at hle
      have htot := HLEN.out
      have hll := HL.out
      obtain ⟨t1, ht1⟩ : ∃ z, str (headT p ++ rowT 43 (p.picks.take i)) = z := ⟨_, rfl⟩
      obtain ⟨t2, ht2⟩ : ∃ z, str p.picks[i] = z := ⟨_, rfl⟩
      have s1 : t1.size = (headT p).length + (rowT 43 (p.picks.take i)).length := by rw [← ht1, str_size, List.length_append]
      have s2 : t2.size = p.picks[i].length := by rw [← ht2, str_size]
      have s3 : ¬ 9223372036854775807 < 1 + t2.size := by simp at hle; omega
      have s4 : ¬ 9223372036854775807 < t1.size + (1 + t2.size) := by simp at hle; omega
      rw [ht1]
      rw [ht2] at hc
      have HT1 := Lib.hid ht1
      have HT2 := Lib.hid ht2
      have HNX := Lib.hid hnx
      clear hnx hle htot hll ht1 ht2 s1 s2
      go_wp2_with fail
      go_roundw
      case rel =>
        refine ⟨i + 1, by go_num, by omega, ?_, trivial⟩
        rw [HNX.out, ← HT1.out, ← HT2.out, show (⟨#[43]⟩ : ByteArray) = str [43] from rfl, str_append, str_append]
        simp
      case measure => simp [intOf]; omega
    · have hie : i = nu := by omega
      subst hie
      have htk : p.picks.take i = p.picks := by rw [← HNU.out, List.take_length]
      rw [htk]
      have hin' : ¬ (i : Int) < i := by omega
      go_wp2_with fail
      go_loopw [3, 42] (fun u x w8 => ∃ i : Nat, x = .int .i64 i ∧ i ≤ nv ∧ u = .string (str (headT p ++ rowT 43 p.picks ++ rowT 126 (p.bears.take i))) ∧ w8 = wr) (fun _ x _ => nv - (intOf x).toNat)
      case atStart => exact ⟨0, rfl, Nat.zero_le _, by simp [rowT], rfl⟩
      case round =>
        obtain ⟨q, rfl, hq, rfl, rfl⟩ := hrel
        by_cases hqn : q < nv
        · have hql : q < p.bears.length := by rw [HNV.out]; exact hqn
          have hqn' : (q : Int) < nv := by omega
          obtain ⟨b, off, rfl, hc⟩ := HV6.out q hql
          have hnx := rowT_next (c := 126) hql
          have hle := rowT_le 126 p.bears (q + 1)
          rw [hnx, List.length_append] at hle
          have htot := HLEN.out
          have hll := HL.out
          obtain ⟨t1, ht1⟩ : ∃ z, str (headT p ++ rowT 43 p.picks ++ rowT 126 (p.bears.take q)) = z := ⟨_, rfl⟩
          obtain ⟨t2, ht2⟩ : ∃ z, str p.bears[q] = z := ⟨_, rfl⟩
          have s1 : t1.size = (headT p).length + (rowT 43 p.picks).length + (rowT 126 (p.bears.take q)).length := by rw [← ht1, str_size, List.length_append, List.length_append]
          have s2 : t2.size = p.bears[q].length := by rw [← ht2, str_size]
          have s3 : ¬ 9223372036854775807 < 1 + t2.size := by simp at hle; omega
          have s4 : ¬ 9223372036854775807 < t1.size + (1 + t2.size) := by simp at hle; omega
          rw [ht1]
          rw [ht2] at hc
          have HT1 := Lib.hid ht1
          have HT2 := Lib.hid ht2
          have HNX := Lib.hid hnx
          clear hnx hle htot hll ht1 ht2 s1 s2
          go_wp2_with fail
          go_roundw
          case rel =>
            refine ⟨q + 1, by go_num, by omega, ?_, trivial⟩
            rw [HNX.out, ← HT1.out, ← HT2.out, show (⟨#[126]⟩ : ByteArray) = str [126] from rfl, str_append, str_append]
            simp
          case measure => simp [intOf]; omega
        · have hqe : q = nv := by omega
          subst hqe
          have htk2 : p.bears.take q = p.bears := by rw [← HNV.out, List.take_length]
          rw [htk2]
          have hqn' : ¬ (q : Int) < q := by omega
          have htot := HLEN.out
          have hll := HL.out
          obtain ⟨t1, ht1⟩ : ∃ z, str (headT p ++ rowT 43 p.picks ++ rowT 126 p.bears) = z := ⟨_, rfl⟩
          have s1 : t1.size ≤ 4294967000 := by rw [← ht1, str_size, List.length_append, List.length_append]; omega
          have HT1 := Lib.hid ht1
          rw [ht1]
          clear htot hll ht1
          cases fl
          · go_wp2_with fail
            go_ret
            refine ⟨ret_str ?_, HB6.out⟩
            rw [podT_head, ← HT1.out, HFL.out]
            simp [flagT]
          · go_wp2_with fail
            go_ret
            refine ⟨ret_str ?_, HB6.out⟩
            rw [podT_head, ← HT1.out, HFL.out, show (⟨#[33]⟩ : ByteArray) = str [33] from rfl, str_append]
            simp [flagT]
end Go.Proofs.YtoekofanmgdbmaaGreatDoor
