/- The reference's texts of a node, of a pod; its words. -/
import Derived.Test.YtikamehjeaoilaaGreatDoorKd
set_option linter.unusedVariables false
set_option linter.unusedSimpArgs false
namespace Go.Proofs.YtikamehjeaoilaaGreatDoor
open Go.RowKit

theorem pod_str (p : PodL) : str p.name ++ (⟨#[64]⟩ : ByteArray) ++ str (Lib.decDigits p.shard) ++ (⟨#[58]⟩ : ByteArray) ++ str (vecT p.cpu p.mem) ++ str (rowT 43 p.picks) ++ str (rowT 126 p.bears) ++ str (flagT p.alone) = str (podT p) := by
  rw [show (⟨#[58]⟩ : ByteArray) = str [58] from rfl, show (⟨#[64]⟩ : ByteArray) = str [64] from rfl]
  simp only [str_append]
  congr 1
  simp [podT, tailT]
set_option maxHeartbeats 8000000 in
set_option maxRecDepth 1000000 in
theorem rnode_any (n : NodeL) (u x : Value) (w : World) (hu : Rows w u n.marks) (hx : Rows w x n.taints) (h2 : n.cpu ≤ 9223372036854775807) (h3 : n.mem ≤ 9223372036854775807) (hl : (nodeT n).length ≤ 4294967000) :
    Calls Tryz.prog 18 #[.agg #[.string (str n.name), .int .i64 n.cpu, .int .i64 n.mem, u, x, .bool n.closed]] w fun e w' => e = .returned (.string (str (nodeT n))) ∧ Below w.heap.size w w' := by
  obtain ⟨au, cu, rfl, hul, hcu⟩ := id hu
  obtain ⟨ax, cx, rfl, hxl, hcx⟩ := id hx
  have HU := Lib.hid hu
  have HX := Lib.hid hx
  have hlen : (nodeT n).length = n.name.length + (1 + ((vecT n.cpu n.mem).length + ((rowT 43 n.marks).length + ((rowT 126 n.taints).length + (flagT n.closed).length)))) := by simp [nodeT, tailT]; omega
  obtain ⟨zn, hzn⟩ : ∃ z, str n.name = z := ⟨_, rfl⟩
  obtain ⟨zv, hzv⟩ : ∃ z, str (vecT n.cpu n.mem) = z := ⟨_, rfl⟩
  obtain ⟨zm, hzm⟩ : ∃ z, str (rowT 43 n.marks) = z := ⟨_, rfl⟩
  obtain ⟨zt, hzt⟩ : ∃ z, str (rowT 126 n.taints) = z := ⟨_, rfl⟩
  obtain ⟨zf, hzf⟩ : ∃ z, str (flagT n.closed) = z := ⟨_, rfl⟩
  have s0 : zn.size = n.name.length := by rw [← hzn, str_size]
  have s1 : zv.size = (vecT n.cpu n.mem).length := by rw [← hzv, str_size]
  have s2 : zm.size = (rowT 43 n.marks).length := by rw [← hzm, str_size]
  have s3 : zt.size = (rowT 126 n.taints).length := by rw [← hzt, str_size]
  have s4 : zf.size = (flagT n.closed).length := by rw [← hzf, str_size]
  have a1 : ¬ 9223372036854775807 < zn.size + 1 := by omega
  have a2 : ¬ 9223372036854775807 < zn.size + 1 + zv.size := by omega
  have a3 : ¬ 9223372036854775807 < zn.size + 1 + zv.size + zm.size := by omega
  have a4 : ¬ 9223372036854775807 < zn.size + 1 + zv.size + zm.size + zt.size := by omega
  have a5 : ¬ 9223372036854775807 < zn.size + 1 + zv.size + zm.size + zt.size + zf.size := by omega
  have HLU := Lib.hid (show (rowT 43 n.marks).length ≤ 4294967000 by omega)
  have HLX := Lib.hid (show (rowT 126 n.taints).length ≤ 4294967000 by omega)
  have hcat : zn ++ (⟨#[58]⟩ : ByteArray) ++ zv ++ zm ++ zt ++ zf = str (nodeT n) := by rw [← hzn, ← hzv, ← hzm, ← hzt, ← hzf]; exact node_str n
  have HCAT := Lib.hid hcat
  obtain ⟨n2, hn2⟩ : ∃ k, n.cpu = k := ⟨_, rfl⟩
  obtain ⟨n3, hn3⟩ : ∃ k, n.mem = k := ⟨_, rfl⟩
  obtain ⟨fl, hfl⟩ : ∃ k, n.closed = k := ⟨_, rfl⟩
  obtain ⟨nu, hnu⟩ : ∃ k, n.marks.length = k := ⟨_, rfl⟩
  obtain ⟨nx, hnx⟩ : ∃ k, n.taints.length = k := ⟨_, rfl⟩
  rw [hn2, hn3] at hzv
  rw [hn2] at h2
  rw [hn3] at h3
  rw [hfl] at hzf
  rw [hzn, hn2, hn3, hfl, hnu, hnx]
  rw [hnu] at HU
  rw [hnx] at HX
  have HN2 := Lib.hid h2
  have HN3 := Lib.hid h3
  have HV := Lib.hid hzv
  have HM := Lib.hid hzm
  have HTA := Lib.hid hzt
  have HFG := Lib.hid hzf
  clear hu hx hul hcu hxl hcx hlen hzn hzv hzm hzt hzf s0 s1 s2 s3 s4 hcat hn2 hn3 hfl hnu hnx h2 h3 hl 
  go_enter Tryz.func18, Tryz.ntmps18
  go_wp2_with fail
  have hn5 : (w.alloc (.cells #[.string zn, .int .i64 n2, .int .i64 n3, .slice au nu cu, .slice ax nx cx, .bool fl] 31)).heap[w.heap.size]? = some (.cells #[.string zn, .int .i64 n2, .int .i64 n3, .slice au nu cu, .slice ax nx cx, .bool fl] 31 (0, 0)) := alloc_at _ _
  have hb5 : Below w.heap.size w (w.alloc (.cells #[.string zn, .int .i64 n2, .int .i64 n3, .slice au nu cu, .slice ax nx cx, .bool fl] 31)) := below_alloc' (Below.refl _ _) _
  generalize World.alloc w _ = w5 at hn5 hb5 ⊢
  have hs : ∀ w6, Below w5.drew.heap.size w5.drew w6 → w6.cell? ⟨w.heap.size, 0, none⟩ = some (.string zn) ∧ w6.cell? ⟨w.heap.size, 1, none⟩ = some (.int .i64 n2) ∧ w6.cell? ⟨w.heap.size, 2, none⟩ = some (.int .i64 n3) ∧ w6.cell? ⟨w.heap.size, 3, none⟩ = some (.slice au nu cu) ∧ w6.cell? ⟨w.heap.size, 4, none⟩ = some (.slice ax nx cx) ∧ w6.cell? ⟨w.heap.size, 5, none⟩ = some (.bool fl) := fun w6 h => by
    have hz := block_below (w := w5.drew) hn5 h
    exact ⟨cell_of_block hz 0 _ rfl, cell_of_block hz 1 _ rfl, cell_of_block hz 2 _ rfl, cell_of_block hz 3 _ rfl, cell_of_block hz 4 _ rfl, cell_of_block hz 5 _ rfl⟩
  have HS := Lib.hid hs
  have HRU := Lib.hid (HU.out.below hb5.drew)
  have HRX := Lib.hid (HX.out.below hb5.drew)
  have HB5 := Lib.hid hb5
  clear hs hb5 hn5
  refine' Par.wp_region_pars (fun w w' => Below w.heap.size w w') 20 (by kernel_rfl) (by kernel_rfl) (by kernel_rfl) (by kernel_rfl) (by kernel_rfl) (by kernel_rfl)
    (fun w => Below.refl _ w) (fun h k => below_call h k) (fun vals => ?_)
  rotate_left
  simp only [List.take_succ_cons, List.take_zero, List.drop_succ_cons, List.drop_zero]
  (apply Par.par_x rfl; (focus (intro w6 hR hD K hK; replace hK := Lib.hid hK; skip; clear hR hD; go_simp; exact hK.out _ (Below.refl _ _))); simp only [Act.put, List.setIfInBounds_toArray, List.set_cons_zero, List.set_cons_succ, Nat.reduceAdd, List.cons_append, List.nil_append])
  (apply Par.par_x rfl; (focus (intro w6 hR hD K hK; replace hK := Lib.hid hK; obtain ⟨e0, e1, e2, e3, e4, e5⟩ := HS.out w6 hR; clear hR hD; go_simp; exact hK.out _ (Below.refl _ _))); simp only [Act.put, List.setIfInBounds_toArray, List.set_cons_zero, List.set_cons_succ, Nat.reduceAdd, List.cons_append, List.nil_append])
  iterate 2 (apply Par.par_x rfl; (focus (intro w6 hR hD K hK; replace hK := Lib.hid hK; skip; clear hR hD; go_simp; exact hK.out _ (Below.refl _ _))); simp only [Act.put, List.setIfInBounds_toArray, List.set_cons_zero, List.set_cons_succ, Nat.reduceAdd, List.cons_append, List.nil_append])
  (apply Par.par_x rfl; (focus (intro w6 hR hD K hK; replace hK := Lib.hid hK; obtain ⟨e0, e1, e2, e3, e4, e5⟩ := HS.out w6 hR; clear hR hD; go_simp; exact hK.out _ (Below.refl _ _))); simp only [Act.put, List.setIfInBounds_toArray, List.set_cons_zero, List.set_cons_succ, Nat.reduceAdd, List.cons_append, List.nil_append])
  (apply Par.par_x rfl; (focus (intro w6 hR hD K hK; replace hK := Lib.hid hK; clear hR hD; go_simp; refine (rvec_any n2 n3 (by have := HN2.out; omega) (by have := HN3.out; omega) w6).mono ?_; rw [HV.out]; rintro r w7 ⟨rfl, hb⟩; exact hK.out _ hb)); simp only [Act.put, List.setIfInBounds_toArray, List.set_cons_zero, List.set_cons_succ, Nat.reduceAdd, List.cons_append, List.nil_append])
  iterate 2 (apply Par.par_x rfl; (focus (intro w6 hR hD K hK; replace hK := Lib.hid hK; skip; clear hR hD; go_simp; exact hK.out _ (Below.refl _ _))); simp only [Act.put, List.setIfInBounds_toArray, List.set_cons_zero, List.set_cons_succ, Nat.reduceAdd, List.cons_append, List.nil_append])
  (apply Par.par_x rfl; (focus (intro w6 hR hD K hK; replace hK := Lib.hid hK; obtain ⟨e0, e1, e2, e3, e4, e5⟩ := HS.out w6 hR; clear hR hD; go_simp; exact hK.out _ (Below.refl _ _))); simp only [Act.put, List.setIfInBounds_toArray, List.set_cons_zero, List.set_cons_succ, Nat.reduceAdd, List.cons_append, List.nil_append])
  (apply Par.par_x rfl; (focus (intro w6 hR hD K hK; replace hK := Lib.hid hK; have hrr := HRU.out.below hR; clear hR hD; go_simp; refine (rrow_any 43 _ n.marks w6 hrr HLU.out).mono ?_; rw [HM.out]; rintro r w7 ⟨rfl, rfl⟩; exact hK.out _ (Below.refl _ _))); simp only [Act.put, List.setIfInBounds_toArray, List.set_cons_zero, List.set_cons_succ, Nat.reduceAdd, List.cons_append, List.nil_append])
  iterate 2 (apply Par.par_x rfl; (focus (intro w6 hR hD K hK; replace hK := Lib.hid hK; skip; clear hR hD; go_simp; exact hK.out _ (Below.refl _ _))); simp only [Act.put, List.setIfInBounds_toArray, List.set_cons_zero, List.set_cons_succ, Nat.reduceAdd, List.cons_append, List.nil_append])
  (apply Par.par_x rfl; (focus (intro w6 hR hD K hK; replace hK := Lib.hid hK; obtain ⟨e0, e1, e2, e3, e4, e5⟩ := HS.out w6 hR; clear hR hD; go_simp; exact hK.out _ (Below.refl _ _))); simp only [Act.put, List.setIfInBounds_toArray, List.set_cons_zero, List.set_cons_succ, Nat.reduceAdd, List.cons_append, List.nil_append])
  (apply Par.par_x rfl; (focus (intro w6 hR hD K hK; replace hK := Lib.hid hK; have hrr := HRX.out.below hR; clear hR hD; go_simp; refine (rrow_any 126 _ n.taints w6 hrr HLX.out).mono ?_; rw [HTA.out]; rintro r w7 ⟨rfl, rfl⟩; exact hK.out _ (Below.refl _ _))); simp only [Act.put, List.setIfInBounds_toArray, List.set_cons_zero, List.set_cons_succ, Nat.reduceAdd, List.cons_append, List.nil_append])
  iterate 2 (apply Par.par_x rfl; (focus (intro w6 hR hD K hK; replace hK := Lib.hid hK; skip; clear hR hD; go_simp; exact hK.out _ (Below.refl _ _))); simp only [Act.put, List.setIfInBounds_toArray, List.set_cons_zero, List.set_cons_succ, Nat.reduceAdd, List.cons_append, List.nil_append])
  (apply Par.par_x rfl; (focus (intro w6 hR hD K hK; replace hK := Lib.hid hK; obtain ⟨e0, e1, e2, e3, e4, e5⟩ := HS.out w6 hR; clear hR hD; go_simp; exact hK.out _ (Below.refl _ _))); simp only [Act.put, List.setIfInBounds_toArray, List.set_cons_zero, List.set_cons_succ, Nat.reduceAdd, List.cons_append, List.nil_append])
  (apply Par.par_x rfl; (focus (intro w6 hR hD K hK; replace hK := Lib.hid hK; clear hR hD; go_simp; refine (rflag_any fl w6).mono ?_; rw [HFG.out]; rintro r w7 ⟨rfl, rfl⟩; exact hK.out _ (Below.refl _ _))); simp only [Act.put, List.setIfInBounds_toArray, List.set_cons_zero, List.set_cons_succ, Nat.reduceAdd, List.cons_append, List.nil_append])
  iterate 2 (apply Par.par_x rfl; (focus (intro w6 hR hD K hK; replace hK := Lib.hid hK; skip; clear hR hD; go_simp; exact hK.out _ (Below.refl _ _))); simp only [Act.put, List.setIfInBounds_toArray, List.set_cons_zero, List.set_cons_succ, Nat.reduceAdd, List.cons_append, List.nil_append])
  refine Par.par_end fun w6 hR hp => ?_
  clear hp
  rw [HCAT.out]
  have HB6 := Lib.hid (below_call HB5.out.drew hR)
  clear hR HS HRU HRX
  go_wp2
  go_ret
  exact ⟨rfl, HB6.out⟩
set_option maxHeartbeats 8000000 in
set_option maxRecDepth 1000000 in
theorem rpod_any (p : PodL) (u x : Value) (w : World) (hu : Rows w u p.picks) (hx : Rows w x p.bears) (h1 : p.shard ≤ 9223372036854775807) (h2 : p.cpu ≤ 9223372036854775807) (h3 : p.mem ≤ 9223372036854775807) (hl : (podT p).length ≤ 4294967000) :
    Calls Tryz.prog 17 #[.agg #[.string (str p.name), .int .i64 p.shard, .int .i64 p.cpu, .int .i64 p.mem, u, x, .bool p.alone]] w fun e w' => e = .returned (.string (str (podT p))) ∧ Below w.heap.size w w' := by
  obtain ⟨au, cu, rfl, hul, hcu⟩ := id hu
  obtain ⟨ax, cx, rfl, hxl, hcx⟩ := id hx
  have HU := Lib.hid hu
  have HX := Lib.hid hx
  have hlen : (podT p).length = p.name.length + (1 + ((Lib.decDigits p.shard).length + (1 + ((vecT p.cpu p.mem).length + ((rowT 43 p.picks).length + ((rowT 126 p.bears).length + (flagT p.alone).length)))))) := by simp [podT, tailT]; omega
  obtain ⟨zn, hzn⟩ : ∃ z, str p.name = z := ⟨_, rfl⟩
  obtain ⟨zd, hzd⟩ : ∃ z, str (Lib.decDigits p.shard) = z := ⟨_, rfl⟩
  have sd : zd.size = (Lib.decDigits p.shard).length := by rw [← hzd, str_size]
  obtain ⟨zv, hzv⟩ : ∃ z, str (vecT p.cpu p.mem) = z := ⟨_, rfl⟩
  obtain ⟨zm, hzm⟩ : ∃ z, str (rowT 43 p.picks) = z := ⟨_, rfl⟩
  obtain ⟨zt, hzt⟩ : ∃ z, str (rowT 126 p.bears) = z := ⟨_, rfl⟩
  obtain ⟨zf, hzf⟩ : ∃ z, str (flagT p.alone) = z := ⟨_, rfl⟩
  have s0 : zn.size = p.name.length := by rw [← hzn, str_size]
  have s1 : zv.size = (vecT p.cpu p.mem).length := by rw [← hzv, str_size]
  have s2 : zm.size = (rowT 43 p.picks).length := by rw [← hzm, str_size]
  have s3 : zt.size = (rowT 126 p.bears).length := by rw [← hzt, str_size]
  have s4 : zf.size = (flagT p.alone).length := by rw [← hzf, str_size]
  have a1 : ¬ 9223372036854775807 < zn.size + 1 := by omega
  have a2 : ¬ 9223372036854775807 < zn.size + 1 + zd.size := by omega
  have a3 : ¬ 9223372036854775807 < zn.size + 1 + zd.size + 1 := by omega
  have a4 : ¬ 9223372036854775807 < zn.size + 1 + zd.size + 1 + zv.size := by omega
  have a5 : ¬ 9223372036854775807 < zn.size + 1 + zd.size + 1 + zv.size + zm.size := by omega
  have a6 : ¬ 9223372036854775807 < zn.size + 1 + zd.size + 1 + zv.size + zm.size + zt.size := by omega
  have a7 : ¬ 9223372036854775807 < zn.size + 1 + zd.size + 1 + zv.size + zm.size + zt.size + zf.size := by omega
  have HLU := Lib.hid (show (rowT 43 p.picks).length ≤ 4294967000 by omega)
  have HLX := Lib.hid (show (rowT 126 p.bears).length ≤ 4294967000 by omega)
  have hcat : zn ++ (⟨#[64]⟩ : ByteArray) ++ zd ++ (⟨#[58]⟩ : ByteArray) ++ zv ++ zm ++ zt ++ zf = str (podT p) := by rw [← hzn, ← hzd, ← hzv, ← hzm, ← hzt, ← hzf]; exact pod_str p
  have HCAT := Lib.hid hcat
  obtain ⟨n1, hn1⟩ : ∃ k, p.shard = k := ⟨_, rfl⟩
  obtain ⟨n2, hn2⟩ : ∃ k, p.cpu = k := ⟨_, rfl⟩
  obtain ⟨n3, hn3⟩ : ∃ k, p.mem = k := ⟨_, rfl⟩
  obtain ⟨fl, hfl⟩ : ∃ k, p.alone = k := ⟨_, rfl⟩
  obtain ⟨nu, hnu⟩ : ∃ k, p.picks.length = k := ⟨_, rfl⟩
  obtain ⟨nx, hnx⟩ : ∃ k, p.bears.length = k := ⟨_, rfl⟩
  rw [hn2, hn3] at hzv
  rw [hn2] at h2
  rw [hn3] at h3
  rw [hfl] at hzf
  rw [hn1] at h1 hzd
  rw [hzn, hn1, hn2, hn3, hfl, hnu, hnx]
  rw [hnu] at HU
  rw [hnx] at HX
  have HN1 := Lib.hid h1
  have HD := Lib.hid hzd
  have HN2 := Lib.hid h2
  have HN3 := Lib.hid h3
  have HV := Lib.hid hzv
  have HM := Lib.hid hzm
  have HTA := Lib.hid hzt
  have HFG := Lib.hid hzf
  clear hu hx hul hcu hxl hcx hlen hzn hzv hzm hzt hzf s0 s1 s2 s3 s4 hcat hn2 hn3 hfl hnu hnx h2 h3 hl hn1 h1 hzd sd
  go_enter Tryz.func17, Tryz.ntmps17
  go_wp2_with fail
  have hn5 : (w.alloc (.cells #[.string zn, .int .i64 n1, .int .i64 n2, .int .i64 n3, .slice au nu cu, .slice ax nx cx, .bool fl] 54)).heap[w.heap.size]? = some (.cells #[.string zn, .int .i64 n1, .int .i64 n2, .int .i64 n3, .slice au nu cu, .slice ax nx cx, .bool fl] 54 (0, 0)) := alloc_at _ _
  have hb5 : Below w.heap.size w (w.alloc (.cells #[.string zn, .int .i64 n1, .int .i64 n2, .int .i64 n3, .slice au nu cu, .slice ax nx cx, .bool fl] 54)) := below_alloc' (Below.refl _ _) _
  generalize World.alloc w _ = w5 at hn5 hb5 ⊢
  have hs : ∀ w6, Below w5.drew.heap.size w5.drew w6 → w6.cell? ⟨w.heap.size, 0, none⟩ = some (.string zn) ∧ w6.cell? ⟨w.heap.size, 1, none⟩ = some (.int .i64 n1) ∧ w6.cell? ⟨w.heap.size, 2, none⟩ = some (.int .i64 n2) ∧ w6.cell? ⟨w.heap.size, 3, none⟩ = some (.int .i64 n3) ∧ w6.cell? ⟨w.heap.size, 4, none⟩ = some (.slice au nu cu) ∧ w6.cell? ⟨w.heap.size, 5, none⟩ = some (.slice ax nx cx) ∧ w6.cell? ⟨w.heap.size, 6, none⟩ = some (.bool fl) := fun w6 h => by
    have hz := block_below (w := w5.drew) hn5 h
    exact ⟨cell_of_block hz 0 _ rfl, cell_of_block hz 1 _ rfl, cell_of_block hz 2 _ rfl, cell_of_block hz 3 _ rfl, cell_of_block hz 4 _ rfl, cell_of_block hz 5 _ rfl, cell_of_block hz 6 _ rfl⟩
  have HS := Lib.hid hs
  have HRU := Lib.hid (HU.out.below hb5.drew)
  have HRX := Lib.hid (HX.out.below hb5.drew)
  have HB5 := Lib.hid hb5
  clear hs hb5 hn5
  refine' Par.wp_region_pars (fun w w' => Below w.heap.size w w') 25 (by kernel_rfl) (by kernel_rfl) (by kernel_rfl) (by kernel_rfl) (by kernel_rfl) (by kernel_rfl)
    (fun w => Below.refl _ w) (fun h k => below_call h k) (fun vals => ?_)
  rotate_left
  simp only [List.take_succ_cons, List.take_zero, List.drop_succ_cons, List.drop_zero]
  (apply Par.par_x rfl; (focus (intro w6 hR hD K hK; replace hK := Lib.hid hK; skip; clear hR hD; go_simp; exact hK.out _ (Below.refl _ _))); simp only [Act.put, List.setIfInBounds_toArray, List.set_cons_zero, List.set_cons_succ, Nat.reduceAdd, List.cons_append, List.nil_append])
  (apply Par.par_x rfl; (focus (intro w6 hR hD K hK; replace hK := Lib.hid hK; obtain ⟨e0, e1, e2, e3, e4, e5, e6⟩ := HS.out w6 hR; clear hR hD; go_simp; exact hK.out _ (Below.refl _ _))); simp only [Act.put, List.setIfInBounds_toArray, List.set_cons_zero, List.set_cons_succ, Nat.reduceAdd, List.cons_append, List.nil_append])
  iterate 2 (apply Par.par_x rfl; (focus (intro w6 hR hD K hK; replace hK := Lib.hid hK; skip; clear hR hD; go_simp; exact hK.out _ (Below.refl _ _))); simp only [Act.put, List.setIfInBounds_toArray, List.set_cons_zero, List.set_cons_succ, Nat.reduceAdd, List.cons_append, List.nil_append])
  (apply Par.par_x rfl; (focus (intro w6 hR hD K hK; replace hK := Lib.hid hK; obtain ⟨e0, e1, e2, e3, e4, e5, e6⟩ := HS.out w6 hR; clear hR hD; go_simp; exact hK.out _ (Below.refl _ _))); simp only [Act.put, List.setIfInBounds_toArray, List.set_cons_zero, List.set_cons_succ, Nat.reduceAdd, List.cons_append, List.nil_append])
  (apply Par.par_x rfl; (focus (intro w6 hR hD K hK; replace hK := Lib.hid hK; clear hR hD; go_simp; refine (digits_nat n1 (by have := HN1.out; omega) w6).mono ?_; rw [HD.out]; rintro r w7 ⟨rfl, hb⟩; exact hK.out _ hb)); simp only [Act.put, List.setIfInBounds_toArray, List.set_cons_zero, List.set_cons_succ, Nat.reduceAdd, List.cons_append, List.nil_append])
  iterate 3 (apply Par.par_x rfl; (focus (intro w6 hR hD K hK; replace hK := Lib.hid hK; skip; clear hR hD; go_simp; exact hK.out _ (Below.refl _ _))); simp only [Act.put, List.setIfInBounds_toArray, List.set_cons_zero, List.set_cons_succ, Nat.reduceAdd, List.cons_append, List.nil_append])
  (apply Par.par_x rfl; (focus (intro w6 hR hD K hK; replace hK := Lib.hid hK; obtain ⟨e0, e1, e2, e3, e4, e5, e6⟩ := HS.out w6 hR; clear hR hD; go_simp; exact hK.out _ (Below.refl _ _))); simp only [Act.put, List.setIfInBounds_toArray, List.set_cons_zero, List.set_cons_succ, Nat.reduceAdd, List.cons_append, List.nil_append])
  (apply Par.par_x rfl; (focus (intro w6 hR hD K hK; replace hK := Lib.hid hK; clear hR hD; go_simp; refine (rvec_any n2 n3 (by have := HN2.out; omega) (by have := HN3.out; omega) w6).mono ?_; rw [HV.out]; rintro r w7 ⟨rfl, hb⟩; exact hK.out _ hb)); simp only [Act.put, List.setIfInBounds_toArray, List.set_cons_zero, List.set_cons_succ, Nat.reduceAdd, List.cons_append, List.nil_append])
  iterate 2 (apply Par.par_x rfl; (focus (intro w6 hR hD K hK; replace hK := Lib.hid hK; skip; clear hR hD; go_simp; exact hK.out _ (Below.refl _ _))); simp only [Act.put, List.setIfInBounds_toArray, List.set_cons_zero, List.set_cons_succ, Nat.reduceAdd, List.cons_append, List.nil_append])
  (apply Par.par_x rfl; (focus (intro w6 hR hD K hK; replace hK := Lib.hid hK; obtain ⟨e0, e1, e2, e3, e4, e5, e6⟩ := HS.out w6 hR; clear hR hD; go_simp; exact hK.out _ (Below.refl _ _))); simp only [Act.put, List.setIfInBounds_toArray, List.set_cons_zero, List.set_cons_succ, Nat.reduceAdd, List.cons_append, List.nil_append])
  (apply Par.par_x rfl; (focus (intro w6 hR hD K hK; replace hK := Lib.hid hK; have hrr := HRU.out.below hR; clear hR hD; go_simp; refine (rrow_any 43 _ p.picks w6 hrr HLU.out).mono ?_; rw [HM.out]; rintro r w7 ⟨rfl, rfl⟩; exact hK.out _ (Below.refl _ _))); simp only [Act.put, List.setIfInBounds_toArray, List.set_cons_zero, List.set_cons_succ, Nat.reduceAdd, List.cons_append, List.nil_append])
  iterate 2 (apply Par.par_x rfl; (focus (intro w6 hR hD K hK; replace hK := Lib.hid hK; skip; clear hR hD; go_simp; exact hK.out _ (Below.refl _ _))); simp only [Act.put, List.setIfInBounds_toArray, List.set_cons_zero, List.set_cons_succ, Nat.reduceAdd, List.cons_append, List.nil_append])
  (apply Par.par_x rfl; (focus (intro w6 hR hD K hK; replace hK := Lib.hid hK; obtain ⟨e0, e1, e2, e3, e4, e5, e6⟩ := HS.out w6 hR; clear hR hD; go_simp; exact hK.out _ (Below.refl _ _))); simp only [Act.put, List.setIfInBounds_toArray, List.set_cons_zero, List.set_cons_succ, Nat.reduceAdd, List.cons_append, List.nil_append])
  (apply Par.par_x rfl; (focus (intro w6 hR hD K hK; replace hK := Lib.hid hK; have hrr := HRX.out.below hR; clear hR hD; go_simp; refine (rrow_any 126 _ p.bears w6 hrr HLX.out).mono ?_; rw [HTA.out]; rintro r w7 ⟨rfl, rfl⟩; exact hK.out _ (Below.refl _ _))); simp only [Act.put, List.setIfInBounds_toArray, List.set_cons_zero, List.set_cons_succ, Nat.reduceAdd, List.cons_append, List.nil_append])
  iterate 2 (apply Par.par_x rfl; (focus (intro w6 hR hD K hK; replace hK := Lib.hid hK; skip; clear hR hD; go_simp; exact hK.out _ (Below.refl _ _))); simp only [Act.put, List.setIfInBounds_toArray, List.set_cons_zero, List.set_cons_succ, Nat.reduceAdd, List.cons_append, List.nil_append])
  (apply Par.par_x rfl; (focus (intro w6 hR hD K hK; replace hK := Lib.hid hK; obtain ⟨e0, e1, e2, e3, e4, e5, e6⟩ := HS.out w6 hR; clear hR hD; go_simp; exact hK.out _ (Below.refl _ _))); simp only [Act.put, List.setIfInBounds_toArray, List.set_cons_zero, List.set_cons_succ, Nat.reduceAdd, List.cons_append, List.nil_append])
  (apply Par.par_x rfl; (focus (intro w6 hR hD K hK; replace hK := Lib.hid hK; clear hR hD; go_simp; refine (rflag_any fl w6).mono ?_; rw [HFG.out]; rintro r w7 ⟨rfl, rfl⟩; exact hK.out _ (Below.refl _ _))); simp only [Act.put, List.setIfInBounds_toArray, List.set_cons_zero, List.set_cons_succ, Nat.reduceAdd, List.cons_append, List.nil_append])
  iterate 2 (apply Par.par_x rfl; (focus (intro w6 hR hD K hK; replace hK := Lib.hid hK; skip; clear hR hD; go_simp; exact hK.out _ (Below.refl _ _))); simp only [Act.put, List.setIfInBounds_toArray, List.set_cons_zero, List.set_cons_succ, Nat.reduceAdd, List.cons_append, List.nil_append])
  refine Par.par_end fun w6 hR hp => ?_
  clear hp
  rw [HCAT.out]
  have HB6 := Lib.hid (below_call HB5.out.drew hR)
  clear hR HS HRU HRX
  go_wp2
  go_ret
  exact ⟨rfl, HB6.out⟩
set_option maxRecDepth 100000 in
theorem rverb_any (k : Nat) (h1 : 1 ≤ k) (h2 : k ≤ 11) (w : World) : Calls Tryz.prog 15 #[.int .i64 k] w fun e w' => e = .returned (.string (str (verb k))) ∧ Below w.heap.size w w' := by
  obtain ⟨hvl, hve⟩ := verb_at h1 h2
  have c : (w.alloc (.cells (verbs.map strV).toArray 9)).cell? ⟨w.heap.size, k - 1, none⟩ = some (.string (str (verb k))) := by
    have hb : Blk (w.alloc (.cells (verbs.map strV).toArray 9)) w.heap.size verbs := alloc_at _ _
    rw [hb.cell hvl, hve]
  obtain ⟨q, rfl⟩ : ∃ q, k = q + 1 := ⟨k - 1, by omega⟩
  rw [Nat.add_sub_cancel] at c
  have hq : (q : Int) < 11 := by omega
  have HC := Lib.hid c
  obtain ⟨zv, hzv⟩ : ∃ z, str (verb (q + 1)) = z := ⟨_, rfl⟩
  rw [hzv] at c
  rw [hzv, show ((q + 1 : Nat) : Int) = (q : Int) + 1 by omega]
  have c' : (w.alloc (.cells #[.string ⟨#[115, 117, 98, 109, 105, 116]⟩, .string ⟨#[99, 97, 110, 99, 101, 108]⟩, .string ⟨#[114, 101, 108, 101, 97, 115, 101]⟩, .string ⟨#[112, 117, 116]⟩, .string ⟨#[103, 111, 110, 101]⟩, .string ⟨#[100, 101, 108, 105, 118, 101, 114]⟩, .string ⟨#[108, 111, 115, 101]⟩, .string ⟨#[99, 111, 112, 121]⟩, .string ⟨#[116, 105, 99, 107]⟩, .string ⟨#[99, 114, 97, 115, 104]⟩, .string ⟨#[115, 116, 97, 114, 116]⟩] 9)).cell? ⟨w.heap.size, q, none⟩ = some (.string zv) := c
  clear c HC hve hvl h1 h2 hzv
  go_enter Tryz.func15, Tryz.ntmps15
  go_wp2
  go_ret
  exact ⟨rfl, below_alloc' (Below.refl _ _) _⟩
end Go.Proofs.YtikamehjeaoilaaGreatDoor
/-! The reference's text of an event. -/
set_option linter.unusedVariables false
set_option linter.unusedSimpArgs false
namespace Go.Proofs.YtikamehjeaoilaaGreatDoor
open Go.RowKit

def restE (k : Nat) (s : EvS) : List (List UInt8) := if k = 1 then s.pods.map podT else if k = 4 then [nodeT s.node] else if k = 5 then [s.node.name] else if k = 10 then [Lib.decDigits s.b] else []
theorem textE_eq (k : Nat) (s : EvS) : textE k s = verb k ++ 32 :: (Lib.decDigits (if k = 1 then s.id else s.a) ++ rowT 32 (restE k s)) := by
  have h : ∀ r : List (List UInt8), Lib.joinTail [32] r = rowT 32 r := fun r => rfl
  unfold textE wordsE
  rw [Lib.join_cons, h, rowT_cons]
  rfl
theorem verb_len (k : Nat) (h1 : 1 ≤ k) (h2 : k ≤ 11) : (verb k).length ≤ 7 := by
  have h : ∀ q, q < 12 → 1 ≤ q → (verb q).length ≤ 7 := by decide
  exact h k (by omega) h1
theorem Tx.rows {base : Nat} {w : World} {v : Value} {ls : List (List UInt8)} (h : Tx base w v ls) : Rows w v ls := by
  obtain ⟨a, c, e, hf, hc⟩ := h
  exact ⟨a, c, e, by have := hf.1; omega, fun i hi => by obtain ⟨b, off, cs, e1, _, e3, e4⟩ := hc i hi; exact ⟨b, off, e1, cell_of_block e3 _ _ e4⟩⟩
set_option maxHeartbeats 8000000 in
set_option maxRecDepth 1000000 in
theorem rtext_any (k : Nat) (hk1 : 1 ≤ k) (hk2 : k ≤ 11) (s : EvS) (base : Nat) (v : Value) (w : World) (hv : EvR base w v k s) (hb : EvB k s) :
    Calls Tryz.prog 6 #[v] w fun e w' => e = .returned (.string (str (textE k s))) ∧ Below w.heap.size w w' := by
  have HB := Lib.hid hb
  obtain ⟨vp, u, x, rfl, hp, hu, hx⟩ := hv
  obtain ⟨cp, hcp, hel⟩ := id hp
  obtain ⟨avp, cvp, rfl⟩ := own_slicen hcp
  obtain ⟨au, lu, cu, rfl⟩ := own_slice hu
  obtain ⟨ax, lx, cx, rfl⟩ := own_slice hx
  obtain ⟨np, hnp⟩ : ∃ n, s.pods.length = n := ⟨_, rfl⟩
  rw [hnp] at hcp
  rw [hnp]
  have HNP := Lib.hid hnp
  have HCP := Lib.hid hcp
  have HEL := Lib.hid hel
  have HU := Lib.hid hu
  have HX := Lib.hid hx
  obtain ⟨zn, hzn⟩ : ∃ z, str s.node.name = z := ⟨_, rfl⟩
  obtain ⟨n2, hn2⟩ : ∃ z, s.node.cpu = z := ⟨_, rfl⟩
  obtain ⟨n3, hn3⟩ : ∃ z, s.node.mem = z := ⟨_, rfl⟩
  obtain ⟨fl, hfl⟩ : ∃ z, s.node.closed = z := ⟨_, rfl⟩
  obtain ⟨na, hna⟩ : ∃ z, s.a = z := ⟨_, rfl⟩
  obtain ⟨nb, hnb⟩ : ∃ z, s.b = z := ⟨_, rfl⟩
  obtain ⟨ni, hni⟩ : ∃ z, s.id = z := ⟨_, rfl⟩
  rw [hzn, hn2, hn3, hfl, hna, hnb, hni]
  have HZN := Lib.hid hzn
  have HN2 := Lib.hid hn2
  have HN3 := Lib.hid hn3
  have HFL := Lib.hid hfl
  have HNA := Lib.hid hna
  have HNB := Lib.hid hnb
  have HNI := Lib.hid hni
  obtain ⟨zv, hzv⟩ : ∃ z, str (verb k) = z := ⟨_, rfl⟩
  have hvs : zv.size ≤ 7 := by rw [← hzv, str_size]; exact verb_len k hk1 hk2
  have HZV := Lib.hid hzv
  have htl : (textE k s).length ≤ 140737488355328 := hb.text
  have HTL := Lib.hid htl
  have hnames : zn.size ≤ 4294967000 := by
    have h1 := hb.node.2.2.1
    have h2 : (nodeT s.node).length = s.node.name.length + (1 + ((vecT s.node.cpu s.node.mem).length + (tailT s.node.marks s.node.taints s.node.closed).length)) := by simp [nodeT]; omega
    rw [← hzn, str_size]
    omega
  have HNS := Lib.hid hnames
  clear hb hp hcp hel hu hx hnp hzn hn2 hn3 hfl hna hnb hni hzv htl hnames
  go_enter Tryz.func6, Tryz.ntmps6
  go_wp2_with fail
  have hz0 : (w.alloc (.cells #[.int .i64 k, .int .i64 na, .int .i64 nb, .int .i64 ni, .slice avp np cvp, .string zn, .int .i64 n2, .int .i64 n3, .slice au lu cu, .slice ax lx cx, .bool fl] 34)).heap[w.heap.size]? = some (.cells #[.int .i64 k, .int .i64 na, .int .i64 nb, .int .i64 ni, .slice avp np cvp, .string zn, .int .i64 n2, .int .i64 n3, .slice au lu cu, .slice ax lx cx, .bool fl] 34 (0, 0)) := alloc_at _ _
  have hb0 : Below w.heap.size w (w.alloc (.cells #[.int .i64 k, .int .i64 na, .int .i64 nb, .int .i64 ni, .slice avp np cvp, .string zn, .int .i64 n2, .int .i64 n3, .slice au lu cu, .slice ax lx cx, .bool fl] 34)) := below_alloc' (Below.refl _ _) _
  have e0 := cell_of_block hz0 0 _ rfl
  generalize World.alloc w _ = w1 at hz0 hb0 e0 ⊢
  refine (rverb_any k hk1 hk2 w1).mono ?_
  rintro e w2 ⟨rfl, hb2⟩
  rw [HZV.out]
  have hz2 := block_below hz0 hb2
  have q0 := cell_of_block hz2 0 _ rfl
  have HZ2 := Lib.hid hz2
  have HB2 := Lib.hid (below_call hb0 hb2)
  clear hz0 hb0 e0 hb2 hz2
  have v1 : ¬ 9223372036854775807 < zv.size + 1 := by omega
  by_cases h1 : k = 1
  · subst h1
    have q3 := cell_of_block HZ2.out 3 _ rfl
    have hni6 : ni ≤ 999999 := by rw [← HNI.out]; exact HB.out.id
    go_wp2_with fail
    refine (digits_nat ni (by omega) w2).mono ?_
    rintro e w3 ⟨rfl, hb3⟩
    have HZ3 := Lib.hid (block_below HZ2.out hb3)
    have HB3 := Lib.hid (below_call HB2.out hb3)
    obtain ⟨ls, hls⟩ : ∃ ls, s.pods.map podT = ls := ⟨_, rfl⟩
    have hlsl : ls.length = np := by rw [← hls, List.length_map, HNP.out]
    have htot : (textE 1 s).length = (verb 1).length + (1 + ((Lib.decDigits ni).length + (rowT 32 ls).length)) := by
      rw [textE_eq, if_pos rfl, HNI.out, show restE 1 s = s.pods.map podT from rfl, hls]
      simp
      omega
    obtain ⟨d, hd⟩ : ∃ d, str (Lib.decDigits ni) = d := ⟨_, rfl⟩
    have hds : d.size = (Lib.decDigits ni).length := by rw [← hd, str_size]
    have hvl : zv.size = (verb 1).length := by rw [← HZV.out, str_size]
    have v2 : ¬ 9223372036854775807 < zv.size + 1 + d.size := by have := HTL.out; omega
    have hst : zv ++ (⟨#[32]⟩ : ByteArray) ++ d = str (verb 1 ++ 32 :: (Lib.decDigits ni ++ rowT 32 (ls.take 0))) := by
      rw [← HZV.out, ← hd, show (⟨#[32]⟩ : ByteArray) = str [32] from rfl]
      simp only [str_append]
      congr 1
      simp [rowT]
    rw [hd]
    obtain ⟨t0, ht0⟩ : ∃ t0, zv ++ (⟨#[32]⟩ : ByteArray) ++ d = t0 := ⟨_, rfl⟩
    have hst0 := ht0.symm.trans hst
    have HST := Lib.hid ht0
    have HT0 := Lib.hid hst0
    have HLS := Lib.hid hls
    have HLL := Lib.hid hlsl
    have HTT := Lib.hid htot
    have HNI6 := Lib.hid hni6
    have hfew : np ≤ 4294967000 := by rw [← HNP.out]; exact HB.out.few
    clear hb3 hls hlsl htot hd hst hst0 ht0 q3 q0 hds hvl hni6
    go_wp2_with fail
    rw [HST.out]
    go_loopw [3, 4] (fun u x wr => ∃ i : Nat, x = .int .i64 i ∧ i ≤ np ∧ u = .string (str (verb 1 ++ 32 :: (Lib.decDigits ni ++ rowT 32 (ls.take i)))) ∧ Below w.heap.size w wr ∧ wr.heap[w.heap.size]? = some (.cells #[.int .i64 (1 : Nat), .int .i64 na, .int .i64 nb, .int .i64 ni, .slice avp np cvp, .string zn, .int .i64 n2, .int .i64 n3, .slice au lu cu, .slice ax lx cx, .bool fl] 34 (0, 0))) (fun _ x _ => np - (intOf x).toNat)
    case atStart => exact ⟨0, rfl, Nat.zero_le _, by rw [HT0.out], HB3.out, HZ3.out⟩
    case round =>
      obtain ⟨i, rfl, hi, rfl, hbr, hzr⟩ := hrel
      have c4e := cell_of_block hzr 4 _ rfl
      have HBR := Lib.hid hbr
      have HZR := Lib.hid hzr
      clear hbr hzr
      by_cases hin : i < np
      · have hil : i < s.pods.length := by rw [HNP.out]; exact hin
        have hin' : (i : Int) < np := by omega
        have hill : i < ls.length := by rw [HLL.out]; exact hin
        obtain ⟨gp, cpp, hgp, hgb, hgs⟩ := (own_forms HCP.out).resolve_left (by rintro ⟨_, h, _⟩; omega)
        have hap : avp = some ⟨gp, 0, none⟩ := by injection hgp
        subst hap
        have hlc : ∀ q, q < np → (cp q).length = 7 := fun q hq => (HEL.out q (by rw [HNP.out]; exact hq)).len
        have hcell : ∀ j, j < 7 → wr.cell? ⟨gp, i * 7 + j, none⟩ = (cp i)[j]? := fun j hj => by
          have h1 := HCP.out.cellAt (i * 7 + j) (by omega)
          rw [flat_get hlc hin hj] at h1
          have hj2 : j < (cp i).length := by rw [hlc i hin]; exact hj
          rw [List.getElem?_eq_getElem hj2] at h1 ⊢
          exact cell_below_lt h1 hgs HBR.out
        obtain ⟨pu, pv, hci, htu, htv⟩ := id (HEL.out i hil)
        rw [hci] at hcell
        have hru := (htu.rows).below HBR.out
        have hrv := (htv.rows).below HBR.out
        obtain ⟨au', cu', rfl, -⟩ := htu
        obtain ⟨av', cv', rfl, -⟩ := htv
        have hpb := HB.out.pods _ (List.getElem_mem hil)
        have hlsi : ls[i] = podT s.pods[i] := by
          have : ls[i]? = some (podT s.pods[i]) := by rw [← HLS.out, List.getElem?_map, List.getElem?_eq_getElem hil]; rfl
          rw [List.getElem?_eq_getElem hill] at this
          exact Option.some.inj this
        have hnx := rowT_next (c := 32) hill
        have hle := rowT_le 32 ls (i + 1)
        rw [hnx, List.length_append] at hle
        rw [hlsi] at hnx hle
        obtain ⟨P, hP⟩ : ∃ P, s.pods[i] = P := ⟨_, rfl⟩
        rw [hP] at hcell hpb hnx hle hru hrv
        have c0 := hcell 0 (by omega)
        have c1 := hcell 1 (by omega)
        have c2 := hcell 2 (by omega)
        have c3 := hcell 3 (by omega)
        have c4 := hcell 4 (by omega)
        have c5 := hcell 5 (by omega)
        have c6 := hcell 6 (by omega)
        simp only [List.getElem?_cons_zero, List.getElem?_cons_succ, Nat.add_zero] at c0 c1 c2 c3 c4 c5 c6
        have hpo := rpod_any P _ _ wr hru hrv (by omega) (by omega) (by omega) hpb.2.2.2
        obtain ⟨zp, hzp⟩ : ∃ z, str P.name = z := ⟨_, rfl⟩
        obtain ⟨m1, hm1⟩ : ∃ z, P.shard = z := ⟨_, rfl⟩
        obtain ⟨m2, hm2⟩ : ∃ z, P.cpu = z := ⟨_, rfl⟩
        obtain ⟨m3, hm3⟩ : ∃ z, P.mem = z := ⟨_, rfl⟩
        obtain ⟨m4, hm4⟩ : ∃ z, P.alone = z := ⟨_, rfl⟩
        obtain ⟨m5, hm5⟩ : ∃ z, P.picks.length = z := ⟨_, rfl⟩
        obtain ⟨m6, hm6⟩ : ∃ z, P.bears.length = z := ⟨_, rfl⟩
        rw [hzp] at c0
        rw [hm1] at c1
        rw [hm2] at c2
        rw [hm3] at c3
        rw [hm5] at c4
        rw [hm6] at c5
        rw [hm4] at c6
        rw [hzp, hm1, hm2, hm3, hm4, hm5, hm6] at hpo
        obtain ⟨t1, ht1⟩ : ∃ z, str (verb 1 ++ 32 :: (Lib.decDigits ni ++ rowT 32 (ls.take i))) = z := ⟨_, rfl⟩
        obtain ⟨t2, ht2⟩ : ∃ z, str (podT P) = z := ⟨_, rfl⟩
        have s1 : t1.size = (verb 1).length + (1 + ((Lib.decDigits ni).length + (rowT 32 (ls.take i)).length)) := by rw [← ht1, str_size]; simp; omega
        have s2 : t2.size = (podT P).length := by rw [← ht2, str_size]
        have s3 : ¬ 9223372036854775807 < t1.size + 1 := by have := HTT.out; have := HTL.out; simp at hle; omega
        have s4 : ¬ 9223372036854775807 < t1.size + 1 + t2.size := by have := HTT.out; have := HTL.out; simp at hle; omega
        rw [ht1]
        rw [ht2] at hpo
        have HT1 := Lib.hid ht1
        have HT2 := Lib.hid ht2
        have HNX := Lib.hid hnx
        have HPO := Lib.hid hpo
        clear hcell hpb hnx hle hlc hci hzp hm1 hm2 hm3 hm4 hm5 hm6 hru hrv hlsi ht1 ht2 s1 s2 hpo
        go_wp2_with fail
        refine HPO.out.mono ?_
        rintro e wt ⟨rfl, hbt⟩
        have HZT := Lib.hid (block_below HZR.out hbt)
        have HBT := Lib.hid (below_call HBR.out hbt)
        clear hbt c0 c1 c2 c3 c4 c5 c6 c4e
        go_wp2_with fail
        go_roundw
        case rel =>
          refine ⟨i + 1, by go_num, by omega, ?_, HBT.out, HZT.out⟩
          rw [HNX.out, ← HT1.out, ← HT2.out, show (⟨#[32]⟩ : ByteArray) = str [32] from rfl, str_append, str_append]
          simp
        case measure => simp [intOf]; omega
      · have hie : i = np := by omega
        have htk : ls.take i = ls := by rw [hie, ← HLL.out, List.take_length]
        have HTK := Lib.hid htk
        have hin' : ¬ (i : Int) < np := by omega
        clear htk
        go_wp2_with fail
        go_ret
        refine ⟨ret_str ?_, HBR.out⟩
        have htk2 : ls.take np = ls := by rw [← HLL.out, List.take_length]
        rw [textE_eq, if_pos rfl, HNI.out, show restE 1 s = s.pods.map podT from rfl, HLS.out]
        simp only [htk2]
  · by_cases h4 : k = 4
    · subst h4
      obtain ⟨dna, hdna⟩ : ∃ d, str (Lib.decDigits na) = d := ⟨_, rfl⟩
      have lna : dna.size ≤ 21 := by rw [← hdna, str_size]; exact dec_len' na (by have := (show na ≤ 999999 by rw [← HNA.out]; exact HB.out.a); omega)
      have HDna := Lib.hid hdna
      clear hdna
      obtain ⟨dn, hdn⟩ : ∃ d, str (nodeT s.node) = d := ⟨_, rfl⟩
      have ldn : dn.size ≤ 4294967000 := by rw [← hdn, str_size]; exact HB.out.node.2.2.1
      have HDN := Lib.hid hdn
      clear hdn
      have v2 : ¬ 9223372036854775807 < zv.size + 1 + dna.size := by omega
      have v3 : ¬ 9223372036854775807 < zv.size + 1 + dna.size + 1 := by omega
      have v4 : ¬ 9223372036854775807 < zv.size + 1 + dna.size + 1 + dn.size := by omega
      have hs : ∀ w6, Below w2.drew.heap.size w2.drew w6 → w6.cell? ⟨w.heap.size, 1, none⟩ = some (.int .i64 na) ∧ w6.cell? ⟨w.heap.size, 2, none⟩ = some (.int .i64 nb) ∧ w6.cell? ⟨w.heap.size, 5, none⟩ = some (.string zn) ∧ w6.cell? ⟨w.heap.size, 6, none⟩ = some (.int .i64 n2) ∧ w6.cell? ⟨w.heap.size, 7, none⟩ = some (.int .i64 n3) ∧ w6.cell? ⟨w.heap.size, 8, none⟩ = some (.slice au lu cu) ∧ w6.cell? ⟨w.heap.size, 9, none⟩ = some (.slice ax lx cx) ∧ w6.cell? ⟨w.heap.size, 10, none⟩ = some (.bool fl) := fun w6 h => by
        have hz := block_below (w := w2.drew) HZ2.out h
        exact ⟨cell_of_block hz 1 _ rfl, cell_of_block hz 2 _ rfl, cell_of_block hz 5 _ rfl, cell_of_block hz 6 _ rfl, cell_of_block hz 7 _ rfl, cell_of_block hz 8 _ rfl, cell_of_block hz 9 _ rfl, cell_of_block hz 10 _ rfl⟩
      have HS := Lib.hid hs
      clear hs
      have HRU := Lib.hid ((Strs.rows HU.out HB.out.node.2.2.2.1).below HB2.out.drew)
      have HRX := Lib.hid ((Strs.rows HX.out HB.out.node.2.2.2.2).below HB2.out.drew)
      go_upto_region 11 with fail
      refine' Par.wp_region_pars (fun w w' => Below w.heap.size w w') 11 (by kernel_rfl) (by kernel_rfl) (by kernel_rfl) (by kernel_rfl) (by kernel_rfl) (by kernel_rfl)
        (fun w => Below.refl _ w) (fun h k => below_call h k) (fun vals => ?_)
      rotate_left
      simp only [List.take_succ_cons, List.take_zero, List.drop_succ_cons, List.drop_zero]
      iterate 2 (apply Par.par_x rfl; (focus (intro w6 hR hD K hK; replace hK := Lib.hid hK; skip; clear hR hD; go_simp; exact hK.out _ (Below.refl _ _))); simp only [Act.put, List.setIfInBounds_toArray, List.set_cons_zero, List.set_cons_succ, Nat.reduceAdd, List.cons_append, List.nil_append])
      (apply Par.par_x rfl; (focus (intro w6 hR hD K hK; replace hK := Lib.hid hK; obtain ⟨e1, e2, e5, e6, e7, e8, e9, e10⟩ := HS.out w6 hR; clear hR hD; go_simp; exact hK.out _ (Below.refl _ _))); simp only [Act.put, List.setIfInBounds_toArray, List.set_cons_zero, List.set_cons_succ, Nat.reduceAdd, List.cons_append, List.nil_append])
      (apply Par.par_x rfl; (focus (intro w6 hR hD K hK; replace hK := Lib.hid hK; clear hR hD; go_simp; refine (digits_nat na (by have := (show na ≤ 999999 by rw [← HNA.out]; exact HB.out.a); omega) w6).mono ?_; rw [HDna.out]; rintro r w7 ⟨rfl, hb⟩; exact hK.out _ hb)); simp only [Act.put, List.setIfInBounds_toArray, List.set_cons_zero, List.set_cons_succ, Nat.reduceAdd, List.cons_append, List.nil_append])
      iterate 3 (apply Par.par_x rfl; (focus (intro w6 hR hD K hK; replace hK := Lib.hid hK; skip; clear hR hD; go_simp; exact hK.out _ (Below.refl _ _))); simp only [Act.put, List.setIfInBounds_toArray, List.set_cons_zero, List.set_cons_succ, Nat.reduceAdd, List.cons_append, List.nil_append])
      (apply Par.par_x rfl; (focus (intro w6 hR hD K hK; replace hK := Lib.hid hK; obtain ⟨e1, e2, e5, e6, e7, e8, e9, e10⟩ := HS.out w6 hR; clear hR hD; go_simp; exact hK.out _ (Below.refl _ _))); simp only [Act.put, List.setIfInBounds_toArray, List.set_cons_zero, List.set_cons_succ, Nat.reduceAdd, List.cons_append, List.nil_append])
      (apply Par.par_x rfl; (focus (intro w6 hR hD K hK; replace hK := Lib.hid hK; have hru := HRU.out.below hR; have hrx := HRX.out.below hR; clear hR hD; go_simp; have hno := rnode_any s.node _ _ w6 hru hrx HB.out.node.1 HB.out.node.2.1 HB.out.node.2.2.1; rw [HZN.out, HN2.out, HN3.out, HFL.out, HDN.out] at hno; refine hno.mono ?_; clear hno hru hrx; rintro r w7 ⟨rfl, hb⟩; exact hK.out _ hb)); simp only [Act.put, List.setIfInBounds_toArray, List.set_cons_zero, List.set_cons_succ, Nat.reduceAdd, List.cons_append, List.nil_append])
      iterate 2 (apply Par.par_x rfl; (focus (intro w6 hR hD K hK; replace hK := Lib.hid hK; skip; clear hR hD; go_simp; exact hK.out _ (Below.refl _ _))); simp only [Act.put, List.setIfInBounds_toArray, List.set_cons_zero, List.set_cons_succ, Nat.reduceAdd, List.cons_append, List.nil_append])
      refine Par.par_end fun w6 hR hp => ?_
      clear hp
      have HB6 := Lib.hid (below_call HB2.out.drew hR)
      clear hR HS
      go_wp2
      go_ret
      refine ⟨ret_str ?_, HB6.out⟩
      rw [textE_eq, if_neg (by decide), HNA.out, show restE 4 s = [nodeT s.node] from rfl, ← HZV.out, ← HDna.out, ← HDN.out, show (⟨#[32]⟩ : ByteArray) = str [32] from rfl]
      simp only [str_append]
      congr 1
      simp [rowT]
    · by_cases h5 : k = 5
      · subst h5
        obtain ⟨dna, hdna⟩ : ∃ d, str (Lib.decDigits na) = d := ⟨_, rfl⟩
        have lna : dna.size ≤ 21 := by rw [← hdna, str_size]; exact dec_len' na (by have := (show na ≤ 999999 by rw [← HNA.out]; exact HB.out.a); omega)
        have HDna := Lib.hid hdna
        clear hdna
        have v2 : ¬ 9223372036854775807 < zv.size + 1 + dna.size := by omega
        have v3 : ¬ 9223372036854775807 < zv.size + 1 + dna.size + 1 := by omega
        have v4 : ¬ 9223372036854775807 < zv.size + 1 + dna.size + 1 + zn.size := by have := HNS.out; omega
        have hs : ∀ w6, Below w2.drew.heap.size w2.drew w6 → w6.cell? ⟨w.heap.size, 1, none⟩ = some (.int .i64 na) ∧ w6.cell? ⟨w.heap.size, 2, none⟩ = some (.int .i64 nb) ∧ w6.cell? ⟨w.heap.size, 5, none⟩ = some (.string zn) ∧ w6.cell? ⟨w.heap.size, 6, none⟩ = some (.int .i64 n2) ∧ w6.cell? ⟨w.heap.size, 7, none⟩ = some (.int .i64 n3) ∧ w6.cell? ⟨w.heap.size, 8, none⟩ = some (.slice au lu cu) ∧ w6.cell? ⟨w.heap.size, 9, none⟩ = some (.slice ax lx cx) ∧ w6.cell? ⟨w.heap.size, 10, none⟩ = some (.bool fl) := fun w6 h => by
          have hz := block_below (w := w2.drew) HZ2.out h
          exact ⟨cell_of_block hz 1 _ rfl, cell_of_block hz 2 _ rfl, cell_of_block hz 5 _ rfl, cell_of_block hz 6 _ rfl, cell_of_block hz 7 _ rfl, cell_of_block hz 8 _ rfl, cell_of_block hz 9 _ rfl, cell_of_block hz 10 _ rfl⟩
        have HS := Lib.hid hs
        clear hs
        go_upto_region 13 with fail
        refine' Par.wp_region_pars (fun w w' => Below w.heap.size w w') 11 (by kernel_rfl) (by kernel_rfl) (by kernel_rfl) (by kernel_rfl) (by kernel_rfl) (by kernel_rfl)
          (fun w => Below.refl _ w) (fun h k => below_call h k) (fun vals => ?_)
        rotate_left
        simp only [List.take_succ_cons, List.take_zero, List.drop_succ_cons, List.drop_zero]
        iterate 2 (apply Par.par_x rfl; (focus (intro w6 hR hD K hK; replace hK := Lib.hid hK; skip; clear hR hD; go_simp; exact hK.out _ (Below.refl _ _))); simp only [Act.put, List.setIfInBounds_toArray, List.set_cons_zero, List.set_cons_succ, Nat.reduceAdd, List.cons_append, List.nil_append])
        (apply Par.par_x rfl; (focus (intro w6 hR hD K hK; replace hK := Lib.hid hK; obtain ⟨e1, e2, e5, e6, e7, e8, e9, e10⟩ := HS.out w6 hR; clear hR hD; go_simp; exact hK.out _ (Below.refl _ _))); simp only [Act.put, List.setIfInBounds_toArray, List.set_cons_zero, List.set_cons_succ, Nat.reduceAdd, List.cons_append, List.nil_append])
        (apply Par.par_x rfl; (focus (intro w6 hR hD K hK; replace hK := Lib.hid hK; clear hR hD; go_simp; refine (digits_nat na (by have := (show na ≤ 999999 by rw [← HNA.out]; exact HB.out.a); omega) w6).mono ?_; rw [HDna.out]; rintro r w7 ⟨rfl, hb⟩; exact hK.out _ hb)); simp only [Act.put, List.setIfInBounds_toArray, List.set_cons_zero, List.set_cons_succ, Nat.reduceAdd, List.cons_append, List.nil_append])
        iterate 4 (apply Par.par_x rfl; (focus (intro w6 hR hD K hK; replace hK := Lib.hid hK; skip; clear hR hD; go_simp; exact hK.out _ (Below.refl _ _))); simp only [Act.put, List.setIfInBounds_toArray, List.set_cons_zero, List.set_cons_succ, Nat.reduceAdd, List.cons_append, List.nil_append])
        (apply Par.par_x rfl; (focus (intro w6 hR hD K hK; replace hK := Lib.hid hK; obtain ⟨e1, e2, e5, e6, e7, e8, e9, e10⟩ := HS.out w6 hR; clear hR hD; go_simp; exact hK.out _ (Below.refl _ _))); simp only [Act.put, List.setIfInBounds_toArray, List.set_cons_zero, List.set_cons_succ, Nat.reduceAdd, List.cons_append, List.nil_append])
        iterate 2 (apply Par.par_x rfl; (focus (intro w6 hR hD K hK; replace hK := Lib.hid hK; skip; clear hR hD; go_simp; exact hK.out _ (Below.refl _ _))); simp only [Act.put, List.setIfInBounds_toArray, List.set_cons_zero, List.set_cons_succ, Nat.reduceAdd, List.cons_append, List.nil_append])
        refine Par.par_end fun w6 hR hp => ?_
        clear hp
        have HB6 := Lib.hid (below_call HB2.out.drew hR)
        clear hR HS
        go_wp2
        go_ret
        refine ⟨ret_str ?_, HB6.out⟩
        rw [textE_eq, if_neg (by decide), HNA.out, show restE 5 s = [s.node.name] from rfl, ← HZV.out, ← HDna.out, ← HZN.out, show (⟨#[32]⟩ : ByteArray) = str [32] from rfl]
        simp only [str_append]
        congr 1
        simp [rowT]
      · by_cases h10 : k = 10
        · subst h10
          obtain ⟨dna, hdna⟩ : ∃ d, str (Lib.decDigits na) = d := ⟨_, rfl⟩
          have lna : dna.size ≤ 21 := by rw [← hdna, str_size]; exact dec_len' na (by have := (show na ≤ 999999 by rw [← HNA.out]; exact HB.out.a); omega)
          have HDna := Lib.hid hdna
          clear hdna
          obtain ⟨dnb, hdnb⟩ : ∃ d, str (Lib.decDigits nb) = d := ⟨_, rfl⟩
          have lnb : dnb.size ≤ 21 := by rw [← hdnb, str_size]; exact dec_len' nb (by have := (show nb ≤ 999999 by rw [← HNB.out]; exact HB.out.b); omega)
          have HDnb := Lib.hid hdnb
          clear hdnb
          have v2 : ¬ 9223372036854775807 < zv.size + 1 + dna.size := by omega
          have v3 : ¬ 9223372036854775807 < zv.size + 1 + dna.size + 1 := by omega
          have v4 : ¬ 9223372036854775807 < zv.size + 1 + dna.size + 1 + dnb.size := by omega
          have hs : ∀ w6, Below w2.drew.heap.size w2.drew w6 → w6.cell? ⟨w.heap.size, 1, none⟩ = some (.int .i64 na) ∧ w6.cell? ⟨w.heap.size, 2, none⟩ = some (.int .i64 nb) ∧ w6.cell? ⟨w.heap.size, 5, none⟩ = some (.string zn) ∧ w6.cell? ⟨w.heap.size, 6, none⟩ = some (.int .i64 n2) ∧ w6.cell? ⟨w.heap.size, 7, none⟩ = some (.int .i64 n3) ∧ w6.cell? ⟨w.heap.size, 8, none⟩ = some (.slice au lu cu) ∧ w6.cell? ⟨w.heap.size, 9, none⟩ = some (.slice ax lx cx) ∧ w6.cell? ⟨w.heap.size, 10, none⟩ = some (.bool fl) := fun w6 h => by
            have hz := block_below (w := w2.drew) HZ2.out h
            exact ⟨cell_of_block hz 1 _ rfl, cell_of_block hz 2 _ rfl, cell_of_block hz 5 _ rfl, cell_of_block hz 6 _ rfl, cell_of_block hz 7 _ rfl, cell_of_block hz 8 _ rfl, cell_of_block hz 9 _ rfl, cell_of_block hz 10 _ rfl⟩
          have HS := Lib.hid hs
          clear hs
          go_upto_region 15 with fail
          refine' Par.wp_region_pars (fun w w' => Below w.heap.size w w') 11 (by kernel_rfl) (by kernel_rfl) (by kernel_rfl) (by kernel_rfl) (by kernel_rfl) (by kernel_rfl)
            (fun w => Below.refl _ w) (fun h k => below_call h k) (fun vals => ?_)
          rotate_left
          simp only [List.take_succ_cons, List.take_zero, List.drop_succ_cons, List.drop_zero]
          iterate 2 (apply Par.par_x rfl; (focus (intro w6 hR hD K hK; replace hK := Lib.hid hK; skip; clear hR hD; go_simp; exact hK.out _ (Below.refl _ _))); simp only [Act.put, List.setIfInBounds_toArray, List.set_cons_zero, List.set_cons_succ, Nat.reduceAdd, List.cons_append, List.nil_append])
          (apply Par.par_x rfl; (focus (intro w6 hR hD K hK; replace hK := Lib.hid hK; obtain ⟨e1, e2, e5, e6, e7, e8, e9, e10⟩ := HS.out w6 hR; clear hR hD; go_simp; exact hK.out _ (Below.refl _ _))); simp only [Act.put, List.setIfInBounds_toArray, List.set_cons_zero, List.set_cons_succ, Nat.reduceAdd, List.cons_append, List.nil_append])
          (apply Par.par_x rfl; (focus (intro w6 hR hD K hK; replace hK := Lib.hid hK; clear hR hD; go_simp; refine (digits_nat na (by have := (show na ≤ 999999 by rw [← HNA.out]; exact HB.out.a); omega) w6).mono ?_; rw [HDna.out]; rintro r w7 ⟨rfl, hb⟩; exact hK.out _ hb)); simp only [Act.put, List.setIfInBounds_toArray, List.set_cons_zero, List.set_cons_succ, Nat.reduceAdd, List.cons_append, List.nil_append])
          iterate 3 (apply Par.par_x rfl; (focus (intro w6 hR hD K hK; replace hK := Lib.hid hK; skip; clear hR hD; go_simp; exact hK.out _ (Below.refl _ _))); simp only [Act.put, List.setIfInBounds_toArray, List.set_cons_zero, List.set_cons_succ, Nat.reduceAdd, List.cons_append, List.nil_append])
          (apply Par.par_x rfl; (focus (intro w6 hR hD K hK; replace hK := Lib.hid hK; obtain ⟨e1, e2, e5, e6, e7, e8, e9, e10⟩ := HS.out w6 hR; clear hR hD; go_simp; exact hK.out _ (Below.refl _ _))); simp only [Act.put, List.setIfInBounds_toArray, List.set_cons_zero, List.set_cons_succ, Nat.reduceAdd, List.cons_append, List.nil_append])
          (apply Par.par_x rfl; (focus (intro w6 hR hD K hK; replace hK := Lib.hid hK; clear hR hD; go_simp; refine (digits_nat nb (by have := (show nb ≤ 999999 by rw [← HNB.out]; exact HB.out.b); omega) w6).mono ?_; rw [HDnb.out]; rintro r w7 ⟨rfl, hb⟩; exact hK.out _ hb)); simp only [Act.put, List.setIfInBounds_toArray, List.set_cons_zero, List.set_cons_succ, Nat.reduceAdd, List.cons_append, List.nil_append])
          iterate 2 (apply Par.par_x rfl; (focus (intro w6 hR hD K hK; replace hK := Lib.hid hK; skip; clear hR hD; go_simp; exact hK.out _ (Below.refl _ _))); simp only [Act.put, List.setIfInBounds_toArray, List.set_cons_zero, List.set_cons_succ, Nat.reduceAdd, List.cons_append, List.nil_append])
          refine Par.par_end fun w6 hR hp => ?_
          clear hp
          have HB6 := Lib.hid (below_call HB2.out.drew hR)
          clear hR HS
          go_wp2
          go_ret
          refine ⟨ret_str ?_, HB6.out⟩
          rw [textE_eq, if_neg (by decide), HNA.out, show restE 10 s = [Lib.decDigits s.b] from rfl, HNB.out, ← HZV.out, ← HDna.out, ← HDnb.out, show (⟨#[32]⟩ : ByteArray) = str [32] from rfl]
          simp only [str_append]
          congr 1
          simp [rowT]
        · have b1 : ((k : Int) == 1) = false := beq_eq_false_iff_ne.2 (by omega)
          have b4 : ((k : Int) == 4) = false := beq_eq_false_iff_ne.2 (by omega)
          have b5 : ((k : Int) == 5) = false := beq_eq_false_iff_ne.2 (by omega)
          have b10 : ((k : Int) == 10) = false := beq_eq_false_iff_ne.2 (by omega)
          have q1 := cell_of_block HZ2.out 1 _ rfl
          go_wp2_with fail
          refine (digits_nat na (by have := (show na ≤ 999999 by rw [← HNA.out]; exact HB.out.a); omega) w2).mono ?_
          rintro e w3 ⟨rfl, hb3⟩
          have HB3 := Lib.hid (below_call HB2.out hb3)
          obtain ⟨d, hd⟩ : ∃ d, str (Lib.decDigits na) = d := ⟨_, rfl⟩
          have hds : d.size ≤ 21 := by rw [← hd, str_size]; exact dec_len' na (by have := (show na ≤ 999999 by rw [← HNA.out]; exact HB.out.a); omega)
          have v2 : ¬ 9223372036854775807 < zv.size + 1 + d.size := by omega
          rw [hd]
          have HD := Lib.hid hd
          clear hb3 hd
          go_wp2
          go_ret
          refine ⟨ret_str ?_, HB3.out⟩
          rw [textE_eq, if_neg h1, HNA.out, show restE k s = [] by simp [restE, h1, h4, h5, h10], ← HZV.out, ← HD.out, show (⟨#[32]⟩ : ByteArray) = str [32] from rfl]
          simp only [str_append]
          congr 1
          simp [rowT]
end Go.Proofs.YtikamehjeaoilaaGreatDoor
/-! A gang of the laws, by numbers. -/
set_option linter.unusedVariables false
set_option linter.unusedSimpArgs false
namespace Go.Proofs.YtikamehjeaoilaaGreatDoor
open Go.RowKit

/-- A slice of numbers that only is read. -/
def Nums (w : World) (v : Value) (l : List Int) : Prop :=
  ∃ a c, v = .slice a l.length c ∧ (l.length ≤ 17592186044416) ∧ ∀ i, i < l.length → ∃ b off, a = some ⟨b, off, none⟩ ∧ w.cell? ⟨b, off + i, none⟩ = some (.int .i64 (l.getD i 0))
theorem Nums.below {w w' : World} {v : Value} {l : List Int} (h : Nums w v l) (hb : Below w.heap.size w w') : Nums w' v l := by
  obtain ⟨a, c, h1, h2, h3⟩ := h
  exact ⟨a, c, h1, h2, fun i hi => by
    obtain ⟨b, off, h4, h5⟩ := h3 i hi
    exact ⟨b, off, h4, cell_below h5 hb⟩⟩
theorem nums_row {w : World} {a : Option Addr} {len cap : Nat} {zs : List Int} (h : IsRow .i64 w a len cap zs) (y : len * 8 ≤ 140737488351232) : Nums w (.slice a len cap) (zs.take len) := by
  have hl : (zs.take len).length = len := by
    rcases h with ⟨_, rfl, _, rfl⟩ | ⟨x, _, h1, _, h2, _⟩
    · rfl
    · rw [List.length_take]; omega
  refine ⟨a, cap, by rw [hl], by omega, fun i hi => ?_⟩
  rw [hl] at hi
  obtain ⟨b, off, e, _, _, hc⟩ := IsRow.at_ h (by omega)
  refine ⟨b, off, e, ?_⟩
  rw [hc i hi, List.getD_eq_getElem?_getD, List.getD_eq_getElem?_getD, List.getElem?_take_of_lt hi]
theorem PodT.grown {base : Nat} {w w' : World} {row : Option Nat} {cs : List Value} {p : PodL} (h : PodT base w cs p) (k : w.grownBy w' row) (hr : ∀ r, row = some r → r < base) : PodT base w' cs p := by
  have q : ∀ {v : Value} {l : List (List UInt8)}, Tx base w v l → Tx base w' v l := fun {v l} h => by
    obtain ⟨a, c, e, hf, hc⟩ := h
    refine ⟨a, c, e, hf, fun i hi => ?_⟩
    obtain ⟨b, off, ds, e1, e2, e3, e4⟩ := hc i hi
    refine ⟨b, off, ds, e1, e2, (k.block b (Array.getElem?_eq_some_iff.1 e3).1 fun e => ?_).trans e3, e4⟩
    have := hr b e.symm
    omega
  obtain ⟨u, v, e, h1, h2⟩ := h
  exact ⟨u, v, e, q h1, q h2⟩
theorem PodsT.set {base t : Nat} {w w' : World} {v : Value} {l : List PodL} {cs : Array Value} {T : TypeId} (h : PodsT base w v l) (ht : w.heap[t]? = some (.cells cs T (0, 0))) (h1 : 54 ≠ T) (h2 : 9 ≠ T) (k : Gb t w w') : PodsT base w' v l := by
  obtain ⟨c, h3, h4⟩ := h
  refine ⟨c, own_gbx h3 ht h1 k, fun i hi => (h4 i hi).kept fun b ds hb => Gb.block' k hb fun eg => ?_⟩
  subst eg
  rw [ht] at hb
  injection hb with hb
  injection hb with _ hb
  exact absurd hb.symm h2
theorem podsQ_succ (ns : List Int) (k : Nat) (s : Int) : podsQ ns (k + 1) s = podsQ ns k s ++ [podQ k (ns.getD k 0) s] := by simp [podsQ, List.range_succ]
theorem podsQ_len (ns : List Int) (k : Nat) (s : Int) : (podsQ ns k s).length = k := by simp [podsQ]
theorem grown_block {w w' : World} {row : Option Nat} {g : Nat} {o : Obj} (h : w.heap[g]? = some o) (hg : w.grownBy w' row) (hne : row ≠ some g) : w'.heap[g]? = some o :=
  (hg.block g (Array.getElem?_eq_some_iff.1 h).1 (fun e => hne e.symm)).trans h
set_option maxHeartbeats 8000000 in
set_option maxRecDepth 1000000 in
theorem lgang_any (gid : Int) (v : Value) (ns : List Int) (w : World) (hn : Nums w v ns) : Calls Tryz.prog 12 #[.int .i64 gid, v, .int .i64 4] w fun e w' => ∃ u, e = .returned (.agg #[.int .i64 (1 + gid % 999999), u]) ∧ PodsT w.heap.size w' u (gangQ gid ns 4) ∧ Below w.heap.size w w' := by
  have HN := Lib.hid hn
  obtain ⟨pa, pc, rfl, hnl, _⟩ := hn
  have hi1 := Int.emod_nonneg gid (show (999999 : Int) ≠ 0 by decide)
  have hi2 := Int.emod_lt_of_pos gid (show (0 : Int) < 999999 by decide)
  go_enter Tryz.func12, Tryz.ntmps12
  go_wp2_with fail
  refine (within3_any gid 999999 (by omega) (by omega) _).mono ?_
  rintro e w1 ⟨rfl, rfl⟩
  obtain ⟨r, hr⟩ : ∃ r, gid % 999999 = r := ⟨_, rfl⟩
  rw [hr] at hi1 hi2 ⊢
  have HR := Lib.hid hr
  have kr : IntKind.i64.wrap (1 + r) = 1 + r := kwid (by omega) (by omega)
  clear hr
  go_wp2_with fail
  have hz0 : ((w.alloc (.cells #[.int .i64 0, .slice none 0 0] 26)).alloc (.cells #[.int .i64 (1 + r), .slice none 0 0] 26)).heap[w.heap.size]? = some (.cells #[.int .i64 0, .slice none 0 0] 26 (0, 0)) := block_below (alloc_at _ _) (below_alloc' (Below.refl _ _) _)
  have hz1 : ((w.alloc (.cells #[.int .i64 0, .slice none 0 0] 26)).alloc (.cells #[.int .i64 (1 + r), .slice none 0 0] 26)).heap[w.heap.size + 1]? = some (.cells #[.int .i64 (1 + r), .slice none 0 0] 26 (0, 0)) := alloc_is (by simp) _
  have hb0 : Below w.heap.size w ((w.alloc (.cells #[.int .i64 0, .slice none 0 0] 26)).alloc (.cells #[.int .i64 (1 + r), .slice none 0 0] 26)) := below_alloc' (below_alloc' (Below.refl _ _) _) _
  generalize World.alloc (World.alloc w _) _ = w1 at hz0 hz1 hb0 ⊢
  have HZ0 := Lib.hid hz0
  have HZ1 := Lib.hid hz1
  have HB0 := Lib.hid hb0
  clear hz0 hz1 hb0
  go_loopw [8] (fun x wr => ∃ (k : Nat) (u : Value), x = .int .i64 k ∧ k ≤ 8 ∧ k ≤ ns.length ∧ PodsT w.heap.size wr u (podsQ ns k 4) ∧ wr.heap[w.heap.size]? = some (.cells #[.int .i64 0, .slice none 0 0] 26 (0, 0)) ∧ wr.heap[w.heap.size + 1]? = some (.cells #[.int .i64 (1 + r), u] 26 (0, 0)) ∧ Below w.heap.size w wr) (fun x _ => 9 - (intOf x).toNat)
  case atStart => exact ⟨0, .slice none 0 0, rfl, by omega, Nat.zero_le _, PodsT.nil _ _, HZ0.out, HZ1.out, HB0.out⟩
  case round =>
    obtain ⟨k, u, rfl, hk8, hkn, hpods, hz0, hz1, hb⟩ := hrel
    obtain ⟨cc, hown, _⟩ := id hpods
    obtain ⟨ua, uc, rfl⟩ := own_slicen hown
    rw [podsQ_len] at hown hz1 hpods
    have HOW := Lib.hid hown
    have HPO := Lib.hid hpods
    have HZ0 := Lib.hid hz0
    have HZ1 := Lib.hid hz1
    have HB := Lib.hid hb
    have hlo : ∀ q, Value.ownBlock (.slice ua k uc) = some q → w.heap.size ≤ q ∧ q < wr.heap.size := fun q hq => HOW.out.lt q hq
    clear hpods hown hz0 hz1 hb
    by_cases hgo : k < ns.length ∧ k < 8
    · obtain ⟨hlt, h8⟩ := hgo
      have hlt' : (k : Int) < ns.length := by omega
      have h8' : (k : Int) < 8 := by omega
      obtain ⟨bb, off, rfl, hcl⟩ : ∃ bb off, pa = some ⟨bb, off, none⟩ ∧ ∀ w6, Below wr.drew.heap.size wr.drew w6 → w6.cell? ⟨bb, off + k, none⟩ = some (.int .i64 (ns.getD k 0)) := by
        obtain ⟨a', c', e, _, h⟩ := HN.out
        injection e with e1 e2 e3
        subst e1
        obtain ⟨bb, off, h1, h2⟩ := h k hlt
        exact ⟨bb, off, h1, fun w6 h6 => cell_below h2 (below_call HB.out.drew h6)⟩
      obtain ⟨nk, hnk⟩ : ∃ nk, ns.getD k 0 = nk := ⟨_, rfl⟩
      rw [hnk] at hcl
      have HNK := Lib.hid hnk
      have HCL := Lib.hid hcl
      have HLO := Lib.hid hlo
      clear hnk hcl hlo
      obtain ⟨pk, hpk⟩ : ∃ pk, podQ k nk 4 = pk := ⟨_, rfl⟩
      have hcon := fun w => lpod_any k (by omega) nk 4 (by omega) (by omega) w
      rw [hpk] at hcon
      have HPK := Lib.hid hpk
      have HCON := Lib.hid hcon
      clear hpk hcon
      go_upto_region 5 with fail
      refine' Par.wp_region_pars (fun w w' => Below w.heap.size w w') 10 (by kernel_rfl) (by kernel_rfl) (by kernel_rfl) (by kernel_rfl) (by kernel_rfl) (by kernel_rfl)
        (fun w => Below.refl _ w) (fun h k => below_call h k) (fun vals => ?_)
      rotate_left
      simp only [List.take_succ_cons, List.take_zero, List.drop_succ_cons, List.drop_zero]
      (apply Par.par_x rfl; (focus (intro w6 hR hD K hK; replace hK := Lib.hid hK; skip; clear hR hD; go_simp; exact hK.out _ (Below.refl _ _))); simp only [Act.put, List.setIfInBounds_toArray, List.set_cons_zero, List.set_cons_succ, Nat.reduceAdd, List.cons_append, List.nil_append])
      (apply Par.par_x rfl; (focus (intro w6 hR hD K hK; replace hK := Lib.hid hK; have e := cell_of_block (block_below (w := wr.drew) HZ1.out hR) 1 _ rfl; clear hR hD; go_simp; exact hK.out _ (Below.refl _ _))); simp only [Act.put, List.setIfInBounds_toArray, List.set_cons_zero, List.set_cons_succ, Nat.reduceAdd, List.cons_append, List.nil_append])
      iterate 4 (apply Par.par_x rfl; (focus (intro w6 hR hD K hK; replace hK := Lib.hid hK; skip; clear hR hD; go_simp; exact hK.out _ (Below.refl _ _))); simp only [Act.put, List.setIfInBounds_toArray, List.set_cons_zero, List.set_cons_succ, Nat.reduceAdd, List.cons_append, List.nil_append])
      (apply Par.par_x rfl; (focus (intro w6 hR hD K hK; replace hK := Lib.hid hK; have e := HCL.out w6 hR; clear hR hD; go_simp; exact hK.out _ (Below.refl _ _))); simp only [Act.put, List.setIfInBounds_toArray, List.set_cons_zero, List.set_cons_succ, Nat.reduceAdd, List.cons_append, List.nil_append])
      (apply Par.par_x rfl; (focus (intro w6 hR hD K hK; replace hK := Lib.hid hK; skip; clear hR hD; go_simp; exact hK.out _ (Below.refl _ _))); simp only [Act.put, List.setIfInBounds_toArray, List.set_cons_zero, List.set_cons_succ, Nat.reduceAdd, List.cons_append, List.nil_append])
      (apply Par.par_r (fun v w' => ∃ cs : List Value, v = .agg cs.toArray ∧ PodT w.heap.size w' cs pk) rfl (fun v w1 w2 h k => by obtain ⟨cs, h1, h2⟩ := h; exact ⟨cs, h1, h2.below k⟩); (focus (intro w6 hR hD K hK; replace hK := Lib.hid hK; have hs6 : w.heap.size ≤ w6.heap.size := Nat.le_trans HB.out.size hR.size; have HS6 := Lib.hid hs6; clear hR hD hs6; go_simp; refine (HCON.out w6).mono ?_; rintro e w7 ⟨cs, rfl, hp, hb⟩; exact hK.out _ _ hb ⟨cs, rfl, hp.base HS6.out⟩)); simp only [Act.put, List.setIfInBounds_toArray, List.set_cons_zero, List.set_cons_succ, Nat.reduceAdd, List.cons_append, List.nil_append])
      (apply Par.par_r (fun v w' => ∃ (g9 : Nat) (cs : List Value), v = .slice (some ⟨g9, 0, none⟩) 1 1 ∧ w'.heap[g9]? = some (.cells cs.toArray 54 (0, 0)) ∧ PodT w.heap.size w' cs pk) rfl (fun v w1 w2 h k => by obtain ⟨g9, cs, h1, h2, h3⟩ := h; exact ⟨g9, cs, h1, block_below h2 k, h3.below k⟩); (focus (intro w6 hR hD K hK; replace hK := Lib.hid hK; obtain ⟨cs, e8, hp8⟩ : ∃ cs : List Value, vals 8 = .agg cs.toArray ∧ PodT w.heap.size w6 cs pk := hD 8 (by kernel_rfl); have HP8 := Lib.hid hp8; obtain ⟨pu, pv, ecs, hu, hv⟩ := hp8; obtain ⟨au, cu, rfl, -⟩ := hu; obtain ⟨av, cv, rfl, -⟩ := hv; rw [ecs] at e8 HP8; simp only [e8] at hK ⊢; clear hR hD e8 ecs; go_simp; exact hK.out _ _ (below_alloc' (Below.refl _ _) _) ⟨_, _, rfl, alloc_at _ _, HP8.out.below (below_alloc' (Below.refl _ _) _)⟩)); simp only [Act.put, List.setIfInBounds_toArray, List.set_cons_zero, List.set_cons_succ, Nat.reduceAdd, List.cons_append, List.nil_append])
      refine Par.par_end fun w6 hR hp => ?_
      obtain ⟨g9, cs, e9, hz9, hp9⟩ : ∃ (g9 : Nat) (cs : List Value), vals 9 = .slice (some ⟨g9, 0, none⟩) 1 1 ∧ w6.heap[g9]? = some (.cells cs.toArray 54 (0, 0)) ∧ PodT w.heap.size w6 cs pk := hp 9 (by simp)
      clear hp
      simp only [e9]
      have hP6 : PodsT w.heap.size w6 (.slice ua k uc) (podsQ ns k 4) := HPO.out.below (w := wr.drew) hR
      obtain ⟨c6, hown6, hel6⟩ := id hP6
      rw [podsQ_len] at hown6
      have hz6 := block_below (w := wr.drew) HZ1.out hR
      have hy6 := block_below (w := wr.drew) HZ0.out hR
      have hb6 := below_call HB.out.drew hR
      have hlb := fun q hq => (hown6.lt q hq).1
      refine list_appends elt_pods _ _ rfl rfl rfl rfl hown6 (show cs.length = 1 * 7 from hp9.len) (fun j x hx => news_row hz9 j x (by simpa using hx)) hp9.one (by omega) hb6.size ?_
      intro v' w7 hown7 hg7
      have hz7 := grown_block hz6 hg7 (own_ne hown6 hz6 (by decide))
      have hy7 := grown_block hy6 hg7 (own_ne hown6 hy6 (by decide))
      have hP7 : PodsT w.heap.size w7 v' (podsQ ns (k + 1) 4) := by
        rw [podsQ_succ, HNK.out, HPK.out]
        have e := podsQ_len ns k 4
        rw [← e] at hown6 hown7
        rw [← e] at hg7
        exact PodsT.snoc hown6 hel6 hp9 hown7 hg7
      have hb7 := hb6.grown hg7 hb6.size hlb
      obtain ⟨y1, y2, ev⟩ := own_slicen hown7
      subst ev
      have HZ7 := Lib.hid hz7
      have HY7 := Lib.hid hy7
      have HP7 := Lib.hid hP7
      have HB7 := Lib.hid hb7
      have c1 := cell_of_block hz7 1 _ rfl
      have f1 := free_of_block hz7 1
      clear hz6 hy6 hb6 hlb hown6 hel6 hP6 hz9 hp9 hown7 hg7 hz7 hy7 hP7 hb7 hR e9
      go_wp2_with fail
      go_roundw
      case rel =>
        refine ⟨k + 1, _, by go_num, by omega, by omega, HP7.out.set HZ7.out (by decide) (by decide) (Gb.set w7 _ 1 _), ?_, heap_setCell_same w7 _ 1 _ _ _ HZ7.out, ?_⟩
        · exact (Below.heap_setCell w7 ⟨w.heap.size + 1, 1, none⟩ _ w.heap.size (by simp)).trans HY7.out
        · exact HB7.out.setCell (p := ⟨w.heap.size + 1, 1, none⟩) (by simp) _
      case measure => simp [intOf]; omega
    · have c1 := cell_of_block HZ1.out 1 _ rfl
      have c0 := cell_of_block HZ1.out 0 _ rfl
      have d0 := cell_of_block HZ0.out 0 _ rfl
      have d1 := cell_of_block HZ0.out 1 _ rfl
      have g0 := free_of_block HZ0.out 0
      have g1 := free_of_block HZ0.out 1
      by_cases hk0 : k = 0
      · subst hk0
        have hl0 : ns.length = 0 := by omega
        obtain rfl : ns = [] := List.length_eq_zero_iff.1 hl0
        have hx : ¬ ((0 : Nat) : Int) < (([] : List Int).length : Int) := by simp
        obtain ⟨pk, hpk⟩ : ∃ pk, podQ 0 gid 4 = pk := ⟨_, rfl⟩
        have hcon := fun w => lpod_any 0 (by omega) gid 4 (by omega) (by omega) w
        rw [hpk] at hcon
        have HPK := Lib.hid hpk
        have HCON := Lib.hid hcon
        clear hpk hcon
        go_upto_region 7 with fail
        clear c0 c1 d0 d1 g0 g1
        refine' Par.wp_region_pars (fun w w' => Below w.heap.size w w') 6 (by kernel_rfl) (by kernel_rfl) (by kernel_rfl) (by kernel_rfl) (by kernel_rfl) (by kernel_rfl)
          (fun w => Below.refl _ w) (fun h k => below_call h k) (fun vals => ?_)
        rotate_left
        simp only [List.take_succ_cons, List.take_zero, List.drop_succ_cons, List.drop_zero]
        (apply Par.par_x rfl; (focus (intro w6 hR hD K hK; replace hK := Lib.hid hK; skip; clear hR hD; go_simp; exact hK.out _ (Below.refl _ _))); simp only [Act.put, List.setIfInBounds_toArray, List.set_cons_zero, List.set_cons_succ, Nat.reduceAdd, List.cons_append, List.nil_append])
        (apply Par.par_x rfl; (focus (intro w6 hR hD K hK; replace hK := Lib.hid hK; have e := cell_of_block (block_below (w := wr.drew) HZ1.out hR) 1 _ rfl; clear hR hD; go_simp; exact hK.out _ (Below.refl _ _))); simp only [Act.put, List.setIfInBounds_toArray, List.set_cons_zero, List.set_cons_succ, Nat.reduceAdd, List.cons_append, List.nil_append])
        iterate 2 (apply Par.par_x rfl; (focus (intro w6 hR hD K hK; replace hK := Lib.hid hK; skip; clear hR hD; go_simp; exact hK.out _ (Below.refl _ _))); simp only [Act.put, List.setIfInBounds_toArray, List.set_cons_zero, List.set_cons_succ, Nat.reduceAdd, List.cons_append, List.nil_append])
        (apply Par.par_r (fun v w' => ∃ cs : List Value, v = .agg cs.toArray ∧ PodT w.heap.size w' cs pk) rfl (fun v w1 w2 h k => by obtain ⟨cs, h1, h2⟩ := h; exact ⟨cs, h1, h2.below k⟩); (focus (intro w6 hR hD K hK; replace hK := Lib.hid hK; have hs6 : w.heap.size ≤ w6.heap.size := Nat.le_trans HB.out.size hR.size; have HS6 := Lib.hid hs6; clear hR hD hs6; go_simp; refine (HCON.out w6).mono ?_; rintro e w7 ⟨cs, rfl, hp, hb⟩; exact hK.out _ _ hb ⟨cs, rfl, hp.base HS6.out⟩)); simp only [Act.put, List.setIfInBounds_toArray, List.set_cons_zero, List.set_cons_succ, Nat.reduceAdd, List.cons_append, List.nil_append])
        (apply Par.par_r (fun v w' => ∃ (g9 : Nat) (cs : List Value), v = .slice (some ⟨g9, 0, none⟩) 1 1 ∧ w'.heap[g9]? = some (.cells cs.toArray 54 (0, 0)) ∧ PodT w.heap.size w' cs pk) rfl (fun v w1 w2 h k => by obtain ⟨g9, cs, h1, h2, h3⟩ := h; exact ⟨g9, cs, h1, block_below h2 k, h3.below k⟩); (focus (intro w6 hR hD K hK; replace hK := Lib.hid hK; obtain ⟨cs, e8, hp8⟩ : ∃ cs : List Value, vals 4 = .agg cs.toArray ∧ PodT w.heap.size w6 cs pk := hD 4 (by kernel_rfl); have HP8 := Lib.hid hp8; obtain ⟨pu, pv, ecs, hu, hv⟩ := hp8; obtain ⟨au, cu, rfl, -⟩ := hu; obtain ⟨av, cv, rfl, -⟩ := hv; rw [ecs] at e8 HP8; simp only [e8] at hK ⊢; clear hR hD e8 ecs; go_simp; exact hK.out _ _ (below_alloc' (Below.refl _ _) _) ⟨_, _, rfl, alloc_at _ _, HP8.out.below (below_alloc' (Below.refl _ _) _)⟩)); simp only [Act.put, List.setIfInBounds_toArray, List.set_cons_zero, List.set_cons_succ, Nat.reduceAdd, List.cons_append, List.nil_append])
        refine Par.par_end fun w6 hR hp => ?_
        obtain ⟨g9, cs, e9, hz9, hp9⟩ : ∃ (g9 : Nat) (cs : List Value), vals 5 = .slice (some ⟨g9, 0, none⟩) 1 1 ∧ w6.heap[g9]? = some (.cells cs.toArray 54 (0, 0)) ∧ PodT w.heap.size w6 cs pk := hp 5 (by simp)
        clear hp
        simp only [e9]
        have hP6 : PodsT w.heap.size w6 (.slice ua 0 uc) [] := HPO.out.below (w := wr.drew) hR
        obtain ⟨c6, hown6, hel6⟩ := id hP6
        have hz6 := block_below (w := wr.drew) HZ1.out hR
        have hy6 := block_below (w := wr.drew) HZ0.out hR
        have hb6 := below_call HB.out.drew hR
        have hlb := fun q hq => (hown6.lt q hq).1
        refine list_appends elt_pods _ _ rfl rfl rfl rfl hown6 (show cs.length = 1 * 7 from hp9.len) (fun j x hx => news_row hz9 j x (by simpa using hx)) hp9.one (by simp) hb6.size ?_
        intro v' w7 hown7 hg7
        have hz7 := grown_block hz6 hg7 (own_ne hown6 hz6 (by decide))
        have hy7 := grown_block hy6 hg7 (own_ne hown6 hy6 (by decide))
        have hP7 : PodsT w.heap.size w7 v' (gangQ gid [] 4) := by
          have := PodsT.snoc hown6 hel6 hp9 hown7 hg7
          unfold gangQ
          rw [if_pos rfl, HPK.out]
          exact this
        have hb7 := hb6.grown hg7 hb6.size hlb
        obtain ⟨y1, y2, ev⟩ := own_slicen hown7
        subst ev
        have HZ7 := Lib.hid (heap_setCell_same w7 _ 1 _ _ (.slice y1 1 y2) hz7)
        have HY7 := Lib.hid ((Below.heap_setCell w7 ⟨w.heap.size + 1, 1, none⟩ (.slice y1 1 y2) w.heap.size (by simp)).trans hy7)
        have HP7 := Lib.hid (hP7.set hz7 (by decide) (by decide) (Gb.set w7 _ 1 (.slice y1 1 y2)))
        have HB7 := Lib.hid (hb7.setCell (p := ⟨w.heap.size + 1, 1, none⟩) (by simp) (.slice y1 1 y2))
        have c1 := cell_of_block hz7 1 _ rfl
        have f1 := free_of_block hz7 1
        clear hz6 hy6 hb6 hlb hown6 hel6 hP6 hz9 hp9 hown7 hg7 hz7 hy7 hP7 hb7 hR e9
        go_upto_region 8 with fail
        clear c1 f1
        generalize World.setCell w7 _ _ = w8 at HZ7 HY7 HP7 HB7 ⊢
        have d0 := cell_of_block HY7.out 0 _ rfl
        have d1 := cell_of_block HY7.out 1 _ rfl
        have g0 := free_of_block HY7.out 0
        have g1 := free_of_block HY7.out 1
        have c0 := cell_of_block HZ7.out 0 _ rfl
        have c1 := cell_of_block HZ7.out 1 _ rfl
        go_wp2_with fail
        have z2 := set2 (.int .i64 (1 + r)) (.slice y1 1 y2) HY7.out
        have hp2 := (HP7.out.set HY7.out (by decide) (by decide) (Gb.set w8 w.heap.size 0 (.int .i64 (1 + r)))).set (heap_setCell_same w8 _ 0 _ _ _ HY7.out) (by decide) (by decide) (Gb.set _ w.heap.size 1 (.slice y1 1 y2))
        have hb2 := (HB7.out.setCell (p := ⟨w.heap.size, 0, none⟩) (by simp) (.int .i64 (1 + r))).setCell (p := ⟨w.heap.size, 1, none⟩) (by simp) (.slice y1 1 y2)
        generalize World.setCell (World.setCell w8 _ _) _ _ = W8 at z2 hp2 hb2 ⊢
        have r0 := cell_of_block z2 0 _ rfl
        have r1 := cell_of_block z2 1 _ rfl
        refine bodyPost_ret (v := .agg #[.int .i64 (1 + r), .slice y1 1 y2]) (by simp [results, Tryz.results12, go_sem, r0, r1]) rfl ?_
        exact ⟨.slice y1 1 y2, by rw [HR.out], hp2, hb2⟩
      · have hke : ¬ ((k : Int) = 0) := by omega
        have hkb : ((k : Int) == 0) = false := beq_eq_false_iff_ne.2 hke
        have hgq : gangQ gid ns 4 = podsQ ns k 4 := by
          have : min 8 ns.length = k := by omega
          unfold gangQ
          rw [if_neg (by rintro rfl; simp at hkn; omega), this]
        have HGQ := Lib.hid hgq
        clear hgq hke
        by_cases h8 : k < 8
        · have hx : ¬ (k : Int) < ns.length := by omega
          have h8' : (k : Int) < 8 := by omega
          go_wp2_with fail
          have z2 := set2 (.int .i64 (1 + r)) (.slice ua k uc) HZ0.out
          have hp2 := (HPO.out.set HZ0.out (by decide) (by decide) (Gb.set wr w.heap.size 0 (.int .i64 (1 + r)))).set (heap_setCell_same wr _ 0 _ _ _ HZ0.out) (by decide) (by decide) (Gb.set _ w.heap.size 1 (.slice ua k uc))
          have hb2 := (HB.out.setCell (p := ⟨w.heap.size, 0, none⟩) (by simp) (.int .i64 (1 + r))).setCell (p := ⟨w.heap.size, 1, none⟩) (by simp) (.slice ua k uc)
          generalize World.setCell (World.setCell wr _ _) _ _ = W8 at z2 hp2 hb2 ⊢
          have r0 := cell_of_block z2 0 _ rfl
          have r1 := cell_of_block z2 1 _ rfl
          refine bodyPost_ret (v := .agg #[.int .i64 (1 + r), .slice ua k uc]) (by simp [results, Tryz.results12, go_sem, r0, r1]) rfl ?_
          exact ⟨.slice ua k uc, by rw [HR.out], by rw [HGQ.out]; exact hp2, hb2⟩
        · have hx : ¬ (k : Int) < 8 := by omega
          go_wp2_with fail
          have z2 := set2 (.int .i64 (1 + r)) (.slice ua k uc) HZ0.out
          have hp2 := (HPO.out.set HZ0.out (by decide) (by decide) (Gb.set wr w.heap.size 0 (.int .i64 (1 + r)))).set (heap_setCell_same wr _ 0 _ _ _ HZ0.out) (by decide) (by decide) (Gb.set _ w.heap.size 1 (.slice ua k uc))
          have hb2 := (HB.out.setCell (p := ⟨w.heap.size, 0, none⟩) (by simp) (.int .i64 (1 + r))).setCell (p := ⟨w.heap.size, 1, none⟩) (by simp) (.slice ua k uc)
          generalize World.setCell (World.setCell wr _ _) _ _ = W8 at z2 hp2 hb2 ⊢
          have r0 := cell_of_block z2 0 _ rfl
          have r1 := cell_of_block z2 1 _ rfl
          refine bodyPost_ret (v := .agg #[.int .i64 (1 + r), .slice ua k uc]) (by simp [results, Tryz.results12, go_sem, r0, r1]) rfl ?_
          exact ⟨.slice ua k uc, by rw [HR.out], by rw [HGQ.out]; exact hp2, hb2⟩
end Go.Proofs.YtikamehjeaoilaaGreatDoor
