/- A node's record as a line, whole. -/
import Derived.Test.YtofofjfmhaggmaaGreatDoorJh
set_option linter.unusedVariables false
set_option linter.unusedSimpArgs false
namespace Go.Proofs.YtofofjfmhaggmaaGreatDoor
open Go.RowKit

theorem own_lit' {w : World} {g base n size : Nat} {cs : Array Value} {e : TypeId} (h : w.heap[g]? = some (.cells cs e (0, 0))) (hs : cs.size = n * size) (hn : n ≤ maxLen) (hb : base ≤ g) : w.ownsRow base e size (.slice (some ⟨g, 0, none⟩) n n) n cs.toList :=
  ⟨by rw [Array.length_toList]; exact hs, .inr ⟨g, n, cs, rfl, hb, h, Nat.le_refl _, hn, hs, by rw [← hs, ← Array.length_toList, List.take_length]⟩⟩
theorem node_str (n : NodeL) : str n.name ++ (⟨#[58]⟩ : ByteArray) ++ str (vecT n.cpu n.mem) ++ str (rowT 43 n.marks) ++ str (rowT 126 n.taints) ++ str (flagT n.closed) = str (nodeT n) := by
  rw [show (⟨#[58]⟩ : ByteArray) = str [58] from rfl]
  simp only [str_append]
  congr 1
  simp [nodeT, tailT]
set_option maxHeartbeats 8000000 in
set_option maxRecDepth 1000000 in
theorem ltext_node (n : NodeL) (u x : Value) (w : World) (ht : Tabs w) (hu : Rows w u n.marks) (hx : Rows w x n.taints) (h2 : n.cpu ≤ 9223372036854775807) (h3 : n.mem ≤ 9223372036854775807) (hl : (nodeT n).length ≤ 4294967000) :
    Calls Tryz.prog 110 #[.agg #[.int .i64 1, .int .i64 0, .slice none 0 0, .slice none 0 0, .string (str n.name), .int .i64 n.cpu, .int .i64 n.mem, u, x, .bool n.closed]] w fun e w' => e = .returned (.string (str ([110, 111, 100, 101, 32] ++ nodeT n))) ∧ Below w.heap.size w w' := by
  have HT := Lib.hid ht
  obtain ⟨au, cu, rfl, hul, hcu⟩ := id hu
  obtain ⟨ax, cx, rfl, hxl, hcx⟩ := id hx
  have HU := Lib.hid hu
  have HX := Lib.hid hx
  have hlen : (nodeT n).length = n.name.length + (1 + ((vecT n.cpu n.mem).length + ((rowT 43 n.marks).length + ((rowT 126 n.taints).length + (flagT n.closed).length)))) := by simp [nodeT, tailT]; omega
  obtain ⟨zn, hzn⟩ : ∃ z, str n.name = z := ⟨_, rfl⟩
  obtain ⟨zv, hzv⟩ : ∃ z, str (vecT n.cpu n.mem) = z := ⟨_, rfl⟩
  obtain ⟨zm, hzm⟩ : ∃ z, str (rowT 43 n.marks) = z := ⟨_, rfl⟩
  obtain ⟨zt, hzt⟩ : ∃ z, str (rowT 126 n.taints) = z := ⟨_, rfl⟩
  obtain ⟨zf, hzf⟩ : ∃ z, str (flagT n.closed) = z := ⟨_, rfl⟩
  have s0 : zn.size = n.name.length := by rw [← hzn, str_size]
  have s1 : zv.size = (vecT n.cpu n.mem).length := by rw [← hzv, str_size]
  have s2 : zm.size = (rowT 43 n.marks).length := by rw [← hzm, str_size]
  have s3 : zt.size = (rowT 126 n.taints).length := by rw [← hzt, str_size]
  have s4 : zf.size = (flagT n.closed).length := by rw [← hzf, str_size]
  have a1 : ¬ 9223372036854775807 < zn.size + 1 := by omega
  have a2 : ¬ 9223372036854775807 < zn.size + 1 + zv.size := by omega
  have a3 : ¬ 9223372036854775807 < zn.size + 1 + zv.size + zm.size := by omega
  have a4 : ¬ 9223372036854775807 < zn.size + 1 + zv.size + zm.size + zt.size := by omega
  have a5 : ¬ 9223372036854775807 < zn.size + 1 + zv.size + zm.size + zt.size + zf.size := by omega
  have HLU := Lib.hid (show (rowT 43 n.marks).length ≤ 4294967000 by omega)
  have HLX := Lib.hid (show (rowT 126 n.taints).length ≤ 4294967000 by omega)
  have HLL := Lib.hid hl
  have hcat : zn ++ (⟨#[58]⟩ : ByteArray) ++ zv ++ zm ++ zt ++ zf = str (nodeT n) := by rw [← hzn, ← hzv, ← hzm, ← hzt, ← hzf]; exact node_str n
  have HCAT := Lib.hid hcat
  obtain ⟨n2, hn2⟩ : ∃ k, n.cpu = k := ⟨_, rfl⟩
  obtain ⟨n3, hn3⟩ : ∃ k, n.mem = k := ⟨_, rfl⟩
  obtain ⟨fl, hfl⟩ : ∃ k, n.closed = k := ⟨_, rfl⟩
  obtain ⟨nu, hnu⟩ : ∃ k, n.marks.length = k := ⟨_, rfl⟩
  obtain ⟨nx, hnx⟩ : ∃ k, n.taints.length = k := ⟨_, rfl⟩
  rw [hn2, hn3] at hzv
  rw [hn2] at h2
  rw [hn3] at h3
  rw [hfl] at hzf
  rw [hzn, hn2, hn3, hfl, hnu, hnx]
  rw [hnu] at HU
  rw [hnx] at HX
  have HN2 := Lib.hid h2
  have HN3 := Lib.hid h3
  have HV := Lib.hid hzv
  have HM := Lib.hid hzm
  have HTA := Lib.hid hzt
  have HFG := Lib.hid hzf
  clear ht hu hx hul hcu hxl hcx hlen hzn hzv hzm hzt hzf s0 s1 s2 s3 s4 hcat hn2 hn3 hfl hnu hnx h2 h3 hl
  go_enter Tryz.func110, Tryz.ntmps110
  go_wp2_with fail
  have hz0 : ((w.alloc (.cells #[.int .i64 1, .int .i64 0, .slice none 0 0, .slice none 0 0, .string zn, .int .i64 n2, .int .i64 n3, .slice au nu cu, .slice ax nx cx, .bool fl] 67)).alloc (.cells #[.string ⟨#[]⟩] 9)).heap[w.heap.size]? = some (.cells #[.int .i64 1, .int .i64 0, .slice none 0 0, .slice none 0 0, .string zn, .int .i64 n2, .int .i64 n3, .slice au nu cu, .slice ax nx cx, .bool fl] 67 (0, 0)) := by rw [Below.heap_alloc _ _ _ (by simp)]; exact alloc_at _ _
  have hl0 : ((w.alloc (.cells #[.int .i64 1, .int .i64 0, .slice none 0 0, .slice none 0 0, .string zn, .int .i64 n2, .int .i64 n3, .slice au nu cu, .slice ax nx cx, .bool fl] 67)).alloc (.cells #[.string ⟨#[]⟩] 9)).heap[w.heap.size + 1]? = some (.cells #[.string ⟨#[]⟩] 9 (0, 0)) := alloc_second _ _ _
  have hb0 : Below w.heap.size w ((w.alloc (.cells #[.int .i64 1, .int .i64 0, .slice none 0 0, .slice none 0 0, .string zn, .int .i64 n2, .int .i64 n3, .slice au nu cu, .slice ax nx cx, .bool fl] 67)).alloc (.cells #[.string ⟨#[]⟩] 9)) := below_alloc' (below_alloc' (Below.refl _ _) _) _
  generalize World.alloc (World.alloc w _) _ = w1 at hz0 hl0 hb0 ⊢
  refine (fields_const _ lverbs lverbs_fields (by decide +kernel) (by decide) _ (HT.out.below hb0)).mono ?_
  rintro e w2 ⟨rfl, hf, hb2⟩
  rw [show lverbs.length = 7 from rfl]
  have cf : w2.cell? ⟨w1.heap.size, 0, none⟩ = some (.string ⟨#[110, 111, 100, 101]⟩) := hf.cell (j := 0) (by decide)
  have hz2 := block_below hz0 hb2
  have hl2 := block_below hl0 hb2
  have hb20 := below_call hb0 hb2
  have r0 := cell_of_block hz2 0 _ rfl
  have g0 := cell_of_block hl2 0 _ rfl
  have ff := free_of_block hl2 0
  have hz3 := (Below.heap_setCell w2 ⟨w.heap.size + 1, 0, none⟩ (.string ⟨#[110, 111, 100, 101]⟩) w.heap.size (by simp)).trans hz2
  have hl3 := heap_setCell_same w2 (w.heap.size + 1) 0 _ _ (.string ⟨#[110, 111, 100, 101]⟩) hl2
  have hb3 := hb20.setCell (p := ⟨w.heap.size + 1, 0, none⟩) (Nat.le_succ _) (.string ⟨#[110, 111, 100, 101]⟩)
  have q0 := fun o => cell_of_block (block_below hz3 (below_alloc' (Below.refl _ _) o)) 0 _ rfl
  have q4 := cell_of_block hz3 4 _ rfl
  have q5 := cell_of_block hz3 5 _ rfl
  have q6 := cell_of_block hz3 6 _ rfl
  have q7 := cell_of_block hz3 7 _ rfl
  have q8 := cell_of_block hz3 8 _ rfl
  have q9 := cell_of_block hz3 9 _ rfl
  have HZ3 := Lib.hid hz3
  have HL3 := Lib.hid hl3
  have HB3 := Lib.hid hb3
  clear hz0 hl0 hb0 hf hz2 hl2 hb20 hz3 hl3 hb3 hb2
  go_upto_region 8 with fail
  have hz5 : ((w2.setCell ⟨w.heap.size + 1, 0, none⟩ (.string ⟨#[110, 111, 100, 101]⟩)).alloc (.cells #[.string zn, .int .i64 n2, .int .i64 n3, .slice au nu cu, .slice ax nx cx, .bool fl] 60)).heap[w.heap.size]? = some (.cells #[.int .i64 1, .int .i64 0, .slice none 0 0, .slice none 0 0, .string zn, .int .i64 n2, .int .i64 n3, .slice au nu cu, .slice ax nx cx, .bool fl] 67 (0, 0)) := block_below HZ3.out (below_alloc' (Below.refl _ _) _)
  have hl5 : ((w2.setCell ⟨w.heap.size + 1, 0, none⟩ (.string ⟨#[110, 111, 100, 101]⟩)).alloc (.cells #[.string zn, .int .i64 n2, .int .i64 n3, .slice au nu cu, .slice ax nx cx, .bool fl] 60)).heap[w.heap.size + 1]? = some (.cells #[.string ⟨#[110, 111, 100, 101]⟩] 9 (0, 0)) := block_below HL3.out (below_alloc' (Below.refl _ _) _)
  have hn5 : ((w2.setCell ⟨w.heap.size + 1, 0, none⟩ (.string ⟨#[110, 111, 100, 101]⟩)).alloc (.cells #[.string zn, .int .i64 n2, .int .i64 n3, .slice au nu cu, .slice ax nx cx, .bool fl] 60)).heap[w2.heap.size]? = some (.cells #[.string zn, .int .i64 n2, .int .i64 n3, .slice au nu cu, .slice ax nx cx, .bool fl] 60 (0, 0)) := alloc_is (by simp) _
  have hb5 : Below w.heap.size w ((w2.setCell ⟨w.heap.size + 1, 0, none⟩ (.string ⟨#[110, 111, 100, 101]⟩)).alloc (.cells #[.string zn, .int .i64 n2, .int .i64 n3, .slice au nu cu, .slice ax nx cx, .bool fl] 60)) := below_call HB3.out (below_alloc' (Below.refl _ _) _)
  generalize World.alloc _ (.cells #[.string zn, .int .i64 n2, .int .i64 n3, .slice au nu cu, .slice ax nx cx, .bool fl] 60) = w5 at hz5 hl5 hn5 hb5 ⊢
  have hs : ∀ w6, Below w5.drew.heap.size w5.drew w6 → w6.cell? ⟨w2.heap.size, 0, none⟩ = some (.string zn) ∧ w6.cell? ⟨w2.heap.size, 1, none⟩ = some (.int .i64 n2) ∧ w6.cell? ⟨w2.heap.size, 2, none⟩ = some (.int .i64 n3) ∧ w6.cell? ⟨w2.heap.size, 3, none⟩ = some (.slice au nu cu) ∧ w6.cell? ⟨w2.heap.size, 4, none⟩ = some (.slice ax nx cx) ∧ w6.cell? ⟨w2.heap.size, 5, none⟩ = some (.bool fl) := fun w6 h => by
    have hz := block_below (w := w5.drew) hn5 h
    exact ⟨cell_of_block hz 0 _ rfl, cell_of_block hz 1 _ rfl, cell_of_block hz 2 _ rfl, cell_of_block hz 3 _ rfl, cell_of_block hz 4 _ rfl, cell_of_block hz 5 _ rfl⟩
  have HS := Lib.hid hs
  have HRU := Lib.hid (HU.out.below hb5.drew)
  have HRX := Lib.hid (HX.out.below hb5.drew)
  have HB5 := Lib.hid hb5
  have HZ5 := Lib.hid hz5
  have HL5 := Lib.hid hl5
  clear hs hb5 hz5 hl5 hn5 q0 q4 q5 q6 q7 q8 q9 r0 g0 ff cf
  refine' Par.wp_region_pars (fun w w' => Below w.heap.size w w') 21 (by kernel_rfl) (by kernel_rfl) (by kernel_rfl) (by kernel_rfl) (by kernel_rfl) (by kernel_rfl)
    (fun w => Below.refl _ w) (fun h k => below_call h k) (fun vals => ?_)
  rotate_left
  simp only [List.take_succ_cons, List.take_zero, List.drop_succ_cons, List.drop_zero]
  iterate 2 (apply Par.par_x rfl; (focus (intro w6 hR hD K hK; replace hK := Lib.hid hK; skip; clear hR hD; go_simp; exact hK.out _ (Below.refl _ _))); simp only [Act.put, List.setIfInBounds_toArray, List.set_cons_zero, List.set_cons_succ, Nat.reduceAdd, List.cons_append, List.nil_append])
  (apply Par.par_x rfl; (focus (intro w6 hR hD K hK; replace hK := Lib.hid hK; obtain ⟨e0, e1, e2, e3, e4, e5⟩ := HS.out w6 hR; clear hR hD; go_simp; exact hK.out _ (Below.refl _ _))); simp only [Act.put, List.setIfInBounds_toArray, List.set_cons_zero, List.set_cons_succ, Nat.reduceAdd, List.cons_append, List.nil_append])
  iterate 2 (apply Par.par_x rfl; (focus (intro w6 hR hD K hK; replace hK := Lib.hid hK; skip; clear hR hD; go_simp; exact hK.out _ (Below.refl _ _))); simp only [Act.put, List.setIfInBounds_toArray, List.set_cons_zero, List.set_cons_succ, Nat.reduceAdd, List.cons_append, List.nil_append])
  (apply Par.par_x rfl; (focus (intro w6 hR hD K hK; replace hK := Lib.hid hK; obtain ⟨e0, e1, e2, e3, e4, e5⟩ := HS.out w6 hR; clear hR hD; go_simp; exact hK.out _ (Below.refl _ _))); simp only [Act.put, List.setIfInBounds_toArray, List.set_cons_zero, List.set_cons_succ, Nat.reduceAdd, List.cons_append, List.nil_append])
  (apply Par.par_x rfl; (focus (intro w6 hR hD K hK; replace hK := Lib.hid hK; have htb := HT.out.below (below_call HB5.out.drew hR); clear hR hD; go_simp; refine (lvec_any n2 n3 (by have := HN2.out; omega) (by have := HN3.out; omega) w6 htb).mono ?_; rw [HV.out]; rintro r w7 ⟨rfl, hb⟩; exact hK.out _ hb)); simp only [Act.put, List.setIfInBounds_toArray, List.set_cons_zero, List.set_cons_succ, Nat.reduceAdd, List.cons_append, List.nil_append])
  iterate 2 (apply Par.par_x rfl; (focus (intro w6 hR hD K hK; replace hK := Lib.hid hK; skip; clear hR hD; go_simp; exact hK.out _ (Below.refl _ _))); simp only [Act.put, List.setIfInBounds_toArray, List.set_cons_zero, List.set_cons_succ, Nat.reduceAdd, List.cons_append, List.nil_append])
  (apply Par.par_x rfl; (focus (intro w6 hR hD K hK; replace hK := Lib.hid hK; obtain ⟨e0, e1, e2, e3, e4, e5⟩ := HS.out w6 hR; clear hR hD; go_simp; exact hK.out _ (Below.refl _ _))); simp only [Act.put, List.setIfInBounds_toArray, List.set_cons_zero, List.set_cons_succ, Nat.reduceAdd, List.cons_append, List.nil_append])
  (apply Par.par_x rfl; (focus (intro w6 hR hD K hK; replace hK := Lib.hid hK; have hrr := HRU.out.below hR; clear hR hD; go_simp; refine (lsigned_any 43 _ n.marks w6 hrr HLU.out).mono ?_; rw [HM.out]; rintro r w7 ⟨rfl, rfl⟩; exact hK.out _ (Below.refl _ _))); simp only [Act.put, List.setIfInBounds_toArray, List.set_cons_zero, List.set_cons_succ, Nat.reduceAdd, List.cons_append, List.nil_append])
  iterate 2 (apply Par.par_x rfl; (focus (intro w6 hR hD K hK; replace hK := Lib.hid hK; skip; clear hR hD; go_simp; exact hK.out _ (Below.refl _ _))); simp only [Act.put, List.setIfInBounds_toArray, List.set_cons_zero, List.set_cons_succ, Nat.reduceAdd, List.cons_append, List.nil_append])
  (apply Par.par_x rfl; (focus (intro w6 hR hD K hK; replace hK := Lib.hid hK; obtain ⟨e0, e1, e2, e3, e4, e5⟩ := HS.out w6 hR; clear hR hD; go_simp; exact hK.out _ (Below.refl _ _))); simp only [Act.put, List.setIfInBounds_toArray, List.set_cons_zero, List.set_cons_succ, Nat.reduceAdd, List.cons_append, List.nil_append])
  (apply Par.par_x rfl; (focus (intro w6 hR hD K hK; replace hK := Lib.hid hK; have hrr := HRX.out.below hR; clear hR hD; go_simp; refine (lsigned_any 126 _ n.taints w6 hrr HLX.out).mono ?_; rw [HTA.out]; rintro r w7 ⟨rfl, rfl⟩; exact hK.out _ (Below.refl _ _))); simp only [Act.put, List.setIfInBounds_toArray, List.set_cons_zero, List.set_cons_succ, Nat.reduceAdd, List.cons_append, List.nil_append])
  iterate 2 (apply Par.par_x rfl; (focus (intro w6 hR hD K hK; replace hK := Lib.hid hK; skip; clear hR hD; go_simp; exact hK.out _ (Below.refl _ _))); simp only [Act.put, List.setIfInBounds_toArray, List.set_cons_zero, List.set_cons_succ, Nat.reduceAdd, List.cons_append, List.nil_append])
  (apply Par.par_x rfl; (focus (intro w6 hR hD K hK; replace hK := Lib.hid hK; obtain ⟨e0, e1, e2, e3, e4, e5⟩ := HS.out w6 hR; clear hR hD; go_simp; exact hK.out _ (Below.refl _ _))); simp only [Act.put, List.setIfInBounds_toArray, List.set_cons_zero, List.set_cons_succ, Nat.reduceAdd, List.cons_append, List.nil_append])
  (apply Par.par_x rfl; (focus (intro w6 hR hD K hK; replace hK := Lib.hid hK; clear hR hD; go_simp; refine (lflag_any fl w6).mono ?_; rw [HFG.out]; rintro r w7 ⟨rfl, rfl⟩; exact hK.out _ (Below.refl _ _))); simp only [Act.put, List.setIfInBounds_toArray, List.set_cons_zero, List.set_cons_succ, Nat.reduceAdd, List.cons_append, List.nil_append])
  (apply Par.par_x rfl; (focus (intro w6 hR hD K hK; replace hK := Lib.hid hK; skip; clear hR hD; go_simp; exact hK.out _ (Below.refl _ _))); simp only [Act.put, List.setIfInBounds_toArray, List.set_cons_zero, List.set_cons_succ, Nat.reduceAdd, List.cons_append, List.nil_append])
  (apply Par.par_r (fun v w' => ∃ g, v = .slice (some ⟨g, 0, none⟩) 1 1 ∧ w'.heap[g]? = some (.cells #[.string (zn ++ (⟨#[58]⟩ : ByteArray) ++ zv ++ zm ++ zt ++ zf)] 9 (0, 0))) rfl (row_keep _ _ _); (focus (intro w6 hR hD K hK; replace hK := Lib.hid hK; clear hR hD; go_simp; exact hK.out _ _ (below_alloc' (Below.refl _ _) _) ⟨_, rfl, alloc_at _ _⟩)); simp only [Act.put, List.setIfInBounds_toArray, List.set_cons_zero, List.set_cons_succ, Nat.reduceAdd, List.cons_append, List.nil_append])
  refine Par.par_end fun w6 hR hp => ?_
  obtain ⟨gs, egs, hgs⟩ : ∃ g, vals 20 = .slice (some ⟨g, 0, none⟩) 1 1 ∧ w6.heap[g]? = some (.cells #[.string (zn ++ (⟨#[58]⟩ : ByteArray) ++ zv ++ zm ++ zt ++ zf)] 9 (0, 0)) := hp 20 (by simp)
  rw [HCAT.out] at hgs
  simp only [egs]
  clear hp egs
  have HGS := Lib.hid hgs
  have HB6 := Lib.hid (below_call HB5.out.drew hR)
  have HZ6 := Lib.hid (block_below (w := w5.drew) HZ5.out hR)
  have HO6 := Lib.hid (own_lit' (block_below (w := w5.drew) HL5.out hR) (n := 1) (size := 1) rfl (by decide) (Nat.le_refl _))
  clear hgs hR HS HRU HRX a1 a2 a3 a4 a5
  go_wp2_with (at_builtin; (refine list_appends elt_strs _ _ rfl rfl rfl rfl HO6.out (show [Value.string (str (nodeT n))].length = 1 * 1 from rfl) (World.news_of_block HGS.out) (by simp [Value.oneCell']) (by omega) (by have := HB6.out.size; have := (Array.getElem?_eq_some_iff.1 HZ6.out).1; omega) ?_); intro v' w7 hown hgrow; replace hgrow : World.grownBy _ _ (some (w.heap.size + 1)) := hgrow; have HO7 := Lib.hid hown; have z7 := grown_at hgrow HZ6.out (fun k hk e => by injection hk with hk; omega); have HB7 := Lib.hid (HB6.out.grown hgrow HB6.out.size (fun k hk => by injection hk with hk; omega)); have HZ7 := Lib.hid z7; have y0 := cell_of_block z7 0 _ rfl; have y3 := cell_of_block z7 3 _ rfl; clear hown hgrow z7)
  refine (peered_one w7).mono ?_
  rintro e w8 ⟨rfl, rfl⟩
  go_wp2_with fail
  refine wp_loop_rounds 1 ?_
  rw [rounds_succ]
  obtain ⟨g, cap, rfl, hg, hgs⟩ := (own_forms HO7.out).resolve_left (by rintro ⟨_, h, _⟩; exact absurd h (by omega))
  go_wp2_with fail
  refine (join_strs w7 g cap (w.heap.size + 1) [[110, 111, 100, 101], nodeT n] HO7.out (by simp) ?_).mono ?_
  · rw [join_two]
    have := HLL.out
    simp
    omega
  · rintro e w9 ⟨rfl, hb9⟩
    have HB9 := Lib.hid (below_call HB7.out hb9)
    clear hb9
    go_wp2
    go_ret
    exact ⟨ret_str (by rw [join_two]; rfl), HB9.out⟩
end Go.Proofs.YtofofjfmhaggmaaGreatDoor
