/- A prepared gang's record as a line. -/
import Derived.Test.YtofofjfmhaggmaaGreatDoorWc
import Derived.Test.YtofofjfmhaggmaaGreatDoorVx
set_option linter.unusedVariables false
set_option linter.unusedSimpArgs false
namespace Go.Proofs.YtofofjfmhaggmaaGreatDoor
open Go.RowKit

theorem peered_three (w : World) : Calls Tryz.prog 140 #[.int .i64 3] w fun e w' => e = .returned (.bool true) ∧ w = w' := by
  go_enter Tryz.func140, Tryz.ntmps140
  go_wp2
  go_ret
  exact ⟨rfl, rfl⟩
theorem join_sep (c : UInt8) (w : World) (g cap base : Nat) (xs : List (List UInt8)) (h : w.ownsRow base 9 1 (.slice (some ⟨g, 0, none⟩) xs.length cap) xs.length (xs.map fun l => .string (str l))) (hx : xs.length ≤ 100) (hl : (Lib.join xs [c]).length ≤ 140737488355328) :
    Calls Tryz.prog 141 #[.slice (some ⟨g, 0, none⟩) xs.length cap, .string ⟨#[c]⟩] w fun e w' => e = .returned (.string (str (Lib.join xs [c]))) ∧ Below w.heap.size w w' := by
  have e1 : (xs.map str).map (fun b : ByteArray => b.data.toList) = xs := by
    rw [List.map_map]
    conv => rhs; rw [← List.map_id xs]
    exact List.map_congr_left fun l _ => by simp [str]
  have hg : g < w.heap.size := by
    rcases own_forms h with ⟨h0, _⟩ | ⟨g', cap', h0, _, h1⟩
    · simp at h0
    · simp only [Value.slice.injEq, Option.some.injEq, Addr.mk.injEq, and_true, true_and] at h0
      rw [h0.1]; exact h1
  have hcap : xs.length ≤ cap := by
    rcases h.2 with ⟨h0, _⟩ | ⟨g', cap', cur, h0, _, _, h1, _⟩
    · simp at h0
    · simp only [Value.slice.injEq, Option.some.injEq, Addr.mk.injEq, and_true, true_and] at h0
      rw [h0.2]; exact h1
  have := Tryz.strings_Join g 0 cap (xs.map str) ⟨#[c]⟩ w (fun j x hj => by
    have hj' : j < xs.length := by have := (List.getElem?_eq_some_iff.1 hj).1; simpa using this
    rw [Nat.zero_add, h.cellAt j (by omega), List.getElem?_map]
    rw [List.getElem?_map] at hj
    obtain ⟨l, hl, rfl⟩ := Option.map_eq_some_iff.1 hj
    rw [hl]; rfl) hg (by simp; omega) (by simpa using hcap) (by rw [e1]; exact hl)
  rw [e1, List.length_map] at this
  exact this
theorem join_len (c : UInt8) (M : Nat) : ∀ (xs : List (List UInt8)), (∀ x ∈ xs, x.length ≤ M) → (Lib.join xs [c]).length ≤ xs.length * (M + 1)
  | [], _ => by simp [Lib.join]
  | [a], h => by
    have := h a (by simp)
    simp [Lib.join]
    omega
  | a :: b :: t, h => by
    have h1 := h a (by simp)
    have h2 := join_len c M (b :: t) fun x hx => h x (List.mem_cons_of_mem _ hx)
    have e : Lib.join (a :: b :: t) [c] = a ++ (c :: Lib.join (b :: t) [c]) := by simp [Lib.join]
    rw [e]
    simp only [List.length_append, List.length_cons, Nat.add_mul] at h2 ⊢
    omega
theorem dec_le (k : Nat) (h : k ≤ 1099511627776) : (Lib.decDigits k).length ≤ 21 := dec_len' k (by omega)
theorem place_str (p : PlaceL) : str p.pod ++ (⟨#[62]⟩ : ByteArray) ++ str p.node ++ (⟨#[58]⟩ : ByteArray) ++ str (vecT p.cpu p.mem) ++ str (flagT p.alone) = str (placeT p) := by
  rw [show (⟨#[62]⟩ : ByteArray) = str [62] from rfl, show (⟨#[58]⟩ : ByteArray) = str [58] from rfl]
  simp only [str_append]
  congr 1
  simp [placeT]
theorem placeT_le {p : PlaceL} (h : p.good) : (placeT p).length ≤ 100 := by
  have h1 := name_short h.1
  have h2 := name_short h.2.1
  have h3 := dec_le p.cpu h.2.2.1
  have h4 := dec_le p.mem h.2.2.2
  have h5 : (flagT p.alone).length ≤ 1 := by cases p.alone <;> simp [flagT]
  simp [placeT, vecT]
  omega
set_option maxHeartbeats 4000000 in
set_option maxRecDepth 1000000 in
theorem ltext_prep (g : Nat) (ev lv : Value) (ps : List Nat) (ls : List PlaceL) (w : World) (ht : Tabs w) (hg : g ≤ 999999) (he : w.ownsRow 0 3 1 ev ps.length (ps.map fun n : Nat => Value.int .i64 n)) (hp : ∀ n ∈ ps, n ≤ 999999) (hpl : 1 ≤ ps.length ∧ ps.length ≤ 16)
    (hv : PlacesQ (fun _ => False) w lv ls) (hls : ls.length ≤ 8) (hgd : ∀ p ∈ ls, p.good) :
    Calls Tryz.prog 110 #[.agg #[.int .i64 3, .int .i64 g, ev, lv, .string ⟨#[]⟩, .int .i64 0, .int .i64 0, .slice none 0 0, .slice none 0 0, .bool false]] w fun e w' => e = .returned (.string (str (Lib.join ([112, 114, 101, 112, 97, 114, 101] :: Lib.decDigits g :: peersT ps :: ls.map placeT) [32]))) ∧ Below w.heap.size w w' := by
  obtain ⟨ea, ec, rfl⟩ := own_slicen he
  obtain ⟨la, lc, rfl, hlc⟩ := flat_cells hv
  have HLC := Lib.hid hlc
  have HE := Lib.hid he
  have HPS := Lib.hid hp
  have HGD := Lib.hid hgd
  clear he hp hv hlc hgd
  have HT := Lib.hid ht
  obtain ⟨zd, hzd⟩ : ∃ z, str (Lib.decDigits g) = z := ⟨_, rfl⟩
  have HZD := Lib.hid hzd
  have hdl : (Lib.decDigits g).length ≤ 21 := by
    have := Lib.itoa_length_le g (by omega) (by omega)
    rwa [Lib.itoa_nonneg] at this
  clear ht hzd
  go_enter Tryz.func110, Tryz.ntmps110
  go_wp2_with fail
  have hz0 := block_below (alloc_at w (.cells #[.int .i64 3, .int .i64 g, .slice ea ps.length ec, .slice la ls.length lc, .string ⟨#[]⟩, .int .i64 0, .int .i64 0, .slice none 0 0, .slice none 0 0, .bool false] 67)) (below_alloc' (Below.refl _ _) (.cells #[.string ⟨#[]⟩] 9))
  have hl0 := alloc_second w (.cells #[.int .i64 3, .int .i64 g, .slice ea ps.length ec, .slice la ls.length lc, .string ⟨#[]⟩, .int .i64 0, .int .i64 0, .slice none 0 0, .slice none 0 0, .bool false] 67) (.cells #[.string ⟨#[]⟩] 9)
  have hb0 : Below w.heap.size w ((w.alloc (.cells #[.int .i64 3, .int .i64 g, .slice ea ps.length ec, .slice la ls.length lc, .string ⟨#[]⟩, .int .i64 0, .int .i64 0, .slice none 0 0, .slice none 0 0, .bool false] 67)).alloc (.cells #[.string ⟨#[]⟩] 9)) := below_alloc' (below_alloc' (Below.refl _ _) _) _
  generalize World.alloc (World.alloc w _) _ = w1 at hz0 hl0 hb0 ⊢
  refine (fields_const _ lverbs lverbs_fields (by decide +kernel) (by decide) _ (HT.out.below hb0)).mono ?_
  rintro e w2 ⟨rfl, hf, hb2⟩
  rw [show lverbs.length = 7 from rfl]
  have cf : w2.cell? ⟨w1.heap.size, 2, none⟩ = some (.string ⟨#[112, 114, 101, 112, 97, 114, 101]⟩) := hf.cell (j := 2) (by decide)
  have hz2 := block_below hz0 hb2
  have hl2 := block_below hl0 hb2
  have hb20 := below_call hb0 hb2
  have r0 := cell_of_block hz2 0 _ rfl
  have g0 := cell_of_block hl2 0 _ rfl
  have ff := free_of_block hl2 0
  have hz3 := (Below.heap_setCell w2 ⟨w.heap.size + 1, 0, none⟩ (.string ⟨#[112, 114, 101, 112, 97, 114, 101]⟩) w.heap.size (by simp)).trans hz2
  have hl3 := heap_setCell_same w2 (w.heap.size + 1) 0 _ _ (.string ⟨#[112, 114, 101, 112, 97, 114, 101]⟩) hl2
  have hb3 := hb20.setCell (p := ⟨w.heap.size + 1, 0, none⟩) (Nat.le_succ _) (.string ⟨#[112, 114, 101, 112, 97, 114, 101]⟩)
  have q0 := fun o => cell_of_block (block_below hz3 (below_alloc' (Below.refl _ _) o)) 0 _ rfl
  have q1 := fun o => cell_of_block (block_below hz3 (below_alloc' (Below.refl _ _) o)) 1 _ rfl
  have q4 := cell_of_block hz3 4 _ rfl
  have q5 := cell_of_block hz3 5 _ rfl
  have q6 := cell_of_block hz3 6 _ rfl
  have q7 := cell_of_block hz3 7 _ rfl
  have q8 := cell_of_block hz3 8 _ rfl
  have q9 := cell_of_block hz3 9 _ rfl
  have hb5 : Below w.heap.size w ((w2.setCell ⟨w.heap.size + 1, 0, none⟩ (.string ⟨#[112, 114, 101, 112, 97, 114, 101]⟩)).alloc (.cells #[.string ⟨#[]⟩, .int .i64 0, .int .i64 0, .slice none 0 0, .slice none 0 0, .bool false] 60)) := below_call hb3 (below_alloc' (Below.refl _ _) _)
  have hz5 := block_below hz3 (below_alloc' (Below.refl _ _) (.cells #[.string ⟨#[]⟩, .int .i64 0, .int .i64 0, .slice none 0 0, .slice none 0 0, .bool false] 60))
  have hl5 := block_below hl3 (below_alloc' (Below.refl _ _) (.cells #[.string ⟨#[]⟩, .int .i64 0, .int .i64 0, .slice none 0 0, .slice none 0 0, .bool false] 60))
  have HZ5 := Lib.hid hz5
  have HL5 := Lib.hid hl5
  have HB5 := Lib.hid hb5
  clear hz0 hl0 hb0 hf hz2 hl2 hb20 hz3 hl3 hb3 hb2 hz5 hl5 hb5
  go_wp2_with fail
  refine (itoa_nat _ (HT.out.below HB5.out) g (by omega)).mono ?_
  rw [HZD.out]
  rintro e w6 ⟨rfl, hb⟩
  have HB6 := Lib.hid (below_call HB5.out hb)
  have HZ6 := Lib.hid (block_below HZ5.out hb)
  have HO6 := Lib.hid (own_lit' (block_below HL5.out hb) (n := 1) (size := 1) rfl (by decide) (Nat.le_refl _))
  clear hb cf r0 g0 ff q0 q1 q4 q5 q6 q7 q8 q9
  go_wp2_with (at_builtin; (refine list_appends elt_strs _ _ rfl rfl rfl rfl (own_below HO6.out (below_alloc' (Below.refl _ _) _)) (show [Value.string zd].length = 1 * 1 from rfl) (World.news_of_block (alloc_at _ _)) (by simp [Value.oneCell']) (by omega) (by have := HB6.out.size; have := (Array.getElem?_eq_some_iff.1 HZ6.out).1; simp; omega) ?_); intro v' w7 hown hgrow; replace hgrow : World.grownBy _ _ (some (w.heap.size + 1)) := hgrow; have HO7 := Lib.hid hown; have z7 := grown_at hgrow (block_below HZ6.out (below_alloc' (Below.refl _ _) _)) (fun k hk e => by injection hk with hk; omega); have HB7 := Lib.hid ((below_alloc' HB6.out _).grown hgrow (Nat.le_trans HB6.out.size (by simp)) (fun k hk => by injection hk with hk; omega)); have HZ7 := Lib.hid z7; have y0 := cell_of_block z7 0 _ rfl; have y2 := cell_of_block z7 2 (.slice ea ps.length ec) rfl; have y3 := cell_of_block z7 3 (.slice la ls.length lc) rfl; clear hown hgrow z7)
  refine (peered_three w7).mono ?_
  rintro e w8 ⟨rfl, rfl⟩
  go_wp2_with fail
  go_loopw [6, 80] (fun u i wr => ∃ j : Nat, i = .int .i64 j ∧ j ≤ ps.length ∧ Below w7.heap.size w7 wr ∧ wr.ownsRow w7.heap.size 9 1 u j ((ps.take j).map fun n => Value.string (str (Lib.decDigits n)))) (fun _ i _ => ps.length - (intOf i).toNat)
  case atStart => exact ⟨0, rfl, Nat.zero_le _, Below.refl _ _, World.ownsRow_nil _ _ _ _⟩
  case round =>
    obtain ⟨j, rfl, hj, hbr, hrow⟩ := hrel
    have HBR := Lib.hid hbr
    have HROW := Lib.hid hrow
    clear hbr hrow
    by_cases hjl : j < ps.length
    · obtain ⟨eb, ecap, hee, _, hebs⟩ := (own_forms HE.out).resolve_left (by rintro ⟨_, h, _⟩; omega)
      injection hee with e1 e2 e3
      subst e1 e3
      have hc := HE.out.cellAt j (by omega)
      rw [List.getElem?_map, List.getElem?_eq_getElem hjl] at hc
      simp only [Option.map_some] at hc
      have hc := cell_below hc (below_call HB7.out HBR.out)
      have hpj := HPS.out ps[j] (List.getElem_mem hjl)
      have hte : ps.take (j + 1) = ps.take j ++ [ps[j]] := List.take_succ_eq_append_getElem hjl
      generalize ps[j] = x at hc hpj hte
      have hj0 : (0 : Int) ≤ (j : Int) := by omega
      have hj1 : (j : Int) < (ps.length : Int) := by omega
      have HJ := Lib.hid hjl
      have HTE := Lib.hid hte
      obtain ⟨zx, hzx⟩ : ∃ z, str (Lib.decDigits x) = z := ⟨_, rfl⟩
      have HZX := Lib.hid hzx
      have hjb : j ≤ 16 := by omega
      clear hte hzx
      go_wp2_with fail
      refine (itoa_nat wr (HT.out.below (below_call HB7.out HBR.out)) x (by omega)).mono ?_
      rw [HZX.out]
      rintro e w9 ⟨rfl, hb⟩
      have HB9 := Lib.hid (below_call HBR.out hb)
      have HR9 := Lib.hid (own_below HROW.out hb)
      clear hb hc
      go_wp2_with (at_builtin; refine list_appends elt_strs _ _ rfl rfl rfl rfl (own_below HR9.out (below_alloc' (Below.refl w9.heap.size w9) _)) (show [Value.string zx].length = 1 * 1 from rfl) (World.news_of_block (alloc_at _ _)) (by simp [Value.oneCell']) (by omega) (by have := HB9.out.size; simp; omega) ?_; intro v'' w'' hown hgrow; have HO := Lib.hid (And.intro hown ((below_alloc' HB9.out _).grown hgrow (Nat.le_trans HB9.out.size (by simp)) (fun k hk => (own_lt HR9.out hk).1))); clear hown hgrow)
      go_roundw
      case rel =>
        refine ⟨j + 1, by go_num, HJ.out, HO.out.2, ?_⟩
        rw [HTE.out, List.map_append, List.map_cons, List.map_nil, HZX.out]
        exact HO.out.1
      case measure => have := HJ.out; simp [intOf]; omega
    · obtain rfl : j = ps.length := by omega
      obtain ⟨pg, pcap, rfl, _, hpgs⟩ := (own_forms HROW.out).resolve_left (by rintro ⟨_, h, _⟩; omega)
      have hjn := join_len 44 21 (ps.map Lib.decDigits) (fun x hx => by
        obtain ⟨n, hn, rfl⟩ := List.mem_map.1 hx
        have := HPS.out n hn
        exact dec_le n (by omega))
      rw [List.length_map] at hjn
      have hr2 : wr.ownsRow w7.heap.size 9 1 (.slice (some ⟨pg, 0, none⟩) (ps.map Lib.decDigits).length pcap) (ps.map Lib.decDigits).length ((ps.map Lib.decDigits).map fun l => .string (str l)) := by
        have := HROW.out
        rw [List.take_length] at this
        rw [List.length_map, List.map_map]
        exact this
      have hjs := join_sep 44 wr pg pcap w7.heap.size (ps.map Lib.decDigits) hr2 (by rw [List.length_map]; omega) (by omega)
      rw [List.length_map] at hjs
      have HJS := Lib.hid hjs
      clear hjn hr2 hjs
      go_wp2_with fail
      refine HJS.out.mono ?_
      rintro e w9 ⟨rfl, hb⟩
      obtain ⟨zp, hzp⟩ : ∃ z, str (Lib.join (ps.map Lib.decDigits) [44]) = z := ⟨_, rfl⟩
      have HZP := Lib.hid (show str (peersT ps) = zp from hzp)
      rw [hzp]
      have HB9 := Lib.hid (below_call HBR.out hb)
      clear hb hzp
      have HZ9 := Lib.hid (block_below HZ7.out HB9.out)
      have HO9 := Lib.hid (own_below HO7.out HB9.out)
      have HB9w := Lib.hid (below_call HB7.out HB9.out)
      have HSZ := Lib.hid (show w.heap.size < w9.heap.size from (Array.getElem?_eq_some_iff.1 HZ9.out).1)
      clear y0 y2 y3
      go_wp2_with (at_builtin; refine list_appends elt_strs _ _ rfl rfl rfl rfl (own_below HO9.out (below_alloc' (Below.refl w9.heap.size w9) _)) (show [Value.string zp].length = 1 * 1 from rfl) (World.news_of_block (alloc_at _ _)) (by simp [Value.oneCell']) (by omega) (by have := HSZ.out; simp; omega) ?_; intro v'' w10 hown hgrow; have HO10 := Lib.hid hown; have z10 := grown_at hgrow (block_below HZ9.out (below_alloc' (Below.refl _ _) _)) (fun k hk e => by have := (own_lt HO9.out hk).1; omega); have HB10 := Lib.hid ((below_alloc' HB9w.out _).grown hgrow (Nat.le_trans HB9w.out.size (by simp)) (fun k hk => by have := (own_lt HO9.out hk).1; omega)); have y3 := cell_of_block z10 3 (.slice la ls.length lc) rfl; clear hown hgrow z10)
      go_loopw [3, 98] (fun u i wr => ∃ j : Nat, i = .int .i64 j ∧ j ≤ ls.length ∧ Below w.heap.size w wr ∧ wr.ownsRow (w.heap.size + 1) 9 1 u (3 + j) ([Value.string ⟨#[112, 114, 101, 112, 97, 114, 101]⟩, Value.string zd, Value.string zp] ++ (ls.take j).map fun p => Value.string (str (placeT p)))) (fun _ i _ => ls.length - (intOf i).toNat)
      case atStart => exact ⟨0, rfl, Nat.zero_le _, HB10.out, by simpa using HO10.out⟩
      case round =>
        obtain ⟨j, rfl, hj, hbr, hrow⟩ := hrel
        have HBR2 := Lib.hid hbr
        have HROW2 := Lib.hid hrow
        clear hbr hrow
        by_cases hjl : j < ls.length
        · obtain ⟨b, rfl, hbw, hcap, d0, d1, d2, d3, d4⟩ := HLC.out j hjl
          have d0 := cell_below d0 HBR2.out
          have d1 := cell_below d1 HBR2.out
          have d2 := cell_below d2 HBR2.out
          have d3 := cell_below d3 HBR2.out
          have d4 := cell_below d4 HBR2.out
          have hgx := HGD.out ls[j] (List.getElem_mem hjl)
          have hte : ls.take (j + 1) = ls.take j ++ [ls[j]] := List.take_succ_eq_append_getElem hjl
          generalize ls[j] = x at d0 d1 d2 d3 d4 hgx hte
          have hcat := place_str x
          have hln := placeT_le hgx
          have hcl : (placeT x).length = x.pod.length + (1 + (x.node.length + (1 + ((vecT x.cpu x.mem).length + (flagT x.alone).length)))) := by simp [placeT]; omega
          obtain ⟨zq, hzq⟩ : ∃ z, str x.pod = z := ⟨_, rfl⟩
          obtain ⟨zn, hzn⟩ : ∃ z, str x.node = z := ⟨_, rfl⟩
          obtain ⟨zv, hzv⟩ : ∃ z, str (vecT x.cpu x.mem) = z := ⟨_, rfl⟩
          obtain ⟨zf, hzf⟩ : ∃ z, str (flagT x.alone) = z := ⟨_, rfl⟩
          have s0 : zq.size = x.pod.length := by rw [← hzq, str_size]
          have s1 : zn.size = x.node.length := by rw [← hzn, str_size]
          have s2 : zv.size = (vecT x.cpu x.mem).length := by rw [← hzv, str_size]
          have s3 : zf.size = (flagT x.alone).length := by rw [← hzf, str_size]
          have a1 : ¬ 9223372036854775807 < zq.size + 1 := by omega
          have a2 : ¬ 9223372036854775807 < zq.size + 1 + zn.size := by omega
          have a3 : ¬ 9223372036854775807 < zq.size + 1 + zn.size + 1 := by omega
          have a4 : ¬ 9223372036854775807 < zq.size + 1 + zn.size + 1 + zv.size := by omega
          have a5 : ¬ 9223372036854775807 < zq.size + 1 + zn.size + 1 + zv.size + zf.size := by omega
          rw [hzq, hzn, hzv, hzf] at hcat
          rw [hzq] at d0
          rw [hzn] at d1
          have HCAT := Lib.hid hcat
          have HV := Lib.hid hzv
          have HFG := Lib.hid hzf
          have HTE := Lib.hid hte
          have HGX := Lib.hid hgx
          have HJ := Lib.hid hjl
          have hj0 : (0 : Int) ≤ (j : Int) := by omega
          have hj1 : (j : Int) < (ls.length : Int) := by omega
          have hj8 : j ≤ 8 := by omega
          clear hcat hzv hzf hzq hzn hte hgx hln hcl s0 s1 s2 s3
          go_upto_region 22 with fail
          have zb := alloc_at wr (.cells #[.string zq, .string zn, .int .i64 x.cpu, .int .i64 x.mem, .bool x.alone] 143)
          have hb11 : Below wr.heap.size wr (wr.alloc (.cells #[.string zq, .string zn, .int .i64 x.cpu, .int .i64 x.mem, .bool x.alone] 143)) := below_alloc' (Below.refl _ _) _
          generalize World.alloc wr _ = w11 at zb hb11 ⊢
          have hs : ∀ w6, Below w11.drew.heap.size w11.drew w6 → w6.heap[wr.heap.size]? = some (.cells #[.string zq, .string zn, .int .i64 x.cpu, .int .i64 x.mem, .bool x.alone] 143 (0, 0)) := fun w6 h => block_below (w := w11.drew) zb h
          have HS := Lib.hid hs
          have HB11 := Lib.hid (below_call HBR2.out hb11)
          have HR11 := Lib.hid (own_below HROW2.out hb11)
          clear hs zb hb11 d0 d1 d2 d3 d4
          refine' Par.wp_region_pars (fun w w' => Below w.heap.size w w') 17 (by kernel_rfl) (by kernel_rfl) (by kernel_rfl) (by kernel_rfl) (by kernel_rfl) (by kernel_rfl)
            (fun w => Below.refl _ w) (fun h k => below_call h k) (fun vals => ?_)
          rotate_left
          simp only [List.take_succ_cons, List.take_zero, List.drop_succ_cons, List.drop_zero]
          iterate 2 (apply Par.par_x rfl; (focus (intro w6 hR hD K hK; replace hK := Lib.hid hK; skip; clear hR hD; go_simp; exact hK.out _ (Below.refl _ _))); simp only [Act.put, List.setIfInBounds_toArray, List.set_cons_zero, List.set_cons_succ, Nat.reduceAdd, List.cons_append, List.nil_append])
          (apply Par.par_x rfl; (focus (intro w6 hR hD K hK; replace hK := Lib.hid hK; obtain ⟨e0, e1, e2, e3, e4⟩ := cells5 (HS.out w6 hR); clear hR hD; go_simp; exact hK.out _ (Below.refl _ _))); simp only [Act.put, List.setIfInBounds_toArray, List.set_cons_zero, List.set_cons_succ, Nat.reduceAdd, List.cons_append, List.nil_append])
          iterate 2 (apply Par.par_x rfl; (focus (intro w6 hR hD K hK; replace hK := Lib.hid hK; skip; clear hR hD; go_simp; exact hK.out _ (Below.refl _ _))); simp only [Act.put, List.setIfInBounds_toArray, List.set_cons_zero, List.set_cons_succ, Nat.reduceAdd, List.cons_append, List.nil_append])
          (apply Par.par_x rfl; (focus (intro w6 hR hD K hK; replace hK := Lib.hid hK; obtain ⟨e0, e1, e2, e3, e4⟩ := cells5 (HS.out w6 hR); clear hR hD; go_simp; exact hK.out _ (Below.refl _ _))); simp only [Act.put, List.setIfInBounds_toArray, List.set_cons_zero, List.set_cons_succ, Nat.reduceAdd, List.cons_append, List.nil_append])
          iterate 3 (apply Par.par_x rfl; (focus (intro w6 hR hD K hK; replace hK := Lib.hid hK; skip; clear hR hD; go_simp; exact hK.out _ (Below.refl _ _))); simp only [Act.put, List.setIfInBounds_toArray, List.set_cons_zero, List.set_cons_succ, Nat.reduceAdd, List.cons_append, List.nil_append])
          (apply Par.par_x rfl; (focus (intro w6 hR hD K hK; replace hK := Lib.hid hK; obtain ⟨e0, e1, e2, e3, e4⟩ := cells5 (HS.out w6 hR); clear hR hD; go_simp; exact hK.out _ (Below.refl _ _))); simp only [Act.put, List.setIfInBounds_toArray, List.set_cons_zero, List.set_cons_succ, Nat.reduceAdd, List.cons_append, List.nil_append])
          (apply Par.par_x rfl; (focus (intro w6 hR hD K hK; replace hK := Lib.hid hK; have htb := HT.out.below (below_call HB11.out.drew hR); clear hR hD; go_simp; refine (lvec_any x.cpu x.mem (by have := HGX.out.2.2.1; omega) (by have := HGX.out.2.2.2; omega) w6 htb).mono ?_; rw [HV.out]; rintro r w7 ⟨rfl, hb⟩; exact hK.out _ hb)); simp only [Act.put, List.setIfInBounds_toArray, List.set_cons_zero, List.set_cons_succ, Nat.reduceAdd, List.cons_append, List.nil_append])
          iterate 2 (apply Par.par_x rfl; (focus (intro w6 hR hD K hK; replace hK := Lib.hid hK; skip; clear hR hD; go_simp; exact hK.out _ (Below.refl _ _))); simp only [Act.put, List.setIfInBounds_toArray, List.set_cons_zero, List.set_cons_succ, Nat.reduceAdd, List.cons_append, List.nil_append])
          (apply Par.par_x rfl; (focus (intro w6 hR hD K hK; replace hK := Lib.hid hK; obtain ⟨e0, e1, e2, e3, e4⟩ := cells5 (HS.out w6 hR); clear hR hD; go_simp; exact hK.out _ (Below.refl _ _))); simp only [Act.put, List.setIfInBounds_toArray, List.set_cons_zero, List.set_cons_succ, Nat.reduceAdd, List.cons_append, List.nil_append])
          (apply Par.par_x rfl; (focus (intro w6 hR hD K hK; replace hK := Lib.hid hK; clear hR hD; go_simp; refine (lflag_any x.alone w6).mono ?_; rw [HFG.out]; rintro r w7 ⟨rfl, rfl⟩; exact hK.out _ (Below.refl _ _))); simp only [Act.put, List.setIfInBounds_toArray, List.set_cons_zero, List.set_cons_succ, Nat.reduceAdd, List.cons_append, List.nil_append])
          (apply Par.par_x rfl; (focus (intro w6 hR hD K hK; replace hK := Lib.hid hK; skip; clear hR hD; go_simp; exact hK.out _ (Below.refl _ _))); simp only [Act.put, List.setIfInBounds_toArray, List.set_cons_zero, List.set_cons_succ, Nat.reduceAdd, List.cons_append, List.nil_append])
          (apply Par.par_r (fun v w' => ∃ g, v = .slice (some ⟨g, 0, none⟩) 1 1 ∧ w'.heap[g]? = some (.cells #[.string (zq ++ (⟨#[62]⟩ : ByteArray) ++ zn ++ (⟨#[58]⟩ : ByteArray) ++ zv ++ zf)] 9 (0, 0))) rfl (row_keep _ _ _); (focus (intro w6 hR hD K hK; replace hK := Lib.hid hK; clear hR hD; go_simp; exact hK.out _ _ (below_alloc' (Below.refl _ _) _) ⟨_, rfl, alloc_at _ _⟩)); simp only [Act.put, List.setIfInBounds_toArray, List.set_cons_zero, List.set_cons_succ, Nat.reduceAdd, List.cons_append, List.nil_append])
          refine Par.par_end fun w6 hR hp => ?_
          obtain ⟨gs, egs, hgs⟩ : ∃ g, vals 16 = .slice (some ⟨g, 0, none⟩) 1 1 ∧ w6.heap[g]? = some (.cells #[.string (zq ++ (⟨#[62]⟩ : ByteArray) ++ zn ++ (⟨#[58]⟩ : ByteArray) ++ zv ++ zf)] 9 (0, 0)) := hp 16 (by simp)
          rw [HCAT.out] at hgs
          simp only [egs]
          clear hp egs
          have HGS := Lib.hid hgs
          have HB12 := Lib.hid (below_call HB11.out.drew hR)
          have HR12 := Lib.hid (own_below (w := w11.drew) (own_drew HR11.out) hR)
          have HW12 := Lib.hid (show w.heap.size + 1 ≤ w6.heap.size by
            obtain ⟨g9, c9, _, h1, h2⟩ := (own_forms HR12.out).resolve_left (by rintro ⟨_, h, _⟩; omega)
            omega)
          clear hgs hR HS a1 a2 a3 a4 a5
          go_wp2_with (at_builtin; (refine list_appends elt_strs _ _ rfl rfl rfl rfl HR12.out (show [Value.string (str (placeT x))].length = 1 * 1 from rfl) (World.news_of_block HGS.out) (by simp [Value.oneCell']) (by omega) HW12.out ?_); intro v3 w13 hown hgrow; have HO := Lib.hid (And.intro hown (HB12.out.grown hgrow HB12.out.size (fun k hk => by have := (own_lt HR12.out hk).1; omega))); clear hown hgrow)
          go_roundw
          case rel =>
            refine ⟨j + 1, by go_num, HJ.out, HO.out.2, ?_⟩
            rw [HTE.out, List.map_append, List.map_cons, List.map_nil]
            simpa [Nat.add_assoc] using HO.out.1
          case measure => have := HJ.out; simp [intOf]; omega
        · obtain rfl : j = ls.length := by omega
          obtain ⟨fg, fcap, rfl, _, hfgs⟩ := (own_forms HROW2.out).resolve_left (by rintro ⟨_, h, _⟩; omega)
          obtain ⟨xs, hxs⟩ : ∃ xs, [112, 114, 101, 112, 97, 114, 101] :: Lib.decDigits g :: peersT ps :: ls.map placeT = xs := ⟨_, rfl⟩
          have hxl : xs.length = 3 + ls.length := by rw [← hxs]; simp; omega
          have hr2 : wr.ownsRow (w.heap.size + 1) 9 1 (.slice (some ⟨fg, 0, none⟩) xs.length fcap) xs.length (xs.map fun l => .string (str l)) := by
            have := HROW2.out
            rw [List.take_length, ← HZD.out, ← HZP.out] at this
            rw [hxl, ← hxs]
            simpa [List.map_map, Function.comp_def, str] using this
          have hpe : (peersT ps).length ≤ 352 := by
            have := join_len 44 21 (ps.map Lib.decDigits) (fun x hx => by
              obtain ⟨n, hn, rfl⟩ := List.mem_map.1 hx
              have := HPS.out n hn
              exact dec_le n (by omega))
            rw [List.length_map] at this
            unfold peersT
            omega
          have hjn := join_len 32 400 xs (fun x hx => by
            rw [← hxs] at hx
            rcases List.mem_cons.1 hx with rfl | hx
            · simp
            rcases List.mem_cons.1 hx with rfl | hx
            · omega
            rcases List.mem_cons.1 hx with rfl | hx
            · omega
            obtain ⟨p, hp, rfl⟩ := List.mem_map.1 hx
            have := placeT_le (HGD.out p hp)
            omega)
          have hjs := join_strs wr fg fcap (w.heap.size + 1) xs hr2 (by omega) (by omega)
          rw [hxl] at hjs
          have HJS := Lib.hid hjs
          have HXS := Lib.hid hxs
          clear hjn hr2 hjs hxs hpe
          go_wp2_with fail
          refine HJS.out.mono ?_
          rintro e w12 ⟨rfl, hb⟩
          have HBF := Lib.hid (below_call HBR2.out hb)
          clear hb
          go_wp2
          go_ret
          rw [HXS.out]
          exact ⟨rfl, HBF.out⟩
end Go.Proofs.YtofofjfmhaggmaaGreatDoor
