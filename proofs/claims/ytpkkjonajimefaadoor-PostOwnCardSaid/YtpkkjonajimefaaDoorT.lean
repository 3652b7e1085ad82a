/- The text of a message, by the program and by the reference: one and the same. -/
import Derived.Test.YtpkkjonajimefaaDoorD
import Derived.Test.YtpkkjonajimefaaDoorShelf
set_option linter.unusedVariables false
set_option linter.unusedSimpArgs false
namespace Go.Proofs.YtpkkjonajimefaaDoor
open Go.RowKit

def Tabs (w : World) : Prop := Lib.TabIs Tryd.prog w "internal/strconv.uint64pow10" .u64 Lib.pow10Tab ∧ Lib.TabIs Tryd.prog w "strings.asciiSpace" .u8 Lib.asciiSpaceTab
theorem tab_below {w w' : World} {n : String} {k : IntKind} {zs : List Int} (h : Lib.TabIs Tryd.prog w n k zs) (hb : Below w.heap.size w w') : Lib.TabIs Tryd.prog w' n k zs := by
  unfold Lib.TabIs World.var? at h ⊢
  cases hg : Tryd.prog.globalNamed n with
  | none => rw [hg] at h; cases h
  | some g =>
    rw [hg] at h
    simp only [Option.bind_some] at h ⊢
    match hh : w.heap[g]? with
    | none => rw [hh] at h; cases h
    | some o => rw [block_below hh hb]; rw [hh] at h; exact h
theorem Tabs.below {w w' : World} (h : Tabs w) (hb : Below w.heap.size w w') : Tabs w' := ⟨tab_below h.1 hb, tab_below h.2 hb⟩

def wordsL : List (List UInt8) := [[104, 111, 108, 100], [104, 101, 108, 100], [112, 114, 101, 112, 97, 114, 101], [118, 111, 116, 101], [100, 101, 99, 105, 100, 101], [97, 99, 107], [97, 115, 107], [116, 101, 108, 108], [102, 114, 101, 101], [102, 114, 101, 101, 100]]
def wordL (k : Int) : List UInt8 := if 1 ≤ k ∧ k ≤ 10 then wordsL.getD (k - 1).toNat [] else [63]
def textOf (k a b c : Int) (y : Bool) : List UInt8 := wordL k ++ 32 :: (Lib.itoa a ++ 32 :: (Lib.itoa b ++ 32 :: (Lib.itoa c ++ if y then [32, 121, 101, 115] else [])))
def Int64 (n : Int) : Prop := -9223372036854775808 ≤ n ∧ n ≤ 9223372036854775807

theorem fields_words : Lib.fields [104, 111, 108, 100, 32, 104, 101, 108, 100, 32, 112, 114, 101, 112, 97, 114, 101, 32, 118, 111, 116, 101, 32, 100, 101, 99, 105, 100, 101, 32, 97, 99, 107, 32, 97, 115, 107, 32, 116, 101, 108, 108, 32, 102, 114, 101, 101, 32, 102, 114, 101, 101, 100] = wordsL := by decide +kernel
theorem words_ascii : ([104, 111, 108, 100, 32, 104, 101, 108, 100, 32, 112, 114, 101, 112, 97, 114, 101, 32, 118, 111, 116, 101, 32, 100, 101, 99, 105, 100, 101, 32, 97, 99, 107, 32, 97, 115, 107, 32, 116, 101, 108, 108, 32, 102, 114, 101, 101, 32, 102, 114, 101, 101, 100] : List UInt8).all (fun b => decide (b.toNat < 128)) = true := by decide +kernel
theorem fields_any (w : World) (ht : Tabs w) : Calls Tryd.prog 29 #[.string ⟨#[104, 111, 108, 100, 32, 104, 101, 108, 100, 32, 112, 114, 101, 112, 97, 114, 101, 32, 118, 111, 116, 101, 32, 100, 101, 99, 105, 100, 101, 32, 97, 99, 107, 32, 97, 115, 107, 32, 116, 101, 108, 108, 32, 102, 114, 101, 101, 32, 102, 114, 101, 101, 100]⟩] w fun e w' =>
    e = .returned (.slice (some ⟨w.heap.size, 0, none⟩) 10 10) ∧ Below w.heap.size w w' ∧ w.heap.size < w'.heap.size ∧ ∀ j, j < 10 → w'.cell? ⟨w.heap.size, j, none⟩ = some (.string (str (wordsL.getD j []))) := by
  refine (Tryd.strings_Fields_laid _ w (by decide) (fun j b hb => by simpa using List.all_eq_true.1 words_ascii b (List.mem_of_getElem? hb)) ht.2).mono ?_
  rintro e w' ⟨h1, h2⟩
  have e0 : Lib.fields (ByteArray.mk #[104, 111, 108, 100, 32, 104, 101, 108, 100, 32, 112, 114, 101, 112, 97, 114, 101, 32, 118, 111, 116, 101, 32, 100, 101, 99, 105, 100, 101, 32, 97, 99, 107, 32, 97, 115, 107, 32, 116, 101, 108, 108, 32, 102, 114, 101, 101, 32, 102, 114, 101, 101, 100]).data.toList = wordsL := fields_words
  rw [e0] at h1 h2
  subst h2
  refine ⟨h1, below_alloc' (Below.refl _ _) _, by simp, fun j hj => cell_of_block (alloc_at _ _) j _ ?_⟩
  match j, hj with
  | 0, _ => rfl | 1, _ => rfl | 2, _ => rfl | 3, _ => rfl | 4, _ => rfl | 5, _ => rfl | 6, _ => rfl | 7, _ => rfl | 8, _ => rfl | 9, _ => rfl
theorem itoa_any (w : World) (ht : Tabs w) (n : Int) (hn : Int64 n) : Calls Tryd.prog 30 #[.int .i64 n] w fun e w' => e = .returned (.string (str (Lib.itoa n))) ∧ Below w.heap.size w w' := by
  refine (Tryd.strconv_Itoa n hn.1 hn.2 w ht.1).mono ?_
  rintro e w' ⟨h1, k, os, rfl⟩
  exact ⟨h1, Lib.below_grow _ _ (Nat.le_refl _) _ _⟩

theorem news_one {w : World} {g : Nat} {u : Value} {T : TypeId} (h : w.heap[g]? = some (.cells #[u] T (0, 0))) : ∀ j v, [u][j]? = some v → w.cell? ((⟨g, 0, none⟩ : Addr).add j) = some v := World.news_of_block h


theorem own_lit {w : World} {g base n size : Nat} {cs : Array Value} {e : TypeId} (h : w.heap[g]? = some (.cells cs e (0, 0))) (hs : cs.size = n * size) (hn : n ≤ maxLen) (hb : base ≤ g) : w.ownsRow base e size (.slice (some ⟨g, 0, none⟩) n n) n cs.toList :=
  ⟨by rw [Array.length_toList]; exact hs, .inr ⟨g, n, cs, rfl, hb, h, Nat.le_refl _, hn, hs, by rw [← hs, ← Array.length_toList, List.take_length]⟩⟩
def numsL (a b c : Int) : List Int := [a, b, c]
def numV (n : Int) : Value := .string (str (Lib.itoa n))
theorem words_len (j : Nat) : (wordsL.getD j []).length ≤ 100 := by
  by_cases hj : j < 10
  · match j, hj with
    | 0, _ => decide | 1, _ => decide | 2, _ => decide | 3, _ => decide | 4, _ => decide | 5, _ => decide | 6, _ => decide | 7, _ => decide | 8, _ => decide | 9, _ => decide
  · rw [List.getD_eq_getElem?_getD, List.getElem?_eq_none (by simp [wordsL]; omega)]; simp
theorem word_in {j : Nat} (hj : j < 10) : wordL ((j : Int) + 1) = wordsL.getD j [] := by
  unfold wordL
  rw [if_pos (by omega), show ((j : Int) + 1 - 1).toNat = j by omega]
theorem word_out {k : Int} (h : ¬ (1 ≤ k ∧ k ≤ 10)) : wordL k = [63] := by
  unfold wordL
  rw [if_neg h]
theorem take_snoc {l : List Int} {i : Nat} {n : Int} (h : l[i]? = some n) : l.take (i + 1) = l.take i ++ [n] := by
  rw [List.take_add_one, h]; rfl
/-- A block of another type, behind an append to a row of strings. -/
theorem own_other {w w5 w6 : World} {base n g : Nat} {v : Value} {xs : List Value} {e : TypeId} {ds : Array Value} {o : Obj} (h : w.ownsRow base 9 1 v n xs) (hb : w.heap[g]? = some (.cells ds e (0, 0))) (h5 : Below w.heap.size w w5)
    (hg : (w5.alloc o).grownBy w6 v.ownBlock) (he : e ≠ 9) : w6.heap[g]? = some (.cells ds e (0, 0)) := by
  have hl : g < w.heap.size := (Array.getElem?_eq_some_iff.1 hb).1
  have hl5 : g < w5.heap.size := Nat.lt_of_lt_of_le hl h5.size
  rw [hg.block g (by simp; omega) ?_, Below.heap_alloc _ _ _ hl5]
  · exact block_below hb h5
  · intro hv
    rcases h.2 with ⟨rfl, _⟩ | ⟨g', cap, cur, rfl, _, hh, _⟩
    · simp [Value.ownBlock] at hv
    · have : g = g' := by simpa [Value.ownBlock] using hv
      subst this
      rw [hb] at hh
      injection hh with hh
      injection hh with _ hh
      exact he hh
theorem join_nums (wd : List UInt8) (a b c : Int) (y : Bool) : Lib.join (wd :: Lib.itoa a :: Lib.itoa b :: Lib.itoa c :: if y then [[121, 101, 115]] else []) [32] = wd ++ 32 :: (Lib.itoa a ++ 32 :: (Lib.itoa b ++ 32 :: (Lib.itoa c ++ if y then [32, 121, 101, 115] else []))) := by
  rw [Lib.join_cons]
  cases y <;> simp [Lib.joinTail]
theorem join_len (wd : List UInt8) (a b c : Int) (y : Bool) (hw : wd.length ≤ 100) (ha : Int64 a) (hb : Int64 b) (hc : Int64 c) : (Lib.join (wd :: Lib.itoa a :: Lib.itoa b :: Lib.itoa c :: if y then [[121, 101, 115]] else []) [32]).length ≤ 140737488355328 := by
  rw [join_nums]
  have h1 := itoa_len a ha.1 ha.2
  have h2 := itoa_len b hb.1 hb.2
  have h3 := itoa_len c hc.1 hc.2
  cases y <;> simp <;> omega
theorem join_strs (w : World) (g cap base : Nat) (xs : List (List UInt8)) (h : w.ownsRow base 9 1 (.slice (some ⟨g, 0, none⟩) xs.length cap) xs.length (xs.map fun l => .string (str l))) (hx : xs.length ≤ 100) (hl : (Lib.join xs [32]).length ≤ 140737488355328) :
    Calls Tryd.prog 31 #[.slice (some ⟨g, 0, none⟩) xs.length cap, .string ⟨#[32]⟩] w fun e w' => e = .returned (.string (str (Lib.join xs [32]))) ∧ Below w.heap.size w w' := by
  have e1 : (xs.map str).map (fun b : ByteArray => b.data.toList) = xs := by
    rw [List.map_map]
    conv => rhs; rw [← List.map_id xs]
    exact List.map_congr_left fun l _ => by simp [str]
  have hg : g < w.heap.size := by
    rcases own_forms h with ⟨h0, _⟩ | ⟨g', cap', h0, _, h1⟩
    · simp at h0
    · simp only [Value.slice.injEq, Option.some.injEq, Addr.mk.injEq, and_true, true_and] at h0
      rw [h0.1]; exact h1
  have hcap : xs.length ≤ cap := by
    rcases h.2 with ⟨h0, _⟩ | ⟨g', cap', cur, h0, _, _, h1, _⟩
    · simp at h0
    · simp only [Value.slice.injEq, Option.some.injEq, Addr.mk.injEq, and_true, true_and] at h0
      rw [h0.2]; exact h1
  have := Tryd.strings_Join g 0 cap (xs.map str) ⟨#[32]⟩ w (fun j x hj => by
    have hj' : j < xs.length := by have := (List.getElem?_eq_some_iff.1 hj).1; simpa using this
    rw [Nat.zero_add, h.cellAt j (by omega), List.getElem?_map]
    rw [List.getElem?_map] at hj
    obtain ⟨l, hl, rfl⟩ := Option.map_eq_some_iff.1 hj
    rw [hl]; rfl) hg (by simp; omega) (by simpa using hcap) (by rw [e1]; exact hl)
  rw [e1, List.length_map] at this
  exact this

set_option maxHeartbeats 4000000 in
set_option maxRecDepth 100000 in
theorem text_any (w : World) (ht : Tabs w) (k a b c : Int) (u x : Value) (y : Bool) (hk : Int64 k) (ha : Int64 a) (hb : Int64 b) (hc : Int64 c) :
    Calls Tryd.prog 13 #[.agg #[.int .i64 k, .int .i64 a, .int .i64 b, .int .i64 c, u, x, .bool y]] w fun e w' => e = .returned (.string (str (textOf k a b c y))) ∧ Below w.heap.size w w' := by
  have HT := Lib.hid ht
  have HA := Lib.hid ha
  have HB := Lib.hid hb
  have HC := Lib.hid hc
  obtain ⟨hk0, hk1⟩ := hk
  clear ht ha hb hc
  by_cases h1 : 1 ≤ k
  · by_cases h2 : k ≤ 10
    · obtain ⟨j, hj, rfl⟩ : ∃ j : Nat, j < 10 ∧ k = (j : Int) + 1 := ⟨(k - 1).toNat, by omega, by omega⟩
      go_enter Tryd.func13, Tryd.ntmps13
      go_wp2_with (go_at_call 29; fail)
      generalize hw2 : World.alloc (World.alloc w _) _ = w2
      have hb2 : Below w.heap.size w w2 := by rw [← hw2]; exact below_alloc' (below_alloc' (Below.refl _ _) _) _
      have z0 : w2.heap[w.heap.size]? = some (.cells #[.int .i64 ((j : Int) + 1), .int .i64 a, .int .i64 b, .int .i64 c, u, x, .bool y] 26 (0, 0)) := by rw [← hw2, Below.heap_alloc _ _ _ (by simp)]; exact alloc_at _ _
      have z1 : w2.heap[w.heap.size + 1]? = some (.cells #[.string ⟨#[63]⟩] 9 (0, 0)) := by rw [← hw2]; exact alloc_second _ _ _
      clear hw2
      refine (fields_any w2 (HT.out.below hb2)).mono ?_
      rintro r w3 ⟨rfl, hb3, hs3, hc3⟩
      have y0 := block_below z0 hb3
      have y1 := block_below z1 hb3
      have HB3 := Lib.hid (below_call hb2 hb3)
      have g2 : w.heap.size + 1 < w2.heap.size := (Array.getElem?_eq_some_iff.1 z1).1
      obtain ⟨wl, hwl, hlen⟩ : ∃ wl, wordsL.getD j [] = wl ∧ wl.length ≤ 100 := ⟨_, rfl, words_len j⟩
      obtain ⟨wd, hwd⟩ : ∃ wd, wd = str wl := ⟨_, rfl⟩
      have cw := hc3 j hj
      rw [hwl, ← hwd] at cw
      have HWL := Lib.hid ((word_in hj).trans hwl)
      clear hwl
      have c0 := cell_of_block y0 0 _ rfl
      have c1 := cell_of_block y0 1 _ rfl
      have c2 := cell_of_block y0 2 _ rfl
      have c3 := cell_of_block y0 3 _ rfl
      have f1 := free_of_block y1 0
      have l0 := cell_of_block y1 0 _ rfl
      have HWD := Lib.hid hwd
      have Y0 := Lib.hid y0
      have Y1 := Lib.hid y1
      have G2 := Lib.hid g2
      have S3 := Lib.hid hs3
      clear hb2 z0 z1 hb3 hc3 y0 y1 hwd g2 hs3
      go_wp2
      generalize hw4 : World.alloc _ _ = w4
      have q1 : w4.heap[w.heap.size + 1]? = some (.cells #[.string wd] 9 (0, 0)) := by rw [← hw4, Below.heap_alloc _ _ _ (by have := G2.out; have := S3.out; simp [World.setCell]; omega)]; exact heap_setCell_same _ _ _ _ _ _ Y1.out
      have q0 : w4.heap[w.heap.size]? = some (.cells #[.int .i64 ((j : Int) + 1), .int .i64 a, .int .i64 b, .int .i64 c, u, x, .bool y] 26 (0, 0)) := by rw [← hw4, Below.heap_alloc _ _ _ (by have := G2.out; have := S3.out; simp [World.setCell]; omega), Below.heap_setCell _ _ _ _ (by simp)]; exact Y0.out
      have qi : w4.heap[w3.heap.size]? = some (.cells #[.int .i64 a, .int .i64 b, .int .i64 c] 3 (0, 0)) := by rw [← hw4]; have := alloc_at (w3.setCell ⟨w.heap.size + 1, 0, none⟩ (.string wd)) (.cells #[.int .i64 a, .int .i64 b, .int .i64 c] 3); simpa [World.setCell] using this
      have qb : Below w.heap.size w w4 := by rw [← hw4]; exact below_alloc' (Below.setCell HB3.out (by simp) _) _
      have q2 : w4.ownsRow w.heap.size 9 1 (.slice (some ⟨w.heap.size + 1, 0, none⟩) 1 1) 1 [.string wd] := own_lit q1 rfl (by decide) (by omega)
      have Q0 := Lib.hid q0
      have Q2 := Lib.hid q2
      have QI := Lib.hid qi
      have QB := Lib.hid qb
      clear hw4 q0 q1 q2 qi qb c0 c1 c2 c3 f1 l0 cw
      go_loopw [3, 35] (fun v i wr => ∃ q : Nat, i = .int .i64 q ∧ q ≤ 3 ∧ Below w.heap.size w wr ∧ wr.ownsRow w.heap.size 9 1 v (q + 1) (.string wd :: ((numsL a b c).take q).map numV) ∧
          wr.heap[w.heap.size]? = some (.cells #[.int .i64 ((j : Int) + 1), .int .i64 a, .int .i64 b, .int .i64 c, u, x, .bool y] 26 (0, 0)) ∧ wr.heap[w3.heap.size]? = some (.cells #[.int .i64 a, .int .i64 b, .int .i64 c] 3 (0, 0))) (fun _ i _ => 3 - (intOf i).toNat)
      case atStart => exact ⟨0, rfl, Nat.zero_le _, QB.out, Q2.out, Q0.out, QI.out⟩
      case round =>
        obtain ⟨i, rfl, hi, hbr, how, hbx, his⟩ := hrel
        have HBR := Lib.hid hbr
        have HO := Lib.hid how
        have HX := Lib.hid hbx
        have HI := Lib.hid his
        clear hbr how
        by_cases h3 : i < 3
        · have h3' : (i : Int) < 3 := by omega
          obtain ⟨n, hn, hn64⟩ : ∃ n, (numsL a b c)[i]? = some n ∧ Int64 n := by
            match i, h3 with
            | 0, _ => exact ⟨a, rfl, HA.out⟩
            | 1, _ => exact ⟨b, rfl, HB.out⟩
            | 2, _ => exact ⟨c, rfl, HC.out⟩
          have ci : wr.cell? ⟨w3.heap.size, i, none⟩ = some (.int .i64 n) := cell_of_block his i _ (by
            match i, h3, hn with
            | 0, _, hn => cases hn; rfl
            | 1, _, hn => cases hn; rfl
            | 2, _, hn => cases hn; rfl)
          have HN := Lib.hid hn
          have HN64 := Lib.hid hn64
          clear hbx his hn hn64
          go_wp2_with (first | (go_at_call 30; refine (itoa_any _ (HT.out.below HBR.out) n HN64.out).mono ?_; rintro r w5 ⟨rfl, hb⟩; have HB5 := Lib.hid hb; clear hb) | (at_builtin; refine list_appends elt_strs _ _ rfl rfl rfl rfl ((own_below HO.out HB5.out).alloc _) (show [Value.string (str (Lib.itoa n))].length = 1 * 1 from rfl) (news_one (alloc_at _ _)) (by simp [Value.oneCell']) (by omega) (by have := HBR.out.size; have := HB5.out.size; simp; omega) ?_; intro v' w6 hown hgrow; have HO6 := Lib.hid hown; have HG6 := Lib.hid hgrow; clear hown hgrow))
          go_roundw
          case rel =>
            have hz := HBR.out.size
            have b5 := below_call HBR.out HB5.out
            have hrow : ∀ k, Value.ownBlock _ = some k → w.heap.size ≤ k := fun k hk => (HO.out.lt k hk).1
            have b6 := (below_alloc' b5 (.cells #[.string (str (Lib.itoa n))] 9)).grown HG6.out (by have := b5.size; simp; omega) hrow
            have o1 : w3.heap.size < wr.heap.size := (Array.getElem?_eq_some_iff.1 HI.out).1
            refine ⟨i + 1, by go_num, by omega, b6, ?_, ?_, ?_⟩
            · have := HO6.out
              rwa [List.cons_append, show ([.string (str (Lib.itoa n))] : List Value) = [n].map numV from rfl, ← List.map_append, ← take_snoc HN.out] at this
            · exact own_other HO.out HX.out HB5.out HG6.out (by decide)
            · exact own_other HO.out HI.out HB5.out HG6.out (by decide)
          case measure => simp [intOf]; omega
        · obtain rfl : i = 3 := by omega
          have c6 := cell_of_block hbx 6 _ rfl
          obtain ⟨g, cap, rfl, hg, hgs⟩ := (own_forms HO.out).resolve_left (by rintro ⟨_, h, _⟩; exact absurd h (by omega))
          clear hbx his
          cases y
          · go_wp2_with (go_at_call 31; refine (join_strs _ g cap w.heap.size [wl, Lib.itoa a, Lib.itoa b, Lib.itoa c] (by have := HO.out; rw [HWD.out] at this; exact this) (by simp) (join_len wl a b c false hlen HA.out HB.out HC.out)).mono ?_; rintro r w5 ⟨rfl, hb⟩; have HB5 := Lib.hid hb; clear hb)
            go_ret
            refine ⟨ret_str ?_, below_call HBR.out HB5.out⟩
            have := join_nums wl a b c false
            simp only [Bool.false_eq_true, if_false] at this
            rw [this]
            simp [textOf, HWL.out]
          · go_wp2_with (first | (at_builtin; refine list_appends elt_strs _ _ rfl rfl rfl rfl ((HO.out).alloc _) (show [Value.string (str [121, 101, 115])].length = 1 * 1 from rfl) (news_one (alloc_at _ _)) (by simp [Value.oneCell']) (by omega) (by have := HBR.out.size; simp; omega) ?_; intro v' w6 hown hgrow; have HO6 := Lib.hid hown; have HG6 := Lib.hid hgrow; clear hown hgrow; obtain ⟨g6, cap6, rfl, hg6, hgs6⟩ := (own_forms HO6.out).resolve_left (by rintro ⟨_, h, _⟩; exact absurd h (by omega))) | (go_at_call 31; refine (join_strs _ g6 cap6 w.heap.size [wl, Lib.itoa a, Lib.itoa b, Lib.itoa c, [121, 101, 115]] (by have := HO6.out; rw [HWD.out] at this; exact this) (by simp) (join_len wl a b c true hlen HA.out HB.out HC.out)).mono ?_; rintro r w5 ⟨rfl, hb⟩; have HB5 := Lib.hid hb; clear hb))
            go_ret
            have b6 := (below_alloc' HBR.out (.cells #[.string (str [121, 101, 115])] 9)).grown HG6.out (by have := HBR.out.size; simp; omega) (fun k hk => (HO.out.lt k hk).1)
            refine ⟨ret_str ?_, below_call b6 HB5.out⟩
            have := join_nums wl a b c true
            simp only [if_true] at this
            rw [this]
            simp [textOf, HWL.out]
    · go_enter Tryd.func13, Tryd.ntmps13
      go_wp2_with (go_at_call 29; fail)
      generalize hw2 : World.alloc (World.alloc w _) _ = w2
      have hb2 : Below w.heap.size w w2 := by rw [← hw2]; exact below_alloc' (below_alloc' (Below.refl _ _) _) _
      have z0 : w2.heap[w.heap.size]? = some (.cells #[.int .i64 k, .int .i64 a, .int .i64 b, .int .i64 c, u, x, .bool y] 26 (0, 0)) := by rw [← hw2, Below.heap_alloc _ _ _ (by simp)]; exact alloc_at _ _
      have z1 : w2.heap[w.heap.size + 1]? = some (.cells #[.string ⟨#[63]⟩] 9 (0, 0)) := by rw [← hw2]; exact alloc_second _ _ _
      clear hw2
      refine (fields_any w2 (HT.out.below hb2)).mono ?_
      rintro r w3 ⟨rfl, hb3, hs3, hc3⟩
      have y0 := block_below z0 hb3
      have y1 := block_below z1 hb3
      have HB3 := Lib.hid (below_call hb2 hb3)
      have g2 : w.heap.size + 1 < w2.heap.size := (Array.getElem?_eq_some_iff.1 z1).1
      obtain ⟨wd, hwd⟩ : ∃ wd, wd = str [63] := ⟨_, rfl⟩
      have c0 := cell_of_block y0 0 _ rfl
      have c1 := cell_of_block y0 1 _ rfl
      have c2 := cell_of_block y0 2 _ rfl
      have c3 := cell_of_block y0 3 _ rfl
      have f1 := free_of_block y1 0
      have l0 := cell_of_block y1 0 _ rfl
      have HWD := Lib.hid hwd
      have Y0 := Lib.hid y0
      have Y1 := Lib.hid y1
      have G2 := Lib.hid g2
      have S3 := Lib.hid hs3
      clear hb2 z0 z1 hb3 hc3 y0 y1 hwd g2 hs3
      go_wp2
      generalize hw4 : World.alloc _ _ = w4
      have q1 : w4.heap[w.heap.size + 1]? = some (.cells #[.string wd] 9 (0, 0)) := by rw [← hw4, Below.heap_alloc _ _ _ (by have := G2.out; have := S3.out; omega), HWD.out]; exact Y1.out
      have q0 : w4.heap[w.heap.size]? = some (.cells #[.int .i64 k, .int .i64 a, .int .i64 b, .int .i64 c, u, x, .bool y] 26 (0, 0)) := by rw [← hw4, Below.heap_alloc _ _ _ (by have := G2.out; have := S3.out; omega)]; exact Y0.out
      have qi : w4.heap[w3.heap.size]? = some (.cells #[.int .i64 a, .int .i64 b, .int .i64 c] 3 (0, 0)) := by rw [← hw4]; exact alloc_at _ _
      have qb : Below w.heap.size w w4 := by rw [← hw4]; exact below_alloc' HB3.out _
      have q2 : w4.ownsRow w.heap.size 9 1 (.slice (some ⟨w.heap.size + 1, 0, none⟩) 1 1) 1 [.string wd] := own_lit q1 rfl (by decide) (by omega)
      have Q0 := Lib.hid q0
      have Q2 := Lib.hid q2
      have QI := Lib.hid qi
      have QB := Lib.hid qb
      clear hw4 q0 q1 q2 qi qb c0 c1 c2 c3 f1 l0 
      go_loopw [3, 35] (fun v i wr => ∃ q : Nat, i = .int .i64 q ∧ q ≤ 3 ∧ Below w.heap.size w wr ∧ wr.ownsRow w.heap.size 9 1 v (q + 1) (.string wd :: ((numsL a b c).take q).map numV) ∧
          wr.heap[w.heap.size]? = some (.cells #[.int .i64 k, .int .i64 a, .int .i64 b, .int .i64 c, u, x, .bool y] 26 (0, 0)) ∧ wr.heap[w3.heap.size]? = some (.cells #[.int .i64 a, .int .i64 b, .int .i64 c] 3 (0, 0))) (fun _ i _ => 3 - (intOf i).toNat)
      case atStart => exact ⟨0, rfl, Nat.zero_le _, QB.out, Q2.out, Q0.out, QI.out⟩
      case round =>
        obtain ⟨i, rfl, hi, hbr, how, hbx, his⟩ := hrel
        have HBR := Lib.hid hbr
        have HO := Lib.hid how
        have HX := Lib.hid hbx
        have HI := Lib.hid his
        clear hbr how
        by_cases h3 : i < 3
        · have h3' : (i : Int) < 3 := by omega
          obtain ⟨n, hn, hn64⟩ : ∃ n, (numsL a b c)[i]? = some n ∧ Int64 n := by
            match i, h3 with
            | 0, _ => exact ⟨a, rfl, HA.out⟩
            | 1, _ => exact ⟨b, rfl, HB.out⟩
            | 2, _ => exact ⟨c, rfl, HC.out⟩
          have ci : wr.cell? ⟨w3.heap.size, i, none⟩ = some (.int .i64 n) := cell_of_block his i _ (by
            match i, h3, hn with
            | 0, _, hn => cases hn; rfl
            | 1, _, hn => cases hn; rfl
            | 2, _, hn => cases hn; rfl)
          have HN := Lib.hid hn
          have HN64 := Lib.hid hn64
          clear hbx his hn hn64
          go_wp2_with (first | (go_at_call 30; refine (itoa_any _ (HT.out.below HBR.out) n HN64.out).mono ?_; rintro r w5 ⟨rfl, hb⟩; have HB5 := Lib.hid hb; clear hb) | (at_builtin; refine list_appends elt_strs _ _ rfl rfl rfl rfl ((own_below HO.out HB5.out).alloc _) (show [Value.string (str (Lib.itoa n))].length = 1 * 1 from rfl) (news_one (alloc_at _ _)) (by simp [Value.oneCell']) (by omega) (by have := HBR.out.size; have := HB5.out.size; simp; omega) ?_; intro v' w6 hown hgrow; have HO6 := Lib.hid hown; have HG6 := Lib.hid hgrow; clear hown hgrow))
          go_roundw
          case rel =>
            have hz := HBR.out.size
            have b5 := below_call HBR.out HB5.out
            have hrow : ∀ k, Value.ownBlock _ = some k → w.heap.size ≤ k := fun k hk => (HO.out.lt k hk).1
            have b6 := (below_alloc' b5 (.cells #[.string (str (Lib.itoa n))] 9)).grown HG6.out (by have := b5.size; simp; omega) hrow
            have o1 : w3.heap.size < wr.heap.size := (Array.getElem?_eq_some_iff.1 HI.out).1
            refine ⟨i + 1, by go_num, by omega, b6, ?_, ?_, ?_⟩
            · have := HO6.out
              rwa [List.cons_append, show ([.string (str (Lib.itoa n))] : List Value) = [n].map numV from rfl, ← List.map_append, ← take_snoc HN.out] at this
            · exact own_other HO.out HX.out HB5.out HG6.out (by decide)
            · exact own_other HO.out HI.out HB5.out HG6.out (by decide)
          case measure => simp [intOf]; omega
        · obtain rfl : i = 3 := by omega
          have c6 := cell_of_block hbx 6 _ rfl
          obtain ⟨g, cap, rfl, hg, hgs⟩ := (own_forms HO.out).resolve_left (by rintro ⟨_, h, _⟩; exact absurd h (by omega))
          clear hbx his
          cases y
          · go_wp2_with (go_at_call 31; refine (join_strs _ g cap w.heap.size [[63], Lib.itoa a, Lib.itoa b, Lib.itoa c] (by have := HO.out; rw [HWD.out] at this; exact this) (by simp) (join_len [63] a b c false (by decide) HA.out HB.out HC.out)).mono ?_; rintro r w5 ⟨rfl, hb⟩; have HB5 := Lib.hid hb; clear hb)
            go_ret
            refine ⟨ret_str ?_, below_call HBR.out HB5.out⟩
            have := join_nums [63] a b c false
            simp only [Bool.false_eq_true, if_false] at this
            rw [this]
            simp [textOf, word_out (k := k) (by omega)]
          · go_wp2_with (first | (at_builtin; refine list_appends elt_strs _ _ rfl rfl rfl rfl ((HO.out).alloc _) (show [Value.string (str [121, 101, 115])].length = 1 * 1 from rfl) (news_one (alloc_at _ _)) (by simp [Value.oneCell']) (by omega) (by have := HBR.out.size; simp; omega) ?_; intro v' w6 hown hgrow; have HO6 := Lib.hid hown; have HG6 := Lib.hid hgrow; clear hown hgrow; obtain ⟨g6, cap6, rfl, hg6, hgs6⟩ := (own_forms HO6.out).resolve_left (by rintro ⟨_, h, _⟩; exact absurd h (by omega))) | (go_at_call 31; refine (join_strs _ g6 cap6 w.heap.size [[63], Lib.itoa a, Lib.itoa b, Lib.itoa c, [121, 101, 115]] (by have := HO6.out; rw [HWD.out] at this; exact this) (by simp) (join_len [63] a b c true (by decide) HA.out HB.out HC.out)).mono ?_; rintro r w5 ⟨rfl, hb⟩; have HB5 := Lib.hid hb; clear hb))
            go_ret
            have b6 := (below_alloc' HBR.out (.cells #[.string (str [121, 101, 115])] 9)).grown HG6.out (by have := HBR.out.size; simp; omega) (fun k hk => (HO.out.lt k hk).1)
            refine ⟨ret_str ?_, below_call b6 HB5.out⟩
            have := join_nums [63] a b c true
            simp only [if_true] at this
            rw [this]
            simp [textOf, word_out (k := k) (by omega)]
  · go_enter Tryd.func13, Tryd.ntmps13
    go_wp2_with (go_at_call 29; fail)
    generalize hw2 : World.alloc (World.alloc w _) _ = w2
    have hb2 : Below w.heap.size w w2 := by rw [← hw2]; exact below_alloc' (below_alloc' (Below.refl _ _) _) _
    have z0 : w2.heap[w.heap.size]? = some (.cells #[.int .i64 k, .int .i64 a, .int .i64 b, .int .i64 c, u, x, .bool y] 26 (0, 0)) := by rw [← hw2, Below.heap_alloc _ _ _ (by simp)]; exact alloc_at _ _
    have z1 : w2.heap[w.heap.size + 1]? = some (.cells #[.string ⟨#[63]⟩] 9 (0, 0)) := by rw [← hw2]; exact alloc_second _ _ _
    clear hw2
    refine (fields_any w2 (HT.out.below hb2)).mono ?_
    rintro r w3 ⟨rfl, hb3, hs3, hc3⟩
    have y0 := block_below z0 hb3
    have y1 := block_below z1 hb3
    have HB3 := Lib.hid (below_call hb2 hb3)
    have g2 : w.heap.size + 1 < w2.heap.size := (Array.getElem?_eq_some_iff.1 z1).1
    obtain ⟨wd, hwd⟩ : ∃ wd, wd = str [63] := ⟨_, rfl⟩
    have c0 := cell_of_block y0 0 _ rfl
    have c1 := cell_of_block y0 1 _ rfl
    have c2 := cell_of_block y0 2 _ rfl
    have c3 := cell_of_block y0 3 _ rfl
    have f1 := free_of_block y1 0
    have l0 := cell_of_block y1 0 _ rfl
    have HWD := Lib.hid hwd
    have Y0 := Lib.hid y0
    have Y1 := Lib.hid y1
    have G2 := Lib.hid g2
    have S3 := Lib.hid hs3
    clear hb2 z0 z1 hb3 hc3 y0 y1 hwd g2 hs3
    go_wp2
    generalize hw4 : World.alloc _ _ = w4
    have q1 : w4.heap[w.heap.size + 1]? = some (.cells #[.string wd] 9 (0, 0)) := by rw [← hw4, Below.heap_alloc _ _ _ (by have := G2.out; have := S3.out; omega), HWD.out]; exact Y1.out
    have q0 : w4.heap[w.heap.size]? = some (.cells #[.int .i64 k, .int .i64 a, .int .i64 b, .int .i64 c, u, x, .bool y] 26 (0, 0)) := by rw [← hw4, Below.heap_alloc _ _ _ (by have := G2.out; have := S3.out; omega)]; exact Y0.out
    have qi : w4.heap[w3.heap.size]? = some (.cells #[.int .i64 a, .int .i64 b, .int .i64 c] 3 (0, 0)) := by rw [← hw4]; exact alloc_at _ _
    have qb : Below w.heap.size w w4 := by rw [← hw4]; exact below_alloc' HB3.out _
    have q2 : w4.ownsRow w.heap.size 9 1 (.slice (some ⟨w.heap.size + 1, 0, none⟩) 1 1) 1 [.string wd] := own_lit q1 rfl (by decide) (by omega)
    have Q0 := Lib.hid q0
    have Q2 := Lib.hid q2
    have QI := Lib.hid qi
    have QB := Lib.hid qb
    clear hw4 q0 q1 q2 qi qb c0 c1 c2 c3 f1 l0 
    go_loopw [3, 35] (fun v i wr => ∃ q : Nat, i = .int .i64 q ∧ q ≤ 3 ∧ Below w.heap.size w wr ∧ wr.ownsRow w.heap.size 9 1 v (q + 1) (.string wd :: ((numsL a b c).take q).map numV) ∧
        wr.heap[w.heap.size]? = some (.cells #[.int .i64 k, .int .i64 a, .int .i64 b, .int .i64 c, u, x, .bool y] 26 (0, 0)) ∧ wr.heap[w3.heap.size]? = some (.cells #[.int .i64 a, .int .i64 b, .int .i64 c] 3 (0, 0))) (fun _ i _ => 3 - (intOf i).toNat)
    case atStart => exact ⟨0, rfl, Nat.zero_le _, QB.out, Q2.out, Q0.out, QI.out⟩
    case round =>
      obtain ⟨i, rfl, hi, hbr, how, hbx, his⟩ := hrel
      have HBR := Lib.hid hbr
      have HO := Lib.hid how
      have HX := Lib.hid hbx
      have HI := Lib.hid his
      clear hbr how
      by_cases h3 : i < 3
      · have h3' : (i : Int) < 3 := by omega
        obtain ⟨n, hn, hn64⟩ : ∃ n, (numsL a b c)[i]? = some n ∧ Int64 n := by
          match i, h3 with
          | 0, _ => exact ⟨a, rfl, HA.out⟩
          | 1, _ => exact ⟨b, rfl, HB.out⟩
          | 2, _ => exact ⟨c, rfl, HC.out⟩
        have ci : wr.cell? ⟨w3.heap.size, i, none⟩ = some (.int .i64 n) := cell_of_block his i _ (by
          match i, h3, hn with
          | 0, _, hn => cases hn; rfl
          | 1, _, hn => cases hn; rfl
          | 2, _, hn => cases hn; rfl)
        have HN := Lib.hid hn
        have HN64 := Lib.hid hn64
        clear hbx his hn hn64
        go_wp2_with (first | (go_at_call 30; refine (itoa_any _ (HT.out.below HBR.out) n HN64.out).mono ?_; rintro r w5 ⟨rfl, hb⟩; have HB5 := Lib.hid hb; clear hb) | (at_builtin; refine list_appends elt_strs _ _ rfl rfl rfl rfl ((own_below HO.out HB5.out).alloc _) (show [Value.string (str (Lib.itoa n))].length = 1 * 1 from rfl) (news_one (alloc_at _ _)) (by simp [Value.oneCell']) (by omega) (by have := HBR.out.size; have := HB5.out.size; simp; omega) ?_; intro v' w6 hown hgrow; have HO6 := Lib.hid hown; have HG6 := Lib.hid hgrow; clear hown hgrow))
        go_roundw
        case rel =>
          have hz := HBR.out.size
          have b5 := below_call HBR.out HB5.out
          have hrow : ∀ k, Value.ownBlock _ = some k → w.heap.size ≤ k := fun k hk => (HO.out.lt k hk).1
          have b6 := (below_alloc' b5 (.cells #[.string (str (Lib.itoa n))] 9)).grown HG6.out (by have := b5.size; simp; omega) hrow
          have o1 : w3.heap.size < wr.heap.size := (Array.getElem?_eq_some_iff.1 HI.out).1
          refine ⟨i + 1, by go_num, by omega, b6, ?_, ?_, ?_⟩
          · have := HO6.out
            rwa [List.cons_append, show ([.string (str (Lib.itoa n))] : List Value) = [n].map numV from rfl, ← List.map_append, ← take_snoc HN.out] at this
          · exact own_other HO.out HX.out HB5.out HG6.out (by decide)
          · exact own_other HO.out HI.out HB5.out HG6.out (by decide)
        case measure => simp [intOf]; omega
      · obtain rfl : i = 3 := by omega
        have c6 := cell_of_block hbx 6 _ rfl
        obtain ⟨g, cap, rfl, hg, hgs⟩ := (own_forms HO.out).resolve_left (by rintro ⟨_, h, _⟩; exact absurd h (by omega))
        clear hbx his
        cases y
        · go_wp2_with (go_at_call 31; refine (join_strs _ g cap w.heap.size [[63], Lib.itoa a, Lib.itoa b, Lib.itoa c] (by have := HO.out; rw [HWD.out] at this; exact this) (by simp) (join_len [63] a b c false (by decide) HA.out HB.out HC.out)).mono ?_; rintro r w5 ⟨rfl, hb⟩; have HB5 := Lib.hid hb; clear hb)
          go_ret
          refine ⟨ret_str ?_, below_call HBR.out HB5.out⟩
          have := join_nums [63] a b c false
          simp only [Bool.false_eq_true, if_false] at this
          rw [this]
          simp [textOf, word_out (k := k) (by omega)]
        · go_wp2_with (first | (at_builtin; refine list_appends elt_strs _ _ rfl rfl rfl rfl ((HO.out).alloc _) (show [Value.string (str [121, 101, 115])].length = 1 * 1 from rfl) (news_one (alloc_at _ _)) (by simp [Value.oneCell']) (by omega) (by have := HBR.out.size; simp; omega) ?_; intro v' w6 hown hgrow; have HO6 := Lib.hid hown; have HG6 := Lib.hid hgrow; clear hown hgrow; obtain ⟨g6, cap6, rfl, hg6, hgs6⟩ := (own_forms HO6.out).resolve_left (by rintro ⟨_, h, _⟩; exact absurd h (by omega))) | (go_at_call 31; refine (join_strs _ g6 cap6 w.heap.size [[63], Lib.itoa a, Lib.itoa b, Lib.itoa c, [121, 101, 115]] (by have := HO6.out; rw [HWD.out] at this; exact this) (by simp) (join_len [63] a b c true (by decide) HA.out HB.out HC.out)).mono ?_; rintro r w5 ⟨rfl, hb⟩; have HB5 := Lib.hid hb; clear hb))
          go_ret
          have b6 := (below_alloc' HBR.out (.cells #[.string (str [121, 101, 115])] 9)).grown HG6.out (by have := HBR.out.size; simp; omega) (fun k hk => (HO.out.lt k hk).1)
          refine ⟨ret_str ?_, below_call b6 HB5.out⟩
          have := join_nums [63] a b c true
          simp only [if_true] at this
          rw [this]
          simp [textOf, word_out (k := k) (by omega)]
end Go.Proofs.YtpkkjonajimefaaDoor
