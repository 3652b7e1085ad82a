/- A set of a word, by play. -/
import Derived.Test.YtikamehjeaoilaaGreatDoorPq
set_option linter.unusedVariables false
set_option linter.unusedSimpArgs false
namespace Go.Proofs.YtikamehjeaoilaaGreatDoor
open Go.RowKit

/-- Texts in blocks from a number on. -/
def Tx (base : Nat) (w : World) (v : Value) (l : List (List UInt8)) : Prop :=
  ∃ a c, v = .slice a l.length c ∧ few l ∧ ∀ i, (h : i < l.length) → ∃ (b off : Nat) (cs : Array Value), a = some ⟨b, off, none⟩ ∧ base ≤ b ∧ w.heap[b]? = some (.cells cs 9 (0, 0)) ∧ cs[off + i]? = some (.string (str l[i]))
theorem Tx.texts {base : Nat} {w : World} {v : Value} {l : List (List UInt8)} (h : Tx base w v l) : Texts w v (l.map str) := by
  obtain ⟨a, c, rfl, hf, hc⟩ := h
  refine ⟨a, c, by rw [List.length_map], by rw [List.length_map]; have := hf.1; omega, fun x hx => ?_, fun i hi => ?_⟩
  · obtain ⟨y, hy, rfl⟩ := List.mem_map.1 hx
    have := hf.2 y hy
    rw [str_size]; unfold maxLen; omega
  · have hi' : i < l.length := by simpa using hi
    obtain ⟨b, off, cs, e, _, hblk, hcell⟩ := hc i hi'
    refine ⟨b, off, e, ?_⟩
    rw [cell_of_block hblk _ _ hcell, List.getD_eq_getElem?_getD, List.getElem?_map, List.getElem?_eq_getElem hi']
    rfl
theorem Tx.below {base : Nat} {w w' : World} {v : Value} {l : List (List UInt8)} (h : Tx base w v l) (k : Below w.heap.size w w') : Tx base w' v l := by
  obtain ⟨a, c, e, hf, hc⟩ := h
  exact ⟨a, c, e, hf, fun i hi => by obtain ⟨b, off, cs, e1, e2, e3, e4⟩ := hc i hi; exact ⟨b, off, cs, e1, e2, block_below e3 k, e4⟩⟩
theorem Tx.base {base base' : Nat} {w : World} {v : Value} {l : List (List UInt8)} (h : Tx base w v l) (k : base' ≤ base) : Tx base' w v l := by
  obtain ⟨a, c, e, hf, hc⟩ := h
  exact ⟨a, c, e, hf, fun i hi => by obtain ⟨b, off, cs, e1, e2, e3⟩ := hc i hi; exact ⟨b, off, cs, e1, Nat.le_trans k e2, e3⟩⟩
theorem Tx.gb {base g : Nat} {w w' : World} {v : Value} {l : List (List UInt8)} (h : Tx base w v l) (k : Gb g w w') (hg : g < base) : Tx base w' v l := by
  obtain ⟨a, c, e, hf, hc⟩ := h
  exact ⟨a, c, e, hf, fun i hi => by
    obtain ⟨b, off, cs, e1, e2, e3, e4⟩ := hc i hi
    exact ⟨b, off, cs, e1, e2, Gb.block' k e3 (by omega), e4⟩⟩
/-- Where rows of texts stand. -/
theorem Tx.kept {base : Nat} {w w' : World} {v : Value} {l : List (List UInt8)} (h : Tx base w v l) (k : ∀ (b : Nat) (cs : Array Value), w.heap[b]? = some (.cells cs 9 (0, 0)) → w'.heap[b]? = some (.cells cs 9 (0, 0))) : Tx base w' v l := by
  obtain ⟨a, c, e, hf, hc⟩ := h
  exact ⟨a, c, e, hf, fun i hi => by obtain ⟨b, off, cs, e1, e2, e3, e4⟩ := hc i hi; exact ⟨b, off, cs, e1, e2, k b cs e3, e4⟩⟩
theorem Tx.nil (base : Nat) (w : World) : Tx base w (.slice none 0 0) [] := ⟨none, 0, rfl, ⟨Nat.zero_le _, by simp⟩, fun i hi => absurd hi (Nat.not_lt_zero _)⟩
theorem Tx.drew {base : Nat} {w : World} {v : Value} {l : List (List UInt8)} (h : Tx base w v l) : Tx base w.drew v l := h
theorem cell_inv {w : World} {g : Nat} {cs : Array Value} {T : TypeId} (h : w.heap[g]? = some (.cells cs T (0, 0))) (j : Nat) : w.cell? ⟨g, j, none⟩ = cs[j]? := by simp [World.cell?, h]
theorem Tx.of_strs {base : Nat} {w : World} {v : Value} {l : List (List UInt8)} (h : Strs base w v (l.map str)) (hf : few l) : Tx base w v l := by
  unfold Strs at h
  rcases own_forms h with ⟨rfl, h1, _⟩ | ⟨g, cap, rfl, hb, _⟩
  · have : l = [] := by rw [List.length_map] at h1; exact List.length_eq_zero_iff.1 h1
    subst this; exact Tx.nil _ _
  · obtain ⟨cs, hcs⟩ : ∃ cs, w.heap[g]? = some (.cells cs 9 (0, 0)) := by
      rcases h.2 with ⟨h0, _⟩ | ⟨g', cap', cur, e1, _, hh, _⟩
      · cases h0
      · injection e1 with e1; injection e1 with e1; injection e1 with e1; subst e1; exact ⟨_, hh⟩
    refine ⟨some ⟨g, 0, none⟩, cap, by rw [List.length_map], hf, fun i hi => ⟨g, 0, cs, rfl, hb, hcs, ?_⟩⟩
    rw [Nat.zero_add, ← cell_inv hcs, h.cellAt i (by rw [Nat.mul_one, List.length_map]; exact hi)]
    rw [List.getElem?_map, List.getElem?_map, List.getElem?_eq_getElem hi]; rfl
theorem idx_any (c : UInt8) : ∀ l : List UInt8, (c ∈ l → Lib.indexAny l [c] = ((l.takeWhile (· ≠ c)).length : Int)) ∧ (c ∉ l → Lib.indexAny l [c] = -1 ∧ (l.takeWhile (· ≠ c)).length = l.length)
  | [] => ⟨(fun h => by cases h), fun _ => ⟨rfl, rfl⟩⟩
  | x :: t => by
    have ih := idx_any c t
    by_cases hx : x = c
    · subst hx
      exact ⟨fun _ => by simp [Lib.indexAny], fun h => absurd (List.mem_cons_self ..) h⟩
    · have hcn : [c].contains x = false := by simp; exact fun e => hx e
      refine ⟨fun h => ?_, fun h => ?_⟩
      · have hm : c ∈ t := by
          rcases List.mem_cons.1 h with e | e
          · exact absurd e.symm hx
          · exact e
        rw [Lib.indexAny, hcn, ih.1 hm, List.takeWhile_cons_of_pos (by simpa using hx)]
        have : (((t.takeWhile (· ≠ c)).length : Int) == -1) = false := beq_eq_false_iff_ne.2 (by omega)
        simp [this]
      · have hm : c ∉ t := fun e => h (List.mem_cons_of_mem _ e)
        rw [Lib.indexAny, hcn, (ih.2 hm).1, List.takeWhile_cons_of_pos (by simpa using hx)]
        exact ⟨rfl, by simp only [List.length_cons]; rw [(ih.2 hm).2]⟩
theorem tw_take (c : UInt8) (l : List UInt8) : l.takeWhile (· ≠ c) = l.take (l.takeWhile (· ≠ c)).length ∧ l.dropWhile (· ≠ c) = l.drop (l.takeWhile (· ≠ c)).length := by
  have h : l.takeWhile (· ≠ c) ++ l.dropWhile (· ≠ c) = l := List.takeWhile_append_dropWhile
  have e1 := List.take_left (l₁ := l.takeWhile (· ≠ c)) (l₂ := l.dropWhile (· ≠ c))
  have e2 := List.drop_left (l₁ := l.takeWhile (· ≠ c)) (l₂ := l.dropWhile (· ≠ c))
  rw [h] at e1 e2
  exact ⟨e1.symm, e2.symm⟩
theorem index_one (s : List UInt8) (c : UInt8) (hc : c.toNat < 128) (w : World) : Calls Tryz.prog 109 #[.string (str s), .string ⟨#[c]⟩] w fun e w' => e = .returned (.int .i64 (Lib.indexAny s [c])) ∧ w = w' := by
  refine (Tryz.strings_IndexAny_one (str s) ⟨#[c]⟩ w rfl (fun j b hb => by
    have h3 : (⟨#[c]⟩ : ByteArray).data.toList = [c] := rfl
    rw [h3] at hb
    cases j with
    | zero => simp at hb; subst hb; exact hc
    | succ j => simp at hb)).mono ?_
  rintro e w' ⟨rfl, rfl⟩
  have h3 : (⟨#[c]⟩ : ByteArray).data.toList = [c] := rfl
  rw [str_data, h3]
  exact ⟨rfl, rfl⟩
theorem prefix_one (s : List UInt8) (c : UInt8) (w : World) : Calls Tryz.prog 148 #[.string (str s), .string ⟨#[c]⟩] w fun e w' => e = .returned (.bool (decide (s.head? = some c))) ∧ w = w' := by
  refine (Tryz.strings_HasPrefix (str s) ⟨#[c]⟩ w).mono ?_
  rintro e w' ⟨rfl, rfl⟩
  have h3 : (⟨#[c]⟩ : ByteArray).data.toList = [c] := rfl
  refine ⟨ret_bool ?_, rfl⟩
  rw [str_data, h3]
  unfold Lib.hasPrefix
  cases s with
  | nil => rfl
  | cons x t =>
    by_cases h : x = c
    · subst h; simp [List.isPrefixOf]
    · have : ¬ c = x := fun e => h e.symm
      simp [List.isPrefixOf, h, this]
def SetPost (x : List (List UInt8) × List UInt8 × Bool) (w : World) (e : Ending) (w' : World) : Prop :=
  ∃ v, e = .returned (.tuple #[v, .string (str x.2.1), .bool x.2.2]) ∧ Tx w.heap.size w' v x.1 ∧ Below w.heap.size w w'
theorem splitC_few {c : UInt8} {s : List UInt8} (hs : s.length ≤ 4294967200) : few (splitC c s) := by
  refine ⟨by have := splitC_len c s; omega, fun x hx => ?_⟩
  have h : ∀ l : List UInt8, ∀ y ∈ splitC c l, y.length ≤ l.length := by
    intro l
    induction l with
    | nil => intro y hy; simp [splitC] at hy; subst hy; exact Nat.le_refl _
    | cons z t ih =>
      intro y hy
      rw [splitC] at hy
      split at hy
      · rcases List.mem_cons.1 hy with rfl | hy
        · simp
        · have := ih y hy; simp; omega
      · match hsp : splitC c t with
        | [] => exact absurd hsp (splitC_ne c t)
        | a :: r =>
          rw [hsp] at hy ih
          simp only at hy
          rcases List.mem_cons.1 hy with rfl | hy
          · have := ih a (List.mem_cons_self ..); simp; omega
          · have := ih y (List.mem_cons_of_mem _ hy); simp; omega
  have := h s x hx
  omega
/-- All but the first of a row of texts. -/
theorem tail_tx {w : World} {g : Nat} {ls : List (List UInt8)} (h : Blk w g ls) (hn : ls ≠ []) (hf : few ls) (base : Nat) (hb : base ≤ g) :
    Tx base w (.slice (if ls.length = 1 then some ⟨g, 0, none⟩ else some ⟨g, 0 + 1, none⟩) (ls.length - 1) (ls.length - 1)) ls.tail := by
  have hl : ls.tail.length = ls.length - 1 := List.length_tail
  refine ⟨_, _, by rw [hl], ⟨by rw [hl]; have := hf.1; omega, fun x hx => hf.2 x (List.mem_of_mem_tail hx)⟩, fun i hi => ?_⟩
  rw [if_neg (by omega)]
  refine ⟨g, 0 + 1, _, rfl, hb, h, ?_⟩
  have h1 : i + 1 < ls.length := by omega
  rw [show 0 + 1 + i = i + 1 by omega, List.getElem_tail]
  simp [h1, strV]
set_option maxRecDepth 1000000 in
set_option maxHeartbeats 4000000 in
theorem pset_any (s : List UInt8) (sign stop : UInt8) (hst : stop.toNat < 128) (w : World) (ht : Tabs w) (hs : s.length ≤ 4294967200) :
    Calls Tryz.prog 111 #[.string (str s), .string ⟨#[sign]⟩, .string ⟨#[stop]⟩] w (SetPost (setP sign stop s) w) := by
  have HT := Lib.hid ht
  have hsz : (str s).size = s.length := str_size s
  obtain ⟨z, hz⟩ : ∃ z, str s = z := ⟨_, rfl⟩
  rw [hz] at hsz
  rw [hz]
  have HZ := Lib.hid hz
  obtain ⟨k, hk⟩ : ∃ k, (s.takeWhile (· ≠ stop)).length = k := ⟨_, rfl⟩
  have htw := tw_take stop s
  rw [hk] at htw
  have hkl : k ≤ s.length := by
    have h : (s.takeWhile (· ≠ stop) ++ s.dropWhile (· ≠ stop)).length = s.length := by rw [List.takeWhile_append_dropWhile]
    rw [List.length_append, hk] at h
    omega
  have hidx := idx_any stop s
  rw [hk] at hidx
  have HTW := Lib.hid htw
  have hkz : k ≤ z.size := by omega
  have hzb : z.size ≤ 4294967200 := by omega
  have hex : z.extract 0 k = str (s.take k) := by rw [← hz, str_take]
  have hey : z.extract k z.size = str (s.drop k) := by rw [← hz, str_drop]
  obtain ⟨p, hp⟩ : ∃ p, str (s.take k) = p := ⟨_, rfl⟩
  obtain ⟨q, hq⟩ : ∃ q, str (s.drop k) = q := ⟨_, rfl⟩
  rw [hp] at hex
  rw [hq] at hey
  have HP := Lib.hid hp
  have HQ := Lib.hid hq
  have HSZ := Lib.hid hsz
  clear ht htw hp hq hz hk hsz
  have hfind : ∃ r : Int, Lib.indexAny s [stop] = r ∧ (r = k ∨ (r < 0 ∧ k = z.size)) := by
    by_cases hc : stop ∈ s
    · exact ⟨_, hidx.1 hc, .inl rfl⟩
    · have h := hidx.2 hc
      exact ⟨_, h.1, .inr ⟨by decide, by have := HSZ.out; omega⟩⟩
  obtain ⟨r, hr, hrc⟩ := hfind
  have HR := Lib.hid hr
  clear hidx hr
  go_enter Tryz.func111, Tryz.ntmps111
  go_wp2_with fail
  rw [← HZ.out]
  refine (index_one s stop hst _).mono ?_
  rintro e w1 ⟨rfl, rfl⟩
  rw [HR.out, HZ.out]
  rcases hrc with rfl | ⟨hr0, hkz'⟩
  case' inr =>
    have HKZ := Lib.hid hkz'
    clear hkz'
    go_upto_region 4 with fail
    rw [show ((z.size : Nat) : Int) = (k : Int) by have := HKZ.out; omega]
  case' inl =>
    go_upto_region 4 with fail
  all_goals
    refine' Par.wp_region_pars (fun w w' => Below w.heap.size w w') 7 (by kernel_rfl) (by kernel_rfl) (by kernel_rfl) (by kernel_rfl) (by kernel_rfl) (by kernel_rfl)
      (fun w => Below.refl _ w) (fun h k => below_call h k) (fun vals => ?_)
    rotate_left
    simp only [List.take_succ_cons, List.take_zero, List.drop_succ_cons, List.drop_zero]
    iterate 7 (apply Par.par_x rfl; (focus (intro w6 hR hD K hK; replace hK := Lib.hid hK; skip; clear hR hD; go_simp; exact hK.out _ (Below.refl _ _))); simp only [Act.put, List.setIfInBounds_toArray, List.set_cons_zero, List.set_cons_succ, Nat.reduceAdd, List.cons_append, List.nil_append])
    refine Par.par_end fun w6 hR hp => ?_
    have HB6 := Lib.hid (hR : Below w.heap.size w.drew w6)
    have HB7 := Lib.hid ((Below.refl w.heap.size w).drew.trans HB6.out)
    clear hp hR
    by_cases h0 : k = 0
    · have hpe : p.toList = [] := str_nil (by rw [← HP.out, str_size, h0]; rfl)
      have HS := Lib.hid (show setP sign stop s = ([], s.drop k, true) by unfold setP; rw [HTW.out.1, HTW.out.2, h0]; simp [setB, rises])
      clear h0
      go_wp2_with fail
      refine (set_is (ls := []) (b := true) (Tx.nil w6.heap.size w6).texts (by decide)).mono ?_
      rintro e w7 ⟨rfl, hb7⟩
      have HB8 := Lib.hid (below_call HB7.out hb7)
      clear hb7
      go_wp2
      go_ret3
      exact ⟨_, by rw [HS.out, HQ.out]; rfl, by rw [HS.out]; exact Tx.nil _ _, HB8.out⟩
    · have hps : p.size = k := by rw [← HP.out, str_size, List.length_take]; omega
      have hpe := str_some (s := p) (by omega)
      have hpf : p.toList.isEmpty = false := by simpa using hpe
      have hpn : ¬ p.toList = [] := by simpa using hpe
      have htl : (s.take k).length ≤ 4294967200 := by rw [List.length_take]; omega
      have HTL := Lib.hid htl
      clear hps htl
      go_wp2_with fail
      rw [← HP.out]
      refine (split_any (s.take k) sign _ (HT.out.below HB7.out) (by have := HTL.out; omega)).mono ?_
      rintro e w7 ⟨rfl, hbk, hb7⟩
      rw [HP.out]
      have hne := splitC_ne sign (s.take k)
      have hfw := splitC_few (c := sign) HTL.out
      have HTX := Lib.hid (tail_tx hbk hne hfw w.heap.size HB7.out.size)
      have HB8 := Lib.hid (below_call HB7.out hb7)
      obtain ⟨n, hn⟩ : ∃ n, (splitC sign (s.take k)).length = n := ⟨_, rfl⟩
      have hn1 : 1 ≤ n := by
        rcases Nat.eq_zero_or_pos n with h | h
        · rw [h] at hn; exact absurd (List.length_eq_zero_iff.1 hn) hne
        · exact h
      have hnb : n ≤ 4294967280 := by rw [← hn]; exact hfw.1
      rw [hn] at HTX
      rw [hn]
      have HSE := Lib.hid (show setP sign stop s = ((splitC sign (s.take k)).tail, s.drop k, (decide ((s.take k).head? = some sign)) && setB (splitC sign (s.take k)).tail) by
        unfold setP
        rw [HTW.out.1, HTW.out.2]
        have : ¬ s.take k = [] := fun e => h0 ((take_nil hkl).1 e)
        simp [this])
      clear hbk hb7 hne hfw hn
      obtain ⟨ls, hls⟩ : ∃ ls, (splitC sign (s.take k)).tail = ls := ⟨_, rfl⟩
      rw [hls] at HTX HSE
      clear hls
      obtain ⟨b1, hb1⟩ : ∃ b, decide ((s.take k).head? = some sign) = b := ⟨_, rfl⟩
      obtain ⟨b2, hb2⟩ : ∃ b, setB ls = b := ⟨_, rfl⟩
      rw [hb1, hb2] at HSE
      have HB1 := Lib.hid hb1
      have HB2 := Lib.hid hb2
      clear hb1 hb2
      by_cases hn1' : n = 1
      · subst hn1'
        have htx := HTX.out
        rw [if_pos rfl] at htx
        have HT8 := Lib.hid htx
        clear htx HTX
        cases b1
        all_goals
          go_wp2_with fail
          rw [← HP.out]
          refine (prefix_one (s.take k) sign _).mono ?_
          rintro e w8 ⟨rfl, rfl⟩
          rw [HB1.out, HP.out]
        · go_wp2
          go_ret3
          exact ⟨_, by rw [HSE.out, HQ.out]; rfl, by rw [HSE.out]; exact HT8.out, HB8.out⟩
        · go_wp2_with fail
          refine (set_is (ls := ls) (b := b2) HT8.out.texts HB2.out).mono ?_
          rintro e w9 ⟨rfl, hb9⟩
          have HB9 := Lib.hid (below_call HB8.out hb9)
          have HT9 := Lib.hid (HT8.out.below hb9)
          clear hb9
          cases b2
          all_goals
            go_wp2
            go_ret3
            exact ⟨_, by rw [HSE.out, HQ.out]; rfl, by rw [HSE.out]; exact HT9.out, HB9.out⟩
      · have htx := HTX.out
        rw [if_neg hn1'] at htx
        have HT8 := Lib.hid htx
        clear htx HTX
        cases b1
        all_goals
          go_wp2_with fail
          rw [← HP.out]
          refine (prefix_one (s.take k) sign _).mono ?_
          rintro e w8 ⟨rfl, rfl⟩
          rw [HB1.out, HP.out]
        · go_wp2
          go_ret3
          exact ⟨_, by rw [HSE.out, HQ.out]; rfl, by rw [HSE.out]; exact HT8.out, HB8.out⟩
        · go_wp2_with fail
          refine (set_is (ls := ls) (b := b2) HT8.out.texts HB2.out).mono ?_
          rintro e w9 ⟨rfl, hb9⟩
          have HB9 := Lib.hid (below_call HB8.out hb9)
          have HT9 := Lib.hid (HT8.out.below hb9)
          clear hb9
          cases b2
          all_goals
            go_wp2
            go_ret3
            exact ⟨_, by rw [HSE.out, HQ.out]; rfl, by rw [HSE.out]; exact HT9.out, HB9.out⟩
end Go.Proofs.YtikamehjeaoilaaGreatDoor
