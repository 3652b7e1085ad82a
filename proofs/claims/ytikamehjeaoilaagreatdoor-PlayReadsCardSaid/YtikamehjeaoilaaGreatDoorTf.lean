/- Scripts of ticks of the coordinator, lines that are none, empty ones. -/
import Derived.Test.YtikamehjeaoilaaGreatDoorTe
import Derived.Test.YtikamehjeaoilaaGreatDoorIf
set_option linter.unusedVariables false
set_option linter.unusedSimpArgs false
namespace Go.Proofs.YtikamehjeaoilaaGreatDoor
open Go.RowKit

def tickL : List UInt8 := [116, 105, 99, 107, 32, 48]
theorem ev_tick (w : World) (ht : Tabs w) : Calls Tryz.prog 8 #[.string (str tickL)] w fun e w' =>
    e = .returned (.tuple #[evV 9 0 0 0 (.slice none 0 0) (.string ⟨#[]⟩) (.int .i64 0) (.int .i64 0) (.slice none 0 0) (.slice none 0 0) (.bool false), .int .i64 0]) ∧ Below w.heap.size w w' := by
  refine (event_one tickL (by decide) (by intro k hk; rw [show kindOf ((splitC 32 tickL).getD 0 []) = 9 from (by decide +kernel)] at hk; subst hk; decide) w ht).mono ?_
  rintro e w' ⟨rfl, hb⟩
  refine ⟨?_, hb⟩
  have h1 : oneOk (splitC 32 tickL) = true := by decide +kernel
  have h2 : kindOf ((splitC 32 tickL).getD 0 []) = 9 := by decide +kernel
  have h3 : numV ((splitC 32 tickL).getD 1 []) = 0 := by decide +kernel
  unfold oneV oneC
  rw [h1, h2, h3]
  rfl
theorem ev_none (w : World) (ht : Tabs w) : Calls Tryz.prog 8 #[.string (str [120])] w fun e w' =>
    e = .returned (.tuple #[evV 0 0 0 0 (.slice none 0 0) (.string ⟨#[]⟩) (.int .i64 0) (.int .i64 0) (.slice none 0 0) (.slice none 0 0) (.bool false), .int .i64 8]) ∧ Below w.heap.size w w' := by
  refine (event_one [120] (by decide) (by intro k hk; rw [show kindOf ((splitC 32 [120]).getD 0 []) = 0 from (by decide +kernel)] at hk; subst hk; decide) w ht).mono ?_
  rintro e w' ⟨rfl, hb⟩
  refine ⟨?_, hb⟩
  have h1 : oneOk (splitC 32 [120]) = false := by decide +kernel
  unfold oneV oneC
  rw [h1]
  rfl
/-- What a line answers. -/
def ansL (l : List UInt8) : List ByteArray := if l = [] then [] else if l = tickL then [⟨#[111, 107]⟩] else [⟨#[102, 111, 114, 109]⟩]
def plainL (l : List UInt8) : Prop := l = [] ∨ l = tickL ∨ l = [120]
def ansAll (ls : List (List UInt8)) (i : Nat) : List ByteArray := (ls.take i).flatMap ansL
theorem ansL_len (l : List UInt8) : (ansL l).length ≤ 1 := by unfold ansL; split <;> (try split) <;> simp
theorem ansAll_len (ls : List (List UInt8)) : ∀ i, (ansAll ls i).length ≤ i := fun i => by
  unfold ansAll
  induction ls generalizing i with
  | nil => simp
  | cons l ls ih =>
    cases i with
    | zero => simp
    | succ i =>
      rw [List.take_succ_cons, List.flatMap_cons, List.length_append]
      have := ih i
      have := ansL_len l
      omega
theorem ansAll_succ {ls : List (List UInt8)} {i : Nat} (h : i < ls.length) : ansAll ls (i + 1) = ansAll ls i ++ ansL ls[i] := by
  rw [ansAll, ansAll, List.take_succ_eq_append_getElem h, List.flatMap_append]
  simp

/-- All stands but rows of texts. -/
def Ks (w w' : World) : Prop := ∀ (g : Nat) (o : Obj), w.heap[g]? = some o → (∀ cs, o ≠ .cells cs 9 (0, 0)) → w'.heap[g]? = some o
theorem Ks.of_grown {w w' : World} {base n : Nat} {v : Value} {xs : List Value} (h : w.ownsRow base 9 1 v n xs) (hg : w.grownBy w' v.ownBlock) : Ks w w' := fun g o hgo h1 => by
  refine (hg.block g (Array.getElem?_eq_some_iff.1 hgo).1 fun hv => ?_).trans hgo
  obtain ⟨cs, hcs⟩ := own_block h hv.symm
  rw [hgo] at hcs
  injection hcs with hcs
  exact h1 cs hcs
theorem MapE.ks {w w' : World} {b : Nat} (h : MapE w b) (k : Ks w w') : MapE w' b := k b _ h (by simp)
theorem CoordE.ks {w w' : World} {c t : Nat} {n : Int} (h : CoordE w c n t) (k : Ks w w') : CoordE w' c n t := by
  obtain ⟨m, h1, h2⟩ := h
  exact ⟨m, k _ _ h1 (by simp), h2.ks k⟩
theorem LedgerE.ks {w w' : World} {l : Nat} (h : LedgerE w l) (k : Ks w w') : LedgerE w' l := by
  obtain ⟨a, b, h1, h2, h3⟩ := h
  exact ⟨a, b, k _ _ h1 (by simp), h2.ks k, h3.ks k⟩
theorem ShardE.ks {w w' : World} {c t : Nat} {me mode : Int} (h : ShardE w c me mode t) (k : Ks w w') : ShardE w' c me mode t := by
  obtain ⟨l, m, h1, h2, h3⟩ := h
  exact ⟨l, m, k _ _ h1 (by simp), h2.ks k, h3.ks k⟩
theorem PostE.ks {w w' : World} {p : Nat} (h : PostE w p) (k : Ks w w') : PostE w' p := by
  obtain ⟨r, h1, h2⟩ := h
  exact ⟨r, k _ _ h1 (by simp), k _ _ h2 (by simp)⟩
theorem One.ks {w w' : World} {n i t : Nat} {mode : Int} {v : Value} (h : One w n mode i t v) (k : Ks w w') : One w' n mode i t v := by
  obtain ⟨o, h⟩ := h
  exact ⟨o, h.imp (fun h => ⟨h.1, h.2.1, h.2.2.ks k⟩) (fun h => ⟨h.1, h.2.1, h.2.2.ks k⟩)⟩
theorem CellK.ks {B : Nat} {w w' : World} {c wa p n k : Nat} {mode : Int} {ts : List Nat} (h : CellK B w c wa p n mode k ts) (hk : Ks w w') : CellK B w' c wa p n mode k ts := by
  obtain ⟨u, ws, h1, h2, h3, h4, h5, h6, h7⟩ := h
  exact ⟨u, ws, ⟨hk _ _ h1.1 (by simp), hk _ _ h1.2.1 (by simp), h1.2.2⟩, h2, h3, h4.ks hk, h5, own_same h6 fun g cs hg _ => (hk g _ hg (by simp)).trans hg.symm, fun i hi => ⟨hk _ _ (h7 i hi).1 (by simp), (h7 i hi).2.ks hk⟩⟩
theorem grown_at {w w' : World} {row : Option Nat} {g : Nat} {o : Obj} (h : w.grownBy w' row) (hz : w.heap[g]? = some o) (hne : ∀ k, row = some k → k ≠ g) : w'.heap[g]? = some o :=
  (h.block g (Array.getElem?_eq_some_iff.1 hz).1 (fun e => hne g e.symm rfl)).trans hz
theorem news_one' {w : World} {g : Nat} {u : Value} {T : TypeId} (h : w.heap[g]? = some (.cells #[u] T (0, 0))) : ∀ j v, [u][j]? = some v → w.cell? ((⟨g, 0, none⟩ : Addr).add j) = some v := World.news_of_block h
set_option maxRecDepth 100000 in
theorem errno_form (w : World) : Calls Tryz.prog 29 #[.int .i64 8] w fun e w' => e = .returned (.string ⟨#[102, 111, 114, 109]⟩) ∧ Below w.heap.size w w' := by
  go_enter Tryz.func29, Tryz.ntmps29
  go_wp2
  go_ret
  exact ⟨rfl, Below.refl _ _⟩
set_option maxHeartbeats 4000000 in
set_option maxRecDepth 100000 in
theorem run_plain (n : Nat) (hn0 : 1 ≤ n) (hn : n ≤ 4) (mode : Int) (hm0 : 0 ≤ mode) (hm : mode ≤ 2) (s : List UInt8) (hs : s.length ≤ 4294967200) (hp : ∀ l ∈ splitC 10 s, plainL l) (w : World) (ht : Tabs w) :
    Calls Tryz.prog 11 #[.int .i64 n, .int .i64 mode, .string (str s)] w fun e w' => ∃ v, e = .returned (.tuple #[v, .int .i64 0]) ∧
      w'.ownsRow w.heap.size 9 1 v (ansAll (splitC 10 s) (splitC 10 s).length).length ((ansAll (splitC 10 s) (splitC 10 s).length).map Value.string) ∧ Below w.heap.size w w' := by
  have HT := Lib.hid ht
  clear ht
  obtain ⟨z, hz⟩ : ∃ z, str s = z := ⟨_, rfl⟩
  have HZ := Lib.hid hz
  rw [hz]
  clear hz
  go_enter Tryz.func11, Tryz.ntmps11
  go_wp2_with fail
  refine (cell_new n hn0 hn mode hm0 hm w).mono ?_
  rintro e w1 ⟨c, wa, p, ts, rfl, hck, hb1⟩
  go_wp2_with fail
  rw [← HZ.out]
  refine (split_any s 10 w1 (HT.out.below hb1) (by omega)).mono ?_
  rintro e w2 ⟨rfl, hbk, hb2⟩
  have hfw := splitC_few (c := 10) hs
  obtain ⟨ls, hls⟩ : ∃ ls, splitC 10 s = ls := ⟨_, rfl⟩
  rw [hls] at hbk hfw hp
  rw [hls]
  have HLS := Lib.hid hls
  have hck2 := hck.below hb2
  have HG1 := Lib.hid (show w.heap.size ≤ w1.heap.size from hb1.size)
  have hB2 := below_call hb1 hb2
  clear hls hck hb1 hb2
  obtain ⟨n0, hn0'⟩ : ∃ n, ls.length = n := ⟨_, rfl⟩
  rw [hn0']
  have HN0 := Lib.hid hn0'
  have HCK := Lib.hid hck2
  have HB2 := Lib.hid hB2
  have HBK := Lib.hid hbk
  have HP := Lib.hid hp
  have hnb : n0 ≤ 4294967280 := by rw [← hn0']; exact hfw.1
  clear hn0' hck2 hB2 hbk hp
  go_wp2_with fail
  go_loopw [10, 27] (fun u x wr => ∃ i : Nat, x = .int .i64 i ∧ i ≤ n0 ∧ wr.ownsRow (w1.heap.size + 1) 9 1 u (ansAll ls i).length ((ansAll ls i).map Value.string) ∧ Below w.heap.size w wr ∧ CellK w.heap.size wr c wa p n mode (n + 1) ts ∧ Blk wr w1.heap.size ls) (fun _ x _ => n0 - (intOf x).toNat)
  case atStart => exact ⟨0, rfl, Nat.zero_le _, by simpa [ansAll] using World.ownsRow_nil _ _ _ _, HB2.out, HCK.out, HBK.out⟩
  case round =>
    obtain ⟨i, rfl, hi, hrow, hbr, hckr, hbkr⟩ := hrel
    by_cases hin : i = n0
    · subst hin
      have hlt : ¬ ((i : Nat) : Int) < (i : Int) := by omega
      have HROW := Lib.hid hrow
      have HBR := Lib.hid hbr
      have HSML := Lib.hid (show (ansAll ls i).length ≤ 1099511627776 by have := ansAll_len ls i; omega)
      clear hrow hbr hckr hbkr
      go_wp2_with fail
      refine (clone_strs wr _ _ (w1.heap.size + 1) _ HROW.out (one_strs _) (by simpa using HSML.out)).mono ?_
      rintro e w3 ⟨v, rfl, hown, hb3⟩
      have HOWN := Lib.hid hown
      have HB3 := Lib.hid (below_call HBR.out hb3)
      clear hown hb3
      go_wp2_with fail
      go_ret2
      refine ⟨_, rfl, ?_, HB3.out⟩
      rw [HLS.out, HN0.out]
      exact own_base HOWN.out HBR.out.size
    · have hil : i < ls.length := by have := HN0.out; omega
      have hlt : (i : Int) < (n0 : Int) := by omega
      have ci := hbkr.cell hil
      have hpl := HP.out _ (List.getElem_mem hil)
      have has := ansAll_succ hil
      have HROW := Lib.hid hrow
      have HBR := Lib.hid hbr
      have HCKR := Lib.hid hckr
      have HBKR := Lib.hid hbkr
      clear hrow hbr hckr hbkr
      rcases hpl with h0 | h1 | h2
      · rw [h0] at ci has
        have HAS := Lib.hid has
        clear has h0
        rw [show str [] = ⟨#[]⟩ from rfl] at ci
        go_wp2_with fail
        go_roundw
        case rel => exact ⟨i + 1, by go_num, by omega, by rw [HAS.out, show ansL [] = [] from rfl, List.append_nil]; exact HROW.out, HBR.out, HCKR.out, HBKR.out⟩
        case measure => simp [intOf]; omega
      · rw [h1] at ci has
        have HAS := Lib.hid has
        clear has h1
        rw [show str tickL = ⟨#[116, 105, 99, 107, 32, 48]⟩ from rfl] at ci
        go_wp2_with fail
        refine (ev_tick _ (HT.out.below HBR.out)).mono ?_
        rintro e w3 ⟨rfl, hb3⟩
        have hb3' := below_call HBR.out hb3
        have hk3 := HCKR.out.below hb3
        have hl3 := HBKR.out.below hb3
        have ho3 := own_below HROW.out hb3
        have HB3 := Lib.hid hb3'
        have HK3 := Lib.hid hk3
        have HL3 := Lib.hid hl3
        have HO3 := Lib.hid ho3
        clear hb3 hb3' hk3 hl3 ho3
        unfold evV
        go_wp2_with fail
        have hb4 : Below w3.heap.size w3 (w3.alloc (.cells #[.int .i64 9, .int .i64 0, .int .i64 0, .int .i64 0, .slice none 0 0, .string ⟨#[]⟩, .int .i64 0, .int .i64 0, .slice none 0 0, .slice none 0 0, .bool false] 33)) := below_alloc' (Below.refl _ _) _
        generalize World.alloc w3 _ = w4 at hb4 ⊢
        refine (do_tick w.heap.size w4 c wa p n mode ts (HK3.out.below hb4) 0 0 ⟨#[]⟩ 0 0 false none none none 0 0 0 0 0 0).mono ?_
        rintro e w5 ⟨rfl, hb5⟩
        have hb35 := below_call hb4 hb5
        have HB5 := Lib.hid (below_call HB3.out hb35)
        have HK5 := Lib.hid (HK3.out.below hb35)
        have HL5 := Lib.hid (HL3.out.below hb35)
        have HO5 := Lib.hid (own_below HO3.out hb35)
        have HZ5 := Lib.hid (show w1.heap.size < w5.heap.size from (Array.getElem?_eq_some_iff.1 HL5.out).1)
        have HSML := Lib.hid (show (ansAll ls i).length ≤ 4294967296 by have := ansAll_len ls i; omega)
        clear hb4 hb5 hb35
        go_wp2_with (at_builtin; refine list_appends elt_strs _ _ rfl rfl rfl rfl (World.ownsRow.alloc HO5.out _) (show [Value.string ⟨#[111, 107]⟩].length = 1 * 1 from rfl) (news_one' (alloc_at _ _)) (by simp [Value.oneCell']) (by have := HSML.out; omega) (by have := HG1.out; have := HZ5.out; simp; omega) ?_; intro v' w6 hown hgrow; have HO6 := Lib.hid hown; have HG6 := Lib.hid hgrow; clear hown hgrow)
        go_roundw
        case rel =>
          have hrow : ∀ k, Value.ownBlock _ = some k → w1.heap.size + 1 ≤ k := fun k hk => (HO5.out.lt k hk).1
          have ha := below_alloc' (Below.refl w5.heap.size w5) (.cells #[.string ⟨#[111, 107]⟩] 9)
          have b6 := (below_call HB5.out ha).grown HG6.out (by have := HB5.out.size; simp; omega) fun k hk => by have := hrow k hk; have := HG1.out; omega
          refine ⟨i + 1, by go_num, by omega, ?_, b6, (HK5.out.below ha).ks (Ks.of_grown (own_below HO5.out ha) HG6.out), ?_⟩
          · rw [HAS.out, List.map_append, List.length_append]
            exact HO6.out
          · exact grown_at HG6.out (block_below HL5.out ha) fun k hk e => by have := hrow k hk; omega
        case measure => simp [intOf]; omega
      · rw [h2] at ci has
        have HAS := Lib.hid has
        clear has h2
        rw [show str [120] = ⟨#[120]⟩ from rfl] at ci
        go_wp2_with fail
        refine (ev_none _ (HT.out.below HBR.out)).mono ?_
        rintro e w3 ⟨rfl, hb3⟩
        have hb3' := below_call HBR.out hb3
        have hk3 := HCKR.out.below hb3
        have hl3 := HBKR.out.below hb3
        have ho3 := own_below HROW.out hb3
        have HB3 := Lib.hid hb3'
        have HK3 := Lib.hid hk3
        have HL3 := Lib.hid hl3
        have HO3 := Lib.hid ho3
        clear hb3 hb3' hk3 hl3 ho3
        unfold evV
        go_wp2_with fail
        have hb4 : Below w3.heap.size w3 (w3.alloc (.cells #[.int .i64 0, .int .i64 0, .int .i64 0, .int .i64 0, .slice none 0 0, .string ⟨#[]⟩, .int .i64 0, .int .i64 0, .slice none 0 0, .slice none 0 0, .bool false] 33)) := below_alloc' (Below.refl _ _) _
        generalize World.alloc w3 _ = w4 at hb4 ⊢
        refine (errno_form w4).mono ?_
        rintro e w5 ⟨rfl, hb5⟩
        have hb35 := below_call hb4 hb5
        have HB5 := Lib.hid (below_call HB3.out hb35)
        have HK5 := Lib.hid (HK3.out.below hb35)
        have HL5 := Lib.hid (HL3.out.below hb35)
        have HO5 := Lib.hid (own_below HO3.out hb35)
        have HZ5 := Lib.hid (show w1.heap.size < w5.heap.size from (Array.getElem?_eq_some_iff.1 HL5.out).1)
        have HSML := Lib.hid (show (ansAll ls i).length ≤ 4294967296 by have := ansAll_len ls i; omega)
        clear hb4 hb5 hb35
        go_wp2_with (at_builtin; refine list_appends elt_strs _ _ rfl rfl rfl rfl (World.ownsRow.alloc HO5.out _) (show [Value.string ⟨#[102, 111, 114, 109]⟩].length = 1 * 1 from rfl) (news_one' (alloc_at _ _)) (by simp [Value.oneCell']) (by have := HSML.out; omega) (by have := HG1.out; have := HZ5.out; simp; omega) ?_; intro v' w6 hown hgrow; have HO6 := Lib.hid hown; have HG6 := Lib.hid hgrow; clear hown hgrow)
        go_roundw
        case rel =>
          have hrow : ∀ k, Value.ownBlock _ = some k → w1.heap.size + 1 ≤ k := fun k hk => (HO5.out.lt k hk).1
          have ha := below_alloc' (Below.refl w5.heap.size w5) (.cells #[.string ⟨#[102, 111, 114, 109]⟩] 9)
          have b6 := (below_call HB5.out ha).grown HG6.out (by have := HB5.out.size; simp; omega) fun k hk => by have := hrow k hk; have := HG1.out; omega
          refine ⟨i + 1, by go_num, by omega, ?_, b6, (HK5.out.below ha).ks (Ks.of_grown (own_below HO5.out ha) HG6.out), ?_⟩
          · rw [HAS.out, List.map_append, List.length_append]
            exact HO6.out
          · exact grown_at HG6.out (block_below HL5.out ha) fun k hk e => by have := hrow k hk; omega
        case measure => simp [intOf]; omega
end Go.Proofs.YtikamehjeaoilaaGreatDoor
