/- PlayEnds: the law's walk. -/
import Derived.Test.YtgkjlpielikecaaGreatDoorTk
set_option linter.unusedVariables false
set_option linter.unusedSimpArgs false
namespace Go.Proofs.YtgkjlpielikecaaGreatDoor
open Go.RowKit

theorem rowsN_dull (ns : List Int) (i : Nat) : ∀ r ∈ (ns.take i).map rowN, dull r := fun r hr => by
  obtain ⟨x, _, rfl⟩ := List.mem_map.1 hr
  exact rowN_dull x
theorem rows_succ {ns : List Int} {i : Nat} (h : i < ns.length) : (ns.take (i + 1)).map rowN = (ns.take i).map rowN ++ [rowN ns[i]] := by
  rw [List.take_succ_eq_append_getElem h, List.map_append]
  rfl
theorem textN_snoc (rs : List (List UInt8)) (r : List UInt8) : textN (rs ++ [r]) = textN rs ++ r ++ [10] := by simp [textN]
theorem ticks_snoc (rs : List (List UInt8)) (r : List UInt8) : ticks (rs ++ [r]) = ticks rs + if r = tickL then 1 else 0 := by
  unfold ticks
  rw [List.countP_append]
  by_cases h : r = tickL <;> simp [h]
theorem run_dull (rs : List (List UInt8)) (h : ∀ r ∈ rs, dull r) (z : List UInt8) (hz : dull z) (hlen : (textN rs).length ≤ 1000) (m : Nat) (hm : ticks rs + (if z = tickL then 1 else 0) = m) (w : World) (ht : Tabs w) :
    Calls Tryz.prog 9 #[.int .i64 1, .int .i64 0, .string (str (textN rs ++ z))] w fun e w' => ∃ ad cap, e = .returned (.tuple #[.slice ad m cap, .int .i64 0]) ∧ (∀ q, q < m → ∃ b, ad = some ⟨b, 0, none⟩ ∧ w'.cell? ⟨b, q, none⟩ = some (.string ⟨#[111, 107]⟩)) ∧ Below w.heap.size w w' := by
  have hzl : z.length ≤ 6 := by
    rcases hz with rfl | rfl
    · simp
    · simp [tickL]
  have hall : ∀ r ∈ rs ++ [z], dull r := fun r hr => by
    rcases List.mem_append.1 hr with hr | hr
    · exact h r hr
    · rw [List.mem_singleton.1 hr]; exact hz
  refine (run_plain 1 (by omega) (by omega) 0 (by omega) (by omega) (textN rs ++ z) (by rw [List.length_append]; omega) (fun l hl => by rw [splitC_lines h hz] at hl; exact dull_plain (hall l hl)) w ht).mono ?_
  rintro e w' ⟨v, rfl, hown, hb⟩
  have htk : ticks (rs ++ [z]) = m := by rw [ticks_snoc]; exact hm
  rw [splitC_lines h hz, ansAll_ticks hall, htk, List.length_replicate, List.map_replicate] at hown
  rcases own_forms hown with ⟨rfl, rfl, _⟩ | ⟨g, cap, rfl, _, _⟩
  · exact ⟨none, 0, rfl, fun q hq => absurd hq (Nat.not_lt_zero _), hb⟩
  · refine ⟨_, cap, rfl, fun q hq => ⟨g, rfl, ?_⟩, hb⟩
    have := hown.cellAt q (by omega)
    rw [this, List.getElem?_replicate, if_pos hq]
set_option maxHeartbeats 4000000 in
set_option maxRecDepth 100000 in
theorem playEnds_any (a : Option Addr) (len cap : Nat) (zs : List Int) (last : Int) (w : World) (hr : IsRow .i64 w a len cap zs) (hy : len * 8 ≤ 140737488351232) (ht : Tabs w) : Calls Tryz.prog 3 #[.slice a len cap, .int .i64 last] w fun e w' => e = .returned (.bool true) ∧ Below w.heap.size w w' := by
  have HT := Lib.hid ht
  have HR := Lib.hid hr
  clear ht hr
  go_enter Tryz.func3, Tryz.ntmps3
  go_wp2_with fail
  refine (known_any w HT.out).mono ?_
  rintro e w1 ⟨rfl, hb1⟩
  have HB1 := Lib.hid hb1
  clear hb1
  go_wp2_with fail
  go_loopw [5, 6, 7] (fun s n i wr => ∃ k : Nat, i = .int .i64 k ∧ k ≤ len ∧ k ≤ 30 ∧ wr = w1 ∧ s = .string (str (textN ((zs.take k).map rowN))) ∧ n = .int .i64 (ticks ((zs.take k).map rowN))) (fun _ _ i _ => 30 - (intOf i).toNat)
  case atStart => exact ⟨0, rfl, Nat.zero_le _, Nat.zero_le _, rfl, rfl, rfl⟩
  case round =>
    obtain ⟨k, rfl, hkl, hk30, rfl, rfl, rfl⟩ := hrel
    have hd := rowsN_dull zs k
    have hlen := textN_len hd
    have htk := ticks_le ((zs.take k).map rowN)
    have hlk : ((zs.take k).map rowN).length ≤ k := by rw [List.length_map, List.length_take]; omega
    by_cases hin : k < len ∧ k < 30
    · obtain ⟨h1, h2⟩ := hin
      obtain ⟨b, off, rfl, hlc, hcm, hcell⟩ := HR.out.at_ (by omega)
      have hzl : k < zs.length := by
        rcases HR.out with ⟨h, _⟩ | ⟨x, _, _, _, h3, _⟩
        · exact absurd h (by simp)
        · omega
      have hck := (cell_below (hcell k h1) HB1.out)
      have hsz : len ≤ maxLen := by omega
      have hrs := rows_succ hzl
      have hgd : zs.getD k 0 = zs[k] := by rw [List.getD_eq_getElem?_getD, List.getElem?_eq_getElem hzl]; rfl
      rw [hgd] at hck
      obtain ⟨x, hx⟩ : ∃ x, zs[k] = x := ⟨_, rfl⟩
      rw [hx] at hck hrs
      obtain ⟨rs, hrs0⟩ : ∃ rs, (zs.take k).map rowN = rs := ⟨_, rfl⟩
      rw [hrs0] at hrs hlen htk hlk hd
      rw [hrs0]
      have h1' : (k : Int) < len := by omega
      have h2' : (k : Int) < 30 := by omega
      have HRS := Lib.hid hrs
      have HLEN := Lib.hid (show (textN rs).length ≤ 1000 by omega)
      have HTK := Lib.hid (show ticks rs ≤ 1000 by omega)
      obtain ⟨tk, htk2⟩ : ∃ tk, ticks rs = tk := ⟨_, rfl⟩
      have HTK2 := Lib.hid htk2
      obtain ⟨z, hz⟩ : ∃ z, str (textN rs) = z := ⟨_, rfl⟩
      have HZ := Lib.hid hz
      have hzs : z.size ≤ 1000 := by rw [← hz, str_size]; exact HLEN.out
      have htk3 : tk ≤ 1000 := by rw [← htk2]; exact HTK.out
      rw [htk2, hz]
      clear hrs hlen htk hlk hd hz htk2 hcell hgd hrs0 hx
      go_wp2_with fail
      refine (within15_any x 3 (by omega) (by omega) _).mono ?_
      rintro e w2 ⟨rfl, rfl⟩
      by_cases hpos : 0 < x % 3
      · have hrow : rowN x = tickL := by unfold rowN; rw [if_pos hpos]
        have HROW := Lib.hid hrow
        clear hrow
        go_wp2_with fail
        go_roundw
        case rel =>
          refine ⟨k + 1, by go_num, by omega, by omega, trivial, ?_, ?_⟩
          · rw [HRS.out, textN_snoc, HROW.out, ← HZ.out, ← str_append, ← str_append]; rfl
          · rw [HRS.out, ticks_snoc, HROW.out, HTK2.out, if_pos rfl]; go_num
        case measure => simp [intOf]; omega
      · have hrow : rowN x = [] := by unfold rowN; rw [if_neg hpos]
        have HROW := Lib.hid hrow
        clear hrow
        go_wp2_with fail
        go_roundw
        case rel =>
          refine ⟨k + 1, by go_num, by omega, by omega, trivial, ?_, ?_⟩
          · rw [HRS.out, textN_snoc, HROW.out, ← HZ.out, List.append_nil, ← str_append]; rfl
          · rw [HRS.out, ticks_snoc, HROW.out, HTK2.out, if_neg (by decide)]; go_num
        case measure => simp [intOf]; omega
    · obtain ⟨rs, hrs0⟩ : ∃ rs, (zs.take k).map rowN = rs := ⟨_, rfl⟩
      rw [hrs0] at hlen htk hlk hd
      rw [hrs0]
      have HD := Lib.hid hd
      have HLEN := Lib.hid (show (textN rs).length ≤ 1000 by omega)
      have hout : ¬ (k : Int) < len ∨ ((k : Int) < len ∧ ¬ (k : Int) < 30) := by omega
      obtain ⟨tk, htk2⟩ : ∃ tk, ticks rs = tk := ⟨_, rfl⟩
      have htk3 : tk ≤ 1000 := by omega
      have HTK2 := Lib.hid htk2
      obtain ⟨z, hz⟩ : ∃ z, str (textN rs) = z := ⟨_, rfl⟩
      have hzs : z.size ≤ 1000 := by rw [← hz, str_size]; exact HLEN.out
      have HZ := Lib.hid hz
      rw [htk2, hz]
      clear hlen htk hlk hd hz htk2 hrs0 hin
      rcases hout with hout | ⟨hout, hout2⟩
      all_goals
        go_wp2_with fail
        refine (within15_any last 2 (by omega) (by omega) _).mono ?_
        rintro e w2 ⟨rfl, rfl⟩
        by_cases hl0 : last % 2 = 0
        · rw [hl0]
          go_wp2_with fail
          rw [← HZ.out, show str (textN rs) ++ (⟨#[116, 105, 99, 107, 32, 48]⟩ : ByteArray) = str (textN rs ++ tickL) from str_append _ _]
          refine (run_dull rs HD.out tickL (.inr rfl) HLEN.out (tk + 1) (by rw [HTK2.out]; rfl) _ (HT.out.below HB1.out)).mono ?_
          rintro e w3 ⟨ad, cap3, rfl, hcs, hb3⟩
          have HCS := Lib.hid hcs
          have HB3 := Lib.hid (below_call HB1.out hb3)
          clear hcs hb3
          have hmm : ((tk + 1) : Int) ≤ 2000 := by omega
          go_wp2_with fail
          go_loopw [11] (fun i w4 => ∃ q : Nat, i = .int .i64 q ∧ q ≤ (tk + 1) ∧ w4 = w3) (fun i _ => (tk + 1) - (intOf i).toNat)
          case atStart => exact ⟨0, rfl, Nat.zero_le _, rfl⟩
          case round =>
            obtain ⟨q, rfl, hq, rfl⟩ := hrel
            by_cases hqm : q < (tk + 1)
            · obtain ⟨b3, rfl, hcq⟩ := HCS.out q hqm
              have hqm' : (q : Int) < (tk + 1) := by omega
              go_wp2_with fail
              go_roundw
              case rel => exact ⟨q + 1, by go_num, by omega, trivial⟩
              case measure => simp [intOf]; omega
            · have hqm' : ¬ (q : Int) < (tk + 1) := by omega
              go_wp2_with fail
              go_ret
              exact ⟨rfl, HB3.out⟩
        · have hl1 : last % 2 = 1 := by omega
          rw [hl1]
          go_wp2_with fail
          rw [← HZ.out, show str (textN rs) = str (textN rs ++ []) from by rw [List.append_nil]]
          refine (run_dull rs HD.out [] (.inl rfl) HLEN.out tk (by rw [HTK2.out]; rfl) _ (HT.out.below HB1.out)).mono ?_
          rintro e w3 ⟨ad, cap3, rfl, hcs, hb3⟩
          have HCS := Lib.hid hcs
          have HB3 := Lib.hid (below_call HB1.out hb3)
          clear hcs hb3
          have hmm : (tk : Int) ≤ 2000 := by omega
          go_wp2_with fail
          go_loopw [11] (fun i w4 => ∃ q : Nat, i = .int .i64 q ∧ q ≤ tk ∧ w4 = w3) (fun i _ => tk - (intOf i).toNat)
          case atStart => exact ⟨0, rfl, Nat.zero_le _, rfl⟩
          case round =>
            obtain ⟨q, rfl, hq, rfl⟩ := hrel
            by_cases hqm : q < tk
            · obtain ⟨b3, rfl, hcq⟩ := HCS.out q hqm
              have hqm' : (q : Int) < tk := by omega
              go_wp2_with fail
              go_roundw
              case rel => exact ⟨q + 1, by go_num, by omega, trivial⟩
              case measure => simp [intOf]; omega
            · have hqm' : ¬ (q : Int) < tk := by omega
              go_wp2_with fail
              go_ret
              exact ⟨rfl, HB3.out⟩
end Go.Proofs.YtgkjlpielikecaaGreatDoor
