/- The program's reader of words: it takes names, signs, numbers. -/
import Derived.Test.YtikamehjeaoilaaGreatDoorRb
import Derived.Lib.OthersKept
set_option linter.unusedVariables false
set_option linter.unusedSimpArgs false
namespace Go.Proofs.YtikamehjeaoilaaGreatDoor
open Go.RowKit

/-- A reader's block: what is left, whether something was wrong. -/
def RdAt (w : World) (g : Nat) (l : List UInt8) (no : Bool) : Prop := w.heap[g]? = some (.cells #[.string (str l), .bool no] 245 (0, 0))
def RdPost (g : Nat) (w : World) (v : Value) (l : List UInt8) (no : Bool) (e : Ending) (w' : World) : Prop := e = .returned v ∧ RdAt w' g l no ∧ Gb g w w'
theorem str_take (l : List UInt8) (k : Nat) : (str l).extract 0 k = str (l.take k) := by
  apply ByteArray.ext; simp [str]
theorem str_drop (l : List UInt8) (k : Nat) : (str l).extract k (str l).size = str (l.drop k) := by
  apply ByteArray.ext
  simp only [str, ByteArray.data_extract, ByteArray.size, List.size_toArray, List.extract_toArray]
  rw [List.extract_eq_take_drop, List.take_of_length_le (by simp)]
theorem take_all {p : UInt8 → Bool} {l : List UInt8} {k : Nat} (hk : k ≤ l.length) (h : ∀ j (hj : j < k), p (l[j]'(by omega)) = true) (he : k = l.length ∨ ∃ h : k < l.length, p l[k] = false) : l.takeWhile p = l.take k ∧ l.dropWhile p = l.drop k := by
  have ha : (l.take k).all p = true := by
    rw [List.all_eq_true]
    intro x hx
    obtain ⟨i, hi, rfl⟩ := List.getElem_of_mem hx
    rw [List.getElem_take]
    exact h i (by simp at hi; omega)
  have hb : ∀ c r, l.drop k = c :: r → p c = false := by
    intro c r e
    rcases he with he | ⟨h1, h2⟩
    · rw [List.drop_of_length_le (by omega)] at e; cases e
    · rw [List.drop_eq_getElem_cons h1] at e
      cases e; exact h2
  have := takeWhile_app ha hb
  rwa [List.take_append_drop] at this

theorem name_fin {g pos : Nat} {l : List UInt8} {no b : Bool} {w w1 : World} {x y : ByteArray} (ht : l.takeWhile (fun c => !parting c) = l.take pos ∧ l.dropWhile (fun c => !parting c) = l.drop pos) (hb : Below w.heap.size w w1)
    (hc : w1.heap[g]? = some (.cells #[.string (str l), .bool no] 245 (0, 0))) (hx : str (l.take pos) = x) (hy : str (l.drop pos) = y) (hbb : b = (no || decide (l.take pos = []))) :
    RdPost g w (.string (str (nameX l).1)) (nameX l).2.1 (no || (nameX l).2.2) (.returned (.string x)) ((w1.setCell ⟨g, 0, none⟩ (.string y)).setCell ⟨g, 1, none⟩ (.bool b)) := by
  unfold RdPost RdAt nameX
  rw [ht.1, ht.2, hx, hy, ← hbb]
  exact ⟨rfl, set2 _ _ hc, ((Gb.of_below hb).trans (Gb.set _ _ _ _)).trans (Gb.set _ _ _ _)⟩
theorem take_nil {l : List UInt8} {pos : Nat} (h : pos ≤ l.length) : l.take pos = [] ↔ pos = 0 := by
  constructor
  · intro e
    have := congrArg List.length e
    rw [List.length_take, List.length_nil] at this
    omega
  · rintro rfl; rfl
set_option maxRecDepth 1000000 in
set_option maxHeartbeats 1000000 in
theorem rd_name (g : Nat) (l : List UInt8) (no : Bool) (w : World) (h : RdAt w g l no) (hl : l.length ≤ 4294967280) :
    Calls Tryz.prog 152 #[.pointer (some ⟨g, 0, none⟩)] w (RdPost g w (.string (str (nameX l).1)) (nameX l).2.1 (no || (nameX l).2.2)) := by
  have hg : g < w.heap.size := (Array.getElem?_eq_some_iff.1 h).1
  have hsz : (str l).size = l.length := str_size l
  have hcw : w.cell? ⟨g, 0, none⟩ = some (.string (str l)) := cell_of_block h 0 _ rfl
  have H := Lib.hid h
  have HSZ := Lib.hid hsz
  obtain ⟨s, hs⟩ : ∃ s, str l = s := ⟨_, rfl⟩
  rw [hs] at hcw hsz
  have HS := Lib.hid hs
  have hsl : s.size ≤ 4294967280 := by omega
  have HL := Lib.hid hl
  clear h hsz hs hl
  go_enter Tryz.func152, Tryz.ntmps152
  go_wp2
  go_loopw [3] (fun v w' => ∃ pos : Nat, w'.heap[w.heap.size]? = some (.stringIter s pos) ∧ Below w.heap.size w w' ∧ v = .int .i64 s.size ∧ pos ≤ s.size ∧ ∀ j (hj : j < l.length), j < pos → parting l[j] = false) (fun _ w' => s.size - w'.iterPos w.heap.size)
  case atStart => exact ⟨0, World.iter_heap _ _ _, below_alloc' (Below.refl _ _) _, rfl, Nat.zero_le _, fun j _ h => absurd h (Nat.not_lt_zero _)⟩
  case round =>
    obtain ⟨pos, hit, hbel, rfl, hps, hno⟩ := hrel
    have HNO := Lib.hid hno
    have HIT := Lib.hid hit
    have HBEL := Lib.hid hbel
    have hip : wr.iterPos w.heap.size = pos := by simp [World.iterPos, hit]
    have HIP := Lib.hid hip
    clear hno hit hbel hip
    by_cases hp : pos < s.size
    · have hnx : ∀ ty, (Instr.next (.pointer (some ⟨w.heap.size, 0, none⟩)) true ty).run Tryz.prog wr = _ := fun ty => Lib.run_next_any_at wr w.heap.size s pos ty HIT.out hp
      have hwd := width_pos s pos hp
      have hpl : pos < l.length := by have := HSZ.out; have := HS.out; subst this; omega
      -- the bytes of the rune
      have hbytes : ∀ j (hj : j < l.length), pos ≤ j → j < pos + (Utf8.decode s pos).2 → signsN.contains (Utf8.decode s pos).1 = false → parting l[j] = false := by
        intro j hj h1 h2 h3
        have e := HS.out
        subst e
        by_cases ha : ((str l)[pos]'hp).toNat < 128
        · rw [decode_ascii _ pos hp ha] at h2 h3
          obtain rfl : j = pos := by simp at h2; omega
          rw [str_get] at h3
          rw [← part_byte]; exact h3
        · have h4 := decode_skip (str l) pos hp (by omega) (j - pos) (by omega)
          rw [show pos + (j - pos) = j by omega] at h4
          have e : (str l).get! j = l[j] := (get_at (str l) j (by rw [str_size]; exact hj)).trans (str_get l j _)
          rw [e] at h4
          rw [← part_byte]; exact part_high h4
      have hhit : signsN.contains (Utf8.decode s pos).1 = true → parting l[pos] = true := by
        intro h3
        have e := HS.out
        subst e
        by_cases ha : ((str l)[pos]'hp).toNat < 128
        · rw [decode_ascii _ pos hp ha, str_get] at h3
          rw [← part_byte]; exact h3
        · have := part_high (decode_high (str l) pos hp (by omega)).1
          rw [this] at h3; cases h3
      have hwle : signsN.contains (Utf8.decode s pos).1 = false → pos + (Utf8.decode s pos).2 ≤ s.size := fun _ => width_le s pos hp
      generalize hcc : (Utf8.decode s pos).1 = c at *
      generalize hww : (Utf8.decode s pos).2 = wd at *
      have HBY := Lib.hid hbytes
      have HHI := Lib.hid hhit
      have HCC := Lib.hid hcc
      have HWW := Lib.hid hww
      clear hcc hww hbytes hhit
      cases hpart : signsN.contains c with
      | false =>
        have HP := Lib.hid hpart
        have hwl := hwle hpart
        clear hpart hwle
        go_wp2_with fail
        refine (parting_is HP.out _).mono ?_
        rintro e w1 ⟨rfl, hb1⟩
        have HI1 := Lib.hid (block_below (Lib.iterAt_heap wr w.heap.size s pos (pos + wd) HIT.out) hb1)
        have HB1 := Lib.hid (below_call (Lib.below_iterAt HBEL.out (Nat.le_refl _) s (pos + wd)) hb1)
        clear hb1
        go_wp2
        go_roundw
        case rel =>
          refine ⟨pos + wd, HI1.out, HB1.out, rfl, hwl, fun j hj hlt => ?_⟩
          rcases Nat.lt_or_ge j pos with h1 | h1
          · exact HNO.out j hj h1
          · exact HBY.out j hj h1 hlt HP.out
        case measure =>
          rw [HIP.out]
          have := HI1.out
          simp [World.iterPos, this]
          omega
      | true =>
        have HP := Lib.hid hpart
        clear hpart hwle
        go_wp2_with fail
        refine (parting_is HP.out _).mono ?_
        rintro e w1 ⟨rfl, hb1⟩
        have HB1 := Lib.hid (below_call (Lib.below_iterAt HBEL.out (Nat.le_refl _) s (pos + wd)) hb1)
        clear hb1
        have htk := take_all (p := fun c => !parting c) (l := l) (k := pos) (by omega) (fun j hj => by rw [HNO.out j (by omega) hj]; rfl) (.inr ⟨hpl, by rw [HHI.out HP.out]; rfl⟩)
        have HTK := Lib.hid htk
        clear htk
        have hc0 : w1.cell? ⟨g, 0, none⟩ = some (.string s) := cell_below hcw HB1.out
        have hb1 : w1.heap[g]? = some (.cells #[.string s, .bool no] 245 (0, 0)) := by rw [← HS.out]; exact block_below H.out HB1.out
        have HBL := Lib.hid hb1
        have hc1 : w1.cell? ⟨g, 1, none⟩ = some (.bool no) := cell_of_block hb1 1 _ rfl
        have hf := fun j => free_of_block hb1 j
        clear hb1
        obtain ⟨x, hx⟩ : ∃ x, str (l.take pos) = x := ⟨_, rfl⟩
        obtain ⟨y, hy⟩ : ∃ y, str (l.drop pos) = y := ⟨_, rfl⟩
        have hex : s.extract 0 pos = x := by rw [← HS.out, str_take, hx]
        have hey : s.extract pos s.size = y := by rw [← HS.out, str_drop, hy]
        have hxs : x.size = pos := by rw [← hx, str_size, List.length_take]; have := HSZ.out; have := HS.out; subst this; omega
        have hpl' : pos ≤ l.length := by have := HSZ.out; have := HS.out; subst this; omega
        have HX := Lib.hid hx
        have HY := Lib.hid hy
        have HXS := Lib.hid hxs
        clear hx hy hxs
        by_cases hz : pos = 0
        · have hxe := str_nil (HXS.out.trans hz)
          have HZ := Lib.hid hz
          clear hz
          cases no
          all_goals
            go_wp2
            go_ret
            exact name_fin HTK.out HB1.out (by rw [HS.out]; exact HBL.out) HX.out HY.out (by rw [HZ.out]; rfl)
        · have hxe := str_some (fun e => hz (HXS.out.symm.trans e))
          have hxf : x.toList.isEmpty = false := by simpa using hxe
          have hxn : ¬ x.toList = [] := by simpa using hxe
          have HZ := Lib.hid hz
          clear hz
          cases no
          all_goals
            go_wp2
            go_ret
            exact name_fin HTK.out HB1.out (by rw [HS.out]; exact HBL.out) HX.out HY.out (by have h1 : ¬ l.take pos = [] := (fun e => HZ.out ((take_nil hpl').1 e)); simp [h1])
    · have hnx : ∀ ty, (Instr.next (.pointer (some ⟨w.heap.size, 0, none⟩)) true ty).run Tryz.prog wr = _ := fun ty => Lib.run_next_end_at wr w.heap.size s pos ty HIT.out hp
      have hpe : s.size = pos := by omega
      have HPE := Lib.hid hpe
      have HB1 := Lib.hid HBEL.out
      have htk := take_all (p := fun c => !parting c) (l := l) (k := pos) (by have := HSZ.out; have := HS.out; subst this; omega) (fun j hj => by rw [HNO.out j (by have := HSZ.out; have := HS.out; subst this; omega) hj]; rfl) (.inl (by have := HSZ.out; have := HS.out; subst this; omega))
      have HTK := Lib.hid htk
      clear htk hpe
      rw [HPE.out]
      have hc0 : wr.cell? ⟨g, 0, none⟩ = some (.string s) := cell_below hcw HB1.out
      have hb1 : wr.heap[g]? = some (.cells #[.string s, .bool no] 245 (0, 0)) := by rw [← HS.out]; exact block_below H.out HB1.out
      have HBL := Lib.hid hb1
      have hc1 : wr.cell? ⟨g, 1, none⟩ = some (.bool no) := cell_of_block hb1 1 _ rfl
      have hf := fun j => free_of_block hb1 j
      clear hb1
      obtain ⟨x, hx⟩ : ∃ x, str (l.take pos) = x := ⟨_, rfl⟩
      obtain ⟨y, hy⟩ : ∃ y, str (l.drop pos) = y := ⟨_, rfl⟩
      have hex : s.extract 0 pos = x := by rw [← HS.out, str_take, hx]
      have hey : s.extract pos s.size = y := by rw [← HS.out, str_drop, hy]
      have hxs : x.size = pos := by rw [← hx, str_size, List.length_take]; have := HSZ.out; have := HS.out; subst this; omega
      have hpl' : pos ≤ l.length := by have := HSZ.out; have := HS.out; subst this; omega
      have HX := Lib.hid hx
      have HY := Lib.hid hy
      have HXS := Lib.hid hxs
      clear hx hy hxs
      by_cases hz : pos = 0
      · have hxe := str_nil (HXS.out.trans hz)
        have HZ := Lib.hid hz
        clear hz
        cases no
        all_goals
          go_wp2
          go_ret
          exact name_fin HTK.out HB1.out (by rw [HS.out]; exact HBL.out) HX.out HY.out (by rw [HZ.out]; rfl)
      · have hxe := str_some (fun e => hz (HXS.out.symm.trans e))
        have hxf : x.toList.isEmpty = false := by simpa using hxe
        have hxn : ¬ x.toList = [] := by simpa using hxe
        have HZ := Lib.hid hz
        clear hz
        cases no
        all_goals
          go_wp2
          go_ret
          exact name_fin HTK.out HB1.out (by rw [HS.out]; exact HBL.out) HX.out HY.out (by have h1 : ¬ l.take pos = [] := (fun e => HZ.out ((take_nil hpl').1 e)); simp [h1])
end Go.Proofs.YtikamehjeaoilaaGreatDoor
