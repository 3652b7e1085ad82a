/- Small words for walks: worlds that only grow, rows of a call's own, cells and blocks; no program is named. -/
import Derived.WalkKit
import Derived.KernelRfl
import Derived.Below
import Derived.Deep.QuietTactic
import Derived.BigQuiet
import Derived.WalkLawsBesides
import Derived.Deep.LoopGhost
import Derived.Lib.Hide
import Derived.WalkSmall
import Derived.Deep.AppendLies
import Derived.Laws.BytesArg
import Derived.Deep.RegionHeld3
import Derived.Test.YtofofjfmhaggmaaGreatDoorPar
import Derived.Test.YtofofjfmhaggmaaGreatDoorPy
import Derived.Test.YtofofjfmhaggmaaGreatDoorProg
import Derived.Deep.DeepCutAuto
import Derived.Lib.SplitLaws
import Derived.Lib.Split
set_option linter.unusedVariables false
set_option linter.unusedSimpArgs false
namespace Go.Proofs.YtofofjfmhaggmaaGreatDoor
open Go.RowKit

theorem ret_int {k : IntKind} {a b : Int} (h : a = b) : Ending.returned (.int k a) = .returned (.int k b) := by rw [h]
theorem ret_str {a b : ByteArray} (h : a = b) : Ending.returned (.string a) = .returned (.string b) := by rw [h]
theorem ret_bool {a b : Bool} (h : a = b) : Ending.returned (.bool a) = .returned (.bool b) := by rw [h]
theorem below_alloc' {w W : World} (h : Below w.heap.size w W) (o : Obj) : Below w.heap.size w (W.alloc o) := h.alloc h.size o
theorem below_drewN' {B : Nat} {w W : World} (h : Below B w W) (n : Nat) : Below B w (W.drewN n) := ⟨h.os, h.tape, h.output, h.size, h.block⟩
theorem below_call {w w1 w2 : World} (h : Below w.heap.size w w1) (k : Below w1.heap.size w1 w2) : Below w.heap.size w w2 := h.trans (k.mono h.size)
theorem kwid {x : Int} (h1 : -9223372036854775808 ≤ x) (h2 : x < 9223372036854775808) : IntKind.i64.wrap x = x := IntWalk.i64_in _ (by omega)
theorem wrap_wrap (x : Int) : wrap64 (wrap64 x) = wrap64 x := by unfold wrap64; omega
theorem alloc_at (w : World) (o : Obj) : (w.alloc o).heap[w.heap.size]? = some o := by
  show (w.heap.push o)[w.heap.size]? = _
  simp
theorem alloc_second (w : World) (o o' : Obj) : ((w.alloc o).alloc o').heap[w.heap.size + 1]? = some o' := by
  have := alloc_at (w.alloc o) o'
  rwa [World.size_alloc] at this
theorem cell_of_block {w : World} {g : Nat} {cs : Array Value} {T : TypeId} (h : w.heap[g]? = some (.cells cs T (0, 0))) (j : Nat) (v : Value) (hv : cs[j]? = some v) : w.cell? ⟨g, j, none⟩ = some v := by
  simp [World.cell?, h, hv]
theorem free_of_block {w : World} {g : Nat} {cs : Array Value} {T : TypeId} (h : w.heap[g]? = some (.cells cs T (0, 0))) (j : Nat) : w.frozen? ⟨g, j, none⟩ = false := by
  simp [World.frozen?, h]
theorem block_below {w w' : World} {g : Nat} {o : Obj} (h : w.heap[g]? = some o) (hb : Below w.heap.size w w') : w'.heap[g]? = some o := (hb.block g (Array.getElem?_eq_some_iff.1 h).1).trans h
theorem cell_below {w w' : World} {p : Addr} {v : Value} (h : w.cell? p = some v) (hb : Below w.heap.size w w') : w'.cell? p = some v := (hb.cell (World.block_lt_of_cell? w _ h)).trans h
theorem own_below {w w1 : World} {base n : Nat} {e : TypeId} {size : Nat} {v : Value} {xs : List Value} (h : w.ownsRow base e size v n xs) (hb : Below w.heap.size w w1) : w1.ownsRow base e size v n xs :=
  h.kept (row := none) ⟨hb.os, hb.tape, hb.output, hb.size, fun i hi _ => hb.block i hi⟩ (by cases v.ownBlock <;> simp)
theorem own_drew {w : World} {base n : Nat} {e : TypeId} {size : Nat} {v : Value} {xs : List Value} (h : w.ownsRow base e size v n xs) : w.drew.ownsRow base e size v n xs := h
theorem own_type_ne {w : World} {b b' : Nat} {e e' : TypeId} {s s' n n' : Nat} {v v' : Value} {xs xs' : List Value} (h : w.ownsRow b e s v n xs) (h' : w.ownsRow b' e' s' v' n' xs') (hne : e ≠ e') : v.ownBlock = none ∨ v.ownBlock ≠ v'.ownBlock := by
  rcases h.2 with ⟨rfl, _⟩ | ⟨g, cap, cur, rfl, _, hh, _⟩
  · exact .inl rfl
  · refine .inr fun hk => ?_
    rcases h'.2 with ⟨rfl, _⟩ | ⟨g', cap', cur', rfl, _, hh', _⟩
    · simp [Value.ownBlock] at hk
    · have : g = g' := by simpa [Value.ownBlock] using hk
      subst this
      rw [hh] at hh'
      injection hh' with hh'
      injection hh' with _ ht
      exact hne ht
theorem row_keep (n : Nat) (cs : Array Value) (T : TypeId) : ∀ (v : Value) (w w' : World), (∃ g, v = .slice (some ⟨g, 0, none⟩) n n ∧ w.heap[g]? = some (.cells cs T (0, 0))) → Below w.heap.size w w' → ∃ g, v = .slice (some ⟨g, 0, none⟩) n n ∧ w'.heap[g]? = some (.cells cs T (0, 0)) := by
  rintro v w w' ⟨g, rfl, h⟩ hb
  exact ⟨g, rfl, block_below h hb⟩
theorem own_setOther {w : World} {base n : Nat} {e : TypeId} {size : Nat} {v : Value} {xs : List Value} (h : w.ownsRow base e size v n xs) {p : Addr} (u : Value) (hne : v.ownBlock = none ∨ v.ownBlock ≠ some p.block) : (w.setCell p u).ownsRow base e size v n xs :=
  h.kept (row := some p.block) ⟨rfl, rfl, rfl, by simp, fun k hk hne => Below.heap_setCell _ _ _ _ (fun e => hne (by rw [e]))⟩ hne
/-- A slice of whole numbers that came in. -/
def IsRow (k : IntKind) (w : World) (a : Option Addr) (len cap : Nat) (zs : List Int) : Prop :=
  (a = none ∧ len = 0 ∧ cap = 0 ∧ zs = []) ∨
  ∃ x, a = some x ∧ len ≤ cap ∧ cap ≤ maxLen ∧ zs.length = cap ∧ (∀ i, i < zs.length → w.cell? (x.add i) = some (.int k (zs.getD i 0))) ∧ ∀ n ∈ zs, (Lit.int k n).wf = true
theorem IsRow.at_ {k : IntKind} {w : World} {a : Option Addr} {len cap : Nat} {zs : List Int} (h : IsRow k w a len cap zs) (hl : 0 < len) : ∃ b off, a = some ⟨b, off, none⟩ ∧ len ≤ cap ∧ cap ≤ maxLen ∧ ∀ i, i < len → w.cell? ⟨b, off + i, none⟩ = some (.int k (zs.getD i 0)) := by
  rcases h with ⟨_, h0, _⟩ | ⟨x, rfl, h1, h2, h3, h4, _⟩
  · omega
  · obtain ⟨b, off, sp⟩ := x
    have h0 := h4 0 (by omega)
    have hs : sp = none := by
      cases sp with
      | none => rfl
      | some q => simp [World.cell?, Addr.add] at h0; split at h0 <;> simp at h0
    subst hs
    refine ⟨b, off, rfl, h1, h2, fun i hi => ?_⟩
    have := h4 i (by omega)
    have e : (⟨b, off, none⟩ : Addr).add i = ⟨b, off + i, none⟩ := by unfold Addr.add; split <;> simp_all
    rwa [e] at this
end Go.Proofs.YtofofjfmhaggmaaGreatDoor
/-! A relation of worlds: below a block nothing changes. -/
set_option linter.unusedVariables false
set_option linter.unusedSimpArgs false
namespace Go.Proofs.YtofofjfmhaggmaaGreatDoor
open Go.RowKit
/-- Nothing below block N changes. -/
def LowB (N : Nat) (w w' : World) : Prop := N ≤ w.heap.size → Below N w w'
theorem LowB.refl (N : Nat) (w : World) : LowB N w w := fun _ => Below.refl _ _
theorem LowB.trans {N : Nat} {a b c : World} (h : LowB N a b) (k : LowB N b c) : LowB N a c := fun hN => (h hN).trans (k (Nat.le_trans hN (h hN).size))
theorem LowB.of_below {N : Nat} {w w' : World} (h : Below w.heap.size w w') : LowB N w w' := fun hN => h.mono hN
end Go.Proofs.YtofofjfmhaggmaaGreatDoor
/-! Pods and events, as plain lists of bytes: the program's way to read them, and the document's, come to the same; what is read is what was written. -/
set_option linter.unusedVariables false
set_option linter.unusedSimpArgs false
namespace Go.Proofs.YtofofjfmhaggmaaGreatDoor
open Go

/-! ### Cutting, splitting at a byte -/
/-! ### The program's way to read a pod -/
instance (l : List UInt8) : Decidable (isNum l) := inferInstanceAs (Decidable (_ ∧ _ ∧ _))
def PodL.good (p : PodL) : Prop := nameB p.name = true ∧ p.shard ≤ 999999 ∧ p.cpu ≤ 1099511627776 ∧ p.mem ≤ 1099511627776 ∧ setB p.picks = true ∧ setB p.bears = true
theorem PodL.good.fine {p : PodL} (h : p.good) : p.fine := ⟨nameB_word h.1, h.2.1, h.2.2.1, h.2.2.2.1, setB_words h.2.2.2.2.1, setB_words h.2.2.2.2.2⟩
end Go.Proofs.YtofofjfmhaggmaaGreatDoor
/-! Events, as plain lists of bytes: read, written, read again. -/
set_option linter.unusedVariables false
set_option linter.unusedSimpArgs false
namespace Go.Proofs.YtofofjfmhaggmaaGreatDoor
open Go

def NodeL.good (n : NodeL) : Prop := nameB n.name = true ∧ n.cpu ≤ 1099511627776 ∧ n.mem ≤ 1099511627776 ∧ setB n.marks = true ∧ setB n.taints = true
def NodeL.goodB (n : NodeL) : Bool := nameB n.name && (decide (n.cpu ≤ 1099511627776) && decide (n.mem ≤ 1099511627776) && (setB n.marks && setB n.taints))
theorem NodeL.goodB_iff {n : NodeL} : n.goodB = true ↔ n.good := by simp [NodeL.goodB, NodeL.good, and_assoc]
/-! ### Events -/
structure EvL where
  kind : Nat
  a : Nat
  b : Nat
  id : Nat
  pods : List PodL
  node : NodeL
def noNode : NodeL := ⟨[], 0, 0, [], [], false⟩
def EvL.good (e : EvL) : Prop :=
  1 ≤ e.kind ∧ e.kind ≤ 11 ∧ e.a ≤ 999999 ∧ e.b ≤ 999999 ∧ e.id ≤ 999999 ∧ (∀ p ∈ e.pods, p.good) ∧
  (e.kind = 1 → e.a = 0) ∧ (e.kind ≠ 1 → e.id = 0 ∧ e.pods = []) ∧ (e.kind ≠ 10 → e.b = 0) ∧
  (e.kind = 4 → e.node.good) ∧ (e.kind = 5 → nameB e.node.name = true ∧ e.node = ⟨e.node.name, 0, 0, [], [], false⟩) ∧ (e.kind ≠ 4 → e.kind ≠ 5 → e.node = noNode)
theorem NodeL.good.fine {n : NodeL} (h : n.good) : n.fine 999999999999999 := ⟨nameB_word h.1, by have := h.2.1; omega, by have := h.2.2.1; omega, setB_words h.2.2.2.1, setB_words h.2.2.2.2⟩
end Go.Proofs.YtofofjfmhaggmaaGreatDoor
/-! Marks, names, pods, nodes, events by numbers, as plain lists of bytes: each may be. -/
set_option linter.unusedVariables false
set_option linter.unusedSimpArgs false
namespace Go.Proofs.YtofofjfmhaggmaaGreatDoor
open Go Go.RowKit

abbrev qd (n k : Int) : Int := wrap64 (n.tdiv k)
def marksT : List (List UInt8) := [[98, 105, 103], [115, 115, 100], [119, 101, 115, 116], [206, 179]]
/-- Marks by a number: the first k looked at. -/
def setQ (n : Int) : Nat → List (List UInt8)
  | 0 => []
  | k + 1 => if (n / 2 ^ k) % 2 = 1 then setQ n k ++ [marksT.getD k []] else setQ n k
def namesT : List (List UInt8) := [[97], [98], [206, 177], [207, 137, 57], [110, 49], [110, 50], [206, 178, 206, 179, 206, 180, 206, 181, 206, 182, 206, 183, 206, 184, 206, 185], [122, 122]]
def nameQ (n : Int) : List UInt8 := namesT.getD (n % 8).toNat []
def nodeQ (name n : Int) : NodeL := ⟨nameQ name, (n % 12).toNat, (qd n 12 % 12).toNat, setQ (qd n 144) 4, if qd n 23 % 3 = 0 then setQ (qd n 31) 4 else [], decide (qd n 17 % 9 = 0)⟩
end Go.Proofs.YtofofjfmhaggmaaGreatDoor
/-! Names and sets of marks, by the program and by the reference. -/
set_option linter.unusedVariables false
set_option linter.unusedSimpArgs false
namespace Go.Proofs.YtofofjfmhaggmaaGreatDoor
open Go.RowKit

def letterB (c : Int) : Bool := (decide (97 ≤ c) && decide (c ≤ 122)) || (decide (945 ≤ c) && decide (c ≤ 969))
def digitB (c : Int) : Bool := decide (48 ≤ c) && decide (c ≤ 57)
theorem letter_any (c : Int) (w : World) : Calls Tryz.prog 131 #[.int .i32 c] w fun e w' => e = .returned (.bool (letterB c)) ∧ w = w' := by
  unfold letterB
  by_cases h1 : 97 ≤ c <;> by_cases h2 : c ≤ 122 <;> by_cases h3 : 945 ≤ c <;> by_cases h4 : c ≤ 969
  all_goals first
    | (exfalso; omega)
    | (go_enter Tryz.func131, Tryz.ntmps131
       go_wp2
       go_ret
       exact ⟨by simp [h1, h2, h3, h4], rfl⟩)
theorem digit_any (c : Int) (w : World) : Calls Tryz.prog 132 #[.int .i32 c] w fun e w' => e = .returned (.bool (digitB c)) ∧ w = w' := by
  unfold digitB
  by_cases h1 : 48 ≤ c <;> by_cases h2 : c ≤ 57
  all_goals first
    | (exfalso; omega)
    | (go_enter Tryz.func132, Tryz.ntmps132
       go_wp2
       go_ret
       exact ⟨by simp [h1, h2], rfl⟩)
theorem runeOk_is (pos c : Nat) : runeOk pos c = (letterB c || (digitB c && decide (pos ≠ 0))) := by
  unfold runeOk letterB digitB
  have e : ∀ a b : Nat, decide ((a : Int) ≤ (b : Int)) = decide (a ≤ b) := fun a b => by simp
  rw [show (97 : Int) = ((97 : Nat) : Int) from rfl, show (122 : Int) = ((122 : Nat) : Int) from rfl, show (945 : Int) = ((945 : Nat) : Int) from rfl, show (969 : Int) = ((969 : Nat) : Int) from rfl, show (48 : Int) = ((48 : Nat) : Int) from rfl, show (57 : Int) = ((57 : Nat) : Int) from rfl]
  simp only [e]

set_option maxRecDepth 1000000 in
theorem runes_any (s : ByteArray) (hs : s.size ≤ maxLen) (w : World) : Calls Tryz.prog 133 #[.string s] w fun e w' => e = .returned (.int .i64 (runesGo s s.size 0)) ∧ Below w.heap.size w w' := by
  unfold maxLen at hs
  go_enter Tryz.func133, Tryz.ntmps133
  go_wp2
  go_loopw [3] (fun n w' => ∃ (pos b m : Nat), w' = w.iter s pos ∧ n = .int .i64 m ∧ m + runesGo s b pos = runesGo s s.size 0 ∧ s.size ≤ pos + b) (fun _ w' => s.size - w'.iterPos w.heap.size)
  case atStart => exact ⟨0, s.size, 0, rfl, rfl, by simp, by omega⟩
  case round =>
    obtain ⟨pos, b, m, rfl, rfl, hc, hb⟩ := hrel
    have hle := runesGo_le s s.size 0
    by_cases hp : pos < s.size
    · have hnx : ∀ ty, (Instr.next (.pointer (some ⟨w.heap.size, 0, none⟩)) true ty).run Tryz.prog (w.iter s pos) = _ := fun ty => run_next_any w s pos ty hp
      obtain ⟨b, rfl⟩ : ∃ k, b = k + 1 := ⟨b - 1, by omega⟩
      rw [runesGo_step s b pos hp] at hc
      have hm1 : m + 1 ≤ s.size := by omega
      have HC := Lib.hid hc
      clear hc
      go_wp2
      have hwd := width_pos s pos hp
      go_roundw
      case rel => exact ⟨pos + (Utf8.decode s pos).2, b, m + 1, rfl, by go_num, by have := HC.out; omega, by omega⟩
      case measure =>
        simp
        omega
    · have hnx : ∀ ty, (Instr.next (.pointer (some ⟨w.heap.size, 0, none⟩)) true ty).run Tryz.prog (w.iter s pos) = _ := fun ty => run_next_end w s pos ty hp
      go_wp2
      go_ret
      rw [runesGo_end s b pos hp] at hc
      exact ⟨ret_int (by omega), below_alloc' (Below.refl _ _) _⟩

theorem letter_is {c : Int} {b : Bool} (h : letterB c = b) (w : World) : Calls Tryz.prog 131 #[.int .i32 c] w fun e w' => e = .returned (.bool b) ∧ w = w' := by
  rw [← h]; exact letter_any c w
theorem digit_is {c : Int} {b : Bool} (h : digitB c = b) (w : World) : Calls Tryz.prog 132 #[.int .i32 c] w fun e w' => e = .returned (.bool b) ∧ w = w' := by
  rw [← h]; exact digit_any c w
theorem str_nil {s : ByteArray} (h : s.size = 0) : s.toList = [] := by
  have e : s = ByteArray.empty := ByteArray.size_eq_zero_iff.1 h
  subst e
  rw [ByteArray.toList_eq]
  rfl
theorem str_some {s : ByteArray} (h : ¬ s.size = 0) : (!s.toList.isEmpty) = true := by
  rw [ByteArray.toList_eq]
  cases hd : s.data.toList with
  | nil =>
    have : s.data.size = s.data.toList.length := by simp
    rw [hd] at this
    exact absurd this h
  | cons => rfl
set_option maxRecDepth 1000000 in
theorem name_any (s : ByteArray) (hs : s.size ≤ maxLen) (w : World) : Calls Tryz.prog 104 #[.string s] w fun e w' => e = .returned (.bool (nameS s)) ∧ Below w.heap.size w w' := by
  have HS := Lib.hid hs
  unfold maxLen at hs
  go_enter Tryz.func104, Tryz.ntmps104
  go_wp2
  go_loopw [3] (fun _ w' => ∃ (pos b : Nat), w' = w.iter s pos ∧ nameGo s b pos = nameGo s s.size 0 ∧ s.size ≤ pos + b) (fun _ w' => s.size - w'.iterPos w.heap.size)
  case atStart => exact ⟨0, s.size, rfl, rfl, by omega⟩
  case round =>
    obtain ⟨pos, b, rfl, hc, hb⟩ := hrel
    have HC := Lib.hid hc
    clear hc
    by_cases hp : pos < s.size
    · have hnx : ∀ ty, (Instr.next (.pointer (some ⟨w.heap.size, 0, none⟩)) true ty).run Tryz.prog (w.iter s pos) = _ := fun ty => run_next_any w s pos ty hp
      have hwd := width_pos s pos hp
      obtain ⟨b, rfl⟩ : ∃ m, b = m + 1 := ⟨b - 1, by omega⟩
      have hst := nameGo_step s b pos hp
      rw [runeOk_is] at hst
      have HST := Lib.hid hst
      clear hst
      generalize hcc : (Utf8.decode s pos).1 = c at *
      generalize hww : (Utf8.decode s pos).2 = wd at *
      have HCC := Lib.hid hcc
      have HWW := Lib.hid hww
      clear hcc hww
      cases hl : letterB c with
      | true =>
        have HL := Lib.hid hl
        clear hl
        go_wp2_with (go_at_call 131; refine (letter_is HL.out _).mono ?_; rintro e w' ⟨rfl, rfl⟩)
        go_roundw
        case rel => exact ⟨pos + wd, b, rfl, by rw [← HC.out, HST.out, HL.out]; simp, by omega⟩
        case measure => simp; omega
      | false =>
        have HL := Lib.hid hl
        clear hl
        cases hd : digitB c with
        | false =>
          have HD := Lib.hid hd
          clear hd
          go_wp2_with (first | (go_at_call 131; refine (letter_is HL.out _).mono ?_; rintro e w' ⟨rfl, rfl⟩) | (go_at_call 132; refine (digit_is HD.out _).mono ?_; rintro e w' ⟨rfl, rfl⟩))
          go_ret
          refine ⟨?_, below_alloc' (Below.refl _ _) _⟩
          have : nameS s = false := by unfold nameS; rw [← HC.out, HST.out, HL.out, HD.out]; simp
          exact (ret_bool this).symm
        | true =>
          have HD := Lib.hid hd
          clear hd
          by_cases h0 : pos = 0
          · have h0' : ((pos : Int) == 0) = true := by rw [h0]; rfl
            have H0 := Lib.hid h0
            clear h0
            go_wp2_with (first | (go_at_call 131; refine (letter_is HL.out _).mono ?_; rintro e w' ⟨rfl, rfl⟩) | (go_at_call 132; refine (digit_is HD.out _).mono ?_; rintro e w' ⟨rfl, rfl⟩))
            go_ret
            refine ⟨?_, below_alloc' (Below.refl _ _) _⟩
            have : nameS s = false := by unfold nameS; rw [← HC.out, HST.out, HL.out, HD.out, H0.out]; simp
            exact (ret_bool this).symm
          · have h0' : ((pos : Int) == 0) = false := beq_eq_false_iff_ne.2 (by omega)
            go_wp2_with (first | (go_at_call 131; refine (letter_is HL.out _).mono ?_; rintro e w' ⟨rfl, rfl⟩) | (go_at_call 132; refine (digit_is HD.out _).mono ?_; rintro e w' ⟨rfl, rfl⟩))
            go_roundw
            case rel => exact ⟨pos + wd, b, rfl, by rw [← HC.out, HST.out, HL.out, HD.out]; simp [h0], by omega⟩
            case measure => simp; omega
    · have hnx : ∀ ty, (Instr.next (.pointer (some ⟨w.heap.size, 0, none⟩)) true ty).run Tryz.prog (w.iter s pos) = _ := fun ty => run_next_end w s pos ty hp
      have hn1 : nameGo s s.size 0 = true := by rw [← HC.out, nameGo_end s b pos hp]
      have HN := Lib.hid hn1
      clear hn1
      by_cases hz : s.size = 0
      · have hz' := str_nil hz
        have HZ := Lib.hid hz
        clear hz
        go_wp2_with (go_at_call 133; refine (runes_any s HS.out _).mono ?_; rintro e w' ⟨rfl, hb⟩)
        go_ret
        refine ⟨?_, below_alloc' (Below.refl _ _) _⟩
        have : nameS s = false := by unfold nameS; rw [HZ.out]; simp
        exact (ret_bool this).symm
      · have hz' := str_some hz
        have hz'' : ¬ s.toList = [] := by simpa using hz'
        have HZ := Lib.hid hz
        clear hz
        go_wp2_with (go_at_call 133; refine (runes_any s HS.out _).mono ?_; rintro e w' ⟨rfl, hb⟩)
        go_ret
        refine ⟨?_, below_call (below_alloc' (Below.refl _ _) _) hb⟩
        have : nameS s = decide (runesGo s s.size 0 ≤ 8) := by unfold nameS; rw [HN.out]; simp [HZ.out]
        exact ret_bool (by rw [this]; simp; omega)

/-! ### Sets -/
theorem name_is {s : ByteArray} {b : Bool} (hs : s.size ≤ maxLen) (h : nameS s = b) (w : World) : Calls Tryz.prog 104 #[.string s] w fun e w' => e = .returned (.bool b) ∧ Below w.heap.size w w' := by
  rw [← h]; exact name_any s hs w
/-- A slice of texts, whoever owns it. -/
def Texts (w : World) (v : Value) (l : List ByteArray) : Prop :=
  ∃ a c, v = .slice a l.length c ∧ l.length ≤ 17592186044416 ∧ (∀ x ∈ l, x.size ≤ maxLen) ∧ ∀ i, i < l.length → ∃ b off, a = some ⟨b, off, none⟩ ∧ w.cell? ⟨b, off + i, none⟩ = some (.string (l.getD i ByteArray.empty))
theorem Texts.below {w w' : World} {v : Value} {l : List ByteArray} (h : Texts w v l) (hb : Below w.heap.size w w') : Texts w' v l := by
  obtain ⟨a, c, rfl, h1, h2, h3⟩ := h
  exact ⟨a, c, rfl, h1, h2, fun i hi => by obtain ⟨b, off, e, g⟩ := h3 i hi; exact ⟨b, off, e, cell_below g hb⟩⟩
/-- The first k of a row are names, and rise. -/
def setGo (l : List ByteArray) : Nat → Bool
  | 0 => true
  | k + 1 => setGo l k && (nameS (l.getD k ByteArray.empty) && !(decide (0 < k) && !Op.bytesLess (l.getD (k - 1) ByteArray.empty).toList (l.getD k ByteArray.empty).toList))
def setS (l : List ByteArray) : Bool := setGo l l.length && decide (l.length ≤ 4)
theorem setGo_false {l : List ByteArray} {k : Nat} (h : setGo l (k + 1) = false) : ∀ n, k + 1 ≤ n → setGo l n = false
  | 0, hn => by omega
  | n + 1, hn => by
    rcases Nat.lt_or_ge k n with h1 | h1
    · have := setGo_false h n h1
      rw [setGo, this]; rfl
    · obtain rfl : k = n := by omega
      exact h
theorem setS_false {l : List ByteArray} {k : Nat} (hk : k < l.length) (h : setGo l (k + 1) = false) : setS l = false := by
  unfold setS; rw [setGo_false h _ hk]; rfl
set_option maxRecDepth 1000000 in
set_option maxHeartbeats 1000000 in
theorem set_any (v : Value) (l : List ByteArray) (w : World) (hl : Texts w v l) : Calls Tryz.prog 106 #[v] w fun e w' => e = .returned (.bool (setS l)) ∧ Below w.heap.size w w' := by
  obtain ⟨pa, pc, rfl, hlen, hmx, hcs⟩ := hl
  have HMX := Lib.hid hmx
  have HCS := Lib.hid hcs
  clear hmx hcs
  go_enter Tryz.func106, Tryz.ntmps106
  go_wp2
  go_loopw [7] (fun i wr => ∃ k : Nat, i = .int .i64 k ∧ k ≤ l.length ∧ setGo l k = true ∧ Below w.heap.size w wr) (fun i _ => l.length - (intOf i).toNat)
  case atStart => exact ⟨0, rfl, Nat.zero_le _, rfl, Below.refl _ _⟩
  case round =>
    obtain ⟨k, rfl, hk, hg, hb⟩ := hrel
    have HG := Lib.hid hg
    have HB := Lib.hid hb
    clear hg hb
    by_cases hlt : k < l.length
    · obtain ⟨bb, off, rfl, hc⟩ := HCS.out k hlt
      have hcx := cell_below hc HB.out
      have hmax := HMX.out (l.getD k ByteArray.empty) (by rw [List.getD_eq_getElem?_getD, List.getElem?_eq_getElem hlt]; exact List.getElem_mem hlt)
      have hst : setGo l (k + 1) = (setGo l k && (nameS (l.getD k ByteArray.empty) && !(decide (0 < k) && !Op.bytesLess (l.getD (k - 1) ByteArray.empty).toList (l.getD k ByteArray.empty).toList))) := rfl
      have HST := Lib.hid hst
      clear hst hc
      generalize hx : l.getD k ByteArray.empty = x at *
      have HX := Lib.hid hx
      have HMAX := Lib.hid hmax
      clear hx hmax
      cases hn : nameS x with
      | false =>
        have HN := Lib.hid hn
        clear hn
        go_wp2_with (go_at_call 104; refine (name_is HMAX.out HN.out _).mono ?_; rintro e w1 ⟨rfl, hb1⟩; have HB1 := Lib.hid hb1; clear hb1)
        go_ret
        exact ⟨(ret_bool (setS_false hlt (by rw [HST.out, HN.out]; simp))).symm, below_call HB.out HB1.out⟩
      | true =>
        have HN := Lib.hid hn
        clear hn
        by_cases h0 : k = 0
        · subst h0
          rw [Nat.add_zero] at hcx
          go_wp2_with (go_at_call 104; refine (name_is HMAX.out HN.out _).mono ?_; rintro e w1 ⟨rfl, hb1⟩; have HB1 := Lib.hid hb1; clear hb1)
          go_roundw
          case rel => exact ⟨1, by go_num, by omega, by rw [HST.out, HG.out, HN.out]; rfl, below_call HB.out HB1.out⟩
          case measure => simp [intOf]; omega
        · have hk0 : 0 < k := by omega
          obtain ⟨b2, o2, e2, hc2⟩ := HCS.out (k - 1) (by omega)
          simp only [Option.some.injEq, Addr.mk.injEq, and_true] at e2
          obtain ⟨rfl, rfl⟩ := e2
          generalize hy : l.getD (k - 1) ByteArray.empty = y at *
          have HY := Lib.hid hy
          have HC2 := Lib.hid hc2
          clear hy hc2
          have hkw : IntKind.i64.wrap ((k : Int) - 1) = k - 1 := kwid (by omega) (by omega)
          have hkn : ((k : Int) - 1).toNat = k - 1 := by omega
          cases hless : Op.bytesLess y.toList x.toList with
          | true =>
            have HLS := Lib.hid hless
            go_wp2_with (go_at_call 104; refine (name_is HMAX.out HN.out _).mono ?_; rintro e w1 ⟨rfl, hb1⟩; have HB1 := Lib.hid hb1; have hc3 := cell_below (cell_below HC2.out HB.out) hb1; clear hb1)
            go_roundw
            case rel => exact ⟨k + 1, by go_num, by omega, by rw [HST.out, HG.out, HN.out, HLS.out]; simp, below_call HB.out HB1.out⟩
            case measure => simp [intOf]; omega
          | false =>
            have HLS := Lib.hid hless
            go_wp2_with (go_at_call 104; refine (name_is HMAX.out HN.out _).mono ?_; rintro e w1 ⟨rfl, hb1⟩; have HB1 := Lib.hid hb1; have hc3 := cell_below (cell_below HC2.out HB.out) hb1; clear hb1)
            go_ret
            exact ⟨(ret_bool (setS_false hlt (by rw [HST.out, HN.out, HLS.out]; simp [hk0]))).symm, below_call HB.out HB1.out⟩
    · obtain rfl : k = l.length := by omega
      go_wp2
      go_ret
      exact ⟨ret_bool (by unfold setS; rw [HG.out]; simp; omega), HB.out⟩
end Go.Proofs.YtofofjfmhaggmaaGreatDoor
/-! The shelf's words on cutting and splitting, and the plain ones. -/
set_option linter.unusedVariables false
set_option linter.unusedSimpArgs false
namespace Go.Proofs.YtofofjfmhaggmaaGreatDoor
open Go

end Go.Proofs.YtofofjfmhaggmaaGreatDoor
/-! The program's way to take parts of a word, as plain functions; it comes to the same nodes. -/
set_option linter.unusedVariables false
set_option linter.unusedSimpArgs false
namespace Go.Proofs.YtofofjfmhaggmaaGreatDoor
open Go

end Go.Proofs.YtofofjfmhaggmaaGreatDoor
