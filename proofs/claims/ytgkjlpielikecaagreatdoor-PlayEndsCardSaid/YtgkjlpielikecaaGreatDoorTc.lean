/- A map literal of two entries, laid in whatever order. -/
import Derived.Test.YtgkjlpielikecaaGreatDoorTb
import Derived.Test.YtgkjlpielikecaaGreatDoorSe
import Derived.MapKept
set_option linter.unusedVariables false
set_option linter.unusedSimpArgs false
namespace Go.Proofs.YtgkjlpielikecaaGreatDoor
open Go.RowKit

def ent (k : Int) (v : Value) (b : Nat) : MapEntry := { key := .int .i32 k, val := v, born := b }
/-- Block r is a map that was filled so far with 97 (if A) and 98 (if B), in whatever order. -/
def Ins (w : World) (r : Nat) (x y : Value) : Bool → Bool → Prop
  | false, false => w.heap[r]? = some (.map #[] 0)
  | true, false => w.heap[r]? = some (.map #[ent 97 x 0] 1)
  | false, true => w.heap[r]? = some (.map #[ent 98 y 0] 1)
  | true, true => w.heap[r]? = some (.map #[ent 97 x 0, ent 98 y 1] 2) ∨ w.heap[r]? = some (.map #[ent 98 y 0, ent 97 x 1] 2)
theorem run_ins {w : World} {r clock : Nat} {es : Array MapEntry} {k : Int} {v : Value} (hb : w.heap[r]? = some (.map es clock)) (hf : Instr.findNow (.int .i32) (.int .i32 k) es.toList 0 = some none) :
    (Instr.mapUpdate 111 (.map (some r)) (.int .i32 k) v).run Tryz.prog w = .ok () { w with heap := w.heap.setIfInBounds r (.map (es.push (ent k v clock)) (clock + 1)) } := by
  have hc : (Instr.checkKey false 10000 21 (.int .i32 k)).run Tryz.prog w = .ok () w := MapKept.run_checkKey (d := .int .i32) Tryz.underlying21 (by simp [MapKept.IsKey]) false 9999
  simp [Instr.mapUpdate, run_underlying Tryz.underlying111, MapKept.run_getObj_map hb, hc, MapKept.run_findKey Tryz.underlying21 hf, MapKept.run_setObj_map _ hb, Result.andThen, ent]
theorem run_look {w : World} {r clock i : Nat} {es : Array MapEntry} {k : Int} {v : Value} (hb : w.heap[r]? = some (.map es clock)) (hf : Instr.findNow (.int .i32) (.int .i32 k) es.toList 0 = some (some (i, v))) :
    (Instr.lookup 111 (.map (some r)) (.int .i32 k) false).run Tryz.prog w = .ok v w := by
  have hc : ∀ b, (Instr.checkKey b 10000 21 (.int .i32 k)).run Tryz.prog w = .ok () w := fun b => MapKept.run_checkKey (d := .int .i32) Tryz.underlying21 (by simp [MapKept.IsKey]) b 9999
  simp [Instr.lookup, run_underlying Tryz.underlying111, MapKept.run_getObj_map hb, hc, MapKept.run_findKey Tryz.underlying21 hf, Result.andThen]
theorem look_a {w : World} {r : Nat} {x y : Value} (h : Ins w r x y true true) : (Instr.lookup 111 (.map (some r)) (.int .i32 97) false).run Tryz.prog w = .ok x w := by
  rcases h with h | h
  · exact run_look h (i := 0) rfl
  · exact run_look h (i := 1) rfl
theorem look_b {w : World} {r : Nat} {x y : Value} (h : Ins w r x y true true) : (Instr.lookup 111 (.map (some r)) (.int .i32 98) false).run Tryz.prog w = .ok y w := by
  rcases h with h | h
  · exact run_look h (i := 1) rfl
  · exact run_look h (i := 0) rfl
/-- Worlds where but block r may differ. -/
def put1 (w : World) (r : Nat) (o : Obj) : World := { w with heap := w.heap.setIfInBounds r o }
theorem put1_at {w : World} {r : Nat} {o p : Obj} (h : w.heap[r]? = some p) : (put1 w r o).heap[r]? = some o := by
  have := (Array.getElem?_eq_some_iff.1 h).1
  simp [put1, this]
theorem put1_below {w : World} {r N : Nat} {o : Obj} (h : N ≤ r) : Below N w (put1 w r o) :=
  ⟨rfl, rfl, rfl, by simp [put1], fun k hk => by simp [put1, show r ≠ k by omega]⟩
/-- What an insertion of 97 does. -/
def InsA (N : Nat) (x y : Value) (w w' : World) : Prop := Below N w w' ∧ w'.heap.size = w.heap.size ∧ ((Ins w N x y false false ∧ Ins w' N x y true false) ∨ (Ins w N x y false true ∧ Ins w' N x y true true))
def InsB (N : Nat) (x y : Value) (w w' : World) : Prop := Below N w w' ∧ w'.heap.size = w.heap.size ∧ ((Ins w N x y false false ∧ Ins w' N x y false true) ∨ (Ins w N x y true false ∧ Ins w' N x y true true))
theorem ins_a {w : World} {N : Nat} {x y : Value} (h : Ins w N x y false false ∨ Ins w N x y false true) :
    ∃ w', (Instr.mapUpdate 111 (.map (some N)) (.int .i32 97) x).run Tryz.prog w = .ok () w' ∧ InsA N x y w w' := by
  rcases h with h | h
  · exact ⟨_, run_ins h rfl, put1_below (Nat.le_refl _), by simp, .inl ⟨h, put1_at h⟩⟩
  · exact ⟨_, run_ins h rfl, put1_below (Nat.le_refl _), by simp, .inr ⟨h, .inr (put1_at h)⟩⟩
theorem ins_b {w : World} {N : Nat} {x y : Value} (h : Ins w N x y false false ∨ Ins w N x y true false) :
    ∃ w', (Instr.mapUpdate 111 (.map (some N)) (.int .i32 98) y).run Tryz.prog w = .ok () w' ∧ InsB N x y w w' := by
  rcases h with h | h
  · exact ⟨_, run_ins h rfl, put1_below (Nat.le_refl _), by simp, .inl ⟨h, put1_at h⟩⟩
  · exact ⟨_, run_ins h rfl, put1_below (Nat.le_refl _), by simp, .inr ⟨h, .inl (put1_at h)⟩⟩
/-- The states tell one another apart. -/
theorem ins_one {w : World} {N : Nat} {x y : Value} {a b c d : Bool} (h : Ins w N x y a b) (k : Ins w N x y c d) : a = c ∧ b = d := by
  cases a <;> cases b <;> cases c <;> cases d <;> simp_all [Ins, ent]
theorem ins_lt {w : World} {N : Nat} {x y : Value} {a b : Bool} (h : Ins w N x y a b) : N < w.heap.size := by
  have : ∃ o, w.heap[N]? = some o := by
    cases a <;> cases b
    · exact ⟨_, h⟩
    · exact ⟨_, h⟩
    · exact ⟨_, h⟩
    · rcases h with h | h <;> exact ⟨_, h⟩
  obtain ⟨o, h⟩ := this
  exact (Array.getElem?_eq_some_iff.1 h).1
end Go.Proofs.YtgkjlpielikecaaGreatDoor
