/- An event as a line. -/
import Derived.Test.YtikamehjeaoilaaGreatDoorJg
import Derived.Test.YtikamehjeaoilaaGreatDoorJi
set_option linter.unusedVariables false
set_option linter.unusedSimpArgs false
namespace Go.Proofs.YtikamehjeaoilaaGreatDoor
open Go.RowKit

def wordsE (k : Nat) (s : EvS) : List (List UInt8) :=
  verb k :: Lib.decDigits (if k = 1 then s.id else s.a) :: (if k = 1 then s.pods.map podT else if k = 4 then [nodeT s.node] else if k = 5 then [s.node.name] else if k = 10 then [Lib.decDigits s.b] else [])
def textE (k : Nat) (s : EvS) : List UInt8 := Lib.join (wordsE k s) [32]
structure EvB (k : Nat) (s : EvS) : Prop where
  a : s.a ≤ 999999
  b : s.b ≤ 999999
  id : s.id ≤ 999999
  pods : ∀ p ∈ s.pods, p.shard ≤ 999999 ∧ p.cpu ≤ 1099511627776 ∧ p.mem ≤ 1099511627776 ∧ (podT p).length ≤ 4294967000
  few : s.pods.length ≤ 4294967000
  node : s.node.cpu ≤ 9223372036854775807 ∧ s.node.mem ≤ 9223372036854775807 ∧ (nodeT s.node).length ≤ 4294967000 ∧ s.node.marks.length ≤ 4294967281 ∧ s.node.taints.length ≤ 4294967281
  text : (textE k s).length ≤ 140737488355328
theorem verb_at {k : Nat} (h1 : 1 ≤ k) (h2 : k ≤ 11) : ∃ h : k - 1 < verbs.length, verbs[k - 1] = verb k := by
  have h : k - 1 < verbs.length := by show k - 1 < 11; omega
  refine ⟨h, ?_⟩
  unfold verb
  rw [List.getD_eq_getElem?_getD, List.getElem?_eq_getElem h]
  rfl
theorem cell_below_lt {w w' : World} {B g j : Nat} {v : Value} (h : w.cell? ⟨g, j, none⟩ = some v) (hg : g < B) (hb : Below B w w') : w'.cell? ⟨g, j, none⟩ = some v := (hb.cell hg).trans h
end Go.Proofs.YtikamehjeaoilaaGreatDoor
