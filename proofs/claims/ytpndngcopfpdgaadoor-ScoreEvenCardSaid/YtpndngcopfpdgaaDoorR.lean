/- What the tied table gives the walks: its three cells. -/
import Derived.Test.YtpndngcopfpdgaaDoorRows
import Derived.Test.YtpndngcopfpdgaaDoorTie
import Derived.Test.YtpndngcopfpdgaaDoorCards
import Derived.Test.YtpndngcopfpdgaaDoorA
import Derived.ProofKit
import Derived.LaidMore
import Derived.OpenShut
import Derived.Stop.Joined
import Derived.SevenTiedAt
set_option linter.unusedVariables false
set_option linter.unusedSimpArgs false
namespace Go.Proofs.YtpndngcopfpdgaaDoor
open Go.ChangeShapes Go.WideShapes Go.ChangeAt Go.WideMaps Go.WideElems Go.RowKit

theorem own : ownKnob Tryd.prog.godebug = none := by kernel_rfl
theorem gTops : Tryd.prog.globalNamed "joinery/score.tops" = some 0 := by kernel_rfl
theorem tTops : (Tryd.prog.globals[0]?).map (·.type) = some 38 := by kernel_rfl
def laidAll {H : Type} : List (String × DataW H) := [("joinery/score.tops", Rows.laid_joinery_score_tops)]

theorem door_met (os : Os) (args : Array Value) : laidMetH Tryd.prog laidAll ((World.doorLaid Tryd.prog 400 os).forCall (fun _ _ => 0) ⟨#[], args, []⟩).memory :=
  laidMetH_of_parts3 (fuel := 8) (laidMet_of_run' 8 (by kernel_rfl) (by kernel_rfl)) (by kernel_rfl) (by kernel_rfl)

theorem tops_of_laid {W : World} (h : laidMetH Tryd.prog laidAll W) : Tops W := by
  rw [MakeChecks.laidMetH_plain _ _ _ (by kernel_rfl)] at h
  obtain ⟨ps, ⟨g0, t0, cs0, f0, p0, q0, hg0, ht0, hv0, hd0, _, _⟩, _⟩ := h
  obtain rfl := Option.some.inj (gTops.symm.trans hg0)
  obtain rfl := Option.some.inj (tTops.symm.trans ht0)
  obtain ⟨xs, m1, rfl, hx1, hlen, hn3, hel⟩ := DataW.trod_array Tryd.underlying38 hd0
  have c3 : Tryd.prog.cellsOf 3 = 1 := by kernel_rfl
  have c38 : Tryd.prog.cellsOf 38 = 3 := by kernel_rfl
  rw [c38] at hlen
  simp only [Prod.mk.injEq] at hx1
  have hx := hx1.1
  obtain ⟨l⟩ := cs0
  match xs, hn3, l, hlen with
  | [x0, x1, x2], _, [y0, y1, y2], _ =>
    simp only [Rows.laid_joinery_score_tops, DataW.agg.injEq, List.map_cons, List.map_nil, List.cons.injEq, and_true] at hx
    have h0 := hel 0 (by decide)
    have h1 := hel 1 (by decide)
    have h2 := hel 2 (by decide)
    rw [c3] at h0 h1 h2
    obtain ⟨k0, e0, f0, _⟩ := DataW.trod_int Tryd.underlying3 (show DataW.trod _ Tryd.prog W 0 _ false m1 3 [y0] = some x0 from h0)
    obtain ⟨k1, e1, f1, _⟩ := DataW.trod_int Tryd.underlying3 (show DataW.trod _ Tryd.prog W 0 _ false m1 3 [y1] = some x1 from h1)
    obtain ⟨k2, e2, f2, _⟩ := DataW.trod_int Tryd.underlying3 (show DataW.trod _ Tryd.prog W 0 _ false m1 3 [y2] = some x2 from h2)
    rw [f0, f1, f2] at hx
    simp only [DataW.lit.injEq, Lit.int.injEq, true_and, List.cons.injEq, and_true] at hx e0 e1 e2
    obtain ⟨rfl, rfl, rfl⟩ := hx
    subst e0; subst e1; subst e2
    exact ⟨World.var?_cell hg0 hv0 0, World.var?_cell hg0 hv0 1, World.var?_cell hg0 hv0 2⟩
end Go.Proofs.YtpndngcopfpdgaaDoor
