/- What the listed variables and the world's shape give the walks: the two tables, the library's bound; a wrap that keeps both. -/
import Derived.Test.YtofofjfmhaggmaaGreatDoorRows
import Derived.Test.YtofofjfmhaggmaaGreatDoorTie
import Derived.Test.YtofofjfmhaggmaaGreatDoorCards
import Derived.Test.YtofofjfmhaggmaaGreatDoorZc
import Derived.ProofKit
import Derived.LaidMore
import Derived.OpenShut
import Derived.Stop.Joined
import Derived.Stop.LaidErr
import Derived.Lib.LaidTab
import Derived.SevenTiedAt
import Derived.Lay
import Derived.Shelf.Vars
import Derived.HandedShaped
set_option linter.unusedVariables false
set_option linter.unusedSimpArgs false
namespace Go.Proofs.YtofofjfmhaggmaaGreatDoor
open Go.ChangeShapes Go.WideShapes Go.ChangeAt Go.WideMaps Go.WideElems Go.RowKit

theorem own : ownKnob Tryz.prog.godebug = none := by kernel_rfl
def laidAll : List (String × DataW Unit) := [("joinery/score.tops", Rows.laid_joinery_score_tops), ("math/bits.deBruijn32tab", Rows.laid_math_bits_deBruijn32tab), ("math/bits.deBruijn64tab", Rows.laid_math_bits_deBruijn64tab), ("internal/strconv.uint64pow10", Rows.laid_internal_strconv_uint64pow10), ("unicode/utf8.acceptRanges", Rows.laid_unicode_utf8_acceptRanges), ("unicode.White_Space", Rows.laid_unicode_White_Space), ("strings.asciiSpace", Rows.laid_strings_asciiSpace), ("unicode/utf8.first", Rows.laid_unicode_utf8_first)]
theorem tab_pow : (Rows.laid_internal_strconv_uint64pow10 : DataW Unit) = Lib.tabData .u64 Lib.pow10Tab := by kernel_rfl
theorem tab_space : (Rows.laid_strings_asciiSpace : DataW Unit) = Lib.tabData .u8 Lib.asciiSpaceTab := by kernel_rfl
theorem maxlen_of_shape {W : World} (h : W.ShapedOpen Tryz.prog) : ∃ m, W.cell? ⟨4, 0, none⟩ = some (.int .i64 m) :=
  cell_of_shapedOpen_int (t := 3) (zero := #[.int .i64 0]) h (by decide +kernel) (by kernel_rfl) rfl (by kernel_rfl) (by kernel_rfl) Tryz.underlying3
theorem tabs_of_laid {W : World} (h : laidMetH Tryz.prog laidAll W) (hs : W.ShapedOpen Tryz.prog) : Tabs W := by
  rw [MakeChecks.laidMetH_plain _ _ _ (by kernel_rfl)] at h
  have h3 := h.tail.tail.tail
  have h6 := h3.tail.tail.tail
  rw [tab_pow] at h3
  rw [tab_space] at h6
  exact ⟨Lib.tabIs_of_head (g := 3) (t := 339) (e := 235) (n := 20) (by kernel_rfl) (by kernel_rfl) (by kernel_rfl) (by kernel_rfl) (by kernel_rfl) (by kernel_rfl) h3,
    Lib.tabIs_of_head (g := 0) (t := 255) (e := 5) (n := 256) (by kernel_rfl) (by kernel_rfl) (by kernel_rfl) (by kernel_rfl) (by kernel_rfl) (by kernel_rfl) h6,
    maxlen_of_shape hs⟩
theorem gTops : Tryz.prog.globalNamed "joinery/score.tops" = some 1 := by kernel_rfl
theorem tTops : (Tryz.prog.globals[1]?).map (·.type) = some 288 := by kernel_rfl
set_option maxRecDepth 100000 in
theorem tops_of_laid {W : World} (h : laidMetH Tryz.prog laidAll W) : Tops W := by
  rw [MakeChecks.laidMetH_plain _ _ _ (by kernel_rfl)] at h
  obtain ⟨ps, ⟨g0, t0, cs0, f0, p0, q0, hg0, ht0, hv0, hd0, _, _⟩, _⟩ := h
  obtain rfl := Option.some.inj (gTops.symm.trans hg0)
  obtain rfl := Option.some.inj (tTops.symm.trans ht0)
  obtain ⟨xs, m1, rfl, hx1, hlen, hn3, hel⟩ := DataW.trod_array Tryz.underlying288 hd0
  have c3 : Tryz.prog.cellsOf 3 = 1 := by kernel_rfl
  have c38 : Tryz.prog.cellsOf 288 = 3 := by kernel_rfl
  rw [c38] at hlen
  simp only [Prod.mk.injEq] at hx1
  have hx := hx1.1
  obtain ⟨l⟩ := cs0
  match xs, hn3, l, hlen with
  | [x0, x1, x2], _, [y0, y1, y2], _ =>
    simp only [Rows.laid_joinery_score_tops, DataW.agg.injEq, List.map_cons, List.map_nil, List.cons.injEq, and_true] at hx
    have h0 := hel 0 (by decide)
    have h1 := hel 1 (by decide)
    have h2 := hel 2 (by decide)
    rw [c3] at h0 h1 h2
    obtain ⟨k0, e0, f0, _⟩ := DataW.trod_int Tryz.underlying3 (show DataW.trod _ Tryz.prog W 0 _ false m1 3 [y0] = some x0 from h0)
    obtain ⟨k1, e1, f1, _⟩ := DataW.trod_int Tryz.underlying3 (show DataW.trod _ Tryz.prog W 0 _ false m1 3 [y1] = some x1 from h1)
    obtain ⟨k2, e2, f2, _⟩ := DataW.trod_int Tryz.underlying3 (show DataW.trod _ Tryz.prog W 0 _ false m1 3 [y2] = some x2 from h2)
    rw [f0, f1, f2] at hx
    simp only [DataW.lit.injEq, Lit.int.injEq, true_and, List.cons.injEq, and_true] at hx e0 e1 e2
    obtain ⟨rfl, rfl, rfl⟩ := hx
    subst e0; subst e1; subst e2
    exact ⟨World.var?_cell hg0 hv0 0, World.var?_cell hg0 hv0 1, World.var?_cell hg0 hv0 2⟩
theorem low_of_shape {W : World} (h : W.ShapedOpen Tryz.prog) : GN ≤ W.heap.size := by
  have hs : (((begin Tryz.prog (fun _ _ => 0) default).world.heap[Tryz.prog.globals.size - 1]?).bind Obj.row?).isSome = true := by kernel_rfl
  obtain ⟨⟨zero, t⟩, h0⟩ := Option.isSome_iff_exists.1 hs
  have hg : Tryz.prog.globals.size - 1 < Tryz.prog.globals.size := Nat.le_of_ble_eq_true (by kernel_rfl)
  obtain ⟨cs, hh, _⟩ := h.1 _ zero t hg h0
  have := (Array.getElem?_eq_some_iff.1 hh).1
  unfold GN
  omega
theorem fine_of_laid {W : World} (h : laidMetH Tryz.prog laidAll W) (hs : W.ShapedOpen Tryz.prog) : Fine W := ⟨tabs_of_laid h hs, tops_of_laid h, low_of_shape hs⟩
variable {H : Type} {enc : TypeId × Value → H}
/-- The wrap of a listed row that hands the walk the world's shape, too. -/
theorem returns_kept {C : Checked} {os : Os} {f : FuncId} {fn : Func} {s : ChangeSpec} {apart fresh handsOn again : Bool} {X : World → Array Value → Prop}
    (hX : ∀ (w w' : World) (args : Array Value), w.heap = w'.heap → X w args → X w' args)
    (own : ownKnob C.prog.godebug = none) (started : os.Started) (noInit : C.prog.inits.idxOf? f = none) (hfn : C.prog.funcs[f]? = some fn)
    (witness : ∃ (w : World) (tape : Tape) (i : Input), w.os = os ∧ (w.forCall tape i).Shaped C.prog ∧ i.vars = [] ∧ Input.okWide C.prog (w.forCall tape i) .any w.heap.size f i ∧
      ((s.pre enc C.prog fn [] apart (w.forCall tape i).memory i.args ∧ X (w.forCall tape i).memory i.args) ∧ sizedMet enc C.prog fn (OpenSpec.ofChange s) apart (w.forCall tape i).memory i.args) ∧ Assume.holds {} C.prog (lone (Frame.enter C.prog f i.args .normal) [] (w.forCall tape i)))
    (walk : ∀ (W : World) (base : Nat) (args : Array Value) (ds gs : List (DataW H)) (before : List MemPlace),
      (∀ (j : Nat) t v, fn.params[j]? = some t → args[j]? = some v → Value.okWide C.prog W .any base t v) →
      DataW.Whole enc C.prog fn.params.toList s.vars apart W args.toList ds gs before →
      (DataW.weightsEach C.prog (fn.params.toList ++ s.plain.varTypes C.prog) (ds ++ gs)).all (· ≤ reachBytes) = true → X W args → W.ShapedOpen C.prog →
      Calls C.prog f args W fun e W' => ∃ v, e = .returned v ∧ s.post enc C.prog fn apart fresh handsOn again W args v W') :
    ReturnsInHanded {} C os f .any (fun w args => (s.pre enc C.prog fn [] apart w args ∧ X w args) ∧ sizedMet enc C.prog fn (OpenSpec.ofChange s) apart w args) (s.post enc C.prog fn apart fresh handsOn again) := by
  refine returnsInHanded_of_calls own started noInit witness ?_
  intro w tape i _ hsh _ hok hpre _
  obtain ⟨_, _, _, fn', h1, _, _, _, _, hval⟩ := hok
  obtain rfl : fn' = fn := Option.some.inj (h1.symm.trans hfn)
  obtain ⟨⟨⟨ds, gs, before, hw, _⟩, hx⟩, hz⟩ := hpre
  refine (walk (w.forCall tape i) w.heap.size i.args ds gs before hval (DataW.Whole.of_heap (w' := w.forCall tape i) (by rfl) hw) (hz.weights hw) (hX _ _ _ (by rfl) hx) hsh).mono ?_
  rintro e W' ⟨v, rfl, hp⟩
  exact ChangeSpec.post_blind hp
end Go.Proofs.YtofofjfmhaggmaaGreatDoor
