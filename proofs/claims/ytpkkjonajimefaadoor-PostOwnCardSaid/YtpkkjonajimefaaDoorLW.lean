/- PostOwn: words. -/
import Derived.Test.YtpkkjonajimefaaDoorPc
set_option linter.unusedVariables false
set_option linter.unusedSimpArgs false
namespace Go.Proofs.YtpkkjonajimefaaDoor
open Go.RowKit

theorem new_full (w : World) : Calls Tryd.prog 15 #[] w fun e w' => e = .returned (.pointer (some ⟨w.heap.size + 1, 0, none⟩)) ∧ w'.heap[w.heap.size]? = some (.cells #[.slice none 0 0] 62 (0, 0)) ∧
    w'.heap[w.heap.size + 1]? = some (.cells #[.iface 59 (.pointer (some ⟨w.heap.size, 0, none⟩))] 66 (0, 0)) ∧ Below w.heap.size w w' := by
  go_enter Tryd.func15, Tryd.ntmps15
  go_wp2
  go_ret
  refine ⟨rfl, ?_, alloc_second _ _ _, below_alloc' (below_alloc' (Below.refl _ _) _) _⟩
  rw [Below.heap_alloc _ _ _ (by simp)]
  exact alloc_at _ _

theorem set3 (w : World) (g : Nat) (T : TypeId) (a0 a1 a2 a3 a4 a5 a6 x0 x4 x5 : Value) (h : w.heap[g]? = some (.cells #[a0, a1, a2, a3, a4, a5, a6] T (0, 0))) :
    (((w.setCell ⟨g, 0, none⟩ x0).setCell ⟨g, 4, none⟩ x4).setCell ⟨g, 5, none⟩ x5).heap[g]? = some (.cells #[x0, a1, a2, a3, x4, x5, a6] T (0, 0)) ∧ But g [0, 4, 5] w (((w.setCell ⟨g, 0, none⟩ x0).setCell ⟨g, 4, none⟩ x4).setCell ⟨g, 5, none⟩ x5) := by
  have h1 := heap_setCell_same w g 0 _ _ x0 h
  have h2 := heap_setCell_same _ g 4 _ _ x4 h1
  have h3 := heap_setCell_same _ g 5 _ _ x5 h2
  exact ⟨h3, (((But.set w g 0 x0).mono (by simp)).trans ((But.set _ g 4 x4).mono (by simp))).trans ((But.set _ g 5 x5).mono (by simp))⟩

/-- What lies from block b on does not feel a change below. -/
theorem own_from {w w' : World} {b n size : Nat} {e : TypeId} {v : Value} {xs : List Value} (h : w.ownsRow b e size v n xs) (k : ∀ g, b ≤ g → g < w.heap.size → w'.heap[g]? = w.heap[g]?) : w'.ownsRow b e size v n xs :=
  own_same h fun g cs hg hv => k g (h.lt g hv).1 (h.lt g hv).2
theorem MsgAt.from_ {w w' : World} {b : Nat} {v : Value} {m : MsgM} (h : MsgAt b w v m) (k : ∀ g, b ≤ g → g < w.heap.size → w'.heap[g]? = w.heap[g]?) : MsgAt b w' v m := by
  obtain ⟨u, x, e, ⟨c, h1, h2⟩, h3⟩ := h
  refine ⟨u, x, e, ⟨c, own_from h1 k, fun i hi => ?_⟩, own_from h3 k⟩
  obtain ⟨u', v', e', h4, h5⟩ := h2 i hi
  exact ⟨u', v', e', own_from h4 k, own_from h5 k⟩

/-- What PostOwn needs of memory while it writes. -/
structure OwnW (B C b r bq rq gm gw : Nat) (cm cw : Array Value) (vw : Value) (M : MsgM) (w0 wr : World) : Prop where
  size : C ≤ wr.heap.size
  m : wr.heap[gm]? = some (.cells cm 26 (0, 0))
  wn : wr.heap[gw]? = some (.cells cw 26 (0, 0))
  post : wr.heap[b]? = some (.cells #[.iface 59 (.pointer (some ⟨r, 0, none⟩))] 66 (0, 0))
  bag : BagC B C wr r [M]
  qp : wr.heap[bq]? = some (.cells #[.iface 59 (.pointer (some ⟨rq, 0, none⟩))] 66 (0, 0))
  qr : wr.heap[rq]? = some (.cells #[.slice none 0 0] 62 (0, 0))
  below : Below w0.heap.size w0 wr
theorem OwnW.touch {B C b r bq rq gm gw : Nat} {cm cw : Array Value} {vw : Value} {M : MsgM} {w0 wr : World} (h : OwnW B C b r bq rq gm gw cm cw vw M w0 wr) {g q : Nat} {cs : Array Value} {T : TypeId} (u : Value)
    (hg : wr.heap[g]? = some (.cells cs T (0, 0))) (hT : T = 53 ∨ T = 3) (hgC : g < C) (h0 : w0.heap.size ≤ g) : OwnW B C b r bq rq gm gw cm cw vw M w0 (wr.setCell ⟨g, q, none⟩ u) := by
  have hb := But.set wr g q u
  have hs := hb.still hg (T := fun e => e ≠ T) (by simp)
  have hne : ∀ e, e ≠ 53 → e ≠ 3 → e ≠ T := fun e h1 h2 h3 => hT.elim (fun h => h1 (h3.trans h)) (fun h => h2 (h3.trans h))
  obtain ⟨h1, sl, vs, h2, h3, h4⟩ := h.bag
  exact ⟨Nat.le_trans h.size hb.size, hs _ _ _ (hne _ (by decide) (by decide)) h.m, hs _ _ _ (hne _ (by decide) (by decide)) h.wn, hs _ _ _ (hne _ (by decide) (by decide)) h.post,
    ⟨h1, sl, vs, hs _ _ _ (hne _ (by decide) (by decide)) h2, own_still h3 hs (hne _ (by decide) (by decide)), fun i hi => ⟨(h4 i hi).1.from_ fun k hk hkl => hb.block k hkl (by omega), (h4 i hi).2⟩⟩,
    hs _ _ _ (hne _ (by decide) (by decide)) h.qp, hs _ _ _ (hne _ (by decide) (by decide)) h.qr, h.below.setCell h0 _⟩
theorem OwnW.postAt {B C b r bq rq gm gw : Nat} {cm cw : Array Value} {vw : Value} {M : MsgM} {w0 wr : World} (h : OwnW B C b r bq rq gm gw cm cw vw M w0 wr) (hB : B ≤ b) : PostAt B wr (.pointer (some ⟨b, 0, none⟩)) [M] :=
  PostC.at_ (C := C) ⟨b, r, rfl, hB, h.post, h.bag⟩
theorem OwnW.qAt {B C b r bq rq gm gw : Nat} {cm cw : Array Value} {vw : Value} {M : MsgM} {w0 wr : World} (h : OwnW B C b r bq rq gm gw cm cw vw M w0 wr) (hB : B ≤ bq) (hB2 : B ≤ rq) : PostAt B wr (.pointer (some ⟨bq, 0, none⟩)) [] :=
  ⟨bq, rq, rfl, hB, h.qp, hB2, _, fun _ => undef, h.qr, World.ownsRow_nil _ _ _ _, fun i hi => absurd hi (Nat.not_lt_zero _)⟩
theorem peersM_pos (n : Int) : 1 ≤ (peersM n 4).length := by
  show 1 ≤ (if _ then peersM n 3 ++ [((3 + 1 : Nat) : Int)] else peersM n 3).length
  split
  · simp
  · rename_i h
    have : (peersM n 3).length ≠ 0 := fun e => h (.inr ⟨rfl, e⟩)
    omega
end Go.Proofs.YtpkkjonajimefaaDoor
