/- Messages by numbers. -/
import Derived.Test.YtpkkjonajimefaaDoorMp
set_option linter.unusedVariables false
set_option linter.unusedSimpArgs false
namespace Go.Proofs.YtpkkjonajimefaaDoor
open Go.RowKit

/-- A message by numbers. -/
def makeM (n : Int) (ps : List Int) : MsgM :=
  ⟨1 + n % 10, qd n 11 % 5, qd (qd n 11) 5 % 5, 1 + qd (qd n 11) 25 % 9, if 1 + n % 10 = 1 then podsM ps else [], if 1 + n % 10 = 3 then peersM (qd n 11) 4 else [], qd (qd n 11) 225 % 2 == 0⟩
theorem makeM_few (n : Int) (ps : List Int) : (makeM n ps).few := by
  have h1 := podsM_few ps
  have h2 := peersM_len (qd n 11) 4
  unfold makeM MsgM.few
  dsimp only
  refine ⟨?_, ?_, ?_⟩
  · split
    · have := h1.1; omega
    · simp
  · split
    · omega
    · simp
  · split
    · exact h1.2
    · intro i hi; simp at hi
/-- A message's block. -/
def MsgIn (base g : Nat) (w : World) (m : MsgM) : Prop := ∃ u x, w.heap[g]? = some (.cells #[.int .i64 m.kind, .int .i64 m.src, .int .i64 m.dst, .int .i64 m.gang, u, x, .bool m.yes] 26 (0, 0)) ∧ PodsAt base w u m.pods ∧ Ints base w x m.peers
theorem MsgIn.below {base g : Nat} {w w' : World} {m : MsgM} (h : MsgIn base g w m) (hb : Below w.heap.size w w') : MsgIn base g w' m := by
  obtain ⟨u, v, h1, h2, h3⟩ := h
  exact ⟨u, v, block_below h1 hb, h2.still (Still.of_below hb), h3.still (Still.of_below hb)⟩
theorem MsgIn.pods {base g : Nat} {w : World} {m : MsgM} (h : MsgIn base g w m) {u : Value} {l : List PodM} (hu : PodsAt base w u l) : MsgIn base g (w.setCell ⟨g, 4, none⟩ u) { m with pods := l } := by
  obtain ⟨u', v, h1, h2, h3⟩ := h
  have k := (But.set w g 4 u).still h1 (T := Parts) (by unfold Parts; decide)
  exact ⟨u, v, heap_setCell_same _ _ _ _ _ _ h1, hu.still k, h3.still k⟩
theorem MsgIn.peers {base g : Nat} {w : World} {m : MsgM} (h : MsgIn base g w m) {u : Value} {l : List Int} (hu : Ints base w u l) : MsgIn base g (w.setCell ⟨g, 5, none⟩ u) { m with peers := l } := by
  obtain ⟨u', v, h1, h2, h3⟩ := h
  have k := (But.set w g 5 u).still h1 (T := Parts) (by unfold Parts; decide)
  exact ⟨u', u, heap_setCell_same _ _ _ _ _ _ h1, h2.still k, hu.still k⟩

set_option maxHeartbeats 4000000 in
set_option maxRecDepth 100000 in
theorem make_any (n : Int) (v : Value) (ps : List Int) (w : World) (hn : Nums w v ps) : Calls Tryd.prog 11 #[.int .i64 n, v] w fun e w' => ∃ v', e = .returned v' ∧ MsgAt w.heap.size w' v' (makeM n ps) ∧ Below w.heap.size w w' := by
  have HN := Lib.hid hn
  obtain ⟨pa, pl, rfl, _, _⟩ := hn
  have k1 : IntKind.i64.wrap (1 + n % 10) = 1 + n % 10 := kwid (by omega) (by omega)
  have k2 : IntKind.i64.wrap (1 + qd (qd n 11) 25 % 9) = 1 + qd (qd n 11) 25 % 9 := kwid (by omega) (by omega)
  go_enter Tryd.func11, Tryd.ntmps11
  go_upto_if 28 with (go_at_call 12; refine (within12_any _ _ (by omega) (by omega) _).mono ?_; rintro r w7 ⟨rfl, rfl⟩)
  generalize hw2 : World.alloc (World.alloc w _) _ = w2
  have hB : Below w.heap.size w w2 := by rw [← hw2]; exact below_alloc' (below_alloc' (Below.refl _ _) _) _
  have hQ : w2.heap[w.heap.size]? = some (.cells #[.int .i64 0, .int .i64 0, .int .i64 0, .int .i64 0, .slice none 0 0, .slice none 0 0, .bool false] 26 (0, 0)) := by rw [← hw2, Below.heap_alloc _ _ _ (by simp)]; exact alloc_at _ _
  have hP : MsgIn w.heap.size (w.heap.size + 1) w2 ⟨1 + n % 10, qd n 11 % 5, qd (qd n 11) 5 % 5, 1 + qd (qd n 11) 25 % 9, [], [], qd (qd n 11) 225 % 2 == 0⟩ := by
    rw [← hw2]
    exact ⟨_, _, alloc_second _ _ _, ⟨fun _ => [], World.ownsRow_nil _ _ _ _, fun i h => absurd h (Nat.not_lt_zero _)⟩, World.ownsRow_nil _ _ _ _⟩
  have HP := Lib.hid hP
  have HQ := Lib.hid hQ
  have HB := Lib.hid hB
  clear hw2 hP hQ hB k1 k2
  go_cut [] (fun wx => MsgIn w.heap.size (w.heap.size + 1) wx ⟨1 + n % 10, qd n 11 % 5, qd (qd n 11) 5 % 5, 1 + qd (qd n 11) 25 % 9, if 1 + n % 10 = 1 then podsM ps else [], [], qd (qd n 11) 225 % 2 == 0⟩ ∧ Below w.heap.size w wx ∧ wx.heap[w.heap.size]? = some (.cells #[.int .i64 0, .int .i64 0, .int .i64 0, .int .i64 0, .slice none 0 0, .slice none 0 0, .bool false] 26 (0, 0)))
  case first =>
    by_cases h : 1 + n % 10 = 1
    · have hb : (1 + n % 10 == 1) = true := beq_iff_eq.mpr h
      rw [hb]
      have HE := Lib.hid h
      clear h hb
      go_wp2_with (go_at_call 27; refine (pods_any _ _ ps (HN.out.below HB.out)).mono ?_; rintro r w7 ⟨v, rfl, hv, hb7⟩; have HV := Lib.hid hv; obtain ⟨cv, hvr, _⟩ := hv; obtain ⟨a, l, c, rfl⟩ := own_slice hvr; clear hvr; have hP7 := HP.out.below hb7; obtain ⟨_, _, hh, _⟩ := hP7; have c4 := cell_of_block hh 4 _ rfl; have fr := free_of_block hh 4; have HH := Lib.hid hh; have HB7 := Lib.hid hb7; clear hb7 hh)
      go_meet
      rw [if_pos HE.out]
      refine ⟨(HP.out.below HB7.out).pods (HV.out.base HB.out.size), (below_call HB.out HB7.out).setCell (Nat.le_succ _) _, ?_⟩
      rw [Below.heap_setCell _ _ _ _ (by simp)]
      exact block_below HQ.out HB7.out
    · have hb : (1 + n % 10 == 1) = false := beq_eq_false_iff_ne.mpr h
      rw [hb]
      have HE := Lib.hid h
      clear h hb
      go_wp2
      go_meet
      rw [if_neg HE.out]
      exact ⟨HP.out, HB.out, HQ.out⟩
  case rest =>
    obtain ⟨hP, hB, hQ⟩ := hcut
    clear HP HQ HB
    have HP := Lib.hid hP
    have HQ := Lib.hid hQ
    have HB := Lib.hid hB
    have m0 : wc.cell? ⟨w.heap.size + 1, 0, none⟩ = some (.int .i64 (1 + n % 10)) := by
      obtain ⟨_, _, hh, _⟩ := hP
      exact cell_of_block hh 0 _ rfl
    clear hP hQ hB
    go_upto_if 34 with fail
    clear m0
    go_cut [] (fun wx => MsgIn w.heap.size (w.heap.size + 1) wx ⟨1 + n % 10, qd n 11 % 5, qd (qd n 11) 5 % 5, 1 + qd (qd n 11) 25 % 9, if 1 + n % 10 = 1 then podsM ps else [], if 1 + n % 10 = 3 then peersM (qd n 11) 4 else [], qd (qd n 11) 225 % 2 == 0⟩ ∧ Below w.heap.size w wx ∧ wx.heap[w.heap.size]? = some (.cells #[.int .i64 0, .int .i64 0, .int .i64 0, .int .i64 0, .slice none 0 0, .slice none 0 0, .bool false] 26 (0, 0)))
    case first =>
      by_cases h : 1 + n % 10 = 3
      · have hb : (1 + n % 10 == 3) = true := beq_iff_eq.mpr h
        rw [hb]
        have HE := Lib.hid h
        clear h hb
        go_wp2_with (go_at_call 28; refine (peers_any (qd n 11) _).mono ?_; rintro r w7 ⟨v, rfl, hv, hb7⟩; have HV := Lib.hid hv; obtain ⟨a, c, rfl⟩ := own_slicen hv; clear hv; have hP7 := HP.out.below hb7; obtain ⟨_, _, hh, _⟩ := hP7; have c4 := cell_of_block hh 5 _ rfl; have fr := free_of_block hh 5; have HH := Lib.hid hh; have HB7 := Lib.hid hb7; clear hb7 hh)
        go_meet
        rw [if_pos HE.out]
        refine ⟨(HP.out.below HB7.out).peers (own_base HV.out HB.out.size), (below_call HB.out HB7.out).setCell (Nat.le_succ _) _, ?_⟩
        rw [Below.heap_setCell _ _ _ _ (by simp)]
        exact block_below HQ.out HB7.out
      · have hb : (1 + n % 10 == 3) = false := beq_eq_false_iff_ne.mpr h
        rw [hb]
        have HE := Lib.hid h
        clear h hb
        go_wp2
        go_meet
        rw [if_neg HE.out]
        exact ⟨HP.out, HB.out, HQ.out⟩
    case rest =>
      obtain ⟨hP, hB, hQ⟩ := hcut
      clear HP HQ HB
      obtain ⟨_, _, hh, hu1, hu2⟩ := hP
      have HU1 := Lib.hid hu1
      obtain ⟨cv, hvr, _⟩ := hu1
      obtain ⟨a1, l1, c1, rfl⟩ := own_slice hvr
      obtain ⟨a2, l2, c2, rfl⟩ := own_slice hu2
      have m0 := cell_of_block hh 0 _ rfl
      have m1 := cell_of_block hh 1 _ rfl
      have m2 := cell_of_block hh 2 _ rfl
      have m3 := cell_of_block hh 3 _ rfl
      have m4 := cell_of_block hh 4 _ rfl
      have m5 := cell_of_block hh 5 _ rfl
      have m6 := cell_of_block hh 6 _ rfl
      have n0 := cell_of_block hQ 0 _ rfl
      have n1 := cell_of_block hQ 1 _ rfl
      have n2 := cell_of_block hQ 2 _ rfl
      have n3 := cell_of_block hQ 3 _ rfl
      have n4 := cell_of_block hQ 4 _ rfl
      have n5 := cell_of_block hQ 5 _ rfl
      have n6 := cell_of_block hQ 6 _ rfl
      have fr := free_of_block hQ
      have HU2 := Lib.hid hu2
      have HB := Lib.hid hB
      have HQ := Lib.hid hQ
      clear hh hvr hu2 hB hQ
      go_wp2
      obtain ⟨zf, hbf⟩ := set7 _ w.heap.size _ _ (.int .i64 (1 + n % 10)) (.int .i64 (qd n 11 % 5)) (.int .i64 (qd (qd n 11) 5 % 5)) (.int .i64 (1 + qd (qd n 11) 25 % 9)) (.slice a1 l1 c1) (.slice a2 l2 c2) (.bool (qd (qd n 11) 225 % 2 == 0)) HQ.out rfl
      generalize hwf : World.setCell _ _ _ = wf at zf hbf ⊢
      clear hwf m0 m1 m2 m3 m4 m5 m6 n0 n1 n2 n3 n4 n5 n6 fr
      have f0 := cell_of_block zf 0 _ rfl
      have f1 := cell_of_block zf 1 _ rfl
      have f2 := cell_of_block zf 2 _ rfl
      have f3 := cell_of_block zf 3 _ rfl
      have f4 := cell_of_block zf 4 _ rfl
      have f5 := cell_of_block zf 5 _ rfl
      have f6 := cell_of_block zf 6 _ rfl
      have hst := hbf.still (T := Parts) HQ.out (by unfold Parts; decide)
      exact bodyPost_ret (v := .agg #[.int .i64 (1 + n % 10), .int .i64 (qd n 11 % 5), .int .i64 (qd (qd n 11) 5 % 5), .int .i64 (1 + qd (qd n 11) 25 % 9), .slice a1 l1 c1, .slice a2 l2 c2, .bool (qd (qd n 11) 225 % 2 == 0)]) (by simp [results, Tryd.results11, go_sem, f0, f1, f2, f3, f4, f5, f6]) rfl
        ⟨_, rfl, ⟨_, _, rfl, HU1.out.still hst, HU2.out.still hst⟩, Below.but HB.out hbf (Nat.le_refl _) HB.out.size⟩
end Go.Proofs.YtpkkjonajimefaaDoor
