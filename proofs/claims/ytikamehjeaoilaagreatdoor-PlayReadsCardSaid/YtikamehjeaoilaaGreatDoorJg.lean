/- An event with two parts. -/
import Derived.Test.YtikamehjeaoilaaGreatDoorJf
set_option linter.unusedVariables false
set_option linter.unusedSimpArgs false
namespace Go.Proofs.YtikamehjeaoilaaGreatDoor
open Go.RowKit

theorem splitC_lens {c : UInt8} {s : List UInt8} {N : Nat} (hs : s.length ≤ N) : ∀ l ∈ splitC c s, l.length ≤ N := by
  have h : ∀ l : List UInt8, ∀ y ∈ splitC c l, y.length ≤ l.length := by
    intro l
    induction l with
    | nil => intro y hy; simp [splitC] at hy; subst hy; exact Nat.le_refl _
    | cons z t ih =>
      intro y hy
      rw [splitC] at hy
      split at hy
      · rcases List.mem_cons.1 hy with rfl | hy
        · simp
        · have := ih y hy; simp; omega
      · match hsp : splitC c t with
        | [] => exact absurd hsp (splitC_ne c t)
        | a :: r =>
          rw [hsp] at hy ih
          simp only at hy
          rcases List.mem_cons.1 hy with rfl | hy
          · have := ih a (List.mem_cons_self ..); simp; omega
          · have := ih y (List.mem_cons_of_mem _ hy); simp; omega
  exact fun l hl => Nat.le_trans (h s l hl) hs
/-- Whatever holds cells stands. -/
def Kc (w w' : World) : Prop := ∀ (b : Nat) (cs : Array Value) (T : TypeId), w.heap[b]? = some (.cells cs T (0, 0)) → w'.heap[b]? = some (.cells cs T (0, 0))
theorem own_kc {w w' : World} {base n size : Nat} {e : TypeId} {v : Value} {xs : List Value} (h : w.ownsRow base e size v n xs) (k : Kc w w') : w'.ownsRow base e size v n xs :=
  own_same h fun g ds hg _ => (k g ds e hg).trans hg.symm
theorem Tak.kc {w w' : World} {t g j : Nat} {ls : List (List UInt8)} {no : Bool} (h : Tak w t g ls j no) (k : Kc w w') : Tak w' t g ls j no := by
  obtain ⟨⟨c, a, h1, h2⟩, h3, h4⟩ := h
  exact ⟨⟨c, a, k _ _ _ h1, h2⟩, k _ _ _ h3, h4⟩
theorem PodsT.kc {base : Nat} {w w' : World} {v : Value} {l : List PodL} (h : PodsT base w v l) (k : Kc w w') : PodsT base w' v l := by
  obtain ⟨c, h1, h2⟩ := h
  exact ⟨c, own_kc h1 k, fun i hi => (h2 i hi).kept fun b cs hb => k b cs _ hb⟩
theorem EvAt.kc {base : Nat} {w w' : World} {ev n : Nat} {s : EvS} (h : EvAt base w ev n s) (k : Kc w w') : EvAt base w' ev n s := by
  obtain ⟨vp, u, x, h1, h2, h3, h4⟩ := h
  exact ⟨vp, u, x, k _ _ _ h1, h2.kc k, own_kc h3 k, own_kc h4 k⟩
theorem Kc.iterAt {w : World} {it : Nat} {s : ByteArray} {p : Nat} (h : w.heap[it]? = some (.stringIter s p)) (q : Nat) : Kc w (w.iterAt it s q) := fun b cs T hb => by
  rw [Lib.iterAt_other w it b s q fun e => by subst e; rw [h] at hb; cases hb]
  exact hb
/-- What an event's value holds. -/
def EvR (base : Nat) (w : World) (v : Value) (k : Nat) (s : EvS) : Prop :=
  ∃ (vp u x : Value), v = .agg #[.int .i64 k, .int .i64 s.a, .int .i64 s.b, .int .i64 s.id, vp, .string (str s.node.name), .int .i64 s.node.cpu, .int .i64 s.node.mem, u, x, .bool s.node.closed] ∧
    PodsT base w vp s.pods ∧ Strs base w u (s.node.marks.map str) ∧ Strs base w x (s.node.taints.map str)
theorem EvR.below {base : Nat} {w w' : World} {v : Value} {k : Nat} {s : EvS} (h : EvR base w v k s) (hb : Below w.heap.size w w') : EvR base w' v k s := by
  obtain ⟨vp, u, x, h1, h2, h3, h4⟩ := h
  exact ⟨vp, u, x, h1, h2.below hb, own_below h3 hb, own_below h4 hb⟩
def zeroEv : Value := .agg #[.int .i64 0, .int .i64 0, .int .i64 0, .int .i64 0, .slice none 0 0, .string ⟨#[]⟩, .int .i64 0, .int .i64 0, .slice none 0 0, .slice none 0 0, .bool false]
theorem dec_two (cb : UInt8) (h : cb.toNat < 128) : Utf8.decode ⟨#[97, cb]⟩ 0 = (97, 1) ∧ Utf8.decode ⟨#[97, cb]⟩ 1 = (cb.toNat, 1) :=
  ⟨decode_ascii _ 0 (by show 0 < 2; decide) (by show (97 : UInt8).toNat < 128; decide), decode_ascii _ 1 (by show 1 < 2; decide) h⟩
def two1 (ws : List (List UInt8)) : Nat := partJ 97 ws 1
def twoOk (c : Int) (ws : List (List UInt8)) : Bool := partOk 97 ws 1 && partOk c ws (two1 ws) && decide (ws.length ≤ partJ c ws (two1 ws))
def twoE (k : Nat) (c : Int) (ws : List (List UInt8)) : EvS := partE k c ws (two1 ws) (partE k 97 ws 1 evS0)
def EventPost (k : Nat) (ok : Bool) (s : EvS) (w : World) (e : Ending) (w' : World) : Prop :=
  ∃ v, e = .returned (.tuple #[v, .int .i64 (if ok = true then 0 else 8)]) ∧ (ok = true → EvR w.heap.size w' v k s) ∧ (ok = false → v = zeroEv) ∧ Below w.heap.size w w'
set_option maxHeartbeats 8000000 in
set_option maxRecDepth 1000000 in
theorem event_two (s : List UInt8) (hs : s.length ≤ 4294967000) (cb : UInt8) (k0 : Nat) (hk : kindOf ((splitC 32 s).getD 0 []) = k0) (hkc : k0 = 1 ∧ cb = 112 ∨ k0 = 4 ∧ cb = 110 ∨ k0 = 5 ∧ cb = 109 ∨ k0 = 10 ∧ cb = 98) (w : World) (ht : Tabs w) :
    Calls Tryz.prog 8 #[.string (str s)] w (EventPost k0 (twoOk cb.toNat (splitC 32 s)) (twoE k0 cb.toNat (splitC 32 s)) w) := by
  have HT := Lib.hid ht
  clear ht
  obtain ⟨z, hz⟩ : ∃ z, str s = z := ⟨_, rfl⟩
  have HZ := Lib.hid hz
  rw [hz]
  clear hz
  go_enter Tryz.func8, Tryz.ntmps8
  go_wp2_with fail
  rw [← HZ.out]
  have hb0 : Below w.heap.size w (w.alloc (.cells (Value.int .i64 0 :: zeros10).toArray 33)) := below_alloc' (Below.refl _ _) _
  have hr0 : (w.alloc (.cells (Value.int .i64 0 :: zeros10).toArray 33)).heap[w.heap.size]? = some (.cells (Value.int .i64 0 :: zeros10).toArray 33 (0, 0)) := alloc_at _ _
  generalize hw0 : World.alloc w _ = w0
  rw [show w.alloc (.cells (Value.int .i64 0 :: zeros10).toArray 33) = w0 from hw0] at hb0 hr0
  clear hw0
  refine (split_any s 32 w0 (HT.out.below hb0) (by omega)).mono ?_
  rintro e w1 ⟨rfl, hbk, hb1⟩
  have hfw := splitC_few (c := 32) (s := s) (by omega)
  have hne := splitC_ne 32 s
  obtain ⟨ws, hws⟩ : ∃ ws, splitC 32 s = ws := ⟨_, rfl⟩
  rw [hws] at hbk hfw hne hk
  have hno32 := splitC_no 32 s
  have hlen32 : ∀ l ∈ splitC 32 s, l.length ≤ 4294967000 := splitC_lens hs
  rw [hws] at hno32 hlen32
  have H32 := Lib.hid hno32
  have HLW := Lib.hid hlen32
  clear hno32 hlen32
  rw [hws]
  have HWS := Lib.hid hws
  have hr1 := block_below hr0 hb1
  have hB1 := below_call hb0 hb1
  have hT1 : Tabs w1 := (HT.out.below hb0).below hb1
  have HS := Lib.hid hB1
  clear hws hr0 hb0 hb1
  obtain ⟨n0, hn0⟩ : ∃ n, ws.length = n := ⟨_, rfl⟩
  have hn1 : 1 ≤ n0 := by
    rcases Nat.eq_zero_or_pos n0 with h | h
    · rw [h] at hn0; exact absurd (List.length_eq_zero_iff.1 hn0) hne
    · exact h
  rw [hn0]
  go_wp2_with fail
  have hb2 : Below w1.heap.size w1 (w1.alloc (.cells #[.slice (some ⟨w0.heap.size, 0, none⟩) n0 n0, .bool false] 59)) := below_alloc' (Below.refl _ _) _
  have ht2 : Tak (w1.alloc (.cells #[.slice (some ⟨w0.heap.size, 0, none⟩) n0 n0, .bool false] 59)) w1.heap.size w0.heap.size ws 0 false :=
    ⟨⟨n0, ⟨w0.heap.size, 0, none⟩, by rw [Nat.sub_zero, hn0]; exact alloc_at _ _, by omega, fun _ => rfl⟩, hbk.below hb2, Nat.zero_le _⟩
  have hr2 := block_below hr1 hb2
  have hB2 := below_call hB1 hb2
  have hT2 := hT1.below hb2
  have hg2 : w.heap.size ≤ w1.heap.size := hB1.size
  generalize World.alloc w1 _ = w2 at hb2 ht2 hr2 hB2 hT2 ⊢
  clear hb2 hr1 hB1 hT1 hbk HS
  refine (take_some w2 w1.heap.size w0.heap.size 0 ws false ht2 (by omega) (by have := hfw.1; omega)).mono ?_
  rintro e w3 ⟨rfl, ht3, hg3⟩
  have hrne : w.heap.size ≠ w1.heap.size := fun e => by
    obtain ⟨⟨c0, a0, h1, _⟩, _⟩ := ht2
    rw [← e, hr2] at h1
    injection h1 with h1
    injection h1 with _ h1
    exact absurd h1 (by decide)
  have hr3 := Gb.block' hg3 hr2 hrne
  have hB3 := Gb.below hB2 hg3 hg2 hB2.size
  clear hg3 hr2 hB2 ht2 hT2
  go_wp2_with fail
  refine (pkind_any ws[0] w3 (HT.out.below hB3)).mono ?_
  rintro e w4 ⟨rfl, hb4⟩
  have hw0 : ws.getD 0 [] = ws[0] := by rw [List.getD_eq_getElem?_getD, List.getElem?_eq_getElem (by omega)]; rfl
  have hr4 := block_below hr3 hb4
  have hB4 := below_call hB3 hb4
  have ht4 := ht3.below hb4
  have hkk : kindOf ws[0] = k0 := by rw [← hw0]; exact hk
  rw [hkk]
  have HW := Lib.hid (hw0 : ws.getD 0 [] = ws[0])
  have HKC := Lib.hid hkc
  clear hw0 hkk hr3 hB3 ht3 hb4 hk hkc
  go_wp2_with fail
  have hsh : shapeOf k0 = ⟨#[97, cb]⟩ := by rcases HKC.out with ⟨rfl, rfl⟩ | ⟨rfl, rfl⟩ | ⟨rfl, rfl⟩ | ⟨rfl, rfl⟩ <;> rfl
  have hcb : cb.toNat < 128 := by rcases HKC.out with ⟨_, rfl⟩ | ⟨_, rfl⟩ | ⟨_, rfl⟩ | ⟨_, rfl⟩ <;> decide
  have hck : (cb.toNat : Int) = 97 ∨ (cb.toNat : Int) = 98 ∧ k0 ≠ 1 ∨ (cb.toNat : Int) = 112 ∧ k0 = 1 ∨ (cb.toNat : Int) = 110 ∧ k0 ≠ 1 ∨ (cb.toNat : Int) = 109 ∧ k0 ≠ 1 := by
    rcases HKC.out with ⟨rfl, rfl⟩ | ⟨rfl, rfl⟩ | ⟨rfl, rfl⟩ | ⟨rfl, rfl⟩
    · exact .inr (.inr (.inl ⟨rfl, rfl⟩))
    · exact .inr (.inr (.inr (.inl ⟨rfl, by decide⟩)))
    · exact .inr (.inr (.inr (.inr ⟨rfl, by decide⟩)))
    · exact .inr (.inl ⟨rfl, by decide⟩)
  have hkp : 1 ≤ k0 := by rcases HKC.out with ⟨rfl, _⟩ | ⟨rfl, _⟩ | ⟨rfl, _⟩ | ⟨rfl, _⟩ <;> decide
  have HCK := Lib.hid hck
  have HKP := Lib.hid hkp
  clear hck hkp
  have hb5 : Below w4.heap.size w4 (w4.alloc (.cells #[.int .i64 k0, .int .i64 0, .int .i64 0, .int .i64 0, .slice none 0 0, .string ⟨#[]⟩, .int .i64 0, .int .i64 0, .slice none 0 0, .slice none 0 0, .bool false] 33)) := below_alloc' (Below.refl _ _) _
  have hE5 : EvAt w.heap.size (w4.alloc (.cells #[.int .i64 k0, .int .i64 0, .int .i64 0, .int .i64 0, .slice none 0 0, .string ⟨#[]⟩, .int .i64 0, .int .i64 0, .slice none 0 0, .slice none 0 0, .bool false] 33)) w4.heap.size k0 evS0 :=
    ⟨.slice none 0 0, .slice none 0 0, .slice none 0 0, alloc_at _ _, PodsT.nil _ _, World.ownsRow_nil _ _ _ _, World.ownsRow_nil _ _ _ _⟩
  have hr5 := block_below hr4 hb5
  have hB5 := below_call hB4 hb5
  have ht5 := ht4.below hb5
  have hg4 : w.heap.size ≤ w4.heap.size := hB4.size
  go_wp2_with fail
  have hk5 : (w4.alloc (.cells #[.int .i64 k0, .int .i64 0, .int .i64 0, .int .i64 0, .slice none 0 0, .string ⟨#[]⟩, .int .i64 0, .int .i64 0, .slice none 0 0, .slice none 0 0, .bool false] 33)).cell? ⟨w4.heap.size, 0, none⟩ = some (.int .i64 k0) := cell_of_block (alloc_at _ _) 0 _ rfl
  generalize World.alloc w4 _ = w5 at hb5 hE5 hr5 hB5 ht5 hk5 ⊢
  have hrlt4 : w.heap.size < w4.heap.size := (Array.getElem?_eq_some_iff.1 hr4).1
  clear hb5 hr4 hB4 ht4
  refine (shape_any k0 w5).mono ?_
  rintro e w5' ⟨rfl, rfl⟩
  rw [hsh]
  go_wp2_with fail
  refine wp_loop_rounds 3 ?_
  rw [rounds_succ]
  have hnx : ∀ ty, (Instr.next (.pointer (some ⟨w5'.heap.size, 0, none⟩)) true ty).run Tryz.prog (w5'.iter ⟨#[97, cb]⟩ 0) = .ok (.tuple #[.bool true, .int .i64 (0 : Nat), .int .i32 (97 : Nat)]) (w5'.iter ⟨#[97, cb]⟩ 1) := fun ty => by
    rw [run_next_any w5' ⟨#[97, cb]⟩ 0 ty (by show 0 < 2; decide), (dec_two cb hcb).1]; rfl
  go_wp2_with fail
  have hb6 : Below w5'.heap.size w5' (w5'.iter ⟨#[97, cb]⟩ 1) := below_alloc' (Below.refl _ _) _
  have hi6 : (w5'.iter ⟨#[97, cb]⟩ 1).heap[w5'.heap.size]? = some (.stringIter ⟨#[97, cb]⟩ 1) := World.iter_heap _ _ _
  have htlt : w1.heap.size < w5'.heap.size := by
    obtain ⟨⟨c0, a0, h1, _⟩, _⟩ := ht5
    exact (Array.getElem?_eq_some_iff.1 h1).1
  have hevlt := hE5.lt
  generalize w5'.iter ⟨#[97, cb]⟩ 1 = w6 at hb6 hi6 ⊢
  have hB6 := below_call hB5 hb6
  have hr6 := block_below hr5 hb6
  have hsz6 : w5'.heap.size < w6.heap.size := (Array.getElem?_eq_some_iff.1 hi6).1
  refine (part_any w.heap.size w w6 w1.heap.size w4.heap.size w0.heap.size 1 k0 97 ws false evS0 (.inl rfl) HT.out hB6 hg2 hB6.size (ht5.below hb6) hfw HLW.out H32.out (hE5.below hb6)).mono ?_
  rintro e w7 ⟨s1, rfl, ht7, hE7, hs1, g7⟩
  have hi7 : w7.heap[w5'.heap.size]? = some (.stringIter ⟨#[97, cb]⟩ 1) := (g7.block _ hsz6 (by omega) (by omega)).trans hi6
  have hr7 : w7.heap[w.heap.size]? = some (.cells #[.int .i64 0, .int .i64 0, .int .i64 0, .int .i64 0, .slice none 0 0, .string ⟨#[]⟩, .int .i64 0, .int .i64 0, .slice none 0 0, .slice none 0 0, .bool false] 33 (0, 0)) := (g7.block _ (by omega) hrne (by omega)).trans hr6
  have hB7 := Gb2.below hB6 g7 hg2 hg4 hB6.size
  have hK8 := Kc.iterAt hi7 2
  have hi8 := Lib.iterAt_heap w7 w5'.heap.size ⟨#[97, cb]⟩ 1 2 hi7
  have hB8 := Lib.below_iterAt hB7 (show w.heap.size ≤ w5'.heap.size by omega) ⟨#[97, cb]⟩ 2
  have hnx2 : ∀ ty, (Instr.next (.pointer (some ⟨w5'.heap.size, 0, none⟩)) true ty).run Tryz.prog w7 = .ok (.tuple #[.bool true, .int .i64 (1 : Nat), .int .i32 (cb.toNat : Nat)]) (w7.iterAt w5'.heap.size ⟨#[97, cb]⟩ 2) := fun ty => by
    rw [Lib.run_next_any_at w7 _ _ 1 ty hi7 (by show 1 < 2; decide), (dec_two cb hcb).2]; rfl
  have ht8 := ht7.kc hK8
  have hE8 := hE7.kc hK8
  have hr8 := hK8 _ _ _ hr7
  clear hnx hb6 hi6 hi7 hr7 hr6 hB6 hB7 hK8 g7 ht7 hE7 hE5 ht5 hB5 hr5 hsh hk5
  go_wp2_with fail
  rw [rounds_succ]
  go_wp2_with fail
  generalize w7.iterAt w5'.heap.size ⟨#[97, cb]⟩ 2 = w8 at hi8 hB8 ht8 hE8 hr8 ⊢
  have hsz8 : w5'.heap.size < w8.heap.size := (Array.getElem?_eq_some_iff.1 hi8).1
  refine (part_any w.heap.size w w8 w1.heap.size w4.heap.size w0.heap.size (partJ 97 ws 1) k0 cb.toNat ws (false || !partOk 97 ws 1) s1 HCK.out HT.out hB8 hg2 hB8.size ht8 hfw HLW.out H32.out hE8).mono ?_
  rintro e w9 ⟨s2, rfl, ht9, hE9, hs2, g9⟩
  have hi9 : w9.heap[w5'.heap.size]? = some (.stringIter ⟨#[97, cb]⟩ 2) := (g9.block _ hsz8 (by omega) (by omega)).trans hi8
  have hr9 : w9.heap[w.heap.size]? = some (.cells #[.int .i64 0, .int .i64 0, .int .i64 0, .int .i64 0, .slice none 0 0, .string ⟨#[]⟩, .int .i64 0, .int .i64 0, .slice none 0 0, .slice none 0 0, .bool false] 33 (0, 0)) := (g9.block _ (by omega) hrne (by omega)).trans hr8
  have hB9 := Gb2.below hB8 g9 hg2 hg4 hB8.size
  have hnx3 : ∀ ty, (Instr.next (.pointer (some ⟨w5'.heap.size, 0, none⟩)) true ty).run Tryz.prog w9 = _ := fun ty => Lib.run_next_end_at w9 w5'.heap.size ⟨#[97, cb]⟩ 2 ty hi9 (by show ¬ 2 < 2; decide)
  obtain ⟨nb, hnb⟩ : ∃ nb, ((false || !partOk 97 ws 1) || !partOk cb.toNat ws (partJ 97 ws 1)) = nb := ⟨_, rfl⟩
  rw [hnb] at ht9
  obtain ⟨⟨c9, a9, h9, hc9, -⟩, -, hj9⟩ := ht9
  obtain ⟨lf, hlf⟩ : ∃ lf, ws.length - partJ cb.toNat ws (partJ 97 ws 1) = lf := ⟨_, rfl⟩
  rw [hlf] at h9 hc9
  have hno := cell_of_block h9 1 _ rfl
  have hfn := free_of_block h9 1
  have hl := cell_of_block h9 0 _ rfl
  obtain ⟨vp, u, x, hv9, hp9, hu9, hx9⟩ := hE9
  obtain ⟨cp9, hcp9, -⟩ := id hp9
  obtain ⟨avp, lvp, cvp, rfl⟩ := own_slice hcp9
  obtain ⟨au, lu, cu, rfl⟩ := own_slice hu9
  obtain ⟨ax, lx, cx, rfl⟩ := own_slice hx9
  obtain ⟨zn, hzn⟩ : ∃ z, str s2.node.name = z := ⟨_, rfl⟩
  obtain ⟨fl, hfl⟩ : ∃ z, s2.node.closed = z := ⟨_, rfl⟩
  rw [hzn, hfl] at hv9
  have hok : twoOk cb.toNat ws = (!nb && decide (lf = 0)) := by
    unfold twoOk two1
    rw [← hnb]
    have : decide (ws.length ≤ partJ cb.toNat ws (partJ 97 ws 1)) = decide (lf = 0) := decide_eq_decide.2 (by omega)
    rw [this]
    cases partOk 97 ws 1 <;> cases partOk (cb.toNat : Int) ws (partJ 97 ws 1) <;> rfl
  have hst : nb = false → s2 = twoE k0 cb.toNat ws := fun h => by
    rw [h] at hnb
    have o1 : partOk 97 ws 1 = true := by
      cases ho : partOk 97 ws 1 with
      | true => rfl
      | false => rw [ho] at hnb; simp at hnb
    have o2 : partOk cb.toNat ws (partJ 97 ws 1) = true := by
      cases ho : partOk cb.toNat ws (partJ 97 ws 1) with
      | true => rfl
      | false => rw [ho] at hnb; simp at hnb
    rw [hs2 o2, hs1 o1]
    rfl
  have HOK := Lib.hid hok
  have HST := Lib.hid hst
  have HP9 := Lib.hid hp9
  have HU9 := Lib.hid hu9
  have HX9 := Lib.hid hx9
  have HV9 := Lib.hid hv9
  have HR9 := Lib.hid hr9
  have HB9 := Lib.hid hB9
  have HZN := Lib.hid hzn
  have HFL := Lib.hid hfl
  have hfr := fun j => free_of_block hr9 j
  have r0 := cell_of_block hr9 0 _ rfl
  have d0 := cell_of_block hv9 0 _ rfl
  have r1 := cell_of_block hr9 1 _ rfl
  have d1 := cell_of_block hv9 1 _ rfl
  have r2 := cell_of_block hr9 2 _ rfl
  have d2 := cell_of_block hv9 2 _ rfl
  have r3 := cell_of_block hr9 3 _ rfl
  have d3 := cell_of_block hv9 3 _ rfl
  have r4 := cell_of_block hr9 4 _ rfl
  have d4 := cell_of_block hv9 4 _ rfl
  have r5 := cell_of_block hr9 5 _ rfl
  have d5 := cell_of_block hv9 5 _ rfl
  have r6 := cell_of_block hr9 6 _ rfl
  have d6 := cell_of_block hv9 6 _ rfl
  have r7 := cell_of_block hr9 7 _ rfl
  have d7 := cell_of_block hv9 7 _ rfl
  have r8 := cell_of_block hr9 8 _ rfl
  have d8 := cell_of_block hv9 8 _ rfl
  have r9 := cell_of_block hr9 9 _ rfl
  have d9 := cell_of_block hv9 9 _ rfl
  have r10 := cell_of_block hr9 10 _ rfl
  have d10 := cell_of_block hv9 10 _ rfl
  clear hnx2 hi8 hB8 ht8 hE8 hr8 g9 hi9 hB9 hcp9 hp9 hu9 hx9 hv9 hr9 hzn hfl hok hst hs1 hs2 hnb h9
  have bk : ((k0 : Int) == 0) = false := beq_eq_false_iff_ne.2 (by have := HKP.out; omega)
  go_wp2_with fail
  rw [rounds_succ]
  by_cases hgood : nb = false ∧ lf = 0
  · obtain ⟨rfl, rfl⟩ := hgood
    go_wp2
    have fb := sets11 (.int .i64 k0) (.int .i64 s2.a) (.int .i64 s2.b) (.int .i64 s2.id) (.slice avp lvp cvp) (.string zn) (.int .i64 s2.node.cpu) (.int .i64 s2.node.mem) (.slice au lu cu) (.slice ax lx cx) (.bool fl) HR9.out
    have gb := below_sets (b := w.heap.size) (Nat.le_refl _) [.int .i64 k0, .int .i64 s2.a, .int .i64 s2.b, .int .i64 s2.id, .slice avp lvp cvp, .string zn, .int .i64 s2.node.cpu, .int .i64 s2.node.mem, .slice au lu cu, .slice ax lx cx, .bool fl] 0 w9 HB9.out
    have p1 := HP9.out.ev HR9.out (Gb.sets w.heap.size [.int .i64 k0, .int .i64 s2.a, .int .i64 s2.b, .int .i64 s2.id, .slice avp lvp cvp, .string zn, .int .i64 s2.node.cpu, .int .i64 s2.node.mem, .slice au lu cu, .slice ax lx cx, .bool fl] 0 w9)
    have p2 := own_gbx HU9.out HR9.out (by decide) (Gb.sets w.heap.size [.int .i64 k0, .int .i64 s2.a, .int .i64 s2.b, .int .i64 s2.id, .slice avp lvp cvp, .string zn, .int .i64 s2.node.cpu, .int .i64 s2.node.mem, .slice au lu cu, .slice ax lx cx, .bool fl] 0 w9)
    have p3 := own_gbx HX9.out HR9.out (by decide) (Gb.sets w.heap.size [.int .i64 k0, .int .i64 s2.a, .int .i64 s2.b, .int .i64 s2.id, .slice avp lvp cvp, .string zn, .int .i64 s2.node.cpu, .int .i64 s2.node.mem, .slice au lu cu, .slice ax lx cx, .bool fl] 0 w9)
    obtain ⟨W2, hW2⟩ : ∃ W2, w9.setCells w.heap.size 0 [.int .i64 k0, .int .i64 s2.a, .int .i64 s2.b, .int .i64 s2.id, .slice avp lvp cvp, .string zn, .int .i64 s2.node.cpu, .int .i64 s2.node.mem, .slice au lu cu, .slice ax lx cx, .bool fl] = W2 := ⟨_, rfl⟩
    rw [hW2] at fb gb p1 p2 p3
    refine bp_at hW2 ?_
    clear hW2
    have kk0 := cell_of_block fb 0 _ rfl
    have kk1 := cell_of_block fb 1 _ rfl
    have kk2 := cell_of_block fb 2 _ rfl
    have kk3 := cell_of_block fb 3 _ rfl
    have kk4 := cell_of_block fb 4 _ rfl
    have kk5 := cell_of_block fb 5 _ rfl
    have kk6 := cell_of_block fb 6 _ rfl
    have kk7 := cell_of_block fb 7 _ rfl
    have kk8 := cell_of_block fb 8 _ rfl
    have kk9 := cell_of_block fb 9 _ rfl
    have kk10 := cell_of_block fb 10 _ rfl
    refine bodyPost_ret (v := .tuple #[.agg #[.int .i64 k0, .int .i64 s2.a, .int .i64 s2.b, .int .i64 s2.id, .slice avp lvp cvp, .string zn, .int .i64 s2.node.cpu, .int .i64 s2.node.mem, .slice au lu cu, .slice ax lx cx, .bool fl], .int .i64 0]) (by simp [results, Tryz.results8, go_sem, kk0, kk1, kk2, kk3, kk4, kk5, kk6, kk7, kk8, kk9, kk10]) rfl ?_
    have hokt : twoOk cb.toNat ws = true := by rw [HOK.out]; rfl
    have hse := HST.out trivial
    rw [HWS.out]
    refine ⟨_, by rw [hokt]; rfl, fun _ => ?_, fun h => (by rw [hokt] at h; cases h), gb⟩
    rw [← hse]
    exact ⟨_, _, _, by rw [HZN.out, HFL.out], p1, p2, p3⟩
  · have hbad : nb = true ∨ nb = false ∧ (0 : Int) < lf := by
      cases nb
      · have : ¬ lf = 0 := fun e => hgood ⟨rfl, e⟩
        exact .inr ⟨rfl, by omega⟩
      · exact .inl rfl
    have hokf : twoOk cb.toNat ws = false := by
      rw [HOK.out]
      cases nb
      · have : ¬ lf = 0 := fun e => hgood ⟨rfl, e⟩
        simp [this]
      · rfl
    have HOKF := Lib.hid hokf
    clear hgood hokf
    rcases hbad with rfl | ⟨rfl, hlf0⟩
    all_goals
      go_wp2
      have fb := sets11 (.int .i64 0) (.int .i64 0) (.int .i64 0) (.int .i64 0) (.slice none 0 0) (.string ⟨#[]⟩) (.int .i64 0) (.int .i64 0) (.slice none 0 0) (.slice none 0 0) (.bool false) HR9.out
      have gb := below_sets (b := w.heap.size) (Nat.le_refl _) [.int .i64 0, .int .i64 0, .int .i64 0, .int .i64 0, .slice none 0 0, .string ⟨#[]⟩, .int .i64 0, .int .i64 0, .slice none 0 0, .slice none 0 0, .bool false] 0 w9 HB9.out
      obtain ⟨W2, hW2⟩ : ∃ W2, w9.setCells w.heap.size 0 [.int .i64 0, .int .i64 0, .int .i64 0, .int .i64 0, .slice none 0 0, .string ⟨#[]⟩, .int .i64 0, .int .i64 0, .slice none 0 0, .slice none 0 0, .bool false] = W2 := ⟨_, rfl⟩
      rw [hW2] at fb gb
      refine bp_at hW2 ?_
      clear hW2
      have kk0 := cell_of_block fb 0 _ rfl
      have kk1 := cell_of_block fb 1 _ rfl
      have kk2 := cell_of_block fb 2 _ rfl
      have kk3 := cell_of_block fb 3 _ rfl
      have kk4 := cell_of_block fb 4 _ rfl
      have kk5 := cell_of_block fb 5 _ rfl
      have kk6 := cell_of_block fb 6 _ rfl
      have kk7 := cell_of_block fb 7 _ rfl
      have kk8 := cell_of_block fb 8 _ rfl
      have kk9 := cell_of_block fb 9 _ rfl
      have kk10 := cell_of_block fb 10 _ rfl
      refine bodyPost_ret (v := .tuple #[.agg #[.int .i64 0, .int .i64 0, .int .i64 0, .int .i64 0, .slice none 0 0, .string ⟨#[]⟩, .int .i64 0, .int .i64 0, .slice none 0 0, .slice none 0 0, .bool false], .int .i64 8]) (by simp [results, Tryz.results8, go_sem, kk0, kk1, kk2, kk3, kk4, kk5, kk6, kk7, kk8, kk9, kk10]) rfl ?_
      rw [HWS.out]
      exact ⟨_, by rw [HOKF.out]; rfl, fun h => (by rw [HOKF.out] at h; cases h), fun _ => rfl, gb⟩
end Go.Proofs.YtikamehjeaoilaaGreatDoor
