/- The keys of a map, sorted, by the library. -/
import Derived.Test.YtofofjfmhaggmaaGreatDoorVg
import Derived.Test.YtofofjfmhaggmaaGreatDoorPy
import Derived.StringKeys
import Derived.Test.YtofofjfmhaggmaaGreatDoorVi
set_option linter.unusedVariables false
set_option linter.unusedSimpArgs false
namespace Go.Proofs.YtofofjfmhaggmaaGreatDoor
open Go.RowKit Go.Maps Go.Sort Go.Shelf
open MapKept

def anyR : Value → Option (DataW Unit × List MemPlace) := fun _ => some (.lit (.bool true), [])
def strW0 : Value → List UInt8
  | .string s => s.data.toList
  | _ => []
def intV : Value → Int
  | .int _ a => a
  | _ => 0
theorem keys_of {d : TypeDesc} {κ : Type} (c : Enc d κ) {E : Array MapEntry} {es : List (κ × Value)} (h : E.toList.map (fun e => (e.key, e.val)) = es.map (fun p => (c.f p.1, p.2))) : E.toList.map (·.key) = es.map (fun p => c.f p.1) := by
  have := congrArg (List.map Prod.fst) h
  simpa [Function.comp_def] using this
theorem key_in {d : TypeDesc} {κ : Type} (c : Enc d κ) {E : Array MapEntry} {es : List (κ × Value)} (h : E.toList.map (fun e => (e.key, e.val)) = es.map (fun p => (c.f p.1, p.2))) {e : MapEntry} (he : e ∈ E.toList) : ∃ p ∈ es, e.key = c.f p.1 := by
  have : e.key ∈ E.toList.map (·.key) := List.mem_map_of_mem he
  rw [keys_of c h] at this
  obtain ⟨p, hp, e1⟩ := List.mem_map.1 this
  exact ⟨p, hp, e1.symm⟩
theorem ownN {w : World} {b : Nat} {es : List (ByteArray × Value)} (h : MapIs encS w b es) (hl : es.length ≤ maxLen) (hk : ∀ p ∈ es, p.1.size ≤ maxLen) :
    ∃ D, w.ownsMap Tryz.prog 9 anyR b es.length D ∧ (strKeys D).Perm (es.map fun p => p.1.data.toList) ∧ Maps.size D = es.length := by
  obtain ⟨E, cl, hb, he, hs⟩ := h
  have hlen : E.size = es.length := by
    have := congrArg List.length he
    simpa using this
  have hrd : ∀ x ∈ E.toList, Go.WideElems.rd Tryz.prog 9 anyR x = some (.string (strW0 x.key), .lit (.bool true)) := fun x hx => by
    obtain ⟨p, hp, e⟩ := key_in encS he hx
    have := Go.WideMaps.keyOf_string_mk (P := Tryz.prog) Tryz.underlying9 (hk p hp)
    unfold Go.WideElems.rd anyR
    rw [e]
    show (keyOf Tryz.prog 9 (.string p.1)).bind _ = _
    rw [this]
    rfl
  refine ⟨_, ⟨E, cl, hb, ⟨by omega, hs, fun x hx => ⟨_, hrd x hx⟩⟩, Nat.le_of_eq hlen, rfl⟩, ?_, ?_⟩
  · show ((List.foldr DataW.insert [] (E.toList.map (Go.WideElems.rg Tryz.prog 9 anyR))).map fun p => Go.strOf p.1).Perm _
    refine ((Go.WideShapes.sorted_perm _).map _).trans ?_
    rw [List.map_map]
    have e1 : E.toList.map ((fun p => Go.strOf p.1) ∘ Go.WideElems.rg Tryz.prog 9 anyR) = (E.toList.map (·.key)).map strW0 := by
      rw [List.map_map]
      refine List.map_congr_left fun x hx => ?_
      simp only [Function.comp_apply, Go.WideElems.rg, hrd x hx, Option.getD_some]
      rfl
    rw [e1, keys_of encS he, List.map_map]
    exact .refl _
  · show (List.foldr DataW.insert [] (E.toList.map (Go.WideElems.rg Tryz.prog 9 anyR))).length = _
    rw [(Go.WideShapes.sorted_perm _).length_eq]
    simp [hlen]
theorem ownZ {w : World} {b : Nat} {es : List (Int × Value)} (h : MapIs encI w b es) (hl : es.length ≤ maxLen) (hk : ∀ p ∈ es, (Lit.int .i64 p.1).wf = true) :
    ∃ D, w.ownsMap Tryz.prog 3 anyR b es.length D ∧ (intKeys D).Perm (es.map Prod.fst) ∧ Maps.size D = es.length := by
  obtain ⟨E, cl, hb, he, hs⟩ := h
  have hlen : E.size = es.length := by
    have := congrArg List.length he
    simpa using this
  have hrd : ∀ x ∈ E.toList, Go.WideElems.rd Tryz.prog 3 anyR x = some (.int .i64 (intV x.key), .lit (.bool true)) := fun x hx => by
    obtain ⟨p, hp, e⟩ := key_in encI he hx
    have := keyOf_int_mk (P := Tryz.prog) Tryz.underlying3 (hk p hp)
    unfold Go.WideElems.rd anyR
    rw [e]
    show (keyOf Tryz.prog 3 (.int .i64 p.1)).bind _ = _
    rw [this]
    rfl
  refine ⟨_, ⟨E, cl, hb, ⟨by omega, hs, fun x hx => ⟨_, hrd x hx⟩⟩, Nat.le_of_eq hlen, rfl⟩, ?_, ?_⟩
  · show ((List.foldr DataW.insert [] (E.toList.map (Go.WideElems.rg Tryz.prog 3 anyR))).map fun p => Go.intOf p.1).Perm _
    refine ((Go.WideShapes.sorted_perm _).map _).trans ?_
    rw [List.map_map]
    have e1 : E.toList.map ((fun p => Go.intOf p.1) ∘ Go.WideElems.rg Tryz.prog 3 anyR) = (E.toList.map (·.key)).map intV := by
      rw [List.map_map]
      refine List.map_congr_left fun x hx => ?_
      simp only [Function.comp_apply, Go.WideElems.rg, hrd x hx, Option.getD_some]
      rfl
    rw [e1, keys_of encI he, List.map_map]
    exact .refl _
  · show (List.foldr DataW.insert [] (E.toList.map (Go.WideElems.rg Tryz.prog 3 anyR))).length = _
    rw [(Go.WideShapes.sorted_perm _).length_eq]
    simp [hlen]
theorem ownsMap_alloc {w : World} {P : Program} {k : TypeId} {R : Value → Option (DataW Unit × List MemPlace)} {b n : Nat} {D : DataW Unit} (h : w.ownsMap P k R b n D) (o : Obj) : (w.alloc o).ownsMap P k R b n D := by
  have hbl := h.lt
  obtain ⟨es, clock, hb, Ft, hs, hD⟩ := h
  exact ⟨es, clock, (Below.heap_alloc _ _ b hbl).trans hb, Ft, hs, hD⟩
theorem sortsN (m : Nat) : AnyZ.SortsIn Tryz.prog Tryz.sortedN_ren Fence.wide m :=
  ⟨fun blk off cap ss W hH hblk hsz => callsIn_wide.2 (AnyM.slices_Sort_string Tryz.sortN blk off cap ss W hH hblk hsz),
   fun p cap W => callsIn_wide.2 (AnyM.slices_Sort_string_none Tryz.sortN p cap W)⟩
theorem keysN_any (mb : Option Nat) (W : World) : Calls Tryz.prog 126 #[.map mb] W fun e w' => e = .returned (.func (.func 185) #[] #[.pointer (some ⟨W.heap.size, 0, none⟩)]) ∧ w' = W.alloc (.cells #[.map mb] 144) :=
  (callsIn_wide (n := 5)).1 (AnyZ.keys_in Tryz.keysN Fence.wide 5 trivial rfl mb W)
set_option maxHeartbeats 1000000 in
theorem sortedN_any (b : Nat) (w : World) (es : List (ByteArray × Value)) (h : MapIs encS w b es) (hl : es.length ≤ 1073741824) (hk : ∀ p ∈ es, p.1.size ≤ maxLen) :
    Calls Tryz.prog 125 #[.func (.func 185) #[] #[.pointer (some ⟨w.heap.size, 0, none⟩)]] (w.alloc (.cells #[.map (some b)] 144)) fun e w' => ∃ v, e = .returned v ∧ w'.ownsRow w.heap.size 9 1 v es.length ((isort leW (es.map fun p => p.1.data.toList)).map fun x => .string (str x)) ∧ Below w.heap.size w w' := by
  obtain ⟨D, hD, hp, hs⟩ := ownN h (by unfold maxLen; omega) hk
  have hseq : SeqGives Fence.wide 2 Tryz.prog 185 #[.pointer (some ⟨w.heap.size, 0, none⟩)] encStr (fun ss => ss.Perm (strKeys D)) (Maps.size D) (w.alloc (.cells #[.map (some b)] 144)) :=
    AnyZ.keys_gives (ρ := Tryz.keysN_ren) { Tryz.keysN with } Fence.wide _ trivial rfl (by omega) w.heap.size b es.length D _ (by simp) (by simp) (ownsMap_alloc hD _)
  have cS := AnyZ.sorted_in Tryz.sortedN Fence.wide 5 trivial trivial trivial trivial rfl (by omega) (sortsN _) (enters_of Tryz.func184 (by kernel_rfl) rfl) 185 #[.pointer (some ⟨w.heap.size, 0, none⟩)] trivial (enters_of Tryz.func185 (by kernel_rfl) rfl) _ _ (by rw [hs]; unfold maxLen; omega) (by rw [hs]; omega) _ hseq
  refine ((callsIn_wide (n := 5)).1 cS).mono ?_
  rintro e w' ⟨v, ss, rfl, hS, hrow, hnil, hb⟩
  have hpp : ss.Perm (es.map fun p => p.1.data.toList) := hS.trans hp
  have e1 : ss.mergeSort (fun x y => decide (x ≤ y)) = isort leW (es.map fun p => p.1.data.toList) := isort_merge leW_trans leW_total leW_anti hpp
  have e2 : ss.length = es.length := by rw [hpp.length_eq]; simp
  rw [e1, e2] at hrow
  refine ⟨v, rfl, own_base hrow (by simp), (below_alloc' (Below.refl _ _) _).trans (hb.mono (by simp))⟩
theorem sortsZ (m : Nat) : AnyZI.SortsIn Tryz.prog Tryz.sortedA_ren Fence.wide m :=
  ⟨fun blk off cap ss W hH hblk hsz => callsIn_wide.2 (AnyM.slices_Sort_int Tryz.sortA blk off cap ss W hH hblk hsz),
   fun p cap W => callsIn_wide.2 (AnyM.slices_Sort_int_none Tryz.sortA p cap W)⟩
theorem keysG_any (mb : Option Nat) (W : World) : Calls Tryz.prog 53 #[.map mb] W fun e w' => e = .returned (.func (.func 87) #[] #[.pointer (some ⟨W.heap.size, 0, none⟩)]) ∧ w' = W.alloc (.cells #[.map mb] 92) :=
  (callsIn_wide (n := 5)).1 (AnyZI.keys_in Tryz.keysG Fence.wide 5 trivial rfl mb W)
set_option maxHeartbeats 1000000 in
theorem sortedG_any (b : Nat) (w : World) (es : List (Int × Value)) (h : MapIs encI w b es) (hl : es.length ≤ 1073741824) (hk : ∀ p ∈ es, (Lit.int .i64 p.1).wf = true) :
    Calls Tryz.prog 52 #[.func (.func 87) #[] #[.pointer (some ⟨w.heap.size, 0, none⟩)]] (w.alloc (.cells #[.map (some b)] 92)) fun e w' => ∃ v, e = .returned v ∧ w'.ownsRow w.heap.size 3 1 v es.length ((isort leZ (es.map Prod.fst)).map (Value.int .i64)) ∧ Below w.heap.size w w' := by
  obtain ⟨D, hD, hp, hs⟩ := ownZ h (by unfold maxLen; omega) hk
  have hseq : SeqGives Fence.wide 2 Tryz.prog 87 #[.pointer (some ⟨w.heap.size, 0, none⟩)] encZ (fun ss => ss.Perm (intKeys D)) (Maps.size D) (w.alloc (.cells #[.map (some b)] 92)) :=
    AnyZI.keys_gives (ρ := Tryz.keysG_ren) { Tryz.keysG with } Fence.wide _ trivial rfl (by omega) w.heap.size b es.length D _ (by simp) (by simp) (ownsMap_alloc hD _)
  have cS := AnyZI.sorted_in Tryz.sortedA Fence.wide 5 trivial trivial trivial trivial rfl (by omega) (sortsZ _) (enters_of Tryz.func86 (by kernel_rfl) rfl) 87 #[.pointer (some ⟨w.heap.size, 0, none⟩)] trivial (enters_of Tryz.func87 (by kernel_rfl) rfl) _ _ (by rw [hs]; unfold maxLen; omega) (by rw [hs]; omega) _ hseq
  refine ((callsIn_wide (n := 5)).1 cS).mono ?_
  rintro e w' ⟨v, ss, rfl, hS, hrow, hnil, hb⟩
  have hpp : ss.Perm (es.map Prod.fst) := hS.trans hp
  have e1 : ss.mergeSort (fun x y => decide (x ≤ y)) = isort leZ (es.map Prod.fst) := isort_merge leZ_trans leZ_total leZ_anti hpp
  have e2 : ss.length = es.length := by rw [hpp.length_eq]; simp
  rw [e1, e2] at hrow
  refine ⟨v, rfl, own_base hrow (by simp), (below_alloc' (Below.refl _ _) _).trans (hb.mono (by simp))⟩
end Go.Proofs.YtofofjfmhaggmaaGreatDoor
/-! A ledger's nodes, by names, by the program. -/
set_option linter.unusedVariables false
set_option linter.unusedSimpArgs false
namespace Go.Proofs.YtofofjfmhaggmaaGreatDoor
open Go.RowKit

/-! ### Plain -/
theorem enc1_len (c : Nat) : (enc1 c).length ≤ 2 := by unfold enc1; split <;> simp
theorem short_go (l : List UInt8) : ∀ k pos, l.length ≤ pos + k → nameGo (str l) k pos = true → l.length ≤ pos + 2 * runesGo (str l) k pos
  | 0, pos, hk, _ => by omega
  | k + 1, pos, hk, h => by
    by_cases hp : pos < l.length
    · have hs : pos < (str l).size := by rw [str_size]; exact hp
      rw [nameGo_step _ _ _ hs, Bool.and_eq_true] at h
      rw [runesGo_step _ _ _ hs]
      obtain ⟨c, h1, h2, h3⟩ := decode_ok hp h.1
      have hw := width_pos (str l) pos hs
      have ih := short_go l k (pos + (Utf8.decode (str l) pos).2) (by omega) h.2
      have hl := congrArg List.length h3
      rw [List.length_append, List.length_drop, List.length_drop] at hl
      have := enc1_len c
      omega
    · omega
theorem name_short {l : List UInt8} (h : nameB l = true) : l.length ≤ 16 := by
  simp only [nameB, nameS, Bool.and_eq_true, decide_eq_true_eq] at h
  have := short_go l (str l).size 0 (by rw [str_size]; omega) h.1
  omega
theorem insS_map {α β : Type} (f : α → β) {la : α → α → Bool} {lb : β → β → Bool} (h : ∀ a b, la a b = lb (f a) (f b)) (a : α) : ∀ l, (insS la a l).map f = insS lb (f a) (l.map f)
  | [] => rfl
  | b :: t => by
    rw [insS, List.map_cons, insS, h]
    split
    · rfl
    · rw [List.map_cons, insS_map f h a t]
theorem isort_map {α β : Type} (f : α → β) {la : α → α → Bool} {lb : β → β → Bool} (h : ∀ a b, la a b = lb (f a) (f b)) : ∀ l, (isort la l).map f = isort lb (l.map f)
  | [] => rfl
  | a :: l => by
    show (insS la a (isort la l)).map f = insS lb (f a) (isort lb (l.map f))
    rw [insS_map f h, isort_map f h l]
theorem LedL.sorted_names (L : LedL) : L.sorted.map NodeL.name = isort leW (L.nodes.map NodeL.name) := isort_map NodeL.name (fun _ _ => rfl) _
theorem LedL.sorted_len (L : LedL) : L.sorted.length = L.nodes.length := (isort_perm _).length_eq
theorem LedL.sorted_get {L : LedL} (h : L.ok) {n : NodeL} (hn : n ∈ L.sorted) : getN L.nodes n.name = some n := getN_unique h.names ((isort_perm _).subset hn)

/-! ### Rows of nodes -/
def NodeC (Q : Nat → Prop) (w : World) (cs : List Value) (n : NodeL) : Prop :=
  ∃ u x, cs = [.string (str n.name), .int .i64 n.cpu, .int .i64 n.mem, u, x, .bool n.closed] ∧ StrsQ Q w u n.marks ∧ StrsQ Q w x n.taints
def NodesQ (Q : Nat → Prop) (w : World) (v : Value) (ns : List NodeL) : Prop :=
  ∃ c, Rq Q w 60 6 v ns.length (flat ns.length c) ∧ ∀ i (hi : i < ns.length), NodeC Q w (c i) ns[i]
theorem NodeC.below {Q : Nat → Prop} {w w' : World} {cs : List Value} {n : NodeL} (h : NodeC Q w cs n) (k : Below w.heap.size w w') : NodeC Q w' cs n := by
  obtain ⟨u, x, e, h1, h2⟩ := h
  exact ⟨u, x, e, h1.below k, h2.below k⟩
theorem NodeC.len {Q : Nat → Prop} {w : World} {cs : List Value} {n : NodeL} (h : NodeC Q w cs n) : cs.length = 6 := by
  obtain ⟨u, x, rfl, _⟩ := h
  rfl
theorem NodesQ.below {Q : Nat → Prop} {w w' : World} {v : Value} {ns : List NodeL} (h : NodesQ Q w v ns) (k : Below w.heap.size w w') : NodesQ Q w' v ns := by
  obtain ⟨c, h1, h2⟩ := h
  exact ⟨c, h1.below k, fun i hi => (h2 i hi).below k⟩
theorem NodesQ.mod {Q S : Nat → Prop} {w w' : World} {v : Value} {ns : List NodeL} (h : NodesQ Q w v ns) (k : Mod S w w') (hS : ∀ g, g < w.heap.size → S g → Q g) : NodesQ Q w' v ns := by
  obtain ⟨c, h1, h2⟩ := h
  refine ⟨c, h1.mod k hS, fun i hi => ?_⟩
  obtain ⟨u, x, e, h3, h4⟩ := h2 i hi
  exact ⟨u, x, e, h3.mod k hS, h4.mod k hS⟩
theorem rq_grown {Q : Nat → Prop} {w w' : World} {e T : TypeId} {size n : Nat} {v : Value} {xs : List Value} {row : Option Nat} (h : Rq Q w e size v n xs) (k : w.grownBy w' row) (hrow : ∀ g, row = some g → ∃ cs, w.heap[g]? = some (.cells cs T (0, 0))) (hT : T ≠ e) : Rq Q w' e size v n xs := by
  refine ⟨h.1.kept (row := row) k ?_, h.2⟩
  cases hr : row with
  | none => cases hv : v.ownBlock with
    | none => exact .inl rfl
    | some b => exact .inr (by simp)
  | some g =>
    obtain ⟨cs, hg⟩ := hrow g hr
    exact own_apart h.1 hg hT
theorem own_typed {w : World} {base n size : Nat} {e : TypeId} {v : Value} {xs : List Value} (h : w.ownsRow base e size v n xs) : ∀ g, v.ownBlock = some g → ∃ cs, w.heap[g]? = some (.cells cs e (0, 0)) := by
  intro g hg
  rcases h.2 with ⟨rfl, _⟩ | ⟨b, cap, cur, rfl, _, hb, _⟩
  · cases hg
  · injection hg with hg
    subst hg
    exact ⟨cur, hb⟩
theorem elt_nodes : Elt Tryz.prog 120 60 6 88 := elt_of Tryz.underlying120 (by decide) (by decide) (by kernel_rfl)
set_option maxRecDepth 100000 in
theorem clone_nodes (w : World) (v : Value) (n base : Nat) (xs : List Value) (h : w.ownsRow base 60 6 v n xs) (h1 : ∀ u ∈ xs, u.oneCell' = true) (hn : n ≤ 1099511627776) :
    Calls Tryz.prog 127 #[v] w fun e w' => ∃ v', e = .returned v' ∧ w'.ownsRow w.heap.size 60 6 v' n xs ∧ Below w.heap.size w w' := by
  have qn : ∀ (w : World) (a : Option Addr) (n c n' c' : Nat), (binOp .eql 120 (.slice a n c) (.slice none n' c')).run Tryz.prog w = .ok (.bool a.isNone) w := fun w a n c n' c' => Lib.run_eql_slice_nil w _ 60 a n c n' c' (by kernel_rfl)
  rcases own_forms h with ⟨rfl, rfl, rfl⟩ | ⟨g, cap, rfl, hb, hg⟩
  · clear h h1
    go_enter Tryz.func127, Tryz.ntmps127
    go_wp2
    go_ret
    exact ⟨_, rfl, World.ownsRow_nil _ _ _ _, Below.refl _ _⟩
  · have HC := Lib.hid (own_cells h)
    have HL := Lib.hid h.1
    have HN := Lib.hid h1
    clear h h1
    go_enter Tryz.func127, Tryz.ntmps127
    go_wp2_with (at_builtin; refine list_appends elt_nodes _ _ rfl rfl rfl rfl (World.ownsRow_made w #[] 0 (Nat.le_refl _) (Nat.zero_le _) (by simp)) HL.out (fun j u hu => (cell_below (HC.out j u hu) (below_alloc' (Below.refl _ _) _))) HN.out (by omega) (by simp) ?_; intro v' w' hown hgrow; have HO := Lib.hid hown; have HB := Lib.hid ((below_alloc' (Below.refl _ w) _).grown hgrow (by simp) (fun k hk => Nat.le_of_eq (Option.some.inj hk))); clear hown hgrow)
    go_ret
    refine ⟨_, rfl, ?_, HB.out⟩
    have := HO.out
    rwa [List.nil_append, Nat.zero_add] at this
theorem one_nodeC {Q : Nat → Prop} {w : World} {cs : List Value} {n : NodeL} (h : NodeC Q w cs n) : ∀ u ∈ cs, u.oneCell' = true := by
  obtain ⟨u, x, rfl, h1, h2⟩ := h
  obtain ⟨a, l, c, rfl⟩ := own_slice h1.1
  obtain ⟨a', l', c', rfl⟩ := own_slice h2.1
  simp [Value.oneCell']
/-- j nodes are there. -/
structure NodesR (Q : Nat → Prop) (w1 : World) (L : LedL) (j : Nat) (u : Value) (wr : World) : Prop where
  bl : Below w1.heap.size w1 wr
  row : ∃ c, wr.ownsRow w1.heap.size 60 6 u j (flat j c) ∧ ∀ i, i < j → ∀ (hi : i < L.sorted.length), NodeC Q wr (c i) L.sorted[i]
theorem nodesR_snoc {Q : Nat → Prop} {w1 w2 w3 : World} {L : LedL} {j : Nat} {u v : Value} {c : Nat → List Value} {cs : List Value} (hb : Below w1.heap.size w1 w2) (ho : w2.ownsRow w1.heap.size 60 6 u j (flat j c)) (hc : ∀ i, i < j → ∀ (hi : i < L.sorted.length), NodeC Q w2 (c i) L.sorted[i])
    (hj : j < L.sorted.length) (hn : NodeC Q w2 cs L.sorted[j]) (hown : w3.ownsRow w1.heap.size 60 6 v (j + 1) (flat j c ++ cs)) (hg : w2.grownBy w3 u.ownBlock) : NodesR Q w1 L (j + 1) v w3 := by
  have keep : ∀ {cs : List Value} {n : NodeL}, NodeC Q w2 cs n → NodeC Q w3 cs n := fun h => by
    obtain ⟨u', x', e, h1, h2⟩ := h
    exact ⟨u', x', e, rq_grown h1 hg (own_typed ho) (by decide), rq_grown h2 hg (own_typed ho) (by decide)⟩
  refine ⟨hb.grown hg hb.size (fun k hk => (own_lt ho hk).1), fun i => if i < j then c i else cs, ?_, fun i hi hi' => ?_⟩
  · rw [flat_succ, flat_ext (c := fun i => if i < j then c i else cs) (d := c) (fun i hi => if_pos hi), if_neg (Nat.lt_irrefl j)]
    exact hown
  · by_cases hij : i < j
    · simp only [hij, if_true]
      exact keep (hc i hij hi')
    · obtain rfl : i = j := by omega
      simp only [hij, if_false]
      exact keep hn
theorem setB_few {ls : List (List UInt8)} (h : setB ls = true) : few ls := by
  simp only [setB, Bool.and_eq_true, decide_eq_true_eq, List.all_eq_true] at h
  exact ⟨by omega, fun x hx => by have := name_short (h.1.1 x hx); omega⟩
theorem good_few {n : NodeL} (h : n.good) : n.few := ⟨by have := name_short h.1; omega, setB_few h.2.2.2.1, setB_few h.2.2.2.2, by have := h.2.1; omega, by have := h.2.2.1; omega⟩
set_option maxRecDepth 100000 in
set_option maxHeartbeats 2000000 in
theorem lnodes_any (Q : Nat → Prop) (w : World) (l a b : Nat) (L : LedL) (h : LedAt Q w l a b L) (hok : L.ok) (hQ : ∀ g, Q g → g < w.heap.size) :
    Calls Tryz.prog 101 #[.pointer (some ⟨l, 0, none⟩)] w fun e w' => ∃ v, e = .returned v ∧ NodesQ Q w' v L.sorted ∧ Below w.heap.size w w' := by
  have H := Lib.hid h
  have HOK := Lib.hid hok
  have HQ := Lib.hid hQ
  obtain ⟨es, hM, hA⟩ := h.nodes
  have c0 := cell_of_block h.box 0 _ rfl
  have hkeys : es.map (fun p => p.1.data.toList) = L.nodes.map NodeL.name := hA.maps fun e n hn => by rw [hn.1]; simp [str]
  have hlen : es.length = L.sorted.length := by rw [hA.len, L.sorted_len]
  have hl8 : L.sorted.length ≤ 8 := by rw [L.sorted_len]; exact hok.most
  have hks : ∀ p ∈ es, p.1.size ≤ maxLen := fun p hp => by
    have : p.1.data.toList ∈ es.map (fun p => p.1.data.toList) := List.mem_map_of_mem hp
    rw [hkeys] at this
    obtain ⟨n, hn, e⟩ := List.mem_map.1 this
    have h3 := name_short (hok.good n hn).1
    rw [e] at h3
    have h2 : p.1.size = p.1.data.toList.length := rfl
    rw [h2]
    unfold maxLen
    omega
  have HS := Lib.hid (sortedN_any a w es hM (by omega) hks)
  have HN := Lib.hid (show isort leW (es.map fun p => p.1.data.toList) = L.sorted.map NodeL.name by rw [hkeys, L.sorted_names])
  have HLEN := Lib.hid hlen
  clear h hok hQ hM hA hkeys hks hlen
  go_enter Tryz.func101, Tryz.ntmps101
  go_wp2_with fail
  refine (keysN_any (some a) w).mono ?_
  rintro e w1 ⟨rfl, rfl⟩
  go_wp2_with fail
  refine HS.out.mono ?_
  rintro e w1 ⟨vs, rfl, hrow, hb⟩
  rw [HN.out, HLEN.out] at hrow
  obtain ⟨va, vc, rfl⟩ := own_slicen hrow
  have HROW := Lib.hid hrow
  have HB := Lib.hid hb
  have hR0 : NodesR Q w1 L 0 (.slice none 0 0) w1 := ⟨Below.refl _ _, fun _ => [], World.ownsRow_nil _ _ _ _, fun i hi => absurd hi (Nat.not_lt_zero _)⟩
  have HR0 := Lib.hid hR0
  obtain ⟨N, hN⟩ : ∃ N, L.sorted.length = N := ⟨_, rfl⟩
  have HNN := Lib.hid hN
  rw [hN] at hl8
  clear hrow hb hR0 c0
  rw [hN]
  clear hN
  go_wp2_with fail
  go_loopw [3, 13] (fun u i wr => ∃ j : Nat, i = .int .i64 j ∧ j ≤ N ∧ NodesR Q w1 L j u wr) (fun _ i _ => N - (intOf i).toNat)
  case atStart => exact ⟨0, rfl, Nat.zero_le _, HR0.out⟩
  case round =>
    clear HR0
    obtain ⟨j, rfl, hj, hR⟩ := hrel
    have HR := Lib.hid hR
    clear hR
    by_cases hjl : j < N
    · have HJ := Lib.hid hjl
      have hjs : j < L.sorted.length := by rw [HNN.out]; exact hjl
      obtain ⟨c, hrow, hcs⟩ := HR.out.row
      obtain ⟨n, hn⟩ : ∃ n, L.sorted[j] = n := ⟨_, rfl⟩
      have hnm : n ∈ L.sorted := by rw [← hn]; exact List.getElem_mem hjs
      have hget := L.sorted_get HOK.out hnm
      have hfew := good_few (HOK.out.good n ((isort_perm _).subset hnm))
      have hbw := below_call HB.out HR.out.bl
      have HLW := Lib.hid (H.out.below hbw)
      obtain ⟨vn, hln, hvn⟩ := HLW.out.look_nodeS n.name
      obtain ⟨n2, hg2, hq2⟩ : ∃ n2, getN L.nodes n.name = some n2 ∧ NodeQ Q wr vn n2 := by
        rcases hvn with h | ⟨h, _⟩
        · exact h
        · rw [hget] at h; cases h
      obtain rfl : n = n2 := Option.some.inj (hget.symm.trans hg2)
      have hlk := hln wr rfl false
      simp only [Bool.false_eq_true, if_false] at hlk
      have hcell : ∃ b0, va = some ⟨b0, 0, none⟩ ∧ wr.cell? ⟨b0, j, none⟩ = some (.string (str n.name)) := by
        have hr := own_below HROW.out HR.out.bl
        rcases own_forms hr with ⟨e, h0, _⟩ | ⟨b0, cap, e, _⟩
        · rw [HNN.out] at h0; omega
        · injection e with e1 e2 e3
          subst e1 e3
          refine ⟨b0, rfl, ?_⟩
          rw [hr.cellAt j (by rw [HNN.out]; omega), List.getElem?_map, List.getElem?_map, List.getElem?_eq_getElem hjs, hn]
          rfl
      obtain ⟨b0, rfl, hcell⟩ := hcell
      have k0 := cell_of_block HLW.out.box 0 _ rfl
      have hj0 : (0 : Int) ≤ (j : Int) := by omega
      have hj1 : (j : Int) < (N : Int) := by omega
      have HC := Lib.hid (And.intro hrow hcs)
      have HQ2 := Lib.hid hq2
      have HBW := Lib.hid hbw
      have HNX := Lib.hid hn
      have HFEW := Lib.hid hfew
      clear hrow hcs hnm hget hfew hbw hln hvn hg2 hq2 hn
      go_wp2_with fail
      refine (lown_any Q wr _ n HQ2.out HFEW.out (fun g hg => Nat.lt_of_lt_of_le (HQ.out g hg) HBW.out.size)).mono ?_
      rintro e w2 ⟨v', rfl, hv', hb2⟩
      obtain ⟨u', x', rfl, hu', hx'⟩ := hv'
      obtain ⟨au, lu, cu, rfl⟩ := own_slice hu'.1
      obtain ⟨ax, lx, cx, rfl⟩ := own_slice hx'.1
      have HV := Lib.hid (show NodeC Q w2 [.string (str n.name), .int .i64 n.cpu, .int .i64 n.mem, .slice au lu cu, .slice ax lx cx, .bool n.closed] n from ⟨_, _, rfl, hu', hx'⟩)
      have HB2 := Lib.hid (below_call HR.out.bl hb2)
      have HC2 := Lib.hid (And.intro (own_below HC.out.1 hb2) (fun i hi hi' => (HC.out.2 i hi hi').below hb2))
      clear hu' hx' hb2 hlk hcell k0
      obtain ⟨s, hs⟩ : ∃ s, str n.name = s := ⟨_, rfl⟩
      rw [hs] at HV
      rw [hs]
      clear hs
      go_wp2_with (at_builtin; refine list_appends elt_nodes _ _ rfl rfl rfl rfl (own_below HC2.out.1 (below_alloc' (Below.refl _ _) _)) (news := [.string s, .int .i64 n.cpu, .int .i64 n.mem, .slice au lu cu, .slice ax lx cx, .bool n.closed]) rfl (World.news_of_block (alloc_at _ _)) (one_nodeC HV.out) (by omega) (by have := HB2.out.size; simp; omega) ?_; intro v'' w'' hown hgrow; have HO := Lib.hid (And.intro hown hgrow); clear hown hgrow)
      have hnew := nodesR_snoc (j := j) (below_alloc' HB2.out _) (own_below HC2.out.1 (below_alloc' (Below.refl _ _) _)) (fun i hi hi' => (HC2.out.2 i hi hi').below (below_alloc' (Below.refl _ _) _)) (by rw [HNN.out]; exact HJ.out) (by rw [HNX.out]; exact HV.out.below (below_alloc' (Below.refl _ _) _)) HO.out.1 HO.out.2
      have HNW := Lib.hid hnew
      clear hnew
      go_roundw
      case rel => exact ⟨j + 1, by go_num, HJ.out, HNW.out⟩
      case measure => have := HJ.out; simp [intOf]; omega
    · obtain rfl : j = N := by omega
      obtain ⟨c, hrow, hcs⟩ := HR.out.row
      have HC := Lib.hid (And.intro hrow hcs)
      have HBR := Lib.hid (HR.out.bl)
      clear hrow hcs
      go_wp2_with fail
      refine (clone_nodes wr _ j _ _ HC.out.1 ?_ (by omega)).mono ?_
      · intro u hu
        obtain ⟨i, hi, hu⟩ := flat_mem hu
        exact one_nodeC (HC.out.2 i hi (by rw [HNN.out]; exact hi)) u hu
      rintro e w2 ⟨v', rfl, ho, hb2⟩
      have HO := Lib.hid (And.intro ho hb2)
      clear ho hb2
      go_wp2
      go_ret
      have hbb := below_call HB.out HBR.out
      refine ⟨_, rfl, ⟨c, ?_, fun i hi => (HC.out.2 i (by rw [← HNN.out]; exact hi) hi).below HO.out.2⟩, below_call hbb HO.out.2⟩
      rw [HNN.out]
      exact Rq.new HO.out.1 (fun g hg => Nat.lt_of_lt_of_le (HQ.out g hg) hbb.size)
end Go.Proofs.YtofofjfmhaggmaaGreatDoor
