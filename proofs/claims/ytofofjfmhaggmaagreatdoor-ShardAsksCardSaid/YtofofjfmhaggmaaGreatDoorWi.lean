/- A shard in memory; what its parts' changes leave. -/
import Derived.Test.YtofofjfmhaggmaaGreatDoorWf
import Derived.Test.YtofofjfmhaggmaaGreatDoorVi
set_option linter.unusedVariables false
set_option linter.unusedSimpArgs false
namespace Go.Proofs.YtofofjfmhaggmaaGreatDoor
open Go.RowKit

/-- Q, and all blocks of runes. -/
def Ex (Q : Nat → Prop) (w : World) : Nat → Prop := fun g => Q g ∨ ∃ cs, w.heap[g]? = some (.cells cs 21 (0, 0))
section
variable {Q S : Nat → Prop} {w w' : World} {v : Value}
theorem Rq.ex {e : TypeId} {size n : Nat} {xs : List Value} (h : Rq Q w e size v n xs) (he : e ≠ 21) : Rq (Ex Q w) w e size v n xs := ⟨h.1, fun g hg hq => hq.elim (h.2 g hg) fun ⟨cs, hc⟩ => own_other h.1 hc he hg⟩
theorem NodeQ.ex {n : NodeL} (h : NodeQ Q w v n) : NodeQ (Ex Q w) w v n := by
  obtain ⟨u, x, e, h1, h2⟩ := h
  exact ⟨u, x, e, Rq.ex h1 (by decide), Rq.ex h2 (by decide)⟩
theorem StV.ex {s : StL} (h : StV Q w v s) : StV (Ex Q w) w v s := by
  cases s with
  | prepared ps age => obtain ⟨e, h1, h2⟩ := h; exact ⟨e, h1, h2.ex (by decide)⟩
  | _ => exact h
theorem LedAt.ex {l a b : Nat} {L : LedL} (h : LedAt Q w l a b L) : LedAt (Ex Q w) w l a b L := by
  obtain ⟨h1, ⟨es, h2, h3⟩, ⟨fs, h4, h5⟩, ne, qa, qb, ql⟩ := h
  refine ⟨h1, ⟨es, h2, h3.imp fun e n hn => ⟨hn.1, hn.2.ex⟩⟩, ⟨fs, h4, h5.imp fun e n hn => ⟨hn.1, Rq.ex hn.2 (by decide)⟩⟩, ne, .inl qa, .inl qb, fun hq => hq.elim ql ?_⟩
  rintro ⟨cs, hc⟩
  rw [h1] at hc
  injection hc with hc
  injection hc with _ hc
  exact absurd hc (by decide)
theorem GangsAt.ex {m : Nat} {gs : List (Int × StL)} (h : GangsAt Q w m gs) : GangsAt (Ex Q w) w m gs := by
  obtain ⟨es, h1, h2⟩ := h
  exact ⟨es, h1, h2.imp fun e t ht => ⟨ht.1, ht.2.ex⟩⟩
end
/-- The runes of records, each with a line's end. -/
def RecsAt (rs : List RecL) (cs : List Nat) : Prop := ∃ css : List (List Nat), cs = css.flatMap (fun c => c ++ [10]) ∧ All2 (fun c r => recT r = encs c ∧ ∀ x ∈ c, x < 2048 ∧ x ≠ 10) css rs
theorem RecsAt.snoc {rs : List RecL} {cs cs0 : List Nat} {r : RecL} (h : RecsAt rs cs) (h1 : recT r = encs cs0) (h2 : ∀ x ∈ cs0, x < 2048 ∧ x ≠ 10) : RecsAt (rs ++ [r]) (cs ++ cs0 ++ [10]) := by
  obtain ⟨css, rfl, hA⟩ := h
  exact ⟨css ++ [cs0], by simp, hA.append (All2.one ⟨h1, h2⟩)⟩
/-- How many variables of packages there are: blocks 0, 1, .. are theirs. -/
noncomputable def GN : Nat := Tryz.prog.globals.size
/-- A shard at block s: its ledger at l with maps a and b, its gangs at m, its tape at t. -/
structure ShardAt (Q : Nat → Prop) (w : World) (s l a b m t : Nat) (tv : Value) (h : ShL) : Prop where
  z : w.heap[s]? = some (.cells #[.int .i64 h.me, .int .i64 h.mode, .pointer (some ⟨t, 0, none⟩), .pointer (some ⟨l, 0, none⟩), .map (some m)] 94 (0, 0))
  led : LedAt Q w l a b h.led
  gangs : GangsAt Q w m h.gangs
  tape : ∃ cs, TapeAt w t tv cs h.recs.length h.lasting ∧ RecsAt h.recs cs ∧ cs.length ≤ h.recs.length * 1000001
  qm : Q m
  qt : Q t
  qs : ¬ Q s
  ne : m ≠ a ∧ m ≠ b
  hi : GN ≤ a ∧ GN ≤ b ∧ GN ≤ m ∧ GN ≤ t ∧ ∀ g, tv.ownBlock = some g → GN ≤ g
/-- What a shard's doings may have changed. -/
def SMod (a b m t : Nat) (tv : Value) : World → World → Prop := Mod (fun g => g = a ∨ g = b ∨ g = m ∨ g = t ∨ tv.ownBlock = some g)
section
variable {Q : Nat → Prop} {w w' : World} {s l a b m t : Nat} {tv : Value} {h : ShL}
theorem mapS_ne {m g : Nat} {es : List (ByteArray × Value)} {cs : Array Value} {T : TypeId} (k : MapIs encS w m es) (hg : w.heap[g]? = some (.cells cs T (0, 0))) : g ≠ m := by
  rintro rfl
  obtain ⟨x, n, h1, _⟩ := k
  rw [hg] at h1
  injection h1 with h1
  cases h1
theorem mapI_ne {m g : Nat} {es : List (Int × Value)} {cs : Array Value} {T : TypeId} (k : MapIs encI w m es) (hg : w.heap[g]? = some (.cells cs T (0, 0))) : g ≠ m := by
  rintro rfl
  obtain ⟨x, n, h1, _⟩ := k
  rw [hg] at h1
  injection h1 with h1
  cases h1
/-- The maps' blocks are none of the tape's. -/
theorem ShardAt.apart (H : ShardAt Q w s l a b m t tv h) : (t ≠ a ∧ t ≠ b ∧ t ≠ m) ∧ ∀ g, tv.ownBlock = some g → g ≠ a ∧ g ≠ b ∧ g ≠ m ∧ g ≠ t ∧ g ≠ s ∧ g ≠ l := by
  obtain ⟨cs, h4, _⟩ := H.tape
  obtain ⟨es, e1, _⟩ := H.led.nodes
  obtain ⟨fs, e2, _⟩ := H.led.taken
  obtain ⟨gs, e3, _⟩ := H.gangs
  refine ⟨⟨mapS_ne e1 h4.z, mapI_ne e2 h4.z, mapI_ne e3 h4.z⟩, fun g hg => ?_⟩
  obtain ⟨ds, hd⟩ := own_typed h4.row g hg
  exact ⟨mapS_ne e1 hd, mapI_ne e2 hd, mapI_ne e3 hd, fun e => h4.ne (by rw [hg, e]), fun e => own_other h4.row H.z (by decide) (by rw [hg, e]), fun e => own_other h4.row H.led.box (by decide) (by rw [hg, e])⟩
theorem ShardAt.below (H : ShardAt Q w s l a b m t tv h) (k : Below w.heap.size w w') : ShardAt Q w' s l a b m t tv h := by
  obtain ⟨h1, h2, h3, ⟨cs, h4, h5, h6⟩, h7, h8, h9, h10, h11⟩ := H
  exact ⟨block_below h1 k, h2.below k, h3.mod (S := fun _ => False) (Mod.of_below k) (fun _ _ h => h.elim) id, ⟨cs, h4.below k, h5, h6⟩, h7, h8, h9, h10, h11⟩
/-- The ledger has changed. -/
theorem ShardAt.with_led (H : ShardAt Q w s l a b m t tv h) {L' : LedL} (hL : LedAt Q w' l a b L') (k : Mod (fun g => g = b) w w') : ShardAt Q w' s l a b m t tv { h with led := L' } := by
  obtain ⟨⟨t1, t2, t3⟩, hv⟩ := H.apart
  obtain ⟨h1, h2, h3, ⟨cs, h4, h5, h6⟩, h7, h8, h9, h10, h11⟩ := H
  have hS : ∀ g, g < w.heap.size → g = b → Q g := fun g _ e => e ▸ h2.qb
  exact ⟨k.block' h1 fun e => h9 (e ▸ h2.qb), hL, h3.mod k hS h10.2, ⟨cs, h4.mod k t2 fun g hg e => (hv g hg).2.1 e, h5, h6⟩, h7, h8, h9, h10, h11⟩
/-- Its gangs have changed. -/
theorem ShardAt.with_gangs (H : ShardAt Q w s l a b m t tv h) {gs : List (Int × StL)} (hG : GangsAt Q w' m gs) (k : Mod (fun g => g = m) w w') : ShardAt Q w' s l a b m t tv { h with gangs := gs } := by
  obtain ⟨⟨t1, t2, t3⟩, hv⟩ := H.apart
  obtain ⟨h1, h2, h3, ⟨cs, h4, h5, h6⟩, h7, h8, h9, h10, h11⟩ := H
  have hS : ∀ g, g < w.heap.size → g = m → Q g := fun g _ e => e ▸ h7
  exact ⟨k.block' h1 fun e => h9 (e ▸ h7), h2.mod k hS (fun e => h10.1 e.symm) (fun e => h10.2 e.symm), hG, ⟨cs, h4.mod k t3 fun g hg e => (hv g hg).2.2.1 e, h5, h6⟩, h7, h8, h9, h10, h11⟩
/-- Its tape has changed. -/
theorem ShardAt.with_tape (H : ShardAt Q w s l a b m t tv h) {tv' : Value} {rs : List RecL} {k0 : Nat} {cs' : List Nat} (hT : TapeAt w' t tv' cs' rs.length k0) (hR : RecsAt rs cs') (hl : cs'.length ≤ rs.length * 1000001) (k : Mod (fun g => g = t ∨ tv.ownBlock = some g) w w') (hrow : tv'.ownBlock = tv.ownBlock ∨ ∀ g, tv'.ownBlock = some g → w.heap.size ≤ g) : ShardAt Q w' s l a b m t tv' { h with recs := rs, lasting := k0 } := by
  obtain ⟨⟨t1, t2, t3⟩, hv⟩ := H.apart
  obtain ⟨h1, h2, h3, ⟨cs, h4, h5, h6⟩, h7, h8, h9, h10, h11⟩ := H
  have hS : ∀ g, g < w.heap.size → (g = t ∨ tv.ownBlock = some g) → Ex Q w g := fun g _ e => by
    rcases e with rfl | e
    · exact .inl h8
    · exact .inr (own_typed h4.row g e)
  have hQ : ∀ g, g < w.heap.size → Q g → Ex Q w g := fun g _ hg => .inl hg
  refine ⟨k.block' h1 fun e => ?_, (h2.ex.mod k hS (fun e => ?_) (fun e => ?_)).sub (fun g _ hg => .inl hg) h2.qa h2.qb, (h3.ex.mod k hS fun e => ?_).sub (fun g _ hg => .inl hg), ⟨cs', hT, hR, hl⟩, h7, h8, h9, h10, h11.1, h11.2.1, h11.2.2.1, h11.2.2.2.1, fun g hg => ?_⟩
  · rcases e with e | e
    · exact h9 (e ▸ h8)
    · exact (hv s e).2.2.2.2.1 rfl
  · rcases e with e | e
    · exact t1 e.symm
    · exact (hv a e).1 rfl
  · rcases e with e | e
    · exact t2 e.symm
    · exact (hv b e).2.1 rfl
  · rcases e with e | e
    · exact t3 e.symm
    · exact (hv m e).2.2.1 rfl
  · rcases hrow with r | r
    · exact h11.2.2.2.2 g (r.symm.trans hg)
    · have h12 := r g hg
      have h13 := h4.lt.1
      omega
end
theorem named_lt {n : String} {g : Nat} (h : Tryz.prog.globalNamed n = some g) : g < GN := by
  unfold Program.globalNamed at h
  split at h
  · rename_i g' hg
    injection h with h
    subst h
    have : g' ∈ (List.range Tryz.prog.globals.size).filter fun g => (Tryz.prog.globals[g]?).any (·.name == n) := by rw [hg]; simp
    exact List.mem_range.1 (List.mem_filter.1 this).1
  · cases h
theorem tab_mod {S : Nat → Prop} {w w' : World} {n : String} {k : IntKind} {zs : List Int} (h : Lib.TabIs Tryz.prog w n k zs) (hm : Mod S w w') (hS : ∀ g, S g → GN ≤ g) : Lib.TabIs Tryz.prog w' n k zs := by
  unfold Lib.TabIs World.var? at h ⊢
  cases hg : Tryz.prog.globalNamed n with
  | none => rw [hg] at h; cases h
  | some g =>
    rw [hg] at h
    simp only [Option.bind_some] at h ⊢
    match hh : w.heap[g]? with
    | none => rw [hh] at h; cases h
    | some o =>
      rw [hm.block' hh fun hs => by have := hS g hs; have := named_lt hg; omega]
      rw [hh] at h
      exact h
theorem Tabs.mod {S : Nat → Prop} {w w' : World} (h : Tabs w) (hm : Mod S w w') (hS : ∀ g, S g → GN ≤ g) : Tabs w' := ⟨tab_mod h.1 hm hS, tab_mod h.2.1 hm hS, by
  obtain ⟨x, hx⟩ := h.2.2
  exact ⟨x, hm.cell hx fun hs => by have := hS _ hs; have e : 4 < GN := Nat.le_of_ble_eq_true (by kernel_rfl); simp only at this; omega⟩⟩
theorem Tops.mod {S : Nat → Prop} {w w' : World} (h : Tops w) (hm : Mod S w w') (hS : ∀ g, S g → GN ≤ g) : Tops w' := by
  have e : 1 < GN := Nat.le_of_ble_eq_true (by kernel_rfl)
  have k : ∀ j v, w.cell? ⟨1, j, none⟩ = some v → w'.cell? ⟨1, j, none⟩ = some v := fun j v hv => hm.cell hv fun hs => by have := hS _ hs; simp only at this; omega
  exact ⟨k _ _ h.1, k _ _ h.2.1, k _ _ h.2.2⟩
end Go.Proofs.YtofofjfmhaggmaaGreatDoor
/-! A shard's records forced to its tape; a gang's end. -/
set_option linter.unusedVariables false
set_option linter.unusedSimpArgs false
namespace Go.Proofs.YtofofjfmhaggmaaGreatDoor
open Go.RowKit

theorem cells10 {w : World} {g : Nat} {T : TypeId} {c0 c1 c2 c3 c4 c5 c6 c7 c8 c9 : Value} (k : w.heap[g]? = some (.cells #[c0, c1, c2, c3, c4, c5, c6, c7, c8, c9] T (0, 0))) : w.cell? ⟨g, 0, none⟩ = some c0 ∧ w.cell? ⟨g, 1, none⟩ = some c1 ∧ w.cell? ⟨g, 2, none⟩ = some c2 ∧ w.cell? ⟨g, 3, none⟩ = some c3 ∧ w.cell? ⟨g, 4, none⟩ = some c4 ∧ w.cell? ⟨g, 5, none⟩ = some c5 ∧ w.cell? ⟨g, 6, none⟩ = some c6 ∧ w.cell? ⟨g, 7, none⟩ = some c7 ∧ w.cell? ⟨g, 8, none⟩ = some c8 ∧ w.cell? ⟨g, 9, none⟩ = some c9 :=
  ⟨cell_of_block k 0 c0 rfl, cell_of_block k 1 c1 rfl, cell_of_block k 2 c2 rfl, cell_of_block k 3 c3 rfl, cell_of_block k 4 c4 rfl, cell_of_block k 5 c5 rfl, cell_of_block k 6 c6 rfl, cell_of_block k 7 c7 rfl, cell_of_block k 8 c8 rfl, cell_of_block k 9 c9 rfl⟩
/-- What a shard's doings leave: all but its blocks; its tape's row is the old one or new. -/
structure Did (a b m t : Nat) (tv tv' : Value) (w w' : World) : Prop where
  mod : SMod a b m t tv w w'
  row : tv'.ownBlock = tv.ownBlock ∨ ∀ g, tv'.ownBlock = some g → w.heap.size ≤ g
section
variable {a b m t : Nat} {tv tv1 tv2 : Value} {w w1 w2 : World}
theorem Did.refl : Did a b m t tv tv w w := ⟨Mod.refl _ _, .inl rfl⟩
theorem Did.of_below (h : Below w.heap.size w w1) : Did a b m t tv tv w w1 := ⟨Mod.of_below h, .inl rfl⟩
theorem Did.of_mod {S : Nat → Prop} (h : Mod S w w1) (k : ∀ g, S g → g = a ∨ g = b ∨ g = m ∨ g = t ∨ tv.ownBlock = some g) : Did a b m t tv tv w w1 := ⟨h.sub fun g _ hg => k g hg, .inl rfl⟩
theorem Did.trans (h : Did a b m t tv tv1 w w1) (k : Did a b m t tv1 tv2 w1 w2) : Did a b m t tv tv2 w w2 := by
  refine ⟨Mod.then h.mod k.mod fun g hg => ?_, ?_⟩
  · rcases hg with e | e | e | e | e
    · exact .inl (.inl e)
    · exact .inl (.inr (.inl e))
    · exact .inl (.inr (.inr (.inl e)))
    · exact .inl (.inr (.inr (.inr (.inl e))))
    · rcases h.row with r | r
      · exact .inl (.inr (.inr (.inr (.inr (r.symm.trans e)))))
      · exact .inr (r g e)
  · rcases k.row with r | r
    · exact h.row.imp (fun e => r.trans e) (fun e g hg => e g (r.symm.trans hg))
    · exact .inr fun g hg => Nat.le_trans h.mod.size (r g hg)
end
theorem ShardAt.far {Q : Nat → Prop} {w : World} {s l a b m t : Nat} {tv : Value} {h : ShL} (H : ShardAt Q w s l a b m t tv h) : ∀ g, (g = a ∨ g = b ∨ g = m ∨ g = t ∨ tv.ownBlock = some g) → GN ≤ g := fun g hg => by
  rcases hg with rfl | rfl | rfl | rfl | e
  · exact H.hi.1
  · exact H.hi.2.1
  · exact H.hi.2.2.1
  · exact H.hi.2.2.2.1
  · exact H.hi.2.2.2.2 g e
theorem Did.tabs {Q : Nat → Prop} {w w' : World} {s l a b m t : Nat} {tv tv' : Value} {h : ShL} (D : Did a b m t tv tv' w w') (H : ShardAt Q w s l a b m t tv h) (ht : Tabs w) : Tabs w' := ht.mod D.mod H.far
theorem Did.tops {Q : Nat → Prop} {w w' : World} {s l a b m t : Nat} {tv tv' : Value} {h : ShL} (D : Did a b m t tv tv' w w') (H : ShardAt Q w s l a b m t tv h) (ht : Tops w) : Tops w' := ht.mod D.mod H.far
/-- What a shard's function has done. -/
def ShPost (Q : Nat → Prop) (w : World) (s l a b m t : Nat) (tv : Value) (h' : ShL) (w' : World) : Prop := ∃ tv', ShardAt Q w' s l a b m t tv' h' ∧ Did a b m t tv tv' w w'
theorem agg10 {w : World} {rv : Value} {r : RecL} (hv : RecV w rv r) : ∃ c0 c1 c2 c3 c4 c5 c6 c7 c8 c9, rv = .agg #[c0, c1, c2, c3, c4, c5, c6, c7, c8, c9] := by
  rcases hv with ⟨n, u, x, _, rfl, _⟩ | ⟨nm, _, rfl⟩ | ⟨g, ev, lv, ps, ls, _, rfl, _⟩ | ⟨k, g, _, _, rfl⟩
  all_goals exact ⟨_, _, _, _, _, _, _, _, _, _, rfl⟩
/-- A record written to a shard's tape. -/
theorem swrite {Q : Nat → Prop} {w : World} {s l a b m t : Nat} {tv : Value} {h : ShL} (H : ShardAt Q w s l a b m t tv h) {rv : Value} {r : RecL} (ht : Tabs w) (hv : RecV w rv r) (hg : r.good) (hpp : r.peers.length ≤ 16) (hr : h.recs.length ≤ 1000) :
    Calls Tryz.prog 83 #[.pointer (some ⟨t, 0, none⟩), rv] w fun e w' => e = .returned (.tuple #[]) ∧ ShPost Q w s l a b m t tv (h.write r) w' := by
  obtain ⟨cs, hT, hR, hl⟩ := H.tape
  refine (write_any w t tv cs _ _ hT rv r ht hv hg hpp (by omega) (by omega)).mono ?_
  rintro e w' ⟨rfl, cs0, v', h1, h2, h3, h4, h5⟩
  refine ⟨rfl, v', H.with_tape (rs := h.recs ++ [r]) (k0 := h.lasting) (by simpa using h3) (hR.snoc h1 h2) ?_ h4 h5, ⟨h4.sub fun g _ hg => .inr (.inr (.inr hg)), h5⟩⟩
  have := recT_le hg hpp
  have := encs_len cs0
  rw [← h1] at this
  simp only [List.length_append, List.length_cons, List.length_nil]
  omega
/-- A shard's tape made to last. -/
theorem ssync {Q : Nat → Prop} {w : World} {s l a b m t : Nat} {tv : Value} {h : ShL} (H : ShardAt Q w s l a b m t tv h) :
    Calls Tryz.prog 73 #[.pointer (some ⟨t, 0, none⟩)] w fun e w' => e = .returned (.tuple #[]) ∧ ShPost Q w s l a b m t tv h.sync w' := by
  obtain ⟨cs, hT, hR, hl⟩ := H.tape
  refine (sync_any w t tv cs _ _ hT).mono ?_
  rintro e w' ⟨rfl, h3, h4⟩
  exact ⟨rfl, tv, H.with_tape (rs := h.recs) (k0 := h.recs.length) h3 hR hl (h4.sub fun g _ hg => .inl hg) (.inl rfl), .of_mod h4 fun g hg => .inr (.inr (.inr (.inl hg)))⟩
set_option maxRecDepth 100000 in
set_option maxHeartbeats 1000000 in
theorem force_any {Q : Nat → Prop} {w : World} {s l a b m t : Nat} {tv : Value} {h : ShL} (H : ShardAt Q w s l a b m t tv h) {rv : Value} {r : RecL} (ht : Tabs w) (hv : RecV w rv r) (hg : r.good) (hpp : r.peers.length ≤ 16) (hr : h.recs.length ≤ 1000) :
    Calls Tryz.prog 49 #[.pointer (some ⟨s, 0, none⟩), rv] w fun e w' => e = .returned (.tuple #[]) ∧ ShPost Q w s l a b m t tv (h.force r) w' := by
  obtain ⟨c0, c1, c2, c3, c4, c5, c6, c7, c8, c9, rfl⟩ := agg10 hv
  have HH := Lib.hid (And.intro H ht)
  have HV := Lib.hid (And.intro hv hg)
  clear H ht hv hg
  go_enter Tryz.func49, Tryz.ntmps49
  go_upto_region 1 with fail
  have z1 := alloc_at w (.cells #[c0, c1, c2, c3, c4, c5, c6, c7, c8, c9] 67)
  have hb1 : Below w.heap.size w (w.alloc (.cells #[c0, c1, c2, c3, c4, c5, c6, c7, c8, c9] 67)) := below_alloc' (Below.refl _ _) _
  generalize World.alloc w _ = w1 at z1 hb1 ⊢
  have hf : ∀ w6, Below w1.heap.size w1.drew w6 → w6.heap[w.heap.size]? = some (.cells #[c0, c1, c2, c3, c4, c5, c6, c7, c8, c9] 67 (0, 0)) ∧ Below w.heap.size w w6 := fun w6 hb => by
    have hb' : Below w1.heap.size w1 w6 := (Below.refl w1.heap.size w1).drew.trans hb
    exact ⟨block_below z1 hb', below_call hb1 hb'⟩
  have HF := Lib.hid hf
  clear hf z1 hb1
  refine' Par.wp_region_pars (fun w w' => Below w.heap.size w w') 5 (by kernel_rfl) (by kernel_rfl) (by kernel_rfl) (by kernel_rfl) (by kernel_rfl) (by kernel_rfl)
    (fun w => Below.refl _ w) (fun h k => below_call h k) (fun vals => ?_)
  rotate_left
  simp only [List.take_succ_cons, List.take_zero, List.drop_succ_cons, List.drop_zero]
  iterate 3 (apply Par.par_x rfl; (focus (intro w6 hR hD K hK; replace hK := Lib.hid hK; skip; clear hR hD; go_simp; exact hK.out _ (Below.refl _ _))); simp only [Act.put, List.setIfInBounds_toArray, List.set_cons_zero, List.set_cons_succ, Nat.reduceAdd, List.cons_append, List.nil_append])
  (apply Par.par_x rfl; (focus (intro w6 hR hD K hK; replace hK := Lib.hid hK; have e0 := cell_of_block (block_below HH.out.1.z (HF.out w6 hR).2) 2 (.pointer (some ⟨t, 0, none⟩)) rfl; clear hR hD; go_simp; exact hK.out _ (Below.refl _ _))); simp only [Act.put, List.setIfInBounds_toArray, List.set_cons_zero, List.set_cons_succ, Nat.reduceAdd, List.cons_append, List.nil_append])
  (apply Par.par_x rfl; (focus (intro w6 hR hD K hK; replace hK := Lib.hid hK; obtain ⟨e0, e1, e2, e3, e4, e5, e6, e7, e8, e9⟩ := cells10 (HF.out w6 hR).1; clear hR hD; go_simp; exact hK.out _ (Below.refl _ _))); simp only [Act.put, List.setIfInBounds_toArray, List.set_cons_zero, List.set_cons_succ, Nat.reduceAdd, List.cons_append, List.nil_append])
  refine Par.par_end fun w2 hR hp => ?_
  have HB2 := Lib.hid (HF.out w2 hR).2
  clear hR hp HF
  go_wp2_with fail
  refine (swrite (HH.out.1.below HB2.out) (HH.out.2.below HB2.out) (HV.out.1.below HB2.out) HV.out.2 hpp hr).mono ?_
  rintro e w3 ⟨rfl, tv1, hS, hD⟩
  have HS := Lib.hid (And.intro hS ((Did.of_below HB2.out).trans hD))
  have e0 := cell_of_block hS.z 2 (.pointer (some ⟨t, 0, none⟩)) rfl
  clear hS hD
  go_wp2_with fail
  refine (ssync HS.out.1).mono ?_
  rintro e w4 ⟨rfl, tv2, hS, hD⟩
  have HS2 := Lib.hid (And.intro hS (HS.out.2.trans hD))
  clear hS hD
  go_wp2_with fail
  go_end0
  exact ⟨rfl, tv2, HS2.out.1, HS2.out.2⟩
end Go.Proofs.YtofofjfmhaggmaaGreatDoor
/-! A gang's end; a gang bound; a gang dropped, by a shard. -/
set_option linter.unusedVariables false
set_option linter.unusedSimpArgs false
namespace Go.Proofs.YtofofjfmhaggmaaGreatDoor
open Go.RowKit

/-- A gang's state is written. -/
theorem ShardAt.putM {Q : Nat → Prop} {w : World} {s l a b m t : Nat} {tv : Value} {h : ShL} (H : ShardAt Q w s l a b m t tv h) (g : Int) {sv : Value} {st : StL} (hv : StV Q w sv st) : ∃ w', (Instr.mapUpdate 92 (.map (some m)) (.int .i64 g) sv).run Tryz.prog w = .ok () w' ∧ ShardAt Q w' s l a b m t tv (h.set g st) ∧ Mod (fun g => g = m) w w' := by
  obtain ⟨w', hr, hG, hT⟩ := H.gangs.put H.qm g hv
  exact ⟨w', hr, H.with_gangs hG hT.mod, hT.mod⟩
theorem ShardAt.put {Q : Nat → Prop} {w : World} {s l a b m t : Nat} {tv : Value} {h : ShL} (H : ShardAt Q w s l a b m t tv h) (g : Int) {sv : Value} {st : StL} (hv : StV Q w sv st) : ∃ w', (Instr.mapUpdate 92 (.map (some m)) (.int .i64 g) sv).run Tryz.prog w = .ok () w' ∧ ShardAt Q w' s l a b m t tv (h.set g st) ∧ Did a b m t tv tv w w' := by
  obtain ⟨w', hr, hG, hT⟩ := H.gangs.put H.qm g hv
  exact ⟨w', hr, H.with_gangs hG hT.mod, .of_mod hT.mod fun g hg => .inr (.inr (.inl hg))⟩
theorem ShardAt.drop {Q : Nat → Prop} {w : World} {s l a b m t : Nat} {tv : Value} {h : ShL} (H : ShardAt Q w s l a b m t tv h) (g : Int) (ty : TypeId) : ∃ w', (Builtin.delete_ #[92, 3] ty #[.map (some m), .int .i64 g]).run Tryz.prog w = .ok (.tuple #[]) w' ∧ ShardAt Q w' s l a b m t tv { h with gangs := delK h.gangs g } ∧ Did a b m t tv tv w w' := by
  obtain ⟨w', hr, hG, hT⟩ := H.gangs.del H.qm g ty
  exact ⟨w', hr, H.with_gangs hG hT.mod, .of_mod hT.mod fun g hg => .inr (.inr (.inl hg))⟩
set_option maxRecDepth 100000 in
set_option maxHeartbeats 1000000 in
theorem end_fin {Q : Nat → Prop} {w : World} {s l a b m t : Nat} {tv : Value} {h : ShL} (H : ShardAt Q w s l a b m t tv h) (g : Int) (sv : Value) (st : StL) (hv : ∀ w, StV Q w sv st) (h1 : sv.oneCell' = true) :
    Calls Tryz.prog 74 #[.pointer (some ⟨s, 0, none⟩), .int .i64 g, sv] w fun e w' => e = .returned (.tuple #[]) ∧ ShardAt Q w' s l a b m t tv (h.fin g st) ∧ Mod (fun g => g = b ∨ g = m) w w' := by
  have HH := Lib.hid H
  have e0 := cell_of_block H.z 3 (.pointer (some ⟨l, 0, none⟩)) rfl
  clear H
  go_enter Tryz.func74, Tryz.ntmps74
  go_wp2_with fail
  refine (lgive_any Q w l a b h.led HH.out.led g).mono ?_
  rintro e w1 ⟨rfl, hL, hM⟩
  have hS := HH.out.with_led hL hM
  have e1 := cell_of_block hS.z 4 (.map (some m)) rfl
  obtain ⟨w2, hr, hS2, hD⟩ := hS.putM g (hv w1)
  have HS := Lib.hid (And.intro hS2 ((hM.sub fun g _ hg => Or.inl hg).trans (hD.sub fun g _ hg => Or.inr hg)))
  clear hL hM hS hS2 hD e0
  go_wp2_with fail
  go_end0
  exact ⟨rfl, HS.out.1, HS.out.2⟩
theorem end_any {Q : Nat → Prop} {w : World} {s l a b m t : Nat} {tv : Value} {h : ShL} (H : ShardAt Q w s l a b m t tv h) (g : Int) (sv : Value) (st : StL) (hv : ∀ w, StV Q w sv st) (h1 : sv.oneCell' = true) :
    Calls Tryz.prog 74 #[.pointer (some ⟨s, 0, none⟩), .int .i64 g, sv] w fun e w' => e = .returned (.tuple #[]) ∧ ShPost Q w s l a b m t tv (h.fin g st) w' :=
  (end_fin H g sv st hv h1).mono fun e w' ⟨h1, h2, h3⟩ => ⟨h1, tv, h2, .of_mod h3 fun g hg => hg.elim (fun e => .inr (.inl e)) fun e => .inr (.inr (.inl e))⟩
theorem good_recG {k g : Nat} (hk : k = 4 ∨ k = 5 ∨ k = 6) (hg : 1 ≤ g ∧ g ≤ 999999) : (recG k g).good := by
  rcases hk with rfl | rfl | rfl
  all_goals exact ⟨by simp [recG], by simp [recG], by simp [recG], by simp [recG], by simpa [recG] using hg, by simp [recG], by simp [recG]⟩
theorem recV_G {w : World} {k g : Nat} (hk : k = 4 ∨ k = 5 ∨ k = 6) : RecV w (.agg #[.int .i64 k, .int .i64 g, .slice none 0 0, .slice none 0 0, .string ⟨#[]⟩, .int .i64 0, .int .i64 0, .slice none 0 0, .slice none 0 0, .bool false]) (recG k g) := .inr (.inr (.inr ⟨k, g, hk, rfl, rfl⟩))
set_option maxRecDepth 100000 in
set_option maxHeartbeats 1000000 in
theorem drop_any {Q : Nat → Prop} {w : World} {s l a b m t : Nat} {tv : Value} {h : ShL} (H : ShardAt Q w s l a b m t tv h) (ht : Tabs w) (g : Nat) (hg : 1 ≤ g ∧ g ≤ 999999) (hr : h.recs.length ≤ 1000) :
    Calls Tryz.prog 72 #[.pointer (some ⟨s, 0, none⟩), .int .i64 g] w fun e w' => e = .returned (.tuple #[]) ∧ ShPost Q w s l a b m t tv (h.drop g) w' := by
  have HH := Lib.hid (And.intro H ht)
  have e0 := cell_of_block H.z 2 (.pointer (some ⟨t, 0, none⟩)) rfl
  clear H ht
  go_enter Tryz.func72, Tryz.ntmps72
  go_wp2_with fail
  refine (swrite HH.out.1 HH.out.2 (recV_G (k := 5) (.inr (.inl rfl))) (good_recG (.inr (.inl rfl)) hg) (by simp [recG]) hr).mono ?_
  rintro e w3 ⟨rfl, tv1, hS, hD⟩
  have HS := Lib.hid (And.intro hS hD)
  clear hS hD e0
  go_wp2_with fail
  refine (end_any HS.out.1 g (.iface 101 (.agg #[])) .aborted (fun _ => rfl) rfl).mono ?_
  rintro e w4 ⟨rfl, tv2, hS, hD⟩
  have HS2 := Lib.hid (And.intro hS (HS.out.2.trans hD))
  clear hS hD
  go_wp2_with fail
  go_end0
  exact ⟨rfl, tv2, by simpa [ShL.drop] using HS2.out.1, HS2.out.2⟩
end Go.Proofs.YtofofjfmhaggmaaGreatDoor
