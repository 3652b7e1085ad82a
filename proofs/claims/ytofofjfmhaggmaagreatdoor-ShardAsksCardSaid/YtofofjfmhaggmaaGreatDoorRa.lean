/- Places, records and their lines; texts of runes that come back: plain. -/
import Derived.Test.YtofofjfmhaggmaaGreatDoorPt
import Derived.Lib.Join
set_option linter.unusedVariables false
set_option linter.unusedSimpArgs false
namespace Go.Proofs.YtofofjfmhaggmaaGreatDoor

structure PlaceL where
  pod : List UInt8
  node : List UInt8
  cpu : Nat
  mem : Nat
  alone : Bool
  deriving DecidableEq
def noNodeL : NodeL := ⟨[], 0, 0, [], [], false⟩
structure RecL where
  kind : Nat
  gang : Nat
  peers : List Nat
  places : List PlaceL
  node : NodeL
def placeT (p : PlaceL) : List UInt8 := p.pod ++ 62 :: (p.node ++ 58 :: (vecT p.cpu p.mem ++ flagT p.alone))
def peersT (l : List Nat) : List UInt8 := Lib.join (l.map Lib.decDigits) [44]
def rverb (k : Nat) : List UInt8 := [[], [110, 111, 100, 101], [103, 111, 110, 101], [112, 114, 101, 112, 97, 114, 101], [99, 111, 109, 109, 105, 116], [97, 98, 111, 114, 116], [114, 101, 108, 101, 97, 115, 101], [103, 97, 110, 103]].getD k []
def recW (r : RecL) : List (List UInt8) :=
  rverb r.kind :: (if r.kind = 1 then nodeT r.node else if r.kind = 2 then r.node.name else Lib.decDigits r.gang) :: ((if r.kind = 3 ∨ r.kind = 7 then [peersT r.peers] else []) ++ r.places.map placeT)
def recT (r : RecL) : List UInt8 := Lib.join (recW r) [32]

def risesN : List Nat → Bool
  | a :: b :: t => decide (a < b) && risesN (b :: t)
  | _ => true
/-- Peers that may be. -/
def peersB (l : List Nat) : Bool := l.all (fun n => decide (1 ≤ n) && decide (n ≤ 4)) && risesN l && decide (l ≠ [])
def PlaceL.good (p : PlaceL) : Prop := nameB p.pod = true ∧ nameB p.node = true ∧ p.cpu ≤ 1099511627776 ∧ p.mem ≤ 1099511627776
/-- Places that may be written. -/
def placesB (l : List PlaceL) : Prop := 1 ≤ l.length ∧ l.length ≤ 8 ∧ (∀ p ∈ l, p.good) ∧ (l.map (·.pod)).Nodup
/-- A record that may be written: what its kind has not is nothing. -/
structure RecL.good (r : RecL) : Prop where
  kind : 1 ≤ r.kind ∧ r.kind ≤ 7
  node : r.kind = 1 → nameB r.node.name = true ∧ r.node.cpu ≤ 1099511627776 ∧ r.node.mem ≤ 1099511627776 ∧ setB r.node.marks = true ∧ setB r.node.taints = true
  gone : r.kind = 2 → nameB r.node.name = true ∧ r.node = { noNodeL with name := r.node.name }
  bare : 3 ≤ r.kind → r.node = noNodeL
  gang : if r.kind ≤ 2 then r.gang = 0 else 1 ≤ r.gang ∧ r.gang ≤ 999999
  peers : if r.kind = 3 ∨ r.kind = 7 then peersB r.peers = true else r.peers = []
  places : if r.kind = 3 then placesB r.places else r.places = []

/-! ### Texts of runes -/
/-- A rune below 2048 as bytes. -/
def enc1 (c : Nat) : List UInt8 := if c < 128 then [UInt8.ofNat c] else [UInt8.ofNat (192 + c / 64), UInt8.ofNat (128 + c % 64)]
def encs (cs : List Nat) : List UInt8 := cs.flatMap enc1
theorem encs_cons (c : Nat) (cs : List Nat) : encs (c :: cs) = enc1 c ++ encs cs := by simp [encs]
theorem encs_append (a b : List Nat) : encs (a ++ b) = encs a ++ encs b := by simp [encs]
theorem get_str (l : List UInt8) (i : Nat) (h : i < l.length) : (str l).get! i = l[i] := by
  have hs : i < (str l).size := by rw [str_size]; exact h
  rw [← str_get l i hs]
  simp [ByteArray.get!, ByteArray.getElem_eq_getElem_data, getElem!_pos, str, h]
theorem decode_enc (a : List UInt8) (c : Nat) (hc : c < 2048) (b : List UInt8) : Utf8.decode (str (a ++ (enc1 c ++ b))) a.length = (c, (enc1 c).length) := by
  by_cases h : c < 128
  · have e : enc1 c = [UInt8.ofNat c] := by simp [enc1, h]
    rw [e]
    have g : (str (a ++ ([UInt8.ofNat c] ++ b))).get! (a.length + 0) = UInt8.ofNat c := by
      rw [get_str _ _ (by simp)]
      simp
    have hm : (UInt8.ofNat c).toNat = c := by simp [UInt8.toNat_ofNat']; omega
    unfold Utf8.decode
    simp only [g, hm]
    rw [if_pos h]
    rfl
  · have e : enc1 c = [UInt8.ofNat (192 + c / 64), UInt8.ofNat (128 + c % 64)] := by simp [enc1, h]
    rw [e]
    have g0 : (str (a ++ ([UInt8.ofNat (192 + c / 64), UInt8.ofNat (128 + c % 64)] ++ b))).get! (a.length + 0) = UInt8.ofNat (192 + c / 64) := by
      rw [get_str _ _ (by simp)]
      simp
    have g1 : (str (a ++ ([UInt8.ofNat (192 + c / 64), UInt8.ofNat (128 + c % 64)] ++ b))).get! (a.length + 1) = UInt8.ofNat (128 + c % 64) := by
      rw [get_str _ _ (by simp)]
      simp
    have hs : (str (a ++ ([UInt8.ofNat (192 + c / 64), UInt8.ofNat (128 + c % 64)] ++ b))).size = a.length + (2 + b.length) := by rw [str_size]; simp; omega
    have m0 : (UInt8.ofNat (192 + c / 64)).toNat = 192 + c / 64 := by simp [UInt8.toNat_ofNat']; omega
    have m1 : (UInt8.ofNat (128 + c % 64)).toNat = 128 + c % 64 := by simp [UInt8.toNat_ofNat']; omega
    unfold Utf8.decode
    simp only [g0, g1, m0, m1, hs]
    rw [if_neg (by omega), if_pos (by simp; omega), if_pos (by omega)]
    simp
    omega
theorem runes_from (cs : List Nat) (hc : ∀ c ∈ cs, c < 2048) : ∀ (a : List UInt8) (k : Nat) (acc : Array Value), (encs cs).length ≤ k → Conv.runesFrom (str (a ++ encs cs)) k a.length acc = acc ++ (cs.map fun c : Nat => Value.int .i32 (c : Int)).toArray := by
  induction cs with
  | nil =>
    intro a k acc _
    cases k with
    | zero => simp [Conv.runesFrom]
    | succ k => simp [Conv.runesFrom, encs, str_size]
  | cons c cs ih =>
    intro a k acc hk
    rw [encs_cons] at hk ⊢
    have hl : 1 ≤ (enc1 c).length := by unfold enc1; split <;> simp
    rw [List.length_append] at hk
    obtain ⟨k, rfl⟩ : ∃ m, k = m + 1 := ⟨k - 1, by omega⟩
    have h1 : a.length < (str (a ++ (enc1 c ++ encs cs))).size := by rw [str_size]; simp; omega
    rw [Conv.runesFrom, if_pos h1, decode_enc a c (hc c (List.mem_cons_self ..))]
    have := ih (fun x hx => hc x (List.mem_cons_of_mem _ hx)) (a ++ enc1 c) k (acc.push (.int .i32 c)) (by omega)
    rw [List.append_assoc, List.length_append] at this
    simp only
    rw [show Int.ofNat c = (c : Int) from rfl, this]
    simp
/-- A text that comes back from runes: without a line feed. -/
def Nice (t : List UInt8) : Prop := ∃ cs : List Nat, t = encs cs ∧ (∀ c ∈ cs, c < 2048 ∧ c ≠ 10)
theorem Nice.app {a b : List UInt8} (h : Nice a) (k : Nice b) : Nice (a ++ b) := by
  obtain ⟨cs, rfl, h⟩ := h
  obtain ⟨ds, rfl, k⟩ := k
  exact ⟨cs ++ ds, (encs_append _ _).symm, fun c hc => (List.mem_append.1 hc).elim (h c) (k c)⟩
theorem nice_nil : Nice [] := ⟨[], rfl, by simp⟩
theorem nice_one {c : UInt8} (h : c.toNat < 128) (hn : c ≠ 10) : Nice [c] :=
  ⟨[c.toNat], by simp [encs, enc1, h], by
    simp only [List.mem_singleton, forall_eq]
    exact ⟨by omega, fun e => hn (UInt8.toNat_inj.1 e)⟩⟩
theorem nice_cons {c : UInt8} {t : List UInt8} (h : c.toNat < 128) (hn : c ≠ 10) (k : Nice t) : Nice (c :: t) := (nice_one h hn).app k
theorem nice_ascii {l : List UInt8} (h : ∀ c ∈ l, c.toNat < 128 ∧ c ≠ 10) : Nice l := by
  induction l with
  | nil => exact nice_nil
  | cons c l ih => exact nice_cons (h c (List.mem_cons_self ..)).1 (h c (List.mem_cons_self ..)).2 (ih fun x hx => h x (List.mem_cons_of_mem _ hx))
theorem nice_flat {α : Type} {f : α → List UInt8} : ∀ {l : List α}, (∀ x ∈ l, Nice (f x)) → Nice (l.flatMap f)
  | [], _ => nice_nil
  | x :: l, h => (h x (List.mem_cons_self ..)).app (nice_flat fun y hy => h y (List.mem_cons_of_mem _ hy))
theorem nice_dec (n : Nat) : Nice (Lib.decDigits n) := nice_ascii fun c hc => by
  have := List.all_eq_true.1 (decDigits_all n) c hc
  rw [dig_iff] at this
  exact ⟨by omega, fun e => by rw [e] at this; simp at this⟩
theorem nice_join {s : List UInt8} (hs : Nice s) : ∀ {l : List (List UInt8)}, (∀ x ∈ l, Nice x) → Nice (Lib.join l s)
  | [], _ => nice_nil
  | x :: l, h => by
    rw [Lib.join_cons]
    exact (h x (List.mem_cons_self ..)).app (by
      unfold Lib.joinTail
      rw [← List.flatMap_def]
      exact nice_flat fun y hy => hs.app (h y (List.mem_cons_of_mem _ hy)))
theorem decode_ok {l : List UInt8} {pos q : Nat} (h : pos < l.length) (hc : runeOk q (Utf8.decode (str l) pos).1 = true) :
    ∃ c, c < 2048 ∧ c ≠ 10 ∧ l.drop pos = enc1 c ++ l.drop (pos + (Utf8.decode (str l) pos).2) := by
  have hr : ∀ c, runeOk q c = true → (97 ≤ c ∧ c ≤ 122) ∨ (945 ≤ c ∧ c ≤ 969) ∨ (48 ≤ c ∧ c ≤ 57) := fun c h => by
    unfold runeOk at h
    simp only [Bool.or_eq_true, Bool.and_eq_true, decide_eq_true_eq] at h
    rcases h with (h | h) | h
    · exact .inl h
    · exact .inr (.inl h)
    · exact .inr (.inr h.1)
  have h0 : (str l).get! (pos + 0) = l[pos] := get_str l pos h
  have hd : l.drop pos = l[pos] :: l.drop (pos + 1) := List.drop_eq_getElem_cons h
  have b0 := (l[pos]).toNat_lt
  revert hc
  unfold Utf8.decode
  simp only [h0]
  by_cases k1 : (l[pos]).toNat < 128
  · rw [if_pos k1]
    intro hc
    have := hr _ hc
    refine ⟨(l[pos]).toNat, by omega, by omega, ?_⟩
    rw [hd]
    simp [enc1, k1]
  · rw [if_neg k1]
    split
    · rename_i k2
      simp only [Bool.and_eq_true, beq_iff_eq, decide_eq_true_eq, str_size] at k2
      obtain ⟨k2, k3, k4⟩ := k2
      have h1 : (str l).get! (pos + 1) = l[pos + 1] := get_str l (pos + 1) k3
      rw [h1] at k4 ⊢
      split
      · intro hc
        have b1 := (l[pos + 1]).toNat_lt
        have := hr _ hc
        refine ⟨(l[pos]).toNat % 32 * 64 + (l[pos + 1]).toNat % 64, by omega, by omega, ?_⟩
        rw [hd, List.drop_eq_getElem_cons k3]
        have e0 : UInt8.ofNat (192 + ((l[pos]).toNat % 32 * 64 + (l[pos + 1]).toNat % 64) / 64) = l[pos] := by
          apply UInt8.toNat_inj.1
          rw [UInt8.toNat_ofNat']
          omega
        have e1 : UInt8.ofNat (128 + ((l[pos]).toNat % 32 * 64 + (l[pos + 1]).toNat % 64) % 64) = l[pos + 1] := by
          apply UInt8.toNat_inj.1
          rw [UInt8.toNat_ofNat']
          omega
        unfold enc1
        rw [if_neg (by omega), e0, e1]
        rfl
      · intro hc
        have := hr _ hc
        unfold Utf8.runeError at this
        omega
    · split
      · split
        · rename_i k5
          simp only [Bool.and_eq_true, decide_eq_true_eq, ge_iff_le] at k5
          intro hc
          have := hr _ hc
          omega
        · intro hc
          have := hr _ hc
          unfold Utf8.runeError at this
          omega
      · split
        · split
          · rename_i k5
            simp only [Bool.and_eq_true, decide_eq_true_eq, ge_iff_le] at k5
            intro hc
            have := hr _ hc
            omega
          · intro hc
            have := hr _ hc
            unfold Utf8.runeError at this
            omega
        · intro hc
          have := hr _ hc
          unfold Utf8.runeError at this
          omega
theorem nice_go (l : List UInt8) : ∀ k pos, l.length ≤ pos + k → nameGo (str l) k pos = true → Nice (l.drop pos)
  | 0, pos, hk, _ => by rw [List.drop_eq_nil_of_le (by omega)]; exact nice_nil
  | k + 1, pos, hk, h => by
    by_cases hp : pos < l.length
    · have hs : pos < (str l).size := by rw [str_size]; exact hp
      rw [nameGo_step _ _ _ hs, Bool.and_eq_true] at h
      obtain ⟨c, h1, h2, h3⟩ := decode_ok hp h.1
      rw [h3]
      have hw := width_pos (str l) pos hs
      exact Nice.app ⟨[c], by simp [encs], by simpa using ⟨h1, h2⟩⟩ (nice_go l k _ (by omega) h.2)
    · rw [List.drop_eq_nil_of_le (by omega)]; exact nice_nil
theorem nice_name {l : List UInt8} (h : nameB l = true) : Nice l := by
  simp only [nameB, nameS, Bool.and_eq_true] at h
  have := nice_go l (str l).size 0 (by rw [str_size]; omega) h.1
  simpa using this
theorem nice_vec (a b : Nat) : Nice (vecT a b) := (nice_dec a).app (nice_cons (by decide) (by decide) (nice_dec b))
theorem nice_row {c : UInt8} (h : c.toNat < 128) (hn : c ≠ 10) {ls : List (List UInt8)} (hl : setB ls = true) : Nice (rowT c ls) :=
  nice_flat fun x hx => nice_cons h hn (nice_name (by
    simp only [setB, Bool.and_eq_true, List.all_eq_true] at hl
    exact hl.1.1 x hx))
theorem nice_flag (b : Bool) : Nice (flagT b) := by cases b; exact nice_nil; exact nice_one (by decide) (by decide)
theorem nice_node {n : NodeL} (h : nameB n.name = true) (h1 : setB n.marks = true) (h2 : setB n.taints = true) : Nice (nodeT n) :=
  (nice_name h).app (nice_cons (by decide) (by decide) ((nice_vec _ _).app ((nice_row (by decide) (by decide) h1).app ((nice_row (by decide) (by decide) h2).app (nice_flag _)))))
theorem nice_place {p : PlaceL} (h : p.good) : Nice (placeT p) :=
  (nice_name h.1).app (nice_cons (by decide) (by decide) ((nice_name h.2.1).app (nice_cons (by decide) (by decide) ((nice_vec _ _).app (nice_flag _)))))
theorem nice_peers (l : List Nat) : Nice (peersT l) := nice_join (nice_one (by decide) (by decide)) fun x hx => by
  obtain ⟨n, _, rfl⟩ := List.mem_map.1 hx
  exact nice_dec n
theorem nice_verb (k : Nat) : Nice (rverb k) := by
  unfold rverb
  rcases (by omega : k = 0 ∨ k = 1 ∨ k = 2 ∨ k = 3 ∨ k = 4 ∨ k = 5 ∨ k = 6 ∨ k = 7 ∨ 8 ≤ k) with rfl | rfl | rfl | rfl | rfl | rfl | rfl | rfl | h
  all_goals first | exact nice_ascii (by decide) | skip
  rw [List.getD_eq_getElem?_getD, List.getElem?_eq_none (by simpa using h)]
  exact nice_nil
theorem nice_rec {r : RecL} (h : r.good) : Nice (recT r) := by
  refine nice_join (nice_one (by decide) (by decide)) fun x hx => ?_
  unfold recW at hx
  rcases List.mem_cons.1 hx with rfl | hx
  · exact nice_verb _
  · rcases List.mem_cons.1 hx with rfl | hx
    · split
      · rename_i k
        have := h.node k
        exact nice_node this.1 this.2.2.2.1 this.2.2.2.2
      · split
        · rename_i k
          exact nice_name (h.gone k).1
        · exact nice_dec _
    · rcases List.mem_append.1 hx with hx | hx
      · split at hx
        · rw [List.mem_singleton.1 hx]; exact nice_peers _
        · cases hx
      · obtain ⟨p, hp, rfl⟩ := List.mem_map.1 hx
        have := h.places
        split at this
        · exact nice_place (this.2.2.1 p hp)
        · rw [this] at hp; cases hp
end Go.Proofs.YtofofjfmhaggmaaGreatDoor
