/- A rule for a statement whose order is open and that holds calls: each operation is shown once, in any world that the others may have left; what it yields is told by a post that the others keep. -/
import Derived.Orders
import Derived.RegionTactic
import Derived.KernelRfl
set_option linter.unusedVariables false
set_option linter.unusedSimpArgs false
namespace Go.Par
open Go

/-- Q, but no panic. -/
def Calm (Q : Exit → Act → World → Prop) : Exit → Act → World → Prop
  | .panic _, _, _ => False
  | e, a, w => Q e a w
theorem Calm.lets {Q : Exit → Act → World → Prop} (h : LetsOut (Calm Q)) : LetsOut Q := h

inductive Post where
  | exact (e : Value)
  | rel (G : Value → World → Prop)
def Post.holds : Post → Value → World → Prop
  | .exact e, v, _ => v = e
  | .rel G, v, w => G v w
def Post.val : Post → Value → Value
  | .exact e, _ => e
  | .rel _, v => v

section
variable {P : Program} {ops : Array Oper} {Q : Exit → Act → World → Prop} {F : Act → World → Prop} {R : World → World → Prop} {w0 : World}

/-- One operation's step, whatever follows. -/
def Step (P : Program) (ops : Array Oper) (Q : Exit → Act → World → Prop) (R : World → World → Prop) (o : Oper) (A : Act) (w : World) (p : Post) : Prop :=
  ∀ K : Act → World → Prop, (∀ v w', R w w' → p.holds v w' → K (A.put o.dst v) w') →
    (if Region.wanted o (yielded ops A.tmps) = true then (o.wp P A w K Q ∨ (o.asks P A w ∧ LetsOut Q)) else K (A.put o.dst undef) w)

/-- What is known of those that must come ahead of number i. -/
def Deps (B : List (List Nat)) (i : Nat) (ps : List Post) (vals : Nat → Value) (w : World) : Prop :=
  ∀ j, (B.getD i []).contains j = true → (ps.getD j (.rel fun _ _ => True)).holds (vals j) w

def Par (P : Program) (ops : Array Oper) (Q : Exit → Act → World → Prop) (F : Act → World → Prop) (R : World → World → Prop) (w0 : World) (B : List (List Nat)) (vals : Nat → Value) :
    List Oper → Nat → Act → List Post → List Post → Prop
  | [], _, A, done, [] => ∀ w, R w0 w → (∀ j, j < done.length → (done.getD j (.rel fun _ _ => True)).holds (vals j) w) → F A w
  | o :: os, i, A, done, p :: ps =>
    (∀ v w w', p.holds v w → R w w' → p.holds v w') ∧
    (∀ w, R w0 w → Deps B i done vals w → Step P ops Q R o A w p) ∧
    Par P ops Q F R w0 B vals os (i + 1) (A.put o.dst (p.val (vals i))) (done ++ [p]) ps
  | _, _, _, _, _ => False

/-- What must come ahead of each operation. -/
def befs (ops : Array Oper) : List (List Nat) :=
  ops.toList.foldl (fun acc o => acc ++ [(o.after.toList.filter (Region.binds .any ·)).foldl (fun s e => (e.on :: acc.getD e.on []).foldl (fun s j => if s.contains j then s else j :: s) s) []]) []

/-- The list of what must come ahead is sound. -/
def soundB (ops : Array Oper) (B : List (List Nat)) : Bool :=
  (List.range ops.size).all fun i => (B.getD i []).all fun j => match ops[i]? with
    | some o => o.after.any fun e => Region.binds .any e && (e.on == j || (B.getD e.on []).contains j)
    | none => false

/-- Whoever writes what an operation looks at comes surely ahead of it, or surely behind it; no two write one temporary; no choice among channels. -/
def apartB (ops : Array Oper) (B : List (List Nat)) : Bool :=
  (List.range ops.size).all fun i => (List.range ops.size).all fun j => match ops[i]?, ops[j]? with
    | some oi, some oj =>
      i == j || (match oj.dst with
        | some t => oi.dst != some t && (!(oi.looksAt ops).contains t || (decide (j < i) && (B.getD i []).contains j) || (decide (i < j) && (B.getD j []).contains i))
        | none => true)
    | _, _ => true

/-- Whatever waits waits for what stands ahead of it in the text. -/
def fwdB (ops : Array Oper) : Bool :=
  (List.range ops.size).all fun i => match ops[i]? with
    | some o => o.after.all fun e => !Region.binds .any e || decide (e.on < i)
    | none => true

theorem cnt_le {f : Nat → Bool} {m : Nat} (hf : ∀ k, f k = true → k < m) : ∀ n, (List.range n).countP f ≤ m
  | 0 => by simp
  | n + 1 => by
    rw [List.range_succ, List.countP_append]
    have h1 := cnt_le hf n
    have h2 := List.countP_le_length (p := f) (l := List.range n)
    simp only [List.length_range] at h2
    simp only [List.countP_cons, List.countP_nil]
    by_cases h : f n = true
    · have := hf n h
      rw [if_pos h]
      omega
    · rw [if_neg h]
      omega
theorem cnt_set {f g : Nat → Bool} {i : Nat} (hf : f i = false) (hg : g i = true) (he : ∀ k, k ≠ i → g k = f k) :
    ∀ n, (List.range n).countP g = (List.range n).countP f + if i < n then 1 else 0
  | 0 => by simp
  | n + 1 => by
    rw [List.range_succ, List.countP_append, List.countP_append, cnt_set hf hg he n]
    by_cases h : n = i
    · subst h
      simp [hf, hg]
    · simp only [List.countP_cons, List.countP_nil, he n h]
      by_cases h2 : i < n
      · rw [if_pos h2, if_pos (show i < n + 1 by omega), Nat.add_right_comm]
      · rw [if_neg h2, if_neg (show ¬ i < n + 1 by omega), Nat.add_right_comm]

/-- The values put one behind the other, in the order of the text. -/
def puts (vals : Nat → Value) : List Oper → Nat → Act → Act
  | [], _, A => A
  | o :: os, i, A => puts vals os (i + 1) (A.put o.dst (vals i))

theorem put_size (A : Act) (d : Option Tmp) (v : Value) : (A.put d v).tmps.size = A.tmps.size := by
  cases d <;> simp [Act.put]
theorem put_defers' (A : Act) (d : Option Tmp) (v : Value) : (A.put d v).defers = A.defers := by
  cases d <;> rfl
theorem puts_size (vals : Nat → Value) : ∀ (os : List Oper) (i : Nat) (A : Act), (puts vals os i A).tmps.size = A.tmps.size
  | [], _, _ => rfl
  | o :: os, i, A => by rw [puts, puts_size, put_size]
theorem puts_defers (vals : Nat → Value) : ∀ (os : List Oper) (i : Nat) (A : Act), (puts vals os i A).defers = A.defers
  | [], _, _ => rfl
  | o :: os, i, A => by rw [puts, puts_defers, put_defers']

theorem put_get (A : Act) (d : Option Tmp) (v : Value) (t : Nat) : (A.put d v).tmps[t]? = if d = some t ∧ t < A.tmps.size then some v else A.tmps[t]? := by
  cases d with
  | none => simp [Act.put]
  | some d =>
    simp only [Act.put, Array.getElem?_setIfInBounds, Option.some.injEq]
    by_cases h : d = t
    · subst h
      by_cases h2 : d < A.tmps.size
      · simp [h2]
      · simp [h2]
    · simp [h]

/-- What stands in a temporary behind the puts. -/
theorem puts_get (vals : Nat → Value) (t : Nat) : ∀ (os : List Oper) (i : Nat) (A : Act),
    (∀ (k l : Nat) (o o' : Oper), os[k]? = some o → os[l]? = some o' → o.dst = some t → o'.dst = some t → k = l) →
    (∀ (k : Nat) (o : Oper), os[k]? = some o → o.dst = some t → (puts vals os i A).tmps[t]? = if t < A.tmps.size then some (vals (i + k)) else none) ∧
    ((∀ (k : Nat) (o : Oper), os[k]? = some o → o.dst ≠ some t) → (puts vals os i A).tmps[t]? = A.tmps[t]?)
  | [], i, A, _ => ⟨fun k o h => by simp at h, fun _ => rfl⟩
  | o :: os, i, A, hu => by
    obtain ⟨h1, h2⟩ := puts_get vals t os (i + 1) (A.put o.dst (vals i)) (fun k l a b ha hb hda hdb => by
      have := hu (k + 1) (l + 1) a b (by simpa using ha) (by simpa using hb) hda hdb
      omega)
    refine ⟨fun k o' hk hd => ?_, fun hn => ?_⟩
    · cases k with
      | zero =>
        obtain rfl : o = o' := by simpa using hk
        rw [puts, h2 (fun k o' hk' hd' => by
          have := hu 0 (k + 1) o o' rfl (by simpa using hk') hd hd'
          omega), put_get]
        by_cases hlt : t < A.tmps.size
        · simp [hd, hlt]
        · simp [hlt]
      | succ k =>
        rw [puts, h1 k o' (by simpa using hk) hd, put_size]
        simp only [Nat.add_assoc, Nat.add_comm 1 k]
    · rw [puts, h2 (fun k o' hk => hn (k + 1) o' (by simpa using hk)), put_get, if_neg (fun h => hn 0 o rfl h.1)]

theorem take_get {α : Type} {l : List α} {i k : Nat} {o : α} (h : (l.take i)[k]? = some o) : k < i ∧ l[k]? = some o := by
  rw [List.getElem?_take] at h
  split at h
  · exact ⟨by assumption, h⟩
  · cases h

/-- Out of 'Par': each step at its own place in the text. -/
theorem Par.step {B : List (List Nat)} {vals : Nat → Value} : ∀ {os : List Oper} {i : Nat} {A : Act} {done ps : List Post}, Par P ops Q F R w0 B vals os i A done ps → done.length = i →
    (∀ k p, ps[k]? = some p → p.val (vals (i + k)) = vals (i + k)) →
    os.length = ps.length ∧
    (∀ k o p, os[k]? = some o → ps[k]? = some p → (∀ v w w', p.holds v w → R w w' → p.holds v w') ∧
      ∀ w, R w0 w → Deps B (i + k) (done ++ ps.take k) vals w → Step P ops Q R o (puts vals (os.take k) i A) w p) ∧
    (∀ w, R w0 w → (∀ j, j < (done ++ ps).length → ((done ++ ps).getD j (.rel fun _ _ => True)).holds (vals j) w) → F (puts vals os i A) w) := by
  intro os
  induction os with
  | nil =>
    intro i A done ps h hi hv
    cases ps with
    | nil => exact ⟨rfl, fun k o p hk => by simp at hk, by simpa [puts, Par] using h⟩
    | cons p ps => exact absurd h (by simp [Par])
  | cons o os ih =>
    intro i A done ps h hi hv
    cases ps with
    | nil => exact absurd h (by simp [Par])
    | cons p ps =>
      obtain ⟨hst, hs, hr⟩ := h
      have hv0 : p.val (vals i) = vals i := by simpa using hv 0 p rfl
      rw [hv0] at hr
      obtain ⟨hl, hk, hf⟩ := ih hr (by simp [hi]) (fun k q hq => by
        have := hv (k + 1) q (by simpa using hq)
        rw [show i + 1 + k = i + (k + 1) by omega]
        exact this)
      refine ⟨by simp [hl], fun k o' p' ho hp => ?_, fun w hR hall => ?_⟩
      · cases k with
        | zero =>
          obtain rfl : o = o' := by simpa using ho
          obtain rfl : p = p' := by simpa using hp
          exact ⟨hst, fun w hR hd => by simpa [puts] using hs w hR (by simpa using hd)⟩
        | succ k =>
          have := hk k o' p' (by simpa using ho) (by simpa using hp)
          refine ⟨this.1, fun w hR hd => ?_⟩
          have e : i + 1 + k = i + (k + 1) := by omega
          have := this.2 w hR (by rw [e]; simpa using hd)
          simpa [puts] using this
      · rw [puts]
        exact hf w hR (by simpa using hall)

/-- Where two states agree on all that an operation looks at. -/
theorem step_to {o : Oper} {A a : Act} {w : World} {p : Post} (hs : Step P ops (Calm Q) R o A w p) (hsel : ∀ cs b, o.op ≠ .select cs b)
    (he : execOp a.eval o = execOp A.eval o)
    (hw : Region.wanted o (yielded ops a.tmps) = Region.wanted o (yielded ops A.tmps)) (hsz : a.tmps.size = A.tmps.size)
    {i : Nat} (hi : ops[i]? = some o) {K : Act → World → Prop} (hK : ∀ v w', R w w' → p.holds v w' → K (a.put o.dst v) w') : wpOp P ops Q i K a w := by
  have h := hs (fun a' w' => ∃ v, a' = A.put o.dst v ∧ R w w' ∧ p.holds v w') (fun v w' h1 h2 => ⟨v, rfl, h1, h2⟩)
  have back : ∀ v u w', A.put o.dst v = A.put o.dst u → p.holds u w' → R w w' → K (a.put o.dst v) w' := by
    intro v u w' e hu hR
    cases hd : o.dst with
    | none => 
      have := hK u w' hR hu
      rw [hd] at this
      exact this
    | some d =>
      by_cases hlt : d < A.tmps.size
      · have h1 : (A.put o.dst v).tmps[d]? = (A.put o.dst u).tmps[d]? := by rw [e]
        rw [put_get, put_get, if_pos ⟨hd, hlt⟩, if_pos ⟨hd, hlt⟩] at h1
        obtain rfl := Option.some.inj h1
        have := hK v w' hR hu
        rwa [hd] at this
      · have h1 : a.put (some d) v = a.put (some d) u := by
          have hle : a.tmps.size ≤ d := by rw [hsz]; exact Nat.not_lt.1 hlt
          simp only [Act.put]
          rw [Array.setIfInBounds_eq_of_size_le hle, Array.setIfInBounds_eq_of_size_le hle]
        rw [h1]
        have := hK u w' hR hu
        rwa [hd] at this
  unfold wpOp
  simp only [hi]
  rw [hw]
  split
  · rename_i hwt
    rw [if_pos hwt] at h
    rcases h with h | ⟨h1, h2⟩
    · refine .inl ?_
      unfold Oper.wp at *
      rw [he]
      generalize (execOp A.eval o).run P w = r at *
      cases r with
      | ok n w' =>
        cases n <;> simp only [Oper.upon] at h ⊢
        case value v => obtain ⟨u, e, hR, hu⟩ := h; exact back v u w' e hu hR
        case skip => obtain ⟨u, e, hR, hu⟩ := h; exact back _ u w' e hu hR
        case defer d =>
          obtain ⟨u, e, hR, hu⟩ := h
          have h1 : (({ A with defers := d :: A.defers } : Act).put o.dst undef).defers = (A.put o.dst u).defers := by rw [e]
          rw [put_defers', put_defers'] at h1
          exact absurd (congrArg List.length h1) (by simp)
        case enter f args =>
          refine Calls.mono h fun e w'' hh => ?_
          cases e with
          | returned v => obtain ⟨u, e, hR, hu⟩ := hh; exact back v u w'' e hu hR
          | panicked c => exact (show False from hh).elim
          | outgrown => exact Calm.lets hh
        case row row args => exact Rows.mono h fun v w'' ⟨u, e, hR, hu⟩ => back v u w'' e hu hR
      | halt x w' =>
        cases x <;> simp only [Oper.upon] at h ⊢
        case panic u => exact (show False from h).elim
    · exact .inr ⟨by unfold Oper.asks at *; rw [he]; exact h1, Calm.lets h2⟩
  · rename_i hwt
    rw [if_neg hwt] at h
    obtain ⟨u, e, hR, hu⟩ := h
    exact back _ u w e hu hR

/-- Whoever stands in the tail waits for all that stands ahead of it. -/
def tailB (ops : Array Oper) (B : List (List Nat)) (m : Nat) : Bool :=
  (List.range ops.size).all fun i => decide (i < m) || (List.range i).all fun j => (B.getD i []).contains j

/-- From the tail on there is one order alone. -/
theorem tail_any {l : List Oper} {B : List (List Nat)} (hsound : soundB l.toArray B = true) (hfwd : fwdB l.toArray = true)
    (hdown : ∀ (i : Nat) (listed : Array Bool), i ∈ Region.ready .any l.toArray listed → (∀ k, listed.getD k false = true → ∀ j, (B.getD k []).contains j = true → listed.getD j false = true) → ∀ j, (B.getD i []).contains j = true → listed.getD j false = true) :
    ∀ (rest : List Oper) (m : Nat), l.drop m = rest → (∀ i, m ≤ i → i < l.length → ∀ j, j < i → (B.getD i []).contains j = true) →
    ∀ (fuel : Nat) (listed : Array Bool) (a : Act) (w : World), listed.size = l.length → (∀ k, listed.getD k false = true ↔ k < m ∧ k < l.length) →
      (∀ k, listed.getD k false = true → ∀ j, (B.getD k []).contains j = true → listed.getD j false = true) →
      l.length ≤ fuel + m → wpList P l.toArray Q rest a w → wpAny P .any l.toArray Q fuel listed a w := by
  intro rest
  induction rest with
  | nil =>
    intro m hd htl fuel listed a w hls hmem hdc hf h
    have hm : l.length ≤ m := List.drop_eq_nil_iff.1 hd
    have hr : Region.ready .any l.toArray listed = [] := by
      rw [List.eq_nil_iff_forall_not_mem]
      intro j hj
      obtain ⟨h0, o, ho, _⟩ := mem_ready.1 hj
      have hjl : j < l.length := by have := (Array.getElem?_eq_some_iff.1 ho).1; simpa using this
      have := (hmem j).2 ⟨by omega, hjl⟩
      simp [Array.getElem?_eq_getElem (show j < listed.size by omega)] at h0 this
      rw [h0] at this
      cases this
    exact wpAny_done hr h fuel
  | cons o rest ih =>
    intro m hd htl fuel listed a w hls hmem hdc hf h
    have hml : m < l.length := by
      have : (l.drop m).length = (o :: rest).length := by rw [hd]
      simp at this
      omega
    have hom : l[m]? = some o := by
      have : (l.drop m)[0]? = (o :: rest)[0]? := by rw [hd]
      simpa using this
    have hdm : l.drop (m + 1) = rest := by
      have : (l.drop m).drop 1 = (o :: rest).drop 1 := by rw [hd]
      simpa using this
    have hlm : listed.getD m false = false := by
      cases hc : listed.getD m false with
      | false => rfl
      | true => have := ((hmem m).1 hc).1; omega
    have hready : ∀ i, i ∈ Region.ready .any l.toArray listed → i = m := by
      intro i hi
      obtain ⟨h0, o', ho, _⟩ := mem_ready.1 hi
      have hil : i < l.length := by have := (Array.getElem?_eq_some_iff.1 ho).1; simpa using this
      have hli : listed.getD i false = false := by
        simp [Array.getElem?_eq_getElem (show i < listed.size by omega)] at h0 ⊢
        exact h0
      have hmi : m ≤ i := by
        rcases Nat.lt_or_ge i m with h1 | h1
        · have := (hmem i).2 ⟨h1, hil⟩; rw [hli] at this; cases this
        · exact h1
      rcases Nat.lt_or_ge m i with h1 | h1
      · have := hdown i listed hi hdc m (htl i hmi hil m h1)
        rw [hlm] at this
        cases this
      · omega
    have hin : m ∈ Region.ready .any l.toArray listed := by
      refine mem_ready.2 ⟨?_, o, by simpa using hom, fun e he hb => ?_⟩
      · simp [Array.getElem?_eq_getElem (show m < listed.size by omega)] at hlm ⊢
        exact hlm
      · simp only [fwdB, List.all_eq_true, List.mem_range, List.size_toArray] at hfwd
        have h1 := hfwd m hml
        rw [show l.toArray[m]? = some o by simpa using hom] at h1
        have h2 := Array.all_eq_true_iff_forall_mem.1 h1 e he
        simp only [hb, Bool.not_true, Bool.false_or, decide_eq_true_eq] at h2
        exact (hmem e.on).2 ⟨h2, by omega⟩
    cases fuel with
    | zero => omega
    | succ fuel =>
      refine ⟨fun hr => (by rw [hr] at hin; cases hin), fun i hi => ?_⟩
      obtain rfl := hready i hi
      unfold wpOp
      rw [show l.toArray[i]? = some o by simpa using hom]
      simp only
      have next : ∀ a w, wpList P l.toArray Q rest a w → wpAny P .any l.toArray Q fuel (listed.setIfInBounds i true) a w := by
        intro a w h
        have hnew : ∀ k, (listed.setIfInBounds i true).getD k false = true ↔ (k = i ∨ listed.getD k false = true) := by
          intro k
          by_cases hki : i = k
          · subst hki
            simp [hls, hml]
          · rw [getD_set_ne false hki]
            constructor
            · exact fun h => .inr h
            · rintro (h | h)
              · exact absurd h.symm hki
              · exact h
        refine ih (i + 1) hdm (fun k hk => htl k (by omega)) fuel _ a w (by simpa using hls) (fun k => ?_) (fun k hk j hj => ?_) (by omega) h
        · rw [hnew, hmem]
          constructor
          · rintro (h | h)
            · omega
            · omega
          · intro h
            by_cases hki : k = i
            · exact .inl hki
            · exact .inr ⟨by omega, h.2⟩
        · rw [hnew] at hk ⊢
          rcases hk with rfl | hk
          · exact .inr (hdown k listed hi hdc j hj)
          · exact .inr (hdc k hk j hj)
      unfold wpList at h
      split
      · rename_i hw
        rw [if_pos hw] at h
        exact h.imp (Oper.wp_mono next) id
      · rename_i hw
        rw [if_neg hw] at h
        exact next _ _ h

set_option maxHeartbeats 1600000 in
theorem wp_region_par {id : Nat} {l : List Oper} {a0 : Act} {w : World} (R : World → World → Prop) (B : List (List Nat)) (m : Nat) {ps : List Post}
    (hm : P.follows .mixedOrders = true) (hsel : Region.noSelect l.toArray = true) (hsound : soundB l.toArray B = true) (hfwd : fwdB l.toArray = true) (hapart : apartB l.toArray B = true)
    (htl : tailB l.toArray B m = true) (hrefl : ∀ w, R w w) (htrans : ∀ {a b c}, R a b → R b c → R a c)
    (H : ∀ vals, Par P l.toArray (Calm Q) (wpList P l.toArray Q (l.drop m)) R w.drew B vals (l.take m) 0 a0 [] ps) : (Code.region id l.toArray true).wp P Q a0 w := by
  refine wp_region_any hm ?_
  change wpAny P .any l.toArray Q l.toArray.size (Array.replicate l.toArray.size false) a0 w.drew
  generalize w.drew = w0 at *
  have hln : (l.take m).length = ps.length := by
    have := (Par.step (H fun i => (ps.getD i (.rel fun _ _ => True)).val undef) rfl (fun k p hp => by
      simp only [List.length_nil, Nat.zero_add, List.getD_eq_getElem?_getD, hp, Option.getD_some]
      cases p <;> rfl)).1
    exact this
  have htk : ∀ k, k < m → (l.take m)[k]? = l[k]? := fun k hk => List.getElem?_take_of_lt hk
  have htl' : ∀ i, m ≤ i → i < l.length → ∀ j, j < i → (B.getD i []).contains j = true := by
    intro i h1 h2 j h3
    simp only [tailB, List.all_eq_true, List.mem_range, List.size_toArray] at htl
    have := htl i h2
    simp only [Bool.or_eq_true, decide_eq_true_eq, List.all_eq_true, List.mem_range] at this
    rcases this with h | h
    · omega
    · exact h j h3
  have hdown : ∀ (i : Nat) (listed : Array Bool), i ∈ Region.ready .any l.toArray listed → (∀ k, listed.getD k false = true → ∀ j, (B.getD k []).contains j = true → listed.getD j false = true) → ∀ j, (B.getD i []).contains j = true → listed.getD j false = true := by
    intro i listed hi hdc j hj
    obtain ⟨h0, o, ho, hafter⟩ := mem_ready.1 hi
    have hil : i < l.length := by have := (Array.getElem?_eq_some_iff.1 ho).1; simpa using this
    simp only [soundB, List.all_eq_true, List.mem_range, List.size_toArray] at hsound
    have h1 := hsound i hil j (by simpa using hj)
    simp only [ho] at h1
    obtain ⟨e, he, hb⟩ := Array.any_eq_true'.1 h1
    simp only [Bool.and_eq_true, Bool.or_eq_true, beq_iff_eq] at hb
    have h2 := hafter e he hb.1
    rcases hb.2 with rfl | hb2
    · exact h2
    · exact hdc _ h2 j hb2
  have huniq : ∀ (t : Tmp) (k m : Nat) (o o' : Oper), l[k]? = some o → l[m]? = some o' → o.dst = some t → o'.dst = some t → k = m := by
    intro t k m o o' hk hm hd hd'
    by_cases e : k = m
    · exact e
    · have hk' : k < l.length := (List.getElem?_eq_some_iff.1 hk).1
      have hm' : m < l.length := (List.getElem?_eq_some_iff.1 hm).1
      simp only [apartB, List.all_eq_true, List.mem_range, List.size_toArray] at hapart
      have := hapart k hk' m hm'
      simp [hk, hm, hd', hd, e] at this
  -- the front is through
  have endg : ∀ (fuel : Nat) (listed : Array Bool) (a : Act) (w : World) (vals : Nat → Value), listed.size = l.length →
      (∀ k p, ps[k]? = some p → p.val (vals k) = vals k) → R w0 w →
      (∀ i, listed.getD i false = true → ∀ j, (B.getD i []).contains j = true → listed.getD j false = true) →
      (∀ k, listed.getD k false = true → k < m) →
      (∀ k p, listed.getD k false = true → ps[k]? = some p → p.holds (vals k) w) →
      a.tmps.size = a0.tmps.size → a.defers = a0.defers →
      (∀ (k : Nat) (o : Oper) (t : Tmp), l[k]? = some o → o.dst = some t → a.tmps[t]? = if listed.getD k false = true then (if t < a0.tmps.size then some (vals k) else none) else a0.tmps[t]?) →
      (∀ t : Tmp, (∀ (k : Nat) (o : Oper), l[k]? = some o → o.dst ≠ some t) → a.tmps[t]? = a0.tmps[t]?) →
      (∀ i, i < m → i < l.length → listed.getD i false = true) →
      l.length ≤ fuel + (List.range l.length).countP (fun i => listed.getD i false) → wpAny P .any l.toArray Q fuel listed a w := by
    intro fuel listed a w vals hls hn hR hdc hfr hh hsz hdf hput hold hall hcnt
    obtain ⟨_, _, hf⟩ := Par.step (H vals) rfl (fun k p hp => by simpa using hn k p hp)
    have hlow : ∀ k, listed.getD k false = true → k < l.length := by
      intro k hk
      rcases Nat.lt_or_ge k l.length with h | h
      · exact h
      · simp [Array.getElem?_eq_none (show listed.size ≤ k by omega)] at hk
    have := hf w hR (fun j hj => by
      simp only [List.nil_append] at hj ⊢
      rw [List.getD_eq_getElem?_getD, List.getElem?_eq_getElem hj]
      have hjm : j < m ∧ j < l.length := by
        have : j < (l.take m).length := by omega
        simp only [List.length_take] at this
        omega
      exact hh j _ (hall j hjm.1 hjm.2) (List.getElem?_eq_getElem hj))
    have e : a = puts vals (l.take m) 0 a0 := by
      have h1 : a.tmps = (puts vals (l.take m) 0 a0).tmps := by
        apply Array.ext_getElem?
        intro t
        obtain ⟨g1, g2⟩ := puts_get vals t (l.take m) 0 a0 (fun k n o o' hk hn => huniq t k n o o' (take_get hk).2 (take_get hn).2)
        by_cases hex : ∃ (k : Nat) (o : Oper), l[k]? = some o ∧ o.dst = some t
        · obtain ⟨k, o, hk, hd⟩ := hex
          rw [hput k o t hk hd]
          by_cases hkm : k < m
          · rw [g1 k o (by rw [htk k hkm]; exact hk) hd, if_pos (hall k hkm (List.getElem?_eq_some_iff.1 hk).1), Nat.zero_add]
          · rw [if_neg (fun h => hkm (hfr k h)), g2]
            intro n o' hn' hd'
            have := take_get hn'
            have := huniq t n k o' o this.2 hk hd' hd
            omega
        · have hno : ∀ (k : Nat) (o : Oper), l[k]? = some o → o.dst ≠ some t := fun k o hk hd => hex ⟨k, o, hk, hd⟩
          rw [hold t hno, g2 (fun k o hk => hno k o (take_get hk).2)]
      have h2 : a.defers = (puts vals (l.take m) 0 a0).defers := by rw [puts_defers, hdf]
      generalize puts vals (l.take m) 0 a0 = b at h1 h2
      cases a; cases b
      cases h1; cases h2
      rfl
    rw [← e] at this
    have hc := cnt_le (f := fun i => listed.getD i false) hfr l.length
    exact tail_any hsound hfwd hdown (l.drop m) m rfl htl' fuel listed a w hls (fun k => ⟨fun h => ⟨hfr k h, hlow k h⟩, fun h => hall k h.1 h.2⟩) hdc (by omega) this
  have main : ∀ (fuel : Nat) (listed : Array Bool) (a : Act) (w : World) (vals : Nat → Value), listed.size = l.length →
      (∀ k p, ps[k]? = some p → p.val (vals k) = vals k) → R w0 w →
      (∀ i, listed.getD i false = true → ∀ j, (B.getD i []).contains j = true → listed.getD j false = true) →
      (∀ k, listed.getD k false = true → k < m) →
      (∀ k p, listed.getD k false = true → ps[k]? = some p → p.holds (vals k) w) →
      a.tmps.size = a0.tmps.size → a.defers = a0.defers →
      (∀ (k : Nat) (o : Oper) (t : Tmp), l[k]? = some o → o.dst = some t → a.tmps[t]? = if listed.getD k false = true then (if t < a0.tmps.size then some (vals k) else none) else a0.tmps[t]?) →
      (∀ t : Tmp, (∀ (k : Nat) (o : Oper), l[k]? = some o → o.dst ≠ some t) → a.tmps[t]? = a0.tmps[t]?) →
      l.length ≤ fuel + (List.range l.length).countP (fun i => listed.getD i false) →
      wpAny P .any l.toArray Q fuel listed a w := by
    intro fuel
    induction fuel with
    | zero =>
      intro listed a w vals hls hn hR hdc hfr hh hsz hdf hput hold hcnt
      have hall : ∀ i, i < l.length → listed.getD i false = true := by
        intro i hi
        have h1 : (List.range l.length).countP (fun i => listed.getD i false) = (List.range l.length).length := by
          have := List.countP_le_length (p := fun i => listed.getD i false) (l := List.range l.length)
          simp only [List.length_range] at this ⊢
          omega
        exact List.countP_eq_length.1 h1 i (List.mem_range.2 hi)
      exact endg 0 listed a w vals hls hn hR hdc hfr hh hsz hdf hput hold (fun i _ hi => hall i hi) hcnt
    | succ fuel ih =>
      intro listed a w vals hls hn hR hdc hfr hh hsz hdf hput hold hcnt
      by_cases hall : ∀ i, i < m → i < l.length → listed.getD i false = true
      · exact endg (fuel + 1) listed a w vals hls hn hR hdc hfr hh hsz hdf hput hold hall hcnt
      refine ⟨fun hr => ?_, fun i hi => ?_⟩
      · -- nothing may come up: all has
        exfalso
        have hmin : ∀ n i, i ≤ n → i < l.length → listed.getD i false = true := by
          intro n
          induction n using Nat.strongRecOn with
          | ind n ihn =>
            intro i hin hil
            cases hli : listed.getD i false with
            | true => rfl
            | false =>
              exfalso
              have : i ∈ Region.ready .any l.toArray listed := by
                refine mem_ready.2 ⟨?_, l[i], by simp, fun e he hb => ?_⟩
                · simp [Array.getElem?_eq_getElem (show i < listed.size by omega)] at hli ⊢
                  exact hli
                · simp only [fwdB, List.all_eq_true, List.mem_range, List.size_toArray] at hfwd
                  have h1 := hfwd i hil
                  rw [show l.toArray[i]? = some l[i] by simp] at h1
                  have h2 := Array.all_eq_true_iff_forall_mem.1 h1 e he
                  simp only [hb, Bool.not_true, Bool.false_or, decide_eq_true_eq] at h2
                  by_cases hn0 : e.on < n
                  · exact ihn e.on hn0 e.on (Nat.le_refl _) (by omega)
                  · omega
              rw [hr] at this
              cases this
        exact hall fun i _ hi => hmin i i (Nat.le_refl _) hi
      · obtain ⟨h0, o, ho, hafter⟩ := mem_ready.1 hi
        have hlo : l[i]? = some o := by simpa using ho
        have hil : i < l.length := (List.getElem?_eq_some_iff.1 hlo).1
        have hli : listed.getD i false = false := by
          simp [Array.getElem?_eq_getElem (show i < listed.size by omega)] at h0 ⊢
          exact h0
        -- those that must come ahead have come
        have hB := hdown i listed hi hdc
        have him : i < m := by
          rcases Nat.lt_or_ge i m with h | h
          · exact h
          · exact absurd (fun k hk _ => hB k (htl' i h hil k (by omega))) hall
        obtain ⟨p, hp⟩ : ∃ p, ps[i]? = some p := ⟨_, List.getElem?_eq_getElem (by
          have : i < (l.take m).length := by simp only [List.length_take]; omega
          omega)⟩
        obtain ⟨_, hk, _⟩ := Par.step (H vals) rfl (fun k p hp => by simpa using hn k p hp)
        obtain ⟨hst, hs⟩ := hk i o p (by rw [htk i him]; exact hlo) hp
        have hdeps : Deps B (0 + i) ([] ++ ps.take i) vals w := by
          intro j hj
          rw [Nat.zero_add] at hj
          have h1 := hB j hj
          simp only [List.nil_append, List.getD_eq_getElem?_getD]
          by_cases hji : j < i
          · have hjp : j < ps.length := by
              have := (List.getElem?_eq_some_iff.1 hp).1
              omega
            rw [List.getElem?_take_of_lt hji, List.getElem?_eq_getElem hjp]
            exact hh j _ h1 (List.getElem?_eq_getElem hjp)
          · rw [List.getElem?_eq_none (by simp; omega)]
            trivial
        have hS := hs w hR hdeps
        rw [List.take_take, Nat.min_eq_left (Nat.le_of_lt him)] at hS
        have hsel' : ∀ cs b, o.op ≠ .select cs b := fun cs b => Region.noSelect_spec hsel i o cs b ho
        -- what it looks at stands there
        have hlook : ∀ t, t ∈ o.looksAt l.toArray → a.tmps[t]? = (puts vals (l.take i) 0 a0).tmps[t]? := by
          intro t ht
          obtain ⟨g1, g2⟩ := puts_get vals t (l.take i) 0 a0 (fun k m o o' hk hm => huniq t k m o o' (take_get hk).2 (take_get hm).2)
          by_cases hex : ∃ (k : Nat) (o' : Oper), l[k]? = some o' ∧ o'.dst = some t
          · obtain ⟨k, o', hk, hd⟩ := hex
            have hkl : k < l.length := (List.getElem?_eq_some_iff.1 hk).1
            rw [hput k o' t hk hd]
            by_cases hki : k = i
            · subst hki
              rw [hli]
              simp only [Bool.false_eq_true, if_false]
              rw [g2]
              intro m o'' hm hd'
              have hmi := (take_get hm).1
              have := huniq t k m o' o'' hk (take_get hm).2 hd hd'
              omega
            · simp only [apartB, List.all_eq_true, List.mem_range, List.size_toArray] at hapart
              have h1 := hapart i hil k hkl
              simp only [ho, List.getElem?_toArray, hk, hd, Bool.or_eq_true, beq_iff_eq, Bool.and_eq_true, bne_iff_ne, Bool.not_eq_true', decide_eq_true_eq] at h1
              rcases h1 with h1 | ⟨_, (h1 | ⟨h1, h2⟩) | ⟨h1, h2⟩⟩
              · exact absurd h1.symm hki
              · exact absurd (by simpa using ht) (by simpa using h1)
              · rw [if_pos (hB k h2), g1 k o' (by rw [List.getElem?_take_of_lt h1]; exact hk) hd, Nat.zero_add]
              · have hlk : listed.getD k false = false := by
                  cases hc : listed.getD k false with
                  | false => rfl
                  | true => have := hdc k hc i h2; rw [hli] at this; cases this
                rw [hlk]
                simp only [Bool.false_eq_true, if_false]
                rw [g2]
                intro m o'' hm hd'
                have hmi := (take_get hm).1
                have := huniq t k m o' o'' hk (take_get hm).2 hd hd'
                omega
          · have hno : ∀ (k : Nat) (o' : Oper), l[k]? = some o' → o'.dst ≠ some t := fun k o' hk hd => hex ⟨k, o', hk, hd⟩
            rw [hold t hno, g2 (fun k o' hk => hno k o' (take_get hk).2)]
        have heval : ∀ x ∈ o.op.operands, a.eval x = (puts vals (l.take i) 0 a0).eval x := by
          intro x hx
          cases x with
          | tmp t =>
            have := hlook t (List.mem_append_left _ (List.mem_filterMap.2 ⟨.tmp t, by simpa using hx, rfl⟩))
            simp only [Act.eval, Array.getD_eq_getD_getElem?, this]
          | _ => rfl
        have hwant : Region.wanted o (yielded l.toArray a.tmps) = Region.wanted o (yielded l.toArray (puts vals (l.take i) 0 a0).tmps) := by
          unfold Region.wanted
          cases hg : o.guard with
          | none => rfl
          | some gw =>
            obtain ⟨g, want⟩ := gw
            have hy : yielded l.toArray a.tmps g = yielded l.toArray (puts vals (l.take i) 0 a0).tmps g := by
              unfold yielded
              cases ht : (l.toArray[g]?).bind (·.dst) with
              | none => simp only [Option.bind_none]
              | some t =>
                have := hlook t (List.mem_append_right _ (by simp only [hg, ht, Option.toList_some, List.mem_singleton]))
                simp only [Option.bind_some, this]
            simp only [hy]
        refine step_to hS hsel' (execOp_congr o hsel' heval) hwant (by rw [puts_size]; exact hsz) ho ?_
        intro v w' hRw hpv
        have hnew : ∀ k, (listed.setIfInBounds i true).getD k false = true ↔ (k = i ∨ listed.getD k false = true) := by
          intro k
          by_cases hki : i = k
          · subst hki
            simp [hls, hil]
          · rw [getD_set_ne false hki]
            constructor
            · exact fun h => .inr h
            · rintro (h | h)
              · exact absurd h.symm hki
              · exact h
        refine ih (listed.setIfInBounds i true) (a.put o.dst v) w' (fun k => if k = i then v else vals k) (by simpa using hls) ?_ (htrans hR hRw) ?_ ?_ ?_ (by rw [put_size]; exact hsz) (by rw [put_defers']; exact hdf) ?_ ?_ ?_
        · intro k q hq
          split
          · rename_i hki
            subst hki
            obtain rfl := Option.some.inj (hp.symm.trans hq)
            cases p with
            | exact e => simp only [Post.holds] at hpv; subst hpv; rfl
            | rel G => rfl
          · exact hn k q hq
        · intro k hk' j hj
          rw [hnew] at hk' ⊢
          rcases hk' with rfl | hk'
          · exact .inr (hB j hj)
          · exact .inr (hdc k hk' j hj)
        · intro k hk'
          rw [hnew] at hk'
          rcases hk' with rfl | hk'
          · exact him
          · exact hfr k hk'
        · intro k q hk' hq
          split
          · rename_i hki
            subst hki
            obtain rfl := Option.some.inj (hp.symm.trans hq)
            exact hpv
          · rename_i hki
            rw [hnew] at hk'
            have hk2 := hk'.resolve_left hki
            have := hh k q hk2 hq
            obtain ⟨o2, ho2⟩ : ∃ o2, (l.take m)[k]? = some o2 := ⟨_, List.getElem?_eq_getElem (by rw [hln]; exact (List.getElem?_eq_some_iff.1 hq).1)⟩
            exact (hk k o2 q ho2 hq).1 _ _ _ this hRw
        · intro k o' t hk' hd
          rw [put_get]
          by_cases hki : k = i
          · subst hki
            obtain rfl := Option.some.inj (hlo.symm.trans hk')
            rw [if_pos ((hnew k).2 (.inl rfl))]
            by_cases hlt : t < a0.tmps.size
            · simp [hd, hlt, hsz]
            · simp only [hd, hsz, hlt, and_false, if_false]
              rw [Array.getElem?_eq_none (show a.tmps.size ≤ t by rw [hsz]; exact Nat.not_lt.1 hlt)]
          · have hne : o.dst ≠ some t := fun e => hki (huniq t k i o' o hk' hlo hd e)
            rw [if_neg (fun h => hne h.1), hput k o' t hk' hd]
            have : ((listed.setIfInBounds i true).getD k false = true) ↔ (listed.getD k false = true) := by
              rw [hnew]; exact ⟨fun h => h.resolve_left hki, .inr⟩
            by_cases hl : listed.getD k false = true
            · rw [if_pos hl, if_pos (this.2 hl), if_neg hki]
            · rw [if_neg hl, if_neg (fun h => hl (this.1 h))]
        · intro t ht
          rw [put_get, if_neg (fun h => ht i o hlo h.1)]
          exact hold t ht
        · have h1 := cnt_set (f := fun k => listed.getD k false) (g := fun k => (listed.setIfInBounds i true).getD k false) hli ((hnew i).2 (.inl rfl))
            (fun k hk => getD_set_ne false (fun e => hk e.symm)) l.length
          rw [if_pos hil] at h1
          omega
  have hrep : ∀ k, (Array.replicate l.toArray.size false).getD k false = false := by
    intro k
    simp only [Array.getD_eq_getD_getElem?, Array.getElem?_replicate]
    split <;> rfl
  refine main l.toArray.size _ a0 w0 (fun i => (ps.getD i (.rel fun _ _ => True)).val undef) (by simp) ?_ (hrefl _) ?_ ?_ ?_ rfl rfl ?_ (fun _ _ => rfl) (by simp)
  · intro k p hp
    simp only [List.getD_eq_getElem?_getD, hp, Option.getD_some]
    cases p <;> rfl
  · intro i hi
    rw [hrep] at hi
    cases hi
  · intro i hi
    rw [hrep] at hi
    cases hi
  · intro k p hk
    rw [hrep] at hk
    cases hk
  · intro k o t hk hd
    rw [hrep, if_neg (by simp)]

variable {B : List (List Nat)} {vals : Nat → Value} {o : Oper} {os : List Oper} {i : Nat} {A : Act} {done ps : List Post}

theorem wp_region_pars {id : Nat} {l : List Oper} {a0 : Act} {w : World} (R : World → World → Prop) (m : Nat)
    (hm : P.follows .mixedOrders = true) (hsel : Region.noSelect l.toArray = true) (hsound : soundB l.toArray (befs l.toArray) = true) (hfwd : fwdB l.toArray = true) (hapart : apartB l.toArray (befs l.toArray) = true)
    (htl : tailB l.toArray (befs l.toArray) m = true) (hrefl : ∀ w, R w w) (htrans : ∀ {a b c}, R a b → R b c → R a c) {ps : List Post}
    (H : ∀ vals, Par P l.toArray (Calm Q) (wpList P l.toArray Q (l.drop m)) R w.drew (befs l.toArray) vals (l.take m) 0 a0 [] ps) : (Code.region id l.toArray true).wp P Q a0 w :=
  wp_region_par R (befs l.toArray) m hm hsel hsound hfwd hapart htl hrefl htrans H

/-- An operation that yields the very value e. -/
theorem par_x {e : Value} (hg : o.guard = none)
    (h : ∀ w, R w0 w → Deps B i done vals w → ∀ K : Act → World → Prop, (∀ w', R w w' → K (A.put o.dst e) w') → o.wp P A w K Q)
    (t : Par P ops Q F R w0 B vals os (i + 1) (A.put o.dst e) (done ++ [.exact e]) ps) : Par P ops Q F R w0 B vals (o :: os) i A done (.exact e :: ps) :=
  ⟨fun _ _ _ h _ => h, fun w hR hD K hK => by
    rw [if_pos (by simp [Region.wanted, hg])]
    exact .inl (h w hR hD K fun w' h' => hK e w' h' rfl), t⟩

/-- The same of a guarded one. -/
theorem par_g {e : Value}
    (h : ∀ w, R w0 w → Deps B i done vals w → ∀ K : Act → World → Prop, (∀ w', R w w' → K (A.put o.dst e) w') → if Region.wanted o (yielded ops A.tmps) = true then o.wp P A w K Q else K (A.put o.dst undef) w)
    (t : Par P ops Q F R w0 B vals os (i + 1) (A.put o.dst e) (done ++ [.exact e]) ps) : Par P ops Q F R w0 B vals (o :: os) i A done (.exact e :: ps) :=
  ⟨fun _ _ _ h _ => h, fun w hR hD K hK => by
    have := h w hR hD K fun w' h' => hK e w' h' rfl
    split
    · rename_i hw; rw [if_pos hw] at this; exact .inl this
    · rename_i hw; rw [if_neg hw] at this; exact this, t⟩

/-- An operation of whose value G is known, and stays so. -/
theorem par_r (G : Value → World → Prop) (hg : o.guard = none) (hst : ∀ v w w', G v w → R w w' → G v w')
    (h : ∀ w, R w0 w → Deps B i done vals w → ∀ K : Act → World → Prop, (∀ v w', R w w' → G v w' → K (A.put o.dst v) w') → o.wp P A w K Q)
    (t : Par P ops Q F R w0 B vals os (i + 1) (A.put o.dst (vals i)) (done ++ [.rel G]) ps) : Par P ops Q F R w0 B vals (o :: os) i A done (.rel G :: ps) :=
  ⟨hst, fun w hR hD K hK => by
    rw [if_pos (by simp [Region.wanted, hg])]
    exact .inl (h w hR hD K hK), t⟩

/-- The end of the front. -/
theorem par_end (h : ∀ w, R w0 w → (∀ j, j < done.length → (done.getD j (.rel fun _ _ => True)).holds (vals j) w) → F A w) : Par P ops Q F R w0 B vals [] i A done [] := h
end
end Go.Par
