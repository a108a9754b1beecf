/-
  THE SHADOW MACHINE, PART LP: loops, by what holds at the head of each round.
-/
import Derived.Test.YteohbocjhfcbdaaShFu
namespace Go.Sh
set_option linter.unusedSectionVars false
set_option linter.unnecessarySimpa false
set_option linter.unusedSimpArgs false
set_option linter.unusedVariables false
def post {A : Type} (v : Option A) (Q : A → Prop) : Prop := ∃ o, v = some o ∧ Q o
theorem post_fork {A : Type} {b : Bool} {x y : Option A} {t : Tok (x, y)} {Q : A → Prop} (h1 : b = true → post x Q) (h2 : b = false → post y Q) : post (fork b x y t) Q := by
  cases b
  · exact h2 rfl
  · exact h1 rfl
@[go_sem] theorem post_some {A : Type} (o : A) (Q : A → Prop) : post (some o) Q = Q o := by
  apply propext
  exact ⟨fun ⟨o', h1, h2⟩ => by cases h1; exact h2, fun h => ⟨o, rfl, h⟩⟩
theorem post_eq {A : Type} {v : Option A} {o : A} {Q : A → Prop} (h : v = some o) (hq : Q o) : post v Q := ⟨o, h, hq⟩
@[go_sem] theorem virt_nil (e H) : virt1 [] e H = some (e, H) := Eq.trans rfl rfl
def virt2 (r : List (Nat × Nat)) (t z : Nat) (e : Env) (H : Heap) : SV → Option (Env × Heap)
  | .lst _ [] true => virt1 r ((t, .slc H.bl.length 0 0 0) :: e) (hnew H (.arr 0 z [] false))
  | _ => none
@[go_sem] theorem virt_cons (t z r e H) : virt1 ((t, z) :: r) e H = virt2 r t z e H (get e t) := by
  simp only [virt1, virt2]
  generalize get e t = v
  cases v <;> rfl
@[go_sem] theorem virt2_nil (t z z' r e H) : virt2 r t z e H (.lst z' [] true) = virt1 r ((t, .slc H.bl.length 0 0 0) :: e) (hnew H (.arr 0 z [] false)) := Eq.trans rfl rfl
@[go_sem] theorem head1_eq (p N H0 e H) : head1 p N H0 (e, H) = bif decide (SV.refs.refsL ((live1 p.live e).map (·.2)) ≤ N) then (trunc N H0 H).map (fun H => (live1 p.live e, H)) else none := Eq.trans rfl rfl
@[go_sem] theorem live_nil (e) : live1 [] e = [] := Eq.trans rfl rfl
@[go_sem] theorem live_cons (i l e) : live1 (i :: l) e = (i, get e i) :: live1 l e := Eq.trans rfl rfl
@[go_sem] theorem trunc_nil (N r bl r' es) : trunc N ⟨r, es, r'⟩ ⟨bl, [], 0⟩ = bif decide (N ≤ bl.length) then some ⟨bl.take N, es, r'⟩ else none := by
  unfold trunc
  simp
@[go_sem] theorem trunc_eq (N H0 H) : trunc N H0 H = bif decide (N ≤ H.bl.length) && H.esc.all (fun p => !(decide (p.1 < N) && decide (N < p.2))) then some { bl := H.bl.take N, esc := H0.esc ++ H.esc.filter (fun p => decide (p.1 < N)), ro := H0.ro } else none := Eq.trans rfl rfl
attribute [go_sem] List.all_nil List.all_cons List.filter_nil List.filter_cons_of_pos List.take_length
@[go_sem] theorem sa_lst (z L f ix) : siaddr (.lst z L f) ix = (sidx L.length ix).bind fun i => (L[i]?).map .eptr := Eq.trans rfl rfl
@[go_sem] theorem sa_slc (b v off n ix) : siaddr (.slc b v off n) ix = (sidx n ix).map fun i => .ptr b v (off + i) 0 := Eq.trans rfl rfl
@[go_sem] theorem si_int (n k i) : sidx n (.int k i) = bif decide (0 ≤ i) && decide (i < (n : Int)) then some i.toNat else none := Eq.trans rfl rfl
@[go_sem] theorem nn_dec (i : Nat) : decide ((0 : Int) ≤ (i : Int)) = true := by simp
@[go_sem] theorem lt_dec (i n : Nat) : decide ((i : Int) < (n : Int)) = decide (i < n) := by simp
/-- A pure call answers the same in any heap. -/
theorem pure_any {T : FuncId → Option Fun1} {f : FuncId} {F : Fun1} {xs : List SV} {n : Nat} {H H0 H1 : Heap} {v : SV} (hT : T f = some F) (hp : pure0 F xs = true)
    (h : call1 T (n + 1) (.fn f) xs H0 = some (v, H1)) : call1 T (n + 1) (.fn f) xs H = some (v, H) := by
  simp only [call1, hT, hp, cond_true, Option.map_eq_some_iff] at h ⊢
  obtain ⟨a, h1, h2⟩ := h
  cases h2
  exact ⟨_, h1, rfl⟩
/-- What holds behind a round. -/
def Round {R : Type} (p : LoopPol) (N : Nat) (H0 : Heap) (σ : Nat → Env × Heap) (P : Nat → Prop) (m i : Nat) (k : Out → Option R) (r : Option R) (o : Out) : Prop := match o with
  | (.normal, s') => i < m ∧ head1 p N H0 s' = some (σ (i + 1)) ∧ P (i + 1)
  | o => k o = r
@[go_sem] theorem round_n {R : Type} (p N H0 σ P m i) (k : Out → Option R) (r s) : Round p N H0 σ P m i k r (.normal, s) = (i < m ∧ head1 p N H0 s = some (σ (i + 1)) ∧ P (i + 1)) := Eq.trans rfl rfl
@[go_sem] theorem round_x {R : Type} (p N H0 σ P m i) (k : Out → Option R) (r j s) : Round p N H0 σ P m i k r (.exit j, s) = (k (.exit j, s) = r) := Eq.trans rfl rfl
@[go_sem] theorem round_r {R : Type} (p N H0 σ P m i) (k : Out → Option R) (r s) : Round p N H0 σ P m i k r (.ret, s) = (k (.ret, s) = r) := Eq.trans rfl rfl
theorem loop_rule {R : Type} {p : LoopPol} {N : Nat} {H0 : Heap} {rec : Rec} {a : Code1} {s0 : Env × Heap} {k : Out → Option R} {r : Option R}
    (σ : Nat → Env × Heap) (P : Nat → Prop) (m : Nat) (h0 : head1 p N H0 s0 = some (σ 0)) (hP : P 0)
    (h : ∀ i, i ≤ m → P i → post (runK rec (fun x e H => some (x, e, H)) a [] (σ i).1 (σ i).2 ()) (Round p N H0 σ P m i k r)) :
    onSome (loop1 (roundF p N H0 rec a) s0) k () = r := by
  have key : ∀ (j i : Nat) (s : Env × Heap), i + j = m → P i → head1 p N H0 s = some (σ i) → ∃ n o, iter1 (roundF p N H0 rec a) n s = some o ∧ k o = r := by
    intro j
    induction j with
    | zero =>
      intro i s hi hPi hs
      obtain ⟨o, h1, h2⟩ := h i (by omega) hPi
      have hf : roundF p N H0 rec a s = some o := by rw [roundF_eq, hs]; exact h1
      obtain ⟨x, s'⟩ := o
      cases x with
      | normal => exact absurd h2.1 (by omega)
      | exit id => exact ⟨1, _, by simp only [iter1, hf], h2⟩
      | ret => exact ⟨1, _, by simp only [iter1, hf], h2⟩
    | succ j ih =>
      intro i s hi hPi hs
      obtain ⟨o, h1, h2⟩ := h i (by omega) hPi
      have hf : roundF p N H0 rec a s = some o := by rw [roundF_eq, hs]; exact h1
      obtain ⟨x, s'⟩ := o
      cases x with
      | normal =>
        obtain ⟨n, o, h3, h4⟩ := ih (i + 1) s' (by omega) h2.2.2 h2.2.1
        exact ⟨n + 1, o, by simp only [iter1, hf]; exact h3, h4⟩
      | exit id => exact ⟨1, _, by simp only [iter1, hf], h2⟩
      | ret => exact ⟨1, _, by simp only [iter1, hf], h2⟩
  obtain ⟨n, o, h1, h2⟩ := key m 0 s0 (by omega) hP h0
  exact loop_in o (loop1_of h1) h2
/-! ### The least index at which a predicate holds -/
def idx1 {A : Type} (p : A → Bool) : List A → Int
  | [] => -1
  | a :: l => if p a then 0 else if idx1 p l < 0 then -1 else idx1 p l + 1
theorem idx1_any {A : Type} (p : A → Bool) : ∀ l : List A, decide (0 ≤ idx1 p l) = l.any p
  | [] => rfl
  | a :: l => by
    have ih := idx1_any p l
    rw [Bool.eq_iff_iff, decide_eq_true_eq] at ih ⊢
    simp only [idx1, List.any_cons, Bool.or_eq_true, ← ih]
    by_cases hp : p a = true
    · simp [hp]
    · rw [if_neg hp]
      simp only [hp, Bool.false_eq_true, false_or]
      split <;> omega
theorem idx1_none {A : Type} {p : A → Bool} : ∀ {l : List A}, (∀ (j : Nat) a, l[j]? = some a → p a = false) → idx1 p l = -1
  | [], _ => rfl
  | a :: l, h => by
    have h0 := h 0 a rfl
    have ih := idx1_none (l := l) (fun j b hb => h (j + 1) b (by simpa using hb))
    simp [idx1, h0, ih]
theorem idx1_at {A : Type} {p : A → Bool} : ∀ {l : List A} {i : Nat} {a : A}, l[i]? = some a → p a = true → (∀ (j : Nat) b, j < i → l[j]? = some b → p b = false) → idx1 p l = i
  | [], i, a, h, _, _ => by simp at h
  | b :: l, 0, a, h, hp, _ => by simp at h; subst h; simp [idx1, hp]
  | b :: l, i + 1, a, h, hp, hn => by
    have h0 := hn 0 b (by omega) rfl
    have ih := idx1_at (l := l) (i := i) (by simpa using h) hp (fun j c hj hc => hn (j + 1) c (by omega) (by simpa using hc))
    simp only [idx1, h0, ih, Bool.false_eq_true, if_false]
    rw [if_neg (by omega)]
    omega
/-! ### A law's arguments, apart -/
theorem fitsAll_cons {a : Bool × List DT} {as : List (Bool × List DT)} {xs : List SV} (h : FitsAll (a :: as) xs) : ∃ x r, xs = x :: r ∧ FitsA a x ∧ FitsAll as r := by
  obtain ⟨h1, h2⟩ := h
  cases xs with
  | nil => simp at h1
  | cons x r => exact ⟨x, r, rfl, h2 0 a x rfl rfl, by simpa using h1, fun j a' x' ha hx => h2 (j + 1) a' x' ha hx⟩
theorem fitsAll_nil {xs : List SV} (h : FitsAll [] xs) : xs = [] := List.eq_nil_of_length_eq_zero h.1
theorem fitsA_agg {es : List DT} {x : SV} (h : FitsA (true, es) x) : ∃ cs, x = .agg cs ∧ FitsL es cs := h
theorem fitsA_one {e : DT} {x : SV} (h : FitsA (false, [e]) x) : Fits e x := by
  obtain ⟨e', h1, h2⟩ := h
  cases h1
  exact h2
theorem fitsL_i {k : IntKind} {es : List DT} {cs : List SV} (h : FitsL (.int k :: es) cs) : ∃ n r, cs = .int k n :: r ∧ (Lit.int k n).wf = true ∧ FitsL es r := by
  obtain ⟨c, r, rfl, h1, h2⟩ := fitsL_cons h
  obtain ⟨n, rfl, h3⟩ := fits_int h1
  exact ⟨n, r, rfl, h3, h2⟩
theorem fitsL_l {es' es : List DT} {cs : List SV} (h : FitsL (.lst es' :: es) cs) : ∃ L f r, cs = .lst es'.length L f :: r ∧ L.length ≤ maxLen ∧ (∀ q ∈ L, FitsL es' q) ∧ FitsL es r := by
  obtain ⟨c, r, rfl, h1, h2⟩ := fitsL_cons h
  obtain ⟨L, f, rfl, h3, h4⟩ := fits_lst h1
  exact ⟨L, f, r, rfl, h3, h4, h2⟩
end Go.Sh
