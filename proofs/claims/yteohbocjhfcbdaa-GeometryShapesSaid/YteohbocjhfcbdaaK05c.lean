import Derived.Test.YteohbocjhfcbdaaK05b
import Derived.Test.YteohbocjhfcbdaaShLp
namespace Go.Sh
set_option linter.unusedSectionVars false
set_option linter.unnecessarySimpa false
set_option linter.unusedVariables false
set_option maxRecDepth 100000
set_option maxHeartbeats 4000000
set_option linter.unusedSimpArgs false
theorem s61 (n id : Nat) (H : Heap) (L : List (List SV)) (fl : Bool) (p : List SV → Bool) (hr : ∀ r ∈ L, r.length = 2) (hm : L.length ≤ maxLen)
    (hc : ∀ r ∈ L, ∀ H, call1 T n (.fn id) [.agg r] H = some (.bool (p r), H)) : call1 T (n + 1) (.fn 61) [.lst 2 L fl, .fn id []] H = some (.int .i64 (idx1 p L), H) := by
  refine call_pure e61 (by rfl) ?_
  simp only [c61, heap0, go_sem, Nat.reduceAdd, Nat.reduceBEq]
  refine loop_rule (fun i => ([(0, .lst 2 L fl), (1, .fn id []), (7, .int .i64 L.length), (8, .int .i64 i)], ⟨[], [], 0⟩)) (fun i => ∀ (j : Nat) r, j < i → L[j]? = some r → p r = false) L.length ?_ (fun j r h => by omega) ?_
  · simp only [go_sem, Nat.reduceAdd, Nat.reduceBEq, Nat.reduceLeDiff]
    rfl
  · intro i hi hP
    have hm : maxLen = maxLen := rfl
    rcases Nat.lt_or_ge i L.length with hlt | hge
    · obtain ⟨r, hr'⟩ : ∃ r, L[i]? = some r := ⟨L[i], List.getElem?_eq_getElem hlt⟩
      have hmem := List.mem_of_getElem? hr'
      have h1 := hr _ hmem
      have ht : List.take 2 r = r := List.take_of_length_le (by omega)
      have hw : w64 ((i : Int) + 1) = ((i + 1 : Nat) : Int) := by
        rw [w64_id] <;> simp [maxLen] at * <;> omega
      cases hp : p r with
      | true =>
        have hx := idx1_at hr' hp hP
        simp only [go_sem, Nat.reduceAdd, Nat.reduceBEq, Nat.reduceLeDiff, hlt, hr', hc r hmem, hw, h1, ht, hp, hx]
      | false =>
        simp only [go_sem, Nat.reduceAdd, Nat.reduceBEq, Nat.reduceLeDiff, hlt, hr', hc r hmem, hw, h1, ht, hp]
        refine ⟨trivial, trivial, fun j r' hj hr2 => ?_⟩
        rcases Nat.lt_or_ge j i with hlt2 | hge2
        · exact hP j r' hlt2 hr2
        · have : j = i := by omega
          subst this
          rw [hr'] at hr2
          cases hr2
          exact hp
    · have hlt : ¬ i < L.length := by omega
      have hx : idx1 p L = -1 := idx1_none (fun j a hj => hP j a (by have := (List.getElem?_eq_some_iff.1 hj).1; omega) hj)
      simp only [go_sem, Nat.reduceAdd, Nat.reduceBEq, Nat.reduceLeDiff, hlt, hx]
theorem s66 (n id : Nat) (H : Heap) (L : List (List SV)) (fl : Bool) (p : List SV → Bool) (hr : ∀ r ∈ L, ∃ x, r = [x]) (hm : L.length ≤ maxLen)
    (hc : ∀ r ∈ L, ∀ H, call1 T n (.fn id) [r.headD .undef] H = some (.bool (p r), H)) : call1 T (n + 1) (.fn 66) [.lst 1 L fl, .fn id []] H = some (.int .i64 (idx1 p L), H) := by
  refine call_pure e66 (by rfl) ?_
  simp only [c66, heap0, go_sem, Nat.reduceAdd, Nat.reduceBEq]
  refine loop_rule (fun i => ([(0, .lst 1 L fl), (1, .fn id []), (7, .int .i64 L.length), (8, .int .i64 i)], ⟨[], [], 0⟩)) (fun i => ∀ (j : Nat) r, j < i → L[j]? = some r → p r = false) L.length ?_ (fun j r h => by omega) ?_
  · simp only [go_sem, Nat.reduceAdd, Nat.reduceBEq, Nat.reduceLeDiff]
    rfl
  · intro i hi hP
    have hm : maxLen = maxLen := rfl
    rcases Nat.lt_or_ge i L.length with hlt | hge
    · obtain ⟨r, hr'⟩ : ∃ r, L[i]? = some r := ⟨L[i], List.getElem?_eq_getElem hlt⟩
      have hmem := List.mem_of_getElem? hr'
      have h1 := hr _ hmem
      obtain ⟨x, rfl⟩ := h1
      have hcr := hc _ hmem
      simp only [List.headD_cons] at hcr
      have hw : w64 ((i : Int) + 1) = ((i + 1 : Nat) : Int) := by
        rw [w64_id] <;> simp [maxLen] at * <;> omega
      cases hp : p [x] with
      | true =>
        have hx := idx1_at hr' hp hP
        simp only [go_sem, Nat.reduceAdd, Nat.reduceBEq, Nat.reduceLeDiff, hlt, hr', hcr, hw, hp, hx]
      | false =>
        simp only [go_sem, Nat.reduceAdd, Nat.reduceBEq, Nat.reduceLeDiff, hlt, hr', hcr, hw, hp]
        refine ⟨trivial, trivial, fun j r' hj hr2 => ?_⟩
        rcases Nat.lt_or_ge j i with hlt2 | hge2
        · exact hP j r' hlt2 hr2
        · have : j = i := by omega
          subst this
          rw [hr'] at hr2
          cases hr2
          exact hp
    · have hlt : ¬ i < L.length := by omega
      have hx : idx1 p L = -1 := idx1_none (fun j a hj => hP j a (by have := (List.getElem?_eq_some_iff.1 hj).1; omega) hj)
      simp only [go_sem, Nat.reduceAdd, Nat.reduceBEq, Nat.reduceLeDiff, hlt, hx]
theorem s67 (n id : Nat) (H : Heap) (L : List (List SV)) (fl : Bool) (p : List SV → Bool) (hr : ∀ r ∈ L, r.length = 5) (hm : L.length ≤ maxLen)
    (hc : ∀ r ∈ L, ∀ H, call1 T n (.fn id) [.agg r] H = some (.bool (p r), H)) : call1 T (n + 1) (.fn 67) [.lst 5 L fl, .fn id []] H = some (.int .i64 (idx1 p L), H) := by
  refine call_pure e67 (by rfl) ?_
  simp only [c67, heap0, go_sem, Nat.reduceAdd, Nat.reduceBEq]
  refine loop_rule (fun i => ([(0, .lst 5 L fl), (1, .fn id []), (7, .int .i64 L.length), (8, .int .i64 i)], ⟨[], [], 0⟩)) (fun i => ∀ (j : Nat) r, j < i → L[j]? = some r → p r = false) L.length ?_ (fun j r h => by omega) ?_
  · simp only [go_sem, Nat.reduceAdd, Nat.reduceBEq, Nat.reduceLeDiff]
    rfl
  · intro i hi hP
    have hm : maxLen = maxLen := rfl
    rcases Nat.lt_or_ge i L.length with hlt | hge
    · obtain ⟨r, hr'⟩ : ∃ r, L[i]? = some r := ⟨L[i], List.getElem?_eq_getElem hlt⟩
      have hmem := List.mem_of_getElem? hr'
      have h1 := hr _ hmem
      have ht : List.take 5 r = r := List.take_of_length_le (by omega)
      have hw : w64 ((i : Int) + 1) = ((i + 1 : Nat) : Int) := by
        rw [w64_id] <;> simp [maxLen] at * <;> omega
      cases hp : p r with
      | true =>
        have hx := idx1_at hr' hp hP
        simp only [go_sem, Nat.reduceAdd, Nat.reduceBEq, Nat.reduceLeDiff, hlt, hr', hc r hmem, hw, h1, ht, hp, hx]
      | false =>
        simp only [go_sem, Nat.reduceAdd, Nat.reduceBEq, Nat.reduceLeDiff, hlt, hr', hc r hmem, hw, h1, ht, hp]
        refine ⟨trivial, trivial, fun j r' hj hr2 => ?_⟩
        rcases Nat.lt_or_ge j i with hlt2 | hge2
        · exact hP j r' hlt2 hr2
        · have : j = i := by omega
          subst this
          rw [hr'] at hr2
          cases hr2
          exact hp
    · have hlt : ¬ i < L.length := by omega
      have hx : idx1 p L = -1 := idx1_none (fun j a hj => hP j a (by have := (List.getElem?_eq_some_iff.1 hj).1; omega) hj)
      simp only [go_sem, Nat.reduceAdd, Nat.reduceBEq, Nat.reduceLeDiff, hlt, hx]
def farI (a b : Int) : Bool := decide (a < -20000) || decide (a > 20000) || decide (b < -20000) || decide (b > 20000)
def far1 (r : List SV) : Bool := match r with | [.int _ a, .int _ b] => farI a b | _ => false
def ptsS (L : List (Int × Int)) : List (List SV) := L.map fun p => [.int .i64 p.1, .int .i64 p.2]
theorem ptsS_len {L : List (Int × Int)} : ∀ r ∈ ptsS L, r.length = 2 := by
  intro r hr; simp only [ptsS, List.mem_map] at hr; obtain ⟨p, _, rfl⟩ := hr; rfl
theorem ptsS_any {p : List SV → Bool} {q : Int × Int → Bool} (h : ∀ a b, p [.int .i64 a, .int .i64 b] = q (a, b)) (L : List (Int × Int)) : (ptsS L).any p = L.any q := by
  induction L with
  | nil => rfl
  | cons a l ih => simp only [ptsS, List.map_cons, List.any_cons, h] at *; rw [ih]
theorem s38 (n id : Nat) (H : Heap) (L : List (List SV)) (fl : Bool) (p : List SV → Bool) (hr : ∀ r ∈ L, r.length = 2) (hm : L.length ≤ maxLen)
    (hc : ∀ r ∈ L, ∀ H, call1 T n (.fn id) [.agg r] H = some (.bool (p r), H)) : call1 T (n + 2) (.fn 38) [.lst 2 L fl, .fn id []] H = some (.bool (L.any p), H) := by
  refine call_pure e38 (by rfl) ?_
  simp only [c38, heap0, go_sem, Nat.reduceAdd, Nat.reduceBEq, s61 n id _ L fl p hr hm hc, idx1_any]
theorem s48 (n id : Nat) (H : Heap) (L : List (List SV)) (fl : Bool) (p : List SV → Bool) (hr : ∀ r ∈ L, ∃ x, r = [x]) (hm : L.length ≤ maxLen)
    (hc : ∀ r ∈ L, ∀ H, call1 T n (.fn id) [r.headD .undef] H = some (.bool (p r), H)) : call1 T (n + 2) (.fn 48) [.lst 1 L fl, .fn id []] H = some (.bool (L.any p), H) := by
  refine call_pure e48 (by rfl) ?_
  simp only [c48, heap0, go_sem, Nat.reduceAdd, Nat.reduceBEq, s66 n id _ L fl p hr hm hc, idx1_any]
theorem s12 (n : Nat) (H : Heap) (L : List (Int × Int)) (fl : Bool) (hm : L.length ≤ maxLen) : call1 T (n + 4) (.fn 12) [.lst 2 (ptsS L) fl] H = some (.bool (!L.any (fun p => farI p.1 p.2)), H) := by
  refine call_pure e12 (by rfl) ?_
  have h := s38 (n + 1) 39 heap0 (ptsS L) fl far1 ptsS_len (by simpa [ptsS] using hm) (fun r hr H => by
    simp only [ptsS, List.mem_map] at hr; obtain ⟨p, _, rfl⟩ := hr; exact s39 n H p.1 p.2)
  rw [ptsS_any (q := fun p => farI p.1 p.2) (fun a b => rfl)] at h
  simp only [heap0] at h
  simp only [c12, heap0, go_sem, Nat.reduceAdd, Nat.reduceBEq, h]
