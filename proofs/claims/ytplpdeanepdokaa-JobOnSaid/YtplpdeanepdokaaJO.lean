/- JobOn: a step never goes back; the answers' copy. -/
import Derived.Test.YtplpdeanepdokaaJF
import Derived.Test.YtplpdeanepdokaaPJobStepsx7
namespace Go.Proofs.Ytplpdeanepdokaa
open Go.RowKit H Go.Proofs.Ytplpdeanepdokaa.PJobSteps
open Go.Proofs.YtplpdeanepdokaaW.PrintWords (Kd)
open Go.Proofs.YtplpdeanepdokaaW.PrintWords

theorem ints_own {w : World} {base : Nat} {ok : Nat → Prop} {v : Value} {xs : List Int} (h : Kd.R (Kd.int .i64) 3 w base ok v xs) : w.ownsRow base 3 1 v xs.length (xs.map (Value.int .i64)) := by
  obtain ⟨_, inner, ho, hr⟩ := h
  have e : inner = xs.map (Value.int .i64) := by
    have hl : inner.length = xs.length := by have h0 : inner.length = xs.length * 1 := ho.1; omega
    apply List.ext_getElem?
    intro j
    by_cases hj : j < xs.length
    · have h2 := hr.2 j _ (List.getElem?_eq_getElem hj)
      obtain ⟨c, h3⟩ : ∃ c, c = inner[j]? := ⟨_, rfl⟩
      have h4 : ((inner.drop (j * 1)).take 1) = [Value.int .i64 xs[j]] := h2
      rw [Nat.mul_one] at h4
      have h5 := congrArg (fun l => l[0]?) h4
      simp only [List.getElem?_take, List.getElem?_drop] at h5
      simpa [hj] using h5
    · rw [List.getElem?_eq_none (by omega), List.getElem?_eq_none (by simpa using hj)]
  rw [e] at ho
  exact ho

theorem great22_some (a0 : Int) (a1 a2 a3 : ByteArray) (a4 : Int) (a5 : Bool) (l6 : List S60) (l7 : List S62) (l8 : List S64) (l9 : List S66) (l10 : List ByteArray) (l2 : List Int) :
    ∃ k r, interlocklaw22_great.f k a0 a1 a2 a3 a4 a5 l6 l7 l8 l9 l10 [] l2 = some r ∧ (r = false → SmallS a1 a2 a3 l6 l7 l8 l9 l10 ∧ l2.length ≤ 200) := by
  obtain ⟨k, r0, h0, hs⟩ := great_some a0 a1 a2 a3 a4 a5 l6 l7 l8 l9 l10
  have h1 := interlocklaw15_GreatStmt.mono a0 a1 a2 a3 a4 a5 l6 l7 l8 l9 l10 k _ h0
  have h2 := interlocklaw15_GreatStmt.mono a0 a1 a2 a3 a4 a5 l6 l7 l8 l9 l10 (k + 1) _ h1
  cases r0 with
  | true =>
    refine ⟨k + 1 + 1, true, ?_, fun h => by cases h⟩
    simp only [interlocklaw22_great.f, h2, Option.bind_some]
    rw [if_pos trivial]
    simp only [interlocklaw22_great.j0]
    rw [if_pos trivial]
  | false =>
    by_cases hl : (l2.length : Int) > 200
    · refine ⟨k + 1 + 1, true, ?_, fun h => by cases h⟩
      simp only [interlocklaw22_great.f, h2, Option.bind_some]
      rw [if_neg (by decide), if_neg (by simp), decide_eq_true hl]
      simp only [interlocklaw22_great.j0]
      rw [if_pos trivial]
    · refine ⟨k + 1 + 1, false, ?_, fun _ => ⟨hs rfl, by omega⟩⟩
      simp only [interlocklaw22_great.f, h2, Option.bind_some]
      rw [if_neg (by decide), if_neg (by simp), decide_eq_false hl]
      simp only [interlocklaw22_great.j0, interlocklaw22_great.l0]
      rw [if_neg (by decide), if_neg (by simp)]

/-- What stays of a job, step by step. -/
structure OnA (N : Nat) (s : JA) : Prop where
  p1 : 1 ≤ s.phase
  p6 : s.phase ≤ 6
  xs : s.xs.length ≤ N
  ans : s.ans.length ≤ 200
  ints : ∀ a ∈ s.ans, -9223372036854775808 ≤ a ∧ a ≤ 9223372036854775807
  held : s.held = 0
  t1 : s.phase ≤ 4 → 1 ≤ s.tries
  t2 : s.tries ≤ 9223372036854775807
theorem OnA.ok {N : Nat} {s : JA} (h : OnA N s) (x : Sx) (hx : x.name.size ≤ 1000) (ht : x.tab.size ≤ 1000) (hN : N ≤ 900000) : StepOk x s :=
  ⟨h.p1, h.p6, by have := h.xs; omega, by have := h.ans; omega, h.ints, hx, ht, by rw [h.held]; decide, by rw [h.held]; decide, h.t1, h.t2⟩
theorem tl_ints {l : List Int} (h : ∀ a ∈ l, -9223372036854775808 ≤ a ∧ a ≤ 9223372036854775807) : ∀ a ∈ l.tail, -9223372036854775808 ≤ a ∧ a ≤ 9223372036854775807 := fun a ha => h a (List.mem_of_mem_tail ha)
theorem step_on (tab name : ByteArray) {N : Nat} {s : JA} (h : OnA N s) :
    OnA (N + 3) (stepA tab name s) ∧ s.phase ≤ (stepA tab name s).phase ∧ (5 ≤ s.phase → (stepA tab name s).err = s.err) := by
  obtain ⟨phase, rows, tries, err, ans, xs, held⟩ := s
  obtain ⟨p1, p6, hx, ha, hi, hh, t1, t2⟩ := h
  simp only at p1 p6 hx ha hi hh t1 t2
  subst hh
  have hi1 := tl_ints hi
  have hi2 := tl_ints hi1
  have l1 : ans.tail.length ≤ 200 := by rw [List.length_tail]; omega
  have l2 : ans.tail.tail.length ≤ 200 := by rw [List.length_tail]; omega
  have : phase = 1 ∨ phase = 2 ∨ phase = 3 ∨ phase = 4 ∨ phase = 5 ∨ phase = 6 := by omega
  rcases this with rfl | rfl | rfl | rfl | rfl | rfl
  · have e : stepA tab name ⟨1, rows, tries, err, ans, xs, 0⟩ = stepOne tab name ⟨1, rows, tries, err, ans, xs, 0⟩ := rfl
    rw [e, stepOne]
    split
    · refine ⟨⟨?_, ?_, ?_, l2, hi2, by simp, fun _ => t1 (by decide), t2⟩, ?_, fun h => by simp at h⟩
      · simp only; split <;> decide
      · simp only; split <;> decide
      · simp; omega
      · simp only; split <;> decide
    · have := t1 (by decide)
      refine ⟨⟨?_, ?_, ?_, l1, hi1, by simp, ?_, by simp only; omega⟩, ?_, fun h => by simp at h⟩
      · simp only [failP]; split <;> decide
      · simp only [failP]; split <;> decide
      · simp; omega
      · simp only [failP]; split
        · simp
        · intro; omega
      · simp only [failP]; split <;> decide
  · have e : stepA tab name ⟨2, rows, tries, err, ans, xs, 0⟩ = stepTwo ⟨2, rows, tries, err, ans, xs, 0⟩ := rfl
    rw [e, stepTwo]
    refine ⟨⟨?_, ?_, ?_, l1, hi1, rfl, fun _ => t1 (by decide), t2⟩, ?_, fun h => by simp at h⟩
    · simp only; split <;> decide
    · simp only; split <;> decide
    · simp; omega
    · simp only; split <;> decide
  · have e : stepA tab name ⟨3, rows, tries, err, ans, xs, 0⟩ = stepThree name ⟨3, rows, tries, err, ans, xs, 0⟩ := rfl
    rw [e, stepThree]
    split
    · refine ⟨⟨?_, ?_, ?_, l2, hi2, rfl, fun _ => t1 (by decide), t2⟩, ?_, fun h => by simp at h⟩
      · simp only; split <;> decide
      · simp only; split <;> decide
      · simp; omega
      · simp only; split <;> decide
    · exact ⟨⟨by simp, by simp, by simp; omega, l1, hi1, rfl, fun _ => t1 (by decide), t2⟩, by simp, fun h => by simp at h⟩
  · have e : stepA tab name ⟨4, rows, tries, err, ans, xs, 0⟩ = stepFour tab name ⟨4, rows, tries, err, ans, xs, 0⟩ := rfl
    rw [e, stepFour]
    split
    · refine ⟨⟨?_, ?_, ?_, l2, hi2, by simp, fun _ => t1 (by decide), t2⟩, ?_, fun h => by simp at h⟩
      · simp only; split <;> decide
      · simp only; split <;> decide
      · simp; omega
      · simp only; split <;> decide
    · have := t1 (by decide)
      refine ⟨⟨?_, ?_, ?_, l1, hi1, by simp, ?_, by simp only; omega⟩, ?_, fun h => by simp at h⟩
      · simp only [failP]; split <;> decide
      · simp only [failP]; split <;> decide
      · simp; omega
      · simp only [failP]; split
        · simp
        · intro; omega
      · simp only [failP]; split <;> decide
  · have e : stepA tab name ⟨5, rows, tries, err, ans, xs, 0⟩ = stepFive tab name ⟨5, rows, tries, err, ans, xs, 0⟩ := rfl
    rw [e, stepFive]
    split
    · refine ⟨⟨?_, ?_, ?_, l2, hi2, by simp, ?_, t2⟩, ?_, fun h => rfl⟩
      · simp only; split <;> decide
      · simp only; split <;> decide
      · simp; omega
      · simp only; intro hq; split at hq <;> simp at hq
      · simp only; split <;> decide
    · exact ⟨⟨by simp, by simp, by simp; omega, l1, hi1, rfl, by simp, t2⟩, by simp, fun h => rfl⟩
  · have e : stepA tab name ⟨6, rows, tries, err, ans, xs, 0⟩ = ⟨6, rows, tries, err, ans, xs, 0⟩ := rfl
    rw [e]
    exact ⟨⟨by simp, by simp, by simp; omega, ha, hi, rfl, by simp, t2⟩, by simp, fun h => rfl⟩
end Go.Proofs.Ytplpdeanepdokaa
