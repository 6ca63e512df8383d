/- Two rows of steps: of 'alive', and of a world that gives all. -/
import Derived.Test.YtplpdeanepdokaaJU
import Derived.Laws.BitsLemmas
namespace Go.Proofs.Ytplpdeanepdokaa
open Go.RowKit H Go.Proofs.Ytplpdeanepdokaa.PJobSteps

theorem low_bit (n : Int) (h0 : 0 ≤ n) (h1 : n < 2 ^ 62) : bits BinOp.and IntKind.i64 n 1 = n % 2 := by
  have := bits_mask .i64 62 (by decide) (fun n a b => by rw [IntKind.wrap_i64]; omega) 1 (by decide) n h0 h1
  simpa using this
theorem b1_of (n : Int) (h0 : 0 ≤ n) (h1 : n < 2 ^ 62) : b1 n = decide (n % 2 = 1) := by
  rw [b1, low_bit n h0 h1]
  rfl
theorem b0_of (n : Int) (h0 : 0 ≤ n) (h1 : n < 2 ^ 62) : b0 n = decide (n % 2 = 0) := by
  rw [b0, low_bit n h0 h1]
  rfl
theorem b1_one : b1 1 = true := by rw [b1_of 1 (by decide) (by decide)]; rfl
theorem b1_zero : b1 0 = false := by rw [b1_of 0 (by decide) (by decide)]; rfl
theorem b0_zero : b0 0 = true := by rw [b0_of 0 (by decide) (by decide)]; rfl
theorem b3_zero : b3 0 = false := by decide +kernel
theorem errB_zero : errB 0 = 0 := by rw [errB, b3_zero]; rfl

/-- The row of 'alive'. -/
def aliveA : Nat → JA → Prop
  | 0, s => s.phase = 1 ∧ s.tries = 3 ∧ s.err = 0 ∧ s.ans = [1, 0, 0, 1, 0, 1, 0] ∧ s.xs.length = 0 ∧ s.held = 0
  | 1, s => s.phase = 2 ∧ s.tries = 3 ∧ s.err = 0 ∧ s.ans = [0, 1, 0, 1, 0] ∧ s.xs.length = 3 ∧ s.held = 0
  | 2, s => s.phase = 3 ∧ s.tries = 3 ∧ s.err = 0 ∧ s.ans = [1, 0, 1, 0] ∧ s.xs.length = 4 ∧ s.held = 0
  | 3, s => s.phase = 4 ∧ s.tries = 3 ∧ s.err = 0 ∧ s.ans = [1, 0] ∧ s.xs.length = 6 ∧ s.held = 0
  | _, s => s.phase = 6 ∧ s.tries = 3 ∧ s.err = 0 ∧ s.ans = [] ∧ s.xs.length = 9 ∧ s.held = 0
theorem alive_step (tab name : ByteArray) (i : Nat) (hi : i < 4) (s : JA) (h : aliveA i s) : aliveA (i + 1) (stepA tab name s) := by
  obtain ⟨phase, rows, tries, err, ans, xs, held⟩ := s
  have : i = 0 ∨ i = 1 ∨ i = 2 ∨ i = 3 := by omega
  rcases this with rfl | rfl | rfl | rfl <;>
    · simp only [aliveA] at h
      obtain ⟨rfl, rfl, rfl, rfl, hx, rfl⟩ := h
      simp [stepA, stepOne, stepTwo, stepThree, stepFour, hdA, b1_one, b1_zero, b0_zero, b3_zero, errB_zero, aliveA, hx]
theorem alive_ok (x : Sx) (hx : x.name.size ≤ 1000) (ht : x.tab.size ≤ 1000) (i : Nat) (hi : i ≤ 4) (s : JA) (h : aliveA i s) : StepOk x s := by
  obtain ⟨phase, rows, tries, err, ans, xs, held⟩ := s
  have : i = 0 ∨ i = 1 ∨ i = 2 ∨ i = 3 ∨ i = 4 := by omega
  rcases this with rfl | rfl | rfl | rfl | rfl <;>
    · simp only [aliveA] at h
      obtain ⟨rfl, rfl, rfl, rfl, hl, rfl⟩ := h
      exact ⟨by simp, by simp, by simp; omega, by simp, by simp, hx, ht, by simp, by simp, by simp, by simp⟩
theorem alive_phase (i : Nat) (s : JA) (h : aliveA i s) : (s.phase < 5 ↔ i < 4) ∧ s.err = 0 := by
  match i, h with
  | 0, h => exact ⟨by rw [h.1]; simp, h.2.2.1⟩
  | 1, h => exact ⟨by rw [h.1]; simp, h.2.2.1⟩
  | 2, h => exact ⟨by rw [h.1]; simp, h.2.2.1⟩
  | 3, h => exact ⟨by rw [h.1]; simp, h.2.2.1⟩
  | i + 4, h => exact ⟨by rw [h.1]; simp, h.2.2.1⟩

/-- What a world answers that has so many batches, from one on. -/
def batA (n : Nat) : Nat → List Int
  | 0 => [1, 0, 1, 0]
  | d + 1 => 1 :: (1 + 2 * ((n - (d + 1) : Nat) : Int)) :: batA n d
/-- The row of a world that gives all: so many steps from the end. -/
def endsA (n : Nat) : Nat → JA → Prop
  | 0, s => s.phase = 1 ∧ s.tries = 1 ∧ s.ans = 1 :: 0 :: 0 :: batA n n ∧ s.xs.length = 0 ∧ s.held = 0
  | 1, s => s.phase = 2 ∧ s.tries = 1 ∧ s.ans = 0 :: batA n n ∧ s.xs.length = 3 ∧ s.held = 0
  | i + 2, s => if i ≤ n then s.phase = 3 ∧ s.tries = 1 ∧ s.ans = batA n (n - i) ∧ s.xs.length = 4 + 2 * i ∧ s.held = 0
      else if i = n + 1 then s.phase = 4 ∧ s.tries = 1 ∧ s.ans = [1, 0] ∧ s.xs.length = 4 + 2 * i ∧ s.held = 0
      else s.phase = 6 ∧ s.tries = 1 ∧ s.err = 0 ∧ s.held = 0
theorem ends_step (tab name : ByteArray) (n : Nat) (hn : n ≤ 1000) (i : Nat) (hi : i ≤ n + 3) (s : JA) (h : endsA n i s) : endsA n (i + 1) (stepA tab name s) := by
  obtain ⟨phase, rows, tries, err, ans, xs, held⟩ := s
  match i, h with
  | 0, h =>
    simp only [endsA] at h
    obtain ⟨rfl, rfl, rfl, hx, rfl⟩ := h
    simp [stepA, stepOne, hdA, b1_one, b3_zero, endsA, hx]
  | 1, h =>
    simp only [endsA] at h
    obtain ⟨rfl, rfl, rfl, hx, rfl⟩ := h
    simp [stepA, stepTwo, hdA, b1_zero, endsA, hx]
  | i + 2, h =>
    simp only [endsA] at h
    by_cases h1 : i ≤ n
    · rw [if_pos h1] at h
      obtain ⟨rfl, rfl, rfl, hx, rfl⟩ := h
      cases hd : n - i with
      | zero =>
        have : i = n := by omega
        subst this
        simp [stepA, stepThree, hdA, batA, b1_one, b0_zero, endsA, hx]
        omega
      | succ d =>
        have hb : b0 (1 + 2 * ((n - (d + 1) : Nat) : Int)) = false := by
          rw [b0_of _ (by omega) (by omega)]
          exact decide_eq_false (by omega)
        have h2 : i + 1 ≤ n := by omega
        have h3 : n - (i + 1) = d := by omega
        simp only [stepA, stepThree, hdA, batA, List.tail_cons, b1_one, hb, endsA, if_pos h2, h3]
        simp [hx]
        omega
    · rw [if_neg h1] at h
      have h2 : i = n + 1 := by omega
      subst h2
      rw [if_pos rfl] at h
      obtain ⟨rfl, rfl, rfl, hx, rfl⟩ := h
      simp [stepA, stepFour, hdA, b1_one, b3_zero, errB_zero, endsA]
theorem batA_length (n : Nat) : ∀ d, (batA n d).length = 4 + 2 * d
  | 0 => rfl
  | d + 1 => by simp [batA, batA_length n d]; omega
theorem batA_ints (n : Nat) (hn : n ≤ 1000) : ∀ d, ∀ a ∈ batA n d, -9223372036854775808 ≤ a ∧ a ≤ 9223372036854775807
  | 0 => by simp [batA]
  | d + 1 => by
    intro a ha
    simp only [batA, List.mem_cons] at ha
    rcases ha with rfl | rfl | ha
    · omega
    · omega
    · exact batA_ints n hn d a ha
theorem ends_ok (x : Sx) (hx : x.name.size ≤ 1000) (ht : x.tab.size ≤ 1000) (n : Nat) (hn : n ≤ 1000) (i : Nat) (hi : i ≤ n + 3) (s : JA) (h : endsA n i s) : StepOk x s := by
  obtain ⟨phase, rows, tries, err, ans, xs, held⟩ := s
  match i, h with
  | 0, h =>
    simp only [endsA] at h
    obtain ⟨rfl, rfl, rfl, hl, rfl⟩ := h
    refine ⟨by simp, by simp, by simp; omega, by simp [batA_length]; omega, ?_, hx, ht, by simp, by simp, by simp, by simp⟩
    intro a ha
    simp only [List.mem_cons] at ha
    rcases ha with rfl | rfl | rfl | ha
    · omega
    · omega
    · omega
    · exact batA_ints n hn n a ha
  | 1, h =>
    simp only [endsA] at h
    obtain ⟨rfl, rfl, rfl, hl, rfl⟩ := h
    refine ⟨by simp, by simp, by simp; omega, by simp [batA_length]; omega, ?_, hx, ht, by simp, by simp, by simp, by simp⟩
    intro a ha
    simp only [List.mem_cons] at ha
    rcases ha with rfl | ha
    · omega
    · exact batA_ints n hn n a ha
  | i + 2, h =>
    simp only [endsA] at h
    by_cases h1 : i ≤ n
    · rw [if_pos h1] at h
      obtain ⟨rfl, rfl, rfl, hl, rfl⟩ := h
      exact ⟨by simp, by simp, by simp; omega, by simp [batA_length]; omega, batA_ints n hn _, hx, ht, by simp, by simp, by simp, by simp⟩
    · rw [if_neg h1, if_pos (by omega)] at h
      obtain ⟨rfl, rfl, rfl, hl, rfl⟩ := h
      exact ⟨by simp, by simp, by simp; omega, by simp, by simp, hx, ht, by simp, by simp, by simp, by simp⟩
theorem ends_phase (n i : Nat) (hi : i ≤ n + 4) (s : JA) (h : endsA n i s) : (s.phase < 5 ↔ i ≤ n + 3) ∧ (i = n + 4 → s.err = 0 ∧ s.held = 0) := by
  match i, h with
  | 0, h => exact ⟨by rw [h.1]; simp, fun e => by omega⟩
  | 1, h => exact ⟨by rw [h.1]; simp, fun e => by omega⟩
  | i + 2, h =>
    simp only [endsA] at h
    by_cases h1 : i ≤ n
    · rw [if_pos h1] at h
      exact ⟨by rw [h.1]; simp; omega, fun e => by omega⟩
    · rw [if_neg h1] at h
      by_cases h2 : i = n + 1
      · rw [if_pos h2] at h
        exact ⟨by rw [h.1]; simp; omega, fun e => by omega⟩
      · rw [if_neg h2] at h
        exact ⟨by rw [h.1]; simp; omega, fun _ => ⟨h.2.2.1, h.2.2.2⟩⟩
end Go.Proofs.Ytplpdeanepdokaa
