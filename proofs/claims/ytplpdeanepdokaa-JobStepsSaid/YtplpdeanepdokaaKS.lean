/- Merged texts: JO, JSA, JSB, JSD, JI, JSE. -/
import Derived.Test.YtplpdeanepdokaaKX
import Derived.Test.YtplpdeanepdokaaPJobStepsx7
import Derived.Test.YtplpdeanepdokaaPJobStepsx9
import Derived.Test.YtplpdeanepdokaaPJobStepsx10
import Derived.Test.YtplpdeanepdokaaKR
import Derived.OpenShut
/- JobOn: a step never goes back; the answers' copy. -/
namespace Go.Proofs.Ytplpdeanepdokaa
open Go.RowKit H Go.Proofs.Ytplpdeanepdokaa.PJobSteps
open Go.Proofs.YtplpdeanepdokaaW.PrintWords (Kd)
open Go.Proofs.YtplpdeanepdokaaW.PrintWords

theorem ints_own {w : World} {base : Nat} {ok : Nat → Prop} {v : Value} {xs : List Int} (h : Kd.R (Kd.int .i64) 3 w base ok v xs) : w.ownsRow base 3 1 v xs.length (xs.map (Value.int .i64)) := by
  obtain ⟨_, inner, ho, hr⟩ := h
  have e : inner = xs.map (Value.int .i64) := by
    have hl : inner.length = xs.length := by have h0 : inner.length = xs.length * 1 := ho.1; omega
    apply List.ext_getElem?
    intro j
    by_cases hj : j < xs.length
    · have h2 := hr.2 j _ (List.getElem?_eq_getElem hj)
      obtain ⟨c, h3⟩ : ∃ c, c = inner[j]? := ⟨_, rfl⟩
      have h4 : ((inner.drop (j * 1)).take 1) = [Value.int .i64 xs[j]] := h2
      rw [Nat.mul_one] at h4
      have h5 := congrArg (fun l => l[0]?) h4
      simp only [List.getElem?_take, List.getElem?_drop] at h5
      simpa [hj] using h5
    · rw [List.getElem?_eq_none (by omega), List.getElem?_eq_none (by simpa using hj)]
  rw [e] at ho
  exact ho

theorem great22_some (a0 : Int) (a1 a2 a3 : ByteArray) (a4 : Int) (a5 : Bool) (l6 : List S60) (l7 : List S62) (l8 : List S64) (l9 : List S66) (l10 : List ByteArray) (l2 : List Int) :
    ∃ k r, interlocklaw22_great.f k a0 a1 a2 a3 a4 a5 l6 l7 l8 l9 l10 [] l2 = some r ∧ (r = false → SmallS a1 a2 a3 l6 l7 l8 l9 l10 ∧ l2.length ≤ 200) := by
  obtain ⟨k, r0, h0, hs⟩ := great_some a0 a1 a2 a3 a4 a5 l6 l7 l8 l9 l10
  have h1 := interlocklaw15_GreatStmt.mono a0 a1 a2 a3 a4 a5 l6 l7 l8 l9 l10 k _ h0
  have h2 := interlocklaw15_GreatStmt.mono a0 a1 a2 a3 a4 a5 l6 l7 l8 l9 l10 (k + 1) _ h1
  cases r0 with
  | true =>
    refine ⟨k + 1 + 1, true, ?_, fun h => by cases h⟩
    simp only [interlocklaw22_great.f, h2, Option.bind_some]
    rw [if_pos trivial]
    simp only [interlocklaw22_great.j0]
    rw [if_pos trivial]
  | false =>
    by_cases hl : (l2.length : Int) > 200
    · refine ⟨k + 1 + 1, true, ?_, fun h => by cases h⟩
      simp only [interlocklaw22_great.f, h2, Option.bind_some]
      rw [if_neg (by decide), if_neg (by simp), decide_eq_true hl]
      simp only [interlocklaw22_great.j0]
      rw [if_pos trivial]
    · refine ⟨k + 1 + 1, false, ?_, fun _ => ⟨hs rfl, by omega⟩⟩
      simp only [interlocklaw22_great.f, h2, Option.bind_some]
      rw [if_neg (by decide), if_neg (by simp), decide_eq_false hl]
      simp only [interlocklaw22_great.j0, interlocklaw22_great.l0]
      rw [if_neg (by decide), if_neg (by simp)]

/-- What stays of a job, step by step. -/
structure OnA (N : Nat) (s : JA) : Prop where
  p1 : 1 ≤ s.phase
  p6 : s.phase ≤ 6
  xs : s.xs.length ≤ N
  ans : s.ans.length ≤ 200
  ints : ∀ a ∈ s.ans, -9223372036854775808 ≤ a ∧ a ≤ 9223372036854775807
  held : s.held = 0
  t1 : s.phase ≤ 4 → 1 ≤ s.tries
  t2 : s.tries ≤ 9223372036854775807
theorem OnA.ok {N : Nat} {s : JA} (h : OnA N s) (x : Sx) (hx : x.name.size ≤ 1000) (ht : x.tab.size ≤ 1000) (hN : N ≤ 900000) : StepOk x s :=
  ⟨h.p1, h.p6, by have := h.xs; omega, by have := h.ans; omega, h.ints, hx, ht, by rw [h.held]; decide, by rw [h.held]; decide, h.t1, h.t2⟩
theorem tl_ints {l : List Int} (h : ∀ a ∈ l, -9223372036854775808 ≤ a ∧ a ≤ 9223372036854775807) : ∀ a ∈ l.tail, -9223372036854775808 ≤ a ∧ a ≤ 9223372036854775807 := fun a ha => h a (List.mem_of_mem_tail ha)
theorem step_on (tab name : ByteArray) {N : Nat} {s : JA} (h : OnA N s) :
    OnA (N + 3) (stepA tab name s) ∧ s.phase ≤ (stepA tab name s).phase ∧ (5 ≤ s.phase → (stepA tab name s).err = s.err) := by
  obtain ⟨phase, rows, tries, err, ans, xs, held⟩ := s
  obtain ⟨p1, p6, hx, ha, hi, hh, t1, t2⟩ := h
  simp only at p1 p6 hx ha hi hh t1 t2
  subst hh
  have hi1 := tl_ints hi
  have hi2 := tl_ints hi1
  have l1 : ans.tail.length ≤ 200 := by rw [List.length_tail]; omega
  have l2 : ans.tail.tail.length ≤ 200 := by rw [List.length_tail]; omega
  have : phase = 1 ∨ phase = 2 ∨ phase = 3 ∨ phase = 4 ∨ phase = 5 ∨ phase = 6 := by omega
  rcases this with rfl | rfl | rfl | rfl | rfl | rfl
  · have e : stepA tab name ⟨1, rows, tries, err, ans, xs, 0⟩ = stepOne tab name ⟨1, rows, tries, err, ans, xs, 0⟩ := rfl
    rw [e, stepOne]
    split
    · refine ⟨⟨?_, ?_, ?_, l2, hi2, by simp, fun _ => t1 (by decide), t2⟩, ?_, fun h => by simp at h⟩
      · simp only; split <;> decide
      · simp only; split <;> decide
      · simp; omega
      · simp only; split <;> decide
    · have := t1 (by decide)
      refine ⟨⟨?_, ?_, ?_, l1, hi1, by simp, ?_, by simp only; omega⟩, ?_, fun h => by simp at h⟩
      · simp only [failP]; split <;> decide
      · simp only [failP]; split <;> decide
      · simp; omega
      · simp only [failP]; split
        · simp
        · intro; omega
      · simp only [failP]; split <;> decide
  · have e : stepA tab name ⟨2, rows, tries, err, ans, xs, 0⟩ = stepTwo ⟨2, rows, tries, err, ans, xs, 0⟩ := rfl
    rw [e, stepTwo]
    refine ⟨⟨?_, ?_, ?_, l1, hi1, rfl, fun _ => t1 (by decide), t2⟩, ?_, fun h => by simp at h⟩
    · simp only; split <;> decide
    · simp only; split <;> decide
    · simp; omega
    · simp only; split <;> decide
  · have e : stepA tab name ⟨3, rows, tries, err, ans, xs, 0⟩ = stepThree name ⟨3, rows, tries, err, ans, xs, 0⟩ := rfl
    rw [e, stepThree]
    split
    · refine ⟨⟨?_, ?_, ?_, l2, hi2, rfl, fun _ => t1 (by decide), t2⟩, ?_, fun h => by simp at h⟩
      · simp only; split <;> decide
      · simp only; split <;> decide
      · simp; omega
      · simp only; split <;> decide
    · exact ⟨⟨by simp, by simp, by simp; omega, l1, hi1, rfl, fun _ => t1 (by decide), t2⟩, by simp, fun h => by simp at h⟩
  · have e : stepA tab name ⟨4, rows, tries, err, ans, xs, 0⟩ = stepFour tab name ⟨4, rows, tries, err, ans, xs, 0⟩ := rfl
    rw [e, stepFour]
    split
    · refine ⟨⟨?_, ?_, ?_, l2, hi2, by simp, fun _ => t1 (by decide), t2⟩, ?_, fun h => by simp at h⟩
      · simp only; split <;> decide
      · simp only; split <;> decide
      · simp; omega
      · simp only; split <;> decide
    · have := t1 (by decide)
      refine ⟨⟨?_, ?_, ?_, l1, hi1, by simp, ?_, by simp only; omega⟩, ?_, fun h => by simp at h⟩
      · simp only [failP]; split <;> decide
      · simp only [failP]; split <;> decide
      · simp; omega
      · simp only [failP]; split
        · simp
        · intro; omega
      · simp only [failP]; split <;> decide
  · have e : stepA tab name ⟨5, rows, tries, err, ans, xs, 0⟩ = stepFive tab name ⟨5, rows, tries, err, ans, xs, 0⟩ := rfl
    rw [e, stepFive]
    split
    · refine ⟨⟨?_, ?_, ?_, l2, hi2, by simp, ?_, t2⟩, ?_, fun h => rfl⟩
      · simp only; split <;> decide
      · simp only; split <;> decide
      · simp; omega
      · simp only; intro hq; split at hq <;> simp at hq
      · simp only; split <;> decide
    · exact ⟨⟨by simp, by simp, by simp; omega, l1, hi1, rfl, by simp, t2⟩, by simp, fun h => rfl⟩
  · have e : stepA tab name ⟨6, rows, tries, err, ans, xs, 0⟩ = ⟨6, rows, tries, err, ans, xs, 0⟩ := rfl
    rw [e]
    exact ⟨⟨by simp, by simp, by simp; omega, ha, hi, rfl, by simp, t2⟩, by simp, fun h => rfl⟩
end Go.Proofs.Ytplpdeanepdokaa

/- JobSteps: the print's own functions, at equal arguments. -/
namespace Go.Proofs.Ytplpdeanepdokaa
open Go.RowKit H Go.Proofs.Ytplpdeanepdokaa.PJobSteps
open Go.Proofs.YtplpdeanepdokaaW.PrintWords (Kd)

theorem up1 (i : Nat) (h : i < 1000000000) : wrap64 ((i : Int) + 1) = ((i + 1 : Nat) : Int) := by unfold wrap64; omega
theorem sameRow_l (l : List S60) (hl : l.length ≤ 100000000) (d : Nat) : ∀ (i k : Nat), l.length = i + d → d < k → interlockref00_SameRow.l0 k l l (i : Int) = some true := by
  induction d with
  | zero =>
    intro i k hi hk
    obtain ⟨k, rfl⟩ : ∃ m, k = m + 1 := ⟨k - 1, by omega⟩
    simp only [interlockref00_SameRow.l0]
    rw [if_neg (by omega)]
  | succ d ih =>
    intro i k hi hk
    obtain ⟨k, rfl⟩ : ∃ m, k = m + 1 := ⟨k - 1, by omega⟩
    simp only [interlockref00_SameRow.l0]
    rw [if_pos (by omega), if_pos (by omega), if_pos (by omega), if_neg (by simp), up1 i (by omega)]
    exact ih (i + 1) k (by omega) (by omega)
theorem sameRow_eq (l : List S60) (k : Nat) (hk : l.length < k) (hl : l.length ≤ 100000000) : interlockref00_SameRow.f k l l = some true := by
  rw [interlockref00_SameRow.f, if_pos rfl]
  exact sameRow_l l hl l.length 0 k (by omega) hk
theorem sameTexts_l (l : List ByteArray) (hl : l.length ≤ 100000000) (d : Nat) : ∀ (i k : Nat), l.length = i + d → d < k → interlockref00_SameTexts.l0 k l l (i : Int) = some true := by
  induction d with
  | zero =>
    intro i k hi hk
    obtain ⟨k, rfl⟩ : ∃ m, k = m + 1 := ⟨k - 1, by omega⟩
    simp only [interlockref00_SameTexts.l0]
    rw [if_neg (by omega)]
  | succ d ih =>
    intro i k hi hk
    obtain ⟨k, rfl⟩ : ∃ m, k = m + 1 := ⟨k - 1, by omega⟩
    simp only [interlockref00_SameTexts.l0]
    rw [if_pos (by omega), if_pos (by omega), if_pos (by omega), if_pos trivial, up1 i (by omega)]
    exact ih (i + 1) k (by omega) (by omega)
theorem sameTexts_eq (l : List ByteArray) (k : Nat) (hk : l.length < k) (hl : l.length ≤ 100000000) : interlockref00_SameTexts.f k l l = some true := by
  rw [interlockref00_SameTexts.f, if_pos rfl]
  exact sameTexts_l l hl l.length 0 k (by omega) hk
theorem sameConds_l (l : List S64) (hl : l.length ≤ 100000000) (d : Nat) : ∀ (i k : Nat), l.length = i + d → d < k → interlockref00_SameConds.l0 k l l (i : Int) = some true := by
  induction d with
  | zero =>
    intro i k hi hk
    obtain ⟨k, rfl⟩ : ∃ m, k = m + 1 := ⟨k - 1, by omega⟩
    simp only [interlockref00_SameConds.l0]
    rw [if_neg (by omega)]
  | succ d ih =>
    intro i k hi hk
    obtain ⟨k, rfl⟩ : ∃ m, k = m + 1 := ⟨k - 1, by omega⟩
    simp only [interlockref00_SameConds.l0]
    rw [if_pos (by omega), if_pos (by omega), if_pos (by omega), if_neg (by simp), up1 i (by omega)]
    exact ih (i + 1) k (by omega) (by omega)
theorem sameConds_eq (l : List S64) (k : Nat) (hk : l.length < k) (hl : l.length ≤ 100000000) : interlockref00_SameConds.f k l l = some true := by
  rw [interlockref00_SameConds.f, if_pos rfl]
  exact sameConds_l l hl l.length 0 k (by omega) hk

section
variable (a0 : Int) (a1 a2 a3 : ByteArray) (a4 : Int) (a5 : Bool) (l6 : List S60) (l7 : List S62) (l8 : List S64) (l9 : List S66) (l10 : List ByteArray)
theorem sameStmt_l1 (hl : l9.length ≤ 1000) (d : Nat) : ∀ (i k : Nat), l9.length = i + d → d < k →
    interlockref00_SameStmt.l1 k (i : Int) a0 a1 a2 a3 a4 a5 l6 l7 l8 l9 l10 a0 a1 a2 a3 a4 a5 l6 l7 l8 l9 l10 = some true := by
  induction d with
  | zero =>
    intro i k hi hk
    obtain ⟨k, rfl⟩ : ∃ m, k = m + 1 := ⟨k - 1, by omega⟩
    simp only [interlockref00_SameStmt.l1]
    rw [if_neg (by omega)]
  | succ d ih =>
    intro i k hi hk
    obtain ⟨k, rfl⟩ : ∃ m, k = m + 1 := ⟨k - 1, by omega⟩
    simp only [interlockref00_SameStmt.l1]
    rw [if_pos (by omega), if_pos (by omega), if_pos (by omega), if_neg (by simp), up1 i (by omega)]
    exact ih (i + 1) k (by omega) (by omega)
theorem sameStmt_l0 (hl9 : l9.length ≤ 1000) (hl : l7.length ≤ 1000) (d : Nat) : ∀ (i k : Nat), l7.length = i + d → d + 2000 < k →
    interlockref00_SameStmt.l0 k (i : Int) a0 a1 a2 a3 a4 a5 l6 l7 l8 l9 l10 a0 a1 a2 a3 a4 a5 l6 l7 l8 l9 l10 = some true := by
  induction d with
  | zero =>
    intro i k hi hk
    obtain ⟨k, rfl⟩ : ∃ m, k = m + 1 := ⟨k - 1, by omega⟩
    simp only [interlockref00_SameStmt.l0]
    rw [if_neg (by omega)]
    exact sameStmt_l1 a0 a1 a2 a3 a4 a5 l6 l7 l8 l9 l10 hl9 l9.length 0 k (by omega) (by omega)
  | succ d ih =>
    intro i k hi hk
    obtain ⟨k, rfl⟩ : ∃ m, k = m + 1 := ⟨k - 1, by omega⟩
    simp only [interlockref00_SameStmt.l0]
    rw [if_pos (by omega), if_pos (by omega), if_pos (by omega), if_neg (by simp), up1 i (by omega)]
    exact ih (i + 1) k (by omega) (by omega)
theorem sameStmt_eq (h6 : l6.length ≤ 1000) (h7 : l7.length ≤ 1000) (h8 : l8.length ≤ 1000) (h9 : l9.length ≤ 1000) (h10 : l10.length ≤ 1000) :
    interlockref00_SameStmt.f 10000 a0 a1 a2 a3 a4 a5 l6 l7 l8 l9 l10 a0 a1 a2 a3 a4 a5 l6 l7 l8 l9 l10 = some true := by
  rw [interlockref00_SameStmt.f]
  rw [if_pos rfl, if_pos rfl, if_pos rfl, if_pos rfl, if_pos rfl, if_neg (by simp), sameRow_eq l6 10000 (by omega) (by omega), Option.bind_some, if_pos rfl,
    sameConds_eq l8 10000 (by omega) (by omega), Option.bind_some, if_pos rfl, sameTexts_eq l10 10000 (by omega) (by omega), Option.bind_some, if_pos rfl, if_pos rfl]
  rw [show ((l9.length : Int) != (l9.length : Int)) = false by simp]
  simp only [interlockref00_SameStmt.j0]
  rw [if_neg (by decide)]
  exact sameStmt_l0 a0 a1 a2 a3 a4 a5 l6 l7 l8 l9 l10 h9 h7 l7.length 0 9999 (by omega) (by omega)
theorem copyStmt_eq (h6 : l6.length ≤ 1000) (h7 : l7.length ≤ 1000) (h8 : l8.length ≤ 1000) (h9 : l9.length ≤ 1000) (h10 : l10.length ≤ 1000) :
    interlockref00_CopyStmt.f a0 a1 a2 a3 a4 a5 l6 l7 l8 l9 l10 = some (a0, a1, a2, a3, a4, a5, l6, l7, l8, l9, l10) := by
  simp only [interlockref00_CopyStmt.f, interlockref00_CopyRow.f, interlockref00_CopyConds.f, interlockref00_CopyTexts.f, Option.bind_some, List.nil_append, List.length_nil]
  rw [if_pos (by omega), Option.bind_some, if_pos (by omega), if_pos (by omega), Option.bind_some, if_pos (by omega), if_pos (by omega), Option.bind_some]
theorem copyRow_eq (h6 : l6.length ≤ 1000) : interlockref00_CopyRow.f l6 = some l6 := by
  simp only [interlockref00_CopyRow.f, Option.bind_some, List.nil_append, List.length_nil]
  rw [if_pos (by omega)]

theorem great22_l0 (l1 : List S60) (h1 : l1.length ≤ 10) (d : Nat) : ∀ (i k : Nat), l1.length = i + d → d < k → ∃ r, interlocklaw22_great.l0 k l1 (i : Int) = some r := by
  induction d with
  | zero =>
    intro i k hi hk
    obtain ⟨k, rfl⟩ : ∃ m, k = m + 1 := ⟨k - 1, by omega⟩
    simp only [interlocklaw22_great.l0]
    rw [if_neg (by omega)]
    exact ⟨_, rfl⟩
  | succ d ih =>
    intro i k hi hk
    obtain ⟨k, rfl⟩ : ∃ m, k = m + 1 := ⟨k - 1, by omega⟩
    simp only [interlocklaw22_great.l0]
    rw [if_pos (by omega), if_pos (by omega)]
    split
    · exact ⟨_, rfl⟩
    · rw [up1 i (by omega)]
      exact ih (i + 1) k (by omega) (by omega)
theorem great_up (k j : Nat) (r : Bool) (h : interlocklaw15_GreatStmt.f k a0 a1 a2 a3 a4 a5 l6 l7 l8 l9 l10 = some r) : interlocklaw15_GreatStmt.f (k + j) a0 a1 a2 a3 a4 a5 l6 l7 l8 l9 l10 = some r := by
  induction j with
  | zero => exact h
  | succ j ih => exact interlocklaw15_GreatStmt.mono a0 a1 a2 a3 a4 a5 l6 l7 l8 l9 l10 (k + j) _ ih
theorem great22_any (l1 : List S60) (l2 : List Int) :
    ∃ k r, interlocklaw22_great.f k a0 a1 a2 a3 a4 a5 l6 l7 l8 l9 l10 l1 l2 = some r ∧ (r = false → SmallS a1 a2 a3 l6 l7 l8 l9 l10 ∧ l1.length ≤ 10 ∧ l2.length ≤ 200) := by
  obtain ⟨k, r0, h0, hs⟩ := great_some a0 a1 a2 a3 a4 a5 l6 l7 l8 l9 l10
  have h2 := great_up a0 a1 a2 a3 a4 a5 l6 l7 l8 l9 l10 k 100 r0 h0
  have hj : interlocklaw22_great.j0 (k + 100) l1 true = some true := by
    simp only [interlocklaw22_great.j0]
    rw [if_pos trivial]
  cases r0 with
  | true =>
    refine ⟨k + 100, true, ?_, fun h => by cases h⟩
    rw [interlocklaw22_great.f, h2, Option.bind_some, if_pos rfl]
    exact hj
  | false =>
    by_cases hl1 : (l1.length : Int) > 10
    · refine ⟨k + 100, true, ?_, fun h => by cases h⟩
      rw [interlocklaw22_great.f, h2, Option.bind_some, if_neg (by decide), if_pos hl1]
      exact hj
    by_cases hl : (l2.length : Int) > 200
    · refine ⟨k + 100, true, ?_, fun h => by cases h⟩
      rw [interlocklaw22_great.f, h2, Option.bind_some, if_neg (by decide), if_neg hl1, decide_eq_true hl]
      exact hj
    · obtain ⟨r, hr⟩ := great22_l0 l1 (by omega) l1.length 0 (k + 99) (by omega) (by omega)
      refine ⟨k + 100, r, ?_, fun _ => ⟨hs rfl, by omega, by omega⟩⟩
      rw [interlocklaw22_great.f, h2, Option.bind_some, if_neg (by decide), if_neg hl1, decide_eq_false hl]
      simp only [interlocklaw22_great.j0]
      rw [if_neg (by decide)]
      exact hr
end
end Go.Proofs.Ytplpdeanepdokaa

/- JobSteps: two jobs and two worlds, side by side; the job's own statement. -/
namespace Go.Proofs.Ytplpdeanepdokaa
open Go.RowKit H Go.Proofs.Ytplpdeanepdokaa.PJobSteps
open Go.Proofs.YtplpdeanepdokaaW.PrintWords (Kd)

theorem row_kds {α : Type} {d : Kd α} {f : α → List Value} {sz : Nat} {e : TypeId} (hs : d.sz = sz) (hk : ∀ w x, d.K w x (f x)) (hf : ∀ x, (f x).length = sz) (hsz : 0 < sz) {w : World} {A : Option Addr} {c : Nat} {l : List α}
    (hl : l.length ≤ maxLen) (h : Row w e (.slice A l.length c) l.length (l.flatMap f)) : Kd.C d w A l.length l := by
  refine kd_of hs hk hf hl (fun h0 => ?_)
  obtain ⟨b, o, rfl, hc⟩ := h.cells (by
    intro e
    have := flat_length f sz hf l
    rw [e, List.length_nil] at this
    have h2 : 0 < l.length * sz := Nat.mul_pos h0 hsz
    omega)
  refine ⟨_, rfl, fun i x hi j u hu => ?_⟩
  have hj : j < sz := by have := (List.getElem?_eq_some_iff.1 hu).1; rw [hf] at this; exact this
  have hil : i < l.length := (List.getElem?_eq_some_iff.1 hi).1
  have hx : l[i] = x := (List.getElem?_eq_some_iff.1 hi).2
  have := h.elem (f := f) (sz := sz) hf i j hil hj u (by rw [hx]; exact hu)
  rw [Addr.add_lit]
  exact this
/-- A statement's slices, read. -/
structure ArgK (w : World) (A6 A7 A8 A9 A10 : Option Addr) (c6 c7 c8 c9 c10 : Nat) (D : Sd) : Prop where
  r6 : Kd.C k60 w A6 D.a.length D.a
  r7 : Kd.C k62 w A7 D.b.length D.b
  r8 : Kd.C k64 w A8 D.c.length D.c
  r9 : Kd.C k66 w A9 D.d.length D.d
  r10 : Kd.C Kd.string w A10 D.e.length D.e
  l6 : D.a.length ≤ c6
  l7 : D.b.length ≤ c7
  l8 : D.c.length ≤ c8
  l9 : D.d.length ≤ c9
  l10 : D.e.length ≤ c10
section
variable {w w' : World} {A6 A7 A8 A9 A10 : Option Addr} {c6 c7 c8 c9 c10 : Nat} {D : Sd}
theorem ArgS.k (h : ArgS w A6 A7 A8 A9 A10 c6 c7 c8 c9 c10 D) : ArgK w A6 A7 A8 A9 A10 c6 c7 c8 c9 c10 D := ⟨h.r6, h.r7, h.r8, h.r9, h.r10, h.l6, h.l7, h.l8, h.l9, h.l10⟩
theorem ArgK.fr (h : ArgK w A6 A7 A8 A9 A10 c6 c7 c8 c9 c10 D) (hf : Fr (fun _ => False) w w') : ArgK w' A6 A7 A8 A9 A10 c6 c7 c8 c9 c10 D :=
  have hb : Below w.heap.size w w' := hf.below (Nat.le_refl _) (fun _ _ => id)
  ⟨Kd.C_below h.r6 hb, Kd.C_below h.r7 hb, Kd.C_below h.r8 hb, Kd.C_below h.r9 hb, Kd.C_below h.r10 hb, h.l6, h.l7, h.l8, h.l9, h.l10⟩
theorem ArgK.of_rows (hm : D.a.length ≤ 1000 ∧ D.b.length ≤ 1000 ∧ D.c.length ≤ 1000 ∧ D.d.length ≤ 1000 ∧ D.e.length ≤ 1000) {e1 e2 e3 e4 e5 : TypeId}
    (h6 : Row w e1 (.slice A6 D.a.length c6) D.a.length (D.a.flatMap rc)) (h7 : Row w e2 (.slice A7 D.b.length c7) D.b.length (D.b.flatMap setc))
    (h8 : Row w e3 (.slice A8 D.c.length c8) D.c.length (D.c.flatMap condc)) (h9 : Row w e4 (.slice A9 D.d.length c9) D.d.length (D.d.flatMap colc))
    (h10 : Row w e5 (.slice A10 D.e.length c10) D.e.length (D.e.flatMap strc)) : ArgK w A6 A7 A8 A9 A10 c6 c7 c8 c9 c10 D := by
  obtain ⟨m6, m7, m8, m9, m10⟩ := hm
  have g6 := h6.slice
  have g7 := h7.slice
  have g8 := h8.slice
  have g9 := h9.slice
  have g10 := h10.slice
  obtain ⟨_, _, e6, g6⟩ := g6
  obtain ⟨_, _, e7, g7⟩ := g7
  obtain ⟨_, _, e8, g8⟩ := g8
  obtain ⟨_, _, e9, g9⟩ := g9
  obtain ⟨_, _, e10, g10⟩ := g10
  injection e6 with _ _ e6
  injection e7 with _ _ e7
  injection e8 with _ _ e8
  injection e9 with _ _ e9
  injection e10 with _ _ e10
  subst e6 e7 e8 e9 e10
  exact ⟨row_kds rfl k60_mk (fun _ => rfl) (by decide) (by unfold maxLen; omega) h6, row_kds rfl k62_mk (fun _ => rfl) (by decide) (by unfold maxLen; omega) h7,
    row_kds rfl k64_mk (fun _ => rfl) (by decide) (by unfold maxLen; omega) h8, row_kds rfl k66_mk (fun _ => rfl) (by decide) (by unfold maxLen; omega) h9,
    row_kds rfl (fun _ _ => rfl) (fun _ => rfl) (by decide) (by unfold maxLen; omega) h10, g6, g7, g8, g9, g10⟩
end
theorem flat_strc : ∀ (xs : List ByteArray), xs.flatMap strc = xs.map Value.string
  | [] => rfl
  | x :: xs => by rw [List.flatMap_cons, flat_strc xs]; rfl
theorem texts_kd {w : World} {base : Nat} {v : Value} {xs : List ByteArray} (h : w.ownsRow base 9 1 v xs.length (xs.map Value.string)) (hm : xs.length ≤ 1000000) :
    ∃ A c, v = .slice A xs.length c ∧ xs.length ≤ c ∧ Kd.C Kd.string w A xs.length xs := by
  have hr := Row.of_own h
  obtain ⟨A, c, rfl, hc⟩ := hr.slice
  refine ⟨A, c, rfl, hc, row_kds (f := strc) (sz := 1) (c := c) rfl (fun _ _ => rfl) (fun _ => rfl) (by decide) (by unfold maxLen; omega) (e := 9) ?_⟩
  have e : xs.flatMap strc = xs.map Value.string := flat_strc xs
  rw [e]
  exact hr

/-- The job (g, asking p) and the document's (G, asking P), made behind w3; what the job's statement lies in is as at w3. -/
structure LV (wc w3 wr : World) (g p G P : Nat) (x y : Sx) (s t : JA) (v V : Value) : Prop where
  job : JWa wr g p x s v
  ref : Rf.JWa wr G P y t V
  fc : Fr (fun _ => False) wc wr
  f3 : Fr (fun k => k = g ∨ k = G) w3 wr
  ov : ∀ k, v.ownBlock = some k → w3.heap.size ≤ k
  oV : ∀ k, V.ownBlock = some k → w3.heap.size ≤ k
  dis : ∀ k, v.ownBlock = some k → V.ownBlock ≠ some k
/-- What stays of the blocks. -/
structure LB (wc w3 : World) (g p G P : Nat) : Prop where
  g0 : wc.heap.size ≤ g
  G0 : wc.heap.size ≤ G
  c3 : wc.heap.size ≤ w3.heap.size
  p3 : w3.heap.size ≤ p
  P3 : w3.heap.size ≤ P
  pP : p ≠ P
theorem own_blk {w : World} {base : Nat} {e : TypeId} {size n k : Nat} {v : Value} {xs : List Value} (h : w.ownsRow base e size v n xs) (hk : v.ownBlock = some k) : k < w.heap.size := by
  rcases h.2 with ⟨rfl, _⟩ | ⟨g, cap, cur, rfl, _, hh, _⟩
  · simp [Value.ownBlock] at hk
  · obtain rfl : g = k := by simpa [Value.ownBlock] using hk
    exact blk_lt hh
theorem LV.jobStep {wc w3 wr w2 : World} {g p G P : Nat} {x y : Sx} {s s' t : JA} {v V : Value} (b : LB wc w3 g p G P) (h : LV wc w3 wr g p G P x y s t v V) (h2 : JPa wr g p v x s' w2) :
    ∃ v', LV wc w3 w2 g p G P x y s' t v' V := by
  obtain ⟨v', hj, hf, hb⟩ := h2
  obtain ⟨⟨va, hJ⟩, ⟨vt, hT⟩⟩ := h.job
  obtain ⟨⟨ra, hR⟩, ⟨rt, hU⟩⟩ := h.ref
  refine ⟨v', hj, ⟨⟨ra, ⟨hf.blk hR.blk ?_, hR.after.fr hf ?_, hR.few, hR.ints⟩⟩, ⟨rt, hU.fr hf ?_ ?_ ?_⟩⟩, h.fc.trans hf ?_, h.f3.trans hf ?_, ?_, h.oV, ?_⟩
  · rintro (rfl | rfl | hk)
    · exact blk_ty hR.blk hJ.blk (by decide) rfl
    · exact blk_ty hR.blk hT.blk (by decide) rfl
    · exact own_ne hT.own hR.blk (by decide) hk
  · rintro k cur fr hc (rfl | rfl | hk)
    · exact blk_ty hc hJ.blk (by decide) rfl
    · exact blk_ty hc hT.blk (by decide) rfl
    · exact own_ne hT.own hc (by decide) hk
  · rintro (rfl | rfl | hk)
    · exact blk_ty hU.blk hJ.blk (by decide) rfl
    · exact b.pP rfl
    · exact own_ne hT.own hU.blk (by decide) hk
  · rintro k hk (rfl | rfl | hk')
    · exact own_ne hU.own hJ.blk (by decide) hk
    · exact own_ne hU.own hT.blk (by decide) hk
    · exact h.dis k hk' hk
  · rintro k cur fr hc (rfl | rfl | hk)
    · exact blk_ty hc hJ.blk (by decide) rfl
    · exact blk_ty hc hT.blk (by decide) rfl
    · exact own_ne hT.own hc (by decide) hk
  · rintro i hi (rfl | rfl | hk)
    · have := b.g0; omega
    · have := b.p3; have := b.c3; omega
    · have := h.ov i hk; have := b.c3; omega
  · rintro i hi (rfl | rfl | hk)
    · exact .inl rfl
    · have := b.p3; omega
    · have := h.ov i hk; omega
  · intro k hk
    rcases hb k hk with hk | hk
    · exact h.ov k hk
    · exact Nat.le_trans h.f3.size hk
  · intro k hk hV
    rcases hb k hk with hk | hk
    · exact h.dis k hk hV
    · have := own_blk hU.own hV; omega
theorem LV.refStep {wc w3 wr w2 : World} {g p G P : Nat} {x y : Sx} {s t t' : JA} {v V : Value} (b : LB wc w3 g p G P) (h : LV wc w3 wr g p G P x y s t v V) (h2 : Rf.JPa wr G P V y t' w2) :
    ∃ V', LV wc w3 w2 g p G P x y s t' v V' := by
  obtain ⟨V', hj, hf, hb⟩ := h2
  obtain ⟨⟨va, hJ⟩, ⟨vt, hT⟩⟩ := h.job
  obtain ⟨⟨ra, hR⟩, ⟨rt, hU⟩⟩ := h.ref
  refine ⟨V', ⟨⟨va, ⟨hf.blk hJ.blk ?_, hJ.after.fr hf ?_, hJ.few, hJ.ints⟩⟩, ⟨vt, hT.fr hf ?_ ?_ ?_⟩⟩, hj, h.fc.trans hf ?_, h.f3.trans hf ?_, h.ov, ?_, ?_⟩
  · rintro (rfl | rfl | hk)
    · exact blk_ty hJ.blk hR.blk (by decide) rfl
    · exact blk_ty hJ.blk hU.blk (by decide) rfl
    · exact own_ne hU.own hJ.blk (by decide) hk
  · rintro k cur fr hc (rfl | rfl | hk)
    · exact blk_ty hc hR.blk (by decide) rfl
    · exact blk_ty hc hU.blk (by decide) rfl
    · exact own_ne hU.own hc (by decide) hk
  · rintro (rfl | rfl | hk)
    · exact blk_ty hT.blk hR.blk (by decide) rfl
    · exact b.pP rfl
    · exact own_ne hU.own hT.blk (by decide) hk
  · rintro k hk (rfl | rfl | hk')
    · exact own_ne hT.own hR.blk (by decide) hk
    · exact own_ne hT.own hU.blk (by decide) hk
    · exact h.dis k hk hk'
  · rintro k cur fr hc (rfl | rfl | hk)
    · exact blk_ty hc hR.blk (by decide) rfl
    · exact blk_ty hc hU.blk (by decide) rfl
    · exact own_ne hU.own hc (by decide) hk
  · rintro i hi (rfl | rfl | hk)
    · have := b.G0; omega
    · have := b.P3; have := b.c3; omega
    · have := h.oV i hk; have := b.c3; omega
  · rintro i hi (rfl | rfl | hk)
    · exact .inr rfl
    · have := b.P3; omega
    · have := h.oV i hk; omega
  · intro k hk
    rcases hb k hk with hk | hk
    · exact h.oV k hk
    · exact Nat.le_trans h.f3.size hk
  · intro k hk hV
    rcases hb k hV with hV | hV
    · exact h.dis k hk hV
    · have := own_blk hT.own hk; omega
theorem LV.made {wc w3 wr w2 : World} {g p G P : Nat} {x y : Sx} {s t : JA} {v V : Value} (h : LV wc w3 wr g p G P x y s t v V) (f : Fr (fun _ => False) wr w2) :
    LV wc w3 w2 g p G P x y s t v V :=
  ⟨JW.made h.job f, Rf.JW.made h.ref f, h.fc.trans f (fun _ _ h => h), h.f3.trans (f.mono (S' := fun k => k = g ∨ k = G) (fun _ _ h => h.elim)) (fun _ _ h => h), h.ov, h.oV, h.dis⟩

/-- What the job's Stmt answers. -/
def StmtPost (w : World) (k : Int) (tab name dest : ByteArray) (n : Int) (fl : Bool) (D : Sd) (e : Ending) (wx : World) : Prop :=
  ∃ A1 c1 A2 c2 A3 c3 A4 c4 A5 c5, e = .returned (.agg #[.int .i64 k, .string tab, .string name, .string dest, .int .i64 n, .bool fl, .slice A1 D.a.length c1, .slice A2 D.b.length c2, .slice A3 D.c.length c3, .slice A4 D.d.length c4, .slice A5 D.e.length c5]) ∧
    ArgK wx A1 A2 A3 A4 A5 c1 c2 c3 c4 c5 D ∧ Fr (fun _ => False) w wx
set_option maxHeartbeats 2000000 in
theorem stmt_any (w : World) (g : Nat) (k : Int) (tab name dest : ByteArray) (n : Int) (fl : Bool) (Aa Ab Ac Ad Ae : Option Addr) (ca cb cc cd ce : Nat) (D : Sd) (phase : Int) (va : Value) (rows : List S60) (tries err : Int)
    (hJ : JobR w g ⟨k, tab, name, dest, n, fl, .slice Aa D.a.length ca, .slice Ab D.b.length cb, .slice Ac D.c.length cc, .slice Ad D.d.length cd, .slice Ae D.e.length ce⟩ phase va rows tries err)
    (h : SxRd w ⟨k, tab, name, dest, n, fl, .slice Aa D.a.length ca, .slice Ab D.b.length cb, .slice Ac D.c.length cc, .slice Ad D.d.length cd, .slice Ae D.e.length ce⟩ D) (hf : D.Few) :
    Calls Try.prog 22 #[.pointer (some ⟨g, 0, none⟩)] w (StmtPost w k tab name dest n fl D) := by
  have hs : Fr (fun _ => False) w (w.alloc (.cells #[.int .i64 0, .string ⟨#[]⟩, .string ⟨#[]⟩, .string ⟨#[]⟩, .int .i64 0, .bool false, .slice none 0 0, .slice none 0 0, .slice none 0 0, .slice none 0 0, .slice none 0 0] 28)) := (Fr.refl _ w).alloc _
  have hbl := blk_alloc hJ.blk (.cells #[.int .i64 0, .string ⟨#[]⟩, .string ⟨#[]⟩, .string ⟨#[]⟩, .int .i64 0, .bool false, .slice none 0 0, .slice none 0 0, .slice none 0 0, .slice none 0 0, .slice none 0 0] 28)
  have c0 := blk_cell hbl 0
  have c1 := blk_cell hbl 1
  have c2 := blk_cell hbl 2
  have c3 := blk_cell hbl 3
  have c4 := blk_cell hbl 4
  have c5 := blk_cell hbl 5
  have c6 := blk_cell hbl 6
  have c7 := blk_cell hbl 7
  have c8 := blk_cell hbl 8
  have c9 := blk_cell hbl 9
  have c10 := blk_cell hbl 10
  simp only [List.getElem?_toArray, List.getElem?_cons_succ, List.getElem?_cons_zero] at c0 c1 c2 c3 c4 c5 c6 c7 c8 c9 c10
  have HR := Lib.hid (And.intro (h.fr hs (fun _ _ => id)) hf)
  have HS := Lib.hid hs
  clear hJ h hf hs hbl
  go_enter Try.func22, Try.ntmps22
  go_wp2_with fail
  refine (cloned_any _ k tab name dest n fl Aa Ab Ac Ad Ae ca cb cc cd ce D HR.out.1 HR.out.2).mono ?_
  rintro e w1 ⟨A1, d1, A2, d2, A3, d3, A4, d4, A5, d5, rfl, o1, o2, o3, o4, o5, f1⟩
  have HX := Lib.hid (And.intro o1 (And.intro o2 (And.intro o3 (And.intro o4 (And.intro o5 f1)))))
  have hz1 := f1.blk (blk_new w (.cells #[.int .i64 0, .string ⟨#[]⟩, .string ⟨#[]⟩, .string ⟨#[]⟩, .int .i64 0, .bool false, .slice none 0 0, .slice none 0 0, .slice none 0 0, .slice none 0 0, .slice none 0 0] 28)) id
  have HZ1 := Lib.hid hz1
  have z0 := blk_cell hz1 0
  have z1 := blk_cell hz1 1
  have z2 := blk_cell hz1 2
  have z3 := blk_cell hz1 3
  have z4 := blk_cell hz1 4
  have z5 := blk_cell hz1 5
  have z6 := blk_cell hz1 6
  have z7 := blk_cell hz1 7
  have z8 := blk_cell hz1 8
  have z9 := blk_cell hz1 9
  have z10 := blk_cell hz1 10
  have zf := blk_frozen hz1
  simp only [List.getElem?_toArray, List.getElem?_cons_succ, List.getElem?_cons_zero] at z0 z1 z2 z3 z4 z5 z6 z7 z8 z9 z10
  clear hz1 o1 o2 o3 o4 o5 f1 c0 c1 c2 c3 c4 c5 c6 c7 c8 c9 c10
  go_wp2
  have HN : Hid (∀ W', W' = (((((((((((w1.setCell ⟨w.heap.size, 0, none⟩ (.int .i64 k)).setCell ⟨w.heap.size, 1, none⟩ (.string tab)).setCell ⟨w.heap.size, 2, none⟩ (.string name)).setCell ⟨w.heap.size, 3, none⟩ (.string dest)).setCell ⟨w.heap.size, 4, none⟩ (.int .i64 n)).setCell ⟨w.heap.size, 5, none⟩ (.bool fl)).setCell ⟨w.heap.size, 6, none⟩ (.slice A1 D.a.length d1)).setCell ⟨w.heap.size, 7, none⟩ (.slice A2 D.b.length d2)).setCell ⟨w.heap.size, 8, none⟩ (.slice A3 D.c.length d3)).setCell ⟨w.heap.size, 9, none⟩ (.slice A4 D.d.length d4)).setCell ⟨w.heap.size, 10, none⟩ (.slice A5 D.e.length d5)) →
      W'.heap[w.heap.size]? = some (.cells #[.int .i64 k, .string tab, .string name, .string dest, .int .i64 n, .bool fl, .slice A1 D.a.length d1, .slice A2 D.b.length d2, .slice A3 D.c.length d3, .slice A4 D.d.length d4, .slice A5 D.e.length d5] 28 (0, 0)) ∧
      StmtPost w k tab name dest n fl D (.returned (.agg #[.int .i64 k, .string tab, .string name, .string dest, .int .i64 n, .bool fl, .slice A1 D.a.length d1, .slice A2 D.b.length d2, .slice A3 D.c.length d3, .slice A4 D.d.length d4, .slice A5 D.e.length d5])) W') := by
    rintro W' rfl
    obtain ⟨o1, o2, o3, o4, o5, f1⟩ := HX.out
    have hz := HZ1.out
    have hbz := blk_set (blk_set (blk_set (blk_set (blk_set (blk_set (blk_set (blk_set (blk_set (blk_set (blk_set hz 0 (.int .i64 k)) 1 (.string tab)) 2 (.string name)) 3 (.string dest)) 4 (.int .i64 n)) 5 (.bool fl)) 6 (.slice A1 D.a.length d1)) 7 (.slice A2 D.b.length d2)) 8 (.slice A3 D.c.length d3)) 9 (.slice A4 D.d.length d4)) 10 (.slice A5 D.e.length d5)
    have hs : ∀ (b : World) (i : Nat) (u : Value), Fr (fun k => k = w.heap.size) w1 b → Fr (fun k => k = w.heap.size) w1 (b.setCell ⟨w.heap.size, i, none⟩ u) := fun b i u h => h.setCell (fun _ => rfl) u
    have hf := hs _ 10 (.slice A5 D.e.length d5) (hs _ 9 (.slice A4 D.d.length d4) (hs _ 8 (.slice A3 D.c.length d3) (hs _ 7 (.slice A2 D.b.length d2) (hs _ 6 (.slice A1 D.a.length d1) (hs _ 5 (.bool fl) (hs _ 4 (.int .i64 n) (hs _ 3 (.string dest) (hs _ 2 (.string name) (hs _ 1 (.string tab) (hs _ 0 (.int .i64 k) (Fr.refl _ w1)))))))))))
    have hF := HR.out.2
    have hw : Fr (fun _ => False) w w1 := HS.out.trans f1 (fun _ _ h => h)
    refine ⟨by simpa using hbz, A1, d1, A2, d2, A3, d3, A4, d4, A5, d5, rfl, ArgK.of_rows ⟨hF.a, hF.b, hF.c, hF.d, hF.e⟩ (Row.of_own (hf.own o1 ?_)) (Row.of_own (hf.own o2 ?_)) (Row.of_own (hf.own o3 ?_)) (Row.of_own (hf.own o4 ?_)) (Row.of_own (hf.own o5 ?_)), ?_⟩
    · exact fun k hk e => own_ne o1 hz (by decide) (e ▸ hk)
    · exact fun k hk e => own_ne o2 hz (by decide) (e ▸ hk)
    · exact fun k hk e => own_ne o3 hz (by decide) (e ▸ hk)
    · exact fun k hk e => own_ne o4 hz (by decide) (e ▸ hk)
    · exact fun k hk e => own_ne o5 hz (by decide) (e ▸ hk)
    · exact hw.trans hf (fun i hi e => by omega)
  generalize hW' : (((((((((((w1.setCell ⟨w.heap.size, 0, none⟩ (.int .i64 k)).setCell ⟨w.heap.size, 1, none⟩ (.string tab)).setCell ⟨w.heap.size, 2, none⟩ (.string name)).setCell ⟨w.heap.size, 3, none⟩ (.string dest)).setCell ⟨w.heap.size, 4, none⟩ (.int .i64 n)).setCell ⟨w.heap.size, 5, none⟩ (.bool fl)).setCell ⟨w.heap.size, 6, none⟩ (.slice A1 D.a.length d1)).setCell ⟨w.heap.size, 7, none⟩ (.slice A2 D.b.length d2)).setCell ⟨w.heap.size, 8, none⟩ (.slice A3 D.c.length d3)).setCell ⟨w.heap.size, 9, none⟩ (.slice A4 D.d.length d4)).setCell ⟨w.heap.size, 10, none⟩ (.slice A5 D.e.length d5)) = W'
  obtain ⟨hz, hpost⟩ := HN.out W' hW'.symm
  have z0 := blk_cell hz 0
  have z1 := blk_cell hz 1
  have z2 := blk_cell hz 2
  have z3 := blk_cell hz 3
  have z4 := blk_cell hz 4
  have z5 := blk_cell hz 5
  have z6 := blk_cell hz 6
  have z7 := blk_cell hz 7
  have z8 := blk_cell hz 8
  have z9 := blk_cell hz 9
  have z10 := blk_cell hz 10
  simp only [List.getElem?_toArray, List.getElem?_cons_succ, List.getElem?_cons_zero] at z0 z1 z2 z3 z4 z5 z6 z7 z8 z9 z10
  refine bodyPost_ret (v := .agg #[.int .i64 k, .string tab, .string name, .string dest, .int .i64 n, .bool fl, .slice A1 D.a.length d1, .slice A2 D.b.length d2, .slice A3 D.c.length d3, .slice A4 D.d.length d4, .slice A5 D.e.length d5]) ?_ rfl hpost
  simp [results, Try.results22, go_sem, z0, z1, z2, z3, z4, z5, z6, z7, z8, z9, z10]
end Go.Proofs.Ytplpdeanepdokaa

/- JobSteps: where the loop begins. -/
namespace Go.Proofs.Ytplpdeanepdokaa
open Go.RowKit H Go.Proofs.Ytplpdeanepdokaa.PJobSteps
open Go.Proofs.YtplpdeanepdokaaW.PrintWords (Kd)

/-- Both jobs are made. -/
structure TailF (wc wb wn : World) (g G : Nat) (x y : Sx) (ph : Int) (rows : List S60) (mb : Int) (D : Sd) : Prop where
  job : ∃ va, JobR wn g x ph va rows mb 0
  ref : ∃ ra, Rf.JobR wn G y ph ra rows mb 0
  own : ∃ lo, SxOwn wb lo x D
  gj : ∃ cs, wb.heap[g]? = some (.cells cs 68 (0, 0))
  gr : ∃ cs, wb.heap[G]? = some (.cells cs 50 (0, 0))
  f3 : Fr (fun k => k = g ∨ k = G) wb wn
  fc : Fr (fun _ => False) wc wn
  g0 : wc.heap.size ≤ g
  G0 : wc.heap.size ≤ G
  c3 : wc.heap.size ≤ wb.heap.size
theorem TailF.start {wc wb wn w1 w2 w3 : World} {g G : Nat} {x y : Sx} {ph : Int} {rows : List S60} {mb : Int} {D : Sd} {va1 va2 : Value} {l : List Int}
    (h : TailF wc wb wn g G x y ph rows mb D) (f1 : Fr (fun _ => False) wn w1) (h1 : Row w1 3 va1 l.length (l.map (Value.int .i64)))
    (f2 : Fr (fun _ => False) (w1.alloc (.cells #[va1, .slice none 0 0, .int .i64 0] 36)) w2) (h2 : Row w2 3 va2 l.length (l.map (Value.int .i64)))
    (h3 : w3 = w2.alloc (.cells #[va2, .slice none 0 0, .int .i64 0] 36)) :
    LB wc wb g w1.heap.size G w2.heap.size ∧ LV wc wb w3 g w1.heap.size G w2.heap.size x y ⟨ph, rows, mb, 0, l, [], 0⟩ ⟨ph, rows, mb, 0, l, [], 0⟩ (.slice none 0 0) (.slice none 0 0) := by
  subst h3
  have fz : Fr (fun _ => False) w1 (w1.alloc (.cells #[va1, .slice none 0 0, .int .i64 0] 36)) := (Fr.refl _ w1).alloc _
  have fy : Fr (fun _ => False) w2 (w2.alloc (.cells #[va2, .slice none 0 0, .int .i64 0] 36)) := (Fr.refl _ w2).alloc _
  have fx : Fr (fun _ => False) (w1.alloc (.cells #[va1, .slice none 0 0, .int .i64 0] 36)) (w2.alloc (.cells #[va2, .slice none 0 0, .int .i64 0] 36)) := f2.trans fy (fun _ _ h => h)
  have fn : Fr (fun _ => False) wn (w2.alloc (.cells #[va2, .slice none 0 0, .int .i64 0] 36)) := (f1.trans fz (fun _ _ h => h)).trans fx (fun _ _ h => h)
  have hT1 : Told (w1.alloc (.cells #[va1, .slice none 0 0, .int .i64 0] 36)) w1.heap.size va1 (.slice none 0 0) l [] 0 :=
    ⟨blk_new w1 _, h1.fr fz (fun _ _ _ _ => id), World.ownsRow_nil _ _ _ _, by simp⟩
  have hT2 : Told (w2.alloc (.cells #[va2, .slice none 0 0, .int .i64 0] 36)) w2.heap.size va2 (.slice none 0 0) l [] 0 :=
    ⟨blk_new w2 _, h2.fr fy (fun _ _ _ _ => id), World.ownsRow_nil _ _ _ _, by simp⟩
  obtain ⟨va, hj⟩ := h.job
  obtain ⟨ra, hr⟩ := h.ref
  have s1 := h.f3.size
  have s2 := f1.size
  have s3 := f2.size
  have s4 : (w1.alloc (.cells #[va1, .slice none 0 0, .int .i64 0] 36)).heap.size = w1.heap.size + 1 := by simp
  refine ⟨⟨h.g0, h.G0, h.c3, by omega, by omega, by omega⟩, ⟨⟨va, fn.blk hj.blk id, hj.after.fr fn (fun _ _ _ _ => id), hj.few, hj.ints⟩, ⟨va1, hT1.fr fx id (fun _ _ => id) (fun _ _ _ _ => id)⟩⟩,
    ⟨⟨ra, fn.blk hr.blk id, hr.after.fr fn (fun _ _ _ _ => id), hr.few, hr.ints⟩, ⟨va2, hT2⟩⟩, h.fc.trans fn (fun _ _ h => h), h.f3.trans (fn.mono (S' := fun k => k = g ∨ k = G) (fun _ _ h => h.elim)) (fun _ _ h => h), ?_, ?_, ?_⟩
  · intro k hk; simp [Value.ownBlock] at hk
  · intro k hk; simp [Value.ownBlock] at hk
  · intro k hk; simp [Value.ownBlock] at hk
/-- The job's own statement still reads. -/
theorem TailF.rd {wc wb wn wr : World} {g G : Nat} {x y : Sx} {ph : Int} {rows : List S60} {mb : Int} {D : Sd} (h : TailF wc wb wn g G x y ph rows mb D) (f : Fr (fun k => k = g ∨ k = G) wb wr) : SxRd wr x D := by
  obtain ⟨lo, ho⟩ := h.own
  obtain ⟨cj, gj⟩ := h.gj
  obtain ⟨cg, gr⟩ := h.gr
  have key : ∀ {e : TypeId} {sz n : Nat} {v : Value} {xs : List Value}, wb.ownsRow lo e sz v n xs → e ≠ 68 → e ≠ 50 → wr.ownsRow lo e sz v n xs := by
    intro e sz n v xs h1 h2 h3
    refine f.own h1 ?_
    rintro k hk (rfl | rfl)
    · exact own_ne h1 gj h2 hk
    · exact own_ne h1 gr h3 hk
  exact ⟨(Row.of_own (key ho.a (by decide) (by decide))).rd, (Row.of_own (key ho.b (by decide) (by decide))).rd, (Row.of_own (key ho.c (by decide) (by decide))).rd, (Row.of_own (key ho.d (by decide) (by decide))).rd, (Row.of_own (key ho.e (by decide) (by decide))).rd⟩
theorem TailF.fresh {w5 w6 w7 : World} {g : Nat} {x y : Sx} {va : Value} {mb : Int} {D : Sd} (hg : w5.heap.size ≤ g) (hs : SxOwn w6 w5.heap.size x D) (hj : JobR w6 g x 1 va [] mb 0) (f : Fr (fun _ => False) w5 w6)
    (h7 : w7 = w6.alloc (.cells #[.int .i64 y.k, .string y.tab, .string y.name, .string y.dest, .int .i64 y.n, .bool y.fl, y.a, y.b, y.c, y.d, y.e, .int .i64 1, .slice none 0 0, .int .i64 mb, .int .i64 0] 50)) :
    TailF w5 w7 w7 g w6.heap.size x y 1 [] mb D := by
  subst h7
  have fz : Fr (fun _ => False) w6 (w6.alloc (.cells #[.int .i64 y.k, .string y.tab, .string y.name, .string y.dest, .int .i64 y.n, .bool y.fl, y.a, y.b, y.c, y.d, y.e, .int .i64 1, .slice none 0 0, .int .i64 mb, .int .i64 0] 50)) := (Fr.refl _ w6).alloc _
  exact ⟨⟨va, fz.blk hj.blk id, hj.after.fr fz (fun _ _ _ _ => id), hj.few, hj.ints⟩, ⟨.slice none 0 0, blk_new w6 _, Row.nil _ _, by simp, by simp⟩,
    ⟨w5.heap.size, fz.own hs.a (fun _ _ => id), fz.own hs.b (fun _ _ => id), fz.own hs.c (fun _ _ => id), fz.own hs.d (fun _ _ => id), fz.own hs.e (fun _ _ => id)⟩,
    ⟨_, fz.blk hj.blk id⟩, ⟨_, blk_new w6 _⟩, Fr.refl _ _, f.trans fz (fun _ _ h => h), hg, f.size, Nat.le_trans f.size fz.size⟩
theorem resumed_cell {w7 w8 w9 : World} {G : Nat} {y : Sx} {ra : Value} {mb : Int} (hR : Rf.JobR w7 G y 1 ra [] mb 0) (f : Fr (fun _ => False) w7 w8)
    (f9 : Fr (fun _ => False) (w8.setCell ⟨G, 11, none⟩ (.int .i64 3)) w9) : w9.cell? ⟨G, 12, none⟩ = some ra := by
  have hR8 : Rf.JobR w8 G y 1 _ [] mb 0 := ⟨f.blk hR.blk id, hR.after.fr f (fun _ _ _ _ => id), hR.few, hR.ints⟩
  have h := f9.blk (blk_set hR8.blk 11 (.int .i64 3)) id
  exact (blk_cell h 12).trans (by simp)
theorem TailF.resumed {w5 w7 w8 w9 : World} {g0 g G : Nat} {x0 x y : Sx} {va ra : Value} {mb : Int} {D : Sd} {rows : List S60} (h : TailF w5 w7 w7 g0 G x0 y 1 [] mb D)
    (hg : w7.heap.size ≤ g) (hs : SxOwn w8 w7.heap.size x D) (hj : JobR w8 g x 3 va rows mb 0) (f : Fr (fun _ => False) w7 w8)
    (f9 : Fr (fun _ => False) (w8.setCell ⟨G, 11, none⟩ (.int .i64 3)) w9) (hr : Row w9 60 ra rows.length (rowC rows)) :
    TailF w5 w8 (w9.setCell ⟨G, 12, none⟩ ra) g G x y 3 rows mb D := by
  obtain ⟨_, hR⟩ := h.ref
  have hR8 : Rf.JobR w8 G y 1 _ [] mb 0 := ⟨f.blk hR.blk id, hR.after.fr f (fun _ _ _ _ => id), hR.few, hR.ints⟩
  obtain ⟨r3, hR3, f3⟩ := hR8.setPhase 3
  have hR9 : Rf.JobR w9 G y 3 _ [] mb 0 := ⟨f9.blk hR3.blk id, hR3.after.fr f9 (fun _ _ _ _ => id), hR3.few, hR3.ints⟩
  obtain ⟨r4, hR4, f4⟩ := hR9.setAfter hr hj.few hj.ints
  have ff : Fr (fun k => k = G) w8 (w9.setCell ⟨G, 12, none⟩ ra) := (f3.trans (f9.mono (S' := fun k => k = G) (fun _ _ h => h.elim)) (fun _ _ h => h)).trans f4 (fun _ _ h => h)
  have hne : g ≠ G := blk_ty hj.blk hR8.blk (by decide)
  refine ⟨⟨va, ff.blk hj.blk hne, hj.after.fr ff ?_, hj.few, hj.ints⟩, ⟨r4, hR4⟩, ⟨_, hs⟩, ⟨_, hj.blk⟩, ⟨_, hR8.blk⟩, ff.mono (fun _ _ h => .inr h), ?_, ?_, h.G0, ?_⟩
  · rintro k cur fr hc rfl
    exact blk_ty hc hR8.blk (by decide) rfl
  · refine (h.fc.trans f (fun _ _ h => h)).trans ff ?_
    rintro i hi rfl
    have := h.G0
    omega
  · exact Nat.le_trans h.fc.size hg
  · exact Nat.le_trans h.fc.size f.size
theorem same_rows (w : World) (A1 A2 : Option Addr) (a1 a2 : Nat) (rows : List S60) (h1 : Row w 60 (.slice A1 rows.length a1) rows.length (rowC rows)) (ha1 : rows.length ≤ a1)
    (h2 : Row w 60 (.slice A2 rows.length a2) rows.length (rowC rows)) (ha2 : rows.length ≤ a2) (hf : rows.length ≤ 100) :
    Calls Try.prog 18 #[.slice A1 rows.length a1, .slice A2 rows.length a2] w fun e w' => e = .returned (.bool true) ∧ Fr (fun _ => False) w w' := by
  refine (interlockref00_SameRow.calls 1000 A1 a1 rows A2 a2 rows true w (row_kds (f := rc) (sz := 3) rfl k60_mk (fun _ => rfl) (by decide) (by unfold maxLen; omega) h1) ha1 (row_kds (f := rc) (sz := 3) rfl k60_mk (fun _ => rfl) (by decide) (by unfold maxLen; omega) h2) ha2 (sameRow_eq rows 1000 (by omega) (by omega))).mono ?_
  rintro e w' ⟨rfl, hb⟩
  exact ⟨rfl, Fr.of_below hb.below⟩
theorem cells22 {w : World} {B C : Nat} {u0 u1 u2 u3 u4 u5 u6 u7 u8 u9 u10 z0 z1 z2 z3 z4 z5 z6 z7 z8 z9 z10 : Value} (h : w.heap[B]? = some (.cells #[u0, u1, u2, u3, u4, u5, u6, u7, u8, u9, u10] 28 (0, 0))) (h2 : w.heap[C]? = some (.cells #[z0, z1, z2, z3, z4, z5, z6, z7, z8, z9, z10] 28 (0, 0))) :
    w.cell? ⟨B, 0, none⟩ = some u0 ∧ w.cell? ⟨B, 1, none⟩ = some u1 ∧ w.cell? ⟨B, 2, none⟩ = some u2 ∧ w.cell? ⟨B, 3, none⟩ = some u3 ∧ w.cell? ⟨B, 4, none⟩ = some u4 ∧ w.cell? ⟨B, 5, none⟩ = some u5 ∧ w.cell? ⟨B, 6, none⟩ = some u6 ∧ w.cell? ⟨B, 7, none⟩ = some u7 ∧ w.cell? ⟨B, 8, none⟩ = some u8 ∧ w.cell? ⟨B, 9, none⟩ = some u9 ∧ w.cell? ⟨B, 10, none⟩ = some u10 ∧ w.cell? ⟨C, 0, none⟩ = some z0 ∧ w.cell? ⟨C, 1, none⟩ = some z1 ∧ w.cell? ⟨C, 2, none⟩ = some z2 ∧ w.cell? ⟨C, 3, none⟩ = some z3 ∧ w.cell? ⟨C, 4, none⟩ = some z4 ∧ w.cell? ⟨C, 5, none⟩ = some z5 ∧ w.cell? ⟨C, 6, none⟩ = some z6 ∧ w.cell? ⟨C, 7, none⟩ = some z7 ∧ w.cell? ⟨C, 8, none⟩ = some z8 ∧ w.cell? ⟨C, 9, none⟩ = some z9 ∧ w.cell? ⟨C, 10, none⟩ = some z10 := ⟨blk_cell h 0, blk_cell h 1, blk_cell h 2, blk_cell h 3, blk_cell h 4, blk_cell h 5, blk_cell h 6, blk_cell h 7, blk_cell h 8, blk_cell h 9, blk_cell h 10, blk_cell h2 0, blk_cell h2 1, blk_cell h2 2, blk_cell h2 3, blk_cell h2 4, blk_cell h2 5, blk_cell h2 6, blk_cell h2 7, blk_cell h2 8, blk_cell h2 9, blk_cell h2 10⟩
theorem same_rowsK (w : World) (A1 A2 : Option Addr) (a1 a2 : Nat) (rows : List S60) (h1 : Kd.C k60 w A1 rows.length rows) (ha1 : rows.length ≤ a1)
    (h2 : Kd.C k60 w A2 rows.length rows) (ha2 : rows.length ≤ a2) (hf : rows.length ≤ 100) :
    Calls Try.prog 18 #[.slice A1 rows.length a1, .slice A2 rows.length a2] w fun e w' => e = .returned (.bool true) ∧ Fr (fun _ => False) w w' := by
  refine (interlockref00_SameRow.calls 1000 A1 a1 rows A2 a2 rows true w h1 ha1 h2 ha2 (sameRow_eq rows 1000 (by omega) (by omega))).mono ?_
  rintro e w' ⟨rfl, hb⟩
  exact ⟨rfl, Fr.of_below hb.below⟩
theorem same_texts (w : World) (A1 A2 : Option Addr) (a1 a2 : Nat) (xs : List ByteArray) (h1 : Kd.C Kd.string w A1 xs.length xs) (ha1 : xs.length ≤ a1)
    (h2 : Kd.C Kd.string w A2 xs.length xs) (ha2 : xs.length ≤ a2) (hf : xs.length ≤ 1000000) :
    Calls Try.prog 20 #[.slice A1 xs.length a1, .slice A2 xs.length a2] w fun e w' => e = .returned (.bool true) ∧ Fr (fun _ => False) w w' := by
  refine (interlockref00_SameTexts.calls 1000001 A1 a1 xs A2 a2 xs true w h1 ha1 h2 ha2 (sameTexts_eq xs 1000001 (by omega) (by omega))).mono ?_
  rintro e w' ⟨rfl, hb⟩
  exact ⟨rfl, Fr.of_below hb.below⟩
theorem same_stmts (w : World) (k : Int) (tab name dest : ByteArray) (n : Int) (fl : Bool) (A6 A7 A8 A9 A10 B6 B7 B8 B9 B10 : Option Addr) (c6 c7 c8 c9 c10 d6 d7 d8 d9 d10 : Nat) (D : Sd)
    (h1 : ArgK w A6 A7 A8 A9 A10 c6 c7 c8 c9 c10 D) (h2 : ArgK w B6 B7 B8 B9 B10 d6 d7 d8 d9 d10 D) (hf : D.Few) :
    Calls Try.prog 21 #[.agg #[.int .i64 k, .string tab, .string name, .string dest, .int .i64 n, .bool fl, .slice A6 D.a.length c6, .slice A7 D.b.length c7, .slice A8 D.c.length c8, .slice A9 D.d.length c9, .slice A10 D.e.length c10],
      .agg #[.int .i64 k, .string tab, .string name, .string dest, .int .i64 n, .bool fl, .slice B6 D.a.length d6, .slice B7 D.b.length d7, .slice B8 D.c.length d8, .slice B9 D.d.length d9, .slice B10 D.e.length d10]] w
      fun e w' => e = .returned (.bool true) ∧ Fr (fun _ => False) w w' := by
  refine (interlockref00_SameStmt.calls 10000 k tab name dest n fl A6 c6 D.a A7 c7 D.b A8 c8 D.c A9 c9 D.d A10 c10 D.e k tab name dest n fl B6 d6 D.a B7 d7 D.b B8 d8 D.c B9 d9 D.d B10 d10 D.e true w
    h1.r6 h1.l6 h1.r7 h1.l7 h1.r8 h1.l8 h1.r9 h1.l9 h1.r10 h1.l10 h2.r6 h2.l6 h2.r7 h2.l7 h2.r8 h2.l8 h2.r9 h2.l9 h2.r10 h2.l10 (sameStmt_eq k tab name dest n fl D.a D.b D.c D.d D.e hf.a hf.b hf.c hf.d hf.e)).mono ?_
  rintro e w' ⟨rfl, hb⟩
  exact ⟨rfl, Fr.of_below hb⟩
/-- What a step answers, in short. -/
theorem post_short {w w' : World} {g p : Nat} {v : Value} {x : Sx} {s : JA} {e : Ending} (h : StepPost w g p v x s e w') {er : Int} {ok : Bool} (her : er = if s.phase < 5 then 0 else s.err) (hok : ok = decide (5 ≤ s.phase)) :
    e = .returned (.tuple #[.int .i64 er, .bool ok]) ∧ JPa w g p v x s w' := by
  subst her hok
  exact h
theorem Rf.post_short {w w' : World} {g p : Nat} {v : Value} {x : Sx} {s : JA} {e : Ending} (h : Rf.StepPost w g p v x s e w') {er : Int} {ok : Bool} (her : er = if s.phase < 5 then 0 else s.err) (hok : ok = decide (5 ≤ s.phase)) :
    e = .returned (.tuple #[.int .i64 er, .bool ok]) ∧ Rf.JPa w g p v x s w' := by
  subst her hok
  exact h
end Go.Proofs.Ytplpdeanepdokaa

/- An argument of numbers, read whole. -/
namespace Go.Proofs.Ytplpdeanepdokaa
open Go.RowKit H Go.Proofs.Ytplpdeanepdokaa.PJobSteps
open Go.Proofs.YtplpdeanepdokaaW.PrintWords (Kd)
section
variable {H : Type} {enc : TypeId × Value → H} {w : World} {base : Nat} {spare : Nat → Bool} {held : Bool} {fuel : Nat} {cs : List Value} {x : DataW H × List MemPlace}
theorem ints_reads (h : DataW.trod enc Try.prog w base spare held fuel 31 cs = some x) :
    ∃ (A : Option Addr) (c : Nat) (l : List Int), cs = [.slice A l.length c] ∧ Kd.C (Kd.int .i64) w A l.length l ∧ l.length ≤ c ∧ (∀ a ∈ l, -9223372036854775808 ≤ a ∧ a ≤ 9223372036854775807) := by
  obtain ⟨A, c, l, rfl, hl, hm, hq, hr⟩ := slice_reads (f := fun (n : Int) => [Value.int .i64 n]) (sz := 1) (q := fun n => -9223372036854775808 ≤ n ∧ n ≤ 9223372036854775807) Try.underlying31 (by kernel_rfl) (fun _ => rfl) (fun {fuel cs x} h => by
    obtain ⟨n, h1, _, h2⟩ := DataW.trod_int Try.underlying3 h
    exact ⟨n, h1, Go.bounds_i64 h2⟩) h
  exact ⟨A, c, l, rfl, kd_of rfl (fun _ _ => rfl) (fun _ => rfl) hm hr, hl, hq⟩
end
end Go.Proofs.Ytplpdeanepdokaa

/- An argument of values, read whole. -/
namespace Go.Proofs.Ytplpdeanepdokaa
open Go.RowKit H Go.Proofs.Ytplpdeanepdokaa.PJobSteps
open Go.Proofs.YtplpdeanepdokaaW.PrintWords (Kd)
section
variable {H : Type} {enc : TypeId × Value → H} {w : World} {base : Nat} {spare : Nat → Bool} {held : Bool} {fuel : Nat} {cs : List Value} {x : DataW H × List MemPlace}
theorem row_reads (h : DataW.trod enc Try.prog w base spare held fuel 45 cs = some x) :
    ∃ (A : Option Addr) (c : Nat) (l : List S60), cs = [.slice A l.length c] ∧ Kd.C k60 w A l.length l ∧ l.length ≤ c ∧ (∀ r ∈ l, -9223372036854775808 ≤ r.f1 ∧ r.f1 ≤ 9223372036854775807) := by
  obtain ⟨A, c, l, rfl, hl, hm, hq, hr⟩ := slice_reads (f := rc) (sz := 3) (q := fun (r : S60) => -9223372036854775808 ≤ r.f1 ∧ r.f1 ≤ 9223372036854775807) Try.underlying45 ce60 (fun _ => rfl) (fun {fuel cs x} h => is60 h) h
  exact ⟨A, c, l, rfl, kd_of rfl k60_mk (fun _ => rfl) hm hr, hl, hq⟩
end
end Go.Proofs.Ytplpdeanepdokaa

