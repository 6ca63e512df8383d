/- GreatStmt ends; what it lets through is small. -/
import Derived.Test.YtplpdeanepdokaaPJobStepsx6
namespace Go.Proofs.Ytplpdeanepdokaa
open Go.RowKit Go.Proofs.Ytplpdeanepdokaa.PJobSteps

section
variable (a0 : Int) (a1 a2 a3 : ByteArray) (a4 : Int) (a5 : Bool) (l6 : List S60) (l7 : List S62) (l8 : List S64) (l9 : List S66) (l10 : List ByteArray)

theorem great_l4 (h10 : l10.length ≤ 1000) (d : Nat) : ∀ (i k : Nat), l10.length = i + d → d < k → ∃ r, interlocklaw15_GreatStmt.l4 k (i : Int) a0 a1 a2 a3 a4 a5 l6 l7 l8 l9 l10 = some r := by
  induction d with
  | zero =>
    intro i k hi hk
    obtain ⟨k, rfl⟩ : ∃ m, k = m + 1 := ⟨k - 1, by omega⟩
    simp only [interlocklaw15_GreatStmt.l4]
    rw [if_neg (by omega)]
    exact ⟨_, rfl⟩
  | succ d ih =>
    intro i k hi hk
    obtain ⟨k, rfl⟩ : ∃ m, k = m + 1 := ⟨k - 1, by omega⟩
    simp only [interlocklaw15_GreatStmt.l4]
    rw [if_pos (by omega), if_pos (by omega)]
    split
    · exact ⟨_, rfl⟩
    · rw [show wrap64 ((i : Int) + 1) = ((i + 1 : Nat) : Int) from by unfold wrap64; omega]
      exact ih (i + 1) k (by omega) (by omega)
theorem great_l3 (h9 : l9.length ≤ 1000) (h10 : l10.length ≤ 1000) (d : Nat) : ∀ (i k : Nat), l9.length = i + d → d + 2000 < k → ∃ r, interlocklaw15_GreatStmt.l3 k (i : Int) a0 a1 a2 a3 a4 a5 l6 l7 l8 l9 l10 = some r := by
  induction d with
  | zero =>
    intro i k hi hk
    obtain ⟨k, rfl⟩ : ∃ m, k = m + 1 := ⟨k - 1, by omega⟩
    simp only [interlocklaw15_GreatStmt.l3]
    rw [if_neg (by omega)]
    exact great_l4 a0 a1 a2 a3 a4 a5 l6 l7 l8 l9 l10 h10 l10.length 0 k (by omega) (by omega)
  | succ d ih =>
    intro i k hi hk
    obtain ⟨k, rfl⟩ : ∃ m, k = m + 1 := ⟨k - 1, by omega⟩
    simp only [interlocklaw15_GreatStmt.l3]
    rw [if_pos (by omega), if_pos (by omega)]
    split
    · exact ⟨_, rfl⟩
    · rw [show wrap64 ((i : Int) + 1) = ((i + 1 : Nat) : Int) from by unfold wrap64; omega]
      exact ih (i + 1) k (by omega) (by omega)
theorem great_l2 (h8 : l8.length ≤ 1000) (h9 : l9.length ≤ 1000) (h10 : l10.length ≤ 1000) (d : Nat) : ∀ (i k : Nat), l8.length = i + d → d + 4000 < k → ∃ r, interlocklaw15_GreatStmt.l2 k (i : Int) a0 a1 a2 a3 a4 a5 l6 l7 l8 l9 l10 = some r := by
  induction d with
  | zero =>
    intro i k hi hk
    obtain ⟨k, rfl⟩ : ∃ m, k = m + 1 := ⟨k - 1, by omega⟩
    simp only [interlocklaw15_GreatStmt.l2]
    rw [if_neg (by omega)]
    exact great_l3 a0 a1 a2 a3 a4 a5 l6 l7 l8 l9 l10 h9 h10 l9.length 0 k (by omega) (by omega)
  | succ d ih =>
    intro i k hi hk
    obtain ⟨k, rfl⟩ : ∃ m, k = m + 1 := ⟨k - 1, by omega⟩
    simp only [interlocklaw15_GreatStmt.l2]
    rw [if_pos (by omega), if_pos (by omega)]
    split
    · exact ⟨_, rfl⟩
    · split
      · exact ⟨_, rfl⟩
      · rw [show wrap64 ((i : Int) + 1) = ((i + 1 : Nat) : Int) from by unfold wrap64; omega]
        exact ih (i + 1) k (by omega) (by omega)
theorem great_l1 (h7 : l7.length ≤ 1000) (h8 : l8.length ≤ 1000) (h9 : l9.length ≤ 1000) (h10 : l10.length ≤ 1000) (d : Nat) : ∀ (i k : Nat), l7.length = i + d → d + 6000 < k → ∃ r, interlocklaw15_GreatStmt.l1 k (i : Int) a0 a1 a2 a3 a4 a5 l6 l7 l8 l9 l10 = some r := by
  induction d with
  | zero =>
    intro i k hi hk
    obtain ⟨k, rfl⟩ : ∃ m, k = m + 1 := ⟨k - 1, by omega⟩
    simp only [interlocklaw15_GreatStmt.l1]
    rw [if_neg (by omega)]
    exact great_l2 a0 a1 a2 a3 a4 a5 l6 l7 l8 l9 l10 h8 h9 h10 l8.length 0 k (by omega) (by omega)
  | succ d ih =>
    intro i k hi hk
    obtain ⟨k, rfl⟩ : ∃ m, k = m + 1 := ⟨k - 1, by omega⟩
    simp only [interlocklaw15_GreatStmt.l1]
    rw [if_pos (by omega), if_pos (by omega)]
    split
    · exact ⟨_, rfl⟩
    · split
      · exact ⟨_, rfl⟩
      · rw [show wrap64 ((i : Int) + 1) = ((i + 1 : Nat) : Int) from by unfold wrap64; omega]
        exact ih (i + 1) k (by omega) (by omega)
theorem great_l0 (h6 : l6.length ≤ 1000) (h7 : l7.length ≤ 1000) (h8 : l8.length ≤ 1000) (h9 : l9.length ≤ 1000) (h10 : l10.length ≤ 1000) (d : Nat) : ∀ (i k : Nat), l6.length = i + d → d + 8000 < k → ∃ r, interlocklaw15_GreatStmt.l0 k (i : Int) a0 a1 a2 a3 a4 a5 l6 l7 l8 l9 l10 = some r := by
  induction d with
  | zero =>
    intro i k hi hk
    obtain ⟨k, rfl⟩ : ∃ m, k = m + 1 := ⟨k - 1, by omega⟩
    simp only [interlocklaw15_GreatStmt.l0]
    rw [if_neg (by omega)]
    exact great_l1 a0 a1 a2 a3 a4 a5 l6 l7 l8 l9 l10 h7 h8 h9 h10 l7.length 0 k (by omega) (by omega)
  | succ d ih =>
    intro i k hi hk
    obtain ⟨k, rfl⟩ : ∃ m, k = m + 1 := ⟨k - 1, by omega⟩
    simp only [interlocklaw15_GreatStmt.l0]
    rw [if_pos (by omega), if_pos (by omega)]
    split
    · exact ⟨_, rfl⟩
    · rw [show wrap64 ((i : Int) + 1) = ((i + 1 : Nat) : Int) from by unfold wrap64; omega]
      exact ih (i + 1) k (by omega) (by omega)

/-- What GreatStmt lets through. -/
structure SmallS : Prop where
  l6 : l6.length ≤ 20
  l7 : l7.length ≤ 20
  l8 : l8.length ≤ 20
  l9 : l9.length ≤ 20
  l10 : l10.length ≤ 20
  a1 : a1.size ≤ 50
  a2 : a2.size ≤ 50
  a3 : a3.size ≤ 50

theorem great_some : ∃ k r, interlocklaw15_GreatStmt.f k a0 a1 a2 a3 a4 a5 l6 l7 l8 l9 l10 = some r ∧ (r = false → SmallS a1 a2 a3 l6 l7 l8 l9 l10) := by
  have hj : interlocklaw15_GreatStmt.j0 1 true a0 a1 a2 a3 a4 a5 l6 l7 l8 l9 l10 = some true := by simp only [interlocklaw15_GreatStmt.j0]; rfl
  by_cases h6 : (l6.length : Int) > 20
  · exact ⟨1, true, by unfold interlocklaw15_GreatStmt.f; rw [if_pos h6]; exact hj, fun h => by cases h⟩
  by_cases h7 : (l7.length : Int) > 20
  · exact ⟨1, true, by unfold interlocklaw15_GreatStmt.f; rw [if_neg h6, if_pos h7]; exact hj, fun h => by cases h⟩
  by_cases h8 : (l8.length : Int) > 20
  · exact ⟨1, true, by unfold interlocklaw15_GreatStmt.f; rw [if_neg h6, if_neg h7, if_pos h8]; exact hj, fun h => by cases h⟩
  by_cases h9 : (l9.length : Int) > 20
  · exact ⟨1, true, by unfold interlocklaw15_GreatStmt.f; rw [if_neg h6, if_neg h7, if_neg h8, if_pos h9]; exact hj, fun h => by cases h⟩
  by_cases h10 : (l10.length : Int) > 20
  · exact ⟨1, true, by unfold interlocklaw15_GreatStmt.f; rw [if_neg h6, if_neg h7, if_neg h8, if_neg h9, if_pos h10]; exact hj, fun h => by cases h⟩
  by_cases h1 : (a1.size : Int) > 50
  · exact ⟨1, true, by unfold interlocklaw15_GreatStmt.f; rw [if_neg h6, if_neg h7, if_neg h8, if_neg h9, if_neg h10, if_pos h1]; exact hj, fun h => by cases h⟩
  by_cases h2 : (a2.size : Int) > 50
  · exact ⟨1, true, by unfold interlocklaw15_GreatStmt.f; rw [if_neg h6, if_neg h7, if_neg h8, if_neg h9, if_neg h10, if_neg h1, if_pos h2]; exact hj, fun h => by cases h⟩
  by_cases h3 : (a3.size : Int) > 50
  · exact ⟨1, true, by unfold interlocklaw15_GreatStmt.f; rw [if_neg h6, if_neg h7, if_neg h8, if_neg h9, if_neg h10, if_neg h1, if_neg h2, decide_eq_true h3]; exact hj, fun h => by cases h⟩
  obtain ⟨r, hr⟩ := great_l0 a0 a1 a2 a3 a4 a5 l6 l7 l8 l9 l10 (by omega) (by omega) (by omega) (by omega) (by omega) l6.length 0 10000 (by omega) (by omega)
  refine ⟨10001, r, ?_, fun _ => ⟨by omega, by omega, by omega, by omega, by omega, by omega, by omega, by omega⟩⟩
  unfold interlocklaw15_GreatStmt.f
  rw [if_neg h6, if_neg h7, if_neg h8, if_neg h9, if_neg h10, if_neg h1, if_neg h2, decide_eq_false h3]
  simp only [interlocklaw15_GreatStmt.j0]
  rw [if_neg (by decide)]
  exact hr
end
end Go.Proofs.Ytplpdeanepdokaa
