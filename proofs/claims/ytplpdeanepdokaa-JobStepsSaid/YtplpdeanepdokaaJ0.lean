/- Show ends, and its text is short. -/
import Derived.Test.YtplpdeanepdokaaPJobStepsx8
namespace Go.Proofs.Ytplpdeanepdokaa
open Go.RowKit Go.Proofs.Ytplpdeanepdokaa.PJobSteps Go.Proofs.YtplpdeanepdokaaW.PrintWords Go.Proofs.YtplpdeanepdokaaW.PrintLast

theorem strOfNums_size (xs : List Int) : (strOfNums xs).size = xs.length := by
  simp [strOfNums, ByteArray.size]

theorem show_l1 (i : Nat) : ∀ (k : Nat) (x4 x5 : List Int), i < k → i ≤ x4.length → x4.length ≤ 40 → x5.length + i ≤ 40 →
    ∃ r, interlockref00_Show.l1 k x4 x5 ((i : Int) - 1) = some r ∧ r.size ≤ 40 := by
  induction i with
  | zero =>
    intro k x4 x5 hk h4 h40 h5
    obtain ⟨k, rfl⟩ : ∃ m, k = m + 1 := ⟨k - 1, by omega⟩
    refine ⟨strOfNums x5, ?_, by rw [strOfNums_size]; omega⟩
    simp only [interlockref00_Show.l1]
    rw [if_neg (by omega)]
  | succ i ih =>
    intro k x4 x5 hk h4 h40 h5
    obtain ⟨k, rfl⟩ : ∃ m, k = m + 1 := ⟨k - 1, by omega⟩
    obtain ⟨r, hr, hs⟩ := ih k x4 (x5 ++ [rd x4 (i : Int)]) (by omega) (by omega) h40 (by simp; omega)
    refine ⟨r, ?_, hs⟩
    simp only [interlockref00_Show.l1]
    have e : (((i + 1 : Nat) : Int) - 1) = (i : Int) := by omega
    rw [e, if_pos (by omega), if_pos (by omega), if_pos (by omega), if_pos (by omega), show wrap64 ((i : Int) - 1) = (i : Int) - 1 from by unfold wrap64; omega]
    exact hr

theorem show_j2 (k : Nat) (x4 : List Int) (hk : x4.length + 1 < k) (h4 : x4.length ≤ 40) : ∃ r, interlockref00_Show.j2 k x4 = some r ∧ r.size ≤ 40 := by
  obtain ⟨k, rfl⟩ : ∃ m, k = m + 1 := ⟨k - 1, by omega⟩
  obtain ⟨r, hr, hs⟩ := show_l1 x4.length k x4 [] (by omega) (Nat.le_refl _) h4 (by simp; omega)
  refine ⟨r, ?_, hs⟩
  simp only [interlockref00_Show.j2]
  rw [show wrap64 ((x4.length : Int) - 1) = (x4.length : Int) - 1 from by unfold wrap64; omega]
  exact hr

theorem show_l0 (d : Nat) : ∀ (k : Nat) (x0 x3 : Int) (x4 : List Int), d + 60 < k → x3 ≤ 0 → -(10 : Int) ^ d < x3 → d ≤ 19 → x4.length + d ≤ 25 →
    ∃ r, interlockref00_Show.l0 k x0 x3 x4 = some r ∧ r.size ≤ 40 := by
  induction d with
  | zero =>
    intro k x0 x3 x4 hk h0 h1 hd h4
    obtain ⟨k, rfl⟩ : ∃ m, k = m + 1 := ⟨k - 1, by omega⟩
    have : x3 = 0 := by simp at h1; omega
    subst this
    simp only [interlockref00_Show.l0]
    rw [if_pos (by omega)]
    simp only [Option.bind_some, Int.zero_tdiv]
    rw [if_pos (by unfold wrap64; omega)]
    by_cases hx : x0 < 0
    · rw [if_pos hx, if_pos (by simp; omega)]
      exact show_j2 _ _ (by simp; omega) (by simp; omega)
    · rw [if_neg hx]
      exact show_j2 _ _ (by simp; omega) (by simp; omega)
  | succ d ih =>
    intro k x0 x3 x4 hk h0 h1 hd h4
    obtain ⟨k, rfl⟩ : ∃ m, k = m + 1 := ⟨k - 1, by omega⟩
    have hp : (10 : Int) ^ d ≤ 10 ^ 18 := by
      have : (10 : Nat) ^ d ≤ 10 ^ 18 := Nat.pow_le_pow_right (by omega) (by omega)
      exact_mod_cast this
    have hp1 : (10 : Int) ^ (d + 1) = 10 ^ d * 10 := Int.pow_succ _ _
    have ht : Int.tdiv x3 10 = -((-x3) / 10) := by
      rw [show x3 = -(-x3) by omega, Int.neg_tdiv, Int.tdiv_eq_ediv_of_nonneg (by omega)]
      simp
    have hq0 : Int.tdiv x3 10 ≤ 0 := by rw [ht]; omega
    have hq1 : -(10 : Int) ^ d < Int.tdiv x3 10 := by rw [ht]; rw [hp1] at h1; omega
    have hw : wrap64 (Int.tdiv x3 10) = Int.tdiv x3 10 := by unfold wrap64; omega
    simp only [interlockref00_Show.l0]
    rw [if_pos (by omega)]
    simp only [Option.bind_some, hw]
    by_cases hz : Int.tdiv x3 10 = 0
    · rw [if_pos hz]
      by_cases hx : x0 < 0
      · rw [if_pos hx, if_pos (by simp; omega)]
        exact show_j2 _ _ (by simp; omega) (by simp; omega)
      · rw [if_neg hx]
        exact show_j2 _ _ (by simp; omega) (by simp; omega)
    · rw [if_neg hz]
      exact ih k x0 _ _ (by omega) hq0 hq1 (by omega) (by simp; omega)

theorem show_some (n : Int) (h0 : -9223372036854775808 ≤ n) (h1 : n ≤ 9223372036854775807) : ∃ k r, interlockref00_Show.f k n = some r ∧ r.size ≤ 40 := by
  have key : ∀ x0 x3 : Int, x3 ≤ 0 → -9223372036854775808 ≤ x3 → ∃ r, interlockref00_Show.j0 81 x0 x3 = some r ∧ r.size ≤ 40 := by
    intro x0 x3 h0 h1
    simp only [interlockref00_Show.j0]
    exact show_l0 19 80 x0 x3 [] (by omega) h0 (by omega) (by omega) (by simp)
  by_cases h : n > 0
  · obtain ⟨r, hr, hs⟩ := key n (-n) (by omega) (by omega)
    refine ⟨81, r, ?_, hs⟩
    unfold interlockref00_Show.f
    rw [if_pos h, show wrap64 (-n) = -n from by unfold wrap64; omega]
    exact hr
  · obtain ⟨r, hr, hs⟩ := key n n (by omega) h0
    refine ⟨81, r, ?_, hs⟩
    unfold interlockref00_Show.f
    rw [if_neg h]
    exact hr

/-- A number's text. -/
noncomputable def showB (n : Int) : ByteArray := (interlockref00_Show.f 81 n).getD ⟨#[]⟩
theorem show_any (n : Int) (w : World) (h0 : -9223372036854775808 ≤ n) (h1 : n ≤ 9223372036854775807) :
    Calls Try.prog 57 #[.int .i64 n] w fun e w' => e = .returned (.string (showB n)) ∧ Below w.heap.size w w' := by
  have h : ∃ r, interlockref00_Show.f 81 n = some r := by
    obtain ⟨k, r, hr, _⟩ := show_some n h0 h1
    have key : ∀ x0 x3 : Int, x3 ≤ 0 → -9223372036854775808 ≤ x3 → ∃ r, interlockref00_Show.j0 81 x0 x3 = some r := by
      intro x0 x3 h0 h1
      simp only [interlockref00_Show.j0]
      obtain ⟨r, hr, _⟩ := show_l0 19 80 x0 x3 [] (by omega) h0 (by omega) (by omega) (by simp)
      exact ⟨r, hr⟩
    unfold interlockref00_Show.f
    split
    · rename_i hp
      rw [show wrap64 (-n) = -n from by unfold wrap64; omega]
      exact key _ _ (by omega) (by omega)
    · exact key _ _ (by omega) h0
  obtain ⟨r, hr⟩ := h
  have : showB n = r := by unfold showB; rw [hr]; rfl
  rw [this]
  exact interlockref00_Show.calls 81 n r w hr
theorem showB_size (n : Int) (h0 : -9223372036854775808 ≤ n) (h1 : n ≤ 9223372036854775807) : (showB n).size ≤ 40 := by
  unfold showB
  cases hf : interlockref00_Show.f 81 n with
  | none => simp [ByteArray.size]
  | some r =>
    obtain ⟨k, r', hr, hs⟩ := show_some n h0 h1
    have : r = r' := by
      rcases Nat.le_total k 81 with h | h
      · have := at_rounds (interlockref00_Show.mono n) h hr
        rw [hf] at this; exact Option.some.inj this
      · have := at_rounds (interlockref00_Show.mono n) h hf
        rw [hr] at this; exact (Option.some.inj this).symm
    simp only [Option.getD_some]
    rw [this]; exact hs
end Go.Proofs.Ytplpdeanepdokaa
