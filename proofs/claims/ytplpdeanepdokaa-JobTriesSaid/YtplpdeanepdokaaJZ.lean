/- The row of steps in a world that gives no locks. -/
import Derived.Test.YtplpdeanepdokaaJY
namespace Go.Proofs.Ytplpdeanepdokaa
open Go.RowKit H Go.Proofs.Ytplpdeanepdokaa.PJobSteps

def triesA (tab : ByteArray) (T i : Nat) (s : JA) : Prop :=
  if i < T then s.phase = 1 ∧ s.tries = ((T - i : Nat) : Int) ∧ s.err = 0 ∧ s.ans = [] ∧ s.xs = List.replicate i (tryT (regW tab)) ∧ s.held = 0
  else s.phase = 6 ∧ s.tries = 0 ∧ s.err = 34 ∧ s.ans = [] ∧ s.xs = List.replicate T (tryT (regW tab)) ∧ s.held = 0
theorem tries_step (tab name : ByteArray) (T i : Nat) (hi : i < T) (s : JA) (h : triesA tab T i s) : triesA tab T (i + 1) (stepA tab name s) := by
  obtain ⟨phase, rows, tries, err, ans, xs, held⟩ := s
  rw [triesA, if_pos hi] at h
  obtain ⟨h1, h2, h3, h4, h5, h6⟩ := h
  simp only at h1 h2 h3 h4 h5 h6
  subst h1 h2 h3 h4 h5 h6
  by_cases h1 : i + 1 < T
  · rw [triesA, if_pos h1]
    have hne : ¬ ((T - i : Nat) : Int) = 1 := by omega
    simp only [stepA, stepOne, hdA, b1_zero, failP, failE, if_neg hne, List.tail_nil, if_true, Bool.false_eq_true, if_false]
    refine ⟨trivial, by omega, trivial, trivial, ?_, trivial⟩
    rw [List.replicate_succ']
  · rw [triesA, if_neg h1]
    have he : T = i + 1 := by omega
    subst he
    have hone : ((i + 1 - i : Nat) : Int) = 1 := by omega
    simp only [stepA, stepOne, hdA, b1_zero, failP, failE, if_pos hone, List.tail_nil, if_true, Bool.false_eq_true, if_false]
    refine ⟨trivial, by omega, trivial, trivial, ?_, trivial⟩
    rw [List.replicate_succ']
theorem tries_last (tab name : ByteArray) (T : Nat) (s : JA) (h : triesA tab T T s) : stepA tab name s = s := by
  rw [triesA, if_neg (by omega)] at h
  rw [stepA, h.1]
  rfl
theorem tries_ok (x : Sx) (hx : x.name.size ≤ 1000) (ht : x.tab.size ≤ 1000) (T i : Nat) (hT : T ≤ 1000) (hi : i ≤ T) (s : JA) (h : triesA x.tab T i s) : StepOk x s := by
  rw [triesA] at h
  split at h
  · obtain ⟨h1, h2, _, h4, h5, h6⟩ := h
    exact ⟨by rw [h1]; decide, by rw [h1]; decide, by rw [h5]; simp; omega, by rw [h4]; simp, by rw [h4]; simp, hx, ht, by rw [h6]; decide, by rw [h6]; decide, by omega, by omega⟩
  · obtain ⟨h1, h2, _, h4, h5, h6⟩ := h
    exact ⟨by rw [h1]; decide, by rw [h1]; decide, by rw [h5]; simp; omega, by rw [h4]; simp, by rw [h4]; simp, hx, ht, by rw [h6]; decide, by rw [h6]; decide, by omega, by omega⟩
/-- Every text of it begins with "try". -/
theorem wtT_data (s : ByteArray) (x : Wt) : ∃ t, (wtT s x).data.toList = s.data.toList ++ t := ⟨_, by
  unfold wtT
  rw [ByteArray.data_append, Array.toList_append]⟩
theorem tryT_data (l : List Wt) : ∃ t, (tryT l).data.toList = [116, 114, 121] ++ t := by
  have key : ∀ (l : List Wt) (s : ByteArray), (∃ t, s.data.toList = [116, 114, 121] ++ t) → ∃ t, (l.foldl wtT s).data.toList = [116, 114, 121] ++ t := by
    intro l
    induction l with
    | nil => intro s h; exact h
    | cons x l ih =>
      rintro s ⟨t, ht⟩
      obtain ⟨t2, ht2⟩ := wtT_data s x
      refine ih _ ⟨t ++ t2, ?_⟩
      rw [ht2, ht, List.append_assoc]
  exact key l _ ⟨[], rfl⟩
theorem tryT_size (l : List Wt) : 3 ≤ (tryT l).size := by
  obtain ⟨t, ht⟩ := tryT_data l
  have : (tryT l).size = (tryT l).data.toList.length := by rw [Array.length_toList]; rfl
  rw [this, ht]
  simp
theorem tryT_cut (l : List Wt) : (tryT l).extract 0 3 = ⟨#[116, 114, 121]⟩ := by
  obtain ⟨t, ht⟩ := tryT_data l
  apply ByteArray.ext
  apply Array.ext'
  rw [ByteArray.data_extract, Array.toList_extract, List.extract_eq_take_drop, ht]
  rfl
end Go.Proofs.Ytplpdeanepdokaa
