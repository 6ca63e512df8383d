/- How a statement that came in reads. -/
import Derived.Test.YtplpdeanepdokaaJF
import Derived.ProofKit
import Derived.Deep.Slices
import Derived.KernelRfl
namespace Go.Proofs.Ytplpdeanepdokaa
open Go.RowKit H Go.Proofs.Ytplpdeanepdokaa.PJobSteps
open Go.Proofs.YtplpdeanepdokaaW.PrintWords (Kd)

theorem ce3 : Try.prog.cellsOf 3 = 1 := by kernel_rfl
theorem ce4 : Try.prog.cellsOf 4 = 1 := by kernel_rfl
theorem ce9 : Try.prog.cellsOf 9 = 1 := by kernel_rfl
theorem ce60 : Try.prog.cellsOf 60 = 3 := by kernel_rfl
theorem ce62 : Try.prog.cellsOf 62 = 4 := by kernel_rfl
theorem ce64 : Try.prog.cellsOf 64 = 5 := by kernel_rfl
theorem ce66 : Try.prog.cellsOf 66 = 3 := by kernel_rfl
theorem ce28 : Try.prog.cellsOf 28 = 11 := by kernel_rfl
theorem ce22 : Try.prog.cellsOf 22 = 1 := by kernel_rfl
theorem ce23 : Try.prog.cellsOf 23 = 1 := by kernel_rfl
theorem ce24 : Try.prog.cellsOf 24 = 1 := by kernel_rfl
theorem ce25 : Try.prog.cellsOf 25 = 1 := by kernel_rfl
theorem ce26 : Try.prog.cellsOf 26 = 1 := by kernel_rfl

theorem len3 {α : Type} {cs : List α} (h : cs.length = 3) : ∃ a b c, cs = [a, b, c] := by
  match cs, h with
  | [a, b, c], _ => exact ⟨a, b, c, rfl⟩
theorem len4 {α : Type} {cs : List α} (h : cs.length = 4) : ∃ a b c d, cs = [a, b, c, d] := by
  match cs, h with
  | [a, b, c, d], _ => exact ⟨a, b, c, d, rfl⟩
theorem len5 {α : Type} {cs : List α} (h : cs.length = 5) : ∃ a b c d e, cs = [a, b, c, d, e] := by
  match cs, h with
  | [a, b, c, d, e], _ => exact ⟨a, b, c, d, e, rfl⟩
theorem len11 {α : Type} {cs : List α} (h : cs.length = 11) : ∃ a b c d e f g i j k l, cs = [a, b, c, d, e, f, g, i, j, k, l] := by
  match cs, h with
  | [a, b, c, d, e, f, g, i, j, k, l], _ => exact ⟨a, b, c, d, e, f, g, i, j, k, l, rfl⟩
theorem some_of {α : Type} {xs : List α} {n i : Nat} (h : xs.length = n) (hi : i < n) : ∃ x, xs[i]? = some x := ⟨xs[i]'(by omega), List.getElem?_eq_getElem (by omega)⟩

section
variable {H : Type} {enc : TypeId × Value → H} {w : World} {base : Nat} {spare : Nat → Bool} {held : Bool} {fuel : Nat} {cs : List Value} {x : DataW H × List MemPlace}
theorem int_wf {n : Int} (h : (Lit.int .i64 n).wf = true) : -9223372036854775808 ≤ n ∧ n ≤ 9223372036854775807 := by
  have := h
  simp [Lit.wf, IntKind.min, IntKind.max] at this
  simpa [IntKind.signed, IntKind.bits] using this
theorem is60 (h : DataW.trod enc Try.prog w base spare held fuel 60 cs = some x) : ∃ r : S60, cs = rc r ∧ -9223372036854775808 ≤ r.f1 ∧ r.f1 ≤ 9223372036854775807 := by
  obtain ⟨xs, n, rfl, _, hl, hxs, hf⟩ := DataW.trod_struct Try.underlying60 h
  rw [ce60] at hl
  obtain ⟨a, b, c, rfl⟩ := len3 hl
  obtain ⟨y0, e0⟩ := some_of (i := 0) hxs (by simp)
  obtain ⟨y1, e1⟩ := some_of (i := 1) hxs (by simp)
  obtain ⟨y2, e2⟩ := some_of (i := 2) hxs (by simp)
  have f0 : DataW.trod enc Try.prog w base spare held n 3 (([a, b, c].drop 0).take (Try.prog.cellsOf 3)) = xs[0]? := hf 0 _ rfl
  rw [ce3, e0] at f0
  have f1 : DataW.trod enc Try.prog w base spare held n 3 (([a, b, c].drop 1).take (Try.prog.cellsOf 3)) = xs[1]? := hf 1 _ rfl
  rw [ce3, e1] at f1
  have f2 : DataW.trod enc Try.prog w base spare held n 9 (([a, b, c].drop 2).take (Try.prog.cellsOf 9)) = xs[2]? := hf 2 _ rfl
  rw [ce9, e2] at f2
  obtain ⟨n0, q0, _, _⟩ := DataW.trod_int Try.underlying3 f0
  obtain ⟨n1, q1, _, w1⟩ := DataW.trod_int Try.underlying3 f1
  obtain ⟨n2, q2, _, _⟩ := DataW.trod_string Try.underlying9 f2
  injection q0 with q0
  injection q1 with q1
  injection q2 with q2
  subst q0 q1 q2
  exact ⟨⟨n0, n1, n2⟩, rfl, int_wf w1⟩
theorem is62 (h : DataW.trod enc Try.prog w base spare held fuel 62 cs = some x) : ∃ r : S62, cs = setc r := by
  obtain ⟨xs, n, rfl, _, hl, hxs, hf⟩ := DataW.trod_struct Try.underlying62 h
  rw [ce62] at hl
  obtain ⟨a, b, c, d, rfl⟩ := len4 hl
  obtain ⟨y0, e0⟩ := some_of (i := 0) hxs (by simp)
  obtain ⟨y1, e1⟩ := some_of (i := 1) hxs (by simp)
  have f0 : DataW.trod enc Try.prog w base spare held n 9 (([a, b, c, d].drop 0).take (Try.prog.cellsOf 9)) = xs[0]? := hf 0 _ rfl
  rw [ce9, e0] at f0
  have f1 : DataW.trod enc Try.prog w base spare held n 60 (([a, b, c, d].drop 1).take (Try.prog.cellsOf 60)) = xs[1]? := hf 1 _ rfl
  rw [ce60, e1] at f1
  obtain ⟨n0, q0, _, _⟩ := DataW.trod_string Try.underlying9 f0
  obtain ⟨r, q1, _⟩ := is60 f1
  injection q0 with q0
  subst q0
  refine ⟨⟨n0, r⟩, ?_⟩
  show _ = _ :: rc r
  rw [← q1]
  rfl
theorem is64 (h : DataW.trod enc Try.prog w base spare held fuel 64 cs = some x) : ∃ r : S64, cs = condc r := by
  obtain ⟨xs, n, rfl, _, hl, hxs, hf⟩ := DataW.trod_struct Try.underlying64 h
  rw [ce64] at hl
  obtain ⟨a, b, c, d, e, rfl⟩ := len5 hl
  obtain ⟨y0, e0⟩ := some_of (i := 0) hxs (by simp)
  obtain ⟨y1, e1⟩ := some_of (i := 1) hxs (by simp)
  obtain ⟨y2, e2⟩ := some_of (i := 2) hxs (by simp)
  have f0 : DataW.trod enc Try.prog w base spare held n 9 (([a, b, c, d, e].drop 0).take (Try.prog.cellsOf 9)) = xs[0]? := hf 0 _ rfl
  rw [ce9, e0] at f0
  have f1 : DataW.trod enc Try.prog w base spare held n 3 (([a, b, c, d, e].drop 1).take (Try.prog.cellsOf 3)) = xs[1]? := hf 1 _ rfl
  rw [ce3, e1] at f1
  have f2 : DataW.trod enc Try.prog w base spare held n 60 (([a, b, c, d, e].drop 2).take (Try.prog.cellsOf 60)) = xs[2]? := hf 2 _ rfl
  rw [ce60, e2] at f2
  obtain ⟨n0, q0, _, _⟩ := DataW.trod_string Try.underlying9 f0
  obtain ⟨n1, q1, _, _⟩ := DataW.trod_int Try.underlying3 f1
  obtain ⟨r, q2, _⟩ := is60 f2
  injection q0 with q0
  injection q1 with q1
  subst q0 q1
  refine ⟨⟨n0, n1, r⟩, ?_⟩
  show _ = _ :: _ :: rc r
  rw [← q2]
  rfl
theorem is66 (h : DataW.trod enc Try.prog w base spare held fuel 66 cs = some x) : ∃ r : S66, cs = colc r := by
  obtain ⟨xs, n, rfl, _, hl, hxs, hf⟩ := DataW.trod_struct Try.underlying66 h
  rw [ce66] at hl
  obtain ⟨a, b, c, rfl⟩ := len3 hl
  obtain ⟨y0, e0⟩ := some_of (i := 0) hxs (by simp)
  obtain ⟨y1, e1⟩ := some_of (i := 1) hxs (by simp)
  obtain ⟨y2, e2⟩ := some_of (i := 2) hxs (by simp)
  have f0 : DataW.trod enc Try.prog w base spare held n 9 (([a, b, c].drop 0).take (Try.prog.cellsOf 9)) = xs[0]? := hf 0 _ rfl
  rw [ce9, e0] at f0
  have f1 : DataW.trod enc Try.prog w base spare held n 3 (([a, b, c].drop 1).take (Try.prog.cellsOf 3)) = xs[1]? := hf 1 _ rfl
  rw [ce3, e1] at f1
  have f2 : DataW.trod enc Try.prog w base spare held n 4 (([a, b, c].drop 2).take (Try.prog.cellsOf 4)) = xs[2]? := hf 2 _ rfl
  rw [ce4, e2] at f2
  obtain ⟨n0, q0, _, _⟩ := DataW.trod_string Try.underlying9 f0
  obtain ⟨n1, q1, _, _⟩ := DataW.trod_int Try.underlying3 f1
  obtain ⟨n2, q2, _⟩ := DataW.trod_bool Try.underlying4 f2
  injection q0 with q0
  injection q1 with q1
  injection q2 with q2
  subst q0 q1 q2
  exact ⟨⟨n0, n1, n2⟩, rfl⟩
theorem is9 (h : DataW.trod enc Try.prog w base spare held fuel 9 cs = some x) : ∃ r : ByteArray, cs = strc r := by
  obtain ⟨s, rfl, _, _⟩ := DataW.trod_string Try.underlying9 h
  exact ⟨s, rfl⟩

theorem list_of {α : Type} (p : Nat → α → Prop) : ∀ n, (∀ i, i < n → ∃ x, p i x) → ∃ l : List α, l.length = n ∧ ∀ i x, l[i]? = some x → p i x
  | 0, _ => ⟨[], rfl, fun i x h => by simp at h⟩
  | n + 1, h => by
    obtain ⟨l, hl, hp⟩ := list_of p n (fun i hi => h i (by omega))
    obtain ⟨x, hx⟩ := h n (by omega)
    refine ⟨l ++ [x], by simp [hl], fun i y hy => ?_⟩
    rw [List.getElem?_append] at hy
    split at hy
    · exact hp i y hy
    · rename_i hge
      have hi : i = n := by
        have := (List.getElem?_eq_some_iff.1 hy).1
        simp at this
        omega
      subst hi
      rw [hl] at hy
      simp at hy
      subst hy
      exact hx
theorem add_add (a : Addr) (m j : Nat) : (a.add m).add j = a.add (m + j) := by
  by_cases hm : m = 0
  · subst hm
    rw [Nat.zero_add]
    rfl
  · unfold Addr.add
    rw [if_neg hm, if_neg (show ¬ m + j = 0 by omega)]
    by_cases hj : j = 0
    · rw [if_pos hj, hj, Nat.add_zero]
    · rw [if_neg hj, Nat.add_assoc]
/-- A slice that came in, whatever its elements. -/
theorem slice_reads {α : Type} {t e sz : Nat} {f : α → List Value} {q : α → Prop} (ht : Try.prog.underlying t = some (.slice e)) (hc : Try.prog.cellsOf e = sz) (hf : ∀ x, (f x).length = sz)
    (his : ∀ {fuel : Nat} {cs : List Value} {x : DataW H × List MemPlace}, DataW.trod enc Try.prog w base spare held fuel e cs = some x → ∃ r : α, cs = f r ∧ q r)
    (h : DataW.trod enc Try.prog w base spare held fuel t cs = some x) :
    ∃ (A : Option Addr) (c : Nat) (l : List α), cs = [.slice A l.length c] ∧ l.length ≤ c ∧ l.length ≤ maxLen ∧ (∀ r ∈ l, q r) ∧
      (0 < l.length → ∃ ad, A = some ad ∧ ∀ i x, l[i]? = some x → ∀ (j : Nat) (u : Value), (f x)[j]? = some u → w.cell? (ad.add (i * sz + j)) = some u) := by
  rcases Go.Deep.open_slice ht h with ⟨rfl, _⟩ | ⟨a, len, cap, m, n, D, Pl, rfl, hb, hl, hm, hmm, _, hx⟩
  · exact ⟨none, 0, [], rfl, Nat.le_refl _, Nat.zero_le _, by simp, fun h => by simp at h⟩
  · have hlm : len ≤ m := by rw [hmm]; split <;> omega
    obtain ⟨l, hll, hp⟩ := list_of (fun i (r : α) => q r ∧ ∀ (j : Nat) (u : Value), (f r)[j]? = some u → w.cell? (a.add (i * sz + j)) = some u) len (fun i hi => by
      obtain ⟨cs', h1, h2⟩ := hx i (by omega)
      obtain ⟨r, hr, hq⟩ := his h2
      obtain ⟨_, h3, h4⟩ := World.cells?_some h1
      refine ⟨r, hq, fun j u hu => ?_⟩
      have hj : j < sz := by have := (List.getElem?_eq_some_iff.1 hu).1; rw [hf] at this; exact this
      have := h4 j (by rw [hc]; exact hj)
      rw [hr, hu, hc] at this
      rw [← this, add_add])
    refine ⟨some a, cap, l, by rw [hll], by omega, by omega, ?_, fun _ => ⟨a, rfl, fun i r hr j u hu => (hp i r hr).2 j u hu⟩⟩
    intro r hr
    obtain ⟨i, hi⟩ := List.getElem?_of_mem hr
    exact (hp i r hi).1
end
end Go.Proofs.Ytplpdeanepdokaa
