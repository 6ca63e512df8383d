/- The heap's words, on. -/
import Derived.Test.YtplpdeanepdokaaH
namespace Go.Proofs.Ytplpdeanepdokaa.H
open Go.RowKit
theorem Row.take {w : World} {e : TypeId} {A : Option Addr} {n c : Nat} {cs : List Value} (h : Row w e (.slice A n c) n cs) (m : Nat) (hm : m ≤ n) (cs' : List Value)
    (hc : ∀ (j : Nat) (u : Value), cs'[j]? = some u → cs[j]? = some u) : Row w e (.slice A m c) m cs' := by
  obtain ⟨A', c', hv, hle, h⟩ := h
  injection hv with h1 h2 h3
  subst h1 h3
  refine ⟨_, _, rfl, by omega, ?_⟩
  rcases h with rfl | ⟨b, o, cur, fr, hA, hb, hj⟩
  · left
    cases cs' with
    | nil => rfl
    | cons u _ => exact absurd (hc 0 u rfl) (by simp)
  · exact .inr ⟨b, o, cur, fr, hA, hb, fun j u hu => hj j u (hc j u hu)⟩
/-- A slice value of n elements whose cells read as cs, in whatever block. -/
def Rd (w : World) (v : Value) (n : Nat) (cs : List Value) : Prop :=
  ∃ A c, v = .slice A n c ∧ n ≤ c ∧ (cs = [] ∨ ∃ ad : Addr, A = some ad ∧ ∀ (j : Nat) (u : Value), cs[j]? = some u → w.cell? (ad.add j) = some u)
theorem Row.rd {w : World} {e : TypeId} {v : Value} {n : Nat} {cs : List Value} (h : Row w e v n cs) : Rd w v n cs := by
  obtain ⟨A, c, rfl, hc, _⟩ := id h
  refine ⟨A, c, rfl, hc, ?_⟩
  by_cases hcs : cs = []
  · exact .inl hcs
  · obtain ⟨b, o, rfl, hj⟩ := h.cells hcs
    exact .inr ⟨_, rfl, fun j u hu => by rw [Addr.add_lit]; exact hj j u hu⟩
theorem Rd.fr {S : Nat → Prop} {w w' : World} {v : Value} {n : Nat} {cs : List Value} (h : Rd w v n cs) (hf : Fr S w w') (hS : ∀ k, k < w.heap.size → ¬ S k) : Rd w' v n cs := by
  obtain ⟨A, c, rfl, hc, h⟩ := h
  refine ⟨A, c, rfl, hc, ?_⟩
  rcases h with h | ⟨ad, rfl, hj⟩
  · exact .inl h
  · refine .inr ⟨ad, rfl, fun j u hu => ?_⟩
    have h1 := hj j u hu
    exact hf.cell h1 (hS _ (World.block_lt_of_cell? w _ h1))
theorem Rd.none_nil {w : World} {n m c : Nat} {cs : List Value} (h : Rd w (.slice none m c) n cs) : cs = [] := by
  obtain ⟨A, c', hv, _, h⟩ := h
  injection hv with h1
  subst h1
  rcases h with h | ⟨ad, hA, _⟩
  · exact h
  · cases hA
theorem Rd.news {w : World} {n m c : Nat} {cs : List Value} {ad : Addr} (h : Rd w (.slice (some ad) m c) n cs) (o : Obj) :
    ∀ j u, cs[j]? = some u → (w.alloc o).cell? (ad.add j) = some u := by
  intro j u hu
  obtain ⟨A, c', hv, _, h⟩ := h
  injection hv with h1
  subst h1
  rcases h with rfl | ⟨ad', hA, hc⟩
  · simp at hu
  · injection hA with hA
    subst hA
    have h1 := hc j u hu
    rw [World.cell?_alloc_lt _ _ _ (World.block_lt_of_cell? w _ h1)]
    exact h1
theorem Rd.slice {w : World} {v : Value} {n : Nat} {cs : List Value} (h : Rd w v n cs) : ∃ A c, v = .slice A n c ∧ n ≤ c := by
  obtain ⟨A, c, rfl, hc, _⟩ := h
  exact ⟨A, c, rfl, hc⟩

end Go.Proofs.Ytplpdeanepdokaa.H
