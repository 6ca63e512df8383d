/- The heap's frame 'Fr S w w'': outside the blocks of S, what was there is as it was; slices that read as lists of cells, with their block's type. -/
import Derived.WalkKit
import Derived.Below
import Derived.Lib.Hide
import Derived.Deep.Draws
import Derived.Deep.Quiet
namespace Go.Proofs.Ytplpdeanepdokaa.H
open Go.RowKit

structure Fr (S : Nat → Prop) (w w' : World) : Prop where
  os : w'.os = w.os
  tape : w'.tape = w.tape
  output : w'.output = w.output
  size : w.heap.size ≤ w'.heap.size
  block : ∀ k, k < w.heap.size → ¬ S k → w'.heap[k]? = w.heap[k]?

theorem Fr.refl (S : Nat → Prop) (w : World) : Fr S w w := ⟨rfl, rfl, rfl, Nat.le_refl _, fun _ _ _ => rfl⟩
theorem Fr.trans {S S' : Nat → Prop} {a b c : World} (h : Fr S a b) (k : Fr S' b c) (hS : ∀ i, i < a.heap.size → S' i → S i) : Fr S a c :=
  ⟨k.os.trans h.os, k.tape.trans h.tape, k.output.trans h.output, Nat.le_trans h.size k.size,
    fun i hi hn => (k.block i (Nat.lt_of_lt_of_le hi h.size) (fun hs => hn (hS i hi hs))).trans (h.block i hi hn)⟩
theorem Fr.mono {S S' : Nat → Prop} {a b : World} (h : Fr S a b) (hS : ∀ i, i < a.heap.size → S i → S' i) : Fr S' a b :=
  ⟨h.os, h.tape, h.output, h.size, fun i hi hn => h.block i hi (fun hs => hn (hS i hi hs))⟩
theorem Fr.alloc {S : Nat → Prop} {a b : World} (h : Fr S a b) (o : Obj) : Fr S a (b.alloc o) :=
  h.trans (S' := fun _ => False) ⟨rfl, rfl, rfl, by simp, fun k hk _ => Below.heap_alloc _ _ _ hk⟩ (fun _ _ hf => hf.elim)
theorem Fr.setCell {S : Nat → Prop} {a b : World} (h : Fr S a b) {p : Addr} (hp : p.block < a.heap.size → S p.block) (u : Value) : Fr S a (b.setCell p u) :=
  h.trans (S' := fun k => k = p.block) ⟨rfl, rfl, rfl, by simp [World.setCell], fun k _ hk => Below.heap_setCell _ _ _ _ hk⟩ (fun i hi e => by subst e; exact hp hi)
theorem Fr.drew {S : Nat → Prop} {a b : World} (h : Fr S a b) : Fr S a b.drew := ⟨h.os, h.tape, h.output, h.size, h.block⟩
theorem Fr.drewN {S : Nat → Prop} {a b : World} (h : Fr S a b) (n : Nat) : Fr S a (b.drewN n) := ⟨h.os, h.tape, h.output, h.size, h.block⟩
theorem Fr.of_grown {w w' : World} {row : Option Nat} (h : w.grownBy w' row) : Fr (fun k => row = some k) w w' :=
  ⟨h.os, h.tape, h.output, h.size, fun k hk hn => h.block k hk (fun e => hn e.symm)⟩
theorem Fr.grown {S : Nat → Prop} {a w w' : World} {row : Option Nat} (h : Fr S a w) (hg : w.grownBy w' row) (hS : ∀ i, i < a.heap.size → row = some i → S i) : Fr S a w' :=
  h.trans (Fr.of_grown hg) hS
theorem Fr.of_below {w w' : World} (h : Below w.heap.size w w') : Fr (fun _ => False) w w' := ⟨h.os, h.tape, h.output, h.size, fun k hk _ => h.block k hk⟩
theorem Fr.below {S : Nat → Prop} {w w' : World} (h : Fr S w w') {B : Nat} (hB : B ≤ w.heap.size) (hS : ∀ k, k < B → ¬ S k) : Below B w w' :=
  ⟨h.os, h.tape, h.output, h.size, fun k hk => h.block k (Nat.lt_of_lt_of_le hk hB) (hS k hk)⟩
theorem Fr.blk {S : Nat → Prop} {w w' : World} (h : Fr S w w') {g : Nat} {o : Obj} (hb : w.heap[g]? = some o) (hn : ¬ S g) : w'.heap[g]? = some o :=
  (h.block g (Array.getElem?_eq_some_iff.1 hb).1 hn).trans hb
theorem Fr.own {S : Nat → Prop} {w w' : World} (h : Fr S w w') {base : Nat} {e : TypeId} {size n : Nat} {v : Value} {xs : List Value}
    (ho : w.ownsRow base e size v n xs) (hn : ∀ k, v.ownBlock = some k → ¬ S k) : w'.ownsRow base e size v n xs := by
  refine ⟨ho.1, ?_⟩
  rcases ho.2 with hl | ⟨g, cap, cur, rfl, hb, hgg, rest⟩
  · exact .inl hl
  · exact .inr ⟨g, cap, cur, rfl, hb, h.blk hgg (hn g rfl), rest⟩
theorem Fr.cell {S : Nat → Prop} {w w' : World} (h : Fr S w w') {p : Addr} {v : Value} (hc : w.cell? p = some v) (hn : ¬ S p.block) : w'.cell? p = some v := by
  rw [World.cell?_of_block (h.block p.block (World.block_lt_of_cell? w p hc) hn)]; exact hc

theorem blk_lt {w : World} {g : Nat} {o : Obj} (h : w.heap[g]? = some o) : g < w.heap.size := (Array.getElem?_eq_some_iff.1 h).1
theorem blk_new (w : World) (o : Obj) : (w.alloc o).heap[w.heap.size]? = some o := heap_alloc_new w o
theorem blk_alloc {w : World} {g : Nat} {o : Obj} (h : w.heap[g]? = some o) (o' : Obj) : (w.alloc o').heap[g]? = some o := (Below.heap_alloc w o' g (blk_lt h)).trans h
theorem blk_cell {w : World} {g : Nat} {t : TypeId} {cs : Array Value} (h : w.heap[g]? = some (.cells cs t (0, 0))) (i : Nat) : w.cell? ⟨g, i, none⟩ = cs[i]? := cell_of_row w g i cs t (0, 0) h
theorem blk_frozen {w : World} {g : Nat} {t : TypeId} {cs : Array Value} (h : w.heap[g]? = some (.cells cs t (0, 0))) (i : Nat) : w.frozen? ⟨g, i, none⟩ = false := by simp [World.frozen?, h]
theorem blk_set {w : World} {g : Nat} {t : TypeId} {cs : Array Value} (h : w.heap[g]? = some (.cells cs t (0, 0))) (i : Nat) (u : Value) :
    (w.setCell ⟨g, i, none⟩ u).heap[g]? = some (.cells (cs.setIfInBounds i u) t (0, 0)) := by
  simp [World.setCell, Array.getElem?_modify, h]
theorem blk_far {w : World} {g : Nat} {o : Obj} (h : w.heap[g]? = some o) {p : Addr} (hp : g ≠ p.block) (u : Value) : (w.setCell p u).heap[g]? = some o :=
  (Below.heap_setCell _ _ _ _ hp).trans h
theorem blk_grown {w w1 : World} {g : Nat} {o : Obj} {row : Option Nat} (h : w.heap[g]? = some o) (hg : w.grownBy w1 row) (hne : some g ≠ row) : w1.heap[g]? = some o := (hg.block g (blk_lt h) hne).trans h
theorem blk_below {w w1 : World} {g : Nat} {o : Obj} (h : w.heap[g]? = some o) (hb : Below w.heap.size w w1) : w1.heap[g]? = some o := (hb.block g (blk_lt h)).trans h
theorem blk_ty {w : World} {g g' : Nat} {t t' : TypeId} {cs cs' : Array Value} {fr fr'} (h : w.heap[g]? = some (.cells cs t fr)) (h' : w.heap[g']? = some (.cells cs' t' fr')) (hne : t ≠ t') : g ≠ g' := by
  rintro rfl
  rw [h] at h'
  simp only [Option.some.injEq, Obj.cells.injEq] at h'
  exact hne h'.2.1

/-- A slice value of n elements whose cells read as cs; its block's cells are of type e. -/
def Row (w : World) (e : TypeId) (v : Value) (n : Nat) (cs : List Value) : Prop :=
  ∃ A c, v = .slice A n c ∧ n ≤ c ∧ (cs = [] ∨ ∃ b o cur fr, A = some ⟨b, o, none⟩ ∧ w.heap[b]? = some (.cells cur e fr) ∧ ∀ j u, cs[j]? = some u → cur[o + j]? = some u)
theorem Row.of_own {w : World} {base : Nat} {e : TypeId} {size n : Nat} {v : Value} {xs : List Value} (h : w.ownsRow base e size v n xs) : Row w e v n xs := by
  obtain ⟨hl, ⟨rfl, rfl⟩ | ⟨g, cap, cur, rfl, hb, hg, hn, hm, hs, ht⟩⟩ := h
  · exact ⟨none, 0, rfl, Nat.le_refl _, .inl (List.eq_nil_of_length_eq_zero (by simpa using hl))⟩
  · refine ⟨_, _, rfl, hn, .inr ⟨g, 0, cur, (0, 0), rfl, hg, fun j u hu => ?_⟩⟩
    rw [← ht, List.getElem?_take] at hu
    split at hu
    · simpa using hu
    · cases hu
theorem Row.nil (w : World) (e : TypeId) : Row w e (.slice none 0 0) 0 [] := ⟨none, 0, rfl, Nat.le_refl _, .inl rfl⟩
theorem Row.fr {S : Nat → Prop} {w w' : World} {e : TypeId} {v : Value} {n : Nat} {cs : List Value} (h : Row w e v n cs) (hf : Fr S w w')
    (hS : ∀ k cur fr, w.heap[k]? = some (.cells cur e fr) → ¬ S k) : Row w' e v n cs := by
  obtain ⟨A, c, rfl, hc, h⟩ := h
  refine ⟨A, c, rfl, hc, ?_⟩
  rcases h with h | ⟨b, o, cur, fr, rfl, hb, hj⟩
  · exact .inl h
  · exact .inr ⟨b, o, cur, fr, rfl, hf.blk hb (hS _ _ _ hb), hj⟩
theorem Row.cells {w : World} {e : TypeId} {A : Option Addr} {n m c : Nat} {cs : List Value} (h : Row w e (.slice A m c) n cs) (hne : cs ≠ []) :
    ∃ b o, A = some ⟨b, o, none⟩ ∧ ∀ j u, cs[j]? = some u → w.cell? ⟨b, o + j, none⟩ = some u := by
  obtain ⟨A', c', hv, _, h⟩ := h
  injection hv with h1 h2 h3
  subst h1
  rcases h with rfl | ⟨b, o, cur, fr, rfl, hb, hj⟩
  · exact absurd rfl hne
  · refine ⟨b, o, rfl, fun j u hu => ?_⟩
    simp only [World.cell?, hb]
    simpa using hj j u hu

theorem own_ne {w : World} {base : Nat} {e t : TypeId} {size n g : Nat} {v : Value} {xs : List Value} {cs : Array Value} {fr : Nat × Nat} (h : w.ownsRow base e size v n xs)
    (hg : w.heap[g]? = some (.cells cs t fr)) (hne : e ≠ t) : v.ownBlock ≠ some g := by
  rcases h.2 with ⟨rfl, _⟩ | ⟨g', cap, cur, rfl, _, hgg, _⟩
  · simp [Value.ownBlock]
  · intro he
    simp only [Value.ownBlock, Option.some.injEq] at he
    subst he
    rw [hgg] at hg
    simp only [Option.some.injEq, Obj.cells.injEq] at hg
    exact hne hg.2.1

theorem own_slice {w : World} {base n : Nat} {e : TypeId} {size : Nat} {v : Value} {xs : List Value} (h : w.ownsRow base e size v n xs) : ∃ A c, v = .slice A n c := by
  rcases h.2 with ⟨rfl, rfl⟩ | ⟨g', cap, cur, rfl, _⟩
  · exact ⟨none, 0, rfl⟩
  · exact ⟨_, cap, rfl⟩
theorem Row.slice {w : World} {e : TypeId} {v : Value} {n : Nat} {cs : List Value} (h : Row w e v n cs) : ∃ A c, v = .slice A n c ∧ n ≤ c := by
  obtain ⟨A, c, rfl, hc, _⟩ := h
  exact ⟨A, c, rfl, hc⟩

theorem Row.tail {w : World} {e : TypeId} {b o n c : Nat} {u : Value} {cs : List Value} (h : Row w e (.slice (some ⟨b, o, none⟩) (n + 1) c) (n + 1) (u :: cs)) :
    (c = 1 → cs = [] → Row w e (.slice (some ⟨b, o, none⟩) n 0) n cs) ∧ (¬ c = 1 → Row w e (.slice (some ⟨b, o + 1, none⟩) n (c - 1)) n cs) := by
  obtain ⟨A, c', hv, hc, h⟩ := h
  injection hv with h1 h2 h3
  subst h3
  refine ⟨fun e1 e2 => ⟨_, _, rfl, by omega, .inl e2⟩, fun _ => ⟨_, _, rfl, by omega, ?_⟩⟩
  rcases h with h | ⟨b', o', cur, fr, hA, hb, hj⟩
  · cases h
  · rw [← h1] at hA
    injection hA with hA
    injection hA with h4 h5
    subst h4 h5
    refine .inr ⟨b, o + 1, cur, fr, rfl, hb, fun j u' hu => ?_⟩
    have := hj (j + 1) u' (by simpa using hu)
    rwa [show o + 1 + j = o + (j + 1) by omega]

theorem flat_get {α : Type} (f : α → List Value) (sz : Nat) (hf : ∀ x, (f x).length = sz) : ∀ (l : List α) (i j : Nat) (hi : i < l.length), j < sz → (l.flatMap f)[i * sz + j]? = (f l[i])[j]?
  | [], i, j, hi, _ => by simp at hi
  | x :: l, 0, j, hi, hj => by
    simp only [List.flatMap_cons, Nat.zero_mul, Nat.zero_add, List.getElem_cons_zero]
    rw [List.getElem?_append_left (by rw [hf]; exact hj)]
  | x :: l, i + 1, j, hi, hj => by
    simp only [List.flatMap_cons, List.getElem_cons_succ]
    rw [List.getElem?_append_right (by rw [hf, Nat.succ_mul]; omega), hf, show (i + 1) * sz + j - sz = i * sz + j by rw [Nat.succ_mul]; omega]
    exact flat_get f sz hf l i j (by simpa using hi) hj
theorem flat_length {α : Type} (f : α → List Value) (sz : Nat) (hf : ∀ x, (f x).length = sz) : ∀ (l : List α), (l.flatMap f).length = l.length * sz
  | [] => by simp
  | x :: l => by rw [List.flatMap_cons, List.length_append, hf, flat_length f sz hf l, List.length_cons, Nat.succ_mul, Nat.add_comm]
/-- A slice of elements of sz cells each, read element by element. -/
theorem Row.elem {w : World} {e : TypeId} {α : Type} {f : α → List Value} {l : List α} {b o c : Nat} {n : Nat} {sz : Nat} (h : Row w e (.slice (some ⟨b, o, none⟩) n c) n (l.flatMap f))
    (hf : ∀ x, (f x).length = sz) (i j : Nat) (hi : i < l.length) (hj : j < sz) : ∀ u, (f l[i])[j]? = some u → w.cell? ⟨b, o + (i * sz + j), none⟩ = some u := by
  intro u hu
  have hne : l.flatMap f ≠ [] := by
    intro e
    have := flat_length f sz hf l
    rw [e] at this
    have h1 : 1 ≤ l.length * sz := Nat.mul_pos (by omega) (by omega)
    simp at this
    omega
  obtain ⟨b', o', hA, hc⟩ := h.cells hne
  injection hA with hA
  injection hA with h1 h2
  subst h1 h2
  exact hc _ u (by rw [flat_get f sz hf l i j hi hj]; exact hu)
theorem take_foldl_succ {α β : Type} (f : β → α → β) (z : β) (l : List α) (k : Nat) (hk : k < l.length) : (l.take (k + 1)).foldl f z = f ((l.take k).foldl f z) l[k] := by
  rw [List.take_succ_eq_append_getElem hk, List.foldl_append]
  rfl

theorem Row.none_nil {w : World} {e : TypeId} {n m c : Nat} {cs : List Value} (h : Row w e (.slice none m c) n cs) : cs = [] := by
  obtain ⟨A, c', hv, _, h⟩ := h
  injection hv with h1
  subst h1
  rcases h with h | ⟨b, o, cur, fr, hA, _⟩
  · exact h
  · cases hA
theorem Row.news {w : World} {e : TypeId} {n m c : Nat} {cs : List Value} {ad : Addr} (h : Row w e (.slice (some ad) m c) n cs) (o : Obj) :
    ∀ j u, cs[j]? = some u → (w.alloc o).cell? (ad.add j) = some u := by
  intro j u hu
  obtain ⟨b, p, hA, hc⟩ := h.cells (by rintro rfl; simp at hu)
  injection hA with hA
  subst hA
  rw [Addr.add_lit]
  have h1 := hc j u hu
  rw [World.cell?_alloc_lt _ _ _ (World.block_lt_of_cell? w _ h1)]
  exact h1
def ClonePost (w : World) (E : TypeId) (sz n : Nat) (cs : List Value) (e : Ending) (w' : World) : Prop :=
  ∃ v', e = .returned v' ∧ w'.ownsRow w.heap.size E sz v' n cs ∧ Fr (fun _ => False) w w'
theorem ClonePost.intro {w w' : World} {E : TypeId} {sz n : Nat} {cs : List Value} {v' : Value} (h : w'.ownsRow w.heap.size E sz v' n cs) (hf : Fr (fun _ => False) w w') : ClonePost w E sz n cs (.returned v') w' :=
  ⟨v', rfl, h, hf⟩

end Go.Proofs.Ytplpdeanepdokaa.H
