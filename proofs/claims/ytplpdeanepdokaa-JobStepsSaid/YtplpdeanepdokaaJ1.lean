/- The world that is told in a list (ref22.Told), its methods' contracts. -/
import Derived.Test.YtplpdeanepdokaaProg
import Derived.Test.YtplpdeanepdokaaH
import Derived.Outline
import Derived.Maps.AppendAt
namespace Go.Proofs.Ytplpdeanepdokaa
open Go.RowKit H

theorem info9 : (Try.prog.info? 9).map (fun i => (i.zero, i.size, i.bytes)) = some (some (.string ⟨#[]⟩), 1, 16) := by kernel_rfl

/-- Told at block p: what it answers, what it was asked, how often it holds; v is the slice of what was asked. -/
structure Told (w : World) (p : Nat) (va v : Value) (ans : List Int) (xs : List ByteArray) (held : Int) : Prop where
  blk : w.heap[p]? = some (.cells #[va, v, .int .i64 held] 36 (0, 0))
  ans : Row w 3 va ans.length (ans.map (Value.int .i64))
  own : w.ownsRow 0 9 1 v xs.length (xs.map Value.string)
  few : xs.length ≤ 1000000

/-- Blocks that a call of a Told may write. -/
def toldS (p : Nat) (v : Value) (k : Nat) : Prop := k = p ∨ v.ownBlock = some k

theorem Told.fr {S : Nat → Prop} {w w' : World} {p : Nat} {va v : Value} {ans : List Int} {xs : List ByteArray} {held : Int} (h : Told w p va v ans xs held)
    (hf : Fr S w w') (hp : ¬ S p) (hv : ∀ k, v.ownBlock = some k → ¬ S k) (h3 : ∀ k cur fr, w.heap[k]? = some (.cells cur 3 fr) → ¬ S k) : Told w' p va v ans xs held :=
  ⟨hf.blk h.blk hp, h.ans.fr hf h3, hf.own h.own hv, h.few⟩

def NotePost (w : World) (p : Nat) (va v : Value) (ans : List Int) (xs : List ByteArray) (held : Int) (s : ByteArray) (w' : World) : Prop :=
  ∃ v', Told w' p va v' ans (xs ++ [s]) held ∧ Fr (toldS p v) w w' ∧ (∀ k, v'.ownBlock = some k → v.ownBlock = some k ∨ w.heap.size ≤ k)

set_option maxHeartbeats 400000 in
theorem note_any (w : World) (p : Nat) (va v : Value) (ans : List Int) (xs : List ByteArray) (held : Int) (s : ByteArray)
    (h : Told w p va v ans xs held) (hx : xs.length < 1000000) :
    Calls Try.prog 58 #[.pointer (some ⟨p, 0, none⟩), .string s] w fun e w' => e = .returned (.tuple #[]) ∧ NotePost w p va v ans xs held s w' := by
  have c1 := blk_cell h.blk 1
  have f1 := blk_frozen h.blk 1
  obtain ⟨i0, hi, hz0, hz1, hz2⟩ := info_parts info9
  have hown := h.own
  simp only [List.getElem?_toArray, List.getElem?_cons_succ, List.getElem?_cons_zero] at c1
  go_enter Try.func58, Try.ntmps58
  go_wp2_with (at_builtin; refine wpList_append_own_at _ rfl _ _ 26 rfl 0 9 i0 (.string ⟨#[]⟩) 1 16 Try.underlying26 hi hz0 hz1 hz2 rfl (by decide) _ _ _ rfl (hown.alloc _) ⟨w.heap.size, 0, none⟩ 1 1 [.string s] rfl rfl ?c1 ?c2 ?c3 ?c4 ?c5 ?_)
  case c1 => exact cell_one_new _ _ _
  case c2 => intro u hu; simp at hu; subst hu; rfl
  case c3 => unfold maxLen; omega
  case c4 => omega
  case c5 => omega
  intro v' w1 hown1 hg _ hat
  obtain ⟨A1, k1, rfl⟩ := own_slice hown1
  have hne : some p ≠ v.ownBlock := fun e => own_ne hown h.blk (by decide) e.symm
  have hb1 := blk_grown (blk_alloc h.blk (.cells #[.string s] 9)) hg hne
  have hfr : Fr (toldS p v) w w1 := ((Fr.refl _ w).alloc _).grown hg (fun i _ hi => .inr hi)
  have han := h.ans.fr hfr (fun k cur fr hk hs => by
    rcases hs with rfl | hs
    · exact blk_ty hk h.blk (by decide) rfl
    · exact own_ne hown hk (by decide) hs)
  have c1' := blk_cell hb1 1
  have f1' := blk_frozen hb1 1
  simp only [List.getElem?_toArray, List.getElem?_cons_succ, List.getElem?_cons_zero] at c1'
  have HF : Hid (NotePost w p va v ans xs held s (w1.setCell ⟨p, 1, none⟩ (.slice A1 (xs.length + 1) k1))) := by
    refine ⟨_, ⟨by simpa using blk_set hb1 1 _, han.fr (Fr.setCell (Fr.refl (fun k => k = p) w1) (fun _ => rfl) _) (fun k cur fr hk hs => blk_ty hk hb1 (by decide) hs), ?_, by simp; omega⟩, hfr.setCell (fun _ => .inl rfl) _, ?_⟩
    · have := (Fr.setCell (Fr.refl (fun k => k = p) w1) (p := ⟨p, 1, none⟩) (fun _ => rfl) (.slice A1 (xs.length + 1) k1)).own hown1 (fun k hk hs => own_ne hown1 hb1 (by decide) (hs ▸ hk))
      simpa using this
    · intro k hk
      rcases hat with e | e
      · exact .inl (e ▸ hk)
      · rw [e] at hk
        simp at hk
        exact .inr (by omega)
  clear c1 f1 hi hz0 hz1 hz2 hb1 hat hne hfr han hown1 hg hown h
  go_wp2
  go_end0
  exact ⟨rfl, HF⟩

/-- What a call of a Told leaves. -/
def TP (w : World) (p : Nat) (v : Value) (ans : List Int) (xs : List ByteArray) (held : Int) (w' : World) : Prop :=
  ∃ va' v', Told w' p va' v' ans xs held ∧ Fr (toldS p v) w w' ∧ (∀ k, v'.ownBlock = some k → v.ownBlock = some k ∨ w.heap.size ≤ k)
theorem TP.trans {w w1 w2 : World} {p : Nat} {v v1 va1 : Value} {ans ans2 : List Int} {xs xs2 : List ByteArray} {held held2 : Int}
    (h1 : Told w1 p va1 v1 ans xs held) (hf : Fr (toldS p v) w w1) (hb : ∀ k, v1.ownBlock = some k → v.ownBlock = some k ∨ w.heap.size ≤ k)
    (h2 : TP w1 p v1 ans2 xs2 held2 w2) : TP w p v ans2 xs2 held2 w2 := by
  obtain ⟨va', v', t, f, b⟩ := h2
  refine ⟨va', v', t, hf.trans f ?_, ?_⟩
  · rintro i hi (rfl | h)
    · exact .inl rfl
    · rcases hb i h with h | h
      · exact .inr h
      · omega
  · intro k hk
    rcases b k hk with h | h
    · exact hb k h
    · exact .inr (Nat.le_trans hf.size h)
theorem NotePost.tp {w w' : World} {p : Nat} {va v : Value} {ans : List Int} {xs : List ByteArray} {held : Int} {s : ByteArray} (h : NotePost w p va v ans xs held s w') :
    TP w p v ans (xs ++ [s]) held w' := by
  obtain ⟨v', t, f, b⟩ := h
  exact ⟨va, v', t, f, b⟩
theorem TP.refl {w : World} {p : Nat} {va v : Value} {ans : List Int} {xs : List ByteArray} {held : Int} (h : Told w p va v ans xs held) : TP w p v ans xs held w :=
  ⟨va, v, h, Fr.refl _ _, fun _ hk => .inl hk⟩
/-- The count of what is held is stored. -/
theorem Told.setHeld {w : World} {p : Nat} {va v : Value} {ans : List Int} {xs : List ByteArray} {held : Int} (h : Told w p va v ans xs held) (n : Int) :
    TP w p v ans xs n (w.setCell ⟨p, 2, none⟩ (.int .i64 n)) := by
  have hf : Fr (fun k => k = p) w (w.setCell ⟨p, 2, none⟩ (.int .i64 n)) := Fr.setCell (S := fun k => k = p) (Fr.refl _ w) (fun _ => rfl) _
  refine ⟨va, v, ⟨by simpa using blk_set h.blk 2 (.int .i64 n), h.ans.fr hf (fun k cur fr hk hs => blk_ty hk h.blk (by decide) hs),
    hf.own h.own (fun k hk hs => own_ne h.own h.blk (by decide) (hs ▸ hk)), h.few⟩, hf.mono (fun i _ e => .inl e), fun k hk => .inl hk⟩
/-- A Told over blocks that are made. -/
theorem Told.alloc {w : World} {p : Nat} {va v : Value} {ans : List Int} {xs : List ByteArray} {held : Int} (h : Told w p va v ans xs held) (o : Obj) : Told (w.alloc o) p va v ans xs held :=
  h.fr (Fr.alloc (Fr.refl (fun _ => False) w) o) id (fun _ _ => id) (fun _ _ _ _ => id)

/-- What it answers next is stored. -/
theorem Told.setAns {w : World} {p : Nat} {va v va' : Value} {ans ans' : List Int} {xs : List ByteArray} {held : Int} (h : Told w p va v ans xs held)
    (hr : Row w 3 va' ans'.length (ans'.map (Value.int .i64))) : TP w p v ans' xs held (w.setCell ⟨p, 0, none⟩ va') := by
  have hf : Fr (fun k => k = p) w (w.setCell ⟨p, 0, none⟩ va') := Fr.setCell (S := fun k => k = p) (Fr.refl _ w) (fun _ => rfl) _
  refine ⟨va', v, ⟨by simpa using blk_set h.blk 0 va', hr.fr hf (fun k cur fr hk hs => blk_ty hk h.blk (by decide) hs),
    hf.own h.own (fun k hk hs => own_ne h.own h.blk (by decide) (hs ▸ hk)), h.few⟩, hf.mono (fun i _ e => .inl e), fun k hk => .inl hk⟩

theorem next_none (w : World) (p : Nat) (va v : Value) (xs : List ByteArray) (held : Int) (h : Told w p va v [] xs held) :
    Calls Try.prog 59 #[.pointer (some ⟨p, 0, none⟩)] w fun e w' => e = .returned (.int .i64 0) ∧ w = w' := by
  obtain ⟨A, c, hv, _⟩ := h.ans.slice
  subst hv
  have c0 := blk_cell h.blk 0
  simp only [List.getElem?_toArray, List.getElem?_cons_zero] at c0
  go_enter Try.func59, Try.ntmps59
  go_wp2
  go_ret
  exact ⟨rfl, rfl⟩

theorem next_some (w : World) (p : Nat) (va v : Value) (a : Int) (ans : List Int) (xs : List ByteArray) (held : Int) (hT : Told w p va v (a :: ans) xs held) (hn : ans.length < 1000000) :
    Calls Try.prog 59 #[.pointer (some ⟨p, 0, none⟩)] w fun e w' => e = .returned (.int .i64 a) ∧ TP w p v ans xs held w' := by
  obtain ⟨A, c, hv, hc⟩ := hT.ans.slice
  subst hv
  obtain ⟨b, o, rfl, hcell⟩ := hT.ans.cells (by simp)
  have c0 := blk_cell hT.blk 0
  have f0 := blk_frozen hT.blk 0
  have d0 := hcell 0 _ rfl
  have hcl : ans.length + 1 ≤ c := by simpa using hc
  simp only [List.getElem?_toArray, List.getElem?_cons_zero, List.length_cons] at c0
  simp only [Nat.add_zero] at d0
  have HT := Lib.hid hT.ans.tail
  clear hcell hc
  go_enter Try.func59, Try.ntmps59
  go_wp2
  · have : c = 1 := by assumption
    subst this
    go_ret
    exact ⟨rfl, hT.setAns (HT.out.1 rfl (by rw [List.map_eq_nil_iff]; exact List.eq_nil_of_length_eq_zero (by omega)))⟩
  · have hc : ¬ c = 1 := by assumption
    go_ret
    exact ⟨rfl, hT.setAns (HT.out.2 hc)⟩
end Go.Proofs.Ytplpdeanepdokaa
