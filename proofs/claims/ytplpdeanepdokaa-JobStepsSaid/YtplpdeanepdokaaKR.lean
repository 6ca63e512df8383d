/- Merged texts: JRF, JRG, JRH, JRI, JRJ, JRK, JRL, JRM. -/
import Derived.Test.YtplpdeanepdokaaJU
import Derived.Test.YtplpdeanepdokaaPJobStepsx8
import Derived.Test.YtplpdeanepdokaaJT
/- The document's job: its words (as the job's own, over its own type), printed by genrf.py. -/
namespace Go.Proofs.Ytplpdeanepdokaa
open Go.RowKit H Go.Proofs.Ytplpdeanepdokaa.PJobSteps
open Go.Proofs.YtplpdeanepdokaaW.PrintWords (Kd Reps)

theorem reps_flat {α : Type} {f : α → List Value} {sz : Nat} : ∀ (xs : List α) (cs : List Value), Reps (fun x c => c = f x) sz xs cs → cs = xs.flatMap f
  | [], cs, h => by
    have h0 : cs.length = 0 * sz := h.1
    rw [Nat.zero_mul] at h0
    rw [List.eq_nil_of_length_eq_zero h0]
    rfl
  | x :: xs, cs, h => by
    have h0 : cs.length = (xs.length + 1) * sz := h.1
    have h1 : (cs.drop (0 * sz)).take sz = f x := h.2 0 x rfl
    rw [Nat.zero_mul, List.drop_zero] at h1
    have h2 : cs.drop sz = xs.flatMap f := by
      refine reps_flat (sz := sz) xs (cs.drop sz) ⟨?_, fun j p hp => ?_⟩
      · rw [List.length_drop, h0, Nat.add_mul, Nat.one_mul, Nat.add_sub_cancel]
      · have := h.2 (j + 1) p (by simpa using hp)
        rw [List.drop_drop, show sz + j * sz = (j + 1) * sz by rw [Nat.add_mul, Nat.one_mul, Nat.add_comm]]
        exact this
    rw [List.flatMap_cons, ← h1, ← h2, List.take_append_drop]
theorem rows_own {α : Type} {d : Kd α} {f : α → List Value} {e base : Nat} {ok : Nat → Prop} {w : World} {v : Value} {xs : List α} (h : d.R e w base ok v xs)
    (hM : ∀ {w base ok x cs}, d.M w base ok x cs → cs = f x) : w.ownsRow base e d.sz v xs.length (xs.flatMap f) := by
  obtain ⟨_, inner, ho, hr⟩ := h
  rw [reps_flat xs inner (hr.imp_ (fun _ _ hp => hM hp))] at ho
  exact ho
def toWt (x : S97) : Wt := ⟨x.f0.f0, x.f0.f1, x.f0.f2, x.f1⟩
theorem wts_row {base : Nat} {ok : Nat → Prop} {w : World} {v : Value} {xs : List S97} (h : Kd.R k97 97 w base ok v xs) : Row w 97 v (xs.map toWt).length (wtCells (xs.map toWt)) := by
  have h1 := rows_own (f := fun x => (toWt x).cells) h (fun hM => k97_openM hM)
  have h2 : wtCells (xs.map toWt) = xs.flatMap (fun x => (toWt x).cells) := by
    rw [wtCells, List.flatMap_map]
  rw [h2, List.length_map]
  exact Row.of_own h1
theorem vals_own {base : Nat} {ok : Nat → Prop} {w : World} {v : Value} {xs : List S60} (h : Kd.R k60 60 w base ok v xs) : w.ownsRow base 60 3 v xs.length (rowC xs) :=
  rows_own (f := rc) h (fun hM => k60_openM hM)

namespace Rf
/-- A job at block g. -/
structure JobR (w : World) (g : Nat) (x : Sx) (phase : Int) (va : Value) (rows : List S60) (tries err : Int) : Prop where
  blk : w.heap[g]? = some (.cells #[.int .i64 x.k, .string x.tab, .string x.name, .string x.dest, .int .i64 x.n, .bool x.fl, x.a, x.b, x.c, x.d, x.e, .int .i64 phase, va, .int .i64 tries, .int .i64 err] 50 (0, 0))
  after : Row w 60 va rows.length (rowC rows)
  few : rows.length ≤ 100
  ints : ∀ r ∈ rows, -9223372036854775808 ≤ r.f1 ∧ r.f1 ≤ 9223372036854775807

def JobPost (w : World) (g : Nat) (x : Sx) (phase : Int) (rows : List S60) (tries err : Int) (w' : World) : Prop :=
  ∃ va', JobR w' g x phase va' rows tries err ∧ Fr (fun k => k = g) w w'
theorem JobPost.refl {w : World} {g : Nat} {x : Sx} {phase : Int} {va : Value} {rows : List S60} {tries err : Int} (h : JobR w g x phase va rows tries err) : JobPost w g x phase rows tries err w :=
  ⟨va, h, Fr.refl _ _⟩
theorem JobPost.trans {w w1 w2 : World} {g : Nat} {x : Sx} {phase phase2 : Int} {rows rows2 : List S60} {tries err tries2 err2 : Int}
    (h : JobPost w g x phase rows tries err w1) (h2 : ∀ va, JobR w1 g x phase va rows tries err → JobPost w1 g x phase2 rows2 tries2 err2 w2) : JobPost w g x phase2 rows2 tries2 err2 w2 := by
  obtain ⟨va, hj, hf⟩ := h
  obtain ⟨va2, hj2, hf2⟩ := h2 va hj
  exact ⟨va2, hj2, hf.trans hf2 (fun _ _ h => h)⟩
theorem JobR.setPhase {w : World} {g : Nat} {x : Sx} {phase : Int} {va : Value} {rows : List S60} {tries err : Int} (h : JobR w g x phase va rows tries err) (n : Int) :
    JobPost w g x n rows tries err (w.setCell ⟨g, 11, none⟩ (.int .i64 n)) := by
  have hf : Fr (fun k => k = g) w (w.setCell ⟨g, 11, none⟩ (.int .i64 n)) := Fr.setCell (S := fun k => k = g) (Fr.refl _ w) (fun _ => rfl) _
  exact ⟨va, ⟨by simpa using blk_set h.blk 11 (.int .i64 n), h.after.fr hf (fun k cur fr hk hs => blk_ty hk h.blk (by decide) hs), h.few, h.ints⟩, hf⟩
theorem JobR.setTries {w : World} {g : Nat} {x : Sx} {phase : Int} {va : Value} {rows : List S60} {tries err : Int} (h : JobR w g x phase va rows tries err) (n : Int) :
    JobPost w g x phase rows n err (w.setCell ⟨g, 13, none⟩ (.int .i64 n)) := by
  have hf : Fr (fun k => k = g) w (w.setCell ⟨g, 13, none⟩ (.int .i64 n)) := Fr.setCell (S := fun k => k = g) (Fr.refl _ w) (fun _ => rfl) _
  exact ⟨va, ⟨by simpa using blk_set h.blk 13 (.int .i64 n), h.after.fr hf (fun k cur fr hk hs => blk_ty hk h.blk (by decide) hs), h.few, h.ints⟩, hf⟩
theorem JobR.setErr {w : World} {g : Nat} {x : Sx} {phase : Int} {va : Value} {rows : List S60} {tries err : Int} (h : JobR w g x phase va rows tries err) (n : Int) :
    JobPost w g x phase rows tries n (w.setCell ⟨g, 14, none⟩ (.int .i64 n)) := by
  have hf : Fr (fun k => k = g) w (w.setCell ⟨g, 14, none⟩ (.int .i64 n)) := Fr.setCell (S := fun k => k = g) (Fr.refl _ w) (fun _ => rfl) _
  exact ⟨va, ⟨by simpa using blk_set h.blk 14 (.int .i64 n), h.after.fr hf (fun k cur fr hk hs => blk_ty hk h.blk (by decide) hs), h.few, h.ints⟩, hf⟩
theorem JobR.setAfter {w : World} {g : Nat} {x : Sx} {phase : Int} {va va' : Value} {rows rows' : List S60} {tries err : Int} (h : JobR w g x phase va rows tries err)
    (hr : Row w 60 va' rows'.length (rowC rows')) (hf' : rows'.length ≤ 100) (hi : ∀ r ∈ rows', -9223372036854775808 ≤ r.f1 ∧ r.f1 ≤ 9223372036854775807) :
    JobPost w g x phase rows' tries err (w.setCell ⟨g, 12, none⟩ va') := by
  have hf : Fr (fun k => k = g) w (w.setCell ⟨g, 12, none⟩ va') := Fr.setCell (S := fun k => k = g) (Fr.refl _ w) (fun _ => rfl) _
  exact ⟨va', ⟨by simpa using blk_set h.blk 12 va', hr.fr hf (fun k cur fr hk hs => blk_ty hk h.blk (by decide) hs), hf', hi⟩, hf⟩

theorem failed_any (w : World) (g : Nat) (x : Sx) (phase : Int) (va : Value) (rows : List S60) (tries err : Int) (hJ : JobR w g x phase va rows tries err) (ht : 1 ≤ tries) (ht2 : tries ≤ 9223372036854775807) (p : Int) :
    Calls Try.prog 38 #[.pointer (some ⟨g, 0, none⟩), .int .i64 p] w fun e w' => e = .returned (.tuple #[]) ∧ JobPost w g x (failP phase tries p) rows (tries - 1) (failE err tries) w' := by
  have c14 := blk_cell hJ.blk 14
  have c11 := blk_cell hJ.blk 11
  have c13 := blk_cell hJ.blk 13
  have f14 := blk_frozen hJ.blk 14
  have f11 := blk_frozen hJ.blk 11
  have f13 := blk_frozen hJ.blk 13
  simp only [List.getElem?_toArray, List.getElem?_cons_succ, List.getElem?_cons_zero] at c14 c11 c13
  have HF := Lib.hid (((hJ.setTries (tries - 1)).trans fun va h => h.setPhase p).trans fun va h => h.setErr 34)
  have HG := Lib.hid (hJ.setTries (tries - 1))
  clear hJ
  by_cases h1 : tries = 1
  · subst h1
    go_enter Try.func38, Try.ntmps38
    go_wp2
    go_end0
    exact ⟨rfl, HF.out⟩
  · have h2 : decide (tries - 1 < 1) = false := decide_eq_false (by omega)
    have e1 : failP phase tries p = phase := if_neg h1
    have e2 : failE err tries = err := if_neg h1
    rw [e1, e2]
    clear h1 e1 e2
    go_enter Try.func38, Try.ntmps38
    go_wp2
    go_end0
    exact ⟨rfl, HG.out⟩

/-- A job and its world. -/
structure JW (w : World) (g p : Nat) (x : Sx) (phase : Int) (rows : List S60) (tries err : Int) (v : Value) (ans : List Int) (xs : List ByteArray) (held : Int) : Prop where
  job : ∃ va, JobR w g x phase va rows tries err
  told : ∃ vt, Told w p vt v ans xs held

def jwS (g p : Nat) (v : Value) (k : Nat) : Prop := k = g ∨ toldS p v k
/-- What a step leaves. -/
def JP2 (w : World) (g p : Nat) (v : Value) (x : Sx) (phase : Int) (rows : List S60) (tries err : Int) (ans : List Int) (xs : List ByteArray) (held : Int) (w' : World) : Prop :=
  ∃ v', JW w' g p x phase rows tries err v' ans xs held ∧ Fr (jwS g p v) w w' ∧ (∀ k, v'.ownBlock = some k → v.ownBlock = some k ∨ w.heap.size ≤ k)

theorem JP2.refl {w : World} {g p : Nat} {x : Sx} {phase : Int} {rows : List S60} {tries err : Int} {v : Value} {ans : List Int} {xs : List ByteArray} {held : Int}
    (h : JW w g p x phase rows tries err v ans xs held) : JP2 w g p v x phase rows tries err ans xs held w := ⟨v, h, Fr.refl _ _, fun _ hk => .inl hk⟩
theorem JP2.trans {w w1 w2 : World} {g p : Nat} {x : Sx} {phase : Int} {rows : List S60} {tries err : Int} {v : Value} {ans : List Int} {xs : List ByteArray} {held : Int}
    {phase2 : Int} {rows2 : List S60} {tries2 err2 : Int} {ans2 : List Int} {xs2 : List ByteArray} {held2 : Int}
    (h : JP2 w g p v x phase rows tries err ans xs held w1)
    (h2 : ∀ v1, JW w1 g p x phase rows tries err v1 ans xs held → JP2 w1 g p v1 x phase2 rows2 tries2 err2 ans2 xs2 held2 w2) : JP2 w g p v x phase2 rows2 tries2 err2 ans2 xs2 held2 w2 := by
  obtain ⟨v1, hj, hf, hb⟩ := h
  obtain ⟨v2, hj2, hf2, hb2⟩ := h2 v1 hj
  refine ⟨v2, hj2, hf.trans hf2 ?_, ?_⟩
  · rintro i hi (rfl | rfl | h)
    · exact .inl rfl
    · exact .inr (.inl rfl)
    · rcases hb i h with h | h
      · exact .inr (.inr h)
      · omega
  · intro k hk
    rcases hb2 k hk with h | h
    · exact hb k h
    · exact .inr (Nat.le_trans hf.size h)
/-- Its world has been asked. -/
theorem JP2.told {w w' : World} {g p : Nat} {x : Sx} {phase : Int} {rows : List S60} {tries err : Int} {v : Value} {ans ans' : List Int} {xs xs' : List ByteArray} {held held' : Int}
    (h : JW w g p x phase rows tries err v ans xs held) (ht : TP w p v ans' xs' held' w') : JP2 w g p v x phase rows tries err ans' xs' held' w' := by
  obtain ⟨⟨va, hj⟩, ⟨vt, hT⟩⟩ := h
  obtain ⟨vt', v', t, f, b⟩ := ht
  refine ⟨v', ⟨⟨va, ⟨f.blk hj.blk ?_, hj.after.fr f ?_, hj.few, hj.ints⟩⟩, ⟨vt', t⟩⟩, f.mono (fun i _ h => .inr h), b⟩
  · rintro (rfl | h)
    · exact blk_ty hj.blk hT.blk (by decide) rfl
    · exact own_ne hT.own hj.blk (by decide) h
  · rintro k cur fr hk (rfl | h)
    · exact blk_ty hk hT.blk (by decide) rfl
    · exact own_ne hT.own hk (by decide) h
/-- The job was written. -/
theorem JP2.job {w w' : World} {g p : Nat} {x : Sx} {phase phase' : Int} {rows rows' : List S60} {tries tries' err err' : Int} {v : Value} {ans : List Int} {xs : List ByteArray} {held : Int}
    (h : JW w g p x phase rows tries err v ans xs held) (hj' : JobPost w g x phase' rows' tries' err' w') : JP2 w g p v x phase' rows' tries' err' ans xs held w' := by
  obtain ⟨⟨va, hj⟩, ⟨vt, hT⟩⟩ := h
  obtain ⟨va', hj', f⟩ := hj'
  refine ⟨v, ⟨⟨va', hj'⟩, ⟨vt, hT.fr f ?_ ?_ ?_⟩⟩, f.mono (fun i _ h => .inl h), fun _ hk => .inl hk⟩
  · exact fun e => blk_ty hT.blk hj.blk (by decide) e
  · exact fun k hk e => own_ne hT.own hj.blk (by decide) (e ▸ hk)
  · exact fun k cur fr hk e => blk_ty hk hj.blk (by decide) e
/-- Blocks were made. -/
theorem JP2.made {w w' : World} {g p : Nat} {x : Sx} {phase : Int} {rows : List S60} {tries err : Int} {v : Value} {ans : List Int} {xs : List ByteArray} {held : Int}
    (h : JW w g p x phase rows tries err v ans xs held) (f : Fr (fun _ => False) w w') : JP2 w g p v x phase rows tries err ans xs held w' := by
  obtain ⟨⟨va, hj⟩, ⟨vt, hT⟩⟩ := h
  exact ⟨v, ⟨⟨va, ⟨f.blk hj.blk id, hj.after.fr f (fun _ _ _ _ => id), hj.few, hj.ints⟩⟩, ⟨vt, hT.fr f id (fun _ _ => id) (fun _ _ _ _ => id)⟩⟩, f.mono (fun _ _ h => h.elim), fun _ hk => .inl hk⟩

theorem JW.made {w w' : World} {g p : Nat} {x : Sx} {phase : Int} {rows : List S60} {tries err : Int} {v : Value} {ans : List Int} {xs : List ByteArray} {held : Int}
    (h : JW w g p x phase rows tries err v ans xs held) (f : Fr (fun _ => False) w w') : JW w' g p x phase rows tries err v ans xs held := by
  obtain ⟨⟨va, hj⟩, ⟨vt, hT⟩⟩ := h
  exact ⟨⟨va, ⟨f.blk hj.blk id, hj.after.fr f (fun _ _ _ _ => id), hj.few, hj.ints⟩⟩, ⟨vt, hT.fr f id (fun _ _ => id) (fun _ _ _ _ => id)⟩⟩
theorem JP2.before {w w1 w2 : World} {g p : Nat} {x : Sx} {v : Value} {phase2 : Int} {rows2 : List S60} {tries2 err2 : Int} {ans2 : List Int} {xs2 : List ByteArray} {held2 : Int}
    (f : Fr (fun _ => False) w w1) (h2 : JP2 w1 g p v x phase2 rows2 tries2 err2 ans2 xs2 held2 w2) : JP2 w g p v x phase2 rows2 tries2 err2 ans2 xs2 held2 w2 := by
  obtain ⟨v2, hj2, hf2, hb2⟩ := h2
  refine ⟨v2, hj2, (f.mono (S' := jwS g p v) (fun _ _ h => h.elim)).trans hf2 (fun _ _ h => h), fun k hk => ?_⟩
  · rcases hb2 k hk with h | h
    · exact .inl h
    · exact .inr (Nat.le_trans f.size h)

def JWa (w : World) (g p : Nat) (x : Sx) (s : JA) (v : Value) : Prop := JW w g p x s.phase s.rows s.tries s.err v s.ans s.xs s.held
def JPa (w : World) (g p : Nat) (v : Value) (x : Sx) (s : JA) (w' : World) : Prop := JP2 w g p v x s.phase s.rows s.tries s.err s.ans s.xs s.held w'
/-- What a step answers. -/
def StepPost (w : World) (g p : Nat) (v : Value) (x : Sx) (s : JA) (e : Ending) (w' : World) : Prop :=
  e = .returned (.tuple #[.int .i64 (if s.phase < 5 then 0 else s.err), .bool (decide (5 ≤ s.phase))]) ∧ JPa w g p v x s w'
theorem StepPost.low {w w' : World} {g p : Nat} {v : Value} {x : Sx} {s : JA} (h : JPa w g p v x s w') (hp : s.phase < 5) : StepPost w g p v x s (.returned (.tuple #[.int .i64 0, .bool false])) w' := by
  refine ⟨?_, h⟩
  rw [if_pos hp, decide_eq_false (by omega)]
theorem StepPost.high {w w' : World} {g p : Nat} {v : Value} {x : Sx} {s : JA} (h : JPa w g p v x s w') (hp : ¬ s.phase < 5) : StepPost w g p v x s (.returned (.tuple #[.int .i64 s.err, .bool true])) w' := by
  refine ⟨?_, h⟩
  rw [if_neg hp, decide_eq_true (by omega)]

end Rf
end Go.Proofs.Ytplpdeanepdokaa

/- The document's job: its way through a step. -/
namespace Go.Proofs.Ytplpdeanepdokaa
open Go.RowKit H Go.Proofs.Ytplpdeanepdokaa.PJobSteps
open Go.Proofs.YtplpdeanepdokaaW.PrintWords (Kd Reps)

theorem wts_post {w w' : World} {v : Value} {xs : List S97} {l : List Wt} (h : Kd.R k97 97 w' w.heap.size (fun _ => True) v xs) (hb : Below w.heap.size w w') (hx : xs.map toWt = l) (hl : 0 < l.length) : WtsPost w l (.returned v) w' := by
  subst hx
  have hr := wts_row h
  obtain ⟨_, inner, ho, _⟩ := h
  rcases ho.2 with ⟨_, h0⟩ | ⟨b, c, _, rfl, _⟩
  · have : xs.length = 0 := by omega
    rw [List.length_map] at hl
    omega
  · refine ⟨b, c, ?_, ?_, Fr.of_below hb⟩
    · rw [List.length_map]
    · rw [List.length_map] at hr ⊢
      exact hr
theorem mark_ref (w : World) (t : ByteArray) : Calls Try.prog 35 #[.string t] w (WtsPost w (markW t)) := by
  refine (interlockref18_Mark.calls t _ w rfl).mono ?_
  rintro e w' ⟨v, rfl, hr, hb⟩
  exact wts_post hr hb rfl (by simp [markW])
theorem register_ref (w : World) (t : ByteArray) : Calls Try.prog 37 #[.string t] w (WtsPost w (regW t)) := by
  refine (interlockref18_Register.calls t _ w rfl).mono ?_
  rintro e w' ⟨v, rfl, hr, hb⟩
  exact wts_post hr hb rfl (by simp [regW])

namespace Rf
/-- On the way: from w, with the asked texts at v, to w1, with them at v1. -/
structure St (w : World) (g p : Nat) (v : Value) (x : Sx) (s : JA) (v1 : Value) (w1 : World) : Prop where
  jw : JWa w1 g p x s v1
  fr : Fr (jwS g p v) w w1
  own : ∀ k, v1.ownBlock = some k → v.ownBlock = some k ∨ w.heap.size ≤ k
section
variable {w w1 w2 : World} {g p : Nat} {v v1 : Value} {x : Sx} {s : JA}
theorem St.start (h : JWa w g p x s v) : St w g p v x s v w := ⟨h, Fr.refl _ _, fun _ hk => .inl hk⟩
theorem St.post (h : St w g p v x s v1 w1) : JPa w g p v x s w1 := ⟨v1, h.jw, h.fr, h.own⟩
theorem St.next {s2 : JA} (h : St w g p v x s v1 w1) (h2 : JPa w1 g p v1 x s2 w2) : ∃ v2, St w g p v x s2 v2 w2 := by
  obtain ⟨v2, hj2, hf2, hb2⟩ := h2
  refine ⟨v2, hj2, h.fr.trans hf2 ?_, ?_⟩
  · rintro i hi (rfl | rfl | hk)
    · exact .inl rfl
    · exact .inr (.inl rfl)
    · rcases h.own i hk with hk | hk
      · exact .inr (.inr hk)
      · omega
  · intro k hk
    rcases hb2 k hk with hk | hk
    · exact h.own k hk
    · exact .inr (Nat.le_trans h.fr.size hk)
theorem St.told {ans' : List Int} {xs' : List ByteArray} {held' : Int} (h : St w g p v x s v1 w1) (ht : TP w1 p v1 ans' xs' held' w2) : ∃ v2, St w g p v x { s with ans := ans', xs := xs', held := held' } v2 w2 :=
  h.next (s2 := { s with ans := ans', xs := xs', held := held' }) (JP2.told h.jw ht)
theorem St.made (h : St w g p v x s v1 w1) (f : Fr (fun _ => False) w1 w2) : St w g p v x s v1 w2 := by
  refine ⟨JW.made h.jw f, h.fr.trans (f.mono (S' := jwS g p v) (fun _ _ h => h.elim)) (fun _ _ h => h), h.own⟩
theorem St.job {phase' : Int} {rows' : List S60} {tries' err' : Int} (h : St w g p v x s v1 w1)
    (hj : ∀ va, JobR w1 g x s.phase va s.rows s.tries s.err → JobPost w1 g x phase' rows' tries' err' w2) : St w g p v x { s with phase := phase', rows := rows', tries := tries', err := err' } v1 w2 := by
  obtain ⟨⟨⟨va, hJ⟩, ⟨vt, hT⟩⟩, hf, hb⟩ := h
  obtain ⟨va', hj', f⟩ := hj va hJ
  refine ⟨⟨⟨va', hj'⟩, ⟨vt, hT.fr f ?_ ?_ ?_⟩⟩, hf.trans (f.mono (S' := jwS g p v) (fun i _ h => .inl h)) (fun _ _ h => h), hb⟩
  · exact fun e => blk_ty hT.blk hJ.blk (by decide) e
  · exact fun k hk e => own_ne hT.own hJ.blk (by decide) (e ▸ hk)
  · exact fun k cur fr hk e => blk_ty hk hJ.blk (by decide) e
theorem St.phase (h : St w g p v x s v1 w1) (n : Int) : St w g p v x { s with phase := n } v1 (w1.setCell ⟨g, 11, none⟩ (.int .i64 n)) := h.job fun _ hj => hj.setPhase n
theorem St.err (h : St w g p v x s v1 w1) (n : Int) : St w g p v x { s with err := n } v1 (w1.setCell ⟨g, 14, none⟩ (.int .i64 n)) := h.job fun _ hj => hj.setErr n
/-- The cells that a walk loads and stores. -/
structure Cs (w : World) (g : Nat) (x : Sx) (s : JA) : Prop where
  c0 : w.cell? ⟨g, 0, none⟩ = some (.int .i64 x.k)
  c1 : w.cell? ⟨g, 1, none⟩ = some (.string x.tab)
  c2 : w.cell? ⟨g, 2, none⟩ = some (.string x.name)
  c3 : w.cell? ⟨g, 3, none⟩ = some (.string x.dest)
  c4 : w.cell? ⟨g, 4, none⟩ = some (.int .i64 x.n)
  c5 : w.cell? ⟨g, 5, none⟩ = some (.bool x.fl)
  c6 : w.cell? ⟨g, 6, none⟩ = some x.a
  c7 : w.cell? ⟨g, 7, none⟩ = some x.b
  c8 : w.cell? ⟨g, 8, none⟩ = some x.c
  c9 : w.cell? ⟨g, 9, none⟩ = some x.d
  c10 : w.cell? ⟨g, 10, none⟩ = some x.e
  c11 : w.cell? ⟨g, 11, none⟩ = some (.int .i64 s.phase)
  c14 : w.cell? ⟨g, 14, none⟩ = some (.int .i64 s.err)
  f11 : w.frozen? ⟨g, 11, none⟩ = false
  f12 : w.frozen? ⟨g, 12, none⟩ = false
  f14 : w.frozen? ⟨g, 14, none⟩ = false
theorem St.cells (h : St w g p v x s v1 w1) : Cs w1 g x s := by
  obtain ⟨⟨⟨va, hJ⟩, _⟩, _, _⟩ := h
  exact ⟨blk_cell hJ.blk 0, blk_cell hJ.blk 1, blk_cell hJ.blk 2, blk_cell hJ.blk 3, blk_cell hJ.blk 4, blk_cell hJ.blk 5, blk_cell hJ.blk 6, blk_cell hJ.blk 7, blk_cell hJ.blk 8, blk_cell hJ.blk 9, blk_cell hJ.blk 10, blk_cell hJ.blk 11, blk_cell hJ.blk 14,
    blk_frozen hJ.blk 11, blk_frozen hJ.blk 12, blk_frozen hJ.blk 14⟩
theorem St.toldR (h : St w g p v x s v1 w1) : ∃ vt, Told w1 p vt v1 s.ans s.xs s.held := h.jw.told
theorem St.jobR (h : St w g p v x s v1 w1) : ∃ va, JobR w1 g x s.phase va s.rows s.tries s.err := h.jw.job
end
end Rf
end Go.Proofs.Ytplpdeanepdokaa

/- The document's step, phase by phase. -/
namespace Go.Proofs.Ytplpdeanepdokaa.Rf
open Go.RowKit H Go.Proofs.Ytplpdeanepdokaa.PJobSteps
open Go.Proofs.YtplpdeanepdokaaW.PrintWords (Kd Reps)

set_option maxHeartbeats 1000000 in
theorem step_two (w : World) (g p : Nat) (x : Sx) (rows : List S60) (tries err : Int) (v : Value) (ans : List Int) (xs : List ByteArray) (held : Int)
    (h : JWa w g p x ⟨2, rows, tries, err, ans, xs, held⟩ v) (ok : StepOk x ⟨2, rows, tries, err, ans, xs, held⟩) :
    Calls Try.prog 17 #[.pointer (some ⟨g, 0, none⟩), .pointer (some ⟨p, 0, none⟩)] w
      (StepPost w g p v x (stepTwo ⟨2, rows, tries, err, ans, xs, held⟩)) := by
  have S0 := Lib.hid (St.start h)
  have c1 := S0.out.cells.c1
  have OK := Lib.hid ok
  clear h ok
  go_enter Try.func17, Try.ntmps17
  go_wp2_with fail
  refine (mark_ref w x.tab).mono ?_
  rintro e w1 ⟨bm, cm, rfl, hrm, f0⟩
  have S1 := Lib.hid (S0.out.made f0)
  have HM := Lib.hid hrm
  clear f0 hrm c1 S0
  have c11 := S1.out.cells.c11
  simp only at c11
  obtain ⟨vt, hT⟩ := S1.out.toldR
  go_wp2_with fail
  refine (elder_any w1 p vt v ans xs held hT (by have := OK.out.xs; simp only at this; omega) OK.out.ans).mono ?_
  rintro e w2 ⟨rfl, h2⟩
  obtain ⟨v2, s2⟩ := S1.out.told h2
  have S2 := Lib.hid s2
  clear h2 s2 hT c11 S1
  cases hb : b1 (hdA ans) with
  | true =>
    have HZ : Hid (StepPost w g p v x (stepTwo ⟨2, rows, tries, err, ans, xs, held⟩) (.returned (.tuple #[.int .i64 0, .bool false])) w2) := by
      have e : stepTwo ⟨2, rows, tries, err, ans, xs, held⟩ = ⟨2, rows, tries, err, ans.tail, xs ++ [elderT], held⟩ := by simp [stepTwo, hb]
      rw [e]
      exact StepPost.low S2.out.post (by simp)
    have c11 := S2.out.cells.c11
    simp only at c11
    clear S2 HM hb
    go_wp2
    go_ret2
    exact HZ.out
  | false =>
    have S3 := Lib.hid (S2.out.phase 3)
    have HZ : Hid (StepPost w g p v x (stepTwo ⟨2, rows, tries, err, ans, xs, held⟩) (.returned (.tuple #[.int .i64 0, .bool false])) (w2.setCell ⟨g, 11, none⟩ (.int .i64 3))) := by
      have e : stepTwo ⟨2, rows, tries, err, ans, xs, held⟩ = ⟨3, rows, tries, err, ans.tail, xs ++ [elderT], held⟩ := by simp [stepTwo, hb]
      rw [e]
      exact StepPost.low S3.out.post (by simp)
    have c11 := S2.out.cells.c11
    have f11 := S2.out.cells.f11
    simp only at c11
    clear S2 S3 HM hb
    go_wp2
    go_ret2
    exact HZ.out
set_option maxHeartbeats 1000000 in
theorem step_six (w : World) (g p : Nat) (x : Sx) (rows : List S60) (tries err : Int) (v : Value) (ans : List Int) (xs : List ByteArray) (held : Int)
    (h : JWa w g p x ⟨6, rows, tries, err, ans, xs, held⟩ v) (ok : StepOk x ⟨6, rows, tries, err, ans, xs, held⟩) :
    Calls Try.prog 17 #[.pointer (some ⟨g, 0, none⟩), .pointer (some ⟨p, 0, none⟩)] w
      (StepPost w g p v x ((fun s => s) ⟨6, rows, tries, err, ans, xs, held⟩)) := by
  have S0 := Lib.hid (St.start h)
  have c1 := S0.out.cells.c1
  have OK := Lib.hid ok
  clear h ok
  go_enter Try.func17, Try.ntmps17
  go_wp2_with fail
  refine (mark_ref w x.tab).mono ?_
  rintro e w1 ⟨bm, cm, rfl, hrm, f0⟩
  have S1 := Lib.hid (S0.out.made f0)
  have HM := Lib.hid hrm
  clear f0 hrm c1 S0
  have c11 := S1.out.cells.c11
  have c14 := S1.out.cells.c14
  simp only at c11 c14
  have HZ : Hid (StepPost w g p v x ((fun s => s) ⟨6, rows, tries, err, ans, xs, held⟩) (.returned (.tuple #[.int .i64 err, .bool true])) w1) := StepPost.high S1.out.post (by simp)
  clear S1 HM
  go_wp2
  go_ret2
  exact HZ.out
end Go.Proofs.Ytplpdeanepdokaa.Rf

/- The document's step, phase by phase. -/
namespace Go.Proofs.Ytplpdeanepdokaa.Rf
open Go.RowKit H Go.Proofs.Ytplpdeanepdokaa.PJobSteps
open Go.Proofs.YtplpdeanepdokaaW.PrintWords (Kd Reps)

set_option maxHeartbeats 1000000 in
theorem step_one (w : World) (g p : Nat) (x : Sx) (rows : List S60) (tries err : Int) (v : Value) (ans : List Int) (xs : List ByteArray) (held : Int)
    (h : JWa w g p x ⟨1, rows, tries, err, ans, xs, held⟩ v) (ok : StepOk x ⟨1, rows, tries, err, ans, xs, held⟩) :
    Calls Try.prog 17 #[.pointer (some ⟨g, 0, none⟩), .pointer (some ⟨p, 0, none⟩)] w
      (StepPost w g p v x (stepOne x.tab x.name ⟨1, rows, tries, err, ans, xs, held⟩)) := by
  have S0 := Lib.hid (St.start h)
  have c1 := S0.out.cells.c1
  have OK := Lib.hid ok
  clear h ok
  go_enter Try.func17, Try.ntmps17
  go_wp2_with fail
  refine (mark_ref w x.tab).mono ?_
  rintro e w1 ⟨bm, cm, rfl, hrm, f0⟩
  have S1 := Lib.hid (S0.out.made f0)
  have HM := Lib.hid hrm
  clear f0 hrm c1 S0
  have OX : Hid (xs.length < 999980 ∧ ans.length < 1000000 ∧ -900 ≤ held ∧ held ≤ 900 ∧ x.name.size ≤ 1000 ∧ x.tab.size ≤ 1000) := ⟨OK.out.xs, OK.out.ans, OK.out.h0, OK.out.h1, OK.out.name, OK.out.tab⟩
  
  have c11 := S1.out.cells.c11
  have c1 := S1.out.cells.c1
  simp only at c11
  go_wp2_with fail
  refine (register_ref w1 x.tab).mono ?_
  rintro e w2 ⟨b, c, rfl, hr, f0⟩
  have S2 := Lib.hid (S1.out.made f0)
  have HR := Lib.hid hr
  clear f0 hr c1 c11 S1
  obtain ⟨vt, hT⟩ := S2.out.toldR
  obtain ⟨hx, hn, h0, h1, hs, hts⟩ := OX.out
  go_wp2_with fail
  refine (try_any w2 p vt v ans xs held hT (by omega) hn (by omega) (by omega) b 0 c (regW x.tab) HR.out (by simp [regW]) (by simp [regW]) (regW_ok x.tab hts)).mono ?_
  rintro e w3 ⟨rfl, h3⟩
  unfold TryPost at h3
  clear hx hn h0 h1 hs hts
  cases hb : b1 (hdA ans) with
  | false =>
    rw [hb, if_neg (by decide)] at h3
    obtain ⟨v3, s3⟩ := S2.out.told h3
    have S3 := Lib.hid s3
    clear h3 s3 hT S2 HR
    obtain ⟨va3, hj3⟩ := S3.out.jobR
    have ht : 1 ≤ tries ∧ tries ≤ 9223372036854775807 := ⟨OK.out.t1 (by simp), OK.out.t2⟩
    clear OK
    go_wp2_with fail
    refine (failed_any w3 g x 1 va3 rows tries err hj3 ht.1 ht.2 6).mono ?_
    rintro e w4 ⟨rfl, h4⟩
    have S4 := Lib.hid (S3.out.job (fun _ _ => h4))
    have hb' := hb
    clear h4 hj3 ht S3 HM hb
    by_cases h1 : tries = 1
    · have HZ : Hid (StepPost w g p v x (stepOne x.tab x.name ⟨1, rows, tries, err, ans, xs, held⟩) (.returned (.tuple #[.int .i64 34, .bool true])) w4) := by
        have e : stepOne x.tab x.name ⟨1, rows, tries, err, ans, xs, held⟩ = ⟨6, rows, tries - 1, 34, ans.tail, xs ++ [tryT (regW x.tab)], held⟩ := by simp [stepOne, hb', failP, failE, h1]
        rw [e]
        have S5 := S4.out
        rw [failP, failE, if_pos h1, if_pos h1] at S5
        exact StepPost.high S5.post (by simp)
      have c11 := S4.out.cells.c11
      have c14 := S4.out.cells.c14
      simp only at c11 c14
      rw [failP, if_pos h1] at c11
      rw [failE, if_pos h1] at c14
      clear S4 hb' h1
      go_wp2
      go_ret2
      exact HZ.out
    · have HZ : Hid (StepPost w g p v x (stepOne x.tab x.name ⟨1, rows, tries, err, ans, xs, held⟩) (.returned (.tuple #[.int .i64 0, .bool false])) w4) := by
        have e : stepOne x.tab x.name ⟨1, rows, tries, err, ans, xs, held⟩ = ⟨1, rows, tries - 1, err, ans.tail, xs ++ [tryT (regW x.tab)], held⟩ := by simp [stepOne, hb', failP, failE, h1]
        rw [e]
        have S5 := S4.out
        rw [failP, failE, if_neg h1, if_neg h1] at S5
        exact StepPost.low S5.post (by simp)
      have c11 := S4.out.cells.c11
      simp only at c11
      rw [failP, if_neg h1] at c11
      clear S4 hb' h1
      go_wp2
      go_ret2
      exact HZ.out
  | true =>
    rw [hb, if_pos rfl] at h3
    obtain ⟨v3, s3⟩ := S2.out.told h3
    have S3 := Lib.hid s3
    clear h3 s3 hT S2 HR
    obtain ⟨vt3, hT3⟩ := S3.out.toldR
    have c0 := S3.out.cells.c0
    have c1 := S3.out.cells.c1
    have c2 := S3.out.cells.c2
    have c3 := S3.out.cells.c3
    have c4 := S3.out.cells.c4
    have c5 := S3.out.cells.c5
    have c6 := S3.out.cells.c6
    have c7 := S3.out.cells.c7
    have c8 := S3.out.cells.c8
    have c9 := S3.out.cells.c9
    have c10 := S3.out.cells.c10
    obtain ⟨hx, hn, h0, h1, hs, hts⟩ := OX.out
    go_wp2_with fail
    refine (register_any w3 p vt3 v3 ans.tail _ (held + 1) hT3 (by simp; omega) (by rw [List.length_tail]; omega) (.int .i64 x.k) x.tab x.name _ _ _ _ _ _ _ _ (by omega)).mono ?_
    rintro e w4 ⟨rfl, h4⟩
    obtain ⟨v4, s4⟩ := S3.out.told h4
    have S4 := Lib.hid s4
    clear h4 s4 hT3 S3 HM c0 c1 c2 c3 c4 c5 c6 c7 c8 c9 c10
    cases hb3 : b3 (hdA ans.tail) with
    | true =>
      have he : errB (hdA ans.tail) = 12 := by rw [errB, hb3]; rfl
      rw [he]
      have S7 := Lib.hid (((S4.out.err 12).phase 2).phase 6)
      have c11 := S4.out.cells.c11
      have c14 := S4.out.cells.c14
      have f11 := S4.out.cells.f11
      have f14 := S4.out.cells.f14
      simp only at c11 c14
      obtain ⟨vt7, hT7⟩ := S7.out.toldR
      clear S4
      go_wp2_with fail
      refine (free_any _ p vt7 v4 _ _ _ hT7 (by simp; omega) (by omega) (by omega)).mono ?_
      rintro e w8 ⟨rfl, h8⟩
      obtain ⟨v8, s8⟩ := S7.out.told h8
      have S8 := Lib.hid s8
      have HZ : Hid (StepPost w g p v x (stepOne x.tab x.name ⟨1, rows, tries, err, ans, xs, held⟩) (.returned (.tuple #[.int .i64 12, .bool true])) w8) := by
        have e : stepOne x.tab x.name ⟨1, rows, tries, err, ans, xs, held⟩ = ⟨6, rows, tries, 12, ans.tail.tail, xs ++ [tryT (regW x.tab)] ++ [regT x.name] ++ [freeT], held + 1 - 1⟩ := by simp [stepOne, hb, hb3, errB]
        rw [e]
        exact StepPost.high S8.out.post (by simp)
      have c11' := S8.out.cells.c11
      have c14' := S8.out.cells.c14
      simp only at c11' c14'
      clear h8 s8 S8 S7 hT7 c11 c14 f11 f14 he hb hb3
      go_wp2
      go_ret2
      exact HZ.out
    | false =>
      have he : errB (hdA ans.tail) = 0 := by rw [errB, hb3]; rfl
      rw [he]
      have S7 := Lib.hid ((S4.out.err 0).phase 2)
      have c11 := S4.out.cells.c11
      have c14 := S4.out.cells.c14
      have f11 := S4.out.cells.f11
      have f14 := S4.out.cells.f14
      simp only at c11 c14
      obtain ⟨vt7, hT7⟩ := S7.out.toldR
      clear S4
      go_wp2_with fail
      refine (free_any _ p vt7 v4 _ _ _ hT7 (by simp; omega) (by omega) (by omega)).mono ?_
      rintro e w8 ⟨rfl, h8⟩
      obtain ⟨v8, s8⟩ := S7.out.told h8
      have S8 := Lib.hid s8
      have HZ : Hid (StepPost w g p v x (stepOne x.tab x.name ⟨1, rows, tries, err, ans, xs, held⟩) (.returned (.tuple #[.int .i64 0, .bool false])) w8) := by
        have e : stepOne x.tab x.name ⟨1, rows, tries, err, ans, xs, held⟩ = ⟨2, rows, tries, 0, ans.tail.tail, xs ++ [tryT (regW x.tab)] ++ [regT x.name] ++ [freeT], held + 1 - 1⟩ := by simp [stepOne, hb, hb3, errB]
        rw [e]
        exact StepPost.low S8.out.post (by simp)
      have c11' := S8.out.cells.c11
      have c14' := S8.out.cells.c14
      simp only at c11' c14'
      clear h8 s8 S8 S7 hT7 c11 c14 f11 f14 he hb hb3
      go_wp2
      go_ret2
      exact HZ.out
end Go.Proofs.Ytplpdeanepdokaa.Rf

/- The document's step, phase by phase. -/
namespace Go.Proofs.Ytplpdeanepdokaa.Rf
open Go.RowKit H Go.Proofs.Ytplpdeanepdokaa.PJobSteps
open Go.Proofs.YtplpdeanepdokaaW.PrintWords (Kd Reps)

set_option maxHeartbeats 1000000 in
theorem step_four (w : World) (g p : Nat) (x : Sx) (rows : List S60) (tries err : Int) (v : Value) (ans : List Int) (xs : List ByteArray) (held : Int)
    (h : JWa w g p x ⟨4, rows, tries, err, ans, xs, held⟩ v) (ok : StepOk x ⟨4, rows, tries, err, ans, xs, held⟩) :
    Calls Try.prog 17 #[.pointer (some ⟨g, 0, none⟩), .pointer (some ⟨p, 0, none⟩)] w
      (StepPost w g p v x (stepFour x.tab x.name ⟨4, rows, tries, err, ans, xs, held⟩)) := by
  have S0 := Lib.hid (St.start h)
  have c1 := S0.out.cells.c1
  have OK := Lib.hid ok
  clear h ok
  go_enter Try.func17, Try.ntmps17
  go_wp2_with fail
  refine (mark_ref w x.tab).mono ?_
  rintro e w1 ⟨bm, cm, rfl, hrm, f0⟩
  have S1 := Lib.hid (S0.out.made f0)
  have HM := Lib.hid hrm
  clear f0 hrm c1 S0
  have OX : Hid (xs.length < 999980 ∧ ans.length < 1000000 ∧ -900 ≤ held ∧ held ≤ 900 ∧ x.name.size ≤ 1000 ∧ x.tab.size ≤ 1000) := ⟨OK.out.xs, OK.out.ans, OK.out.h0, OK.out.h1, OK.out.name, OK.out.tab⟩
  
  have c11 := S1.out.cells.c11
  simp only at c11
  have HR := Lib.hid HM.out
  obtain ⟨vt, hT⟩ := S1.out.toldR
  obtain ⟨hx, hn, h0, h1, hs, hts⟩ := OX.out
  go_wp2_with fail
  refine (try_any w1 p vt v ans xs held hT (by omega) hn (by omega) (by omega) bm 0 cm (markW x.tab) HR.out (by simp [markW]) (by simp [markW]) (markW_ok x.tab hts)).mono ?_
  rintro e w3 ⟨rfl, h3⟩
  unfold TryPost at h3
  clear hx hn h0 h1 hs hts
  cases hb : b1 (hdA ans) with
  | false =>
    rw [hb, if_neg (by decide)] at h3
    obtain ⟨v3, s3⟩ := S1.out.told h3
    have S3 := Lib.hid s3
    clear h3 s3 hT S1 HR
    obtain ⟨va3, hj3⟩ := S3.out.jobR
    have ht : 1 ≤ tries ∧ tries ≤ 9223372036854775807 := ⟨OK.out.t1 (by simp), OK.out.t2⟩
    clear OK
    go_wp2_with fail
    refine (failed_any w3 g x 4 va3 rows tries err hj3 ht.1 ht.2 5).mono ?_
    rintro e w4 ⟨rfl, h4⟩
    have S4 := Lib.hid (S3.out.job (fun _ _ => h4))
    have hb' := hb
    clear h4 hj3 ht S3 HM hb
    by_cases h1 : tries = 1
    · have HZ : Hid (StepPost w g p v x (stepFour x.tab x.name ⟨4, rows, tries, err, ans, xs, held⟩) (.returned (.tuple #[.int .i64 34, .bool true])) w4) := by
        have e : stepFour x.tab x.name ⟨4, rows, tries, err, ans, xs, held⟩ = ⟨5, rows, tries - 1, 34, ans.tail, xs ++ [tryT (markW x.tab)], held⟩ := by simp [stepFour, hb', failP, failE, h1]
        rw [e]
        have S5 := S4.out
        rw [failP, failE, if_pos h1, if_pos h1] at S5
        exact StepPost.high S5.post (by simp)
      have c11 := S4.out.cells.c11
      have c14 := S4.out.cells.c14
      simp only at c11 c14
      rw [failP, if_pos h1] at c11
      rw [failE, if_pos h1] at c14
      clear S4 hb' h1
      go_wp2
      go_ret2
      exact HZ.out
    · have HZ : Hid (StepPost w g p v x (stepFour x.tab x.name ⟨4, rows, tries, err, ans, xs, held⟩) (.returned (.tuple #[.int .i64 0, .bool false])) w4) := by
        have e : stepFour x.tab x.name ⟨4, rows, tries, err, ans, xs, held⟩ = ⟨4, rows, tries - 1, err, ans.tail, xs ++ [tryT (markW x.tab)], held⟩ := by simp [stepFour, hb', failP, failE, h1]
        rw [e]
        have S5 := S4.out
        rw [failP, failE, if_neg h1, if_neg h1] at S5
        exact StepPost.low S5.post (by simp)
      have c11 := S4.out.cells.c11
      simp only at c11
      rw [failP, if_neg h1] at c11
      clear S4 hb' h1
      go_wp2
      go_ret2
      exact HZ.out
  | true =>
    rw [hb, if_pos rfl] at h3
    obtain ⟨v3, s3⟩ := S1.out.told h3
    have S3 := Lib.hid s3
    clear h3 s3 hT S1 HR
    obtain ⟨vt3, hT3⟩ := S3.out.toldR
    have c2 := S3.out.cells.c2
    obtain ⟨hx, hn, h0, h1, hs, hts⟩ := OX.out
    go_wp2_with fail
    refine (settle_any w3 p vt3 v3 ans.tail _ (held + 1) hT3 (by simp; omega) (by rw [List.length_tail]; omega) x.name (by omega)).mono ?_
    rintro e w4 ⟨rfl, h4⟩
    obtain ⟨v4, s4⟩ := S3.out.told h4
    have S4 := Lib.hid s4
    clear h4 s4 hT3 S3 HM c2
    cases hb3 : b3 (hdA ans.tail) with
    | true =>
      have he : errB (hdA ans.tail) = 12 := by rw [errB, hb3]; rfl
      rw [he]
      have S7 := Lib.hid (((S4.out.err 12).phase 6).phase 5)
      have c11 := S4.out.cells.c11
      have c14 := S4.out.cells.c14
      have f11 := S4.out.cells.f11
      have f14 := S4.out.cells.f14
      simp only at c11 c14
      obtain ⟨vt7, hT7⟩ := S7.out.toldR
      clear S4
      go_wp2_with fail
      refine (free_any _ p vt7 v4 _ _ _ hT7 (by simp; omega) (by omega) (by omega)).mono ?_
      rintro e w8 ⟨rfl, h8⟩
      obtain ⟨v8, s8⟩ := S7.out.told h8
      have S8 := Lib.hid s8
      have HZ : Hid (StepPost w g p v x (stepFour x.tab x.name ⟨4, rows, tries, err, ans, xs, held⟩) (.returned (.tuple #[.int .i64 12, .bool true])) w8) := by
        have e : stepFour x.tab x.name ⟨4, rows, tries, err, ans, xs, held⟩ = ⟨5, rows, tries, 12, ans.tail.tail, xs ++ [tryT (markW x.tab)] ++ [setT x.name] ++ [freeT], held + 1 - 1⟩ := by simp [stepFour, hb, hb3, errB]
        rw [e]
        exact StepPost.high S8.out.post (by simp)
      have c11' := S8.out.cells.c11
      have c14' := S8.out.cells.c14
      simp only at c11' c14'
      clear h8 s8 S8 S7 hT7 c11 c14 f11 f14 he hb hb3
      go_wp2
      go_ret2
      exact HZ.out
    | false =>
      have he : errB (hdA ans.tail) = 0 := by rw [errB, hb3]; rfl
      rw [he]
      have S7 := Lib.hid ((S4.out.err 0).phase 6)
      have c11 := S4.out.cells.c11
      have c14 := S4.out.cells.c14
      have f11 := S4.out.cells.f11
      have f14 := S4.out.cells.f14
      simp only at c11 c14
      obtain ⟨vt7, hT7⟩ := S7.out.toldR
      clear S4
      go_wp2_with fail
      refine (free_any _ p vt7 v4 _ _ _ hT7 (by simp; omega) (by omega) (by omega)).mono ?_
      rintro e w8 ⟨rfl, h8⟩
      obtain ⟨v8, s8⟩ := S7.out.told h8
      have S8 := Lib.hid s8
      have HZ : Hid (StepPost w g p v x (stepFour x.tab x.name ⟨4, rows, tries, err, ans, xs, held⟩) (.returned (.tuple #[.int .i64 0, .bool true])) w8) := by
        have e : stepFour x.tab x.name ⟨4, rows, tries, err, ans, xs, held⟩ = ⟨6, rows, tries, 0, ans.tail.tail, xs ++ [tryT (markW x.tab)] ++ [setT x.name] ++ [freeT], held + 1 - 1⟩ := by simp [stepFour, hb, hb3, errB]
        rw [e]
        exact StepPost.high S8.out.post (by simp)
      have c11' := S8.out.cells.c11
      have c14' := S8.out.cells.c14
      simp only at c11' c14'
      clear h8 s8 S8 S7 hT7 c11 c14 f11 f14 he hb hb3
      go_wp2
      go_ret2
      exact HZ.out
end Go.Proofs.Ytplpdeanepdokaa.Rf

/- The document's step, phase by phase. -/
namespace Go.Proofs.Ytplpdeanepdokaa.Rf
open Go.RowKit H Go.Proofs.Ytplpdeanepdokaa.PJobSteps
open Go.Proofs.YtplpdeanepdokaaW.PrintWords (Kd Reps)

set_option maxHeartbeats 1000000 in
theorem step_five (w : World) (g p : Nat) (x : Sx) (rows : List S60) (tries err : Int) (v : Value) (ans : List Int) (xs : List ByteArray) (held : Int)
    (h : JWa w g p x ⟨5, rows, tries, err, ans, xs, held⟩ v) (ok : StepOk x ⟨5, rows, tries, err, ans, xs, held⟩) :
    Calls Try.prog 17 #[.pointer (some ⟨g, 0, none⟩), .pointer (some ⟨p, 0, none⟩)] w
      (StepPost w g p v x (stepFive x.tab x.name ⟨5, rows, tries, err, ans, xs, held⟩)) := by
  have S0 := Lib.hid (St.start h)
  have c1 := S0.out.cells.c1
  have OK := Lib.hid ok
  clear h ok
  go_enter Try.func17, Try.ntmps17
  go_wp2_with fail
  refine (mark_ref w x.tab).mono ?_
  rintro e w1 ⟨bm, cm, rfl, hrm, f0⟩
  have S1 := Lib.hid (S0.out.made f0)
  have HM := Lib.hid hrm
  clear f0 hrm c1 S0
  have OX : Hid (xs.length < 999980 ∧ ans.length < 1000000 ∧ -900 ≤ held ∧ held ≤ 900 ∧ x.name.size ≤ 1000 ∧ x.tab.size ≤ 1000) := ⟨OK.out.xs, OK.out.ans, OK.out.h0, OK.out.h1, OK.out.name, OK.out.tab⟩
  
  have c11 := S1.out.cells.c11
  simp only at c11
  have hcap : 2 ≤ cm := by
    obtain ⟨_, _, hv, hle⟩ := HM.out.slice
    injection hv with _ _ h3
    have : (markW x.tab).length = 3 := rfl
    omega
  have hlen : (markW x.tab).length = 3 := rfl
  have HR2 : Hid (Row w1 97 (.slice (some ⟨bm, 0, none⟩) ((markW x.tab).take 2).length cm) ((markW x.tab).take 2).length (wtCells ((markW x.tab).take 2))) :=
    HM.out.take 2 (by rw [hlen]; omega) _ (fun j u hu => by
      have hj : j < 8 := by
        have := (List.getElem?_eq_some_iff.1 hu).1
        simpa [markW, wtCells, Wt.cells] using this
      simp only [markW, wtCells, Wt.cells, List.take_succ_cons, List.take_zero, List.flatMap_cons, List.flatMap_nil, List.cons_append, List.nil_append, List.append_nil] at hu ⊢
      rcases j with _ | _ | _ | _ | _ | _ | _ | _ | j <;> first | exact hu | omega)
  clear hlen
  obtain ⟨vt, hT⟩ := S1.out.toldR
  obtain ⟨hx, hn, h0, h1, hs, hts⟩ := OX.out
  go_wp2_with fail
  refine (try_any w1 p vt v ans xs held hT (by omega) hn (by omega) (by omega) bm 0 cm ((markW x.tab).take 2) HR2.out (by simp [markW]) (by simp [markW]) (mark2_ok x.tab hts)).mono ?_
  rintro e w3 ⟨rfl, h3⟩
  unfold TryPost at h3
  cases hb : b1 (hdA ans) with
  | false =>
    rw [hb, if_neg (by decide)] at h3
    obtain ⟨v3, s3⟩ := S1.out.told h3
    have S3 := Lib.hid s3
    clear h3 s3 hT S1 HR2 HM
    have HZ : Hid (StepPost w g p v x (stepFive x.tab x.name ⟨5, rows, tries, err, ans, xs, held⟩) (.returned (.tuple #[.int .i64 err, .bool true])) w3) := by
      have e : stepFive x.tab x.name ⟨5, rows, tries, err, ans, xs, held⟩ = ⟨5, rows, tries, err, ans.tail, xs ++ [tryT ((markW x.tab).take 2)], held⟩ := by simp [stepFive, hb]
      rw [e]
      exact StepPost.high S3.out.post (by simp)
    have c11' := S3.out.cells.c11
    have c14' := S3.out.cells.c14
    simp only at c11' c14'
    clear S3 hb c11
    go_wp2
    go_ret2
    exact HZ.out
  | true =>
    rw [hb, if_pos rfl] at h3
    obtain ⟨v3, s3⟩ := S1.out.told h3
    have S3 := Lib.hid s3
    clear h3 s3 hT S1 HR2 HM
    obtain ⟨vt3, hT3⟩ := S3.out.toldR
    have c2 := S3.out.cells.c2
    go_wp2_with fail
    refine (abandon_any w3 p vt3 v3 ans.tail _ (held + 1) hT3 (by simp; omega) (by rw [List.length_tail]; omega) x.name (by omega)).mono ?_
    rintro e w4 ⟨rfl, h4⟩
    obtain ⟨v4, s4⟩ := S3.out.told h4
    have S4 := Lib.hid s4
    clear h4 s4 hT3 S3 c2 c11
    cases hb3 : b3 (hdA ans.tail) with
    | true =>
      have he : (!true) = false := rfl
      rw [he]
      have S7 := Lib.hid (S4.out)
      have c11 := S4.out.cells.c11
      have f11 := S4.out.cells.f11
      simp only at c11
      obtain ⟨vt7, hT7⟩ := S7.out.toldR
      clear S4
      go_wp2_with fail
      refine (free_any _ p vt7 v4 _ _ _ hT7 (by simp; omega) (by omega) (by omega)).mono ?_
      rintro e w8 ⟨rfl, h8⟩
      obtain ⟨v8, s8⟩ := S7.out.told h8
      have S8 := Lib.hid s8
      have HZ : Hid (StepPost w g p v x (stepFive x.tab x.name ⟨5, rows, tries, err, ans, xs, held⟩) (.returned (.tuple #[.int .i64 err, .bool true])) w8) := by
        have e : stepFive x.tab x.name ⟨5, rows, tries, err, ans, xs, held⟩ = ⟨5, rows, tries, err, ans.tail.tail, xs ++ [tryT ((markW x.tab).take 2)] ++ [abaT x.name] ++ [freeT], held + 1 - 1⟩ := by simp [stepFive, hb, hb3]
        rw [e]
        exact StepPost.high S8.out.post (by simp)
      have c11' := S8.out.cells.c11
      have c14' := S8.out.cells.c14
      simp only at c11' c14'
      clear h8 s8 S8 S7 hT7 c11 f11 he hb hb3
      go_wp2
      go_ret2
      exact HZ.out
    | false =>
      have he : (!false) = true := rfl
      rw [he]
      have S7 := Lib.hid (S4.out.phase 6)
      have c11 := S4.out.cells.c11
      have f11 := S4.out.cells.f11
      simp only at c11
      obtain ⟨vt7, hT7⟩ := S7.out.toldR
      clear S4
      go_wp2_with fail
      refine (free_any _ p vt7 v4 _ _ _ hT7 (by simp; omega) (by omega) (by omega)).mono ?_
      rintro e w8 ⟨rfl, h8⟩
      obtain ⟨v8, s8⟩ := S7.out.told h8
      have S8 := Lib.hid s8
      have HZ : Hid (StepPost w g p v x (stepFive x.tab x.name ⟨5, rows, tries, err, ans, xs, held⟩) (.returned (.tuple #[.int .i64 err, .bool true])) w8) := by
        have e : stepFive x.tab x.name ⟨5, rows, tries, err, ans, xs, held⟩ = ⟨6, rows, tries, err, ans.tail.tail, xs ++ [tryT ((markW x.tab).take 2)] ++ [abaT x.name] ++ [freeT], held + 1 - 1⟩ := by simp [stepFive, hb, hb3]
        rw [e]
        exact StepPost.high S8.out.post (by simp)
      have c11' := S8.out.cells.c11
      have c14' := S8.out.cells.c14
      simp only at c11' c14'
      clear h8 s8 S8 S7 hT7 c11 f11 he hb hb3
      go_wp2
      go_ret2
      exact HZ.out
end Go.Proofs.Ytplpdeanepdokaa.Rf

/- The document's step, phase by phase. -/
namespace Go.Proofs.Ytplpdeanepdokaa.Rf
open Go.RowKit H Go.Proofs.Ytplpdeanepdokaa.PJobSteps
open Go.Proofs.YtplpdeanepdokaaW.PrintWords (Kd Reps)

theorem told_cell3 {w w' : World} {g p : Nat} {x : Sx} {s : JA} {v : Value} {ans' : List Int} {xs' : List ByteArray} {held' : Int}
    (h : JWa w g p x s v) (h4 : TP w p v ans' xs' held' w') {i : Nat} {u : Value} (hc : w.cell? ⟨g, i, none⟩ = some u) : w'.cell? ⟨g, i, none⟩ = some u := by
  obtain ⟨⟨va, hj⟩, ⟨vt, hT⟩⟩ := h
  obtain ⟨_, _, _, f, _⟩ := h4
  refine f.cell hc ?_
  rintro (h | h)
  · exact blk_ty hj.blk hT.blk (by decide) h
  · exact own_ne hT.own hj.blk (by decide) h
set_option maxHeartbeats 1000000 in
theorem step_three (w : World) (g p : Nat) (x : Sx) (rows : List S60) (tries err : Int) (v : Value) (ans : List Int) (xs : List ByteArray) (held : Int)
    (h : JWa w g p x ⟨3, rows, tries, err, ans, xs, held⟩ v) (ok : StepOk x ⟨3, rows, tries, err, ans, xs, held⟩) :
    Calls Try.prog 17 #[.pointer (some ⟨g, 0, none⟩), .pointer (some ⟨p, 0, none⟩)] w
      (StepPost w g p v x (stepThree x.name ⟨3, rows, tries, err, ans, xs, held⟩)) := by
  have S0 := Lib.hid (St.start h)
  have c1 := S0.out.cells.c1
  have OK := Lib.hid ok
  clear h ok
  go_enter Try.func17, Try.ntmps17
  go_wp2_with fail
  refine (mark_ref w x.tab).mono ?_
  rintro e w1 ⟨bm, cm, rfl, hrm, f0⟩
  have S1 := Lib.hid (S0.out.made f0)
  have HM := Lib.hid hrm
  clear f0 hrm c1 S0
  have OX : Hid (xs.length < 999980 ∧ ans.length < 1000000 ∧ -900 ≤ held ∧ held ≤ 900 ∧ x.name.size ≤ 1000 ∧ x.tab.size ≤ 1000) := ⟨OK.out.xs, OK.out.ans, OK.out.h0, OK.out.h1, OK.out.name, OK.out.tab⟩
  
  have HI : Hid (-9223372036854775808 ≤ hdA ans.tail ∧ hdA ans.tail ≤ 9223372036854775807) := hdA_int ans.tail (fun a ha => OK.out.ints a (List.mem_of_mem_tail ha))
  have c11 := S1.out.cells.c11
  simp only at c11
  obtain ⟨vt, hT⟩ := S1.out.toldR
  obtain ⟨hx, hn, h0, h1, hs, hts⟩ := OX.out
  go_wp2_with fail
  refine (token_any w1 p vt v ans xs held hT (by omega) hn).mono ?_
  rintro e w2 ⟨rfl, h2⟩
  obtain ⟨v2, s2⟩ := S1.out.told h2
  have S2 := Lib.hid s2
  clear h2 s2 hT c11 S1 HM
  cases hb : b1 (hdA ans) with
  | false =>
    have HZ : Hid (StepPost w g p v x (stepThree x.name ⟨3, rows, tries, err, ans, xs, held⟩) (.returned (.tuple #[.int .i64 0, .bool false])) w2) := by
      have e : stepThree x.name ⟨3, rows, tries, err, ans, xs, held⟩ = ⟨3, rows, tries, err, ans.tail, xs ++ [tokenT], held⟩ := by simp [stepThree, hb]
      rw [e]
      exact StepPost.low S2.out.post (by simp)
    have c11 := S2.out.cells.c11
    simp only at c11
    clear S2 hb
    go_wp2
    go_ret2
    exact HZ.out
  | true =>
    have S3 := Lib.hid (S2.out.made ((Fr.refl (fun _ => False) w2).drew))
    obtain ⟨va3, hJ3⟩ := S3.out.jobR
    obtain ⟨A, c, rfl, hc⟩ := hJ3.after.slice
    have c2 := S2.out.cells.c2
    have c12 : w2.cell? ⟨g, 12, none⟩ = some (.slice A rows.length c) := blk_cell hJ3.blk 12
    have HR := Lib.hid hJ3.after
    have HK := Lib.hid (And.intro hJ3.few hJ3.ints)
    clear hJ3 S2 OK OX
    have hx1 : (xs ++ [tokenT]).length < 1000000 := by simp; omega
    have hn1 : ans.tail.length < 1000000 := by rw [List.length_tail]; omega
    go_wp2_with fail
    go_region_held3 (fun w' => w'.cell? ⟨g, 2, none⟩ = some (.string x.name) ∧ w'.cell? ⟨g, 12, none⟩ = some (.slice A rows.length c)) (first | exact ⟨c2, c12⟩ | exact ⟨c2a, c12a⟩)
      (first
      | (go_at_call 43; obtain ⟨vt3, hT3⟩ := S3.out.toldR; refine (batch_any _ p vt3 v2 ans.tail (xs ++ [tokenT]) held hT3 hx1 hn1 x.name hs A c rows HR.out hc HK.out.1 HK.out.2).mono ?_; rintro e w4 ⟨vr, rfl, h4, hr4, ⟨A2, k2, n2, rfl⟩⟩; obtain ⟨v4, s4⟩ := S3.out.told h4; have S4 := Lib.hid s4; have c2a := S4.out.cells.c2; have c12a : w4.cell? ⟨g, 12, none⟩ = some (.slice A rows.length c) := told_cell3 S3.out.jw h4 c12; have HR4 := Lib.hid hr4; clear h4 s4 hr4 hT3))
    all_goals
      have c11 := S4.out.cells.c11
      have f11 := S4.out.cells.f11
      have f12 := S4.out.cells.f12
      simp only at c11
      cases hb0 : b0 (hdA ans.tail) with
      | true =>
        rw [show (!true) = false from rfl]
        have HZ : Hid (StepPost w g p v x (stepThree x.name ⟨3, rows, tries, err, ans, xs, held⟩) (.returned (.tuple #[.int .i64 0, .bool false])) (w4.setCell ⟨g, 11, none⟩ (.int .i64 4))) := by
          have e : stepThree x.name ⟨3, rows, tries, err, ans, xs, held⟩ = ⟨4, rows, tries, err, ans.tail.tail, xs ++ [tokenT] ++ [batchT x.name rows], held⟩ := by simp [stepThree, hb, hb0]
          rw [e]
          exact StepPost.low (S4.out.phase 4).post (by simp)
        clear S4 HR4 S3 HR c2a c12a hb hb0 c2 c12
        go_wp2
        go_ret2
        exact HZ.out
      | false =>
        rw [show (!false) = true from rfl]
        have hr5 := HR4.out hb0
        obtain ⟨A3, k3, hv3, _⟩ := hr5.slice
        injection hv3 with e1 e2 e3
        subst e2
        have S5 := S4.out.job (phase' := 3) (rows' := [⟨1, hdA ans.tail, ⟨#[]⟩⟩]) (tries' := tries) (err' := err) (fun va' hj' => hj'.setAfter hr5 (by simp) (by simpa using HI.out))
        have HZ : Hid (StepPost w g p v x (stepThree x.name ⟨3, rows, tries, err, ans, xs, held⟩) (.returned (.tuple #[.int .i64 0, .bool false])) (w4.setCell ⟨g, 12, none⟩ (.slice A2 1 k2))) := by
          have e : stepThree x.name ⟨3, rows, tries, err, ans, xs, held⟩ = ⟨3, [⟨1, hdA ans.tail, ⟨#[]⟩⟩], tries, err, ans.tail.tail, xs ++ [tokenT] ++ [batchT x.name rows], held⟩ := by simp [stepThree, hb, hb0]
          rw [e]
          exact StepPost.low S5.post (by simp)
        clear S4 S5 HR4 S3 HR c2a hb hb0 hr5 e1 e3 c2 c12
        go_wp2
        go_ret2
        exact HZ.out
end Go.Proofs.Ytplpdeanepdokaa.Rf

/- The document's step, any phase. -/
namespace Go.Proofs.Ytplpdeanepdokaa.Rf
open Go.RowKit H Go.Proofs.Ytplpdeanepdokaa.PJobSteps
theorem step_any (w : World) (g p : Nat) (x : Sx) (s : JA) (v : Value) (h : JWa w g p x s v) (ok : StepOk x s) :
    Calls Try.prog 17 #[.pointer (some ⟨g, 0, none⟩), .pointer (some ⟨p, 0, none⟩)] w (StepPost w g p v x (stepA x.tab x.name s)) := by
  obtain ⟨phase, rows, tries, err, ans, xs, held⟩ := s
  have p1 := ok.p1
  have p6 := ok.p6
  simp only at p1 p6
  have : phase = 1 ∨ phase = 2 ∨ phase = 3 ∨ phase = 4 ∨ phase = 5 ∨ phase = 6 := by omega
  rcases this with rfl | rfl | rfl | rfl | rfl | rfl
  · exact step_one w g p x rows tries err v ans xs held h ok
  · exact step_two w g p x rows tries err v ans xs held h ok
  · exact step_three w g p x rows tries err v ans xs held h ok
  · exact step_four w g p x rows tries err v ans xs held h ok
  · exact step_five w g p x rows tries err v ans xs held h ok
  · exact step_six w g p x rows tries err v ans xs held h ok
end Go.Proofs.Ytplpdeanepdokaa.Rf

