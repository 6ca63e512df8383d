/- The job's methods that ask its world. -/
import Derived.Test.YtplpdeanepdokaaJJ
namespace Go.Proofs.Ytplpdeanepdokaa
open Go.RowKit H Go.Proofs.Ytplpdeanepdokaa.PJobSteps
open Go.Proofs.YtplpdeanepdokaaW.PrintWords (Kd)

/-- A job and its world. -/
structure JW (w : World) (g p : Nat) (x : Sx) (phase : Int) (rows : List S60) (tries err : Int) (v : Value) (ans : List Int) (xs : List ByteArray) (held : Int) : Prop where
  job : ∃ va, JobR w g x phase va rows tries err
  told : ∃ vt, Told w p vt v ans xs held

def jwS (g p : Nat) (v : Value) (k : Nat) : Prop := k = g ∨ toldS p v k
/-- What a step leaves. -/
def JP2 (w : World) (g p : Nat) (v : Value) (x : Sx) (phase : Int) (rows : List S60) (tries err : Int) (ans : List Int) (xs : List ByteArray) (held : Int) (w' : World) : Prop :=
  ∃ v', JW w' g p x phase rows tries err v' ans xs held ∧ Fr (jwS g p v) w w' ∧ (∀ k, v'.ownBlock = some k → v.ownBlock = some k ∨ w.heap.size ≤ k)

theorem JP2.refl {w : World} {g p : Nat} {x : Sx} {phase : Int} {rows : List S60} {tries err : Int} {v : Value} {ans : List Int} {xs : List ByteArray} {held : Int}
    (h : JW w g p x phase rows tries err v ans xs held) : JP2 w g p v x phase rows tries err ans xs held w := ⟨v, h, Fr.refl _ _, fun _ hk => .inl hk⟩
theorem JP2.trans {w w1 w2 : World} {g p : Nat} {x : Sx} {phase : Int} {rows : List S60} {tries err : Int} {v : Value} {ans : List Int} {xs : List ByteArray} {held : Int}
    {phase2 : Int} {rows2 : List S60} {tries2 err2 : Int} {ans2 : List Int} {xs2 : List ByteArray} {held2 : Int}
    (h : JP2 w g p v x phase rows tries err ans xs held w1)
    (h2 : ∀ v1, JW w1 g p x phase rows tries err v1 ans xs held → JP2 w1 g p v1 x phase2 rows2 tries2 err2 ans2 xs2 held2 w2) : JP2 w g p v x phase2 rows2 tries2 err2 ans2 xs2 held2 w2 := by
  obtain ⟨v1, hj, hf, hb⟩ := h
  obtain ⟨v2, hj2, hf2, hb2⟩ := h2 v1 hj
  refine ⟨v2, hj2, hf.trans hf2 ?_, ?_⟩
  · rintro i hi (rfl | rfl | h)
    · exact .inl rfl
    · exact .inr (.inl rfl)
    · rcases hb i h with h | h
      · exact .inr (.inr h)
      · omega
  · intro k hk
    rcases hb2 k hk with h | h
    · exact hb k h
    · exact .inr (Nat.le_trans hf.size h)
/-- Its world has been asked. -/
theorem JP2.told {w w' : World} {g p : Nat} {x : Sx} {phase : Int} {rows : List S60} {tries err : Int} {v : Value} {ans ans' : List Int} {xs xs' : List ByteArray} {held held' : Int}
    (h : JW w g p x phase rows tries err v ans xs held) (ht : TP w p v ans' xs' held' w') : JP2 w g p v x phase rows tries err ans' xs' held' w' := by
  obtain ⟨⟨va, hj⟩, ⟨vt, hT⟩⟩ := h
  obtain ⟨vt', v', t, f, b⟩ := ht
  refine ⟨v', ⟨⟨va, ⟨f.blk hj.blk ?_, hj.after.fr f ?_, hj.few, hj.ints⟩⟩, ⟨vt', t⟩⟩, f.mono (fun i _ h => .inr h), b⟩
  · rintro (rfl | h)
    · exact blk_ty hj.blk hT.blk (by decide) rfl
    · exact own_ne hT.own hj.blk (by decide) h
  · rintro k cur fr hk (rfl | h)
    · exact blk_ty hk hT.blk (by decide) rfl
    · exact own_ne hT.own hk (by decide) h
/-- The job was written. -/
theorem JP2.job {w w' : World} {g p : Nat} {x : Sx} {phase phase' : Int} {rows rows' : List S60} {tries tries' err err' : Int} {v : Value} {ans : List Int} {xs : List ByteArray} {held : Int}
    (h : JW w g p x phase rows tries err v ans xs held) (hj' : JobPost w g x phase' rows' tries' err' w') : JP2 w g p v x phase' rows' tries' err' ans xs held w' := by
  obtain ⟨⟨va, hj⟩, ⟨vt, hT⟩⟩ := h
  obtain ⟨va', hj', f⟩ := hj'
  refine ⟨v, ⟨⟨va', hj'⟩, ⟨vt, hT.fr f ?_ ?_ ?_⟩⟩, f.mono (fun i _ h => .inl h), fun _ hk => .inl hk⟩
  · exact fun e => blk_ty hT.blk hj.blk (by decide) e
  · exact fun k hk e => own_ne hT.own hj.blk (by decide) (e ▸ hk)
  · exact fun k cur fr hk e => blk_ty hk hj.blk (by decide) e
/-- Blocks were made. -/
theorem JP2.made {w w' : World} {g p : Nat} {x : Sx} {phase : Int} {rows : List S60} {tries err : Int} {v : Value} {ans : List Int} {xs : List ByteArray} {held : Int}
    (h : JW w g p x phase rows tries err v ans xs held) (f : Fr (fun _ => False) w w') : JP2 w g p v x phase rows tries err ans xs held w' := by
  obtain ⟨⟨va, hj⟩, ⟨vt, hT⟩⟩ := h
  exact ⟨v, ⟨⟨va, ⟨f.blk hj.blk id, hj.after.fr f (fun _ _ _ _ => id), hj.few, hj.ints⟩⟩, ⟨vt, hT.fr f id (fun _ _ => id) (fun _ _ _ _ => id)⟩⟩, f.mono (fun _ _ h => h.elim), fun _ hk => .inl hk⟩

theorem JW.made {w w' : World} {g p : Nat} {x : Sx} {phase : Int} {rows : List S60} {tries err : Int} {v : Value} {ans : List Int} {xs : List ByteArray} {held : Int}
    (h : JW w g p x phase rows tries err v ans xs held) (f : Fr (fun _ => False) w w') : JW w' g p x phase rows tries err v ans xs held := by
  obtain ⟨⟨va, hj⟩, ⟨vt, hT⟩⟩ := h
  exact ⟨⟨va, ⟨f.blk hj.blk id, hj.after.fr f (fun _ _ _ _ => id), hj.few, hj.ints⟩⟩, ⟨vt, hT.fr f id (fun _ _ => id) (fun _ _ _ _ => id)⟩⟩
theorem JP2.before {w w1 w2 : World} {g p : Nat} {x : Sx} {v : Value} {phase2 : Int} {rows2 : List S60} {tries2 err2 : Int} {ans2 : List Int} {xs2 : List ByteArray} {held2 : Int}
    (f : Fr (fun _ => False) w w1) (h2 : JP2 w1 g p v x phase2 rows2 tries2 err2 ans2 xs2 held2 w2) : JP2 w g p v x phase2 rows2 tries2 err2 ans2 xs2 held2 w2 := by
  obtain ⟨v2, hj2, hf2, hb2⟩ := h2
  refine ⟨v2, hj2, (f.mono (S' := jwS g p v) (fun _ _ h => h.elim)).trans hf2 (fun _ _ h => h), fun k hk => ?_⟩
  · rcases hb2 k hk with h | h
    · exact .inl h
    · exact .inr (Nat.le_trans f.size h)

def RegPost (w : World) (g p : Nat) (v : Value) (x : Sx) (rows : List S60) (tries : Int) (ans : List Int) (xs : List ByteArray) (held : Int) (w' : World) : Prop :=
  JP2 w g p v x (if b3 (hdA ans) = true then 6 else 2) rows tries (errB (hdA ans)) ans.tail (xs ++ [⟨#[114, 101, 103, 105, 115, 116, 101, 114, 32]⟩ ++ x.name]) held w'

set_option maxRecDepth 10000 in
theorem regi_any (w : World) (g p : Nat) (x : Sx) (phase : Int) (rows : List S60) (tries err : Int) (v : Value) (ans : List Int) (xs : List ByteArray) (held : Int)
    (h : JW w g p x phase rows tries err v ans xs held) (hx : xs.length < 1000000) (hn : ans.length < 1000000) (hs : x.name.size ≤ 1000) :
    Calls Try.prog 26 #[.pointer (some ⟨g, 0, none⟩), .iface 34 (.pointer (some ⟨p, 0, none⟩))] w fun e w' => e = .returned (.tuple #[]) ∧ RegPost w g p v x rows tries ans xs held w' := by
  have hd := h.made ((Fr.refl (fun _ => False) w).drew)
  obtain ⟨⟨va, hJ⟩, ⟨vt, hT⟩⟩ := h
  obtain ⟨_, ⟨vt, hTd⟩⟩ := id hd
  have c0 := blk_cell hJ.blk 0
  have c1 := blk_cell hJ.blk 1
  have c2 := blk_cell hJ.blk 2
  have c3 := blk_cell hJ.blk 3
  have c4 := blk_cell hJ.blk 4
  have c5 := blk_cell hJ.blk 5
  have c6 := blk_cell hJ.blk 6
  have c7 := blk_cell hJ.blk 7
  have c8 := blk_cell hJ.blk 8
  have c9 := blk_cell hJ.blk 9
  have c10 := blk_cell hJ.blk 10
  simp only [List.getElem?_toArray, List.getElem?_cons_succ, List.getElem?_cons_zero] at c0 c1 c2 c3 c4 c5 c6 c7 c8 c9 c10
  have hna := na_Register
  have hme := me_Register
  have hmf : ∀ (fn : Fn) (first cap : Array Value) (w : World), (Instr.makeFunc fn first cap).run Try.prog w = .ok (.func fn first cap) w := fun _ _ _ _ => rfl
  have H0 := Lib.hid hd
  have HT0 := Lib.hid hTd
  have HF : Hid (∀ w' , JP2 w.drew g p v x (if b3 (hdA ans) = true then 6 else 2) rows tries (errB (hdA ans)) ans.tail (xs ++ [⟨#[114, 101, 103, 105, 115, 116, 101, 114, 32]⟩ ++ x.name]) held w' → RegPost w g p v x rows tries ans xs held w') :=
    fun w' h => JP2.before ((Fr.refl (fun _ => False) w).drew) h
  clear hT hJ hd hTd
  go_enter Try.func26, Try.ntmps26
  go_wp2_with fail
  go_region_with (first
    | (go_at_call 39; refine (register_any _ p vt v ans xs held HT0.out hx hn _ _ _ _ _ _ _ _ _ _ _ hs).mono ?_; rintro e w1 ⟨rfl, h1⟩; have h2 := JP2.told H0.out h1; obtain ⟨v1, ⟨⟨va1, hj1⟩, ht1⟩, f1, b1'⟩ := h2; have H1 := Lib.hid (And.intro hj1 (And.intro ht1 (And.intro f1 b1'))); clear h1 hj1 ht1 f1 b1' c0 c1 c2 c3 c4 c5 c6 c7 c8 c9 c10)
    | (go_at_call 54; refine (turn_any _ g x phase va1 rows tries err H1.out.1 _ _ _).mono ?_; rintro e w2 ⟨rfl, h2⟩; have H2 := Lib.hid (HF.out _ (JP2.trans ⟨v1, ⟨⟨va1, H1.out.1⟩, H1.out.2.1⟩, H1.out.2.2.1, H1.out.2.2.2⟩ fun v2 hj => JP2.job hj h2)); clear h2))
  all_goals
    go_end0
    exact ⟨rfl, Hid.out (by assumption)⟩
end Go.Proofs.Ytplpdeanepdokaa
