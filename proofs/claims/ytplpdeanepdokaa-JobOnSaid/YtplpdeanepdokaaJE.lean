/- The law's 'alive' answers true. -/
import Derived.Test.YtplpdeanepdokaaJX
import Derived.Test.YtplpdeanepdokaaJY
namespace Go.Proofs.Ytplpdeanepdokaa
open Go.RowKit H Go.Proofs.Ytplpdeanepdokaa.PJobSteps
open Go.Proofs.YtplpdeanepdokaaW.PrintWords (Kd)

/-- A fresh world's answers. -/
theorem Told.made (w : World) (l : List Int) (n : Nat) (hn : n = l.length) (o : Obj) (ho : o = .cells (l.map (Value.int .i64)).toArray 3) :
    Told ((w.alloc o).alloc (.cells #[.slice (some ⟨w.heap.size, 0, none⟩) n n, .slice none 0 0, .int .i64 0] 36)) (w.heap.size + 1) (.slice (some ⟨w.heap.size, 0, none⟩) n n) (.slice none 0 0) l [] 0 := by
  subst hn ho
  refine ⟨?_, ⟨_, _, rfl, Nat.le_refl _, .inr ⟨w.heap.size, 0, _, _, rfl, blk_alloc (blk_new w _) _, ?_⟩⟩, World.ownsRow_nil _ _ _ _, by simp⟩
  · have := blk_new (w.alloc (.cells (l.map (Value.int .i64)).toArray 3)) (.cells #[.slice (some ⟨w.heap.size, 0, none⟩) l.length l.length, .slice none 0 0, .int .i64 0] 36)
    rw [show (w.alloc (.cells (l.map (Value.int .i64)).toArray 3)).heap.size = w.heap.size + 1 by simp] at this
    exact this
  · intro j u hu
    rw [Nat.zero_add]
    simpa using hu

/-- A job and its world, both made behind w. -/
structure LInv (w wr : World) (g p : Nat) (x : Sx) (s : JA) (v : Value) : Prop where
  jw : JWa wr g p x s v
  fr : Fr (fun _ => False) w wr
  own : ∀ k, v.ownBlock = some k → w.heap.size ≤ k
theorem LInv.step {w wr w2 : World} {g p : Nat} {x : Sx} {s s' : JA} {v : Value} (h : LInv w wr g p x s v) (hg : w.heap.size ≤ g) (hp : w.heap.size ≤ p) (h2 : JPa wr g p v x s' w2) : ∃ v', LInv w w2 g p x s' v' := by
  obtain ⟨v', hj, hf, hb⟩ := h2
  refine ⟨v', hj, h.fr.trans hf ?_, ?_⟩
  · rintro i hi (rfl | rfl | h')
    · omega
    · omega
    · have := h.own i h'; omega
  · intro k hk
    rcases hb k hk with h' | h'
    · exact h.own k h'
    · exact Nat.le_trans h.fr.size h'
theorem LInv.first {w w1 w2 : World} {g p : Nat} {x : Sx} {phase : Int} {va vt : Value} {rows : List S60} {tries : Int} {l : List Int} (hf : Fr (fun _ => False) w w1) (hj : JobR w1 g x phase va rows tries 0)
    (hf2 : Fr (fun _ => False) w1 w2) (ht : Told w2 p vt (.slice none 0 0) l [] 0) : LInv w w2 g p x ⟨phase, rows, tries, 0, l, [], 0⟩ (.slice none 0 0) :=
  ⟨⟨⟨va, ⟨hf2.blk hj.blk id, hj.after.fr hf2 (fun _ _ _ _ => id), hj.few, hj.ints⟩⟩, ⟨vt, ht⟩⟩, hf.trans hf2 (fun _ _ h => h), fun k hk => by simp [Value.ownBlock] at hk⟩

def D0 : Sd := ⟨[], [], [], [], []⟩
theorem D0_rd (w : World) (k : Int) (tab name dest : ByteArray) (n : Int) (fl : Bool) : SxRd w ⟨k, tab, name, dest, n, fl, .slice none 0 0, .slice none 0 0, .slice none 0 0, .slice none 0 0, .slice none 0 0⟩ D0 :=
  ⟨⟨_, _, rfl, Nat.le_refl _, .inl rfl⟩, ⟨_, _, rfl, Nat.le_refl _, .inl rfl⟩, ⟨_, _, rfl, Nat.le_refl _, .inl rfl⟩, ⟨_, _, rfl, Nat.le_refl _, .inl rfl⟩, ⟨_, _, rfl, Nat.le_refl _, .inl rfl⟩⟩
theorem D0_few : D0.Few := ⟨by simp [D0], by simp [D0], by simp [D0], by simp [D0], by simp [D0]⟩

theorem alive_ret {w w' : World} {g p : Nat} {v : Value} {x : Sx} {s : JA} {e : Ending} {k : Nat} (hk : k < 4) (h : StepPost w g p v x s e w') (ha : aliveA (k + 1) s) :
    e = .returned (.tuple #[.int .i64 0, .bool ((k : Int) == 3)]) ∧ JPa w g p v x s w' := by
  obtain ⟨rfl, hp⟩ := h
  refine ⟨?_, hp⟩
  obtain ⟨h1, h2⟩ := alive_phase (k + 1) s ha
  have e1 : (if s.phase < 5 then (0 : Int) else s.err) = 0 := by split <;> first | rfl | exact h2
  have e2 : decide (5 ≤ s.phase) = ((k : Int) == 3) := by
    rw [Bool.eq_iff_iff]
    simp
    omega
  rw [e1, e2]

def AliveDone (w w' : World) : Prop := Fr (fun _ => False) w w'
set_option maxHeartbeats 1000000 in
theorem alive_any (w : World) : Calls Try.prog 7 #[] w fun e w' => e = .returned (.bool true) ∧ AliveDone w w' := by
  go_enter Try.func7, Try.ntmps7
  go_wp2_with fail
  refine (new_any w 0 ⟨#[116]⟩ ⟨#[120]⟩ ⟨#[]⟩ 0 false none none none none none 0 0 0 0 0 D0 3 (D0_rd w _ _ _ _ _ _) D0_few).mono ?_
  rintro e w1 ⟨g, a, b, c, d, es, va, rfl, hg, _, hj, hf⟩
  have ht := Told.made w1 [1, 0, 0, 1, 0, 1, 0] 7 rfl _ rfl
  have hp : w.heap.size ≤ w1.heap.size + 1 := by have := hf.size; omega
  have hL := LInv.first hf hj (((Fr.refl (fun _ => False) w1).alloc _).alloc _) ht
  have HL := Lib.hid (And.intro hL (And.intro hg hp))
  clear hf hj ht hL
  go_wp2_with fail
  obtain ⟨va1, hj1⟩ := HL.out.1.jw.job
  refine (phase_any _ g _ 1 va1 [] _ _ hj1).mono ?_
  rintro e w2 ⟨rfl, hw2⟩
  have HL2 : Hid (LInv w w2 g (w1.heap.size + 1) ⟨0, ⟨#[116]⟩, ⟨#[120]⟩, ⟨#[]⟩, 0, false, a, b, c, d, es⟩ ⟨1, [], max1 3, 0, [1, 0, 0, 1, 0, 1, 0], [], 0⟩ (.slice none 0 0) ∧ w.heap.size ≤ g ∧ w.heap.size ≤ w1.heap.size + 1) := by rw [← hw2]; exact HL.out
  clear hj1 HL hw2
  generalize w1.heap.size + 1 = p at *
  go_wp2_with fail
  go_loopw [3] (fun vi wr => ∃ (k : Nat) (s : JA) (v : Value), k ≤ 4 ∧ vi = .int .i64 k ∧ LInv w wr g p ⟨0, ⟨#[116]⟩, ⟨#[120]⟩, ⟨#[]⟩, 0, false, a, b, c, d, es⟩ s v ∧ aliveA k s) (fun vi _ => 4 - (intOf vi).toNat)
  case atStart => exact ⟨0, _, _, by omega, rfl, HL2.out.1, ⟨rfl, rfl, rfl, rfl, rfl, rfl⟩⟩
  case round =>
    obtain ⟨k, s, v, hk, rfl, hL, ha⟩ := hrel
    by_cases hlt : k < 4
    · have hok := alive_ok ⟨0, ⟨#[116]⟩, ⟨#[120]⟩, ⟨#[]⟩, 0, false, a, b, c, d, es⟩ (by simp [ByteArray.size]) (by simp [ByteArray.size]) k hk s ha
      have HS := Lib.hid (And.intro hL (And.intro ha hok))
      clear hL ha hok
      go_wp2_with fail
      refine (step_any wr g p _ s v HS.out.1.jw HS.out.2.2).mono ?_
      rintro e w3 h3
      have hst := alive_step ⟨#[116]⟩ ⟨#[120]⟩ k hlt s HS.out.2.1
      obtain ⟨rfl, h4⟩ := alive_ret hlt h3 hst
      obtain ⟨v', hL'⟩ := HS.out.1.step HL2.out.2.1 HL2.out.2.2 h4
      have HN := Lib.hid (And.intro hL' hst)
      clear h3 h4 hst hL' HS
      cases hb : ((k : Int) == 3) with
      | true =>
        go_wp2_with fail
        go_roundw
        case rel => exact ⟨k + 1, _, _, by omega, by go_num, HN.out.1, HN.out.2⟩
        case measure => simp [intOf]; omega
      | false =>
        go_wp2_with fail
        go_roundw
        case rel => exact ⟨k + 1, _, _, by omega, by go_num, HN.out.1, HN.out.2⟩
        case measure => simp [intOf]; omega
    · have hke : k = 4 := by omega
      subst hke
      obtain ⟨h6, _, _, _, hx9, _⟩ := ha
      obtain ⟨⟨⟨va2, hj2⟩, ⟨vt2, ht2⟩⟩, hf2, _⟩ := hL
      obtain ⟨A, c9, hv, _⟩ := (Row.of_own ht2.own).slice
      subst hv
      rw [h6] at hj2
      go_wp2_with fail
      refine (phase_any _ g _ 6 va2 _ _ _ hj2).mono ?_
      rintro e w3 ⟨rfl, hw3⟩
      have hb3 := ht2.blk
      rw [hx9, hw3] at hb3
      have c1 := blk_cell hb3 1
      simp only [List.getElem?_toArray, List.getElem?_cons_succ, List.getElem?_cons_zero] at c1
      have HF : Hid (AliveDone w w3) := hw3 ▸ hf2
      clear hj2 ht2 hf2 hb3 hw3 hlt hk h6 hx9
      go_wp2_with fail
      go_ret
      exact ⟨rfl, HF.out⟩
end Go.Proofs.Ytplpdeanepdokaa
