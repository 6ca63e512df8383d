/- Merged texts: JX, JY, JG, JE, JF, JR, JQ. -/
import Derived.Test.YtplpdeanepdokaaJV
import Derived.Test.YtplpdeanepdokaaJU
import Derived.Laws.BitsLemmas
import Derived.Test.YtplpdeanepdokaaPJobStepsx6
import Derived.ProofKit
import Derived.Deep.Slices
import Derived.KernelRfl
/- A new job. -/
namespace Go.Proofs.Ytplpdeanepdokaa
open Go.RowKit H Go.Proofs.Ytplpdeanepdokaa.PJobSteps
open Go.Proofs.YtplpdeanepdokaaW.PrintWords (Kd)

/-- A statement's slices are the call's own. -/
structure SxOwn (w : World) (base : Nat) (x : Sx) (D : Sd) : Prop where
  a : w.ownsRow base 60 3 x.a D.a.length (D.a.flatMap rc)
  b : w.ownsRow base 62 4 x.b D.b.length (D.b.flatMap setc)
  c : w.ownsRow base 64 5 x.c D.c.length (D.c.flatMap condc)
  d : w.ownsRow base 66 3 x.d D.d.length (D.d.flatMap colc)
  e : w.ownsRow base 9 1 x.e D.e.length (D.e.flatMap strc)

/-- A job was made. -/
def MadePost (w : World) (k : Int) (tab name dest : ByteArray) (n : Int) (fl : Bool) (D : Sd) (phase : Int) (rows : List S60) (tries : Int) (e : Ending) (wx : World) : Prop :=
  ∃ g a b c d es va, e = .returned (.pointer (some ⟨g, 0, none⟩)) ∧ w.heap.size ≤ g ∧ SxOwn wx w.heap.size ⟨k, tab, name, dest, n, fl, a, b, c, d, es⟩ D ∧ JobR wx g ⟨k, tab, name, dest, n, fl, a, b, c, d, es⟩ phase va rows tries 0 ∧ Fr (fun _ => False) w wx

def max1 (t : Int) : Int := if t < 1 then 1 else t
theorem new_any (w : World) (k : Int) (tab name dest : ByteArray) (n : Int) (fl : Bool) (Aa Ab Ac Ad Ae : Option Addr) (ca cb cc cd ce : Nat) (D : Sd) (tries : Int)
    (h : SxRd w ⟨k, tab, name, dest, n, fl, .slice Aa D.a.length ca, .slice Ab D.b.length cb, .slice Ac D.c.length cc, .slice Ad D.d.length cd, .slice Ae D.e.length ce⟩ D) (hf : D.Few) :
    Calls Try.prog 9 #[.agg #[.int .i64 k, .string tab, .string name, .string dest, .int .i64 n, .bool fl, .slice Aa D.a.length ca, .slice Ab D.b.length cb, .slice Ac D.c.length cc, .slice Ad D.d.length cd, .slice Ae D.e.length ce], .int .i64 tries] w
      (MadePost w k tab name dest n fl D 1 [] (max1 tries)) := by
  have h1 := h.fr ((Fr.refl (fun _ => False) w).alloc (.cells #[.int .i64 k, .string tab, .string name, .string dest, .int .i64 n, .bool fl, .slice Aa D.a.length ca, .slice Ab D.b.length cb, .slice Ac D.c.length cc, .slice Ad D.d.length cd, .slice Ae D.e.length ce] 28)) (fun _ _ => id)
  have H1 := Lib.hid h1
  clear h h1
  by_cases ht : tries < 1
  all_goals
    go_enter Try.func9, Try.ntmps9
    go_wp2_with fail
    refine (cloned_any _ k tab name dest n fl Aa Ab Ac Ad Ae ca cb cc cd ce D H1.out hf).mono ?_
    rintro e w1 ⟨A1, c1, A2, c2, A3, c3, A4, c4, A5, c5, rfl, o1, o2, o3, o4, o5, f1⟩
    have hm : max1 tries = (if tries < 1 then 1 else tries) := rfl
    have HP : Hid (∀ (T : Int) (w2 : World), T = max1 tries → w2 = w1.alloc (.cells #[.int .i64 k, .string tab, .string name, .string dest, .int .i64 n, .bool fl, .slice A1 D.a.length c1, .slice A2 D.b.length c2, .slice A3 D.c.length c3, .slice A4 D.d.length c4, .slice A5 D.e.length c5, .int .i64 1, .slice none 0 0, .int .i64 T, .int .i64 0] 68) →
        MadePost w k tab name dest n fl D 1 [] (max1 tries) (.returned (.pointer (some ⟨w1.heap.size, 0, none⟩))) w2) := by
      rintro T w2 rfl rfl
      have hle : w.heap.size ≤ (w.alloc (.cells #[.int .i64 k, .string tab, .string name, .string dest, .int .i64 n, .bool fl, .slice Aa D.a.length ca, .slice Ab D.b.length cb, .slice Ac D.c.length cc, .slice Ad D.d.length cd, .slice Ae D.e.length ce] 28)).heap.size := by simp
      refine ⟨w1.heap.size, _, _, _, _, _, _, rfl, Nat.le_trans hle f1.size, ⟨(own_weaken o1 hle).alloc _, (own_weaken o2 hle).alloc _, (own_weaken o3 hle).alloc _, (own_weaken o4 hle).alloc _, (own_weaken o5 hle).alloc _⟩, ⟨blk_new w1 _, Row.nil _ _, by simp, by simp⟩, ?_⟩
      exact ((((Fr.refl (fun _ => False) w).alloc _).trans f1 (fun _ _ h => h))).alloc _
    first
      | rw [if_pos ht] at hm
      | rw [if_neg (by omega)] at hm
    have HM := Lib.hid hm
    clear o1 o2 o3 o4 o5 f1 hm H1
    go_wp2_with fail
    go_ret
    exact HP.out _ _ HM.out.symm rfl

/-- The job that is made for another one's rows. -/
theorem resume_any (w : World) (k : Int) (tab name dest : ByteArray) (n : Int) (fl : Bool) (Aa Ab Ac Ad Ae Ar : Option Addr) (ca cb cc cd ce cr : Nat) (D : Sd) (rows : List S60) (tries : Int)
    (h : SxRd w ⟨k, tab, name, dest, n, fl, .slice Aa D.a.length ca, .slice Ab D.b.length cb, .slice Ac D.c.length cc, .slice Ad D.d.length cd, .slice Ae D.e.length ce⟩ D) (hf : D.Few)
    (hr : Rd w (.slice Ar rows.length cr) rows.length (rowC rows)) (hrl : rows.length ≤ 100) (hri : ∀ r ∈ rows, -9223372036854775808 ≤ r.f1 ∧ r.f1 ≤ 9223372036854775807) :
    Calls Try.prog 16 #[.agg #[.int .i64 k, .string tab, .string name, .string dest, .int .i64 n, .bool fl, .slice Aa D.a.length ca, .slice Ab D.b.length cb, .slice Ac D.c.length cc, .slice Ad D.d.length cd, .slice Ae D.e.length ce], .slice Ar rows.length cr, .int .i64 tries] w
      (MadePost w k tab name dest n fl D 3 rows (max1 tries)) := by
  have hf0 : Fr (fun _ => False) w (w.alloc (.cells #[.int .i64 k, .string tab, .string name, .string dest, .int .i64 n, .bool fl, .slice Aa D.a.length ca, .slice Ab D.b.length cb, .slice Ac D.c.length cc, .slice Ad D.d.length cd, .slice Ae D.e.length ce] 28)) := (Fr.refl _ w).alloc _
  have H1 := Lib.hid (And.intro (h.fr hf0 (fun _ _ => id)) (hr.fr hf0 (fun _ _ => id)))
  have HI := Lib.hid hri
  clear h hf0 hr hri
  by_cases ht : tries < 1
  all_goals
    go_enter Try.func16, Try.ntmps16
    go_wp2_with fail
    refine (cloned_any _ k tab name dest n fl Aa Ab Ac Ad Ae ca cb cc cd ce D H1.out.1 hf).mono ?_
    rintro e w1 ⟨A1, c1, A2, c2, A3, c3, A4, c4, A5, c5, rfl, o1, o2, o3, o4, o5, f1⟩
    have HO := Lib.hid (And.intro o1 (And.intro o2 (And.intro o3 (And.intro o4 (And.intro o5 f1)))))
    have HR := Lib.hid (H1.out.2.fr f1 (fun _ _ => id))
    clear o1 o2 o3 o4 o5 f1
    go_wp2_with fail
    refine ((clone34 w1 Ar rows.length cr (rowC rows) HR.out (rowC_length rows) (rowC_one rows) (by omega)).mono fun _ _ h => clone_ok h).mono ?_
    rintro e w2 ⟨A6, c6, rfl, o6, f2⟩
    have hm : max1 tries = (if tries < 1 then 1 else tries) := rfl
    have HP : Hid (∀ (T : Int) (w3 : World), T = max1 tries → w3 = w2.alloc (.cells #[.int .i64 k, .string tab, .string name, .string dest, .int .i64 n, .bool fl, .slice A1 D.a.length c1, .slice A2 D.b.length c2, .slice A3 D.c.length c3, .slice A4 D.d.length c4, .slice A5 D.e.length c5, .int .i64 3, .slice A6 rows.length c6, .int .i64 T, .int .i64 0] 68) →
        MadePost w k tab name dest n fl D 3 rows (max1 tries) (.returned (.pointer (some ⟨w2.heap.size, 0, none⟩))) w3) := by
      rintro T w3 rfl rfl
      obtain ⟨o1, o2, o3, o4, o5, f1⟩ := HO.out
      have hle : w.heap.size ≤ (w.alloc (.cells #[.int .i64 k, .string tab, .string name, .string dest, .int .i64 n, .bool fl, .slice Aa D.a.length ca, .slice Ab D.b.length cb, .slice Ac D.c.length cc, .slice Ad D.d.length cd, .slice Ae D.e.length ce] 28)).heap.size := by simp
      have f3 := ((Fr.refl (fun _ => False) w2).alloc (.cells #[.int .i64 k, .string tab, .string name, .string dest, .int .i64 n, .bool fl, .slice A1 D.a.length c1, .slice A2 D.b.length c2, .slice A3 D.c.length c3, .slice A4 D.d.length c4, .slice A5 D.e.length c5, .int .i64 3, .slice A6 rows.length c6, .int .i64 (max1 tries), .int .i64 0] 68))
      refine ⟨w2.heap.size, _, _, _, _, _, _, rfl, Nat.le_trans hle (Nat.le_trans f1.size f2.size), ⟨(own_weaken (f2.own o1 (fun _ _ => id)) hle).alloc _, (own_weaken (f2.own o2 (fun _ _ => id)) hle).alloc _, (own_weaken (f2.own o3 (fun _ _ => id)) hle).alloc _, (own_weaken (f2.own o4 (fun _ _ => id)) hle).alloc _, (own_weaken (f2.own o5 (fun _ _ => id)) hle).alloc _⟩, ⟨blk_new w2 _, (Row.of_own o6).fr f3 (fun _ _ _ _ => id), hrl, HI.out⟩, ?_⟩
      exact ((((Fr.refl (fun _ => False) w).alloc _).trans f1 (fun _ _ h => h)).trans f2 (fun _ _ h => h)).alloc _
    first
      | rw [if_pos ht] at hm
      | rw [if_neg (by omega)] at hm
    have HM := Lib.hid hm
    clear HO HR o6 f2 hm H1
    go_wp2_with fail
    go_ret
    exact HP.out _ _ HM.out.symm rfl

/-- The rows that the job stands at. -/
theorem after_any (w : World) (g : Nat) (x : Sx) (phase : Int) (va : Value) (rows : List S60) (tries err : Int) (hJ : JobR w g x phase va rows tries err) :
    Calls Try.prog 19 #[.pointer (some ⟨g, 0, none⟩)] w (CloneRow w rows) := by
  obtain ⟨A, c, rfl, hc⟩ := hJ.after.slice
  have c12 := blk_cell hJ.blk 12
  simp only [List.getElem?_toArray, List.getElem?_cons_succ, List.getElem?_cons_zero] at c12
  have HJ := Lib.hid (And.intro hJ.after hJ.few)
  clear hJ
  go_enter Try.func19, Try.ntmps19
  go_wp2_with fail
  refine (clone_row w A c rows HJ.out.1 (by have := HJ.out.2; omega)).mono ?_
  rintro e w1 ⟨A1, c1, rfl, hc1, hr1, f1⟩
  have HF : Hid (CloneRow w rows (.returned (.slice A1 rows.length c1)) w1) := ⟨A1, c1, rfl, hc1, hr1, f1⟩
  clear hr1 f1
  go_wp2_with fail
  go_ret
  exact HF.out
end Go.Proofs.Ytplpdeanepdokaa

/- Two rows of steps: of 'alive', and of a world that gives all. -/
namespace Go.Proofs.Ytplpdeanepdokaa
open Go.RowKit H Go.Proofs.Ytplpdeanepdokaa.PJobSteps

theorem low_bit (n : Int) (h0 : 0 ≤ n) (h1 : n < 2 ^ 62) : bits BinOp.and IntKind.i64 n 1 = n % 2 := by
  have := bits_mask .i64 62 (by decide) (fun n a b => by rw [IntKind.wrap_i64]; omega) 1 (by decide) n h0 h1
  simpa using this
theorem b1_of (n : Int) (h0 : 0 ≤ n) (h1 : n < 2 ^ 62) : b1 n = decide (n % 2 = 1) := by
  rw [b1, low_bit n h0 h1]
  rfl
theorem b0_of (n : Int) (h0 : 0 ≤ n) (h1 : n < 2 ^ 62) : b0 n = decide (n % 2 = 0) := by
  rw [b0, low_bit n h0 h1]
  rfl
theorem b1_one : b1 1 = true := by rw [b1_of 1 (by decide) (by decide)]; rfl
theorem b1_zero : b1 0 = false := by rw [b1_of 0 (by decide) (by decide)]; rfl
theorem b0_zero : b0 0 = true := by rw [b0_of 0 (by decide) (by decide)]; rfl
theorem b3_zero : b3 0 = false := by decide +kernel
theorem errB_zero : errB 0 = 0 := by rw [errB, b3_zero]; rfl

/-- The row of 'alive'. -/
def aliveA : Nat → JA → Prop
  | 0, s => s.phase = 1 ∧ s.tries = 3 ∧ s.err = 0 ∧ s.ans = [1, 0, 0, 1, 0, 1, 0] ∧ s.xs.length = 0 ∧ s.held = 0
  | 1, s => s.phase = 2 ∧ s.tries = 3 ∧ s.err = 0 ∧ s.ans = [0, 1, 0, 1, 0] ∧ s.xs.length = 3 ∧ s.held = 0
  | 2, s => s.phase = 3 ∧ s.tries = 3 ∧ s.err = 0 ∧ s.ans = [1, 0, 1, 0] ∧ s.xs.length = 4 ∧ s.held = 0
  | 3, s => s.phase = 4 ∧ s.tries = 3 ∧ s.err = 0 ∧ s.ans = [1, 0] ∧ s.xs.length = 6 ∧ s.held = 0
  | _, s => s.phase = 6 ∧ s.tries = 3 ∧ s.err = 0 ∧ s.ans = [] ∧ s.xs.length = 9 ∧ s.held = 0
theorem alive_step (tab name : ByteArray) (i : Nat) (hi : i < 4) (s : JA) (h : aliveA i s) : aliveA (i + 1) (stepA tab name s) := by
  obtain ⟨phase, rows, tries, err, ans, xs, held⟩ := s
  have : i = 0 ∨ i = 1 ∨ i = 2 ∨ i = 3 := by omega
  rcases this with rfl | rfl | rfl | rfl <;>
    · simp only [aliveA] at h
      obtain ⟨rfl, rfl, rfl, rfl, hx, rfl⟩ := h
      simp [stepA, stepOne, stepTwo, stepThree, stepFour, hdA, b1_one, b1_zero, b0_zero, b3_zero, errB_zero, aliveA, hx]
theorem alive_ok (x : Sx) (hx : x.name.size ≤ 1000) (ht : x.tab.size ≤ 1000) (i : Nat) (hi : i ≤ 4) (s : JA) (h : aliveA i s) : StepOk x s := by
  obtain ⟨phase, rows, tries, err, ans, xs, held⟩ := s
  have : i = 0 ∨ i = 1 ∨ i = 2 ∨ i = 3 ∨ i = 4 := by omega
  rcases this with rfl | rfl | rfl | rfl | rfl <;>
    · simp only [aliveA] at h
      obtain ⟨rfl, rfl, rfl, rfl, hl, rfl⟩ := h
      exact ⟨by simp, by simp, by simp; omega, by simp, by simp, hx, ht, by simp, by simp, by simp, by simp⟩
theorem alive_phase (i : Nat) (s : JA) (h : aliveA i s) : (s.phase < 5 ↔ i < 4) ∧ s.err = 0 := by
  match i, h with
  | 0, h => exact ⟨by rw [h.1]; simp, h.2.2.1⟩
  | 1, h => exact ⟨by rw [h.1]; simp, h.2.2.1⟩
  | 2, h => exact ⟨by rw [h.1]; simp, h.2.2.1⟩
  | 3, h => exact ⟨by rw [h.1]; simp, h.2.2.1⟩
  | i + 4, h => exact ⟨by rw [h.1]; simp, h.2.2.1⟩

/-- What a world answers that has so many batches, from one on. -/
def batA (n : Nat) : Nat → List Int
  | 0 => [1, 0, 1, 0]
  | d + 1 => 1 :: (1 + 2 * ((n - (d + 1) : Nat) : Int)) :: batA n d
/-- The row of a world that gives all: so many steps from the end. -/
def endsA (n : Nat) : Nat → JA → Prop
  | 0, s => s.phase = 1 ∧ s.tries = 1 ∧ s.ans = 1 :: 0 :: 0 :: batA n n ∧ s.xs.length = 0 ∧ s.held = 0
  | 1, s => s.phase = 2 ∧ s.tries = 1 ∧ s.ans = 0 :: batA n n ∧ s.xs.length = 3 ∧ s.held = 0
  | i + 2, s => if i ≤ n then s.phase = 3 ∧ s.tries = 1 ∧ s.ans = batA n (n - i) ∧ s.xs.length = 4 + 2 * i ∧ s.held = 0
      else if i = n + 1 then s.phase = 4 ∧ s.tries = 1 ∧ s.ans = [1, 0] ∧ s.xs.length = 4 + 2 * i ∧ s.held = 0
      else s.phase = 6 ∧ s.tries = 1 ∧ s.err = 0 ∧ s.held = 0
theorem ends_step (tab name : ByteArray) (n : Nat) (hn : n ≤ 1000) (i : Nat) (hi : i ≤ n + 3) (s : JA) (h : endsA n i s) : endsA n (i + 1) (stepA tab name s) := by
  obtain ⟨phase, rows, tries, err, ans, xs, held⟩ := s
  match i, h with
  | 0, h =>
    simp only [endsA] at h
    obtain ⟨rfl, rfl, rfl, hx, rfl⟩ := h
    simp [stepA, stepOne, hdA, b1_one, b3_zero, endsA, hx]
  | 1, h =>
    simp only [endsA] at h
    obtain ⟨rfl, rfl, rfl, hx, rfl⟩ := h
    simp [stepA, stepTwo, hdA, b1_zero, endsA, hx]
  | i + 2, h =>
    simp only [endsA] at h
    by_cases h1 : i ≤ n
    · rw [if_pos h1] at h
      obtain ⟨rfl, rfl, rfl, hx, rfl⟩ := h
      cases hd : n - i with
      | zero =>
        have : i = n := by omega
        subst this
        simp [stepA, stepThree, hdA, batA, b1_one, b0_zero, endsA, hx]
        omega
      | succ d =>
        have hb : b0 (1 + 2 * ((n - (d + 1) : Nat) : Int)) = false := by
          rw [b0_of _ (by omega) (by omega)]
          exact decide_eq_false (by omega)
        have h2 : i + 1 ≤ n := by omega
        have h3 : n - (i + 1) = d := by omega
        simp only [stepA, stepThree, hdA, batA, List.tail_cons, b1_one, hb, endsA, if_pos h2, h3]
        simp [hx]
        omega
    · rw [if_neg h1] at h
      have h2 : i = n + 1 := by omega
      subst h2
      rw [if_pos rfl] at h
      obtain ⟨rfl, rfl, rfl, hx, rfl⟩ := h
      simp [stepA, stepFour, hdA, b1_one, b3_zero, errB_zero, endsA]
theorem batA_length (n : Nat) : ∀ d, (batA n d).length = 4 + 2 * d
  | 0 => rfl
  | d + 1 => by simp [batA, batA_length n d]; omega
theorem batA_ints (n : Nat) (hn : n ≤ 1000) : ∀ d, ∀ a ∈ batA n d, -9223372036854775808 ≤ a ∧ a ≤ 9223372036854775807
  | 0 => by simp [batA]
  | d + 1 => by
    intro a ha
    simp only [batA, List.mem_cons] at ha
    rcases ha with rfl | rfl | ha
    · omega
    · omega
    · exact batA_ints n hn d a ha
theorem ends_ok (x : Sx) (hx : x.name.size ≤ 1000) (ht : x.tab.size ≤ 1000) (n : Nat) (hn : n ≤ 1000) (i : Nat) (hi : i ≤ n + 3) (s : JA) (h : endsA n i s) : StepOk x s := by
  obtain ⟨phase, rows, tries, err, ans, xs, held⟩ := s
  match i, h with
  | 0, h =>
    simp only [endsA] at h
    obtain ⟨rfl, rfl, rfl, hl, rfl⟩ := h
    refine ⟨by simp, by simp, by simp; omega, by simp [batA_length]; omega, ?_, hx, ht, by simp, by simp, by simp, by simp⟩
    intro a ha
    simp only [List.mem_cons] at ha
    rcases ha with rfl | rfl | rfl | ha
    · omega
    · omega
    · omega
    · exact batA_ints n hn n a ha
  | 1, h =>
    simp only [endsA] at h
    obtain ⟨rfl, rfl, rfl, hl, rfl⟩ := h
    refine ⟨by simp, by simp, by simp; omega, by simp [batA_length]; omega, ?_, hx, ht, by simp, by simp, by simp, by simp⟩
    intro a ha
    simp only [List.mem_cons] at ha
    rcases ha with rfl | ha
    · omega
    · exact batA_ints n hn n a ha
  | i + 2, h =>
    simp only [endsA] at h
    by_cases h1 : i ≤ n
    · rw [if_pos h1] at h
      obtain ⟨rfl, rfl, rfl, hl, rfl⟩ := h
      exact ⟨by simp, by simp, by simp; omega, by simp [batA_length]; omega, batA_ints n hn _, hx, ht, by simp, by simp, by simp, by simp⟩
    · rw [if_neg h1, if_pos (by omega)] at h
      obtain ⟨rfl, rfl, rfl, hl, rfl⟩ := h
      exact ⟨by simp, by simp, by simp; omega, by simp, by simp, hx, ht, by simp, by simp, by simp, by simp⟩
theorem ends_phase (n i : Nat) (hi : i ≤ n + 4) (s : JA) (h : endsA n i s) : (s.phase < 5 ↔ i ≤ n + 3) ∧ (i = n + 4 → s.err = 0 ∧ s.held = 0) := by
  match i, h with
  | 0, h => exact ⟨by rw [h.1]; simp, fun e => by omega⟩
  | 1, h => exact ⟨by rw [h.1]; simp, fun e => by omega⟩
  | i + 2, h =>
    simp only [endsA] at h
    by_cases h1 : i ≤ n
    · rw [if_pos h1] at h
      exact ⟨by rw [h.1]; simp; omega, fun e => by omega⟩
    · rw [if_neg h1] at h
      by_cases h2 : i = n + 1
      · rw [if_pos h2] at h
        exact ⟨by rw [h.1]; simp; omega, fun e => by omega⟩
      · rw [if_neg h2] at h
        exact ⟨by rw [h.1]; simp; omega, fun _ => ⟨h.2.2.1, h.2.2.2⟩⟩
end Go.Proofs.Ytplpdeanepdokaa

/- GreatStmt ends; what it lets through is small. -/
namespace Go.Proofs.Ytplpdeanepdokaa
open Go.RowKit Go.Proofs.Ytplpdeanepdokaa.PJobSteps

section
variable (a0 : Int) (a1 a2 a3 : ByteArray) (a4 : Int) (a5 : Bool) (l6 : List S60) (l7 : List S62) (l8 : List S64) (l9 : List S66) (l10 : List ByteArray)

theorem great_l4 (h10 : l10.length ≤ 1000) (d : Nat) : ∀ (i k : Nat), l10.length = i + d → d < k → ∃ r, interlocklaw15_GreatStmt.l4 k (i : Int) a0 a1 a2 a3 a4 a5 l6 l7 l8 l9 l10 = some r := by
  induction d with
  | zero =>
    intro i k hi hk
    obtain ⟨k, rfl⟩ : ∃ m, k = m + 1 := ⟨k - 1, by omega⟩
    simp only [interlocklaw15_GreatStmt.l4]
    rw [if_neg (by omega)]
    exact ⟨_, rfl⟩
  | succ d ih =>
    intro i k hi hk
    obtain ⟨k, rfl⟩ : ∃ m, k = m + 1 := ⟨k - 1, by omega⟩
    simp only [interlocklaw15_GreatStmt.l4]
    rw [if_pos (by omega), if_pos (by omega)]
    split
    · exact ⟨_, rfl⟩
    · rw [show wrap64 ((i : Int) + 1) = ((i + 1 : Nat) : Int) from by unfold wrap64; omega]
      exact ih (i + 1) k (by omega) (by omega)
theorem great_l3 (h9 : l9.length ≤ 1000) (h10 : l10.length ≤ 1000) (d : Nat) : ∀ (i k : Nat), l9.length = i + d → d + 2000 < k → ∃ r, interlocklaw15_GreatStmt.l3 k (i : Int) a0 a1 a2 a3 a4 a5 l6 l7 l8 l9 l10 = some r := by
  induction d with
  | zero =>
    intro i k hi hk
    obtain ⟨k, rfl⟩ : ∃ m, k = m + 1 := ⟨k - 1, by omega⟩
    simp only [interlocklaw15_GreatStmt.l3]
    rw [if_neg (by omega)]
    exact great_l4 a0 a1 a2 a3 a4 a5 l6 l7 l8 l9 l10 h10 l10.length 0 k (by omega) (by omega)
  | succ d ih =>
    intro i k hi hk
    obtain ⟨k, rfl⟩ : ∃ m, k = m + 1 := ⟨k - 1, by omega⟩
    simp only [interlocklaw15_GreatStmt.l3]
    rw [if_pos (by omega), if_pos (by omega)]
    split
    · exact ⟨_, rfl⟩
    · rw [show wrap64 ((i : Int) + 1) = ((i + 1 : Nat) : Int) from by unfold wrap64; omega]
      exact ih (i + 1) k (by omega) (by omega)
theorem great_l2 (h8 : l8.length ≤ 1000) (h9 : l9.length ≤ 1000) (h10 : l10.length ≤ 1000) (d : Nat) : ∀ (i k : Nat), l8.length = i + d → d + 4000 < k → ∃ r, interlocklaw15_GreatStmt.l2 k (i : Int) a0 a1 a2 a3 a4 a5 l6 l7 l8 l9 l10 = some r := by
  induction d with
  | zero =>
    intro i k hi hk
    obtain ⟨k, rfl⟩ : ∃ m, k = m + 1 := ⟨k - 1, by omega⟩
    simp only [interlocklaw15_GreatStmt.l2]
    rw [if_neg (by omega)]
    exact great_l3 a0 a1 a2 a3 a4 a5 l6 l7 l8 l9 l10 h9 h10 l9.length 0 k (by omega) (by omega)
  | succ d ih =>
    intro i k hi hk
    obtain ⟨k, rfl⟩ : ∃ m, k = m + 1 := ⟨k - 1, by omega⟩
    simp only [interlocklaw15_GreatStmt.l2]
    rw [if_pos (by omega), if_pos (by omega)]
    split
    · exact ⟨_, rfl⟩
    · split
      · exact ⟨_, rfl⟩
      · rw [show wrap64 ((i : Int) + 1) = ((i + 1 : Nat) : Int) from by unfold wrap64; omega]
        exact ih (i + 1) k (by omega) (by omega)
theorem great_l1 (h7 : l7.length ≤ 1000) (h8 : l8.length ≤ 1000) (h9 : l9.length ≤ 1000) (h10 : l10.length ≤ 1000) (d : Nat) : ∀ (i k : Nat), l7.length = i + d → d + 6000 < k → ∃ r, interlocklaw15_GreatStmt.l1 k (i : Int) a0 a1 a2 a3 a4 a5 l6 l7 l8 l9 l10 = some r := by
  induction d with
  | zero =>
    intro i k hi hk
    obtain ⟨k, rfl⟩ : ∃ m, k = m + 1 := ⟨k - 1, by omega⟩
    simp only [interlocklaw15_GreatStmt.l1]
    rw [if_neg (by omega)]
    exact great_l2 a0 a1 a2 a3 a4 a5 l6 l7 l8 l9 l10 h8 h9 h10 l8.length 0 k (by omega) (by omega)
  | succ d ih =>
    intro i k hi hk
    obtain ⟨k, rfl⟩ : ∃ m, k = m + 1 := ⟨k - 1, by omega⟩
    simp only [interlocklaw15_GreatStmt.l1]
    rw [if_pos (by omega), if_pos (by omega)]
    split
    · exact ⟨_, rfl⟩
    · split
      · exact ⟨_, rfl⟩
      · rw [show wrap64 ((i : Int) + 1) = ((i + 1 : Nat) : Int) from by unfold wrap64; omega]
        exact ih (i + 1) k (by omega) (by omega)
theorem great_l0 (h6 : l6.length ≤ 1000) (h7 : l7.length ≤ 1000) (h8 : l8.length ≤ 1000) (h9 : l9.length ≤ 1000) (h10 : l10.length ≤ 1000) (d : Nat) : ∀ (i k : Nat), l6.length = i + d → d + 8000 < k → ∃ r, interlocklaw15_GreatStmt.l0 k (i : Int) a0 a1 a2 a3 a4 a5 l6 l7 l8 l9 l10 = some r := by
  induction d with
  | zero =>
    intro i k hi hk
    obtain ⟨k, rfl⟩ : ∃ m, k = m + 1 := ⟨k - 1, by omega⟩
    simp only [interlocklaw15_GreatStmt.l0]
    rw [if_neg (by omega)]
    exact great_l1 a0 a1 a2 a3 a4 a5 l6 l7 l8 l9 l10 h7 h8 h9 h10 l7.length 0 k (by omega) (by omega)
  | succ d ih =>
    intro i k hi hk
    obtain ⟨k, rfl⟩ : ∃ m, k = m + 1 := ⟨k - 1, by omega⟩
    simp only [interlocklaw15_GreatStmt.l0]
    rw [if_pos (by omega), if_pos (by omega)]
    split
    · exact ⟨_, rfl⟩
    · rw [show wrap64 ((i : Int) + 1) = ((i + 1 : Nat) : Int) from by unfold wrap64; omega]
      exact ih (i + 1) k (by omega) (by omega)

/-- What GreatStmt lets through. -/
structure SmallS : Prop where
  l6 : l6.length ≤ 20
  l7 : l7.length ≤ 20
  l8 : l8.length ≤ 20
  l9 : l9.length ≤ 20
  l10 : l10.length ≤ 20
  a1 : a1.size ≤ 50
  a2 : a2.size ≤ 50
  a3 : a3.size ≤ 50

theorem great_some : ∃ k r, interlocklaw15_GreatStmt.f k a0 a1 a2 a3 a4 a5 l6 l7 l8 l9 l10 = some r ∧ (r = false → SmallS a1 a2 a3 l6 l7 l8 l9 l10) := by
  have hj : interlocklaw15_GreatStmt.j0 1 true a0 a1 a2 a3 a4 a5 l6 l7 l8 l9 l10 = some true := by simp only [interlocklaw15_GreatStmt.j0]; rfl
  by_cases h6 : (l6.length : Int) > 20
  · exact ⟨1, true, by unfold interlocklaw15_GreatStmt.f; rw [if_pos h6]; exact hj, fun h => by cases h⟩
  by_cases h7 : (l7.length : Int) > 20
  · exact ⟨1, true, by unfold interlocklaw15_GreatStmt.f; rw [if_neg h6, if_pos h7]; exact hj, fun h => by cases h⟩
  by_cases h8 : (l8.length : Int) > 20
  · exact ⟨1, true, by unfold interlocklaw15_GreatStmt.f; rw [if_neg h6, if_neg h7, if_pos h8]; exact hj, fun h => by cases h⟩
  by_cases h9 : (l9.length : Int) > 20
  · exact ⟨1, true, by unfold interlocklaw15_GreatStmt.f; rw [if_neg h6, if_neg h7, if_neg h8, if_pos h9]; exact hj, fun h => by cases h⟩
  by_cases h10 : (l10.length : Int) > 20
  · exact ⟨1, true, by unfold interlocklaw15_GreatStmt.f; rw [if_neg h6, if_neg h7, if_neg h8, if_neg h9, if_pos h10]; exact hj, fun h => by cases h⟩
  by_cases h1 : (a1.size : Int) > 50
  · exact ⟨1, true, by unfold interlocklaw15_GreatStmt.f; rw [if_neg h6, if_neg h7, if_neg h8, if_neg h9, if_neg h10, if_pos h1]; exact hj, fun h => by cases h⟩
  by_cases h2 : (a2.size : Int) > 50
  · exact ⟨1, true, by unfold interlocklaw15_GreatStmt.f; rw [if_neg h6, if_neg h7, if_neg h8, if_neg h9, if_neg h10, if_neg h1, if_pos h2]; exact hj, fun h => by cases h⟩
  by_cases h3 : (a3.size : Int) > 50
  · exact ⟨1, true, by unfold interlocklaw15_GreatStmt.f; rw [if_neg h6, if_neg h7, if_neg h8, if_neg h9, if_neg h10, if_neg h1, if_neg h2, decide_eq_true h3]; exact hj, fun h => by cases h⟩
  obtain ⟨r, hr⟩ := great_l0 a0 a1 a2 a3 a4 a5 l6 l7 l8 l9 l10 (by omega) (by omega) (by omega) (by omega) (by omega) l6.length 0 10000 (by omega) (by omega)
  refine ⟨10001, r, ?_, fun _ => ⟨by omega, by omega, by omega, by omega, by omega, by omega, by omega, by omega⟩⟩
  unfold interlocklaw15_GreatStmt.f
  rw [if_neg h6, if_neg h7, if_neg h8, if_neg h9, if_neg h10, if_neg h1, if_neg h2, decide_eq_false h3]
  simp only [interlocklaw15_GreatStmt.j0]
  rw [if_neg (by decide)]
  exact hr
end
end Go.Proofs.Ytplpdeanepdokaa

/- The law's 'alive' answers true. -/
namespace Go.Proofs.Ytplpdeanepdokaa
open Go.RowKit H Go.Proofs.Ytplpdeanepdokaa.PJobSteps
open Go.Proofs.YtplpdeanepdokaaW.PrintWords (Kd)

/-- A fresh world's answers. -/
theorem Told.made (w : World) (l : List Int) (n : Nat) (hn : n = l.length) (o : Obj) (ho : o = .cells (l.map (Value.int .i64)).toArray 3) :
    Told ((w.alloc o).alloc (.cells #[.slice (some ⟨w.heap.size, 0, none⟩) n n, .slice none 0 0, .int .i64 0] 36)) (w.heap.size + 1) (.slice (some ⟨w.heap.size, 0, none⟩) n n) (.slice none 0 0) l [] 0 := by
  subst hn ho
  refine ⟨?_, ⟨_, _, rfl, Nat.le_refl _, .inr ⟨w.heap.size, 0, _, _, rfl, blk_alloc (blk_new w _) _, ?_⟩⟩, World.ownsRow_nil _ _ _ _, by simp⟩
  · have := blk_new (w.alloc (.cells (l.map (Value.int .i64)).toArray 3)) (.cells #[.slice (some ⟨w.heap.size, 0, none⟩) l.length l.length, .slice none 0 0, .int .i64 0] 36)
    rw [show (w.alloc (.cells (l.map (Value.int .i64)).toArray 3)).heap.size = w.heap.size + 1 by simp] at this
    exact this
  · intro j u hu
    rw [Nat.zero_add]
    simpa using hu

/-- A job and its world, both made behind w. -/
structure LInv (w wr : World) (g p : Nat) (x : Sx) (s : JA) (v : Value) : Prop where
  jw : JWa wr g p x s v
  fr : Fr (fun _ => False) w wr
  own : ∀ k, v.ownBlock = some k → w.heap.size ≤ k
theorem LInv.step {w wr w2 : World} {g p : Nat} {x : Sx} {s s' : JA} {v : Value} (h : LInv w wr g p x s v) (hg : w.heap.size ≤ g) (hp : w.heap.size ≤ p) (h2 : JPa wr g p v x s' w2) : ∃ v', LInv w w2 g p x s' v' := by
  obtain ⟨v', hj, hf, hb⟩ := h2
  refine ⟨v', hj, h.fr.trans hf ?_, ?_⟩
  · rintro i hi (rfl | rfl | h')
    · omega
    · omega
    · have := h.own i h'; omega
  · intro k hk
    rcases hb k hk with h' | h'
    · exact h.own k h'
    · exact Nat.le_trans h.fr.size h'
theorem LInv.first {w w1 w2 : World} {g p : Nat} {x : Sx} {phase : Int} {va vt : Value} {rows : List S60} {tries : Int} {l : List Int} (hf : Fr (fun _ => False) w w1) (hj : JobR w1 g x phase va rows tries 0)
    (hf2 : Fr (fun _ => False) w1 w2) (ht : Told w2 p vt (.slice none 0 0) l [] 0) : LInv w w2 g p x ⟨phase, rows, tries, 0, l, [], 0⟩ (.slice none 0 0) :=
  ⟨⟨⟨va, ⟨hf2.blk hj.blk id, hj.after.fr hf2 (fun _ _ _ _ => id), hj.few, hj.ints⟩⟩, ⟨vt, ht⟩⟩, hf.trans hf2 (fun _ _ h => h), fun k hk => by simp [Value.ownBlock] at hk⟩

def D0 : Sd := ⟨[], [], [], [], []⟩
theorem D0_rd (w : World) (k : Int) (tab name dest : ByteArray) (n : Int) (fl : Bool) : SxRd w ⟨k, tab, name, dest, n, fl, .slice none 0 0, .slice none 0 0, .slice none 0 0, .slice none 0 0, .slice none 0 0⟩ D0 :=
  ⟨⟨_, _, rfl, Nat.le_refl _, .inl rfl⟩, ⟨_, _, rfl, Nat.le_refl _, .inl rfl⟩, ⟨_, _, rfl, Nat.le_refl _, .inl rfl⟩, ⟨_, _, rfl, Nat.le_refl _, .inl rfl⟩, ⟨_, _, rfl, Nat.le_refl _, .inl rfl⟩⟩
theorem D0_few : D0.Few := ⟨by simp [D0], by simp [D0], by simp [D0], by simp [D0], by simp [D0]⟩

theorem alive_ret {w w' : World} {g p : Nat} {v : Value} {x : Sx} {s : JA} {e : Ending} {k : Nat} (hk : k < 4) (h : StepPost w g p v x s e w') (ha : aliveA (k + 1) s) :
    e = .returned (.tuple #[.int .i64 0, .bool ((k : Int) == 3)]) ∧ JPa w g p v x s w' := by
  obtain ⟨rfl, hp⟩ := h
  refine ⟨?_, hp⟩
  obtain ⟨h1, h2⟩ := alive_phase (k + 1) s ha
  have e1 : (if s.phase < 5 then (0 : Int) else s.err) = 0 := by split <;> first | rfl | exact h2
  have e2 : decide (5 ≤ s.phase) = ((k : Int) == 3) := by
    rw [Bool.eq_iff_iff]
    simp
    omega
  rw [e1, e2]

def AliveDone (w w' : World) : Prop := Fr (fun _ => False) w w'
set_option maxHeartbeats 1000000 in
theorem alive_any (w : World) : Calls Try.prog 7 #[] w fun e w' => e = .returned (.bool true) ∧ AliveDone w w' := by
  go_enter Try.func7, Try.ntmps7
  go_wp2_with fail
  refine (new_any w 0 ⟨#[116]⟩ ⟨#[120]⟩ ⟨#[]⟩ 0 false none none none none none 0 0 0 0 0 D0 3 (D0_rd w _ _ _ _ _ _) D0_few).mono ?_
  rintro e w1 ⟨g, a, b, c, d, es, va, rfl, hg, _, hj, hf⟩
  have ht := Told.made w1 [1, 0, 0, 1, 0, 1, 0] 7 rfl _ rfl
  have hp : w.heap.size ≤ w1.heap.size + 1 := by have := hf.size; omega
  have hL := LInv.first hf hj (((Fr.refl (fun _ => False) w1).alloc _).alloc _) ht
  have HL := Lib.hid (And.intro hL (And.intro hg hp))
  clear hf hj ht hL
  go_wp2_with fail
  obtain ⟨va1, hj1⟩ := HL.out.1.jw.job
  refine (phase_any _ g _ 1 va1 [] _ _ hj1).mono ?_
  rintro e w2 ⟨rfl, hw2⟩
  have HL2 : Hid (LInv w w2 g (w1.heap.size + 1) ⟨0, ⟨#[116]⟩, ⟨#[120]⟩, ⟨#[]⟩, 0, false, a, b, c, d, es⟩ ⟨1, [], max1 3, 0, [1, 0, 0, 1, 0, 1, 0], [], 0⟩ (.slice none 0 0) ∧ w.heap.size ≤ g ∧ w.heap.size ≤ w1.heap.size + 1) := by rw [← hw2]; exact HL.out
  clear hj1 HL hw2
  generalize w1.heap.size + 1 = p at *
  go_wp2_with fail
  go_loopw [3] (fun vi wr => ∃ (k : Nat) (s : JA) (v : Value), k ≤ 4 ∧ vi = .int .i64 k ∧ LInv w wr g p ⟨0, ⟨#[116]⟩, ⟨#[120]⟩, ⟨#[]⟩, 0, false, a, b, c, d, es⟩ s v ∧ aliveA k s) (fun vi _ => 4 - (intOf vi).toNat)
  case atStart => exact ⟨0, _, _, by omega, rfl, HL2.out.1, ⟨rfl, rfl, rfl, rfl, rfl, rfl⟩⟩
  case round =>
    obtain ⟨k, s, v, hk, rfl, hL, ha⟩ := hrel
    by_cases hlt : k < 4
    · have hok := alive_ok ⟨0, ⟨#[116]⟩, ⟨#[120]⟩, ⟨#[]⟩, 0, false, a, b, c, d, es⟩ (by simp [ByteArray.size]) (by simp [ByteArray.size]) k hk s ha
      have HS := Lib.hid (And.intro hL (And.intro ha hok))
      clear hL ha hok
      go_wp2_with fail
      refine (step_any wr g p _ s v HS.out.1.jw HS.out.2.2).mono ?_
      rintro e w3 h3
      have hst := alive_step ⟨#[116]⟩ ⟨#[120]⟩ k hlt s HS.out.2.1
      obtain ⟨rfl, h4⟩ := alive_ret hlt h3 hst
      obtain ⟨v', hL'⟩ := HS.out.1.step HL2.out.2.1 HL2.out.2.2 h4
      have HN := Lib.hid (And.intro hL' hst)
      clear h3 h4 hst hL' HS
      cases hb : ((k : Int) == 3) with
      | true =>
        go_wp2_with fail
        go_roundw
        case rel => exact ⟨k + 1, _, _, by omega, by go_num, HN.out.1, HN.out.2⟩
        case measure => simp [intOf]; omega
      | false =>
        go_wp2_with fail
        go_roundw
        case rel => exact ⟨k + 1, _, _, by omega, by go_num, HN.out.1, HN.out.2⟩
        case measure => simp [intOf]; omega
    · have hke : k = 4 := by omega
      subst hke
      obtain ⟨h6, _, _, _, hx9, _⟩ := ha
      obtain ⟨⟨⟨va2, hj2⟩, ⟨vt2, ht2⟩⟩, hf2, _⟩ := hL
      obtain ⟨A, c9, hv, _⟩ := (Row.of_own ht2.own).slice
      subst hv
      rw [h6] at hj2
      go_wp2_with fail
      refine (phase_any _ g _ 6 va2 _ _ _ hj2).mono ?_
      rintro e w3 ⟨rfl, hw3⟩
      have hb3 := ht2.blk
      rw [hx9, hw3] at hb3
      have c1 := blk_cell hb3 1
      simp only [List.getElem?_toArray, List.getElem?_cons_succ, List.getElem?_cons_zero] at c1
      have HF : Hid (AliveDone w w3) := hw3 ▸ hf2
      clear hj2 ht2 hf2 hb3 hw3 hlt hk h6 hx9
      go_wp2_with fail
      go_ret
      exact ⟨rfl, HF.out⟩
end Go.Proofs.Ytplpdeanepdokaa

/- JobEnds: the walk. -/
namespace Go.Proofs.Ytplpdeanepdokaa
open Go.RowKit H Go.Proofs.Ytplpdeanepdokaa.PJobSteps
open Go.Proofs.YtplpdeanepdokaaW.PrintWords (Kd)

/-- The statement that came in. -/
structure ArgS (w : World) (A6 A7 A8 A9 A10 : Option Addr) (c6 c7 c8 c9 c10 : Nat) (D : Sd) : Prop where
  r6 : Kd.C k60 w A6 D.a.length D.a
  r7 : Kd.C k62 w A7 D.b.length D.b
  r8 : Kd.C k64 w A8 D.c.length D.c
  r9 : Kd.C k66 w A9 D.d.length D.d
  r10 : Kd.C Kd.string w A10 D.e.length D.e
  l6 : D.a.length ≤ c6
  l7 : D.b.length ≤ c7
  l8 : D.c.length ≤ c8
  l9 : D.d.length ≤ c9
  l10 : D.e.length ≤ c10
  d6 : Rd w (.slice A6 D.a.length c6) D.a.length (D.a.flatMap rc)
  d7 : Rd w (.slice A7 D.b.length c7) D.b.length (D.b.flatMap setc)
  d8 : Rd w (.slice A8 D.c.length c8) D.c.length (D.c.flatMap condc)
  d9 : Rd w (.slice A9 D.d.length c9) D.d.length (D.d.flatMap colc)
  d10 : Rd w (.slice A10 D.e.length c10) D.e.length (D.e.flatMap strc)
theorem ArgS.fr {w w' : World} {A6 A7 A8 A9 A10 : Option Addr} {c6 c7 c8 c9 c10 : Nat} {D : Sd} (h : ArgS w A6 A7 A8 A9 A10 c6 c7 c8 c9 c10 D) (hf : Fr (fun _ => False) w w') : ArgS w' A6 A7 A8 A9 A10 c6 c7 c8 c9 c10 D :=
  have hb : Below w.heap.size w w' := hf.below (Nat.le_refl _) (fun _ _ => id)
  ⟨Kd.C_below h.r6 hb, Kd.C_below h.r7 hb, Kd.C_below h.r8 hb, Kd.C_below h.r9 hb, Kd.C_below h.r10 hb, h.l6, h.l7, h.l8, h.l9, h.l10,
    h.d6.fr hf (fun _ _ => id), h.d7.fr hf (fun _ _ => id), h.d8.fr hf (fun _ _ => id), h.d9.fr hf (fun _ _ => id), h.d10.fr hf (fun _ _ => id)⟩
theorem ArgS.rd {w : World} {A6 A7 A8 A9 A10 : Option Addr} {c6 c7 c8 c9 c10 : Nat} {D : Sd} (h : ArgS w A6 A7 A8 A9 A10 c6 c7 c8 c9 c10 D) (k : Int) (tab name dest : ByteArray) (n : Int) (fl : Bool) :
    SxRd w ⟨k, tab, name, dest, n, fl, .slice A6 D.a.length c6, .slice A7 D.b.length c7, .slice A8 D.c.length c8, .slice A9 D.d.length c9, .slice A10 D.e.length c10⟩ D := ⟨h.d6, h.d7, h.d8, h.d9, h.d10⟩

def bl (k : Nat) : List Int := (List.range k).flatMap fun (j : Nat) => [1, 1 + 2 * (j : Int)]
theorem bl_succ (k : Nat) : bl (k + 1) = bl k ++ [1, 1 + 2 * (k : Int)] := by simp [bl, List.range_succ]
theorem bl_length (k : Nat) : (bl k).length = 2 * k := by
  induction k with
  | zero => rfl
  | succ k ih => rw [bl_succ, List.length_append, ih]; simp; omega
theorem batA_bl (n : Nat) : ∀ d, d ≤ n → batA n d = (List.range d).flatMap (fun (j : Nat) => [1, 1 + 2 * ((n - d + j : Nat) : Int)]) ++ [1, 0, 1, 0]
  | 0, _ => rfl
  | d + 1, h => by
    rw [batA, batA_bl n d (by omega), List.range_succ_eq_map, List.flatMap_cons, List.flatMap_map]
    have : (fun (a : Nat) => [(1 : Int), 1 + 2 * ((n - d + a : Nat) : Int)]) = fun a => [1, 1 + 2 * ((n - (d + 1) + a.succ : Nat) : Int)] := by
      funext a
      rw [show n - (d + 1) + a.succ = n - d + a by omega]
    rw [this]
    simp
theorem ends_first (n : Nat) : [1, 0, 0] ++ bl n ++ [1, 0, 1, 0] = 1 :: 0 :: 0 :: batA n n := by
  rw [batA_bl n n (Nat.le_refl _)]
  simp [bl]
theorem info3' : (Try.prog.info? 3).map (fun i => (i.zero, i.size, i.bytes)) = some (some (.int .i64 0), 1, 8) := by kernel_rfl
/-- A literal's own row. -/
theorem own_lit (w : World) (e : TypeId) (l : List Value) (n : Nat) (hn : n = l.length) (hm : l.length ≤ 1000000) (o : Obj) (ho : o = .cells l.toArray e) :
    (w.alloc o).ownsRow w.heap.size e 1 (.slice (some ⟨w.heap.size, 0, none⟩) n n) n l := by
  subst hn ho
  exact ⟨by simp, .inr ⟨w.heap.size, l.length, l.toArray, rfl, Nat.le_refl _, blk_new w _, Nat.le_refl _, by unfold maxLen; omega, by simp, by simp⟩⟩
theorem ends_ret {w w' : World} {g p : Nat} {v : Value} {x : Sx} {s : JA} {e : Ending} {n k : Nat} (hk : k ≤ n + 3) (h : StepPost w g p v x s e w') (ha : endsA n (k + 1) s) :
    e = .returned (.tuple #[.int .i64 0, .bool (decide (k = n + 3))]) ∧ JPa w g p v x s w' ∧ (k = n + 3 → s.held = 0) := by
  obtain ⟨rfl, hp⟩ := h
  obtain ⟨h1, h2⟩ := ends_phase n (k + 1) (by omega) s ha
  refine ⟨?_, hp, fun e => (h2 (by omega)).2⟩
  have e1 : (if s.phase < 5 then (0 : Int) else s.err) = 0 := by
    split
    · rfl
    · exact (h2 (by omega)).1
  have e2 : decide (5 ≤ s.phase) = decide (k = n + 3) := by
    rw [Bool.eq_iff_iff]
    simp
    omega
  rw [e1, e2]

def LawDone (w w' : World) : Prop := Below w.heap.size w w'
set_option maxHeartbeats 2000000 in
theorem ends_walk (w : World) (k : Int) (tab name dest : ByteArray) (n : Int) (fl : Bool) (A6 A7 A8 A9 A10 : Option Addr) (c6 c7 c8 c9 c10 : Nat) (D : Sd) (b : Int)
    (h : ArgS w A6 A7 A8 A9 A10 c6 c7 c8 c9 c10 D) :
    Calls Try.prog 3 #[.agg #[.int .i64 k, .string tab, .string name, .string dest, .int .i64 n, .bool fl, .slice A6 D.a.length c6, .slice A7 D.b.length c7, .slice A8 D.c.length c8, .slice A9 D.d.length c9, .slice A10 D.e.length c10], .int .i64 b] w
      fun e w' => e = .returned (.bool true) ∧ LawDone w w' := by
  have HA := Lib.hid h
  clear h
  go_enter Try.func3, Try.ntmps3
  go_wp2_with fail
  refine (alive_any _).mono ?_
  rintro e w1 ⟨rfl, h1⟩
  have hf1 : Fr (fun _ => False) w w1 := ((Fr.refl _ w).alloc _).trans h1 (fun _ _ h => h)
  have hB := h1.blk (blk_new w (.cells #[.int .i64 k, .string tab, .string name, .string dest, .int .i64 n, .bool fl, .slice A6 D.a.length c6, .slice A7 D.b.length c7, .slice A8 D.c.length c8, .slice A9 D.d.length c9, .slice A10 D.e.length c10] 28)) id
  have b0 := blk_cell hB 0
  have b1 := blk_cell hB 1
  have b2 := blk_cell hB 2
  have b3 := blk_cell hB 3
  have b4 := blk_cell hB 4
  have b5 := blk_cell hB 5
  have b6 := blk_cell hB 6
  have b7 := blk_cell hB 7
  have b8 := blk_cell hB 8
  have b9 := blk_cell hB 9
  have b10 := blk_cell hB 10
  simp only [List.getElem?_toArray, List.getElem?_cons_succ, List.getElem?_cons_zero] at b0 b1 b2 b3 b4 b5 b6 b7 b8 b9 b10
  have HB := Lib.hid hB
  have HF1 := Lib.hid hf1
  have HA1 := Lib.hid (HA.out.fr hf1)
  clear h1 hf1 hB HA
  go_wp2_with fail
  obtain ⟨K, r, hgr, hsm⟩ := great_some k tab name dest n fl D.a D.b D.c D.d D.e
  refine (interlocklaw15_GreatStmt.calls K k tab name dest n fl A6 c6 D.a A7 c7 D.b A8 c8 D.c A9 c9 D.d A10 c10 D.e r w1 HA1.out.r6 HA1.out.l6 HA1.out.r7 HA1.out.l7 HA1.out.r8 HA1.out.l8 HA1.out.r9 HA1.out.l9 HA1.out.r10 HA1.out.l10 hgr).mono ?_
  rintro e w2 ⟨rfl, hb2⟩
  have hf2 := Fr.of_below hb2
  have HF2 := Lib.hid (HF1.out.trans hf2 (fun _ _ h => h))
  have HA2 := Lib.hid (HA1.out.fr hf2)
  have HB2 := Lib.hid (hf2.blk HB.out id)
  have HD : Hid (LawDone w w2) := (HF1.out.trans hf2 (fun _ _ h => h)).below (Nat.le_refl _) (fun _ _ => id)
  have HSM := Lib.hid hsm
  clear hb2 hf2 HB HF1 HA1 b0 b1 b2 b3 b4 b5 b6 b7 b8 b9 b10 hgr hsm
  cases r with
  | true =>
    go_wp2_with fail
    go_ret
    exact ⟨rfl, HD.out⟩
  | false =>
    by_cases hb0 : b < 0
    · go_wp2_with fail
      go_ret
      exact ⟨rfl, HD.out⟩
    by_cases hb1 : 60 < b
    · go_wp2_with fail
      go_ret
      exact ⟨rfl, HD.out⟩
    obtain ⟨m, rfl⟩ := Int.eq_ofNat_of_zero_le (Int.not_lt.1 hb0)
    have hm : m ≤ 60 := by omega
    clear hb0 hb1 HD
    obtain ⟨i0, hi, hz0, hz1, hz2⟩ := info_parts info3'
    have HI := Lib.hid (And.intro hi (And.intro hz0 (And.intro hz1 hz2)))
    have HO0 := Lib.hid (own_lit w2 3 [.int .i64 1, .int .i64 0, .int .i64 0] 3 rfl (by simp) _ rfl)
    clear hi hz0 hz1 hz2
    go_wp2_with fail
    go_loopw [5, 6] (fun va vi wr => ∃ (j : Nat), j ≤ m ∧ vi = .int .i64 j ∧ wr.ownsRow w2.heap.size 3 1 va (3 + 2 * j) (([1, 0, 0] ++ bl j).map (Value.int .i64)) ∧ Fr (fun _ => False) w2 wr) (fun _ vi _ => m - (intOf vi).toNat)
    case atStart => exact ⟨0, by omega, rfl, HO0.out, (Fr.refl _ w2).alloc _⟩
    case round =>
      obtain ⟨j, hj, rfl, ho, hfr⟩ := hrel
      obtain ⟨Aj, cj, rfl⟩ := own_slice ho
      by_cases hlt : j < m
      · have hown := ho.alloc (.cells #[.int .i64 1, .int .i64 (1 + 2 * (j : Int))] 3)
        have hnw : ∀ (q : Nat) (u : Value), [Value.int .i64 1, Value.int .i64 (1 + 2 * (j : Int))][q]? = some u → (wr.alloc (.cells #[.int .i64 1, .int .i64 (1 + 2 * (j : Int))] 3)).cell? ((⟨wr.heap.size, 0, none⟩ : Addr).add q) = some u := by
          intro q u hu
          rw [Addr.add_lit, Nat.zero_add, blk_cell (blk_new wr _)]
          simpa using hu
        have HH := Lib.hid (And.intro hown (And.intro hnw hfr))
        have HC : Hid ((∀ u ∈ [Value.int .i64 1, Value.int .i64 (1 + 2 * (j : Int))], u.oneCell' = true) ∧ 3 + 2 * j + 2 ≤ maxLen ∧ (3 + 2 * j + 2) * 8 ≤ 140737488355328 ∧ w2.heap.size ≤ (wr.alloc (.cells #[.int .i64 1, .int .i64 (1 + 2 * (j : Int))] 3)).heap.size) := by
          refine ⟨by intro u hu; simp at hu; rcases hu with h | h <;> (subst h; rfl), by unfold maxLen; omega, by omega, ?_⟩
          have := hfr.size
          simp
          omega
        clear ho hown hnw hfr
        go_wp2_with (at_builtin; refine wpList_append_own_at _ rfl _ _ 31 rfl w2.heap.size 3 i0 (.int .i64 0) 1 8 Try.underlying31 HI.out.1 HI.out.2.1 HI.out.2.2.1 HI.out.2.2.2 rfl (by decide) _ _ _ rfl HH.out.1 ⟨wr.heap.size, 0, none⟩ 2 2 [.int .i64 1, .int .i64 (1 + 2 * (j : Int))] rfl rfl HH.out.2.1 HC.out.1 HC.out.2.1 HC.out.2.2.1 HC.out.2.2.2 ?_)
        intro v' w3 hown1 hg _ hat
        obtain ⟨A1, k1, rfl⟩ := own_slice hown1
        have HN : Hid (w3.ownsRow w2.heap.size 3 1 (.slice A1 (3 + 2 * j + 2) k1) (3 + 2 * (j + 1)) (([1, 0, 0] ++ bl (j + 1)).map (Value.int .i64)) ∧ Fr (fun _ => False) w2 w3) := by
          refine ⟨?_, ((HH.out.2.2.alloc _).grown hg ?_)⟩
          · rw [bl_succ, show 3 + 2 * (j + 1) = 3 + 2 * j + 2 by omega]
            simpa using hown1
          · intro i hi he
            have := (HH.out.1.lt i he).1
            omega
        clear hown1 hg hat HH HC
        go_wp2_with fail
        go_roundw
        case rel => exact ⟨j + 1, by omega, by go_num, HN.out.1, HN.out.2⟩
        case measure => simp [intOf]; omega
      · have hje : j = m := by omega
        subst hje
        clear hlt
        have hown := ho.alloc (.cells #[.int .i64 1, .int .i64 0, .int .i64 1, .int .i64 0] 3)
        have hnw : ∀ (q : Nat) (u : Value), [Value.int .i64 1, .int .i64 0, .int .i64 1, .int .i64 0][q]? = some u → (wr.alloc (.cells #[.int .i64 1, .int .i64 0, .int .i64 1, .int .i64 0] 3)).cell? ((⟨wr.heap.size, 0, none⟩ : Addr).add q) = some u := by
          intro q u hu
          rw [Addr.add_lit, Nat.zero_add, blk_cell (blk_new wr _)]
          simpa using hu
        have HH := Lib.hid (And.intro hown (And.intro hnw hfr))
        have HC : Hid ((∀ u ∈ [Value.int .i64 1, .int .i64 0, .int .i64 1, .int .i64 0], u.oneCell' = true) ∧ 3 + 2 * j + 4 ≤ maxLen ∧ (3 + 2 * j + 4) * 8 ≤ 140737488355328 ∧ w2.heap.size ≤ (wr.alloc (.cells #[.int .i64 1, .int .i64 0, .int .i64 1, .int .i64 0] 3)).heap.size) := by
          refine ⟨by intro u hu; simp at hu; rcases hu with h | h | h | h <;> (subst h; rfl), by unfold maxLen; omega, by omega, ?_⟩
          have := hfr.size
          simp
          omega
        clear ho hown hnw hfr
        go_wp2_with (at_builtin; refine wpList_append_own_at _ rfl _ _ 31 rfl w2.heap.size 3 i0 (.int .i64 0) 1 8 Try.underlying31 HI.out.1 HI.out.2.1 HI.out.2.2.1 HI.out.2.2.2 rfl (by decide) _ _ _ rfl HH.out.1 ⟨wr.heap.size, 0, none⟩ 4 4 [.int .i64 1, .int .i64 0, .int .i64 1, .int .i64 0] rfl rfl HH.out.2.1 HC.out.1 HC.out.2.1 HC.out.2.2.1 HC.out.2.2.2 ?_)
        intro v' w3 hown1 hg _ hat
        obtain ⟨A1, k1, rfl⟩ := own_slice hown1
        have hf3 : Fr (fun _ => False) w2 w3 := (HH.out.2.2.alloc _).grown hg (fun i hi he => by have := (HH.out.1.lt i he).1; omega)
        have hown2 : w3.ownsRow w2.heap.size 3 1 (.slice A1 (3 + 2 * j + 4) k1) (3 + 2 * j + 4) ((1 :: 0 :: 0 :: batA j j).map (Value.int .i64)) := by
          rw [← ends_first]
          simpa using hown1
        have hB := hf3.blk HB2.out id
        have b0 := blk_cell hB 0
        have b1 := blk_cell hB 1
        have b2 := blk_cell hB 2
        have b3 := blk_cell hB 3
        have b4 := blk_cell hB 4
        have b5 := blk_cell hB 5
        have b6 := blk_cell hB 6
        have b7 := blk_cell hB 7
        have b8 := blk_cell hB 8
        have b9 := blk_cell hB 9
        have b10 := blk_cell hB 10
        simp only [List.getElem?_toArray, List.getElem?_cons_succ, List.getElem?_cons_zero] at b0 b1 b2 b3 b4 b5 b6 b7 b8 b9 b10
        have HN := Lib.hid (And.intro hown2 (HF2.out.trans hf3 (fun _ _ h => h)))
        have HA3 := Lib.hid (HA2.out.fr hf3)
        have HSM2 := Lib.hid (HSM.out (by simp))
        clear hown1 hown2 hg hat HH HC hf3 hB HA2 HB2 HF2 HSM HO0
        go_wp2_with fail
        refine (new_any w3 k tab name dest n fl A6 A7 A8 A9 A10 c6 c7 c8 c9 c10 D 1 (HA3.out.rd k tab name dest n fl) ⟨by have := HSM2.out.l6; omega, by have := HSM2.out.l7; omega, by have := HSM2.out.l8; omega, by have := HSM2.out.l9; omega, by have := HSM2.out.l10; omega⟩).mono ?_
        rintro e w4 ⟨g, xa, xb, xc, xd, xe, va, rfl, hg, _, hj, hf4⟩
        have ho4 := hf4.own HN.out.1 (fun _ _ => id)
        have hT : Told (w4.alloc (.cells #[.slice A1 (3 + 2 * j + 4) k1, .slice none 0 0, .int .i64 0] 36)) w4.heap.size (.slice A1 (3 + 2 * j + 4) k1) (.slice none 0 0) (1 :: 0 :: 0 :: batA j j) [] 0 := by
          have hrow := (Row.of_own ho4).fr ((Fr.refl (fun _ => False) w4).alloc (.cells #[.slice A1 (3 + 2 * j + 4) k1, .slice none 0 0, .int .i64 0] 36)) (fun _ _ _ _ => id)
          refine ⟨blk_new w4 _, ?_, World.ownsRow_nil _ _ _ _, by simp⟩
          have hl : (1 :: 0 :: 0 :: batA j j).length = 3 + 2 * j + 4 := by simp [batA_length]; omega
          rw [hl]
          exact hrow
        have hL := LInv.first hf4 hj ((Fr.refl (fun _ => False) w4).alloc _) hT
        have HL := Lib.hid (And.intro hL (And.intro hg hf4.size))
        have HFW := Lib.hid HN.out.2
        have hs1 : name.size ≤ 1000 := by have := HSM2.out.a2; omega
        have hs2 : tab.size ≤ 1000 := by have := HSM2.out.a1; omega
        clear hf4 hj hT hL ho4 HN HA3 b0 b1 b2 b3 b4 b5 b6 b7 b8 b9 b10
        go_wp2_with fail
        go_loopw [9] (fun vi wr => ∃ (q : Nat) (s : JA) (v : Value), q ≤ j + 3 ∧ vi = .int .i64 q ∧ LInv w3 wr g w4.heap.size ⟨k, tab, name, dest, n, fl, xa, xb, xc, xd, xe⟩ s v ∧ endsA j q s) (fun vi _ => j + 4 - (intOf vi).toNat)
        case atStart => exact ⟨0, _, _, by omega, rfl, HL.out.1, ⟨rfl, rfl, rfl, rfl, rfl⟩⟩
        case round =>
          obtain ⟨q, s, v, hq, rfl, hL, ha⟩ := hrel
          have hok := ends_ok ⟨k, tab, name, dest, n, fl, xa, xb, xc, xd, xe⟩ hs1 hs2 j (by omega) q hq s ha
          have HS := Lib.hid (And.intro hL (And.intro ha hok))
          clear hL ha hok
          go_wp2_with fail
          refine (step_any wr g w4.heap.size _ s v HS.out.1.jw HS.out.2.2).mono ?_
          rintro e w5 h3
          have hst := ends_step tab name j (by omega) q hq s HS.out.2.1
          obtain ⟨rfl, h4, hh⟩ := ends_ret hq h3 hst
          obtain ⟨v', hL'⟩ := HS.out.1.step HL.out.2.1 HL.out.2.2 h4
          have HN := Lib.hid (And.intro hL' (And.intro hst hh))
          clear h3 h4 hst hL' HS hh
          by_cases hqe : q = j + 3
          · have hd : decide (q = j + 3) = true := decide_eq_true hqe
            obtain ⟨⟨hj5, ⟨vt5, ht5⟩⟩, hf5, _⟩ := HN.out.1
            have hb5 := ht5.blk
            rw [HN.out.2.2 hqe] at hb5
            have c2 := blk_cell hb5 2
            simp only [List.getElem?_toArray, List.getElem?_cons_succ, List.getElem?_cons_zero] at c2
            have HF : Hid (LawDone w w5) := (HFW.out.trans hf5 (fun _ _ h => h)).below (Nat.le_refl _) (fun _ _ => id)
            clear hj5 ht5 hf5 hb5 HN hqe
            go_wp2_with fail
            go_ret
            exact ⟨rfl, HF.out⟩
          · have hd : decide (q = j + 3) = false := decide_eq_false hqe
            go_wp2_with fail
            go_roundw
            case rel => exact ⟨q + 1, _, _, by omega, by go_num, HN.out.1, HN.out.2.1⟩
            case measure => simp [intOf]; omega
end Go.Proofs.Ytplpdeanepdokaa

/- How a statement that came in reads. -/
namespace Go.Proofs.Ytplpdeanepdokaa
open Go.RowKit H Go.Proofs.Ytplpdeanepdokaa.PJobSteps
open Go.Proofs.YtplpdeanepdokaaW.PrintWords (Kd)

theorem ce3 : Try.prog.cellsOf 3 = 1 := by kernel_rfl
theorem ce4 : Try.prog.cellsOf 4 = 1 := by kernel_rfl
theorem ce9 : Try.prog.cellsOf 9 = 1 := by kernel_rfl
theorem ce60 : Try.prog.cellsOf 60 = 3 := by kernel_rfl
theorem ce62 : Try.prog.cellsOf 62 = 4 := by kernel_rfl
theorem ce64 : Try.prog.cellsOf 64 = 5 := by kernel_rfl
theorem ce66 : Try.prog.cellsOf 66 = 3 := by kernel_rfl
theorem ce28 : Try.prog.cellsOf 28 = 11 := by kernel_rfl
theorem ce22 : Try.prog.cellsOf 22 = 1 := by kernel_rfl
theorem ce23 : Try.prog.cellsOf 23 = 1 := by kernel_rfl
theorem ce24 : Try.prog.cellsOf 24 = 1 := by kernel_rfl
theorem ce25 : Try.prog.cellsOf 25 = 1 := by kernel_rfl
theorem ce26 : Try.prog.cellsOf 26 = 1 := by kernel_rfl

theorem len3 {α : Type} {cs : List α} (h : cs.length = 3) : ∃ a b c, cs = [a, b, c] := by
  match cs, h with
  | [a, b, c], _ => exact ⟨a, b, c, rfl⟩
theorem len4 {α : Type} {cs : List α} (h : cs.length = 4) : ∃ a b c d, cs = [a, b, c, d] := by
  match cs, h with
  | [a, b, c, d], _ => exact ⟨a, b, c, d, rfl⟩
theorem len5 {α : Type} {cs : List α} (h : cs.length = 5) : ∃ a b c d e, cs = [a, b, c, d, e] := by
  match cs, h with
  | [a, b, c, d, e], _ => exact ⟨a, b, c, d, e, rfl⟩
theorem len11 {α : Type} {cs : List α} (h : cs.length = 11) : ∃ a b c d e f g i j k l, cs = [a, b, c, d, e, f, g, i, j, k, l] := by
  match cs, h with
  | [a, b, c, d, e, f, g, i, j, k, l], _ => exact ⟨a, b, c, d, e, f, g, i, j, k, l, rfl⟩
theorem some_of {α : Type} {xs : List α} {n i : Nat} (h : xs.length = n) (hi : i < n) : ∃ x, xs[i]? = some x := ⟨xs[i]'(by omega), List.getElem?_eq_getElem (by omega)⟩

section
variable {H : Type} {enc : TypeId × Value → H} {w : World} {base : Nat} {spare : Nat → Bool} {held : Bool} {fuel : Nat} {cs : List Value} {x : DataW H × List MemPlace}
theorem int_wf {n : Int} (h : (Lit.int .i64 n).wf = true) : -9223372036854775808 ≤ n ∧ n ≤ 9223372036854775807 := by
  have := h
  simp [Lit.wf, IntKind.min, IntKind.max] at this
  simpa [IntKind.signed, IntKind.bits] using this
theorem is60 (h : DataW.trod enc Try.prog w base spare held fuel 60 cs = some x) : ∃ r : S60, cs = rc r ∧ -9223372036854775808 ≤ r.f1 ∧ r.f1 ≤ 9223372036854775807 := by
  obtain ⟨xs, n, rfl, _, hl, hxs, hf⟩ := DataW.trod_struct Try.underlying60 h
  rw [ce60] at hl
  obtain ⟨a, b, c, rfl⟩ := len3 hl
  obtain ⟨y0, e0⟩ := some_of (i := 0) hxs (by simp)
  obtain ⟨y1, e1⟩ := some_of (i := 1) hxs (by simp)
  obtain ⟨y2, e2⟩ := some_of (i := 2) hxs (by simp)
  have f0 : DataW.trod enc Try.prog w base spare held n 3 (([a, b, c].drop 0).take (Try.prog.cellsOf 3)) = xs[0]? := hf 0 _ rfl
  rw [ce3, e0] at f0
  have f1 : DataW.trod enc Try.prog w base spare held n 3 (([a, b, c].drop 1).take (Try.prog.cellsOf 3)) = xs[1]? := hf 1 _ rfl
  rw [ce3, e1] at f1
  have f2 : DataW.trod enc Try.prog w base spare held n 9 (([a, b, c].drop 2).take (Try.prog.cellsOf 9)) = xs[2]? := hf 2 _ rfl
  rw [ce9, e2] at f2
  obtain ⟨n0, q0, _, _⟩ := DataW.trod_int Try.underlying3 f0
  obtain ⟨n1, q1, _, w1⟩ := DataW.trod_int Try.underlying3 f1
  obtain ⟨n2, q2, _, _⟩ := DataW.trod_string Try.underlying9 f2
  injection q0 with q0
  injection q1 with q1
  injection q2 with q2
  subst q0 q1 q2
  exact ⟨⟨n0, n1, n2⟩, rfl, int_wf w1⟩
theorem is62 (h : DataW.trod enc Try.prog w base spare held fuel 62 cs = some x) : ∃ r : S62, cs = setc r := by
  obtain ⟨xs, n, rfl, _, hl, hxs, hf⟩ := DataW.trod_struct Try.underlying62 h
  rw [ce62] at hl
  obtain ⟨a, b, c, d, rfl⟩ := len4 hl
  obtain ⟨y0, e0⟩ := some_of (i := 0) hxs (by simp)
  obtain ⟨y1, e1⟩ := some_of (i := 1) hxs (by simp)
  have f0 : DataW.trod enc Try.prog w base spare held n 9 (([a, b, c, d].drop 0).take (Try.prog.cellsOf 9)) = xs[0]? := hf 0 _ rfl
  rw [ce9, e0] at f0
  have f1 : DataW.trod enc Try.prog w base spare held n 60 (([a, b, c, d].drop 1).take (Try.prog.cellsOf 60)) = xs[1]? := hf 1 _ rfl
  rw [ce60, e1] at f1
  obtain ⟨n0, q0, _, _⟩ := DataW.trod_string Try.underlying9 f0
  obtain ⟨r, q1, _⟩ := is60 f1
  injection q0 with q0
  subst q0
  refine ⟨⟨n0, r⟩, ?_⟩
  show _ = _ :: rc r
  rw [← q1]
  rfl
theorem is64 (h : DataW.trod enc Try.prog w base spare held fuel 64 cs = some x) : ∃ r : S64, cs = condc r := by
  obtain ⟨xs, n, rfl, _, hl, hxs, hf⟩ := DataW.trod_struct Try.underlying64 h
  rw [ce64] at hl
  obtain ⟨a, b, c, d, e, rfl⟩ := len5 hl
  obtain ⟨y0, e0⟩ := some_of (i := 0) hxs (by simp)
  obtain ⟨y1, e1⟩ := some_of (i := 1) hxs (by simp)
  obtain ⟨y2, e2⟩ := some_of (i := 2) hxs (by simp)
  have f0 : DataW.trod enc Try.prog w base spare held n 9 (([a, b, c, d, e].drop 0).take (Try.prog.cellsOf 9)) = xs[0]? := hf 0 _ rfl
  rw [ce9, e0] at f0
  have f1 : DataW.trod enc Try.prog w base spare held n 3 (([a, b, c, d, e].drop 1).take (Try.prog.cellsOf 3)) = xs[1]? := hf 1 _ rfl
  rw [ce3, e1] at f1
  have f2 : DataW.trod enc Try.prog w base spare held n 60 (([a, b, c, d, e].drop 2).take (Try.prog.cellsOf 60)) = xs[2]? := hf 2 _ rfl
  rw [ce60, e2] at f2
  obtain ⟨n0, q0, _, _⟩ := DataW.trod_string Try.underlying9 f0
  obtain ⟨n1, q1, _, _⟩ := DataW.trod_int Try.underlying3 f1
  obtain ⟨r, q2, _⟩ := is60 f2
  injection q0 with q0
  injection q1 with q1
  subst q0 q1
  refine ⟨⟨n0, n1, r⟩, ?_⟩
  show _ = _ :: _ :: rc r
  rw [← q2]
  rfl
theorem is66 (h : DataW.trod enc Try.prog w base spare held fuel 66 cs = some x) : ∃ r : S66, cs = colc r := by
  obtain ⟨xs, n, rfl, _, hl, hxs, hf⟩ := DataW.trod_struct Try.underlying66 h
  rw [ce66] at hl
  obtain ⟨a, b, c, rfl⟩ := len3 hl
  obtain ⟨y0, e0⟩ := some_of (i := 0) hxs (by simp)
  obtain ⟨y1, e1⟩ := some_of (i := 1) hxs (by simp)
  obtain ⟨y2, e2⟩ := some_of (i := 2) hxs (by simp)
  have f0 : DataW.trod enc Try.prog w base spare held n 9 (([a, b, c].drop 0).take (Try.prog.cellsOf 9)) = xs[0]? := hf 0 _ rfl
  rw [ce9, e0] at f0
  have f1 : DataW.trod enc Try.prog w base spare held n 3 (([a, b, c].drop 1).take (Try.prog.cellsOf 3)) = xs[1]? := hf 1 _ rfl
  rw [ce3, e1] at f1
  have f2 : DataW.trod enc Try.prog w base spare held n 4 (([a, b, c].drop 2).take (Try.prog.cellsOf 4)) = xs[2]? := hf 2 _ rfl
  rw [ce4, e2] at f2
  obtain ⟨n0, q0, _, _⟩ := DataW.trod_string Try.underlying9 f0
  obtain ⟨n1, q1, _, _⟩ := DataW.trod_int Try.underlying3 f1
  obtain ⟨n2, q2, _⟩ := DataW.trod_bool Try.underlying4 f2
  injection q0 with q0
  injection q1 with q1
  injection q2 with q2
  subst q0 q1 q2
  exact ⟨⟨n0, n1, n2⟩, rfl⟩
theorem is9 (h : DataW.trod enc Try.prog w base spare held fuel 9 cs = some x) : ∃ r : ByteArray, cs = strc r := by
  obtain ⟨s, rfl, _, _⟩ := DataW.trod_string Try.underlying9 h
  exact ⟨s, rfl⟩

theorem list_of {α : Type} (p : Nat → α → Prop) : ∀ n, (∀ i, i < n → ∃ x, p i x) → ∃ l : List α, l.length = n ∧ ∀ i x, l[i]? = some x → p i x
  | 0, _ => ⟨[], rfl, fun i x h => by simp at h⟩
  | n + 1, h => by
    obtain ⟨l, hl, hp⟩ := list_of p n (fun i hi => h i (by omega))
    obtain ⟨x, hx⟩ := h n (by omega)
    refine ⟨l ++ [x], by simp [hl], fun i y hy => ?_⟩
    rw [List.getElem?_append] at hy
    split at hy
    · exact hp i y hy
    · rename_i hge
      have hi : i = n := by
        have := (List.getElem?_eq_some_iff.1 hy).1
        simp at this
        omega
      subst hi
      rw [hl] at hy
      simp at hy
      subst hy
      exact hx
theorem add_add (a : Addr) (m j : Nat) : (a.add m).add j = a.add (m + j) := by
  by_cases hm : m = 0
  · subst hm
    rw [Nat.zero_add]
    rfl
  · unfold Addr.add
    rw [if_neg hm, if_neg (show ¬ m + j = 0 by omega)]
    by_cases hj : j = 0
    · rw [if_pos hj, hj, Nat.add_zero]
    · rw [if_neg hj, Nat.add_assoc]
/-- A slice that came in, whatever its elements. -/
theorem slice_reads {α : Type} {t e sz : Nat} {f : α → List Value} {q : α → Prop} (ht : Try.prog.underlying t = some (.slice e)) (hc : Try.prog.cellsOf e = sz) (hf : ∀ x, (f x).length = sz)
    (his : ∀ {fuel : Nat} {cs : List Value} {x : DataW H × List MemPlace}, DataW.trod enc Try.prog w base spare held fuel e cs = some x → ∃ r : α, cs = f r ∧ q r)
    (h : DataW.trod enc Try.prog w base spare held fuel t cs = some x) :
    ∃ (A : Option Addr) (c : Nat) (l : List α), cs = [.slice A l.length c] ∧ l.length ≤ c ∧ l.length ≤ maxLen ∧ (∀ r ∈ l, q r) ∧
      (0 < l.length → ∃ ad, A = some ad ∧ ∀ i x, l[i]? = some x → ∀ (j : Nat) (u : Value), (f x)[j]? = some u → w.cell? (ad.add (i * sz + j)) = some u) := by
  rcases Go.Deep.open_slice ht h with ⟨rfl, _⟩ | ⟨a, len, cap, m, n, D, Pl, rfl, hb, hl, hm, hmm, _, hx⟩
  · exact ⟨none, 0, [], rfl, Nat.le_refl _, Nat.zero_le _, by simp, fun h => by simp at h⟩
  · have hlm : len ≤ m := by rw [hmm]; split <;> omega
    obtain ⟨l, hll, hp⟩ := list_of (fun i (r : α) => q r ∧ ∀ (j : Nat) (u : Value), (f r)[j]? = some u → w.cell? (a.add (i * sz + j)) = some u) len (fun i hi => by
      obtain ⟨cs', h1, h2⟩ := hx i (by omega)
      obtain ⟨r, hr, hq⟩ := his h2
      obtain ⟨_, h3, h4⟩ := World.cells?_some h1
      refine ⟨r, hq, fun j u hu => ?_⟩
      have hj : j < sz := by have := (List.getElem?_eq_some_iff.1 hu).1; rw [hf] at this; exact this
      have := h4 j (by rw [hc]; exact hj)
      rw [hr, hu, hc] at this
      rw [← this, add_add])
    refine ⟨some a, cap, l, by rw [hll], by omega, by omega, ?_, fun _ => ⟨a, rfl, fun i r hr j u hu => (hp i r hr).2 j u hu⟩⟩
    intro r hr
    obtain ⟨i, hi⟩ := List.getElem?_of_mem hr
    exact (hp i r hi).1
end
end Go.Proofs.Ytplpdeanepdokaa

/- A statement that came in, whole. -/
namespace Go.Proofs.Ytplpdeanepdokaa
open Go.RowKit H Go.Proofs.Ytplpdeanepdokaa.PJobSteps
open Go.Proofs.YtplpdeanepdokaaW.PrintWords (Kd)

theorem rd_of {α : Type} {f : α → List Value} {sz : Nat} (hf : ∀ x, (f x).length = sz) (hsz : 0 < sz) {w : World} {A : Option Addr} {c : Nat} {l : List α} (hl : l.length ≤ c)
    (h : 0 < l.length → ∃ ad, A = some ad ∧ ∀ i x, l[i]? = some x → ∀ (j : Nat) (u : Value), (f x)[j]? = some u → w.cell? (ad.add (i * sz + j)) = some u) : Rd w (.slice A l.length c) l.length (l.flatMap f) := by
  refine ⟨A, c, rfl, hl, ?_⟩
  by_cases h0 : 0 < l.length
  · obtain ⟨ad, rfl, hc⟩ := h h0
    refine .inr ⟨ad, rfl, fun q u hu => ?_⟩
    have hq : q < l.length * sz := by
      have := (List.getElem?_eq_some_iff.1 hu).1
      rwa [flat_length f sz hf] at this
    have hi : q / sz < l.length := by
      rw [Nat.div_lt_iff_lt_mul hsz]
      exact hq
    have hj : q % sz < sz := Nat.mod_lt _ hsz
    have he : q / sz * sz + q % sz = q := by rw [Nat.mul_comm]; exact Nat.div_add_mod q sz
    rw [← he, flat_get f sz hf l (q / sz) (q % sz) hi hj] at hu
    have := hc (q / sz) _ (List.getElem?_eq_getElem hi) (q % sz) u hu
    rwa [he] at this
  · left
    have : l = [] := List.eq_nil_of_length_eq_zero (by omega)
    rw [this]
    rfl
theorem kd_of {α : Type} {d : Kd α} {f : α → List Value} {sz : Nat} (hs : d.sz = sz) (hk : ∀ w x, d.K w x (f x)) (hf : ∀ x, (f x).length = sz) {w : World} {A : Option Addr} {l : List α} (hm : l.length ≤ maxLen)
    (h : 0 < l.length → ∃ ad, A = some ad ∧ ∀ i x, l[i]? = some x → ∀ (j : Nat) (u : Value), (f x)[j]? = some u → w.cell? (ad.add (i * sz + j)) = some u) : Kd.C d w A l.length l := by
  unfold maxLen at hm
  refine ⟨rfl, by omega, fun h0 => ?_⟩
  obtain ⟨ad, e, hc⟩ := h h0
  refine ⟨ad, e, fun j x hj => ⟨f x, by rw [hf, hs], hk w x, fun i u hu => ?_⟩⟩
  rw [hs]
  exact hc j x hj i u hu

section
variable {H : Type} {enc : TypeId × Value → H} {w : World} {base : Nat} {spare : Nat → Bool} {held : Bool} {fuel : Nat} {cs : List Value} {x : DataW H × List MemPlace}
theorem stmt_reads (h : DataW.trod enc Try.prog w base spare held fuel 28 cs = some x) :
    ∃ (k : Int) (tab name dest : ByteArray) (n : Int) (fl : Bool) (A6 A7 A8 A9 A10 : Option Addr) (c6 c7 c8 c9 c10 : Nat) (D : Sd),
      cs = [.int .i64 k, .string tab, .string name, .string dest, .int .i64 n, .bool fl, .slice A6 D.a.length c6, .slice A7 D.b.length c7, .slice A8 D.c.length c8, .slice A9 D.d.length c9, .slice A10 D.e.length c10] ∧
      ArgS w A6 A7 A8 A9 A10 c6 c7 c8 c9 c10 D := by
  obtain ⟨xs, n, rfl, _, hl, hxs, hf⟩ := DataW.trod_struct Try.underlying28 h
  rw [ce28] at hl
  obtain ⟨v0, v1, v2, v3, v4, v5, v6, v7, v8, v9, v10, rfl⟩ := len11 hl
  obtain ⟨y0, e0⟩ := some_of (i := 0) hxs (by simp)
  obtain ⟨y1, e1⟩ := some_of (i := 1) hxs (by simp)
  obtain ⟨y2, e2⟩ := some_of (i := 2) hxs (by simp)
  obtain ⟨y3, e3⟩ := some_of (i := 3) hxs (by simp)
  obtain ⟨y4, e4⟩ := some_of (i := 4) hxs (by simp)
  obtain ⟨y5, e5⟩ := some_of (i := 5) hxs (by simp)
  obtain ⟨y6, e6⟩ := some_of (i := 6) hxs (by simp)
  obtain ⟨y7, e7⟩ := some_of (i := 7) hxs (by simp)
  obtain ⟨y8, e8⟩ := some_of (i := 8) hxs (by simp)
  obtain ⟨y9, e9⟩ := some_of (i := 9) hxs (by simp)
  obtain ⟨y10, e10⟩ := some_of (i := 10) hxs (by simp)
  have f0 : DataW.trod enc Try.prog w base spare held n 3 (([v0, v1, v2, v3, v4, v5, v6, v7, v8, v9, v10].drop 0).take (Try.prog.cellsOf 3)) = xs[0]? := hf 0 _ rfl
  have f1 : DataW.trod enc Try.prog w base spare held n 9 (([v0, v1, v2, v3, v4, v5, v6, v7, v8, v9, v10].drop 1).take (Try.prog.cellsOf 9)) = xs[1]? := hf 1 _ rfl
  have f2 : DataW.trod enc Try.prog w base spare held n 9 (([v0, v1, v2, v3, v4, v5, v6, v7, v8, v9, v10].drop 2).take (Try.prog.cellsOf 9)) = xs[2]? := hf 2 _ rfl
  have f3 : DataW.trod enc Try.prog w base spare held n 9 (([v0, v1, v2, v3, v4, v5, v6, v7, v8, v9, v10].drop 3).take (Try.prog.cellsOf 9)) = xs[3]? := hf 3 _ rfl
  have f4 : DataW.trod enc Try.prog w base spare held n 3 (([v0, v1, v2, v3, v4, v5, v6, v7, v8, v9, v10].drop 4).take (Try.prog.cellsOf 3)) = xs[4]? := hf 4 _ rfl
  have f5 : DataW.trod enc Try.prog w base spare held n 4 (([v0, v1, v2, v3, v4, v5, v6, v7, v8, v9, v10].drop 5).take (Try.prog.cellsOf 4)) = xs[5]? := hf 5 _ rfl
  have f6 : DataW.trod enc Try.prog w base spare held n 22 (([v0, v1, v2, v3, v4, v5, v6, v7, v8, v9, v10].drop 6).take (Try.prog.cellsOf 22)) = xs[6]? := hf 6 _ rfl
  have f7 : DataW.trod enc Try.prog w base spare held n 23 (([v0, v1, v2, v3, v4, v5, v6, v7, v8, v9, v10].drop 7).take (Try.prog.cellsOf 23)) = xs[7]? := hf 7 _ rfl
  have f8 : DataW.trod enc Try.prog w base spare held n 24 (([v0, v1, v2, v3, v4, v5, v6, v7, v8, v9, v10].drop 8).take (Try.prog.cellsOf 24)) = xs[8]? := hf 8 _ rfl
  have f9 : DataW.trod enc Try.prog w base spare held n 25 (([v0, v1, v2, v3, v4, v5, v6, v7, v8, v9, v10].drop 9).take (Try.prog.cellsOf 25)) = xs[9]? := hf 9 _ rfl
  have f10 : DataW.trod enc Try.prog w base spare held n 26 (([v0, v1, v2, v3, v4, v5, v6, v7, v8, v9, v10].drop 10).take (Try.prog.cellsOf 26)) = xs[10]? := hf 10 _ rfl
  rw [ce3, e0] at f0
  rw [ce9, e1] at f1
  rw [ce9, e2] at f2
  rw [ce9, e3] at f3
  rw [ce3, e4] at f4
  rw [ce4, e5] at f5
  rw [ce22, e6] at f6
  rw [ce23, e7] at f7
  rw [ce24, e8] at f8
  rw [ce25, e9] at f9
  rw [ce26, e10] at f10
  obtain ⟨n0, q0, _, _⟩ := DataW.trod_int Try.underlying3 f0
  obtain ⟨n1, q1, _, _⟩ := DataW.trod_string Try.underlying9 f1
  obtain ⟨n2, q2, _, _⟩ := DataW.trod_string Try.underlying9 f2
  obtain ⟨n3, q3, _, _⟩ := DataW.trod_string Try.underlying9 f3
  obtain ⟨n4, q4, _, _⟩ := DataW.trod_int Try.underlying3 f4
  obtain ⟨n5, q5, _⟩ := DataW.trod_bool Try.underlying4 f5
  obtain ⟨A6, c6, l6, q6, b6, m6, _, r6⟩ := slice_reads (f := rc) (q := fun _ => True) Try.underlying22 ce60 (fun _ => rfl) (fun h => by obtain ⟨r, hr, _⟩ := is60 h; exact ⟨r, hr, trivial⟩) f6
  obtain ⟨A7, c7, l7, q7, b7, m7, _, r7⟩ := slice_reads (f := setc) (q := fun _ => True) Try.underlying23 ce62 (fun _ => rfl) (fun h => by obtain ⟨r, hr⟩ := is62 h; exact ⟨r, hr, trivial⟩) f7
  obtain ⟨A8, c8, l8, q8, b8, m8, _, r8⟩ := slice_reads (f := condc) (q := fun _ => True) Try.underlying24 ce64 (fun _ => rfl) (fun h => by obtain ⟨r, hr⟩ := is64 h; exact ⟨r, hr, trivial⟩) f8
  obtain ⟨A9, c9, l9, q9, b9, m9, _, r9⟩ := slice_reads (f := colc) (q := fun _ => True) Try.underlying25 ce66 (fun _ => rfl) (fun h => by obtain ⟨r, hr⟩ := is66 h; exact ⟨r, hr, trivial⟩) f9
  obtain ⟨A10, c10, l10, q10, b10, m10, _, r10⟩ := slice_reads (f := strc) (q := fun _ => True) Try.underlying26 ce9 (fun _ => rfl) (fun h => by obtain ⟨r, hr⟩ := is9 h; exact ⟨r, hr, trivial⟩) f10
  injection q0 with q0
  injection q1 with q1
  injection q2 with q2
  injection q3 with q3
  injection q4 with q4
  injection q5 with q5
  injection q6 with q6
  injection q7 with q7
  injection q8 with q8
  injection q9 with q9
  injection q10 with q10
  subst q0 q1 q2 q3 q4 q5 q6 q7 q8 q9 q10
  exact ⟨n0, n1, n2, n3, n4, n5, A6, A7, A8, A9, A10, c6, c7, c8, c9, c10, ⟨l6, l7, l8, l9, l10⟩, rfl,
    ⟨kd_of rfl k60_mk (fun _ => rfl) m6 r6, kd_of rfl k62_mk (fun _ => rfl) m7 r7, kd_of rfl k64_mk (fun _ => rfl) m8 r8, kd_of rfl k66_mk (fun _ => rfl) m9 r9, kd_of (d := Kd.string) rfl (fun _ _ => rfl) (fun _ => rfl) m10 r10,
      b6, b7, b8, b9, b10, rd_of (f := rc) (sz := 3) (fun _ => rfl) (by decide) b6 r6, rd_of (f := setc) (sz := 4) (fun _ => rfl) (by decide) b7 r7, rd_of (f := condc) (sz := 5) (fun _ => rfl) (by decide) b8 r8, rd_of (f := colc) (sz := 3) (fun _ => rfl) (by decide) b9 r9, rd_of (f := strc) (sz := 1) (fun _ => rfl) (by decide) b10 r10⟩⟩
end
end Go.Proofs.Ytplpdeanepdokaa

