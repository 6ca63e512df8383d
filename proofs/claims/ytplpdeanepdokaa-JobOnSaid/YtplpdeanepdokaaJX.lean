/- A new job. -/
import Derived.Test.YtplpdeanepdokaaJV
namespace Go.Proofs.Ytplpdeanepdokaa
open Go.RowKit H Go.Proofs.Ytplpdeanepdokaa.PJobSteps
open Go.Proofs.YtplpdeanepdokaaW.PrintWords (Kd)

/-- A statement's slices are the call's own. -/
structure SxOwn (w : World) (base : Nat) (x : Sx) (D : Sd) : Prop where
  a : w.ownsRow base 60 3 x.a D.a.length (D.a.flatMap rc)
  b : w.ownsRow base 62 4 x.b D.b.length (D.b.flatMap setc)
  c : w.ownsRow base 64 5 x.c D.c.length (D.c.flatMap condc)
  d : w.ownsRow base 66 3 x.d D.d.length (D.d.flatMap colc)
  e : w.ownsRow base 9 1 x.e D.e.length (D.e.flatMap strc)

/-- A job was made. -/
def MadePost (w : World) (k : Int) (tab name dest : ByteArray) (n : Int) (fl : Bool) (D : Sd) (phase : Int) (rows : List S60) (tries : Int) (e : Ending) (wx : World) : Prop :=
  ∃ g a b c d es va, e = .returned (.pointer (some ⟨g, 0, none⟩)) ∧ w.heap.size ≤ g ∧ SxOwn wx w.heap.size ⟨k, tab, name, dest, n, fl, a, b, c, d, es⟩ D ∧ JobR wx g ⟨k, tab, name, dest, n, fl, a, b, c, d, es⟩ phase va rows tries 0 ∧ Fr (fun _ => False) w wx

def max1 (t : Int) : Int := if t < 1 then 1 else t
theorem new_any (w : World) (k : Int) (tab name dest : ByteArray) (n : Int) (fl : Bool) (Aa Ab Ac Ad Ae : Option Addr) (ca cb cc cd ce : Nat) (D : Sd) (tries : Int)
    (h : SxRd w ⟨k, tab, name, dest, n, fl, .slice Aa D.a.length ca, .slice Ab D.b.length cb, .slice Ac D.c.length cc, .slice Ad D.d.length cd, .slice Ae D.e.length ce⟩ D) (hf : D.Few) :
    Calls Try.prog 9 #[.agg #[.int .i64 k, .string tab, .string name, .string dest, .int .i64 n, .bool fl, .slice Aa D.a.length ca, .slice Ab D.b.length cb, .slice Ac D.c.length cc, .slice Ad D.d.length cd, .slice Ae D.e.length ce], .int .i64 tries] w
      (MadePost w k tab name dest n fl D 1 [] (max1 tries)) := by
  have h1 := h.fr ((Fr.refl (fun _ => False) w).alloc (.cells #[.int .i64 k, .string tab, .string name, .string dest, .int .i64 n, .bool fl, .slice Aa D.a.length ca, .slice Ab D.b.length cb, .slice Ac D.c.length cc, .slice Ad D.d.length cd, .slice Ae D.e.length ce] 28)) (fun _ _ => id)
  have H1 := Lib.hid h1
  clear h h1
  by_cases ht : tries < 1
  all_goals
    go_enter Try.func9, Try.ntmps9
    go_wp2_with fail
    refine (cloned_any _ k tab name dest n fl Aa Ab Ac Ad Ae ca cb cc cd ce D H1.out hf).mono ?_
    rintro e w1 ⟨A1, c1, A2, c2, A3, c3, A4, c4, A5, c5, rfl, o1, o2, o3, o4, o5, f1⟩
    have hm : max1 tries = (if tries < 1 then 1 else tries) := rfl
    have HP : Hid (∀ (T : Int) (w2 : World), T = max1 tries → w2 = w1.alloc (.cells #[.int .i64 k, .string tab, .string name, .string dest, .int .i64 n, .bool fl, .slice A1 D.a.length c1, .slice A2 D.b.length c2, .slice A3 D.c.length c3, .slice A4 D.d.length c4, .slice A5 D.e.length c5, .int .i64 1, .slice none 0 0, .int .i64 T, .int .i64 0] 68) →
        MadePost w k tab name dest n fl D 1 [] (max1 tries) (.returned (.pointer (some ⟨w1.heap.size, 0, none⟩))) w2) := by
      rintro T w2 rfl rfl
      have hle : w.heap.size ≤ (w.alloc (.cells #[.int .i64 k, .string tab, .string name, .string dest, .int .i64 n, .bool fl, .slice Aa D.a.length ca, .slice Ab D.b.length cb, .slice Ac D.c.length cc, .slice Ad D.d.length cd, .slice Ae D.e.length ce] 28)).heap.size := by simp
      refine ⟨w1.heap.size, _, _, _, _, _, _, rfl, Nat.le_trans hle f1.size, ⟨(own_weaken o1 hle).alloc _, (own_weaken o2 hle).alloc _, (own_weaken o3 hle).alloc _, (own_weaken o4 hle).alloc _, (own_weaken o5 hle).alloc _⟩, ⟨blk_new w1 _, Row.nil _ _, by simp, by simp⟩, ?_⟩
      exact ((((Fr.refl (fun _ => False) w).alloc _).trans f1 (fun _ _ h => h))).alloc _
    first
      | rw [if_pos ht] at hm
      | rw [if_neg (by omega)] at hm
    have HM := Lib.hid hm
    clear o1 o2 o3 o4 o5 f1 hm H1
    go_wp2_with fail
    go_ret
    exact HP.out _ _ HM.out.symm rfl

/-- The job that is made for another one's rows. -/
theorem resume_any (w : World) (k : Int) (tab name dest : ByteArray) (n : Int) (fl : Bool) (Aa Ab Ac Ad Ae Ar : Option Addr) (ca cb cc cd ce cr : Nat) (D : Sd) (rows : List S60) (tries : Int)
    (h : SxRd w ⟨k, tab, name, dest, n, fl, .slice Aa D.a.length ca, .slice Ab D.b.length cb, .slice Ac D.c.length cc, .slice Ad D.d.length cd, .slice Ae D.e.length ce⟩ D) (hf : D.Few)
    (hr : Rd w (.slice Ar rows.length cr) rows.length (rowC rows)) (hrl : rows.length ≤ 100) (hri : ∀ r ∈ rows, -9223372036854775808 ≤ r.f1 ∧ r.f1 ≤ 9223372036854775807) :
    Calls Try.prog 16 #[.agg #[.int .i64 k, .string tab, .string name, .string dest, .int .i64 n, .bool fl, .slice Aa D.a.length ca, .slice Ab D.b.length cb, .slice Ac D.c.length cc, .slice Ad D.d.length cd, .slice Ae D.e.length ce], .slice Ar rows.length cr, .int .i64 tries] w
      (MadePost w k tab name dest n fl D 3 rows (max1 tries)) := by
  have hf0 : Fr (fun _ => False) w (w.alloc (.cells #[.int .i64 k, .string tab, .string name, .string dest, .int .i64 n, .bool fl, .slice Aa D.a.length ca, .slice Ab D.b.length cb, .slice Ac D.c.length cc, .slice Ad D.d.length cd, .slice Ae D.e.length ce] 28)) := (Fr.refl _ w).alloc _
  have H1 := Lib.hid (And.intro (h.fr hf0 (fun _ _ => id)) (hr.fr hf0 (fun _ _ => id)))
  have HI := Lib.hid hri
  clear h hf0 hr hri
  by_cases ht : tries < 1
  all_goals
    go_enter Try.func16, Try.ntmps16
    go_wp2_with fail
    refine (cloned_any _ k tab name dest n fl Aa Ab Ac Ad Ae ca cb cc cd ce D H1.out.1 hf).mono ?_
    rintro e w1 ⟨A1, c1, A2, c2, A3, c3, A4, c4, A5, c5, rfl, o1, o2, o3, o4, o5, f1⟩
    have HO := Lib.hid (And.intro o1 (And.intro o2 (And.intro o3 (And.intro o4 (And.intro o5 f1)))))
    have HR := Lib.hid (H1.out.2.fr f1 (fun _ _ => id))
    clear o1 o2 o3 o4 o5 f1
    go_wp2_with fail
    refine ((clone34 w1 Ar rows.length cr (rowC rows) HR.out (rowC_length rows) (rowC_one rows) (by omega)).mono fun _ _ h => clone_ok h).mono ?_
    rintro e w2 ⟨A6, c6, rfl, o6, f2⟩
    have hm : max1 tries = (if tries < 1 then 1 else tries) := rfl
    have HP : Hid (∀ (T : Int) (w3 : World), T = max1 tries → w3 = w2.alloc (.cells #[.int .i64 k, .string tab, .string name, .string dest, .int .i64 n, .bool fl, .slice A1 D.a.length c1, .slice A2 D.b.length c2, .slice A3 D.c.length c3, .slice A4 D.d.length c4, .slice A5 D.e.length c5, .int .i64 3, .slice A6 rows.length c6, .int .i64 T, .int .i64 0] 68) →
        MadePost w k tab name dest n fl D 3 rows (max1 tries) (.returned (.pointer (some ⟨w2.heap.size, 0, none⟩))) w3) := by
      rintro T w3 rfl rfl
      obtain ⟨o1, o2, o3, o4, o5, f1⟩ := HO.out
      have hle : w.heap.size ≤ (w.alloc (.cells #[.int .i64 k, .string tab, .string name, .string dest, .int .i64 n, .bool fl, .slice Aa D.a.length ca, .slice Ab D.b.length cb, .slice Ac D.c.length cc, .slice Ad D.d.length cd, .slice Ae D.e.length ce] 28)).heap.size := by simp
      have f3 := ((Fr.refl (fun _ => False) w2).alloc (.cells #[.int .i64 k, .string tab, .string name, .string dest, .int .i64 n, .bool fl, .slice A1 D.a.length c1, .slice A2 D.b.length c2, .slice A3 D.c.length c3, .slice A4 D.d.length c4, .slice A5 D.e.length c5, .int .i64 3, .slice A6 rows.length c6, .int .i64 (max1 tries), .int .i64 0] 68))
      refine ⟨w2.heap.size, _, _, _, _, _, _, rfl, Nat.le_trans hle (Nat.le_trans f1.size f2.size), ⟨(own_weaken (f2.own o1 (fun _ _ => id)) hle).alloc _, (own_weaken (f2.own o2 (fun _ _ => id)) hle).alloc _, (own_weaken (f2.own o3 (fun _ _ => id)) hle).alloc _, (own_weaken (f2.own o4 (fun _ _ => id)) hle).alloc _, (own_weaken (f2.own o5 (fun _ _ => id)) hle).alloc _⟩, ⟨blk_new w2 _, (Row.of_own o6).fr f3 (fun _ _ _ _ => id), hrl, HI.out⟩, ?_⟩
      exact ((((Fr.refl (fun _ => False) w).alloc _).trans f1 (fun _ _ h => h)).trans f2 (fun _ _ h => h)).alloc _
    first
      | rw [if_pos ht] at hm
      | rw [if_neg (by omega)] at hm
    have HM := Lib.hid hm
    clear HO HR o6 f2 hm H1
    go_wp2_with fail
    go_ret
    exact HP.out _ _ HM.out.symm rfl

/-- The rows that the job stands at. -/
theorem after_any (w : World) (g : Nat) (x : Sx) (phase : Int) (va : Value) (rows : List S60) (tries err : Int) (hJ : JobR w g x phase va rows tries err) :
    Calls Try.prog 19 #[.pointer (some ⟨g, 0, none⟩)] w (CloneRow w rows) := by
  obtain ⟨A, c, rfl, hc⟩ := hJ.after.slice
  have c12 := blk_cell hJ.blk 12
  simp only [List.getElem?_toArray, List.getElem?_cons_succ, List.getElem?_cons_zero] at c12
  have HJ := Lib.hid (And.intro hJ.after hJ.few)
  clear hJ
  go_enter Try.func19, Try.ntmps19
  go_wp2_with fail
  refine (clone_row w A c rows HJ.out.1 (by have := HJ.out.2; omega)).mono ?_
  rintro e w1 ⟨A1, c1, rfl, hc1, hr1, f1⟩
  have HF : Hid (CloneRow w rows (.returned (.slice A1 rows.length c1)) w1) := ⟨A1, c1, rfl, hc1, hr1, f1⟩
  clear hr1 f1
  go_wp2_with fail
  go_ret
  exact HF.out
end Go.Proofs.Ytplpdeanepdokaa
