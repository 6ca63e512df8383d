/- The job's own methods. -/
import Derived.Test.YtplpdeanepdokaaJ4
import Derived.Test.YtplpdeanepdokaaJC
import Derived.Test.YtplpdeanepdokaaJP
import Derived.Deep.RegionWith
import Derived.Defers
namespace Go.Proofs.Ytplpdeanepdokaa
open Go.RowKit H Go.Proofs.Ytplpdeanepdokaa.PJobSteps
open Go.Proofs.YtplpdeanepdokaaW.PrintWords (Kd)

/-- A statement's cells. -/
structure Sx where
  k : Int
  tab : ByteArray
  name : ByteArray
  dest : ByteArray
  n : Int
  fl : Bool
  a : Value
  b : Value
  c : Value
  d : Value
  e : Value

/-- A job at block g. -/
structure JobR (w : World) (g : Nat) (x : Sx) (phase : Int) (va : Value) (rows : List S60) (tries err : Int) : Prop where
  blk : w.heap[g]? = some (.cells #[.int .i64 x.k, .string x.tab, .string x.name, .string x.dest, .int .i64 x.n, .bool x.fl, x.a, x.b, x.c, x.d, x.e, .int .i64 phase, va, .int .i64 tries, .int .i64 err] 68 (0, 0))
  after : Row w 60 va rows.length (rowC rows)
  few : rows.length ≤ 100
  ints : ∀ r ∈ rows, -9223372036854775808 ≤ r.f1 ∧ r.f1 ≤ 9223372036854775807

def JobPost (w : World) (g : Nat) (x : Sx) (phase : Int) (rows : List S60) (tries err : Int) (w' : World) : Prop :=
  ∃ va', JobR w' g x phase va' rows tries err ∧ Fr (fun k => k = g) w w'
theorem JobPost.refl {w : World} {g : Nat} {x : Sx} {phase : Int} {va : Value} {rows : List S60} {tries err : Int} (h : JobR w g x phase va rows tries err) : JobPost w g x phase rows tries err w :=
  ⟨va, h, Fr.refl _ _⟩
theorem JobPost.trans {w w1 w2 : World} {g : Nat} {x : Sx} {phase phase2 : Int} {rows rows2 : List S60} {tries err tries2 err2 : Int}
    (h : JobPost w g x phase rows tries err w1) (h2 : ∀ va, JobR w1 g x phase va rows tries err → JobPost w1 g x phase2 rows2 tries2 err2 w2) : JobPost w g x phase2 rows2 tries2 err2 w2 := by
  obtain ⟨va, hj, hf⟩ := h
  obtain ⟨va2, hj2, hf2⟩ := h2 va hj
  exact ⟨va2, hj2, hf.trans hf2 (fun _ _ h => h)⟩
theorem JobR.setPhase {w : World} {g : Nat} {x : Sx} {phase : Int} {va : Value} {rows : List S60} {tries err : Int} (h : JobR w g x phase va rows tries err) (n : Int) :
    JobPost w g x n rows tries err (w.setCell ⟨g, 11, none⟩ (.int .i64 n)) := by
  have hf : Fr (fun k => k = g) w (w.setCell ⟨g, 11, none⟩ (.int .i64 n)) := Fr.setCell (S := fun k => k = g) (Fr.refl _ w) (fun _ => rfl) _
  exact ⟨va, ⟨by simpa using blk_set h.blk 11 (.int .i64 n), h.after.fr hf (fun k cur fr hk hs => blk_ty hk h.blk (by decide) hs), h.few, h.ints⟩, hf⟩
theorem JobR.setTries {w : World} {g : Nat} {x : Sx} {phase : Int} {va : Value} {rows : List S60} {tries err : Int} (h : JobR w g x phase va rows tries err) (n : Int) :
    JobPost w g x phase rows n err (w.setCell ⟨g, 13, none⟩ (.int .i64 n)) := by
  have hf : Fr (fun k => k = g) w (w.setCell ⟨g, 13, none⟩ (.int .i64 n)) := Fr.setCell (S := fun k => k = g) (Fr.refl _ w) (fun _ => rfl) _
  exact ⟨va, ⟨by simpa using blk_set h.blk 13 (.int .i64 n), h.after.fr hf (fun k cur fr hk hs => blk_ty hk h.blk (by decide) hs), h.few, h.ints⟩, hf⟩
theorem JobR.setErr {w : World} {g : Nat} {x : Sx} {phase : Int} {va : Value} {rows : List S60} {tries err : Int} (h : JobR w g x phase va rows tries err) (n : Int) :
    JobPost w g x phase rows tries n (w.setCell ⟨g, 14, none⟩ (.int .i64 n)) := by
  have hf : Fr (fun k => k = g) w (w.setCell ⟨g, 14, none⟩ (.int .i64 n)) := Fr.setCell (S := fun k => k = g) (Fr.refl _ w) (fun _ => rfl) _
  exact ⟨va, ⟨by simpa using blk_set h.blk 14 (.int .i64 n), h.after.fr hf (fun k cur fr hk hs => blk_ty hk h.blk (by decide) hs), h.few, h.ints⟩, hf⟩
theorem JobR.setAfter {w : World} {g : Nat} {x : Sx} {phase : Int} {va va' : Value} {rows rows' : List S60} {tries err : Int} (h : JobR w g x phase va rows tries err)
    (hr : Row w 60 va' rows'.length (rowC rows')) (hf' : rows'.length ≤ 100) (hi : ∀ r ∈ rows', -9223372036854775808 ≤ r.f1 ∧ r.f1 ≤ 9223372036854775807) :
    JobPost w g x phase rows' tries err (w.setCell ⟨g, 12, none⟩ va') := by
  have hf : Fr (fun k => k = g) w (w.setCell ⟨g, 12, none⟩ va') := Fr.setCell (S := fun k => k = g) (Fr.refl _ w) (fun _ => rfl) _
  exact ⟨va', ⟨by simpa using blk_set h.blk 12 va', hr.fr hf (fun k cur fr hk hs => blk_ty hk h.blk (by decide) hs), hf', hi⟩, hf⟩

theorem phase_any (w : World) (g : Nat) (x : Sx) (phase : Int) (va : Value) (rows : List S60) (tries err : Int) (hJ : JobR w g x phase va rows tries err) :
    Calls Try.prog 11 #[.pointer (some ⟨g, 0, none⟩)] w fun e w' => e = .returned (.int .i64 phase) ∧ w = w' := by
  have c11 := blk_cell hJ.blk 11
  simp only [List.getElem?_toArray, List.getElem?_cons_succ, List.getElem?_cons_zero] at c11
  clear hJ
  go_enter Try.func11, Try.ntmps11
  go_wp2
  go_ret
  exact ⟨rfl, rfl⟩

theorem turn_good (w : World) (g : Nat) (x : Sx) (phase : Int) (va : Value) (rows : List S60) (tries err : Int) (hJ : JobR w g x phase va rows tries err) (good bad : Int) :
    Calls Try.prog 54 #[.pointer (some ⟨g, 0, none⟩), .int .i64 0, .int .i64 good, .int .i64 bad] w fun e w' => e = .returned (.tuple #[]) ∧ JobPost w g x good rows tries 0 w' := by
  have c14 := blk_cell hJ.blk 14
  have c11 := blk_cell hJ.blk 11
  have f14 := blk_frozen hJ.blk 14
  have f11 := blk_frozen hJ.blk 11
  simp only [List.getElem?_toArray, List.getElem?_cons_succ, List.getElem?_cons_zero] at c14 c11
  have HF := Lib.hid ((hJ.setErr 0).trans fun va h => h.setPhase good)
  clear hJ
  go_enter Try.func54, Try.ntmps54
  go_wp2
  go_end0
  exact ⟨rfl, HF.out⟩
theorem turn_bad (w : World) (g : Nat) (x : Sx) (phase : Int) (va : Value) (rows : List S60) (tries err : Int) (hJ : JobR w g x phase va rows tries err) (good bad : Int) :
    Calls Try.prog 54 #[.pointer (some ⟨g, 0, none⟩), .int .i64 12, .int .i64 good, .int .i64 bad] w fun e w' => e = .returned (.tuple #[]) ∧ JobPost w g x bad rows tries 12 w' := by
  have c14 := blk_cell hJ.blk 14
  have c11 := blk_cell hJ.blk 11
  have f14 := blk_frozen hJ.blk 14
  have f11 := blk_frozen hJ.blk 11
  simp only [List.getElem?_toArray, List.getElem?_cons_succ, List.getElem?_cons_zero] at c14 c11
  have HF := Lib.hid (((hJ.setErr 12).trans fun va h => h.setPhase good).trans fun va h => h.setPhase bad)
  clear hJ
  go_enter Try.func54, Try.ntmps54
  go_wp2
  go_end0
  exact ⟨rfl, HF.out⟩
theorem turn_any (w : World) (g : Nat) (x : Sx) (phase : Int) (va : Value) (rows : List S60) (tries err : Int) (hJ : JobR w g x phase va rows tries err) (n good bad : Int) :
    Calls Try.prog 54 #[.pointer (some ⟨g, 0, none⟩), .int .i64 (errB n), .int .i64 good, .int .i64 bad] w fun e w' => e = .returned (.tuple #[]) ∧ JobPost w g x (if b3 n = true then bad else good) rows tries (errB n) w' := by
  cases h : b3 n with
  | true =>
    have he : errB n = 12 := by rw [errB, h]; rfl
    rw [he, if_pos rfl]
    exact turn_bad w g x phase va rows tries err hJ good bad
  | false =>
    have he : errB n = 0 := by rw [errB, h]; rfl
    rw [he, if_neg (by decide)]
    exact turn_good w g x phase va rows tries err hJ good bad

/-- A try less. -/
def failP (phase tries p : Int) : Int := if tries = 1 then p else phase
def failE (err tries : Int) : Int := if tries = 1 then 34 else err
theorem failed_any (w : World) (g : Nat) (x : Sx) (phase : Int) (va : Value) (rows : List S60) (tries err : Int) (hJ : JobR w g x phase va rows tries err) (ht : 1 ≤ tries) (ht2 : tries ≤ 9223372036854775807) (p : Int) :
    Calls Try.prog 27 #[.pointer (some ⟨g, 0, none⟩), .int .i64 p] w fun e w' => e = .returned (.tuple #[]) ∧ JobPost w g x (failP phase tries p) rows (tries - 1) (failE err tries) w' := by
  have c14 := blk_cell hJ.blk 14
  have c11 := blk_cell hJ.blk 11
  have c13 := blk_cell hJ.blk 13
  have f14 := blk_frozen hJ.blk 14
  have f11 := blk_frozen hJ.blk 11
  have f13 := blk_frozen hJ.blk 13
  simp only [List.getElem?_toArray, List.getElem?_cons_succ, List.getElem?_cons_zero] at c14 c11 c13
  have HF := Lib.hid (((hJ.setTries (tries - 1)).trans fun va h => h.setPhase p).trans fun va h => h.setErr 34)
  have HG := Lib.hid (hJ.setTries (tries - 1))
  clear hJ
  by_cases h1 : tries = 1
  · subst h1
    go_enter Try.func27, Try.ntmps27
    go_wp2
    go_end0
    exact ⟨rfl, HF.out⟩
  · have h2 : (tries - 1 == 0) = false := by simp; omega
    have e1 : failP phase tries p = phase := if_neg h1
    have e2 : failE err tries = err := if_neg h1
    rw [e1, e2]
    clear h1 e1 e2
    go_enter Try.func27, Try.ntmps27
    go_wp2
    go_end0
    exact ⟨rfl, HG.out⟩

theorem na_Try (a : Addr) (w : World) : (nilAhead 220 34 (.pointer (some a)) "Try").run Try.prog w = .ok (some false) w := by kernel_rfl
theorem me_Try (a : Addr) (w : World) : (method 220 34 (.pointer (some a)) "Try").run Try.prog w = .ok (36, .pointer (some a)) w := by kernel_rfl
theorem na_Free (a : Addr) (w : World) : (nilAhead 220 34 (.pointer (some a)) "Free").run Try.prog w = .ok (some false) w := by kernel_rfl
theorem me_Free (a : Addr) (w : World) : (method 220 34 (.pointer (some a)) "Free").run Try.prog w = .ok (40, .pointer (some a)) w := by kernel_rfl
theorem na_Register (a : Addr) (w : World) : (nilAhead 220 34 (.pointer (some a)) "Register").run Try.prog w = .ok (some false) w := by kernel_rfl
theorem me_Register (a : Addr) (w : World) : (method 220 34 (.pointer (some a)) "Register").run Try.prog w = .ok (39, .pointer (some a)) w := by kernel_rfl
theorem na_Elder (a : Addr) (w : World) : (nilAhead 220 34 (.pointer (some a)) "Elder").run Try.prog w = .ok (some false) w := by kernel_rfl
theorem me_Elder (a : Addr) (w : World) : (method 220 34 (.pointer (some a)) "Elder").run Try.prog w = .ok (41, .pointer (some a)) w := by kernel_rfl
theorem na_Token (a : Addr) (w : World) : (nilAhead 220 34 (.pointer (some a)) "Token").run Try.prog w = .ok (some false) w := by kernel_rfl
theorem me_Token (a : Addr) (w : World) : (method 220 34 (.pointer (some a)) "Token").run Try.prog w = .ok (42, .pointer (some a)) w := by kernel_rfl
theorem na_Batch (a : Addr) (w : World) : (nilAhead 220 34 (.pointer (some a)) "Batch").run Try.prog w = .ok (some false) w := by kernel_rfl
theorem me_Batch (a : Addr) (w : World) : (method 220 34 (.pointer (some a)) "Batch").run Try.prog w = .ok (43, .pointer (some a)) w := by kernel_rfl
theorem na_Settle (a : Addr) (w : World) : (nilAhead 220 34 (.pointer (some a)) "Settle").run Try.prog w = .ok (some false) w := by kernel_rfl
theorem me_Settle (a : Addr) (w : World) : (method 220 34 (.pointer (some a)) "Settle").run Try.prog w = .ok (44, .pointer (some a)) w := by kernel_rfl
theorem na_Abandon (a : Addr) (w : World) : (nilAhead 220 34 (.pointer (some a)) "Abandon").run Try.prog w = .ok (some false) w := by kernel_rfl
theorem me_Abandon (a : Addr) (w : World) : (method 220 34 (.pointer (some a)) "Abandon").run Try.prog w = .ok (45, .pointer (some a)) w := by kernel_rfl

end Go.Proofs.Ytplpdeanepdokaa
