/- A step of the job. -/
import Derived.Test.YtplpdeanepdokaaJN
import Derived.Test.YtplpdeanepdokaaH2
namespace Go.Proofs.Ytplpdeanepdokaa
open Go.RowKit H Go.Proofs.Ytplpdeanepdokaa.PJobSteps
open Go.Proofs.YtplpdeanepdokaaW.PrintWords (Kd)

theorem regW_ok (t : ByteArray) (ht : t.size ≤ 1000) : ∀ x ∈ regW t, WtOk x := by
  intro x hx
  simp [regW] at hx
  rcases hx with rfl | rfl | rfl <;> exact ⟨by simp, by simp, by simp, by simp, by first | exact ht | simp [ByteArray.size], by simp [ByteArray.size]⟩
theorem markW_ok (t : ByteArray) (ht : t.size ≤ 1000) : ∀ x ∈ markW t, WtOk x := by
  intro x hx
  simp [markW] at hx
  rcases hx with rfl | rfl | rfl <;> exact ⟨by simp, by simp, by simp, by simp, by first | exact ht | simp [ByteArray.size], by simp [ByteArray.size]⟩

/-- A job and its world, as data. -/
structure JA where
  phase : Int
  rows : List S60
  tries : Int
  err : Int
  ans : List Int
  xs : List ByteArray
  held : Int

def freeT : ByteArray := ⟨#[102, 114, 101, 101]⟩
def elderT : ByteArray := ⟨#[101, 108, 100, 101, 114]⟩
def tokenT : ByteArray := ⟨#[116, 111, 107, 101, 110]⟩
def regT (name : ByteArray) : ByteArray := ⟨#[114, 101, 103, 105, 115, 116, 101, 114, 32]⟩ ++ name
def setT (name : ByteArray) : ByteArray := ⟨#[115, 101, 116, 116, 108, 101, 32]⟩ ++ name
def abaT (name : ByteArray) : ByteArray := ⟨#[97, 98, 97, 110, 100, 111, 110, 32]⟩ ++ name
/-- A step, phase by phase. -/
noncomputable def stepOne (tab name : ByteArray) (s : JA) : JA :=
  if b1 (hdA s.ans) = true then
    { phase := if b3 (hdA s.ans.tail) = true then 6 else 2, rows := s.rows, tries := s.tries, err := errB (hdA s.ans.tail), ans := s.ans.tail.tail, xs := s.xs ++ [tryT (regW tab)] ++ [regT name] ++ [freeT], held := s.held + 1 - 1 }
  else { phase := failP 1 s.tries 6, rows := s.rows, tries := s.tries - 1, err := failE s.err s.tries, ans := s.ans.tail, xs := s.xs ++ [tryT (regW tab)], held := s.held }
def stepTwo (s : JA) : JA :=
  { phase := if b1 (hdA s.ans) = true then 2 else 3, rows := s.rows, tries := s.tries, err := s.err, ans := s.ans.tail, xs := s.xs ++ [elderT], held := s.held }
noncomputable def stepThree (name : ByteArray) (s : JA) : JA :=
  if b1 (hdA s.ans) = true then
    { phase := if b0 (hdA s.ans.tail) = true then 4 else 3, rows := if b0 (hdA s.ans.tail) = true then s.rows else [⟨1, hdA s.ans.tail, ⟨#[]⟩⟩], tries := s.tries, err := s.err, ans := s.ans.tail.tail, xs := s.xs ++ [tokenT] ++ [batchT name s.rows], held := s.held }
  else { phase := 3, rows := s.rows, tries := s.tries, err := s.err, ans := s.ans.tail, xs := s.xs ++ [tokenT], held := s.held }
noncomputable def stepFour (tab name : ByteArray) (s : JA) : JA :=
  if b1 (hdA s.ans) = true then
    { phase := if b3 (hdA s.ans.tail) = true then 5 else 6, rows := s.rows, tries := s.tries, err := errB (hdA s.ans.tail), ans := s.ans.tail.tail, xs := s.xs ++ [tryT (markW tab)] ++ [setT name] ++ [freeT], held := s.held + 1 - 1 }
  else { phase := failP 4 s.tries 5, rows := s.rows, tries := s.tries - 1, err := failE s.err s.tries, ans := s.ans.tail, xs := s.xs ++ [tryT (markW tab)], held := s.held }
noncomputable def stepFive (tab name : ByteArray) (s : JA) : JA :=
  if b1 (hdA s.ans) = true then
    { phase := if b3 (hdA s.ans.tail) = true then 5 else 6, rows := s.rows, tries := s.tries, err := s.err, ans := s.ans.tail.tail, xs := s.xs ++ [tryT ((markW tab).take 2)] ++ [abaT name] ++ [freeT], held := s.held + 1 - 1 }
  else { phase := 5, rows := s.rows, tries := s.tries, err := s.err, ans := s.ans.tail, xs := s.xs ++ [tryT ((markW tab).take 2)], held := s.held }

def JWa (w : World) (g p : Nat) (x : Sx) (s : JA) (v : Value) : Prop := JW w g p x s.phase s.rows s.tries s.err v s.ans s.xs s.held
def JPa (w : World) (g p : Nat) (v : Value) (x : Sx) (s : JA) (w' : World) : Prop := JP2 w g p v x s.phase s.rows s.tries s.err s.ans s.xs s.held w'
/-- What a step answers. -/
def StepPost (w : World) (g p : Nat) (v : Value) (x : Sx) (s : JA) (e : Ending) (w' : World) : Prop :=
  e = .returned (.tuple #[.int .i64 (if s.phase < 5 then 0 else s.err), .bool (decide (5 ≤ s.phase))]) ∧ JPa w g p v x s w'
theorem StepPost.low {w w' : World} {g p : Nat} {v : Value} {x : Sx} {s : JA} (h : JPa w g p v x s w') (hp : s.phase < 5) : StepPost w g p v x s (.returned (.tuple #[.int .i64 0, .bool false])) w' := by
  refine ⟨?_, h⟩
  rw [if_pos hp, decide_eq_false (by omega)]
theorem StepPost.high {w w' : World} {g p : Nat} {v : Value} {x : Sx} {s : JA} (h : JPa w g p v x s w') (hp : ¬ s.phase < 5) : StepPost w g p v x s (.returned (.tuple #[.int .i64 s.err, .bool true])) w' := by
  refine ⟨?_, h⟩
  rw [if_neg hp, decide_eq_true (by omega)]

theorem step_two (w : World) (g p : Nat) (x : Sx) (rows : List S60) (tries err : Int) (v : Value) (ans : List Int) (xs : List ByteArray) (held : Int)
    (h : JW w g p x 2 rows tries err v ans xs held) (hx : xs.length < 999990) (hn : ans.length < 1000000) :
    Calls Try.prog 10 #[.pointer (some ⟨g, 0, none⟩), .iface 34 (.pointer (some ⟨p, 0, none⟩))] w
      (StepPost w g p v x (stepTwo ⟨2, rows, tries, err, ans, xs, held⟩)) := by
  have HH := Lib.hid h
  obtain ⟨⟨va, hJ⟩, ⟨vt, hT⟩⟩ := h
  have c11 := blk_cell hJ.blk 11
  simp only [List.getElem?_toArray, List.getElem?_cons_succ, List.getElem?_cons_zero] at c11
  have hna := na_Elder
  have hme := me_Elder
  clear hJ
  go_enter Try.func10, Try.ntmps10
  go_wp2_with fail
  refine (elder_any w p vt v ans xs held hT (by omega) hn).mono ?_
  rintro e w1 ⟨rfl, h1⟩
  obtain ⟨v1, ⟨⟨va1, hj1⟩, ht1⟩, f1, b1'⟩ := JP2.told HH.out h1
  have c11' := blk_cell hj1.blk 11
  have f11 := blk_frozen hj1.blk 11
  simp only [List.getElem?_toArray, List.getElem?_cons_succ, List.getElem?_cons_zero] at c11'
  cases hb : b1 (hdA ans) with
  | true =>
    have HF : Hid (StepPost w g p v x (stepTwo ⟨2, rows, tries, err, ans, xs, held⟩) (.returned (.tuple #[.int .i64 0, .bool false])) w1) := by
      have e : stepTwo ⟨2, rows, tries, err, ans, xs, held⟩ = ⟨2, rows, tries, err, ans.tail, xs ++ [elderT], held⟩ := by simp [stepTwo, hb]
      rw [e]
      exact StepPost.low ⟨v1, ⟨⟨va1, hj1⟩, ht1⟩, f1, b1'⟩ (by simp)
    clear h1 hj1 ht1 f1 b1' hT HH c11 hb
    go_wp2
    go_ret2
    exact HF.out
  | false =>
    have HF : Hid (StepPost w g p v x (stepTwo ⟨2, rows, tries, err, ans, xs, held⟩) (.returned (.tuple #[.int .i64 0, .bool false])) (w1.setCell ⟨g, 11, none⟩ (.int .i64 3))) := by
      have e : stepTwo ⟨2, rows, tries, err, ans, xs, held⟩ = ⟨3, rows, tries, err, ans.tail, xs ++ [elderT], held⟩ := by simp [stepTwo, hb]
      rw [e]
      exact StepPost.low (JP2.trans ⟨v1, ⟨⟨va1, hj1⟩, ht1⟩, f1, b1'⟩ fun v2 hj => JP2.job hj (hj1.setPhase 3)) (by simp)
    clear h1 hj1 ht1 f1 b1' hT HH c11 hb
    go_wp2
    go_ret2
    exact HF.out
end Go.Proofs.Ytplpdeanepdokaa
