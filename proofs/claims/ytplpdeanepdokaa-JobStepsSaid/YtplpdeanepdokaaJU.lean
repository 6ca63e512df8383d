/- A step of the job, whole. -/
import Derived.Test.YtplpdeanepdokaaJT
namespace Go.Proofs.Ytplpdeanepdokaa
open Go.RowKit H Go.Proofs.Ytplpdeanepdokaa.PJobSteps
open Go.Proofs.YtplpdeanepdokaaW.PrintWords (Kd)

theorem step_three (w : World) (g p : Nat) (x : Sx) (rows : List S60) (tries err : Int) (v : Value) (ans : List Int) (xs : List ByteArray) (held : Int)
    (h : JW w g p x 3 rows tries err v ans xs held) (hx : xs.length < 999980) (hn : ans.length < 1000000) (hs : x.name.size ≤ 1000)
    (hi0 : -9223372036854775808 ≤ hdA ans.tail) (hi1 : hdA ans.tail ≤ 9223372036854775807) :
    Calls Try.prog 10 #[.pointer (some ⟨g, 0, none⟩), .iface 34 (.pointer (some ⟨p, 0, none⟩))] w
      (StepPost w g p v x (stepThree x.name ⟨3, rows, tries, err, ans, xs, held⟩)) := by
  have HH := Lib.hid h
  have HI := Lib.hid (And.intro hi0 hi1)
  obtain ⟨⟨va, hJ⟩, ⟨vt, hT⟩⟩ := h
  have c11 := blk_cell hJ.blk 11
  simp only [List.getElem?_toArray, List.getElem?_cons_succ, List.getElem?_cons_zero] at c11
  have hna := na_Token
  have hme := me_Token
  clear hJ hi0 hi1
  go_enter Try.func10, Try.ntmps10
  go_wp2_with fail
  refine (token_any w p vt v ans xs held hT (by omega) hn).mono ?_
  rintro e w1 ⟨rfl, h1⟩
  obtain ⟨v1, hj1, f1, b1'⟩ := JP2.told HH.out h1
  have HX := Lib.hid (And.intro hj1 (And.intro f1 b1'))
  obtain ⟨⟨va1, hj1⟩, ht1⟩ := hj1
  have c11' := blk_cell hj1.blk 11
  simp only [List.getElem?_toArray, List.getElem?_cons_succ, List.getElem?_cons_zero] at c11'
  cases hb : b1 (hdA ans) with
  | false =>
    have HF : Hid (StepPost w g p v x (stepThree x.name ⟨3, rows, tries, err, ans, xs, held⟩) (.returned (.tuple #[.int .i64 0, .bool false])) w1) := by
      have e : stepThree x.name ⟨3, rows, tries, err, ans, xs, held⟩ = ⟨3, rows, tries, err, ans.tail, xs ++ [tokenT], held⟩ := by simp [stepThree, hb]
      rw [e]
      exact StepPost.low ⟨v1, HX.out.1, HX.out.2.1, HX.out.2.2⟩ (by simp)
    clear h1 hj1 ht1 f1 b1' hT HH c11 hb HX
    go_wp2
    go_ret2
    exact HF.out
  | true =>
    clear h1 hj1 ht1 f1 b1' hT HH c11 c11'
    have hb' := hb
    clear hb
    go_wp2_with fail
    refine (fill_any w1 g p x 3 rows tries err v1 ans.tail _ held HX.out.1 (by simp; omega) (by simp; omega) hs HI.out.1 HI.out.2).mono ?_
    rintro e w2 ⟨rfl, h2⟩
    have h3 := JP2.trans ⟨v1, HX.out.1, HX.out.2.1, HX.out.2.2⟩ fun v1' hj => JP2.again HX.out.1 hj h2
    obtain ⟨v2, ⟨⟨va2, hj2⟩, ht2⟩, f2, b2⟩ := h3
    have c11' := blk_cell hj2.blk 11
    simp only [List.getElem?_toArray, List.getElem?_cons_succ, List.getElem?_cons_zero] at c11'
    cases hb0 : b0 (hdA ans.tail) with
    | true =>
      have HF : Hid (StepPost w g p v x (stepThree x.name ⟨3, rows, tries, err, ans, xs, held⟩) (.returned (.tuple #[.int .i64 0, .bool false])) w2) := by
        have e : stepThree x.name ⟨3, rows, tries, err, ans, xs, held⟩ = ⟨4, rows, tries, err, ans.tail.tail, xs ++ [tokenT] ++ [batchT x.name rows], held⟩ := by simp [stepThree, hb', hb0]
        rw [e]
        rw [hb0] at hj2
        exact StepPost.low (s := ⟨4, rows, tries, err, ans.tail.tail, xs ++ [tokenT] ++ [batchT x.name rows], held⟩) ⟨v2, ⟨⟨va2, hj2⟩, ht2⟩, f2, b2⟩ (by simp)
      rw [hb0, if_pos rfl] at c11'
      clear h2 hj2 ht2 f2 b2 hb' hb0 HX HI
      go_wp2
      go_ret2
      exact HF.out
    | false =>
      have HF : Hid (StepPost w g p v x (stepThree x.name ⟨3, rows, tries, err, ans, xs, held⟩) (.returned (.tuple #[.int .i64 0, .bool false])) w2) := by
        have e : stepThree x.name ⟨3, rows, tries, err, ans, xs, held⟩ = ⟨3, [⟨1, hdA ans.tail, ⟨#[]⟩⟩], tries, err, ans.tail.tail, xs ++ [tokenT] ++ [batchT x.name rows], held⟩ := by simp [stepThree, hb', hb0]
        rw [e]
        rw [hb0] at hj2
        exact StepPost.low (s := ⟨3, [⟨1, hdA ans.tail, ⟨#[]⟩⟩], tries, err, ans.tail.tail, xs ++ [tokenT] ++ [batchT x.name rows], held⟩) ⟨v2, ⟨⟨va2, hj2⟩, ht2⟩, f2, b2⟩ (by simp)
      rw [hb0, if_neg (by decide)] at c11'
      clear h2 hj2 ht2 f2 b2 hb' hb0 HX HI
      go_wp2
      go_ret2
      exact HF.out

theorem step_six (w : World) (g p : Nat) (x : Sx) (rows : List S60) (tries err : Int) (v : Value) (ans : List Int) (xs : List ByteArray) (held : Int)
    (h : JW w g p x 6 rows tries err v ans xs held) :
    Calls Try.prog 10 #[.pointer (some ⟨g, 0, none⟩), .iface 34 (.pointer (some ⟨p, 0, none⟩))] w
      (StepPost w g p v x ⟨6, rows, tries, err, ans, xs, held⟩) := by
  have HF : Hid (StepPost w g p v x ⟨6, rows, tries, err, ans, xs, held⟩ (.returned (.tuple #[.int .i64 err, .bool true])) w) :=
    StepPost.high (s := ⟨6, rows, tries, err, ans, xs, held⟩) (JP2.refl h) (by simp)
  obtain ⟨⟨va, hJ⟩, hT⟩ := h
  have c11 := blk_cell hJ.blk 11
  have c14 := blk_cell hJ.blk 14
  simp only [List.getElem?_toArray, List.getElem?_cons_succ, List.getElem?_cons_zero] at c11 c14
  clear hJ hT
  go_enter Try.func10, Try.ntmps10
  go_wp2
  go_ret2
  exact HF.out

/-- A step, whatever the phase. -/
noncomputable def stepA (tab name : ByteArray) (s : JA) : JA :=
  if s.phase = 1 then stepOne tab name s else if s.phase = 2 then stepTwo s else if s.phase = 3 then stepThree name s else if s.phase = 4 then stepFour tab name s else if s.phase = 5 then stepFive tab name s else s

structure StepOk (x : Sx) (s : JA) : Prop where
  p1 : 1 ≤ s.phase
  p6 : s.phase ≤ 6
  xs : s.xs.length < 999980
  ans : s.ans.length < 1000000
  ints : ∀ a ∈ s.ans, -9223372036854775808 ≤ a ∧ a ≤ 9223372036854775807
  name : x.name.size ≤ 1000
  tab : x.tab.size ≤ 1000
  h0 : -900 ≤ s.held
  h1 : s.held ≤ 900
  t1 : s.phase ≤ 4 → 1 ≤ s.tries
  t2 : s.tries ≤ 9223372036854775807

theorem hdA_int (l : List Int) (h : ∀ a ∈ l, -9223372036854775808 ≤ a ∧ a ≤ 9223372036854775807) : -9223372036854775808 ≤ hdA l ∧ hdA l ≤ 9223372036854775807 := by
  cases l with
  | nil => simp [hdA]
  | cons a l => exact h a (by simp)

theorem step_any (w : World) (g p : Nat) (x : Sx) (s : JA) (v : Value) (h : JWa w g p x s v) (ok : StepOk x s) :
    Calls Try.prog 10 #[.pointer (some ⟨g, 0, none⟩), .iface 34 (.pointer (some ⟨p, 0, none⟩))] w (StepPost w g p v x (stepA x.tab x.name s)) := by
  obtain ⟨phase, rows, tries, err, ans, xs, held⟩ := s
  obtain ⟨p1, p6, hxs, hans, hints, hname, htab, h0, h1, t1, t2⟩ := ok
  simp only at p1 p6 hxs hans hints h0 h1 t1 t2
  have ht := hdA_int ans.tail (fun a ha => hints a (List.mem_of_mem_tail ha))
  have : phase = 1 ∨ phase = 2 ∨ phase = 3 ∨ phase = 4 ∨ phase = 5 ∨ phase = 6 := by omega
  rcases this with rfl | rfl | rfl | rfl | rfl | rfl
  · exact step_one w g p x rows tries err v ans xs held h hxs hans hname htab h0 h1 (t1 (by decide)) t2
  · exact step_two w g p x rows tries err v ans xs held h (by omega) hans
  · exact step_three w g p x rows tries err v ans xs held h hxs hans hname ht.1 ht.2
  · exact step_four w g p x rows tries err v ans xs held h hxs hans hname htab h0 h1 (t1 (by decide)) t2
  · exact step_five w g p x rows tries err v ans xs held h hxs hans hname htab h0 h1 t2
  · exact step_six w g p x rows tries err v ans xs held h
end Go.Proofs.Ytplpdeanepdokaa
