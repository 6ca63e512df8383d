/- A step of the job, on. -/
import Derived.Test.YtplpdeanepdokaaJS
namespace Go.Proofs.Ytplpdeanepdokaa
open Go.RowKit H Go.Proofs.Ytplpdeanepdokaa.PJobSteps
open Go.Proofs.YtplpdeanepdokaaW.PrintWords (Kd)
theorem mark2_ok (t : ByteArray) (ht : t.size ≤ 1000) : ∀ x ∈ (markW t).take 2, WtOk x := fun x hx => markW_ok t ht x (List.mem_of_mem_take hx)

/-- 1ASE. -/
theorem step_one (w : World) (g p : Nat) (x : Sx) (rows : List S60) (tries err : Int) (v : Value) (ans : List Int) (xs : List ByteArray) (held : Int)
    (h : JW w g p x 1 rows tries err v ans xs held) (hx : xs.length < 999980) (hn : ans.length < 1000000) (hs : x.name.size ≤ 1000) (hts : x.tab.size ≤ 1000)
    (h0 : -900 ≤ held) (h1 : held ≤ 900) (ht : 1 ≤ tries) (ht2 : tries ≤ 9223372036854775807) :
    Calls Try.prog 10 #[.pointer (some ⟨g, 0, none⟩), .iface 34 (.pointer (some ⟨p, 0, none⟩))] w
      (StepPost w g p v x (stepOne x.tab x.name ⟨1, rows, tries, err, ans, xs, held⟩)) := by
  have HH := Lib.hid h
  obtain ⟨⟨va, hJ⟩, hT⟩ := h
  have c11 := blk_cell hJ.blk 11
  have c1 := blk_cell hJ.blk 1
  simp only [List.getElem?_toArray, List.getElem?_cons_succ, List.getElem?_cons_zero] at c11 c1
  have hmf : ∀ (fn : Fn) (first cap : Array Value) (w : World), (Instr.makeFunc fn first cap).run Try.prog w = .ok (.func fn first cap) w := fun _ _ _ _ => rfl
  have HT := Lib.hid (And.intro ht ht2)
  clear hJ hT ht ht2
  go_enter Try.func10, Try.ntmps10
  go_wp2_with fail
  refine (register_plan w x.tab).mono ?_
  rintro e w1 ⟨b, c, rfl, hr, f0⟩
  have H1 := Lib.hid (HH.out.made f0)
  have HF0 := Lib.hid f0
  have HR := Lib.hid hr
  clear hr f0 HH c1
  go_wp2_with fail
  refine (with26 w1 g p x 1 rows tries err v ans xs held H1.out (by omega) hn hs (by omega) (by omega) b 0 c (regW x.tab) HR.out (by simp [regW]) (by simp [regW]) (regW_ok x.tab hts)).mono ?_
  rintro e w2 ⟨rfl, h2⟩
  unfold With26 at h2
  cases hb : b1 (hdA ans) with
  | false =>
    rw [hb, if_neg (by decide)] at h2
    have h3 := JP2.before HF0.out h2
    obtain ⟨v2, hj2, f2, b2⟩ := h3
    have HX := Lib.hid (And.intro hj2 (And.intro f2 b2))
    obtain ⟨⟨va2, hj2⟩, ht2⟩ := hj2
    have HJ := Lib.hid hj2
    clear h2 hj2 ht2 f2 b2
    have hb' := hb
    clear hb
    go_wp2_with fail
    refine (failed_any w2 g x 1 va2 rows tries err HJ.out HT.out.1 HT.out.2 6).mono ?_
    rintro e w3 ⟨rfl, h4⟩
    have h5 := JP2.trans ⟨v2, HX.out.1, HX.out.2.1, HX.out.2.2⟩ fun v3 hj => JP2.job hj h4
    obtain ⟨v3, ⟨⟨va3, hj3⟩, ht3⟩, f3, b3'⟩ := h5
    have c11' := blk_cell hj3.blk 11
    have c14 := blk_cell hj3.blk 14
    simp only [List.getElem?_toArray, List.getElem?_cons_succ, List.getElem?_cons_zero] at c11' c14
    by_cases h1 : tries = 1
    · have HF : Hid (StepPost w g p v x (stepOne x.tab x.name ⟨1, rows, tries, err, ans, xs, held⟩) (.returned (.tuple #[.int .i64 34, .bool true])) w3) := by
        have e : stepOne x.tab x.name ⟨1, rows, tries, err, ans, xs, held⟩ = ⟨6, rows, tries - 1, 34, ans.tail, xs ++ [tryT (regW x.tab)], held⟩ := by simp [stepOne, hb', failP, failE, h1]
        rw [e]
        rw [failP, failE, if_pos h1, if_pos h1] at hj3
        exact StepPost.high (s := ⟨6, rows, tries - 1, 34, ans.tail, xs ++ [tryT (regW x.tab)], held⟩) ⟨v3, ⟨⟨va3, hj3⟩, ht3⟩, f3, b3'⟩ (by simp)
      rw [failP, if_pos h1] at c11'
      rw [failE, if_pos h1] at c14
      clear h4 hj3 ht3 f3 b3' HT h1 HF0 H1 HR HX HJ hb' c11
      go_wp2
      go_ret2
      exact HF.out
    · have HF : Hid (StepPost w g p v x (stepOne x.tab x.name ⟨1, rows, tries, err, ans, xs, held⟩) (.returned (.tuple #[.int .i64 0, .bool false])) w3) := by
        have e : stepOne x.tab x.name ⟨1, rows, tries, err, ans, xs, held⟩ = ⟨1, rows, tries - 1, err, ans.tail, xs ++ [tryT (regW x.tab)], held⟩ := by simp [stepOne, hb', failP, failE, h1]
        rw [e]
        rw [failP, failE, if_neg h1, if_neg h1] at hj3
        exact StepPost.low (s := ⟨1, rows, tries - 1, err, ans.tail, xs ++ [tryT (regW x.tab)], held⟩) ⟨v3, ⟨⟨va3, hj3⟩, ht3⟩, f3, b3'⟩ (by simp)
      rw [failP, if_neg h1] at c11'
      clear h4 hj3 ht3 f3 b3' HT h1 HF0 H1 HR HX HJ hb' c11 c14
      go_wp2
      go_ret2
      exact HF.out
  | true =>
    rw [hb, if_pos rfl] at h2
    have h3 := JP2.before HF0.out h2
    obtain ⟨v2, ⟨⟨va2, hj2⟩, ht2⟩, f2, b2⟩ := h3
    have c11' := blk_cell hj2.blk 11
    have c14 := blk_cell hj2.blk 14
    simp only [List.getElem?_toArray, List.getElem?_cons_succ, List.getElem?_cons_zero] at c11' c14
    cases hb3 : b3 (hdA ans.tail) with
    | true =>
      have HF : Hid (StepPost w g p v x (stepOne x.tab x.name ⟨1, rows, tries, err, ans, xs, held⟩) (.returned (.tuple #[.int .i64 (errB (hdA ans.tail)), .bool true])) w2) := by
        have e : stepOne x.tab x.name ⟨1, rows, tries, err, ans, xs, held⟩ = ⟨6, rows, tries, (errB (hdA ans.tail)), ans.tail.tail, xs ++ [tryT (regW x.tab)] ++ [regT x.name] ++ [freeT], held + 1 - 1⟩ := by simp [stepOne, hb, hb3]
        rw [e]
        rw [hb3] at hj2
        exact StepPost.high (s := ⟨6, rows, tries, (errB (hdA ans.tail)), ans.tail.tail, xs ++ [tryT (regW x.tab)] ++ [regT x.name] ++ [freeT], held + 1 - 1⟩) ⟨v2, ⟨⟨va2, hj2⟩, ht2⟩, f2, b2⟩ (by simp)
      rw [hb3, if_pos rfl] at c11'
      clear h2 hj2 ht2 f2 b2 HT hb hb3 HF0 H1 HR c11
      go_wp2
      go_ret2
      exact HF.out
    | false =>
      have HF : Hid (StepPost w g p v x (stepOne x.tab x.name ⟨1, rows, tries, err, ans, xs, held⟩) (.returned (.tuple #[.int .i64 0, .bool false])) w2) := by
        have e : stepOne x.tab x.name ⟨1, rows, tries, err, ans, xs, held⟩ = ⟨2, rows, tries, (errB (hdA ans.tail)), ans.tail.tail, xs ++ [tryT (regW x.tab)] ++ [regT x.name] ++ [freeT], held + 1 - 1⟩ := by simp [stepOne, hb, hb3]
        rw [e]
        rw [hb3] at hj2
        exact StepPost.low (s := ⟨2, rows, tries, (errB (hdA ans.tail)), ans.tail.tail, xs ++ [tryT (regW x.tab)] ++ [regT x.name] ++ [freeT], held + 1 - 1⟩) ⟨v2, ⟨⟨va2, hj2⟩, ht2⟩, f2, b2⟩ (by simp)
      rw [hb3, if_neg (by decide)] at c11'
      clear h2 hj2 ht2 f2 b2 HT hb hb3 HF0 H1 HR c11
      go_wp2
      go_ret2
      exact HF.out

/-- 4ASE. -/
theorem step_four (w : World) (g p : Nat) (x : Sx) (rows : List S60) (tries err : Int) (v : Value) (ans : List Int) (xs : List ByteArray) (held : Int)
    (h : JW w g p x 4 rows tries err v ans xs held) (hx : xs.length < 999980) (hn : ans.length < 1000000) (hs : x.name.size ≤ 1000) (hts : x.tab.size ≤ 1000)
    (h0 : -900 ≤ held) (h1 : held ≤ 900) (ht : 1 ≤ tries) (ht2 : tries ≤ 9223372036854775807) :
    Calls Try.prog 10 #[.pointer (some ⟨g, 0, none⟩), .iface 34 (.pointer (some ⟨p, 0, none⟩))] w
      (StepPost w g p v x (stepFour x.tab x.name ⟨4, rows, tries, err, ans, xs, held⟩)) := by
  have HH := Lib.hid h
  obtain ⟨⟨va, hJ⟩, hT⟩ := h
  have c11 := blk_cell hJ.blk 11
  have c1 := blk_cell hJ.blk 1
  simp only [List.getElem?_toArray, List.getElem?_cons_succ, List.getElem?_cons_zero] at c11 c1
  have hmf : ∀ (fn : Fn) (first cap : Array Value) (w : World), (Instr.makeFunc fn first cap).run Try.prog w = .ok (.func fn first cap) w := fun _ _ _ _ => rfl
  have HT := Lib.hid (And.intro ht ht2)
  clear hJ hT ht ht2
  go_enter Try.func10, Try.ntmps10
  go_wp2_with fail
  refine (mark_plan w x.tab).mono ?_
  rintro e w1 ⟨b, c, rfl, hr, f0⟩
  have H1 := Lib.hid (HH.out.made f0)
  have HF0 := Lib.hid f0
  have HR := Lib.hid hr
  clear hr f0 HH c1
  go_wp2_with fail
  refine (with30 w1 g p x 4 rows tries err v ans xs held H1.out (by omega) hn hs (by omega) (by omega) b 0 c (markW x.tab) HR.out (by simp [markW]) (by simp [markW]) (markW_ok x.tab hts)).mono ?_
  rintro e w2 ⟨rfl, h2⟩
  unfold With30 at h2
  cases hb : b1 (hdA ans) with
  | false =>
    rw [hb, if_neg (by decide)] at h2
    have h3 := JP2.before HF0.out h2
    obtain ⟨v2, hj2, f2, b2⟩ := h3
    have HX := Lib.hid (And.intro hj2 (And.intro f2 b2))
    obtain ⟨⟨va2, hj2⟩, ht2⟩ := hj2
    have HJ := Lib.hid hj2
    clear h2 hj2 ht2 f2 b2
    have hb' := hb
    clear hb
    go_wp2_with fail
    refine (failed_any w2 g x 4 va2 rows tries err HJ.out HT.out.1 HT.out.2 5).mono ?_
    rintro e w3 ⟨rfl, h4⟩
    have h5 := JP2.trans ⟨v2, HX.out.1, HX.out.2.1, HX.out.2.2⟩ fun v3 hj => JP2.job hj h4
    obtain ⟨v3, ⟨⟨va3, hj3⟩, ht3⟩, f3, b3'⟩ := h5
    have c11' := blk_cell hj3.blk 11
    have c14 := blk_cell hj3.blk 14
    simp only [List.getElem?_toArray, List.getElem?_cons_succ, List.getElem?_cons_zero] at c11' c14
    by_cases h1 : tries = 1
    · have HF : Hid (StepPost w g p v x (stepFour x.tab x.name ⟨4, rows, tries, err, ans, xs, held⟩) (.returned (.tuple #[.int .i64 34, .bool true])) w3) := by
        have e : stepFour x.tab x.name ⟨4, rows, tries, err, ans, xs, held⟩ = ⟨5, rows, tries - 1, 34, ans.tail, xs ++ [tryT (markW x.tab)], held⟩ := by simp [stepFour, hb', failP, failE, h1]
        rw [e]
        rw [failP, failE, if_pos h1, if_pos h1] at hj3
        exact StepPost.high (s := ⟨5, rows, tries - 1, 34, ans.tail, xs ++ [tryT (markW x.tab)], held⟩) ⟨v3, ⟨⟨va3, hj3⟩, ht3⟩, f3, b3'⟩ (by simp)
      rw [failP, if_pos h1] at c11'
      rw [failE, if_pos h1] at c14
      clear h4 hj3 ht3 f3 b3' HT h1 HF0 H1 HR HX HJ hb' c11
      go_wp2
      go_ret2
      exact HF.out
    · have HF : Hid (StepPost w g p v x (stepFour x.tab x.name ⟨4, rows, tries, err, ans, xs, held⟩) (.returned (.tuple #[.int .i64 0, .bool false])) w3) := by
        have e : stepFour x.tab x.name ⟨4, rows, tries, err, ans, xs, held⟩ = ⟨4, rows, tries - 1, err, ans.tail, xs ++ [tryT (markW x.tab)], held⟩ := by simp [stepFour, hb', failP, failE, h1]
        rw [e]
        rw [failP, failE, if_neg h1, if_neg h1] at hj3
        exact StepPost.low (s := ⟨4, rows, tries - 1, err, ans.tail, xs ++ [tryT (markW x.tab)], held⟩) ⟨v3, ⟨⟨va3, hj3⟩, ht3⟩, f3, b3'⟩ (by simp)
      rw [failP, if_neg h1] at c11'
      clear h4 hj3 ht3 f3 b3' HT h1 HF0 H1 HR HX HJ hb' c11 c14
      go_wp2
      go_ret2
      exact HF.out
  | true =>
    rw [hb, if_pos rfl] at h2
    have h3 := JP2.before HF0.out h2
    obtain ⟨v2, ⟨⟨va2, hj2⟩, ht2⟩, f2, b2⟩ := h3
    have c11' := blk_cell hj2.blk 11
    have c14 := blk_cell hj2.blk 14
    simp only [List.getElem?_toArray, List.getElem?_cons_succ, List.getElem?_cons_zero] at c11' c14
    cases hb3 : b3 (hdA ans.tail) with
    | true =>
      have HF : Hid (StepPost w g p v x (stepFour x.tab x.name ⟨4, rows, tries, err, ans, xs, held⟩) (.returned (.tuple #[.int .i64 (errB (hdA ans.tail)), .bool true])) w2) := by
        have e : stepFour x.tab x.name ⟨4, rows, tries, err, ans, xs, held⟩ = ⟨5, rows, tries, (errB (hdA ans.tail)), ans.tail.tail, xs ++ [tryT (markW x.tab)] ++ [setT x.name] ++ [freeT], held + 1 - 1⟩ := by simp [stepFour, hb, hb3]
        rw [e]
        rw [hb3] at hj2
        exact StepPost.high (s := ⟨5, rows, tries, (errB (hdA ans.tail)), ans.tail.tail, xs ++ [tryT (markW x.tab)] ++ [setT x.name] ++ [freeT], held + 1 - 1⟩) ⟨v2, ⟨⟨va2, hj2⟩, ht2⟩, f2, b2⟩ (by simp)
      rw [hb3, if_pos rfl] at c11'
      clear h2 hj2 ht2 f2 b2 HT hb hb3 HF0 H1 HR c11
      go_wp2
      go_ret2
      exact HF.out
    | false =>
      have HF : Hid (StepPost w g p v x (stepFour x.tab x.name ⟨4, rows, tries, err, ans, xs, held⟩) (.returned (.tuple #[.int .i64 (errB (hdA ans.tail)), .bool true])) w2) := by
        have e : stepFour x.tab x.name ⟨4, rows, tries, err, ans, xs, held⟩ = ⟨6, rows, tries, (errB (hdA ans.tail)), ans.tail.tail, xs ++ [tryT (markW x.tab)] ++ [setT x.name] ++ [freeT], held + 1 - 1⟩ := by simp [stepFour, hb, hb3]
        rw [e]
        rw [hb3] at hj2
        exact StepPost.high (s := ⟨6, rows, tries, (errB (hdA ans.tail)), ans.tail.tail, xs ++ [tryT (markW x.tab)] ++ [setT x.name] ++ [freeT], held + 1 - 1⟩) ⟨v2, ⟨⟨va2, hj2⟩, ht2⟩, f2, b2⟩ (by simp)
      rw [hb3, if_neg (by decide)] at c11'
      clear h2 hj2 ht2 f2 b2 HT hb hb3 HF0 H1 HR c11
      go_wp2
      go_ret2
      exact HF.out

/-- 5ASE. -/
theorem step_five (w : World) (g p : Nat) (x : Sx) (rows : List S60) (tries err : Int) (v : Value) (ans : List Int) (xs : List ByteArray) (held : Int)
    (h : JW w g p x 5 rows tries err v ans xs held) (hx : xs.length < 999980) (hn : ans.length < 1000000) (hs : x.name.size ≤ 1000) (hts : x.tab.size ≤ 1000)
    (h0 : -900 ≤ held) (h1 : held ≤ 900) (ht2 : tries ≤ 9223372036854775807) :
    Calls Try.prog 10 #[.pointer (some ⟨g, 0, none⟩), .iface 34 (.pointer (some ⟨p, 0, none⟩))] w
      (StepPost w g p v x (stepFive x.tab x.name ⟨5, rows, tries, err, ans, xs, held⟩)) := by
  have HH := Lib.hid h
  obtain ⟨⟨va, hJ⟩, hT⟩ := h
  have c11 := blk_cell hJ.blk 11
  have c1 := blk_cell hJ.blk 1
  simp only [List.getElem?_toArray, List.getElem?_cons_succ, List.getElem?_cons_zero] at c11 c1
  have hmf : ∀ (fn : Fn) (first cap : Array Value) (w : World), (Instr.makeFunc fn first cap).run Try.prog w = .ok (.func fn first cap) w := fun _ _ _ _ => rfl
  have HT := Lib.hid ht2
  clear hJ hT ht2
  go_enter Try.func10, Try.ntmps10
  go_wp2_with fail
  refine (mark_plan w x.tab).mono ?_
  rintro e w1 ⟨b, c, rfl, hr, f0⟩
  have H1 := Lib.hid (HH.out.made f0)
  have HF0 := Lib.hid f0
  have HR := Lib.hid hr
  clear hr f0 HH c1
  have hcap : 2 ≤ c := by
    obtain ⟨_, _, hv, hle⟩ := HR.out.slice
    injection hv with _ _ h3
    have : (markW x.tab).length = 3 := rfl
    omega
  have hlen : (markW x.tab).length = 3 := rfl
  have HR2 : Hid (Row w1 97 (.slice (some ⟨b, 0, none⟩) ((markW x.tab).take 2).length c) ((markW x.tab).take 2).length (wtCells ((markW x.tab).take 2))) :=
    HR.out.take 2 (by rw [hlen]; omega) _ (fun j u hu => by
      have hj : j < 8 := by
        have := (List.getElem?_eq_some_iff.1 hu).1
        simpa [markW, wtCells, Wt.cells] using this
      simp only [markW, wtCells, Wt.cells, List.take_succ_cons, List.take_zero, List.flatMap_cons, List.flatMap_nil, List.cons_append, List.nil_append, List.append_nil] at hu ⊢
      rcases j with _ | _ | _ | _ | _ | _ | _ | _ | j <;> first | exact hu | omega)
  clear hlen
  go_wp2_with fail
  refine (with31 w1 g p x 5 rows tries err v ans xs held H1.out (by omega) hn hs (by omega) (by omega) b 0 c ((markW x.tab).take 2) HR2.out (by simp [markW]) (by simp [markW]) (mark2_ok x.tab hts)).mono ?_
  rintro e w2 ⟨rfl, h2⟩
  unfold With31 at h2
  cases hb : b1 (hdA ans) with
  | false =>
    rw [hb, if_neg (by decide)] at h2
    have h3 := JP2.before HF0.out h2
    obtain ⟨v2, ⟨⟨va2, hj2⟩, ht2⟩, f2, b2⟩ := h3
    have c11' := blk_cell hj2.blk 11
    have c14 := blk_cell hj2.blk 14
    simp only [List.getElem?_toArray, List.getElem?_cons_succ, List.getElem?_cons_zero] at c11' c14
    have HF : Hid (StepPost w g p v x (stepFive x.tab x.name ⟨5, rows, tries, err, ans, xs, held⟩) (.returned (.tuple #[.int .i64 err, .bool true])) w2) := by
      have e : stepFive x.tab x.name ⟨5, rows, tries, err, ans, xs, held⟩ = ⟨5, rows, tries, err, ans.tail, xs ++ [tryT ((markW x.tab).take 2)], held⟩ := by simp [stepFive, hb]
      rw [e]
      exact StepPost.high (s := ⟨5, rows, tries, err, ans.tail, xs ++ [tryT ((markW x.tab).take 2)], held⟩) ⟨v2, ⟨⟨va2, hj2⟩, ht2⟩, f2, b2⟩ (by simp)
    clear h2 hj2 ht2 f2 b2 HT hb HF0 H1 HR c11
    go_wp2
    go_ret2
    exact HF.out
  | true =>
    rw [hb, if_pos rfl] at h2
    have h3 := JP2.before HF0.out h2
    obtain ⟨v2, ⟨⟨va2, hj2⟩, ht2⟩, f2, b2⟩ := h3
    have c11' := blk_cell hj2.blk 11
    have c14 := blk_cell hj2.blk 14
    simp only [List.getElem?_toArray, List.getElem?_cons_succ, List.getElem?_cons_zero] at c11' c14
    cases hb3 : b3 (hdA ans.tail) with
    | true =>
      have HF : Hid (StepPost w g p v x (stepFive x.tab x.name ⟨5, rows, tries, err, ans, xs, held⟩) (.returned (.tuple #[.int .i64 err, .bool true])) w2) := by
        have e : stepFive x.tab x.name ⟨5, rows, tries, err, ans, xs, held⟩ = ⟨5, rows, tries, err, ans.tail.tail, xs ++ [tryT ((markW x.tab).take 2)] ++ [abaT x.name] ++ [freeT], held + 1 - 1⟩ := by simp [stepFive, hb, hb3]
        rw [e]
        rw [hb3] at hj2
        exact StepPost.high (s := ⟨5, rows, tries, err, ans.tail.tail, xs ++ [tryT ((markW x.tab).take 2)] ++ [abaT x.name] ++ [freeT], held + 1 - 1⟩) ⟨v2, ⟨⟨va2, hj2⟩, ht2⟩, f2, b2⟩ (by simp)
      rw [hb3, if_pos rfl] at c11'
      clear h2 hj2 ht2 f2 b2 HT hb hb3 HF0 H1 HR c11
      go_wp2
      go_ret2
      exact HF.out
    | false =>
      have HF : Hid (StepPost w g p v x (stepFive x.tab x.name ⟨5, rows, tries, err, ans, xs, held⟩) (.returned (.tuple #[.int .i64 err, .bool true])) w2) := by
        have e : stepFive x.tab x.name ⟨5, rows, tries, err, ans, xs, held⟩ = ⟨6, rows, tries, err, ans.tail.tail, xs ++ [tryT ((markW x.tab).take 2)] ++ [abaT x.name] ++ [freeT], held + 1 - 1⟩ := by simp [stepFive, hb, hb3]
        rw [e]
        rw [hb3] at hj2
        exact StepPost.high (s := ⟨6, rows, tries, err, ans.tail.tail, xs ++ [tryT ((markW x.tab).take 2)] ++ [abaT x.name] ++ [freeT], held + 1 - 1⟩) ⟨v2, ⟨⟨va2, hj2⟩, ht2⟩, f2, b2⟩ (by simp)
      rw [hb3, if_neg (by decide)] at c11'
      clear h2 hj2 ht2 f2 b2 HT hb hb3 HF0 H1 HR c11
      go_wp2
      go_ret2
      exact HF.out
end Go.Proofs.Ytplpdeanepdokaa
