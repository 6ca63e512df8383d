/- The job's with. -/
import Derived.Test.YtplpdeanepdokaaJM
namespace Go.Proofs.Ytplpdeanepdokaa
open Go.RowKit H Go.Proofs.Ytplpdeanepdokaa.PJobSteps
open Go.Proofs.YtplpdeanepdokaaW.PrintWords (Kd)

theorem free_d (u : FrameMode) (w : World) (p : Nat) (va v : Value) (ans : List Int) (xs : List ByteArray) (held : Int) (hT : Told w p va v ans xs held) (hx : xs.length < 1000000)
    (h0 : -1000 ≤ held) (h1 : held ≤ 1000) :
    CallsD Try.prog 40 #[.pointer (some ⟨p, 0, none⟩)] u w fun e u' w' => u' = u ∧ (e = .returned (.tuple #[]) ∧ TP w p v ans (xs ++ [⟨#[102, 114, 101, 101]⟩]) (held - 1) w') := by
  refine callsD_of_wp (R := fun e w' => e = .returned (.tuple #[]) ∧ TP w p v ans (xs ++ [⟨#[102, 114, 101, 101]⟩]) (held - 1) w') Try.func40 rfl ?_
  simp only [Try.ntmps40, List.size_toArray, List.length_cons, List.length_nil, Nat.reduceAdd, Nat.reduceSub, Array.replicate_succ,
     Array.replicate_zero, List.push_toArray, List.append_toArray, List.nil_append, List.cons_append]
  go_wp2_with fail
  refine (note_any w p va v ans xs held _ hT hx).mono ?_
  rintro e w1 ⟨rfl, v1, t1, fr1, b1⟩
  have c2 := blk_cell t1.blk 2
  have f2 := blk_frozen t1.blk 2
  simp only [List.getElem?_toArray, List.getElem?_cons_succ, List.getElem?_cons_zero] at c2
  have HF := Lib.hid (TP.trans t1 fr1 b1 (t1.setHeld (held - 1)))
  clear t1 fr1 b1
  go_wp2
  go_end0
  exact ⟨rfl, HF.out⟩

theorem JP2.again {w w' : World} {g p : Nat} {x : Sx} {phase : Int} {rows : List S60} {tries err : Int} {v v' : Value} {ans : List Int} {xs : List ByteArray} {held : Int}
    {phase2 : Int} {rows2 : List S60} {tries2 err2 : Int} {ans2 : List Int} {xs2 : List ByteArray} {held2 : Int}
    (h : JW w g p x phase rows tries err v ans xs held) (h' : JW w g p x phase rows tries err v' ans xs held)
    (h2 : JP2 w g p v x phase2 rows2 tries2 err2 ans2 xs2 held2 w') : JP2 w g p v' x phase2 rows2 tries2 err2 ans2 xs2 held2 w' := by
  obtain ⟨_, ⟨vt, hT⟩⟩ := h
  obtain ⟨_, ⟨vt', hT'⟩⟩ := h'
  have e := hT.blk.symm.trans hT'.blk
  simp only [Option.some.injEq, Obj.cells.injEq, Array.mk.injEq, List.cons.injEq] at e
  obtain ⟨⟨_, rfl, _⟩, _⟩ := e
  exact h2

/-- What 'with' leaves, doing function 26. -/
def With26 (w : World) (g p : Nat) (v : Value) (x : Sx) (phase : Int) (rows : List S60) (tries err : Int) (ans : List Int) (xs : List ByteArray) (held : Int) (l : List Wt) (w' : World) : Prop :=
  if b1 (hdA ans) = true then JP2 w g p v x (if b3 (hdA ans.tail) = true then 6 else 2) rows tries (errB (hdA ans.tail)) ans.tail.tail (xs ++ [tryT l] ++ [⟨#[114, 101, 103, 105, 115, 116, 101, 114, 32]⟩ ++ x.name] ++ [⟨#[102, 114, 101, 101]⟩]) (held + 1 - 1) w'
  else JP2 w g p v x phase rows tries err ans.tail (xs ++ [tryT l]) held w'
set_option maxHeartbeats 1000000 in
theorem with26 (w : World) (g p : Nat) (x : Sx) (phase : Int) (rows : List S60) (tries err : Int) (v : Value) (ans : List Int) (xs : List ByteArray) (held : Int)
    (h : JW w g p x phase rows tries err v ans xs held) (hx : xs.length < 999990) (hn : ans.length < 1000000) (hs : x.name.size ≤ 1000)
    (h0 : -900 ≤ held) (h1 : held ≤ 900) (b o c : Nat) (l : List Wt) (hl : Row w 97 (.slice (some ⟨b, o, none⟩) l.length c) l.length (wtCells l)) (hne : 0 < l.length) (hl10 : l.length ≤ 10) (hok : ∀ x ∈ l, WtOk x) :
    Calls Try.prog 24 #[.pointer (some ⟨g, 0, none⟩), .iface 34 (.pointer (some ⟨p, 0, none⟩)), .slice (some ⟨b, o, none⟩) l.length c, .func (Fn.func 26) #[.pointer (some ⟨g, 0, none⟩)] #[]] w
      fun e w' => e = .returned (.bool (b1 (hdA ans))) ∧ With26 w g p v x phase rows tries err ans xs held l w' := by
  have HH := Lib.hid h
  obtain ⟨⟨va, hJ⟩, ⟨vt, hT⟩⟩ := h
  have hna := na_Try
  have hme := me_Try
  have hna := na_Free
  have hme := me_Free
  go_enter_defers Try.func24, Try.ntmps24
  go_wp2_with fail
  refine (try_any w p vt v ans xs held hT (by omega) hn (by omega) (by omega) b o c l hl hne hl10 hok).mono ?_
  rintro e w1 ⟨rfl, h2⟩
  have h3 := JP2.told HH.out h2
  cases hb : b1 (hdA ans) with
  | false =>
    rw [hb, if_neg (by decide)] at h3
    have HW : Hid (Ending.returned (.bool false) = .returned (.bool (b1 (hdA ans))) ∧ With26 w g p v x phase rows tries err ans xs held l w1) := by
      unfold Hid With26
      rw [hb, if_neg (by decide)]
      exact ⟨rfl, h3⟩
    clear h3 h2 hb HH hT hJ hl hok
    go_wp2_with fail
    exact ⟨_, results_tmp (t := 8) rfl _ _ _, HW.out⟩
  | true =>
    rw [hb, if_pos rfl] at h3
    have HA : Hid (∀ w', JP2 w g p v x (if b3 (hdA ans.tail) = true then 6 else 2) rows tries (errB (hdA ans.tail)) ans.tail.tail (xs ++ [tryT l] ++ [⟨#[114, 101, 103, 105, 115, 116, 101, 114, 32]⟩ ++ x.name] ++ [⟨#[102, 114, 101, 101]⟩]) (held + 1 - 1) w' → Ending.returned (.bool true) = .returned (.bool (b1 (hdA ans))) ∧ With26 w g p v x phase rows tries err ans xs held l w') := by
      intro w' h
      unfold With26
      rw [hb, if_pos rfl]
      exact ⟨rfl, h⟩
    go_wp2_with fail
    obtain ⟨v1, hj1, f1, b1'⟩ := h3
    have H1 := Lib.hid (And.intro hj1 (And.intro f1 b1'))
    clear hj1 f1 b1' h2 hb HH hT hJ hl hok
    refine (regi_any w1 g p x phase rows tries err v1 ans.tail _ _ H1.out.1 (by simp; omega) (by simp; omega) hs).mono ?_
    rintro e w2 ⟨rfl, h4⟩
    have h5 : JP2 w g p v x (if b3 (hdA ans.tail) = true then 6 else 2) rows tries (errB (hdA ans.tail)) ans.tail.tail (xs ++ [tryT l] ++ [⟨#[114, 101, 103, 105, 115, 116, 101, 114, 32]⟩ ++ x.name]) (held + 1) w2 := by
      obtain ⟨v2, j2, f2, b2⟩ := h4
      refine JP2.trans ⟨v1, H1.out.1, H1.out.2.1, H1.out.2.2⟩ fun v2' hj => ?_
      exact JP2.again H1.out.1 hj ⟨v2, j2, f2, b2⟩
    have H2 := Lib.hid h5
    clear h4 h5 H1
    go_wp2_with fail
    obtain ⟨v2, ⟨hj2, ⟨vt2, ht2⟩⟩, f2, b2⟩ := H2.out
    refine leaves_cons (f := 40) (args := #[.pointer (some ⟨p, 0, none⟩)]) (by simp) (by simp [go_sem, hme]) ?_
    refine (free_d .returning w2 p vt2 v2 _ _ _ ht2 (by simp; omega) (by omega) (by omega)).mono ?_
    rintro e u' w3 ⟨rfl, rfl, h6⟩
    exact ⟨_, results_tmp (t := 8) rfl _ _ _, HA.out _ (JP2.trans ⟨v2, ⟨hj2, ⟨vt2, ht2⟩⟩, f2, b2⟩ fun v3 hj => JP2.again ⟨hj2, ⟨vt2, ht2⟩⟩ hj (JP2.told ⟨hj2, ⟨vt2, ht2⟩⟩ h6))⟩

/-- What 'with' leaves, doing function 30. -/
def With30 (w : World) (g p : Nat) (v : Value) (x : Sx) (phase : Int) (rows : List S60) (tries err : Int) (ans : List Int) (xs : List ByteArray) (held : Int) (l : List Wt) (w' : World) : Prop :=
  if b1 (hdA ans) = true then JP2 w g p v x (if b3 (hdA ans.tail) = true then 5 else 6) rows tries (errB (hdA ans.tail)) ans.tail.tail (xs ++ [tryT l] ++ [⟨#[115, 101, 116, 116, 108, 101, 32]⟩ ++ x.name] ++ [⟨#[102, 114, 101, 101]⟩]) (held + 1 - 1) w'
  else JP2 w g p v x phase rows tries err ans.tail (xs ++ [tryT l]) held w'
set_option maxHeartbeats 1000000 in
theorem with30 (w : World) (g p : Nat) (x : Sx) (phase : Int) (rows : List S60) (tries err : Int) (v : Value) (ans : List Int) (xs : List ByteArray) (held : Int)
    (h : JW w g p x phase rows tries err v ans xs held) (hx : xs.length < 999990) (hn : ans.length < 1000000) (hs : x.name.size ≤ 1000)
    (h0 : -900 ≤ held) (h1 : held ≤ 900) (b o c : Nat) (l : List Wt) (hl : Row w 97 (.slice (some ⟨b, o, none⟩) l.length c) l.length (wtCells l)) (hne : 0 < l.length) (hl10 : l.length ≤ 10) (hok : ∀ x ∈ l, WtOk x) :
    Calls Try.prog 24 #[.pointer (some ⟨g, 0, none⟩), .iface 34 (.pointer (some ⟨p, 0, none⟩)), .slice (some ⟨b, o, none⟩) l.length c, .func (Fn.func 30) #[.pointer (some ⟨g, 0, none⟩)] #[]] w
      fun e w' => e = .returned (.bool (b1 (hdA ans))) ∧ With30 w g p v x phase rows tries err ans xs held l w' := by
  have HH := Lib.hid h
  obtain ⟨⟨va, hJ⟩, ⟨vt, hT⟩⟩ := h
  have hna := na_Try
  have hme := me_Try
  have hna := na_Free
  have hme := me_Free
  go_enter_defers Try.func24, Try.ntmps24
  go_wp2_with fail
  refine (try_any w p vt v ans xs held hT (by omega) hn (by omega) (by omega) b o c l hl hne hl10 hok).mono ?_
  rintro e w1 ⟨rfl, h2⟩
  have h3 := JP2.told HH.out h2
  cases hb : b1 (hdA ans) with
  | false =>
    rw [hb, if_neg (by decide)] at h3
    have HW : Hid (Ending.returned (.bool false) = .returned (.bool (b1 (hdA ans))) ∧ With30 w g p v x phase rows tries err ans xs held l w1) := by
      unfold Hid With30
      rw [hb, if_neg (by decide)]
      exact ⟨rfl, h3⟩
    clear h3 h2 hb HH hT hJ hl hok
    go_wp2_with fail
    exact ⟨_, results_tmp (t := 8) rfl _ _ _, HW.out⟩
  | true =>
    rw [hb, if_pos rfl] at h3
    have HA : Hid (∀ w', JP2 w g p v x (if b3 (hdA ans.tail) = true then 5 else 6) rows tries (errB (hdA ans.tail)) ans.tail.tail (xs ++ [tryT l] ++ [⟨#[115, 101, 116, 116, 108, 101, 32]⟩ ++ x.name] ++ [⟨#[102, 114, 101, 101]⟩]) (held + 1 - 1) w' → Ending.returned (.bool true) = .returned (.bool (b1 (hdA ans))) ∧ With30 w g p v x phase rows tries err ans xs held l w') := by
      intro w' h
      unfold With30
      rw [hb, if_pos rfl]
      exact ⟨rfl, h⟩
    go_wp2_with fail
    obtain ⟨v1, hj1, f1, b1'⟩ := h3
    have H1 := Lib.hid (And.intro hj1 (And.intro f1 b1'))
    clear hj1 f1 b1' h2 hb HH hT hJ hl hok
    refine (setl_any w1 g p x phase rows tries err v1 ans.tail _ _ H1.out.1 (by simp; omega) (by simp; omega) hs).mono ?_
    rintro e w2 ⟨rfl, h4⟩
    have h5 : JP2 w g p v x (if b3 (hdA ans.tail) = true then 5 else 6) rows tries (errB (hdA ans.tail)) ans.tail.tail (xs ++ [tryT l] ++ [⟨#[115, 101, 116, 116, 108, 101, 32]⟩ ++ x.name]) (held + 1) w2 := by
      obtain ⟨v2, j2, f2, b2⟩ := h4
      refine JP2.trans ⟨v1, H1.out.1, H1.out.2.1, H1.out.2.2⟩ fun v2' hj => ?_
      exact JP2.again H1.out.1 hj ⟨v2, j2, f2, b2⟩
    have H2 := Lib.hid h5
    clear h4 h5 H1
    go_wp2_with fail
    obtain ⟨v2, ⟨hj2, ⟨vt2, ht2⟩⟩, f2, b2⟩ := H2.out
    refine leaves_cons (f := 40) (args := #[.pointer (some ⟨p, 0, none⟩)]) (by simp) (by simp [go_sem, hme]) ?_
    refine (free_d .returning w2 p vt2 v2 _ _ _ ht2 (by simp; omega) (by omega) (by omega)).mono ?_
    rintro e u' w3 ⟨rfl, rfl, h6⟩
    exact ⟨_, results_tmp (t := 8) rfl _ _ _, HA.out _ (JP2.trans ⟨v2, ⟨hj2, ⟨vt2, ht2⟩⟩, f2, b2⟩ fun v3 hj => JP2.again ⟨hj2, ⟨vt2, ht2⟩⟩ hj (JP2.told ⟨hj2, ⟨vt2, ht2⟩⟩ h6))⟩

/-- What 'with' leaves, doing function 31. -/
def With31 (w : World) (g p : Nat) (v : Value) (x : Sx) (phase : Int) (rows : List S60) (tries err : Int) (ans : List Int) (xs : List ByteArray) (held : Int) (l : List Wt) (w' : World) : Prop :=
  if b1 (hdA ans) = true then JP2 w g p v x (if b3 (hdA ans.tail) = true then phase else 6) rows tries err ans.tail.tail (xs ++ [tryT l] ++ [⟨#[97, 98, 97, 110, 100, 111, 110, 32]⟩ ++ x.name] ++ [⟨#[102, 114, 101, 101]⟩]) (held + 1 - 1) w'
  else JP2 w g p v x phase rows tries err ans.tail (xs ++ [tryT l]) held w'
set_option maxHeartbeats 1000000 in
theorem with31 (w : World) (g p : Nat) (x : Sx) (phase : Int) (rows : List S60) (tries err : Int) (v : Value) (ans : List Int) (xs : List ByteArray) (held : Int)
    (h : JW w g p x phase rows tries err v ans xs held) (hx : xs.length < 999990) (hn : ans.length < 1000000) (hs : x.name.size ≤ 1000)
    (h0 : -900 ≤ held) (h1 : held ≤ 900) (b o c : Nat) (l : List Wt) (hl : Row w 97 (.slice (some ⟨b, o, none⟩) l.length c) l.length (wtCells l)) (hne : 0 < l.length) (hl10 : l.length ≤ 10) (hok : ∀ x ∈ l, WtOk x) :
    Calls Try.prog 24 #[.pointer (some ⟨g, 0, none⟩), .iface 34 (.pointer (some ⟨p, 0, none⟩)), .slice (some ⟨b, o, none⟩) l.length c, .func (Fn.func 31) #[.pointer (some ⟨g, 0, none⟩)] #[]] w
      fun e w' => e = .returned (.bool (b1 (hdA ans))) ∧ With31 w g p v x phase rows tries err ans xs held l w' := by
  have HH := Lib.hid h
  obtain ⟨⟨va, hJ⟩, ⟨vt, hT⟩⟩ := h
  have hna := na_Try
  have hme := me_Try
  have hna := na_Free
  have hme := me_Free
  go_enter_defers Try.func24, Try.ntmps24
  go_wp2_with fail
  refine (try_any w p vt v ans xs held hT (by omega) hn (by omega) (by omega) b o c l hl hne hl10 hok).mono ?_
  rintro e w1 ⟨rfl, h2⟩
  have h3 := JP2.told HH.out h2
  cases hb : b1 (hdA ans) with
  | false =>
    rw [hb, if_neg (by decide)] at h3
    have HW : Hid (Ending.returned (.bool false) = .returned (.bool (b1 (hdA ans))) ∧ With31 w g p v x phase rows tries err ans xs held l w1) := by
      unfold Hid With31
      rw [hb, if_neg (by decide)]
      exact ⟨rfl, h3⟩
    clear h3 h2 hb HH hT hJ hl hok
    go_wp2_with fail
    exact ⟨_, results_tmp (t := 8) rfl _ _ _, HW.out⟩
  | true =>
    rw [hb, if_pos rfl] at h3
    have HA : Hid (∀ w', JP2 w g p v x (if b3 (hdA ans.tail) = true then phase else 6) rows tries err ans.tail.tail (xs ++ [tryT l] ++ [⟨#[97, 98, 97, 110, 100, 111, 110, 32]⟩ ++ x.name] ++ [⟨#[102, 114, 101, 101]⟩]) (held + 1 - 1) w' → Ending.returned (.bool true) = .returned (.bool (b1 (hdA ans))) ∧ With31 w g p v x phase rows tries err ans xs held l w') := by
      intro w' h
      unfold With31
      rw [hb, if_pos rfl]
      exact ⟨rfl, h⟩
    go_wp2_with fail
    obtain ⟨v1, hj1, f1, b1'⟩ := h3
    have H1 := Lib.hid (And.intro hj1 (And.intro f1 b1'))
    clear hj1 f1 b1' h2 hb HH hT hJ hl hok
    refine (aban_any w1 g p x phase rows tries err v1 ans.tail _ _ H1.out.1 (by simp; omega) (by simp; omega) hs).mono ?_
    rintro e w2 ⟨rfl, h4⟩
    have h5 : JP2 w g p v x (if b3 (hdA ans.tail) = true then phase else 6) rows tries err ans.tail.tail (xs ++ [tryT l] ++ [⟨#[97, 98, 97, 110, 100, 111, 110, 32]⟩ ++ x.name]) (held + 1) w2 := by
      obtain ⟨v2, j2, f2, b2⟩ := h4
      refine JP2.trans ⟨v1, H1.out.1, H1.out.2.1, H1.out.2.2⟩ fun v2' hj => ?_
      exact JP2.again H1.out.1 hj ⟨v2, j2, f2, b2⟩
    have H2 := Lib.hid h5
    clear h4 h5 H1
    go_wp2_with fail
    obtain ⟨v2, ⟨hj2, ⟨vt2, ht2⟩⟩, f2, b2⟩ := H2.out
    refine leaves_cons (f := 40) (args := #[.pointer (some ⟨p, 0, none⟩)]) (by simp) (by simp [go_sem, hme]) ?_
    refine (free_d .returning w2 p vt2 v2 _ _ _ ht2 (by simp; omega) (by omega) (by omega)).mono ?_
    rintro e u' w3 ⟨rfl, rfl, h6⟩
    exact ⟨_, results_tmp (t := 8) rfl _ _ _, HA.out _ (JP2.trans ⟨v2, ⟨hj2, ⟨vt2, ht2⟩⟩, f2, b2⟩ fun v3 hj => JP2.again ⟨hj2, ⟨vt2, ht2⟩⟩ hj (JP2.told ⟨hj2, ⟨vt2, ht2⟩⟩ h6))⟩
end Go.Proofs.Ytplpdeanepdokaa
