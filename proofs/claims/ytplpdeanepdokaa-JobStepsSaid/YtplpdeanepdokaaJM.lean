/- The job's fill. -/
import Derived.Test.YtplpdeanepdokaaJL
import Derived.Deep.RegionHeld3
namespace Go.Proofs.Ytplpdeanepdokaa
open Go.RowKit H Go.Proofs.Ytplpdeanepdokaa.PJobSteps
open Go.Proofs.YtplpdeanepdokaaW.PrintWords (Kd)

theorem rowC_length (l : List S60) : (rowC l).length = l.length * 3 := flat_length rc 3 (fun _ => rfl) l
theorem rowC_one (l : List S60) : ∀ u ∈ rowC l, u.oneCell' = true := by
  intro u hu
  obtain ⟨r, _, hr⟩ := List.mem_flatMap.1 hu
  simp [rc] at hr
  rcases hr with rfl | rfl | rfl <;> rfl

/-- The clone of a row of values. -/
def CloneRow (w : World) (rows : List S60) (e : Ending) (w' : World) : Prop :=
  ∃ A c, e = .returned (.slice A rows.length c) ∧ rows.length ≤ c ∧ Row w' 60 (.slice A rows.length c) rows.length (rowC rows) ∧ Fr (fun _ => False) w w'
theorem clone_row (w : World) (A : Option Addr) (c : Nat) (rows : List S60) (hr : Row w 60 (.slice A rows.length c) rows.length (rowC rows)) (hn : rows.length ≤ 1000) :
    Calls Try.prog 34 #[.slice A rows.length c] w (CloneRow w rows) := by
  refine (clone34 w A rows.length c (rowC rows) hr.rd (rowC_length rows) (rowC_one rows) hn).mono ?_
  rintro e w' ⟨v', rfl, ho, hf⟩
  have hr' := Row.of_own ho
  obtain ⟨A', c', rfl, hc⟩ := hr'.slice
  exact ⟨A', c', rfl, by omega, hr', hf⟩

theorem told_cell {w w' : World} {g p : Nat} {x : Sx} {phase : Int} {va vt v : Value} {rows : List S60} {tries err : Int} {ans ans' : List Int} {xs xs' : List ByteArray} {held held' : Int}
    (hj : JobR w g x phase va rows tries err) (hT : Told w p vt v ans xs held) (h : TP w p v ans' xs' held' w') {i : Nat} {u : Value} (hc : w.cell? ⟨g, i, none⟩ = some u) : w'.cell? ⟨g, i, none⟩ = some u := by
  obtain ⟨_, _, _, f, _⟩ := h
  refine f.cell hc ?_
  rintro (h | h)
  · exact blk_ty hj.blk hT.blk (by decide) h
  · exact own_ne hT.own hj.blk (by decide) h

def FillPost (w : World) (g p : Nat) (v : Value) (x : Sx) (phase : Int) (rows : List S60) (tries err : Int) (ans : List Int) (xs : List ByteArray) (held : Int) (w' : World) : Prop :=
  JP2 w g p v x (if b0 (hdA ans) = true then 4 else phase) (if b0 (hdA ans) = true then rows else [⟨1, hdA ans, ⟨#[]⟩⟩]) tries err ans.tail (xs ++ [batchT x.name rows]) held w'

set_option maxHeartbeats 1000000 in
theorem fill_any (w : World) (g p : Nat) (x : Sx) (phase : Int) (rows : List S60) (tries err : Int) (v : Value) (ans : List Int) (xs : List ByteArray) (held : Int)
    (h : JW w g p x phase rows tries err v ans xs held) (hx : xs.length < 1000000) (hn : ans.length < 1000000) (hs : x.name.size ≤ 1000)
    (hi0 : -9223372036854775808 ≤ hdA ans) (hi1 : hdA ans ≤ 9223372036854775807) :
    Calls Try.prog 28 #[.pointer (some ⟨g, 0, none⟩), .iface 34 (.pointer (some ⟨p, 0, none⟩))] w fun e w' => e = .returned (.tuple #[]) ∧ FillPost w g p v x phase rows tries err ans xs held w' := by
  have HI := Lib.hid (And.intro hi0 hi1)
  have hd := h.made ((Fr.refl (fun _ => False) w).drew)
  obtain ⟨⟨va, hJ⟩, ⟨vt, hT⟩⟩ := h
  obtain ⟨A, c, rfl, hc⟩ := hJ.after.slice
  have c2 := blk_cell hJ.blk 2
  have c12 := blk_cell hJ.blk 12
  simp only [List.getElem?_toArray, List.getElem?_cons_succ, List.getElem?_cons_zero] at c2 c12
  have hna := na_Batch
  have hme := me_Batch
  have hmf : ∀ (fn : Fn) (first cap : Array Value) (w : World), (Instr.makeFunc fn first cap).run Try.prog w = .ok (.func fn first cap) w := fun _ _ _ _ => rfl
  have H0 := Lib.hid hd
  have HR := Lib.hid (hJ.after.fr ((Fr.refl (fun _ => False) w).drew) (fun _ _ _ _ => id))
  have HK := Lib.hid (And.intro hJ.few hJ.ints)
  have HF : Hid (∀ ph rows' w', JP2 w.drew g p v x ph rows' tries err ans.tail (xs ++ [batchT x.name rows]) held w' → JP2 w g p v x ph rows' tries err ans.tail (xs ++ [batchT x.name rows]) held w') :=
    fun _ _ w' h => JP2.before ((Fr.refl (fun _ => False) w).drew) h
  have hfew : rows.length ≤ 1000 := by have := hJ.few; omega
  clear hT hJ hd hi0 hi1
  go_enter Try.func28, Try.ntmps28
  go_wp2_with fail
  go_region_held3 (fun w' => w'.cell? ⟨g, 2, none⟩ = some (.string x.name) ∧ w'.cell? ⟨g, 12, none⟩ = some (.slice A rows.length c)) (first | exact ⟨c2, c12⟩ | exact ⟨c2a, c12a⟩ | exact ⟨c2b, c12b⟩)
    (first
    | (go_at_call 34; refine (clone_row _ A c rows HR.out hfew).mono ?_; rintro e w1 ⟨A1, c1, rfl, hc1, hr1, f1⟩; have H1 := Lib.hid (H0.out.made f1); have HR1 := Lib.hid hr1; have HF1 := Lib.hid f1; have c2a := f1.cell c2 (fun hf => hf); have c12a := f1.cell c12 (fun hf => hf); clear hr1 f1)
    | (go_at_call 43; obtain ⟨⟨va0, hj0⟩, ⟨vt0, ht0⟩⟩ := H1.out; refine (batch_any _ p vt0 v ans xs held ht0 hx hn _ hs A1 c1 rows HR1.out hc1 HK.out.1 HK.out.2).mono ?_; rintro e w2 ⟨vr, rfl, h1, hr2, ⟨A2, k2, n2, rfl⟩⟩; have h2 := JP2.told H1.out h1; have c2b := told_cell hj0 ht0 h1 c2a; have c12b := told_cell hj0 ht0 h1 c12a; have H2 := Lib.hid (HF.out _ _ w2 (JP2.before HF1.out h2)); have HR2 := Lib.hid hr2; clear h1 h2 hr2 hj0 ht0))
  all_goals
    obtain ⟨v2, ⟨⟨va2, hj2⟩, ht2⟩, f2, b2'⟩ := H2.out
    have HJ := Lib.hid hj2
    have HP : Hid (∀ w3 ph rows', JobPost w2 g x ph rows' tries err w3 → JP2 w g p v x ph rows' tries err ans.tail (xs ++ [batchT x.name rows]) held w3) :=
      fun w3 ph rows' h => JP2.trans ⟨v2, ⟨⟨va2, hj2⟩, ht2⟩, f2, b2'⟩ fun v3 hj => JP2.job hj h
    clear hj2 ht2 f2 b2' c2 c12 c2a c12a c2b c12b H2 H1 HR1 HF1 HR HK HF H0
    cases hb : b0 (hdA ans) with
    | true =>
      have hb2 : (!b0 (hdA ans)) = false := by rw [hb]; rfl
      have HA : Hid (∀ w', JP2 w g p v x 4 rows tries err ans.tail (xs ++ [batchT x.name rows]) held w' → FillPost w g p v x phase rows tries err ans xs held w') :=
        fun w' h => by rw [FillPost, hb]; exact h
      have c11 := blk_cell HJ.out.blk 11
      have f11 := blk_frozen HJ.out.blk 11
      simp only [List.getElem?_toArray, List.getElem?_cons_succ, List.getElem?_cons_zero] at c11
      clear hb
      go_wp2
      go_end0
      exact ⟨rfl, HA.out _ (HP.out _ _ _ (HJ.out.setPhase 4))⟩
    | false =>
      have hb2 : (!b0 (hdA ans)) = true := by rw [hb]; rfl
      have HA : Hid (∀ w', JP2 w g p v x phase [⟨1, hdA ans, ⟨#[]⟩⟩] tries err ans.tail (xs ++ [batchT x.name rows]) held w' → FillPost w g p v x phase rows tries err ans xs held w') :=
        fun w' h => by rw [FillPost, hb]; exact h
      have hr3 := HR2.out hb
      obtain ⟨A3, k3, hv3, _⟩ := hr3.slice
      injection hv3 with e1 e2 e3
      subst e2
      have HR3 := Lib.hid hr3
      clear hb hr3 HR2 e1 e3
      go_wp2_with fail
      refine (clone_row _ _ _ [⟨1, hdA ans, ⟨#[]⟩⟩] HR3.out (by simp)).mono ?_
      rintro e w3 ⟨A4, c4, rfl, hc4, hr4, f4⟩
      have c12 := blk_cell (f4.blk HJ.out.blk id) 12
      have f12 := blk_frozen (f4.blk HJ.out.blk id) 12
      simp only [List.getElem?_toArray, List.getElem?_cons_succ, List.getElem?_cons_zero] at c12
      have HZ : Hid (JobPost w2 g x phase [⟨1, hdA ans, ⟨#[]⟩⟩] tries err (w3.setCell ⟨g, 12, none⟩ (.slice A4 1 c4))) := by
        have hj3 : JobR w3 g x phase va2 rows tries err := ⟨f4.blk HJ.out.blk id, HJ.out.after.fr f4 (fun _ _ _ _ => id), HJ.out.few, HJ.out.ints⟩
        obtain ⟨va5, hj5, f5⟩ := hj3.setAfter (rows' := [⟨1, hdA ans, ⟨#[]⟩⟩]) hr4 (by simp) (by simpa using HI.out)
        exact ⟨va5, hj5, (f4.mono (S' := fun k => k = g) (fun _ _ h => h.elim)).trans f5 (fun _ _ h => h)⟩
      have HX := Lib.hid (HA.out _ (HP.out _ _ _ HZ.out))
      clear hr4 f4 HZ HA HP HJ HR3
      go_wp2
      go_end0
      exact ⟨rfl, HX.out⟩
end Go.Proofs.Ytplpdeanepdokaa
