/- The job's settle, abandon, fill. -/
import Derived.Test.YtplpdeanepdokaaJK
namespace Go.Proofs.Ytplpdeanepdokaa
open Go.RowKit H Go.Proofs.Ytplpdeanepdokaa.PJobSteps
open Go.Proofs.YtplpdeanepdokaaW.PrintWords (Kd)

def SetPost (w : World) (g p : Nat) (v : Value) (x : Sx) (rows : List S60) (tries : Int) (ans : List Int) (xs : List ByteArray) (held : Int) (w' : World) : Prop :=
  JP2 w g p v x (if b3 (hdA ans) = true then 5 else 6) rows tries (errB (hdA ans)) ans.tail (xs ++ [⟨#[115, 101, 116, 116, 108, 101, 32]⟩ ++ x.name]) held w'
set_option maxRecDepth 10000 in
theorem setl_any (w : World) (g p : Nat) (x : Sx) (phase : Int) (rows : List S60) (tries err : Int) (v : Value) (ans : List Int) (xs : List ByteArray) (held : Int)
    (h : JW w g p x phase rows tries err v ans xs held) (hx : xs.length < 1000000) (hn : ans.length < 1000000) (hs : x.name.size ≤ 1000) :
    Calls Try.prog 30 #[.pointer (some ⟨g, 0, none⟩), .iface 34 (.pointer (some ⟨p, 0, none⟩))] w fun e w' => e = .returned (.tuple #[]) ∧ SetPost w g p v x rows tries ans xs held w' := by
  have hd := h.made ((Fr.refl (fun _ => False) w).drew)
  obtain ⟨⟨va, hJ⟩, ⟨vt, hT⟩⟩ := h
  obtain ⟨_, ⟨vt, hTd⟩⟩ := id hd
  have c2 := blk_cell hJ.blk 2
  simp only [List.getElem?_toArray, List.getElem?_cons_succ, List.getElem?_cons_zero] at c2
  have hna := na_Settle
  have hme := me_Settle
  have hmf : ∀ (fn : Fn) (first cap : Array Value) (w : World), (Instr.makeFunc fn first cap).run Try.prog w = .ok (.func fn first cap) w := fun _ _ _ _ => rfl
  have H0 := Lib.hid hd
  have HT0 := Lib.hid hTd
  have HF : Hid (∀ w' , JP2 w.drew g p v x (if b3 (hdA ans) = true then 5 else 6) rows tries (errB (hdA ans)) ans.tail (xs ++ [⟨#[115, 101, 116, 116, 108, 101, 32]⟩ ++ x.name]) held w' → SetPost w g p v x rows tries ans xs held w') :=
    fun w' h => JP2.before ((Fr.refl (fun _ => False) w).drew) h
  clear hT hJ hd hTd
  go_enter Try.func30, Try.ntmps30
  go_wp2_with fail
  go_region_with (first
    | (go_at_call 44; refine (settle_any _ p vt v ans xs held HT0.out hx hn _ hs).mono ?_; rintro e w1 ⟨rfl, h1⟩; have h2 := JP2.told H0.out h1; obtain ⟨v1, ⟨⟨va1, hj1⟩, ht1⟩, f1, b1'⟩ := h2; have H1 := Lib.hid (And.intro hj1 (And.intro ht1 (And.intro f1 b1'))); clear h1 hj1 ht1 f1 b1' c2)
    | (go_at_call 54; refine (turn_any _ g x phase va1 rows tries err H1.out.1 _ _ _).mono ?_; rintro e w2 ⟨rfl, h2⟩; have H2 := Lib.hid (HF.out _ (JP2.trans ⟨v1, ⟨⟨va1, H1.out.1⟩, H1.out.2.1⟩, H1.out.2.2.1, H1.out.2.2.2⟩ fun v2 hj => JP2.job hj h2)); clear h2))
  all_goals
    go_end0
    exact ⟨rfl, Hid.out (by assumption)⟩

def AbaPost (w : World) (g p : Nat) (v : Value) (x : Sx) (phase : Int) (rows : List S60) (tries err : Int) (ans : List Int) (xs : List ByteArray) (held : Int) (w' : World) : Prop :=
  JP2 w g p v x (if b3 (hdA ans) = true then phase else 6) rows tries err ans.tail (xs ++ [⟨#[97, 98, 97, 110, 100, 111, 110, 32]⟩ ++ x.name]) held w'
theorem aban_any (w : World) (g p : Nat) (x : Sx) (phase : Int) (rows : List S60) (tries err : Int) (v : Value) (ans : List Int) (xs : List ByteArray) (held : Int)
    (h : JW w g p x phase rows tries err v ans xs held) (hx : xs.length < 1000000) (hn : ans.length < 1000000) (hs : x.name.size ≤ 1000) :
    Calls Try.prog 31 #[.pointer (some ⟨g, 0, none⟩), .iface 34 (.pointer (some ⟨p, 0, none⟩))] w fun e w' => e = .returned (.tuple #[]) ∧ AbaPost w g p v x phase rows tries err ans xs held w' := by
  have hd := h.made ((Fr.refl (fun _ => False) w).drew)
  obtain ⟨⟨va, hJ⟩, ⟨vt, hT⟩⟩ := h
  obtain ⟨_, ⟨vt, hTd⟩⟩ := id hd
  have c2 := blk_cell hJ.blk 2
  simp only [List.getElem?_toArray, List.getElem?_cons_succ, List.getElem?_cons_zero] at c2
  have hna := na_Abandon
  have hme := me_Abandon
  have hmf : ∀ (fn : Fn) (first cap : Array Value) (w : World), (Instr.makeFunc fn first cap).run Try.prog w = .ok (.func fn first cap) w := fun _ _ _ _ => rfl
  have H0 := Lib.hid hd
  have HT0 := Lib.hid hTd
  have HF : Hid (∀ ph w', JP2 w.drew g p v x ph rows tries err ans.tail (xs ++ [⟨#[97, 98, 97, 110, 100, 111, 110, 32]⟩ ++ x.name]) held w' → JP2 w g p v x ph rows tries err ans.tail (xs ++ [⟨#[97, 98, 97, 110, 100, 111, 110, 32]⟩ ++ x.name]) held w') :=
    fun _ w' h => JP2.before ((Fr.refl (fun _ => False) w).drew) h
  clear hT hJ hd hTd
  go_enter Try.func31, Try.ntmps31
  go_wp2_with fail
  go_region_with (go_at_call 45; refine (abandon_any _ p vt v ans xs held HT0.out hx hn _ hs).mono ?_; rintro e w1 ⟨rfl, h1⟩; have h2 := JP2.told H0.out h1; obtain ⟨v1, ⟨⟨va1, hj1⟩, ht1⟩, f1, b1'⟩ := h2; have HN := Lib.hid (HF.out phase w1 ⟨v1, ⟨⟨va1, hj1⟩, ht1⟩, f1, b1'⟩); have HY := Lib.hid (HF.out 6 _ (JP2.trans ⟨v1, ⟨⟨va1, hj1⟩, ht1⟩, f1, b1'⟩ fun v2 hj => JP2.job hj (hj1.setPhase 6))); have HB := Lib.hid hj1.blk; clear h1 hj1 ht1 f1 b1' c2)
  all_goals
    have c11 := blk_cell (Hid.out (by assumption : Hid (_ = some (Obj.cells _ 68 (0, 0))))) 11
    have f11 := blk_frozen (Hid.out (by assumption : Hid (_ = some (Obj.cells _ 68 (0, 0))))) 11
    simp only [List.getElem?_toArray, List.getElem?_cons_succ, List.getElem?_cons_zero] at c11
    cases hb : b3 (hdA ans) with
    | true =>
      have hb2 : (!b3 (hdA ans)) = false := by rw [hb]; rfl
      have HA : Hid (∀ w', JP2 w g p v x phase rows tries err ans.tail (xs ++ [⟨#[97, 98, 97, 110, 100, 111, 110, 32]⟩ ++ x.name]) held w' → AbaPost w g p v x phase rows tries err ans xs held w') :=
        fun w' h => by rw [AbaPost, hb]; exact h
      clear hb
      go_wp2
      go_end0
      exact ⟨rfl, HA.out _ (Hid.out (by assumption))⟩
    | false =>
      have hb2 : (!b3 (hdA ans)) = true := by rw [hb]; rfl
      have HA : Hid (∀ w', JP2 w g p v x 6 rows tries err ans.tail (xs ++ [⟨#[97, 98, 97, 110, 100, 111, 110, 32]⟩ ++ x.name]) held w' → AbaPost w g p v x phase rows tries err ans xs held w') :=
        fun w' h => by rw [AbaPost, hb]; exact h
      clear hb
      go_wp2
      go_end0
      exact ⟨rfl, HA.out _ (Hid.out (by assumption))⟩
end Go.Proofs.Ytplpdeanepdokaa
