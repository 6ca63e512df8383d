/- The contracts of a Told's Try and Batch. -/
import Derived.Test.YtplpdeanepdokaaJ2
import Derived.Deep.RegionHeld3
import Derived.Deep.LoopGhost
import Derived.LoopTactic
import Derived.WalkArith
namespace Go.Proofs.Ytplpdeanepdokaa
open Go.RowKit H

structure Wt where
  kind : Int
  tab : ByteArray
  key : ByteArray
  mode : Int
def Wt.cells (x : Wt) : List Value := [.int .i64 x.kind, .string x.tab, .string x.key, .int .i64 x.mode]
def wtCells (l : List Wt) : List Value := l.flatMap Wt.cells
noncomputable def wtT (s : ByteArray) (x : Wt) : ByteArray := s ++ (⟨#[32]⟩ ++ showB x.kind ++ x.tab ++ x.key ++ ⟨#[58]⟩ ++ showB x.mode)
noncomputable def tryT (l : List Wt) : ByteArray := l.foldl wtT ⟨#[116, 114, 121]⟩


theorem keep4 {w0 w1 w2 : World} {a0 a1 a2 a3 : Addr} {v0 v1 v2 v3 : Value}
    (h : (w1.cell? a0 = some v0 ∧ w1.cell? a1 = some v1 ∧ w1.cell? a2 = some v2 ∧ w1.cell? a3 = some v3) ∧ Below w0.heap.size w0 w1) (hb : Below w1.heap.size w1 w2) :
    (w2.cell? a0 = some v0 ∧ w2.cell? a1 = some v1 ∧ w2.cell? a2 = some v2 ∧ w2.cell? a3 = some v3) ∧ Below w0.heap.size w0 w2 := by
  obtain ⟨⟨h0, h1, h2, h3⟩, hw⟩ := h
  have k := fun {a : Addr} {v : Value} (hc : w1.cell? a = some v) => (hb.cell (World.block_lt_of_cell? w1 a hc)).trans hc
  exact ⟨⟨k h0, k h1, k h2, k h3⟩, hw.trans (hb.mono hw.size)⟩

structure WtOk (x : Wt) : Prop where
  k0 : -1000 ≤ x.kind
  k1 : x.kind ≤ 1000
  m0 : -1000 ≤ x.mode
  m1 : x.mode ≤ 1000
  tab : x.tab.size ≤ 1000
  key : x.key.size ≤ 1000
theorem wtT_size (s : ByteArray) (x : Wt) (h : WtOk x) : (wtT s x).size ≤ s.size + 3000 := by
  have hz1 := showB_size x.kind (by have := h.k0; omega) (by have := h.k1; omega)
  have hz2 := showB_size x.mode (by have := h.m0; omega) (by have := h.m1; omega)
  have := h.tab
  have := h.key
  simp only [wtT, go_sem, List.size_toArray, List.length_cons, List.length_nil]
  omega

/-- What a Try answers and leaves. -/
def TryPost (w : World) (p : Nat) (v : Value) (ans : List Int) (xs : List ByteArray) (held : Int) (l : List Wt) (w' : World) : Prop :=
  TP w p v ans.tail (xs ++ [tryT l]) (if b1 (hdA ans) = true then held + 1 else held) w'

set_option maxHeartbeats 1000000 in
theorem try_any (w : World) (p : Nat) (va v : Value) (ans : List Int) (xs : List ByteArray) (held : Int) (hT : Told w p va v ans xs held) (hx : xs.length < 1000000) (hn : ans.length < 1000000)
    (h0 : -1000 ≤ held) (h1 : held ≤ 1000) (b o c : Nat) (l : List Wt) (hl : Row w 97 (.slice (some ⟨b, o, none⟩) l.length c) l.length (wtCells l)) (hne : 0 < l.length) (hl10 : l.length ≤ 10) (hok : ∀ x ∈ l, WtOk x) :
    Calls Try.prog 36 #[.pointer (some ⟨p, 0, none⟩), .slice (some ⟨b, o, none⟩) l.length c] w fun e w' => e = .returned (.bool (b1 (hdA ans))) ∧ TryPost w p v ans xs held l w' := by
  have HT := Lib.hid hT
  have HL := Lib.hid hl
  have HOK := Lib.hid hok
  clear hT hl hok
  go_enter Try.func36, Try.ntmps36
  go_wp2_with fail
  go_loopw [5, 6] (fun vs vi wr => ∃ (k : Nat), k ≤ l.length ∧ vi = .int .i64 k ∧ vs = .string ((l.take k).foldl wtT ⟨#[116, 114, 121]⟩) ∧ ((l.take k).foldl wtT ⟨#[116, 114, 121]⟩).size ≤ 10 + 3000 * k ∧ Below w.heap.size w wr) (fun _ vi _ => l.length - (intOf vi).toNat)
  case atStart => exact ⟨0, by omega, rfl, rfl, by simp [go_sem], Below.refl _ _⟩
  case round =>
    obtain ⟨k, hk, rfl, rfl, hs, hB⟩ := hrel
    by_cases hlt : k < l.length
    · have hg := HL.out.elem (f := Wt.cells) (sz := 4) (fun _ => rfl) k
      have hcell : ∀ a u, w.cell? a = some u → wr.cell? a = some u := fun a u hc => (hB.cell (World.block_lt_of_cell? w a hc)).trans hc
      have hwt := HOK.out l[k] (List.getElem_mem hlt)
      have hsz := wtT_size ((l.take k).foldl wtT ⟨#[116, 114, 121]⟩) l[k] hwt
      have hstep := take_foldl_succ wtT ⟨#[116, 114, 121]⟩ l k hlt
      have f0 := hcell _ _ (hg 0 hlt (by omega) _ rfl)
      have f1 := hcell _ _ (hg 1 hlt (by omega) _ rfl)
      have f2 := hcell _ _ (hg 2 hlt (by omega) _ rfl)
      have f3 := hcell _ _ (hg 3 hlt (by omega) _ rfl)
      clear hg hcell
      generalize l[k] = x at *
      generalize (l.take k).foldl wtT ⟨#[116, 114, 121]⟩ = s at *
      rw [Nat.add_zero] at f0
      rw [← Nat.add_assoc] at f1 f2 f3
      obtain ⟨hx1, hx2, hx3, hx4, hx5, hx6⟩ := hwt
      have hz1 := showB_size x.kind (by omega) (by omega)
      have hz2 := showB_size x.mode (by omega) (by omega)
      have e1 : ∀ w, (Op.stringOp .add ⟨#[32]⟩ (showB x.kind)).run Try.prog w = .ok (.string (⟨#[32]⟩ ++ showB x.kind)) w := fun w => run_string_add_sum w _ _ (by simp only [go_sem, List.size_toArray, List.length_cons, List.length_nil]; omega)
      have e2 : ∀ w, (Op.stringOp .add (⟨#[32]⟩ ++ showB x.kind) x.tab).run Try.prog w = .ok (.string (⟨#[32]⟩ ++ showB x.kind ++ x.tab)) w := fun w => run_string_add_sum w _ _ (by simp only [go_sem, List.size_toArray, List.length_cons, List.length_nil]; omega)
      have e3 : ∀ w, (Op.stringOp .add (⟨#[32]⟩ ++ showB x.kind ++ x.tab) x.key).run Try.prog w = .ok (.string (⟨#[32]⟩ ++ showB x.kind ++ x.tab ++ x.key)) w := fun w => run_string_add_sum w _ _ (by simp only [go_sem, List.size_toArray, List.length_cons, List.length_nil]; omega)
      have e4 : ∀ w, (Op.stringOp .add (⟨#[32]⟩ ++ showB x.kind ++ x.tab ++ x.key) ⟨#[58]⟩).run Try.prog w = .ok (.string (⟨#[32]⟩ ++ showB x.kind ++ x.tab ++ x.key ++ ⟨#[58]⟩)) w := fun w => run_string_add_sum w _ _ (by simp only [go_sem, List.size_toArray, List.length_cons, List.length_nil]; omega)
      have e5 : ∀ w, (Op.stringOp .add (⟨#[32]⟩ ++ showB x.kind ++ x.tab ++ x.key ++ ⟨#[58]⟩) (showB x.mode)).run Try.prog w = .ok (.string (⟨#[32]⟩ ++ showB x.kind ++ x.tab ++ x.key ++ ⟨#[58]⟩ ++ showB x.mode)) w := fun w => run_string_add_sum w _ _ (by simp only [go_sem, List.size_toArray, List.length_cons, List.length_nil]; omega)
      have e6 : ∀ w, (Op.stringOp .add s (⟨#[32]⟩ ++ showB x.kind ++ x.tab ++ x.key ++ ⟨#[58]⟩ ++ showB x.mode)).run Try.prog w = .ok (.string (wtT s x)) w := fun w => run_string_add_sum w _ _ (by simp only [go_sem, List.size_toArray, List.length_cons, List.length_nil]; omega)
      have HS := Lib.hid hstep
      clear hz1 hz2 hx5 hx6 hstep
      go_wp2_with fail
      go_region_held3 (fun w' => (w'.cell? ⟨b, o + k * 4, none⟩ = some (.int .i64 x.kind) ∧ w'.cell? ⟨b, o + k * 4 + 1, none⟩ = some (.string x.tab) ∧ w'.cell? ⟨b, o + k * 4 + 2, none⟩ = some (.string x.key) ∧ w'.cell? ⟨b, o + k * 4 + 3, none⟩ = some (.int .i64 x.mode)) ∧ Below w.heap.size w w') (first | exact ⟨⟨f0, f1, f2, f3⟩, hB.drew⟩ | (exact keep4 (by assumption) (by assumption)))
        (first | (go_at_call 57; refine (show_any _ _ (by omega) (by omega)).mono ?_; rintro e w' ⟨rfl, hbl⟩))
      clear e1 e2 e3 e4 e5 e6
      rename_i hh
      have hB2 := hh.2
      clear hh
      go_wp2_with fail
      go_roundw
      case rel =>
        refine ⟨k + 1, by omega, by go_num, ?_, ?_, ?_⟩
        · rw [HS.out]
        · rw [HS.out]; exact Nat.le_trans hsz (by omega)
        · exact hB2
      case measure => simp [intOf]; omega
    · have hke : k = l.length := by omega
      subst hke
      clear hlt
      rw [List.take_length] at hs ⊢
      have t0 := HT.out.fr (Fr.of_below hB) id (fun _ _ => id) (fun _ _ _ _ => id)
      have HF0 := Lib.hid ((Fr.of_below hB).mono (S' := toldS p v) (fun _ _ hf => hf.elim))
      go_wp2_with fail
      refine (note_any wr p va v ans xs held _ t0 hx).mono ?_
      rintro e w1 ⟨rfl, v1, t1, fr1, b1'⟩
      clear hs
      go_wp2_with fail
      refine (next_any w1 p va v1 ans _ held t1 hn).mono ?_
      rintro e w2 ⟨rfl, h2⟩
      have h2 := TP.trans t1 fr1 b1' h2
      have h3 := TP.trans t0 HF0.out (fun _ hk => .inl hk) h2
      obtain ⟨va2, v2, t2, fr2, b2⟩ := h3
      have c2 := blk_cell t2.blk 2
      have f2 := blk_frozen t2.blk 2
      simp only [List.getElem?_toArray, List.getElem?_cons_succ, List.getElem?_cons_zero] at c2
      have HN := Lib.hid (TP.trans t2 fr2 b2 (TP.refl t2))
      have HY := Lib.hid (TP.trans t2 fr2 b2 (t2.setHeld (held + 1)))
      clear t0 HF0 HT HL HOK t1 fr1 b1' h2 t2 fr2 b2 hB
      go_wp2
      · have h : b1 (hdA ans) = true := by assumption
        go_ret
        refine ⟨by rw [h]; rfl, ?_⟩
        rw [TryPost, if_pos h]
        exact HY.out
      · have h : b1 (hdA ans) = false := by assumption
        go_ret
        refine ⟨by rw [h]; rfl, ?_⟩
        rw [TryPost, if_neg (by rw [h]; decide)]
        exact HN.out
end Go.Proofs.Ytplpdeanepdokaa
