/- The contract of a Told's Batch. -/
import Derived.Test.YtplpdeanepdokaaJ3
namespace Go.Proofs.Ytplpdeanepdokaa
open Go.RowKit H Go.Proofs.Ytplpdeanepdokaa.PJobSteps
open Go.Proofs.YtplpdeanepdokaaW.PrintWords (Kd)

def rc (r : S60) : List Value := [.int .i64 r.f0, .int .i64 r.f1, .string r.f2]
def rowC (l : List S60) : List Value := l.flatMap rc
noncomputable def batT (s : ByteArray) (r : S60) : ByteArray := s ++ (⟨#[32]⟩ ++ showB r.f1)
noncomputable def batchT (index : ByteArray) (l : List S60) : ByteArray := l.foldl batT (⟨#[98, 97, 116, 99, 104, 32]⟩ ++ index)

/-- A slice of values reads as the print's own word has it. -/
theorem row_kd {w : World} {A : Option Addr} {c : Nat} {l : List S60} (h : Row w 60 (.slice A l.length c) l.length (rowC l)) (hl : l.length ≤ 9223372036854775807) : Kd.C k60 w A l.length l := by
  refine ⟨rfl, hl, fun h0 => ?_⟩
  obtain ⟨b, o, rfl, hc⟩ := h.cells (by
    intro e
    have := flat_length rc 3 (fun _ => rfl) l
    rw [show l.flatMap rc = [] from e] at this
    simp at this
    omega)
  refine ⟨_, rfl, fun j x hj => ⟨rc x, rfl, k60_mk w x, fun i u hi => ?_⟩⟩
  have hi3 : i < 3 := (List.getElem?_eq_some_iff.1 hi).1
  have hjl : j < l.length := (List.getElem?_eq_some_iff.1 hj).1
  have hx : l[j] = x := (List.getElem?_eq_some_iff.1 hj).2
  have := h.elem (f := rc) (sz := 3) (fun _ => rfl) j i hjl hi3 u (by rw [hx]; exact hi)
  rw [Addr.add_lit]
  exact this

def BatchPost (w : World) (p : Nat) (v : Value) (ans : List Int) (xs : List ByteArray) (held : Int) (index : ByteArray) (l : List S60) (e : Ending) (w' : World) : Prop :=
  ∃ vr, e = .returned (.tuple #[vr, .bool (!b0 (hdA ans))]) ∧ TP w p v ans.tail (xs ++ [batchT index l]) held w' ∧
    (b0 (hdA ans) = false → Row w' 60 vr 1 (rowC [⟨1, hdA ans, ⟨#[]⟩⟩])) ∧ ∃ A c n, vr = .slice A n c

set_option maxHeartbeats 1000000 in
theorem batch_any (w : World) (p : Nat) (va v : Value) (ans : List Int) (xs : List ByteArray) (held : Int) (hT : Told w p va v ans xs held) (hx : xs.length < 1000000) (hn : ans.length < 1000000)
    (index : ByteArray) (hindex : index.size ≤ 1000) (A : Option Addr) (c : Nat) (l : List S60) (hl : Row w 60 (.slice A l.length c) l.length (rowC l)) (hlc : l.length ≤ c) (hl10 : l.length ≤ 100)
    (hok : ∀ x ∈ l, -9223372036854775808 ≤ x.f1 ∧ x.f1 ≤ 9223372036854775807) :
    Calls Try.prog 43 #[.pointer (some ⟨p, 0, none⟩), .string index, .slice A l.length c] w (BatchPost w p v ans xs held index l) := by
  have HL := Lib.hid hl
  have HOK := Lib.hid hok
  clear hl hok
  go_enter Try.func43, Try.ntmps43
  go_wp2_with fail
  refine (next_any w p va v ans xs held hT hn).mono ?_
  rintro e w1 ⟨rfl, va1, v1, t1, fr1, b1'⟩
  have HL1 := Lib.hid (HL.out.fr fr1 (by
    rintro k cur fr hk (rfl | hs)
    · exact blk_ty hk hT.blk (by decide) rfl
    · exact own_ne hT.own hk (by decide) hs))
  have HT1 := Lib.hid t1
  have HF1 := Lib.hid fr1
  have HB1 := Lib.hid b1'
  clear t1 fr1 b1' HL hT
  go_wp2_with fail
  go_loopw [9, 10] (fun vs vi wr => ∃ (k : Nat), k ≤ l.length ∧ vi = .int .i64 k ∧ vs = .string ((l.take k).foldl batT (⟨#[98, 97, 116, 99, 104, 32]⟩ ++ index)) ∧ ((l.take k).foldl batT (⟨#[98, 97, 116, 99, 104, 32]⟩ ++ index)).size ≤ 1100 + 100 * k ∧ Below w1.heap.size w1 wr) (fun _ vi _ => l.length - (intOf vi).toNat)
  case atStart => exact ⟨0, by omega, rfl, rfl, by simp [go_sem]; omega, Below.refl _ _⟩
  case round =>
    obtain ⟨k, hk, rfl, rfl, hs, hB⟩ := hrel
    by_cases hlt : k < l.length
    · obtain ⟨b, o, rfl, _⟩ := HL1.out.cells (by
        intro e
        have := flat_length rc 3 (fun _ => rfl) l
        rw [show l.flatMap rc = [] from e] at this
        simp at this
        omega)
      have hg := HL1.out.elem (f := rc) (sz := 3) (fun _ => rfl) k
      have hcell : ∀ a u, w1.cell? a = some u → wr.cell? a = some u := fun a u hc => (hB.cell (World.block_lt_of_cell? w1 a hc)).trans hc
      obtain ⟨hx1, hx2⟩ := HOK.out l[k] (List.getElem_mem hlt)
      have hstep := take_foldl_succ batT (⟨#[98, 97, 116, 99, 104, 32]⟩ ++ index) l k hlt
      have f1 := hcell _ _ (hg 1 hlt (by omega) _ rfl)
      clear hg hcell
      generalize l[k] = x at *
      generalize (l.take k).foldl batT (⟨#[98, 97, 116, 99, 104, 32]⟩ ++ index) = s at *
      rw [← Nat.add_assoc] at f1
      have hz1 := showB_size x.f1 hx1 hx2
      have hsz : (batT s x).size ≤ s.size + 41 := by
        simp only [batT, go_sem, List.size_toArray, List.length_cons, List.length_nil]
        omega
      have HS := Lib.hid hstep
      have HX := Lib.hid (And.intro hx1 hx2)
      clear hstep hx1 hx2
      go_wp2_with fail
      refine (show_any _ _ HX.out.1 HX.out.2).mono ?_
      rintro e w2 ⟨rfl, hbl⟩
      have hB2 : Below w1.heap.size w1 w2 := hB.trans (hbl.mono hB.size)
      clear hbl hB f1
      go_wp2_with fail
      go_roundw
      case rel =>
        refine ⟨k + 1, by omega, by go_num, ?_, ?_, ?_⟩
        · rw [HS.out]; rfl
        · rw [HS.out]; exact Nat.le_trans hsz (by omega)
        · exact hB2
      case measure => simp [intOf]; omega
    · have hke : k = l.length := by omega
      subst hke
      clear hlt
      rw [List.take_length] at hs ⊢
      have t2 := HT1.out.fr (Fr.of_below hB) id (fun _ _ => id) (fun _ _ _ _ => id)
      have HL2 := Lib.hid (HL1.out.fr (Fr.of_below hB) (fun _ _ _ _ => id))
      have HF2 := Lib.hid ((Fr.of_below hB).mono (S' := toldS p v1) (fun _ _ hf => hf.elim))
      go_wp2_with fail
      refine (note_any wr p va1 v1 ans.tail xs held _ t2 hx).mono ?_
      rintro e w3 ⟨rfl, v3, t3, fr3, b3'⟩
      have h3 := TP.trans t2 HF2.out (fun _ hk => .inl hk) (TP.trans t3 fr3 b3' (TP.refl t3))
      have h3 := TP.trans HT1.out HF1.out HB1.out h3
      have HL3 := Lib.hid (HL2.out.fr fr3 (by
        rintro k cur fr hk (rfl | hs)
        · exact blk_ty hk t2.blk (by decide) rfl
        · exact own_ne t2.own hk (by decide) hs))
      obtain ⟨va4, v4, t4, fr4, b4⟩ := h3
      have H4 := Lib.hid (And.intro t4 (And.intro fr4 b4))
      clear t2 HF2 HT1 HL1 HL2 HOK t3 fr3 b3' hB hs HF1 HB1 t4 fr4 b4
      go_wp2_with fail
      · have hb : b0 (hdA ans) = true := by assumption
        refine (interlockref00_CopyRow.calls A c l l w3 (row_kd HL3.out (by omega)) hlc (by unfold interlockref00_CopyRow.f; simp; omega)).mono ?_
        rintro e w5 ⟨v0, rfl, hR, hbl⟩
        obtain ⟨inner, ho⟩ := Kd.R_own hR
        obtain ⟨A5, c5, rfl⟩ := own_slice ho
        have HE : Hid (TP w p v ans.tail (xs ++ [batchT index l]) held w5) :=
          TP.trans H4.out.1 H4.out.2.1 H4.out.2.2 ⟨va4, v4, H4.out.1.fr (Fr.of_below hbl) id (fun _ _ => id) (fun _ _ _ _ => id), (Fr.of_below hbl).mono (fun _ _ hf => hf.elim), fun _ hk => .inl hk⟩
        clear hR ho HL3 H4 hbl
        go_wp2
        go_ret2
        exact ⟨_, by rw [hb]; rfl, HE.out, fun h => by (rw [hb] at h; cases h), _, _, _, rfl⟩
      · have hb : b0 (hdA ans) = false := by assumption
        have hfa : Fr (fun _ => False) w3 (w3.alloc (.cells #[.int .i64 1, .int .i64 (hdA ans), .string ⟨#[]⟩] 60)) := (Fr.refl _ w3).alloc _
        have HE : Hid (TP w p v ans.tail (xs ++ [batchT index l]) held (w3.alloc (.cells #[.int .i64 1, .int .i64 (hdA ans), .string ⟨#[]⟩] 60))) :=
          TP.trans H4.out.1 H4.out.2.1 H4.out.2.2 ⟨va4, v4, H4.out.1.fr hfa id (fun _ _ => id) (fun _ _ _ _ => id), hfa.mono (fun _ _ hf => hf.elim), fun _ hk => .inl hk⟩
        have HR : Hid (Row (w3.alloc (.cells #[.int .i64 1, .int .i64 (hdA ans), .string ⟨#[]⟩] 60)) 60 (.slice (some ⟨w3.heap.size, 0, none⟩) 1 1) 1 (rowC [⟨1, hdA ans, ⟨#[]⟩⟩])) :=
          ⟨_, _, rfl, Nat.le_refl _, .inr ⟨_, 0, _, _, rfl, blk_new _ _, fun j u hu => by
            rw [Nat.zero_add]
            simpa [rowC, rc] using hu⟩⟩
        go_ret2
        exact ⟨_, by rw [hb]; rfl, HE.out, fun _ => HR.out, _, _, _, rfl⟩
end Go.Proofs.Ytplpdeanepdokaa
