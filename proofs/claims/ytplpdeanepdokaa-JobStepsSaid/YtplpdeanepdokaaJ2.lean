/- The contracts of a Told's methods, on. -/
import Derived.Test.YtplpdeanepdokaaJ1
import Derived.Test.YtplpdeanepdokaaJ0
namespace Go.Proofs.Ytplpdeanepdokaa
open Go.RowKit H

/-- What is answered next. -/
def hdA : List Int → Int
  | [] => 0
  | a :: _ => a
/-- The bits that a Told looks at. -/
def b1 (n : Int) : Bool := bits BinOp.and IntKind.i64 n 1 == 1
def b0 (n : Int) : Bool := bits BinOp.and IntKind.i64 n 1 == 0
def b3 (n : Int) : Bool := bits BinOp.and IntKind.i64 n 3 == 3
def errB (n : Int) : Int := if b3 n then 12 else 0

theorem errno_any (w : World) (n : Int) :
    Calls Try.prog 60 #[.int .i64 n] w fun e w' => e = .returned (.int .i64 (errB n)) ∧ w = w' := by
  go_enter Try.func60, Try.ntmps60
  go_wp2
  · have h : b3 n = true := by assumption
    go_ret
    exact ⟨by rw [errB, h]; rfl, rfl⟩
  · have h : b3 n = false := by assumption
    go_ret
    exact ⟨by rw [errB, h]; rfl, rfl⟩

theorem next_any (w : World) (p : Nat) (va v : Value) (ans : List Int) (xs : List ByteArray) (held : Int) (hT : Told w p va v ans xs held) (hn : ans.length < 1000000) :
    Calls Try.prog 59 #[.pointer (some ⟨p, 0, none⟩)] w fun e w' => e = .returned (.int .i64 (hdA ans)) ∧ TP w p v ans.tail xs held w' := by
  cases ans with
  | nil => exact (next_none w p va v xs held hT).mono fun e w' ⟨he, hw⟩ => ⟨he, hw ▸ TP.refl hT⟩
  | cons a ans => exact next_some w p va v a ans xs held hT (by simp at hn; omega)

theorem free_any (w : World) (p : Nat) (va v : Value) (ans : List Int) (xs : List ByteArray) (held : Int) (hT : Told w p va v ans xs held) (hx : xs.length < 1000000)
    (h0 : -1000 ≤ held) (h1 : held ≤ 1000) :
    Calls Try.prog 40 #[.pointer (some ⟨p, 0, none⟩)] w fun e w' => e = .returned (.tuple #[]) ∧ TP w p v ans (xs ++ [⟨#[102, 114, 101, 101]⟩]) (held - 1) w' := by
  go_enter Try.func40, Try.ntmps40
  go_wp2_with fail
  refine (note_any w p va v ans xs held _ hT hx).mono ?_
  rintro e w1 ⟨rfl, v1, t1, fr1, b1⟩
  have c2 := blk_cell t1.blk 2
  have f2 := blk_frozen t1.blk 2
  simp only [List.getElem?_toArray, List.getElem?_cons_succ, List.getElem?_cons_zero] at c2
  have HF := Lib.hid (TP.trans t1 fr1 b1 (t1.setHeld (held - 1)))
  clear t1 fr1 b1
  go_wp2
  go_end0
  exact ⟨rfl, HF.out⟩

theorem elder_any (w : World) (p : Nat) (va v : Value) (ans : List Int) (xs : List ByteArray) (held : Int) (hT : Told w p va v ans xs held) (hx : xs.length < 1000000) (hn : ans.length < 1000000) :
    Calls Try.prog 41 #[.pointer (some ⟨p, 0, none⟩)] w fun e w' => e = .returned (.bool (b1 (hdA ans))) ∧ TP w p v ans.tail (xs ++ [⟨#[101, 108, 100, 101, 114]⟩]) held w' := by
  go_enter Try.func41, Try.ntmps41
  go_wp2_with fail
  refine (note_any w p va v ans xs held _ hT hx).mono ?_
  rintro e w1 ⟨rfl, v1, t1, fr1, b1⟩
  go_wp2_with fail
  refine (next_any w1 p va v1 ans _ held t1 hn).mono ?_
  rintro e w2 ⟨rfl, h2⟩
  have HF := Lib.hid (TP.trans t1 fr1 b1 h2)
  clear t1 fr1 b1 h2
  go_wp2
  go_ret
  exact ⟨rfl, HF.out⟩

theorem token_any (w : World) (p : Nat) (va v : Value) (ans : List Int) (xs : List ByteArray) (held : Int) (hT : Told w p va v ans xs held) (hx : xs.length < 1000000) (hn : ans.length < 1000000) :
    Calls Try.prog 42 #[.pointer (some ⟨p, 0, none⟩)] w fun e w' => e = .returned (.bool (b1 (hdA ans))) ∧ TP w p v ans.tail (xs ++ [⟨#[116, 111, 107, 101, 110]⟩]) held w' := by
  go_enter Try.func42, Try.ntmps42
  go_wp2_with fail
  refine (note_any w p va v ans xs held _ hT hx).mono ?_
  rintro e w1 ⟨rfl, v1, t1, fr1, b1⟩
  go_wp2_with fail
  refine (next_any w1 p va v1 ans _ held t1 hn).mono ?_
  rintro e w2 ⟨rfl, h2⟩
  have HF := Lib.hid (TP.trans t1 fr1 b1 h2)
  clear t1 fr1 b1 h2
  go_wp2
  go_ret
  exact ⟨rfl, HF.out⟩

theorem settle_any (w : World) (p : Nat) (va v : Value) (ans : List Int) (xs : List ByteArray) (held : Int) (hT : Told w p va v ans xs held) (hx : xs.length < 1000000) (hn : ans.length < 1000000)
    (s : ByteArray) (hs : s.size ≤ 1000) :
    Calls Try.prog 44 #[.pointer (some ⟨p, 0, none⟩), .string s] w fun e w' => e = .returned (.int .i64 (errB (hdA ans))) ∧
      TP w p v ans.tail (xs ++ [⟨#[115, 101, 116, 116, 108, 101, 32]⟩ ++ s]) held w' := by
  go_enter Try.func44, Try.ntmps44
  go_wp2_with fail
  refine (note_any w p va v ans xs held _ hT hx).mono ?_
  rintro e w1 ⟨rfl, v1, t1, fr1, b1⟩
  go_wp2_with fail
  refine (next_any w1 p va v1 ans _ held t1 hn).mono ?_
  rintro e w2 ⟨rfl, h2⟩
  have HF := Lib.hid (TP.trans t1 fr1 b1 h2)
  clear t1 fr1 b1 h2
  go_wp2_with fail
  refine (errno_any _ _).mono ?_
  rintro e w3 ⟨rfl, rfl⟩
  go_wp2
  go_ret
  exact ⟨rfl, HF.out⟩

theorem abandon_any (w : World) (p : Nat) (va v : Value) (ans : List Int) (xs : List ByteArray) (held : Int) (hT : Told w p va v ans xs held) (hx : xs.length < 1000000) (hn : ans.length < 1000000)
    (s : ByteArray) (hs : s.size ≤ 1000) :
    Calls Try.prog 45 #[.pointer (some ⟨p, 0, none⟩), .string s] w fun e w' => e = .returned (.bool (!b3 (hdA ans))) ∧
      TP w p v ans.tail (xs ++ [⟨#[97, 98, 97, 110, 100, 111, 110, 32]⟩ ++ s]) held w' := by
  go_enter Try.func45, Try.ntmps45
  go_wp2_with fail
  refine (note_any w p va v ans xs held _ hT hx).mono ?_
  rintro e w1 ⟨rfl, v1, t1, fr1, b1⟩
  go_wp2_with fail
  refine (next_any w1 p va v1 ans _ held t1 hn).mono ?_
  rintro e w2 ⟨rfl, h2⟩
  have HF := Lib.hid (TP.trans t1 fr1 b1 h2)
  clear t1 fr1 b1 h2
  go_wp2
  go_ret
  exact ⟨rfl, HF.out⟩

theorem register_any (w : World) (p : Nat) (va v : Value) (ans : List Int) (xs : List ByteArray) (held : Int) (hT : Told w p va v ans xs held) (hx : xs.length < 1000000) (hn : ans.length < 1000000)
    (k : Value) (tab name : ByteArray) (r1 r2 r3 r4 r5 r6 r7 r8 : Value) (hs : name.size ≤ 1000) :
    Calls Try.prog 39 #[.pointer (some ⟨p, 0, none⟩), .agg #[k, .string tab, .string name, r1, r2, r3, r4, r5, r6, r7, r8]] w fun e w' => e = .returned (.int .i64 (errB (hdA ans))) ∧
      TP w p v ans.tail (xs ++ [⟨#[114, 101, 103, 105, 115, 116, 101, 114, 32]⟩ ++ name]) held w' := by
  go_enter Try.func39, Try.ntmps39
  go_wp2_with fail
  refine (note_any _ p va v ans xs held _ (hT.alloc _) hx).mono ?_
  rintro e w1 ⟨rfl, v1, t1, fr1, b1⟩
  go_wp2_with fail
  refine (next_any w1 p va v1 ans _ held t1 hn).mono ?_
  rintro e w2 ⟨rfl, h2⟩
  have h3 := TP.trans t1 fr1 b1 h2
  have HF := Lib.hid (TP.trans (hT.alloc _) ((Fr.refl (toldS p v) w).alloc _) (fun _ hk => .inl hk) h3)
  clear t1 fr1 b1 h2 h3
  go_wp2_with fail
  refine (errno_any _ _).mono ?_
  rintro e w3 ⟨rfl, rfl⟩
  go_wp2
  go_ret
  exact ⟨rfl, HF.out⟩
end Go.Proofs.Ytplpdeanepdokaa
