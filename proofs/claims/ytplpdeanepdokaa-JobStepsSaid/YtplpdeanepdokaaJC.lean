/- slices.Clone at each instance. -/
import Derived.Test.YtplpdeanepdokaaProg
import Derived.Test.YtplpdeanepdokaaH
import Derived.Test.YtplpdeanepdokaaH2
import Derived.Maps.AppendAt
import Derived.Lib.SliceRun
import Derived.Outline
namespace Go.Proofs.Ytplpdeanepdokaa
open Go.RowKit H

theorem cinfo47 : (Try.prog.info? 60).map (fun i => (i.zero, i.size, i.bytes)) = some (some (.agg #[.int .i64 0, .int .i64 0, .string ⟨#[]⟩]), 3, 32) := by kernel_rfl
set_option maxHeartbeats 400000 in
theorem clone47 (w : World) (A : Option Addr) (n c : Nat) (cs : List Value) (hr : Rd w (.slice A n c) n cs) (hl : cs.length = n * 3) (h1 : ∀ u ∈ cs, u.oneCell' = true) (hn : n ≤ 1000) :
    Calls Try.prog 47 #[.slice A n c] w (ClonePost w 60 3 n cs) := by
  have hnil : ∀ W, (binOp .eql 22 (.slice A n c) (.slice none 0 0)).run Try.prog W = .ok (.bool A.isNone) W := fun W => Lib.run_eql_slice_nil W _ _ _ _ _ _ _ Try.underlying22
  cases A with
  | none =>
    have hcs : cs = [] := hr.none_nil
    subst hcs
    have hn0 : n = 0 := by simp at hl; omega
    subst hn0
    go_enter Try.func47, Try.ntmps47
    go_wp2
    go_ret
    exact ⟨_, rfl, World.ownsRow_nil _ _ _ _, Fr.refl _ _⟩
  | some ad =>
    obtain ⟨i0, hi, hz0, hz1, hz2⟩ := info_parts cinfo47
    have hown := World.ownsRow_made (base := w.heap.size) (e := 60) (size := 3) w #[] 0 (Nat.le_refl _) (by unfold maxLen; omega) rfl
    have HN := Lib.hid (hr.news (.cells #[] 60))
    have HL := Lib.hid hl
    clear hr hl
    go_enter Try.func47, Try.ntmps47
    go_wp2_with (at_builtin; refine wpList_append_own_at _ rfl _ _ 22 rfl w.heap.size 60 i0 (.agg #[.int .i64 0, .int .i64 0, .string ⟨#[]⟩]) 3 32 Try.underlying22 hi hz0 hz1 hz2 rfl (by decide) _ _ _ rfl hown ad n c cs rfl ?c1 ?c2 ?c3 ?c4 ?c5 ?c6 ?_)
    case c1 => exact HL.out
    case c2 => exact HN.out
    case c3 => exact h1
    case c4 => unfold maxLen; omega
    case c5 => omega
    case c6 => simp
    intro v' w1 hown1 hg _ _
    have HF := Lib.hid (ClonePost.intro hown1 (((Fr.refl (fun _ => False) w).alloc _).grown hg (by intro i hi he; simp [Value.ownBlock] at he; omega)))
    clear hown hown1 hg hi hz0 hz1 hz2 HN HL hnil
    go_wp2
    go_ret
    exact HF.out

theorem cinfo48 : (Try.prog.info? 62).map (fun i => (i.zero, i.size, i.bytes)) = some (some (.agg #[.string ⟨#[]⟩, .int .i64 0, .int .i64 0, .string ⟨#[]⟩]), 4, 48) := by kernel_rfl
set_option maxHeartbeats 400000 in
theorem clone48 (w : World) (A : Option Addr) (n c : Nat) (cs : List Value) (hr : Rd w (.slice A n c) n cs) (hl : cs.length = n * 4) (h1 : ∀ u ∈ cs, u.oneCell' = true) (hn : n ≤ 1000) :
    Calls Try.prog 48 #[.slice A n c] w (ClonePost w 62 4 n cs) := by
  have hnil : ∀ W, (binOp .eql 23 (.slice A n c) (.slice none 0 0)).run Try.prog W = .ok (.bool A.isNone) W := fun W => Lib.run_eql_slice_nil W _ _ _ _ _ _ _ Try.underlying23
  cases A with
  | none =>
    have hcs : cs = [] := hr.none_nil
    subst hcs
    have hn0 : n = 0 := by simp at hl; omega
    subst hn0
    go_enter Try.func48, Try.ntmps48
    go_wp2
    go_ret
    exact ⟨_, rfl, World.ownsRow_nil _ _ _ _, Fr.refl _ _⟩
  | some ad =>
    obtain ⟨i0, hi, hz0, hz1, hz2⟩ := info_parts cinfo48
    have hown := World.ownsRow_made (base := w.heap.size) (e := 62) (size := 4) w #[] 0 (Nat.le_refl _) (by unfold maxLen; omega) rfl
    have HN := Lib.hid (hr.news (.cells #[] 62))
    have HL := Lib.hid hl
    clear hr hl
    go_enter Try.func48, Try.ntmps48
    go_wp2_with (at_builtin; refine wpList_append_own_at _ rfl _ _ 23 rfl w.heap.size 62 i0 (.agg #[.string ⟨#[]⟩, .int .i64 0, .int .i64 0, .string ⟨#[]⟩]) 4 48 Try.underlying23 hi hz0 hz1 hz2 rfl (by decide) _ _ _ rfl hown ad n c cs rfl ?c1 ?c2 ?c3 ?c4 ?c5 ?c6 ?_)
    case c1 => exact HL.out
    case c2 => exact HN.out
    case c3 => exact h1
    case c4 => unfold maxLen; omega
    case c5 => omega
    case c6 => simp
    intro v' w1 hown1 hg _ _
    have HF := Lib.hid (ClonePost.intro hown1 (((Fr.refl (fun _ => False) w).alloc _).grown hg (by intro i hi he; simp [Value.ownBlock] at he; omega)))
    clear hown hown1 hg hi hz0 hz1 hz2 HN HL hnil
    go_wp2
    go_ret
    exact HF.out

theorem cinfo49 : (Try.prog.info? 64).map (fun i => (i.zero, i.size, i.bytes)) = some (some (.agg #[.string ⟨#[]⟩, .int .i64 0, .int .i64 0, .int .i64 0, .string ⟨#[]⟩]), 5, 56) := by kernel_rfl
set_option maxHeartbeats 400000 in
theorem clone49 (w : World) (A : Option Addr) (n c : Nat) (cs : List Value) (hr : Rd w (.slice A n c) n cs) (hl : cs.length = n * 5) (h1 : ∀ u ∈ cs, u.oneCell' = true) (hn : n ≤ 1000) :
    Calls Try.prog 49 #[.slice A n c] w (ClonePost w 64 5 n cs) := by
  have hnil : ∀ W, (binOp .eql 24 (.slice A n c) (.slice none 0 0)).run Try.prog W = .ok (.bool A.isNone) W := fun W => Lib.run_eql_slice_nil W _ _ _ _ _ _ _ Try.underlying24
  cases A with
  | none =>
    have hcs : cs = [] := hr.none_nil
    subst hcs
    have hn0 : n = 0 := by simp at hl; omega
    subst hn0
    go_enter Try.func49, Try.ntmps49
    go_wp2
    go_ret
    exact ⟨_, rfl, World.ownsRow_nil _ _ _ _, Fr.refl _ _⟩
  | some ad =>
    obtain ⟨i0, hi, hz0, hz1, hz2⟩ := info_parts cinfo49
    have hown := World.ownsRow_made (base := w.heap.size) (e := 64) (size := 5) w #[] 0 (Nat.le_refl _) (by unfold maxLen; omega) rfl
    have HN := Lib.hid (hr.news (.cells #[] 64))
    have HL := Lib.hid hl
    clear hr hl
    go_enter Try.func49, Try.ntmps49
    go_wp2_with (at_builtin; refine wpList_append_own_at _ rfl _ _ 24 rfl w.heap.size 64 i0 (.agg #[.string ⟨#[]⟩, .int .i64 0, .int .i64 0, .int .i64 0, .string ⟨#[]⟩]) 5 56 Try.underlying24 hi hz0 hz1 hz2 rfl (by decide) _ _ _ rfl hown ad n c cs rfl ?c1 ?c2 ?c3 ?c4 ?c5 ?c6 ?_)
    case c1 => exact HL.out
    case c2 => exact HN.out
    case c3 => exact h1
    case c4 => unfold maxLen; omega
    case c5 => omega
    case c6 => simp
    intro v' w1 hown1 hg _ _
    have HF := Lib.hid (ClonePost.intro hown1 (((Fr.refl (fun _ => False) w).alloc _).grown hg (by intro i hi he; simp [Value.ownBlock] at he; omega)))
    clear hown hown1 hg hi hz0 hz1 hz2 HN HL hnil
    go_wp2
    go_ret
    exact HF.out

theorem cinfo50 : (Try.prog.info? 66).map (fun i => (i.zero, i.size, i.bytes)) = some (some (.agg #[.string ⟨#[]⟩, .int .i64 0, .bool false]), 3, 32) := by kernel_rfl
set_option maxHeartbeats 400000 in
theorem clone50 (w : World) (A : Option Addr) (n c : Nat) (cs : List Value) (hr : Rd w (.slice A n c) n cs) (hl : cs.length = n * 3) (h1 : ∀ u ∈ cs, u.oneCell' = true) (hn : n ≤ 1000) :
    Calls Try.prog 50 #[.slice A n c] w (ClonePost w 66 3 n cs) := by
  have hnil : ∀ W, (binOp .eql 25 (.slice A n c) (.slice none 0 0)).run Try.prog W = .ok (.bool A.isNone) W := fun W => Lib.run_eql_slice_nil W _ _ _ _ _ _ _ Try.underlying25
  cases A with
  | none =>
    have hcs : cs = [] := hr.none_nil
    subst hcs
    have hn0 : n = 0 := by simp at hl; omega
    subst hn0
    go_enter Try.func50, Try.ntmps50
    go_wp2
    go_ret
    exact ⟨_, rfl, World.ownsRow_nil _ _ _ _, Fr.refl _ _⟩
  | some ad =>
    obtain ⟨i0, hi, hz0, hz1, hz2⟩ := info_parts cinfo50
    have hown := World.ownsRow_made (base := w.heap.size) (e := 66) (size := 3) w #[] 0 (Nat.le_refl _) (by unfold maxLen; omega) rfl
    have HN := Lib.hid (hr.news (.cells #[] 66))
    have HL := Lib.hid hl
    clear hr hl
    go_enter Try.func50, Try.ntmps50
    go_wp2_with (at_builtin; refine wpList_append_own_at _ rfl _ _ 25 rfl w.heap.size 66 i0 (.agg #[.string ⟨#[]⟩, .int .i64 0, .bool false]) 3 32 Try.underlying25 hi hz0 hz1 hz2 rfl (by decide) _ _ _ rfl hown ad n c cs rfl ?c1 ?c2 ?c3 ?c4 ?c5 ?c6 ?_)
    case c1 => exact HL.out
    case c2 => exact HN.out
    case c3 => exact h1
    case c4 => unfold maxLen; omega
    case c5 => omega
    case c6 => simp
    intro v' w1 hown1 hg _ _
    have HF := Lib.hid (ClonePost.intro hown1 (((Fr.refl (fun _ => False) w).alloc _).grown hg (by intro i hi he; simp [Value.ownBlock] at he; omega)))
    clear hown hown1 hg hi hz0 hz1 hz2 HN HL hnil
    go_wp2
    go_ret
    exact HF.out

theorem cinfo51 : (Try.prog.info? 9).map (fun i => (i.zero, i.size, i.bytes)) = some (some (.string ⟨#[]⟩), 1, 16) := by kernel_rfl
set_option maxHeartbeats 400000 in
theorem clone51 (w : World) (A : Option Addr) (n c : Nat) (cs : List Value) (hr : Rd w (.slice A n c) n cs) (hl : cs.length = n * 1) (h1 : ∀ u ∈ cs, u.oneCell' = true) (hn : n ≤ 1000) :
    Calls Try.prog 51 #[.slice A n c] w (ClonePost w 9 1 n cs) := by
  have hnil : ∀ W, (binOp .eql 26 (.slice A n c) (.slice none 0 0)).run Try.prog W = .ok (.bool A.isNone) W := fun W => Lib.run_eql_slice_nil W _ _ _ _ _ _ _ Try.underlying26
  cases A with
  | none =>
    have hcs : cs = [] := hr.none_nil
    subst hcs
    have hn0 : n = 0 := by simp at hl; omega
    subst hn0
    go_enter Try.func51, Try.ntmps51
    go_wp2
    go_ret
    exact ⟨_, rfl, World.ownsRow_nil _ _ _ _, Fr.refl _ _⟩
  | some ad =>
    obtain ⟨i0, hi, hz0, hz1, hz2⟩ := info_parts cinfo51
    have hown := World.ownsRow_made (base := w.heap.size) (e := 9) (size := 1) w #[] 0 (Nat.le_refl _) (by unfold maxLen; omega) rfl
    have HN := Lib.hid (hr.news (.cells #[] 9))
    have HL := Lib.hid hl
    clear hr hl
    go_enter Try.func51, Try.ntmps51
    go_wp2_with (at_builtin; refine wpList_append_own_at _ rfl _ _ 26 rfl w.heap.size 9 i0 (.string ⟨#[]⟩) 1 16 Try.underlying26 hi hz0 hz1 hz2 rfl (by decide) _ _ _ rfl hown ad n c cs rfl ?c1 ?c2 ?c3 ?c4 ?c5 ?c6 ?_)
    case c1 => exact HL.out
    case c2 => exact HN.out
    case c3 => exact h1
    case c4 => unfold maxLen; omega
    case c5 => omega
    case c6 => simp
    intro v' w1 hown1 hg _ _
    have HF := Lib.hid (ClonePost.intro hown1 (((Fr.refl (fun _ => False) w).alloc _).grown hg (by intro i hi he; simp [Value.ownBlock] at he; omega)))
    clear hown hown1 hg hi hz0 hz1 hz2 HN HL hnil
    go_wp2
    go_ret
    exact HF.out

theorem cinfo34 : (Try.prog.info? 60).map (fun i => (i.zero, i.size, i.bytes)) = some (some (.agg #[.int .i64 0, .int .i64 0, .string ⟨#[]⟩]), 3, 32) := by kernel_rfl
set_option maxHeartbeats 400000 in
theorem clone34 (w : World) (A : Option Addr) (n c : Nat) (cs : List Value) (hr : Rd w (.slice A n c) n cs) (hl : cs.length = n * 3) (h1 : ∀ u ∈ cs, u.oneCell' = true) (hn : n ≤ 1000) :
    Calls Try.prog 34 #[.slice A n c] w (ClonePost w 60 3 n cs) := by
  have hnil : ∀ W, (binOp .eql 45 (.slice A n c) (.slice none 0 0)).run Try.prog W = .ok (.bool A.isNone) W := fun W => Lib.run_eql_slice_nil W _ _ _ _ _ _ _ Try.underlying45
  cases A with
  | none =>
    have hcs : cs = [] := hr.none_nil
    subst hcs
    have hn0 : n = 0 := by simp at hl; omega
    subst hn0
    go_enter Try.func34, Try.ntmps34
    go_wp2
    go_ret
    exact ⟨_, rfl, World.ownsRow_nil _ _ _ _, Fr.refl _ _⟩
  | some ad =>
    obtain ⟨i0, hi, hz0, hz1, hz2⟩ := info_parts cinfo34
    have hown := World.ownsRow_made (base := w.heap.size) (e := 60) (size := 3) w #[] 0 (Nat.le_refl _) (by unfold maxLen; omega) rfl
    have HN := Lib.hid (hr.news (.cells #[] 60))
    have HL := Lib.hid hl
    clear hr hl
    go_enter Try.func34, Try.ntmps34
    go_wp2_with (at_builtin; refine wpList_append_own_at _ rfl _ _ 45 rfl w.heap.size 60 i0 (.agg #[.int .i64 0, .int .i64 0, .string ⟨#[]⟩]) 3 32 Try.underlying45 hi hz0 hz1 hz2 rfl (by decide) _ _ _ rfl hown ad n c cs rfl ?c1 ?c2 ?c3 ?c4 ?c5 ?c6 ?_)
    case c1 => exact HL.out
    case c2 => exact HN.out
    case c3 => exact h1
    case c4 => unfold maxLen; omega
    case c5 => omega
    case c6 => simp
    intro v' w1 hown1 hg _ _
    have HF := Lib.hid (ClonePost.intro hown1 (((Fr.refl (fun _ => False) w).alloc _).grown hg (by intro i hi he; simp [Value.ownBlock] at he; omega)))
    clear hown hown1 hg hi hz0 hz1 hz2 HN HL hnil
    go_wp2
    go_ret
    exact HF.out
end Go.Proofs.Ytplpdeanepdokaa
