/- plan.Register, plan.Mark: which locks, in new memory. -/
import Derived.Test.YtplpdeanepdokaaJ3
import Derived.Deep.AppendLies
import Derived.Deep.RegionLaw
namespace Go.Proofs.Ytplpdeanepdokaa
open Go.RowKit H

theorem info97 : (Try.prog.info? 97).map (fun i => (i.zero, i.size, i.bytes)) = some (some (.agg #[.int .i64 0, .string ⟨#[]⟩, .string ⟨#[]⟩, .int .i64 0]), 4, 48) := by kernel_rfl
theorem wtCells_length (l : List Wt) : (wtCells l).length = l.length * 4 := flat_length Wt.cells 4 (fun _ => rfl) l

/-- A list of locks behind a pointer. -/
structure Pl (w : World) (g : Nat) (v : Value) (l : List Wt) : Prop where
  blk : w.heap[g]? = some (.cells #[v] 91 (0, 0))
  own : w.ownsRow 0 97 4 v l.length (wtCells l)

def PlPost (w : World) (g : Nat) (v : Value) (l : List Wt) (w' : World) : Prop :=
  ∃ v', Pl w' g v' l ∧ Fr (fun k => k = g ∨ v.ownBlock = some k) w w' ∧ (∀ k, v'.ownBlock = some k → v.ownBlock = some k ∨ w.heap.size ≤ k)

theorem add_final {w wb w1 : World} {g : Nat} {v : Value} {l : List Wt} {x : Wt} {g1 cap : Nat} (h : Pl w g v l) (hwb : Fr (fun _ => False) w wb)
    (hown1 : w1.ownsRow 0 97 4 (.slice (some ⟨g1, 0, none⟩) (l.length + 1) cap) (l.length + 1) (wtCells l ++ x.cells)) (hg : wb.grownBy w1 v.ownBlock) (hat : v.ownBlock = some g1 ∨ g1 = w.heap.size + 2) :
    (w1.cell? ⟨g, 0, none⟩ = some v ∧ w1.frozen? ⟨g, 0, none⟩ = false) ∧ PlPost w g v (l ++ [x]) (w1.setCell ⟨g, 0, none⟩ (.slice (some ⟨g1, 0, none⟩) (l.length + 1) cap)) := by
  have hne : some g ≠ v.ownBlock := fun e => own_ne h.own h.blk (by decide) e.symm
  have hb1 := blk_grown (hwb.blk h.blk (fun hf => hf)) hg hne
  refine ⟨⟨by simpa using blk_cell hb1 0, blk_frozen hb1 0⟩, _, ⟨by simpa using blk_set hb1 0 _, ?_⟩, ?_, ?_⟩
  · have := (Fr.setCell (S := fun k => k = g) (Fr.refl _ w1) (p := ⟨g, 0, none⟩) (fun _ => rfl) (.slice (some ⟨g1, 0, none⟩) (l.length + 1) cap)).own hown1 (fun k hk hs => own_ne hown1 hb1 (by decide) (hs ▸ hk))
    simpa [wtCells] using this
  · exact Fr.setCell (((hwb.mono (fun _ _ hf => hf.elim)).grown hg (fun i _ hi => .inr hi))) (fun _ => .inl rfl) _
  · intro k hk
    simp only [Value.ownBlock, Option.some.injEq] at hk
    subst hk
    rcases hat with e | e
    · exact .inl e
    · exact .inr (by omega)

set_option maxHeartbeats 1000000 in
theorem add_any (w : World) (g : Nat) (v : Value) (l : List Wt) (h : Pl w g v l) (hl : l.length ≤ 1000) (x : Wt) :
    Calls Try.prog 61 #[.pointer (some ⟨g, 0, none⟩), .agg #[.int .i64 x.kind, .string x.tab, .string x.key], .int .i64 x.mode] w fun e w' => e = .returned (.tuple #[]) ∧ PlPost w g v (l ++ [x]) w' := by
  obtain ⟨i0, hi, hz0, hz1, hz2⟩ := info_parts info97
  have hgl := blk_lt h.blk
  have c0 := blk_cell h.blk 0
  have f0 := blk_frozen h.blk 0
  simp only [List.getElem?_toArray, List.getElem?_cons_zero] at c0
  have hown := (h.own.alloc (.cells #[.int .i64 x.kind, .string x.tab, .string x.key] 95)).alloc (.cells #[.int .i64 x.kind, .string x.tab, .string x.key, .int .i64 x.mode] 97)
  have hbn : ((w.alloc (.cells #[.int .i64 x.kind, .string x.tab, .string x.key] 95)).alloc (.cells #[.int .i64 x.kind, .string x.tab, .string x.key, .int .i64 x.mode] 97)).heap[w.heap.size + 1]? = some (.cells #[.int .i64 x.kind, .string x.tab, .string x.key, .int .i64 x.mode] 97 (0, 0)) := by
    have := blk_new (w.alloc (.cells #[.int .i64 x.kind, .string x.tab, .string x.key] 95)) (.cells #[.int .i64 x.kind, .string x.tab, .string x.key, .int .i64 x.mode] 97)
    simpa using this
  have HW := Lib.hid (World.news_of_block hbn)
  have HO := Lib.hid hown
  have HH := Lib.hid h
  have HI := Lib.hid (And.intro hi (And.intro hz0 (And.intro hz1 hz2)))
  have HB : Hid (x.cells.length = 1 * 4 ∧ (∀ u ∈ x.cells, u.oneCell' = true) ∧ l.length + 1 ≤ maxLen ∧ (l.length + 1) * 48 ≤ 140737488355328) := by
    refine ⟨rfl, ?_, by unfold maxLen; omega, by omega⟩
    intro u hu
    simp [Wt.cells] at hu
    rcases hu with rfl | rfl | rfl | rfl <;> rfl
  have HZ : Hid (((w.alloc (.cells #[.int .i64 x.kind, .string x.tab, .string x.key] 95)).alloc (.cells #[.int .i64 x.kind, .string x.tab, .string x.key, .int .i64 x.mode] 97)).heap.size = w.heap.size + 2) := by unfold Hid; simp
  clear hown h hi hz0 hz1 hz2 hbn
  go_enter Try.func61, Try.ntmps61
  go_wp2_with fail
  go_region_law (refine step_append_lies _ rfl _ _ 91 rfl 0 97 i0 (.agg #[.int .i64 0, .string ⟨#[]⟩, .string ⟨#[]⟩, .int .i64 0]) 4 48 Try.underlying91 HI.out.1 HI.out.2.1 HI.out.2.2.1 HI.out.2.2.2 rfl (by decide) v l.length (wtCells l) rfl HO.out ⟨w.heap.size + 1, 0, none⟩ 1 1 x.cells rfl HB.out.1 HW.out HB.out.2.1 (by decide) HB.out.2.2.1 HB.out.2.2.2 (Nat.zero_le _) (w.heap.size + 2) HZ.out ?_; intro g1 cap w1 hown1 hg hat _; have HF := Lib.hid (add_final HH.out (((Fr.refl (fun _ => False) w).alloc _).alloc _).drew hown1 hg hat); have c0' := HF.out.1.1; have f0' := HF.out.1.2; clear hown1 hg hat c0 f0)
  all_goals
    go_end0
    exact ⟨rfl, (Hid.out (by assumption : Hid (_ ∧ PlPost w g v (l ++ [x]) _))).2⟩

theorem table_any (w : World) (g : Nat) (v : Value) (l : List Wt) (h : Pl w g v l) (hl : l.length ≤ 1000) (name : ByteArray) (m : Int) :
    Calls Try.prog 53 #[.pointer (some ⟨g, 0, none⟩), .string name, .int .i64 m] w fun e w' => e = .returned (.tuple #[]) ∧ PlPost w g v (l ++ [⟨3, name, ⟨#[]⟩, m⟩]) w' := by
  have HH := Lib.hid h
  clear h
  go_enter Try.func53, Try.ntmps53
  go_wp2_with fail
  refine (add_any w g v l HH.out hl ⟨3, name, ⟨#[]⟩, m⟩).mono ?_
  rintro e w1 ⟨rfl, h1⟩
  have H1 := Lib.hid h1
  clear h1
  go_wp2
  go_end0
  exact ⟨rfl, H1.out⟩

/-- The list of locks lies in new memory. -/
def PlNew (w : World) (l : List Wt) (w' : World) (g : Nat) (v : Value) : Prop := Pl w' g v l ∧ Fr (fun _ => False) w w' ∧ w.heap.size ≤ g ∧ (∀ k, v.ownBlock = some k → w.heap.size ≤ k)
theorem PlNew.step {w w1 w2 : World} {l l' : List Wt} {g : Nat} {v : Value} (h : PlNew w l w1 g v) (h2 : PlPost w1 g v l' w2) : ∃ v', PlNew w l' w2 g v' := by
  obtain ⟨hp, hf, hg, hv⟩ := h
  obtain ⟨v', hp', hf', hb'⟩ := h2
  refine ⟨v', hp', hf.trans hf' ?_, hg, ?_⟩
  · rintro i hi (rfl | h)
    · omega
    · have := hv i h; omega
  · intro k hk
    rcases hb' k hk with h | h
    · exact hv k h
    · exact Nat.le_trans hf.size h

def BasePost (w : World) (l : List Wt) (e : Ending) (w' : World) : Prop := ∃ g v, e = .returned (.pointer (some ⟨g, 0, none⟩)) ∧ PlNew w l w' g v
theorem base_any (w : World) (d m : Int) :
    Calls Try.prog 52 #[.int .i64 d, .int .i64 m] w (BasePost w [⟨1, ⟨#[]⟩, ⟨#[]⟩, d⟩, ⟨2, ⟨#[]⟩, ⟨#[]⟩, m⟩]) := by
  have h0 : PlNew w [] ((w.alloc (.cells #[] 97)).alloc (.cells #[.slice (some ⟨w.heap.size, 0, none⟩) 0 0] 91)) (w.heap.size + 1) (.slice (some ⟨w.heap.size, 0, none⟩) 0 0) := by
    refine ⟨⟨?_, ?_⟩, ((Fr.refl _ w).alloc _).alloc _, by omega, fun k hk => ?_⟩
    · have := blk_new (w.alloc (.cells #[] 97)) (.cells #[.slice (some ⟨w.heap.size, 0, none⟩) 0 0] 91)
      simpa using this
    · exact (World.ownsRow_made (base := 0) (e := 97) (size := 4) w #[] 0 (Nat.zero_le _) (by unfold maxLen; omega) rfl).alloc _
    · simp [Value.ownBlock] at hk; omega
  have H0 := Lib.hid h0
  clear h0
  go_enter Try.func52, Try.ntmps52
  go_wp2_with fail
  refine (add_any _ _ _ [] H0.out.1 (by simp) ⟨1, ⟨#[]⟩, ⟨#[]⟩, d⟩).mono ?_
  rintro e w1 ⟨rfl, h1⟩
  obtain ⟨v1, h1⟩ := H0.out.step h1
  have H1 := Lib.hid h1
  clear h1 H0
  go_wp2_with fail
  refine (add_any _ _ _ _ H1.out.1 (by simp) ⟨2, ⟨#[]⟩, ⟨#[]⟩, m⟩).mono ?_
  rintro e w2 ⟨rfl, h2⟩
  obtain ⟨v2, h2⟩ := H1.out.step h2
  have H2 := Lib.hid h2
  clear h2 H1
  go_wp2
  go_ret
  exact ⟨_, _, rfl, H2.out⟩

/-- The locks of Register and of Mark. -/
def regW (table : ByteArray) : List Wt := [⟨1, ⟨#[]⟩, ⟨#[]⟩, 4⟩, ⟨2, ⟨#[]⟩, ⟨#[]⟩, 3⟩, ⟨3, table, ⟨#[]⟩, 4⟩]
def markW (table : ByteArray) : List Wt := [⟨1, ⟨#[]⟩, ⟨#[]⟩, 4⟩, ⟨2, ⟨#[]⟩, ⟨#[]⟩, 3⟩, ⟨3, table, ⟨#[]⟩, 3⟩]
def WtsPost (w : World) (l : List Wt) (e : Ending) (w' : World) : Prop :=
  ∃ b c, e = .returned (.slice (some ⟨b, 0, none⟩) l.length c) ∧ Row w' 97 (.slice (some ⟨b, 0, none⟩) l.length c) l.length (wtCells l) ∧ Fr (fun _ => False) w w'
theorem PlNew.post {w w' : World} {l : List Wt} {g : Nat} {v : Value} (h : PlNew w l w' g v) (hl : 0 < l.length) : ∃ b c, v = .slice (some ⟨b, 0, none⟩) l.length c ∧ Row w' 97 (.slice (some ⟨b, 0, none⟩) l.length c) l.length (wtCells l) := by
  have hr := Row.of_own h.1.own
  rcases h.1.own.2 with ⟨_, h0⟩ | ⟨b, c, _, rfl, _⟩
  · omega
  · exact ⟨b, c, rfl, hr⟩

theorem register_plan (w : World) (table : ByteArray) : Calls Try.prog 25 #[.string table] w (WtsPost w (regW table)) := by
  go_enter Try.func25, Try.ntmps25
  go_wp2_with fail
  refine (base_any _ _ _).mono ?_
  rintro e w1 ⟨g, v1, rfl, h1⟩
  have H1 := Lib.hid h1
  clear h1
  go_wp2_with fail
  refine (table_any _ _ _ _ H1.out.1 (by simp) table 4).mono ?_
  rintro e w2 ⟨rfl, h2⟩
  obtain ⟨v2, h2⟩ := H1.out.step h2
  obtain ⟨b, c, rfl, hr⟩ := h2.post (by simp)
  have c0 := blk_cell h2.1.blk 0
  simp only [List.getElem?_toArray, List.getElem?_cons_zero] at c0
  have H2 := Lib.hid (And.intro hr h2.2.1)
  clear h2 H1 hr
  go_wp2
  go_ret
  exact ⟨_, _, rfl, H2.out.1, H2.out.2⟩
theorem mark_plan (w : World) (table : ByteArray) : Calls Try.prog 29 #[.string table] w (WtsPost w (markW table)) := by
  go_enter Try.func29, Try.ntmps29
  go_wp2_with fail
  refine (base_any _ _ _).mono ?_
  rintro e w1 ⟨g, v1, rfl, h1⟩
  have H1 := Lib.hid h1
  clear h1
  go_wp2_with fail
  refine (table_any _ _ _ _ H1.out.1 (by simp) table 3).mono ?_
  rintro e w2 ⟨rfl, h2⟩
  obtain ⟨v2, h2⟩ := H1.out.step h2
  obtain ⟨b, c, rfl, hr⟩ := h2.post (by simp)
  have c0 := blk_cell h2.1.blk 0
  simp only [List.getElem?_toArray, List.getElem?_cons_zero] at c0
  have H2 := Lib.hid (And.intro hr h2.2.1)
  clear h2 H1 hr
  go_wp2
  go_ret
  exact ⟨_, _, rfl, H2.out.1, H2.out.2⟩
end Go.Proofs.Ytplpdeanepdokaa
