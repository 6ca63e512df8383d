/- A statement's clone. -/
import Derived.Test.YtplpdeanepdokaaJU
import Derived.Deep.RegionHeld3
import Derived.Deep.RegionWith
import Derived.WalkSpells
import Derived.Deep.DeepCutAuto
import Derived.Deep.CutBlock
namespace Go.Proofs.Ytplpdeanepdokaa
open Go.RowKit H Go.Proofs.Ytplpdeanepdokaa.PJobSteps
open Go.Proofs.YtplpdeanepdokaaW.PrintWords (Kd)

def setc (r : S62) : List Value := [.string r.f0, .int .i64 r.f1.f0, .int .i64 r.f1.f1, .string r.f1.f2]
def condc (r : S64) : List Value := [.string r.f0, .int .i64 r.f1, .int .i64 r.f2.f0, .int .i64 r.f2.f1, .string r.f2.f2]
def colc (r : S66) : List Value := [.string r.f0, .int .i64 r.f1, .bool r.f2]
def strc (r : ByteArray) : List Value := [.string r]

theorem rc_one (x : S60) : ∀ u ∈ rc x, u.oneCell' = true := by
  intro u hu
  simp [rc] at hu
  rcases hu with rfl | rfl | rfl <;> rfl
theorem setc_one (x : S62) : ∀ u ∈ setc x, u.oneCell' = true := by
  intro u hu
  simp [setc] at hu
  rcases hu with rfl | rfl | rfl | rfl <;> rfl
theorem condc_one (x : S64) : ∀ u ∈ condc x, u.oneCell' = true := by
  intro u hu
  simp [condc] at hu
  rcases hu with rfl | rfl | rfl | rfl | rfl <;> rfl
theorem colc_one (x : S66) : ∀ u ∈ colc x, u.oneCell' = true := by
  intro u hu
  simp [colc] at hu
  rcases hu with rfl | rfl | rfl <;> rfl
theorem strc_one (x : ByteArray) : ∀ u ∈ strc x, u.oneCell' = true := by
  intro u hu
  simp [strc] at hu
  subst hu
  rfl

/-- A statement's lists. -/
structure Sd where
  a : List S60
  b : List S62
  c : List S64
  d : List S66
  e : List ByteArray
structure Sd.Few (D : Sd) : Prop where
  a : D.a.length ≤ 1000
  b : D.b.length ≤ 1000
  c : D.c.length ≤ 1000
  d : D.d.length ≤ 1000
  e : D.e.length ≤ 1000
/-- A statement's slices read as its lists. -/
structure SxRd (w : World) (x : Sx) (D : Sd) : Prop where
  a : Rd w x.a D.a.length (D.a.flatMap rc)
  b : Rd w x.b D.b.length (D.b.flatMap setc)
  c : Rd w x.c D.c.length (D.c.flatMap condc)
  d : Rd w x.d D.d.length (D.d.flatMap colc)
  e : Rd w x.e D.e.length (D.e.flatMap strc)
theorem SxRd.fr {S : Nat → Prop} {w w' : World} {x : Sx} {D : Sd} (h : SxRd w x D) (hf : Fr S w w') (hS : ∀ k, k < w.heap.size → ¬ S k) : SxRd w' x D :=
  ⟨h.a.fr hf hS, h.b.fr hf hS, h.c.fr hf hS, h.d.fr hf hS, h.e.fr hf hS⟩
def Sx.cells (x : Sx) : Array Value := #[.int .i64 x.k, .string x.tab, .string x.name, .string x.dest, .int .i64 x.n, .bool x.fl, x.a, x.b, x.c, x.d, x.e]

theorem one_of {α : Type} (f : α → List Value) (hf : ∀ x, ∀ u ∈ f x, u.oneCell' = true) (l : List α) : ∀ u ∈ l.flatMap f, u.oneCell' = true := by
  intro u hu
  obtain ⟨r, _, hr⟩ := List.mem_flatMap.1 hu
  exact hf r u hr
/-- The clone of a slice, with its value's form. -/
def CloneOk (w : World) (E : TypeId) (sz n : Nat) (cs : List Value) (e : Ending) (w' : World) : Prop :=
  ∃ A c, e = .returned (.slice A n c) ∧ w'.ownsRow w.heap.size E sz (.slice A n c) n cs ∧ Fr (fun _ => False) w w'
theorem clone_ok {w w' : World} {E : TypeId} {sz n : Nat} {cs : List Value} {e : Ending} (h : ClonePost w E sz n cs e w') : CloneOk w E sz n cs e w' := by
  obtain ⟨v', rfl, ho, hf⟩ := h
  obtain ⟨A, c, rfl⟩ := own_slice ho
  exact ⟨A, c, rfl, ho, hf⟩
theorem keep3 {w1 w2 : World} {a0 a1 a2 : Addr} {v0 v1 v2 : Value} (h : w1.cell? a0 = some v0 ∧ w1.cell? a1 = some v1 ∧ w1.cell? a2 = some v2) (hf : Fr (fun _ => False) w1 w2) :
    w2.cell? a0 = some v0 ∧ w2.cell? a1 = some v1 ∧ w2.cell? a2 = some v2 := ⟨hf.cell h.1 id, hf.cell h.2.1 id, hf.cell h.2.2 id⟩

abbrev Z28 : Obj := Obj.cells #[Value.int IntKind.i64 0, Value.string { data := #[] }, Value.string { data := #[] }, Value.string { data := #[] }, Value.int IntKind.i64 0, Value.bool false, Value.slice none 0 0, Value.slice none 0 0, Value.slice none 0 0, Value.slice none 0 0, Value.slice none 0 0] 28
/-- Three slices were cloned. -/
def Cut1 (W : World) (B : Nat) (k : Int) (tab name dest : ByteArray) (n : Int) (fl : Bool) (vd ve : Value) (D : Sd) (wx : World) : Prop :=
  ∃ A1 c1 A2 c2 A3 c3, wx.heap[B]? = some (.cells #[.int .i64 k, .string tab, .string name, .string dest, .int .i64 n, .bool fl, .slice A1 D.a.length c1, .slice A2 D.b.length c2, .slice A3 D.c.length c3, vd, ve] 28 (0, 0)) ∧
    wx.ownsRow W.heap.size 60 3 (.slice A1 D.a.length c1) D.a.length (D.a.flatMap rc) ∧ wx.ownsRow W.heap.size 62 4 (.slice A2 D.b.length c2) D.b.length (D.b.flatMap setc) ∧
    wx.ownsRow W.heap.size 64 5 (.slice A3 D.c.length c3) D.c.length (D.c.flatMap condc) ∧ Fr (fun k => k = B) W wx
theorem own_weaken {w : World} {base base' : Nat} {e : TypeId} {size n : Nat} {v : Value} {xs : List Value} (h : w.ownsRow base e size v n xs) (hb : base' ≤ base) : w.ownsRow base' e size v n xs := by
  refine ⟨h.1, ?_⟩
  rcases h.2 with h | ⟨g, cap, cur, hv, hg, r⟩
  · exact .inl h
  · exact .inr ⟨g, cap, cur, hv, Nat.le_trans hb hg, r⟩
theorem cut1_of {W w1 w2 w3 : World} {B : Nat} {k : Int} {tab name dest : ByteArray} {n : Int} {fl : Bool} {va vb vc vd ve : Value} {D : Sd} {A1 A2 A3 : Option Addr} {c1 c2 c3 : Nat}
    (hb : W.heap[B]? = some (.cells #[.int .i64 k, .string tab, .string name, .string dest, .int .i64 n, .bool fl, va, vb, vc, vd, ve] 28 (0, 0)))
    (h1 : w1.ownsRow W.heap.size 60 3 (.slice A1 D.a.length c1) D.a.length (D.a.flatMap rc)) (f1 : Fr (fun _ => False) W w1)
    (h2 : w2.ownsRow w1.heap.size 62 4 (.slice A2 D.b.length c2) D.b.length (D.b.flatMap setc)) (f2 : Fr (fun _ => False) w1 w2)
    (h3 : w3.ownsRow w2.heap.size 64 5 (.slice A3 D.c.length c3) D.c.length (D.c.flatMap condc)) (f3 : Fr (fun _ => False) w2 w3) :
    Cut1 W B k tab name dest n fl vd ve D (((w3.setCell ⟨B, 6, none⟩ (.slice A1 D.a.length c1)).setCell ⟨B, 7, none⟩ (.slice A2 D.b.length c2)).setCell ⟨B, 8, none⟩ (.slice A3 D.c.length c3)) := by
  have b3 := f3.blk (f2.blk (f1.blk hb id) id) id
  have hf : Fr (fun k => k = B) w3 (((w3.setCell ⟨B, 6, none⟩ (.slice A1 D.a.length c1)).setCell ⟨B, 7, none⟩ (.slice A2 D.b.length c2)).setCell ⟨B, 8, none⟩ (.slice A3 D.c.length c3)) :=
    (((Fr.refl (fun k => k = B) w3).setCell (fun _ => rfl) _).setCell (fun _ => rfl) _).setCell (fun _ => rfl) _
  have o1 := f3.own (f2.own h1 (fun _ _ => id)) (fun _ _ => id)
  have o2 := own_weaken (f3.own h2 (fun _ _ => id)) f1.size
  have o3 := own_weaken h3 (Nat.le_trans f1.size f2.size)
  refine ⟨A1, c1, A2, c2, A3, c3, by simpa using blk_set (blk_set (blk_set b3 6 (.slice A1 D.a.length c1)) 7 (.slice A2 D.b.length c2)) 8 (.slice A3 D.c.length c3), hf.own o1 ?_, hf.own o2 ?_, hf.own o3 ?_, ?_⟩
  · exact fun k hk e => own_ne o1 b3 (by decide) (e ▸ hk)
  · exact fun k hk e => own_ne o2 b3 (by decide) (e ▸ hk)
  · exact fun k hk e => own_ne o3 b3 (by decide) (e ▸ hk)
  · exact (((f1.trans f2 (fun _ _ h => h)).trans f3 (fun _ _ h => h)).mono (fun _ _ h => h.elim)).trans hf (fun _ _ h => h)
/-- All five were cloned. -/
def Cut2 (W : World) (B : Nat) (k : Int) (tab name dest : ByteArray) (n : Int) (fl : Bool) (D : Sd) (wx : World) : Prop :=
  ∃ A1 c1 A2 c2 A3 c3 A4 c4 A5 c5, wx.heap[B]? = some (.cells #[.int .i64 k, .string tab, .string name, .string dest, .int .i64 n, .bool fl, .slice A1 D.a.length c1, .slice A2 D.b.length c2, .slice A3 D.c.length c3, .slice A4 D.d.length c4, .slice A5 D.e.length c5] 28 (0, 0)) ∧
    wx.ownsRow W.heap.size 60 3 (.slice A1 D.a.length c1) D.a.length (D.a.flatMap rc) ∧ wx.ownsRow W.heap.size 62 4 (.slice A2 D.b.length c2) D.b.length (D.b.flatMap setc) ∧
    wx.ownsRow W.heap.size 64 5 (.slice A3 D.c.length c3) D.c.length (D.c.flatMap condc) ∧ wx.ownsRow W.heap.size 66 3 (.slice A4 D.d.length c4) D.d.length (D.d.flatMap colc) ∧
    wx.ownsRow W.heap.size 9 1 (.slice A5 D.e.length c5) D.e.length (D.e.flatMap strc) ∧ Fr (fun k => k = B) W wx
theorem cut2_of {W W1 W2 w4 w5 : World} {B : Nat} {k : Int} {tab name dest : ByteArray} {n : Int} {fl : Bool} {vd ve : Value} {D : Sd} {A4 A5 : Option Addr} {c4 c5 : Nat}
    (h : Cut1 W B k tab name dest n fl vd ve D W1) (hd : Fr (fun _ => False) W1 W2)
    (h4 : w4.ownsRow W2.heap.size 66 3 (.slice A4 D.d.length c4) D.d.length (D.d.flatMap colc)) (f4 : Fr (fun _ => False) W2 w4)
    (h5 : w5.ownsRow w4.heap.size 9 1 (.slice A5 D.e.length c5) D.e.length (D.e.flatMap strc)) (f5 : Fr (fun _ => False) w4 w5) :
    Cut2 W B k tab name dest n fl D ((w5.setCell ⟨B, 9, none⟩ (.slice A4 D.d.length c4)).setCell ⟨B, 10, none⟩ (.slice A5 D.e.length c5)) := by
  obtain ⟨A1, c1, A2, c2, A3, c3, hb, o1, o2, o3, hf0⟩ := h
  have ff : Fr (fun _ => False) W1 w5 := (hd.trans f4 (fun _ _ h => h)).trans f5 (fun _ _ h => h)
  have b5 := ff.blk hb id
  have hf : Fr (fun k => k = B) w5 ((w5.setCell ⟨B, 9, none⟩ (.slice A4 D.d.length c4)).setCell ⟨B, 10, none⟩ (.slice A5 D.e.length c5)) :=
    ((Fr.refl (fun k => k = B) w5).setCell (fun _ => rfl) _).setCell (fun _ => rfl) _
  have o1 := ff.own o1 (fun _ _ => id)
  have o2 := ff.own o2 (fun _ _ => id)
  have o3 := ff.own o3 (fun _ _ => id)
  have o4 := own_weaken (base' := W.heap.size) (f5.own h4 (fun _ _ => id)) (Nat.le_trans hf0.size hd.size)
  have o5 := own_weaken (base' := W.heap.size) h5 (Nat.le_trans (Nat.le_trans hf0.size hd.size) f4.size)
  refine ⟨A1, c1, A2, c2, A3, c3, A4, c4, A5, c5, by simpa using blk_set (blk_set b5 9 (.slice A4 D.d.length c4)) 10 (.slice A5 D.e.length c5), hf.own o1 ?_, hf.own o2 ?_, hf.own o3 ?_, hf.own o4 ?_, hf.own o5 ?_, ?_⟩
  · exact fun k hk e => own_ne o1 b5 (by decide) (e ▸ hk)
  · exact fun k hk e => own_ne o2 b5 (by decide) (e ▸ hk)
  · exact fun k hk e => own_ne o3 b5 (by decide) (e ▸ hk)
  · exact fun k hk e => own_ne o4 b5 (by decide) (e ▸ hk)
  · exact fun k hk e => own_ne o5 b5 (by decide) (e ▸ hk)
  · exact (hf0.trans (ff.mono (fun _ _ h => h.elim) (S' := fun k => k = B)) (fun _ _ h => h)).trans hf (fun _ _ h => h)
/-- The clone of a statement. -/
def ClonedPost (w : World) (k : Int) (tab name dest : ByteArray) (n : Int) (fl : Bool) (D : Sd) (e : Ending) (wx : World) : Prop :=
  ∃ A1 c1 A2 c2 A3 c3 A4 c4 A5 c5, e = .returned (.agg #[.int .i64 k, .string tab, .string name, .string dest, .int .i64 n, .bool fl, .slice A1 D.a.length c1, .slice A2 D.b.length c2, .slice A3 D.c.length c3, .slice A4 D.d.length c4, .slice A5 D.e.length c5]) ∧
    wx.ownsRow w.heap.size 60 3 (.slice A1 D.a.length c1) D.a.length (D.a.flatMap rc) ∧ wx.ownsRow w.heap.size 62 4 (.slice A2 D.b.length c2) D.b.length (D.b.flatMap setc) ∧
    wx.ownsRow w.heap.size 64 5 (.slice A3 D.c.length c3) D.c.length (D.c.flatMap condc) ∧ wx.ownsRow w.heap.size 66 3 (.slice A4 D.d.length c4) D.d.length (D.d.flatMap colc) ∧
    wx.ownsRow w.heap.size 9 1 (.slice A5 D.e.length c5) D.e.length (D.e.flatMap strc) ∧ Fr (fun _ => False) w wx

set_option maxHeartbeats 20000000 in
theorem cloned_any (w : World) (k : Int) (tab name dest : ByteArray) (n : Int) (fl : Bool) (Aa Ab Ac Ad Ae : Option Addr) (ca cb cc cd ce : Nat) (D : Sd)
    (h : SxRd w ⟨k, tab, name, dest, n, fl, .slice Aa D.a.length ca, .slice Ab D.b.length cb, .slice Ac D.c.length cc, .slice Ad D.d.length cd, .slice Ae D.e.length ce⟩ D) (hf : D.Few) :
    Calls Try.prog 23 #[.agg #[.int .i64 k, .string tab, .string name, .string dest, .int .i64 n, .bool fl, .slice Aa D.a.length ca, .slice Ab D.b.length cb, .slice Ac D.c.length cc, .slice Ad D.d.length cd, .slice Ae D.e.length ce]] w
      (ClonedPost w k tab name dest n fl D) := by
  have HD := Lib.hid hf
  clear hf
  obtain ⟨W0, hW0⟩ : ∃ W0, W0 = ((w.alloc (.cells #[.int .i64 k, .string tab, .string name, .string dest, .int .i64 n, .bool fl, .slice Aa D.a.length ca, .slice Ab D.b.length cb, .slice Ac D.c.length cc, .slice Ad D.d.length cd, .slice Ae D.e.length ce] 28)).alloc Z28) := ⟨_, rfl⟩
  have HW := Lib.hid hW0
  have c6 : W0.cell? ⟨w.heap.size, 6, none⟩ = some (.slice Aa D.a.length ca) := by rw [hW0]; simp [go_sem]
  have c7 : W0.cell? ⟨w.heap.size, 7, none⟩ = some (.slice Ab D.b.length cb) := by rw [hW0]; simp [go_sem]
  have c8 : W0.cell? ⟨w.heap.size, 8, none⟩ = some (.slice Ac D.c.length cc) := by rw [hW0]; simp [go_sem]
  have hf0 : Fr (fun _ => False) w W0 := by rw [hW0]; exact ((Fr.refl _ w).alloc _).alloc _
  have RS := Lib.hid (h.fr hf0.drew (fun _ _ => id))
  have HS0 := Lib.hid h
  have B0 : Hid (W0.drew.heap[w.heap.size]? = some (.cells #[.int .i64 k, .string tab, .string name, .string dest, .int .i64 n, .bool fl, .slice Aa D.a.length ca, .slice Ab D.b.length cb, .slice Ac D.c.length cc, .slice Ad D.d.length cd, .slice Ae D.e.length ce] 28 (0, 0))) := by
    rw [hW0]; exact blk_alloc (blk_new w _) _
  have Z0 : Hid (W0.drew.heap[w.heap.size + 1]? = some Z28) := by
    rw [hW0]
    have := blk_new (w.alloc (.cells #[.int .i64 k, .string tab, .string name, .string dest, .int .i64 n, .bool fl, .slice Aa D.a.length ca, .slice Ab D.b.length cb, .slice Ac D.c.length cc, .slice Ad D.d.length cd, .slice Ae D.e.length ce] 28)) Z28
    rw [show (w.alloc (.cells #[.int .i64 k, .string tab, .string name, .string dest, .int .i64 n, .bool fl, .slice Aa D.a.length ca, .slice Ab D.b.length cb, .slice Ac D.c.length cc, .slice Ad D.d.length cd, .slice Ae D.e.length ce] 28)).heap.size = w.heap.size + 1 by simp] at this
    exact this
  have HF := Lib.hid hf0
  clear hf0 hW0 h
  go_enter Try.func23, Try.ntmps23
  go_upto_region 1 with fail
  rw [← HW.out]
  go_cut [] (fun wx => Cut1 W0.drew w.heap.size k tab name dest n fl (.slice Ad D.d.length cd) (.slice Ae D.e.length ce) D wx)
  case first =>
    go_region_with (first
    | (go_at_call 47; refine ((clone47 _ Aa D.a.length ca _ RS.out.a (flat_length rc 3 (fun _ => rfl) D.a) (one_of rc rc_one D.a) HD.out.a).mono fun _ _ h => clone_ok h).mono ?_; rintro e w1 ⟨A1, c1, rfl, ho1, f1⟩; have c6 := f1.cell c6 id; have c7 := f1.cell c7 id; have c8 := f1.cell c8 id; have H1 := Lib.hid (And.intro ho1 f1); clear ho1 f1)
    | (go_at_call 48; refine ((clone48 _ Ab D.b.length cb _ (RS.out.b.fr H1.out.2 (fun _ _ => id)) (flat_length setc 4 (fun _ => rfl) D.b) (one_of setc setc_one D.b) HD.out.b).mono fun _ _ h => clone_ok h).mono ?_; rintro e w2 ⟨A2, c2, rfl, ho2, f2⟩; have c6 := f2.cell c6 id; have c7 := f2.cell c7 id; have c8 := f2.cell c8 id; have H2 := Lib.hid (And.intro ho2 f2); clear ho2 f2)
    | (go_at_call 49; refine ((clone49 _ Ac D.c.length cc _ ((RS.out.c.fr H1.out.2 (fun _ _ => id)).fr H2.out.2 (fun _ _ => id)) (flat_length condc 5 (fun _ => rfl) D.c) (one_of condc condc_one D.c) HD.out.c).mono fun _ _ h => clone_ok h).mono ?_; rintro e w3 ⟨A3, c3, rfl, ho3, f3⟩; have B3 := blk_frozen (f3.blk (H2.out.2.blk (H1.out.2.blk B0.out id) id) id); have z6 := B3 6; have z7 := B3 7; have z8 := B3 8; have c6 := f3.cell c6 id; have c7 := f3.cell c7 id; have c8 := f3.cell c8 id; have H3 := Lib.hid (cut1_of B0.out H1.out.1 H1.out.2 H2.out.1 H2.out.2 ho3 f3); clear ho3 f3 B3))
    all_goals
      go_wp2_with fail
      go_meet
      exact H3.out
  case rest =>
    have HC := Lib.hid hcut
    obtain ⟨A1, c1, A2, c2, A3, c3, hb, _, _, _, hf1⟩ := hcut
    have c9 := blk_cell hb 9
    have c10 := blk_cell hb 10
    simp only [List.getElem?_toArray, List.getElem?_cons_succ, List.getElem?_cons_zero] at c9 c10
    have hfw : Fr (fun k => k = w.heap.size) w wc := (HF.out.drew.mono (fun _ _ h => h.elim)).trans hf1 (fun _ _ h => h)
    have RD := Lib.hid ((HS0.out.fr hfw (fun k hk e => by omega)).fr ((Fr.refl (fun _ => False) wc).drew) (fun _ _ => id))
    have Z1 : Hid (wc.heap[w.heap.size + 1]? = some Z28) := hf1.blk Z0.out (by omega)
    have FW := Lib.hid hfw
    have BB := Lib.hid hb
    clear c6 c7 c8 hb hf1 hfw
    go_upto_region 2 with fail
    go_cut [] (fun wx => Cut2 W0.drew w.heap.size k tab name dest n fl D wx)
    case first =>
      go_region_with (first
      | (go_at_call 50; refine ((clone50 _ Ad D.d.length cd _ RD.out.d (flat_length colc 3 (fun _ => rfl) D.d) (one_of colc colc_one D.d) HD.out.d).mono fun _ _ h => clone_ok h).mono ?_; rintro e w4 ⟨A4, c4, rfl, ho4, f4⟩; have c9 := f4.cell c9 id; have c10 := f4.cell c10 id; have H4 := Lib.hid (And.intro ho4 f4); clear ho4 f4)
      | (go_at_call 51; refine ((clone51 _ Ae D.e.length ce _ (RD.out.e.fr H4.out.2 (fun _ _ => id)) (flat_length strc 1 (fun _ => rfl) D.e) (one_of strc strc_one D.e) HD.out.e).mono fun _ _ h => clone_ok h).mono ?_; rintro e w5 ⟨A5, c5, rfl, ho5, f5⟩; have B3 := blk_frozen (f5.blk (H4.out.2.blk BB.out id) id); have z9 := B3 9; have z10 := B3 10; have c9 := f5.cell c9 id; have c10 := f5.cell c10 id; have H5 := Lib.hid (cut2_of HC.out ((Fr.refl (fun _ => False) wc).drew) H4.out.1 H4.out.2 ho5 f5); clear ho5 f5 B3))
      all_goals
        go_wp2_with fail
        go_meet
        exact H5.out
    case rest =>
      clear HC BB FW Z1 RD c9 c10
      obtain ⟨A1, c1, A2, c2, A3, c3, A4, c4, A5, c5, hb, o1, o2, o3, o4, o5, hf2⟩ := hcut
      have hz := hf2.blk Z0.out (by omega)
      have hfw : Fr (fun k => k = w.heap.size) w wc := (HF.out.drew.mono (fun _ _ h => h.elim)).trans hf2 (fun _ _ h => h)
      have e0 := blk_cell hb 0
      have e1 := blk_cell hb 1
      have e2 := blk_cell hb 2
      have e3 := blk_cell hb 3
      have e4 := blk_cell hb 4
      have e5 := blk_cell hb 5
      have e6 := blk_cell hb 6
      have e7 := blk_cell hb 7
      have e8 := blk_cell hb 8
      have e9 := blk_cell hb 9
      have e10 := blk_cell hb 10
      have z0 := blk_cell hz 0
      have z1 := blk_cell hz 1
      have z2 := blk_cell hz 2
      have z3 := blk_cell hz 3
      have z4 := blk_cell hz 4
      have z5 := blk_cell hz 5
      have z6 := blk_cell hz 6
      have z7 := blk_cell hz 7
      have z8 := blk_cell hz 8
      have z9 := blk_cell hz 9
      have z10 := blk_cell hz 10
      have zf := blk_frozen hz
      simp only [List.getElem?_toArray, List.getElem?_cons_succ, List.getElem?_cons_zero] at e0 e1 e2 e3 e4 e5 e6 e7 e8 e9 e10 z0 z1 z2 z3 z4 z5 z6 z7 z8 z9 z10
      have HX := Lib.hid (And.intro hb (And.intro hz (And.intro o1 (And.intro o2 (And.intro o3 (And.intro o4 (And.intro o5 hfw)))))))
      clear hb hz o1 o2 o3 o4 o5 hf2 hfw
      go_wp2
      have HN : Hid (∀ W', W' = (((((((((((wc.setCell ⟨w.heap.size + 1, 0, none⟩ (.int .i64 k)).setCell ⟨w.heap.size + 1, 1, none⟩ (.string tab)).setCell ⟨w.heap.size + 1, 2, none⟩ (.string name)).setCell ⟨w.heap.size + 1, 3, none⟩ (.string dest)).setCell ⟨w.heap.size + 1, 4, none⟩ (.int .i64 n)).setCell ⟨w.heap.size + 1, 5, none⟩ (.bool fl)).setCell ⟨w.heap.size + 1, 6, none⟩ (.slice A1 D.a.length c1)).setCell ⟨w.heap.size + 1, 7, none⟩ (.slice A2 D.b.length c2)).setCell ⟨w.heap.size + 1, 8, none⟩ (.slice A3 D.c.length c3)).setCell ⟨w.heap.size + 1, 9, none⟩ (.slice A4 D.d.length c4)).setCell ⟨w.heap.size + 1, 10, none⟩ (.slice A5 D.e.length c5)) →
          W'.heap[w.heap.size + 1]? = some (.cells #[.int .i64 k, .string tab, .string name, .string dest, .int .i64 n, .bool fl, .slice A1 D.a.length c1, .slice A2 D.b.length c2, .slice A3 D.c.length c3, .slice A4 D.d.length c4, .slice A5 D.e.length c5] 28 (0, 0)) ∧
          ClonedPost w k tab name dest n fl D (.returned (.agg #[.int .i64 k, .string tab, .string name, .string dest, .int .i64 n, .bool fl, .slice A1 D.a.length c1, .slice A2 D.b.length c2, .slice A3 D.c.length c3, .slice A4 D.d.length c4, .slice A5 D.e.length c5])) W') := by
        rintro W' rfl
        obtain ⟨hb, hz, o1, o2, o3, o4, o5, hfw⟩ := HX.out
        have hbz := blk_set (blk_set (blk_set (blk_set (blk_set (blk_set (blk_set (blk_set (blk_set (blk_set (blk_set hz 0 (.int .i64 k)) 1 (.string tab)) 2 (.string name)) 3 (.string dest)) 4 (.int .i64 n)) 5 (.bool fl)) 6 (.slice A1 D.a.length c1)) 7 (.slice A2 D.b.length c2)) 8 (.slice A3 D.c.length c3)) 9 (.slice A4 D.d.length c4)) 10 (.slice A5 D.e.length c5)
        have hs : ∀ (b : World) (i : Nat) (u : Value), Fr (fun k => k = w.heap.size + 1) wc b → Fr (fun k => k = w.heap.size + 1) wc (b.setCell ⟨w.heap.size + 1, i, none⟩ u) := fun b i u h => h.setCell (fun _ => rfl) u
        have hf := hs _ 10 (.slice A5 D.e.length c5) (hs _ 9 (.slice A4 D.d.length c4) (hs _ 8 (.slice A3 D.c.length c3) (hs _ 7 (.slice A2 D.b.length c2) (hs _ 6 (.slice A1 D.a.length c1) (hs _ 5 (.bool fl) (hs _ 4 (.int .i64 n) (hs _ 3 (.string dest) (hs _ 2 (.string name) (hs _ 1 (.string tab) (hs _ 0 (.int .i64 k) (Fr.refl _ wc)))))))))))
        have hle : w.heap.size ≤ W0.drew.heap.size := HF.out.drew.size
        have hws : w.heap.size + 1 < wc.heap.size := blk_lt hz
        refine ⟨by simpa using hbz, A1, c1, A2, c2, A3, c3, A4, c4, A5, c5, rfl, own_weaken (hf.own o1 ?_) hle, own_weaken (hf.own o2 ?_) hle, own_weaken (hf.own o3 ?_) hle, own_weaken (hf.own o4 ?_) hle, own_weaken (hf.own o5 ?_) hle, ?_⟩
        · exact fun k hk e => own_ne o1 hz (by decide) (e ▸ hk)
        · exact fun k hk e => own_ne o2 hz (by decide) (e ▸ hk)
        · exact fun k hk e => own_ne o3 hz (by decide) (e ▸ hk)
        · exact fun k hk e => own_ne o4 hz (by decide) (e ▸ hk)
        · exact fun k hk e => own_ne o5 hz (by decide) (e ▸ hk)
        · exact (hfw.trans hf (S' := fun k => k = w.heap.size + 1) (fun i hi e => by omega)).mono (fun i hi e => by omega)
      generalize hW' : (((((((((((wc.setCell ⟨w.heap.size + 1, 0, none⟩ (.int .i64 k)).setCell ⟨w.heap.size + 1, 1, none⟩ (.string tab)).setCell ⟨w.heap.size + 1, 2, none⟩ (.string name)).setCell ⟨w.heap.size + 1, 3, none⟩ (.string dest)).setCell ⟨w.heap.size + 1, 4, none⟩ (.int .i64 n)).setCell ⟨w.heap.size + 1, 5, none⟩ (.bool fl)).setCell ⟨w.heap.size + 1, 6, none⟩ (.slice A1 D.a.length c1)).setCell ⟨w.heap.size + 1, 7, none⟩ (.slice A2 D.b.length c2)).setCell ⟨w.heap.size + 1, 8, none⟩ (.slice A3 D.c.length c3)).setCell ⟨w.heap.size + 1, 9, none⟩ (.slice A4 D.d.length c4)).setCell ⟨w.heap.size + 1, 10, none⟩ (.slice A5 D.e.length c5)) = W'
      obtain ⟨hz, hpost⟩ := HN.out W' hW'.symm
      have z0 := blk_cell hz 0
      have z1 := blk_cell hz 1
      have z2 := blk_cell hz 2
      have z3 := blk_cell hz 3
      have z4 := blk_cell hz 4
      have z5 := blk_cell hz 5
      have z6 := blk_cell hz 6
      have z7 := blk_cell hz 7
      have z8 := blk_cell hz 8
      have z9 := blk_cell hz 9
      have z10 := blk_cell hz 10
      simp only [List.getElem?_toArray, List.getElem?_cons_succ, List.getElem?_cons_zero] at z0 z1 z2 z3 z4 z5 z6 z7 z8 z9 z10
      refine bodyPost_ret (v := .agg #[.int .i64 k, .string tab, .string name, .string dest, .int .i64 n, .bool fl, .slice A1 D.a.length c1, .slice A2 D.b.length c2, .slice A3 D.c.length c3, .slice A4 D.d.length c4, .slice A5 D.e.length c5]) ?_ rfl hpost
      simp [results, Try.results23, go_sem, z0, z1, z2, z3, z4, z5, z6, z7, z8, z9, z10]
end Go.Proofs.Ytplpdeanepdokaa
