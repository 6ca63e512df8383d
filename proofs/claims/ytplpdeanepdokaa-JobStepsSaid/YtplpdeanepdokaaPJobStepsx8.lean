import Derived.Test.YtplpdeanepdokaaPJobStepsx0
import Derived.Test.YtplpdeanepdokaaPJobStepsx1
import Derived.Test.YtplpdeanepdokaaPJobStepsx7
namespace Go.Proofs.Ytplpdeanepdokaa.PJobSteps
open Go.RowKit Go.Proofs.YtplpdeanepdokaaW.PrintWords Go.Proofs.YtplpdeanepdokaaW.PrintLast Go.Proofs.YtplpdeanepdokaaW.PrintMore
attribute [local go_sem] max2_int min2_int max_two min_two max_three min_three max_four min_four   -- for this text's walks alone
set_option linter.unusedVariables false
set_option linter.unusedSimpArgs false

attribute [local go_sem high] eqA60
/-! ### interlockref00_Show: function 57 -/
mutual
def interlockref00_Show.j0 : Nat → Int → Int → Option (ByteArray)
  | 0, _, _ => none
  | k + 1, x0, x3 => interlockref00_Show.l0 k x0 x3 (([] : List Int))
def interlockref00_Show.l0 : Nat → Int → Int → List Int → Option (ByteArray)
  | 0, _, _, _ => none
  | k + 1, x0, x3, x4 => if x4.length < 140737488355328 then ((some (x4 ++ [(wrap64 (48 - (Int.tmod x3 10))) % 256] : List Int)).bind fun y189 => (if (wrap64 (Int.tdiv x3 10)) = 0 then (if x0 < 0 then (if y189.length < 140737488355328 then (interlockref00_Show.j2 k (y189 ++ [45])) else (none)) else (interlockref00_Show.j2 k y189)) else (interlockref00_Show.l0 k x0 (wrap64 (Int.tdiv x3 10)) y189))) else (none)
def interlockref00_Show.j2 : Nat → List Int → Option (ByteArray)
  | 0, _ => none
  | k + 1, x4 => interlockref00_Show.l1 k x4 (([] : List Int)) (wrap64 ((x4.length : Int) - 1))
def interlockref00_Show.l1 : Nat → List Int → List Int → Int → Option (ByteArray)
  | 0, _, _, _ => none
  | k + 1, x4, x5, x6 => if x6 ≥ 0 then (if 0 ≤ x6 then (if x6 < (x4.length : Int) then (if x5.length < 140737488355328 then (interlockref00_Show.l1 k x4 (x5 ++ [rd x4 x6]) (wrap64 (x6 - 1))) else (none)) else (none)) else (none)) else (some (strOfNums x5))
end
def interlockref00_Show.f (k : Nat) (a0 : Int) : Option (ByteArray) := if a0 > 0 then (interlockref00_Show.j0 k a0 (wrap64 (-a0))) else (interlockref00_Show.j0 k a0 a0)
theorem interlockref00_Show.mono_l : ∀ k, (∀ y0 y1, LeO (interlockref00_Show.j0 k y0 y1) (interlockref00_Show.j0 (k + 1) y0 y1)) ∧ (∀ y0 y1 y2, LeO (interlockref00_Show.l0 k y0 y1 y2) (interlockref00_Show.l0 (k + 1) y0 y1 y2)) ∧ (∀ y0, LeO (interlockref00_Show.j2 k y0) (interlockref00_Show.j2 (k + 1) y0)) ∧ (∀ y0 y1 y2, LeO (interlockref00_Show.l1 k y0 y1 y2) (interlockref00_Show.l1 (k + 1) y0 y1 y2))
  | 0 => ⟨fun _ _ r h => by simp [interlockref00_Show.j0] at h, fun _ _ _ r h => by simp [interlockref00_Show.l0] at h, fun _ r h => by simp [interlockref00_Show.j2] at h, fun _ _ _ r h => by simp [interlockref00_Show.l1] at h⟩
  | k + 1 => by
    obtain ⟨ih0, ih1, ih2, ih3⟩ := interlockref00_Show.mono_l k
    refine ⟨?_, ?_, ?_, ?_⟩
    · intro y0 y1
      unfold interlockref00_Show.j0
      repeat' first
      | (with_reducible exact ih0 _ _)
      | (with_reducible exact ih1 _ _ _)
      | (with_reducible exact ih2 _)
      | (with_reducible exact ih3 _ _ _)
      | (with_reducible exact LeO.refl _)
      | (with_reducible exact LeO.none _)
      | (with_reducible refine LeO.ite ?_ ?_)
      | (with_reducible refine LeO.bind ?_ (fun _ => ?_))
      | exact ih0 _ _
      | exact ih1 _ _ _
      | exact ih2 _
      | exact ih3 _ _ _
      | exact LeO.none _
      | refine LeO.ite ?_ ?_
      | refine LeO.bind ?_ (fun _ => ?_)
    · intro y0 y1 y2
      unfold interlockref00_Show.l0
      repeat' first
      | (with_reducible exact ih0 _ _)
      | (with_reducible exact ih1 _ _ _)
      | (with_reducible exact ih2 _)
      | (with_reducible exact ih3 _ _ _)
      | (with_reducible exact LeO.refl _)
      | (with_reducible exact LeO.none _)
      | (with_reducible refine LeO.ite ?_ ?_)
      | (with_reducible refine LeO.bind ?_ (fun _ => ?_))
      | exact ih0 _ _
      | exact ih1 _ _ _
      | exact ih2 _
      | exact ih3 _ _ _
      | exact LeO.none _
      | refine LeO.ite ?_ ?_
      | refine LeO.bind ?_ (fun _ => ?_)
    · intro y0
      unfold interlockref00_Show.j2
      repeat' first
      | (with_reducible exact ih0 _ _)
      | (with_reducible exact ih1 _ _ _)
      | (with_reducible exact ih2 _)
      | (with_reducible exact ih3 _ _ _)
      | (with_reducible exact LeO.refl _)
      | (with_reducible exact LeO.none _)
      | (with_reducible refine LeO.ite ?_ ?_)
      | (with_reducible refine LeO.bind ?_ (fun _ => ?_))
      | exact ih0 _ _
      | exact ih1 _ _ _
      | exact ih2 _
      | exact ih3 _ _ _
      | exact LeO.none _
      | refine LeO.ite ?_ ?_
      | refine LeO.bind ?_ (fun _ => ?_)
    · intro y0 y1 y2
      unfold interlockref00_Show.l1
      repeat' first
      | (with_reducible exact ih0 _ _)
      | (with_reducible exact ih1 _ _ _)
      | (with_reducible exact ih2 _)
      | (with_reducible exact ih3 _ _ _)
      | (with_reducible exact LeO.refl _)
      | (with_reducible exact LeO.none _)
      | (with_reducible refine LeO.ite ?_ ?_)
      | (with_reducible refine LeO.bind ?_ (fun _ => ?_))
      | exact ih0 _ _
      | exact ih1 _ _ _
      | exact ih2 _
      | exact ih3 _ _ _
      | exact LeO.none _
      | refine LeO.ite ?_ ?_
      | refine LeO.bind ?_ (fun _ => ?_)
theorem interlockref00_Show.mono : ∀ a0 k, LeO (interlockref00_Show.f k a0) (interlockref00_Show.f (k + 1) a0) := by
  intro a0 k
  obtain ⟨ih0, ih1, ih2, ih3⟩ := interlockref00_Show.mono_l k
  unfold interlockref00_Show.f
  repeat' first
      | (with_reducible exact ih0 _ _)
      | (with_reducible exact ih1 _ _ _)
      | (with_reducible exact ih2 _)
      | (with_reducible exact ih3 _ _ _)
      | (with_reducible exact LeO.refl _)
      | (with_reducible exact LeO.none _)
      | (with_reducible refine LeO.ite ?_ ?_)
      | (with_reducible refine LeO.bind ?_ (fun _ => ?_))
      | exact ih0 _ _
      | exact ih1 _ _ _
      | exact ih2 _
      | exact ih3 _ _ _
      | exact LeO.none _
      | refine LeO.ite ?_ ?_
      | refine LeO.bind ?_ (fun _ => ?_)
set_option maxHeartbeats 8000000 in
set_option maxRecDepth 100000 in
theorem interlockref00_Show.calls (k : Nat) (a0 : Int) (r : ByteArray) (w : World) (h : interlockref00_Show.f k a0 = some r) :
    Calls Try.prog 57 #[.int .i64 a0] w fun e w' => e = .returned (.string r) ∧ Below w.heap.size w w' := by
  have HB := Aside0.mk (Below.refl w.heap.size w)
  have H : (if a0 > 0 then (interlockref00_Show.j0 k a0 (wrap64 (-a0))) else (interlockref00_Show.j0 k a0 a0)) = some r := h
  clear h
  have HC2 := Aside0.mk H
  clear H
  go_enter Try.func57, Try.ntmps57
  go_upto_if 9 with (fail)
  go_cut [3] (fun v3 wc => ∃ (kq : Nat) (x3_1 : Int), v3 = .int .i64 x3_1 ∧ Aside0 (interlockref00_Show.j0 kq a0 x3_1 = some r) ∧ Aside0 (kq ≤ k) ∧ Aside0 (Below w.heap.size w wc))
  case first =>
    have H := HC2.out
    clear HC2
    by_cases c3 : a0 > 0
    · rw [if_pos c3] at H
      have c3b0 : decide (0 < a0) = true := decide_eq_true c3
      clear c3
      (first | rw [c3b0] | (simp only [i64_w, i32_w]; rw [c3b0]) | skip)
      have H' := Aside0.mk H
      clear H
      go_wp2
      go_meet
      case rel => exact ⟨_, (wrap64 (-a0)), (by first | rfl | (simp; done) | (simp [*]; done)), H', ⟨by first | omega | exact Nat.le_refl _⟩, ⟨by repeat (first | (with_reducible first | exact HB.out | apply below_alloc | apply pw_below_drewN | apply below_drew1) | exact HB.out)⟩⟩
    · rw [if_neg c3] at H
      have c3b0 : decide (0 < a0) = false := decide_eq_false c3
      clear c3
      (first | rw [c3b0] | (simp only [i64_w, i32_w]; rw [c3b0]) | skip)
      have H' := Aside0.mk H
      clear H
      go_wp2
      go_meet
      case rel => exact ⟨_, (a0), (by first | rfl | (simp; done) | (simp [*]; done)), H', ⟨by first | omega | exact Nat.le_refl _⟩, ⟨by repeat (first | (with_reducible first | exact HB.out | apply below_alloc | apply pw_below_drewN | apply below_drew1) | exact HB.out)⟩⟩
  case rest =>
    clear HC2
    try clear p2
    try clear c3
    try clear c3b0
    obtain ⟨kq, x3_1, rfl, HA, HJ1, HB⟩ := hcut
    cases kq with
    | zero => exact absurd HA.out (by simp [interlockref00_Show.j0])
    | succ kj1 =>
      have H := HA.out
      clear HA
      simp only [interlockref00_Show.j0] at H
      obtain ⟨y186, hy186⟩ : ∃ y_ : List Int, y_ = (([] : List Int)) := ⟨_, rfl⟩
      replace H : (interlockref00_Show.l0 kj1 a0 x3_1 y186) = some r := by first | (rw [hy186]; with_reducible exact H) | (have H2_ := (Option.bind_some _ _).symm.trans H; rw [hy186]; with_reducible exact H2_) | (have H2_ := (Option.bind_some _ _).symm.trans H; with_reducible exact H2_) | with_reducible exact H | (rw [hy186]; exact H) | exact H
      have Ny186 := Aside0.mk hy186
      clear hy186
      have H' := Aside0.mk H
      clear H
      go_wp2_with (first | ((with_reducible refine gate_dst (N := 12) rfl ?_); refine Kd.R_lit (Kd.int .u8) _ 5 ?hg (N := 12) ?hd (xs := ([] : List Int)) (inner := []) (ok := fun _ => True) (okp := fun _ => True) ?hr ?hp (fun _ hk => hk) trivial (Below.refl _ _) (Nat.le_refl _) (by simp) ?_; (case hd => rfl); (case hg => rfl); (case hr => first | (go_simp; done) | (go_simp; rfl)); (case hp => exact (Reps.none _ _)); intro v187 w4 ho5 hb hg_ hnew_; clear hg_ hnew_; (first | rw [← Ny186.out] at ho5 | (simp only [Int.reduceToNat] at ho5; rw [← Ny186.out] at ho5)); have n0_ := Aside0.mk (Kd.R_lower ho5 (below_size (by repeat (first | (with_reducible first | exact HB.out | apply below_alloc | apply pw_below_drewN | apply below_drew1) | exact HB.out)))); have n1_ := Aside0.mk (below_step (by repeat (first | (with_reducible first | exact HB.out | apply below_alloc | apply pw_below_drewN | apply below_drew1) | exact HB.out)) hb); clear HB; have HO188 := n0_; have HB := n1_; clear n0_ n1_; clear hb ho5))
      go_loopg [3, 4] kj1 (fun kq v3 v4 w' => ∃ (x3_2 : Int) (x4_2 : List Int), v3 = .int .i64 x3_2 ∧ Aside0 (interlockref00_Show.l0 kq a0 x3_2 x4_2 = some r) ∧ Aside0 (kq ≤ kj1) ∧ Aside0 (Kd.R (Kd.int .u8) 5 w' w.heap.size (fun _ => True) v4 x4_2) ∧ Aside0 (Below w.heap.size w w'))
      case atStart => exact ⟨(x3_1), (y186), (by first | rfl | (simp; done) | (simp [*]; done)), H', ⟨Nat.le_refl _⟩, ⟨by (with_reducible repeat (first | apply Kd.R_alloc | apply Kd.R_drewN | apply Kd.R_drew)); exact HO188.out⟩, ⟨by repeat (first | (with_reducible first | exact HB.out | apply below_alloc | apply pw_below_drewN | apply below_drew1) | exact HB.out)⟩⟩
      case round =>
        clear H'
        try clear p2
        try clear c3
        try clear c3b0
        try clear c5
        try clear p2
        obtain ⟨x3_2, x4_2, rfl, HA, HK2, HO_4, HB⟩ := hrel
        cases gk with
        | zero => exact absurd HA.out (by simp [interlockref00_Show.l0])
        | succ k2 =>
          have H := HA.out
          clear HA
          simp only [interlockref00_Show.l0] at H
          by_cases c6 : x4_2.length < 140737488355328
          · rw [if_pos c6] at H
            have LMc6 := Aside0.mk c6
            clear c6
            obtain ⟨y189, hy189⟩ : ∃ y_ : List Int, y_ = (x4_2 ++ [(wrap64 (48 - (Int.tmod x3_2 10))) % 256]) := ⟨_, rfl⟩
            replace H : (if (wrap64 (Int.tdiv x3_2 10)) = 0 then (if a0 < 0 then (if y189.length < 140737488355328 then (interlockref00_Show.j2 k2 (y189 ++ [45])) else (none)) else (interlockref00_Show.j2 k2 y189)) else (interlockref00_Show.l0 k2 a0 (wrap64 (Int.tdiv x3_2 10)) y189)) = some r := by first | (rw [hy189]; with_reducible exact H) | (have H2_ := (Option.bind_some _ _).symm.trans H; rw [hy189]; with_reducible exact H2_) | (have H2_ := (Option.bind_some _ _).symm.trans H; with_reducible exact H2_) | with_reducible exact H | (rw [hy189]; exact H) | exact H
            have Ny189 := Aside0.mk hy189
            clear hy189
            by_cases c7 : (wrap64 (Int.tdiv x3_2 10)) = 0
            · rw [if_pos c7] at H
              have c7b0 : ((wrap64 (Int.tdiv x3_2 10)) == 0) = true := beq_iff_eq.mpr c7
              have c7b1 : ((wrap64 (Int.tdiv x3_2 10)) != 0) = false := bne_eq_false_iff_eq.mpr c7
              clear c7
              have HC8 := Aside0.mk H
              clear H
              go_upto_if 25 with (first | ((with_reducible refine gate_builtin (b := .append) (xs := #[.tmp 13, .tmp 18]) rfl ?_); at_builtin; refine Kd.R_append (Kd.int .u8) (w0 := w) w.heap.size rfl (.tmp 13) (.tmp 18) 103 5 (.int .u8 0) 1 rfl Try.underlying103 info5 rfl (by decide) (by omega) u4 x4_2 ((wrap64 (48 - (Int.tmod x3_2 10))) % 256) [.int .u8 ((wrap64 (48 - (Int.tmod x3_2 10))) % 256)] (fun _ => True) (fun _ => False) rfl rfl ?aP (fun _ hk => hk.elim) ?aF ?aO ?aB ?aS ?aL ?_; (case aP => exact rfl); (case aB => exact (by repeat (first | (with_reducible first | exact HB.out | apply below_alloc | apply pw_below_drewN | apply below_drew1) | exact HB.out))); (case aF => exact (fun _ _ => trivial)); (case aO => exact (by (with_reducible repeat (first | apply Kd.R_alloc | apply Kd.R_drewN | apply Kd.R_drew)); exact HO_4.out)); (case aS => exact (below_size (by repeat (first | (with_reducible first | exact HB.out | apply below_alloc | apply pw_below_drewN | apply below_drew1) | exact HB.out)))); (case aL => have := LMc6.out; omega); intro v190 w9 ho hb hg hat; rw [← Ny189.out] at ho; have n0_ := Aside0.mk (hb); have n1_ := Aside0.mk (ho); clear HB; clear HO_4; have HB := n0_; have HO191 := n1_; clear n0_ n1_; clear ho hb hg hat))
              (try simp only [Act.put, List.setIfInBounds_toArray, List.set_cons_zero, List.set_cons_succ])
              go_cut [4] (fun v4 wc => ∃ (kq : Nat) (x4_7 : List Int), Aside0 (interlockref00_Show.j2 kq x4_7 = some r) ∧ Aside0 (kq ≤ k2) ∧ Aside0 (Kd.R (Kd.int .u8) 5 wc w.heap.size (fun _ => True) v4 x4_7) ∧ Aside0 (Below w.heap.size w wc))
              case first =>
                have H := HC8.out
                clear HC8
                by_cases c10 : a0 < 0
                · rw [if_pos c10] at H
                  have c10b0 : decide (a0 < 0) = true := decide_eq_true c10
                  clear c10
                  (first | rw [c10b0] | (simp only [i64_w, i32_w]; rw [c10b0]) | skip)
                  by_cases c11 : y189.length < 140737488355328
                  · rw [if_pos c11] at H
                    have LMc11 := Aside0.mk c11
                    clear c11
                    obtain ⟨y192, hy192⟩ : ∃ y_ : List Int, y_ = (y189 ++ [45]) := ⟨_, rfl⟩
                    replace H : (interlockref00_Show.j2 k2 y192) = some r := by first | (rw [hy192]; with_reducible exact H) | (have H2_ := (Option.bind_some _ _).symm.trans H; rw [hy192]; with_reducible exact H2_) | (have H2_ := (Option.bind_some _ _).symm.trans H; with_reducible exact H2_) | with_reducible exact H | (rw [hy192]; exact H) | exact H
                    have Ny192 := Aside0.mk hy192
                    clear hy192
                    have H' := Aside0.mk H
                    clear H
                    go_wp2_with (first | ((with_reducible refine gate_builtin (b := .append) (xs := #[.tmp 26, .tmp 27]) rfl ?_); at_builtin; refine Kd.R_append (Kd.int .u8) (w0 := w) w.heap.size rfl (.tmp 26) (.tmp 27) 103 5 (.int .u8 0) 1 rfl Try.underlying103 info5 rfl (by decide) (by omega) v190 y189 45 [.int .u8 45] (fun _ => True) (fun _ => False) rfl rfl ?aP (fun _ hk => hk.elim) ?aF ?aO ?aB ?aS ?aL ?_; (case aP => exact rfl); (case aB => exact (by repeat (first | (with_reducible first | exact HB.out | apply below_alloc | apply pw_below_drewN | apply below_drew1) | exact HB.out))); (case aF => exact (fun _ _ => trivial)); (case aO => exact (by (with_reducible repeat (first | apply Kd.R_alloc | apply Kd.R_drewN | apply Kd.R_drew)); exact HO191.out)); (case aS => exact (below_size (by repeat (first | (with_reducible first | exact HB.out | apply below_alloc | apply pw_below_drewN | apply below_drew1) | exact HB.out)))); (case aL => have := LMc11.out; omega); intro v193 w12 ho hb hg hat; rw [← Ny192.out] at ho; have n0_ := Aside0.mk (hb); have n1_ := Aside0.mk (ho); clear HB; clear HO191; have HB := n0_; have HO194 := n1_; clear n0_ n1_; clear ho hb hg hat))
                    go_meet
                    case rel => exact ⟨_, (y192), H', ⟨by have := HJ1.out; have := HK2.out; first | omega | exact Nat.le_refl _⟩, ⟨by (with_reducible repeat (first | apply Kd.R_alloc | apply Kd.R_drewN | apply Kd.R_drew)); exact HO194.out⟩, ⟨by repeat (first | (with_reducible first | exact HB.out | apply below_alloc | apply pw_below_drewN | apply below_drew1) | exact HB.out)⟩⟩
                  · rw [if_neg c11] at H
                    exact absurd H (by simp)
                · rw [if_neg c10] at H
                  have c10b0 : decide (a0 < 0) = false := decide_eq_false c10
                  clear c10
                  (first | rw [c10b0] | (simp only [i64_w, i32_w]; rw [c10b0]) | skip)
                  have H' := Aside0.mk H
                  clear H
                  go_wp2
                  go_meet
                  case rel => exact ⟨_, (y189), H', ⟨by have := HJ1.out; have := HK2.out; first | omega | exact Nat.le_refl _⟩, ⟨by (with_reducible repeat (first | apply Kd.R_alloc | apply Kd.R_drewN | apply Kd.R_drew)); exact HO191.out⟩, ⟨by repeat (first | (with_reducible first | exact HB.out | apply below_alloc | apply pw_below_drewN | apply below_drew1) | exact HB.out)⟩⟩
              case rest =>
                clear HC8
                try clear c1
                try clear p2
                try clear c3
                try clear c3b0
                try clear c5
                try clear c6
                try clear p6
                try clear c7
                try clear c7b0
                try clear c7b1
                try clear c10
                try clear c10b0
                try clear c11
                try clear p2
                obtain ⟨kq, x4_7, HA, HJ7, HO_4, HB⟩ := hcut
                cases kq with
                | zero => exact absurd HA.out (by simp [interlockref00_Show.j2])
                | succ kj7 =>
                  have H := HA.out
                  clear HA
                  simp only [interlockref00_Show.j2] at H
                  obtain ⟨y195, hy195⟩ : ∃ y_ : List Int, y_ = (([] : List Int)) := ⟨_, rfl⟩
                  replace H : (interlockref00_Show.l1 kj7 x4_7 y195 (wrap64 ((x4_7.length : Int) - 1))) = some r := by first | (rw [hy195]; with_reducible exact H) | (have H2_ := (Option.bind_some _ _).symm.trans H; rw [hy195]; with_reducible exact H2_) | (have H2_ := (Option.bind_some _ _).symm.trans H; with_reducible exact H2_) | with_reducible exact H | (rw [hy195]; exact H) | exact H
                  have Ny195 := Aside0.mk hy195
                  clear hy195
                  have H' := Aside0.mk H
                  clear H
                  go_wp2_with (first | ((with_reducible refine gate_dst (N := 29) rfl ?_); refine Kd.R_lit (Kd.int .u8) _ 5 ?hg (N := 29) ?hd (xs := ([] : List Int)) (inner := []) (ok := fun _ => True) (okp := fun _ => True) ?hr ?hp (fun _ hk => hk) trivial (Below.refl _ _) (Nat.le_refl _) (by simp) ?_; (case hd => rfl); (case hg => rfl); (case hr => first | (go_simp; done) | (go_simp; rfl)); (case hp => exact (Reps.none _ _)); intro v196 w13 ho14 hb hg_ hnew_; clear hg_ hnew_; (first | rw [← Ny195.out] at ho14 | (simp only [Int.reduceToNat] at ho14; rw [← Ny195.out] at ho14)); have n0_ := Aside0.mk (Kd.R_elder' (by (with_reducible repeat (first | apply Kd.R_alloc | apply Kd.R_drewN | apply Kd.R_drew)); exact HO_4.out) (Kd.R_base ho14) hb); have n1_ := Aside0.mk (Kd.R_lower (Kd.R_new' ho14 (Kd.R_lt (by (with_reducible repeat (first | apply Kd.R_alloc | apply Kd.R_drewN | apply Kd.R_drew)); exact HO_4.out))) (below_size (by repeat (first | (with_reducible first | exact HB.out | apply below_alloc | apply pw_below_drewN | apply below_drew1) | exact HB.out)))); have n2_ := Aside0.mk (below_step (by repeat (first | (with_reducible first | exact HB.out | apply below_alloc | apply pw_below_drewN | apply below_drew1) | exact HB.out)) hb); clear HO_4; clear HB; have HO_4 := n0_; have HO197 := n1_; have HB := n2_; clear n0_ n1_ n2_; clear hb ho14; obtain ⟨Ao15, co15, eo15⟩ := Kd.R_slice HO_4.out; subst eo15))
                  go_loopg [5, 6] kj7 (fun kq v5 v6 w' => ∃ (x5_4 : List Int) (x6_4 : Int), v6 = .int .i64 x6_4 ∧ Aside0 (interlockref00_Show.l1 kq x4_7 x5_4 x6_4 = some r) ∧ Aside0 (kq ≤ kj7) ∧ Aside0 (Kd.R (Kd.int .u8) 5 w' w.heap.size (fun k_ => some k_ ≠ (v5 : Value).ownBlock) (.slice Ao15 x4_7.length co15) x4_7) ∧ Aside0 (Kd.R (Kd.int .u8) 5 w' w.heap.size (fun k_ => some k_ ≠ ((.slice Ao15 x4_7.length co15) : Value).ownBlock) v5 x5_4) ∧ Aside0 (Below w.heap.size w w'))
                  case atStart => exact ⟨(y195), (wrap64 ((x4_7.length : Int) - 1)), (by first | rfl | (simp; done) | (simp [*]; done)), H', ⟨Nat.le_refl _⟩, ⟨by (with_reducible repeat (first | apply Kd.R_alloc | apply Kd.R_drewN | apply Kd.R_drew)); exact Kd.R_mono HO_4.out (fun _ hk => hk.2)⟩, ⟨by (with_reducible repeat (first | apply Kd.R_alloc | apply Kd.R_drewN | apply Kd.R_drew)); exact Kd.R_mono HO197.out (fun _ hk => hk.2)⟩, ⟨by repeat (first | (with_reducible first | exact HB.out | apply below_alloc | apply pw_below_drewN | apply below_drew1) | exact HB.out)⟩⟩
                  case round =>
                    clear H'
                    try clear c1
                    try clear p2
                    try clear c3
                    try clear c3b0
                    try clear c5
                    try clear c6
                    try clear p6
                    try clear c7
                    try clear c7b0
                    try clear c7b1
                    try clear c10
                    try clear c10b0
                    try clear c11
                    try clear p2
                    try clear p6
                    obtain ⟨x5_4, x6_4, rfl, HA, HK4, HO_4, HO_5, HB⟩ := hrel
                    cases gk with
                    | zero => exact absurd HA.out (by simp [interlockref00_Show.l1])
                    | succ k4 =>
                      have H := HA.out
                      clear HA
                      simp only [interlockref00_Show.l1] at H
                      by_cases c16 : x6_4 ≥ 0
                      · rw [if_pos c16] at H
                        have c16b0 : decide (0 ≤ x6_4) = true := decide_eq_true c16
                        clear c16
                        by_cases c17 : 0 ≤ x6_4
                        · rw [if_pos c17] at H
                          have c17b0 : decide (0 ≤ x6_4) = true := decide_eq_true c17
                          clear c17
                          by_cases c18 : x6_4 < (x4_7.length : Int)
                          · rw [if_pos c18] at H
                            have c18b0 : decide (x6_4 < (x4_7.length : Int)) = true := decide_eq_true c18
                            clear c18
                            by_cases c19 : x5_4.length < 140737488355328
                            · rw [if_pos c19] at H
                              have LMc19 := Aside0.mk c19
                              clear c19
                              obtain ⟨y199, hy199⟩ : ∃ y_ : List Int, y_ = (x5_4 ++ [rd x4_7 x6_4]) := ⟨_, rfl⟩
                              replace H : (interlockref00_Show.l1 k4 x4_7 y199 (wrap64 (x6_4 - 1))) = some r := by first | (rw [hy199]; with_reducible exact H) | (have H2_ := (Option.bind_some _ _).symm.trans H; rw [hy199]; with_reducible exact H2_) | (have H2_ := (Option.bind_some _ _).symm.trans H; with_reducible exact H2_) | with_reducible exact H | (rw [hy199]; exact H) | exact H
                              have Ny199 := Aside0.mk hy199
                              clear hy199
                              have H' := Aside0.mk H
                              clear H
                              have p198 : 0 ≤ (x6_4 : Int) := of_decide_eq_true (by first | (with_reducible assumption) | assumption)
                              have q198 : x6_4 < (x4_7.length : Int) := of_decide_eq_true (by first | (with_reducible assumption) | assumption)
                              obtain ⟨ad198, e198, hx198_0⟩ := Kd.at_int (Kd.R_reads' HO_4.out).2.2 x6_4 p198 q198
                              cases e198
                              replace p198 := eq_true p198
                              replace q198 := eq_true q198
                              go_wp2_with (first | ((with_reducible refine gate_builtin (b := .append) (xs := #[.tmp 37, .tmp 42]) rfl ?_); at_builtin; refine Kd.R_append (Kd.int .u8) (w0 := w) w.heap.size rfl (.tmp 37) (.tmp 42) 103 5 (.int .u8 0) 1 rfl Try.underlying103 info5 rfl (by decide) (by omega) u5 x5_4 (rd x4_7 x6_4) [.int .u8 (rd x4_7 x6_4)] (fun k_ => some k_ ≠ (.slice (some ad198) x4_7.length co15 : Value).ownBlock) (fun _ => False) rfl rfl ?aP (fun _ hk => hk.elim) ?aF ?aO ?aB ?aS ?aL ?_; (case aP => exact rfl); (case aB => exact (by repeat (first | (with_reducible first | exact HB.out | apply below_alloc | apply pw_below_drewN | apply below_drew1) | exact HB.out))); (case aF => exact (fun k_ hk => Kd.fresh' (Kd.R_lt (by (with_reducible repeat (first | apply Kd.R_alloc | apply Kd.R_drewN | apply Kd.R_drew)); exact HO_4.out)) k_ hk)); (case aO => exact (by (with_reducible repeat (first | apply Kd.R_alloc | apply Kd.R_drewN | apply Kd.R_drew)); exact HO_5.out)); (case aS => exact (below_size (by repeat (first | (with_reducible first | exact HB.out | apply below_alloc | apply pw_below_drewN | apply below_drew1) | exact HB.out)))); (case aL => have := LMc19.out; omega); intro v200 w20 ho hb hg hat; rw [← Ny199.out] at ho; have n0_ := Aside0.mk (Kd.R_after (ok := (fun _ => True)) (by (with_reducible repeat (first | apply Kd.R_alloc | apply Kd.R_drewN | apply Kd.R_drew)); exact Kd.R_mono HO_4.out (fun _ hk => ⟨trivial, hk⟩)) hg hat); have n1_ := Aside0.mk (hb); have n2_ := Aside0.mk (ho); clear HO_4; clear HB; clear HO_5; have HO_4 := n0_; have HB := n1_; have HO201 := n2_; clear n0_ n1_ n2_; clear ho hb hg hat))
                              go_roundg k4
                              case measure => have := HJ1.out; have := HK2.out; have := HJ7.out; have := HK4.out; omega
                              case rel => exact ⟨(y199), (wrap64 (x6_4 - 1)), (by first | rfl | (simp; done) | (simp [*]; done)), H', ⟨by have := HJ1.out; have := HK2.out; have := HJ7.out; have := HK4.out; omega⟩, ⟨by (with_reducible repeat (first | apply Kd.R_alloc | apply Kd.R_drewN | apply Kd.R_drew)); exact Kd.R_mono HO_4.out (fun _ hk => hk.2)⟩, ⟨by (with_reducible repeat (first | apply Kd.R_alloc | apply Kd.R_drewN | apply Kd.R_drew)); exact HO201.out⟩, ⟨by repeat (first | (with_reducible first | exact HB.out | apply below_alloc | apply pw_below_drewN | apply below_drew1) | exact HB.out)⟩⟩
                            · rw [if_neg c19] at H
                              exact absurd H (by simp)
                          · rw [if_neg c18] at H
                            exact absurd H (by simp)
                        · rw [if_neg c17] at H
                          exact absurd H (by simp)
                      · rw [if_neg c16] at H
                        have c16b0 : decide (0 ≤ x6_4) = false := decide_eq_false c16
                        clear c16
                        obtain rfl := Option.some.inj H
                        have hcv21 := own_string (P := Try.prog) Try.underlying103 Try.underlying5 Try.underlying9 (Kd.own_of_R HO_5.out)
                        go_wp2
                        go_ret
                        exact ⟨by first | rfl | (simp [errW_none, errW_some] <;> rfl) | (simp [*, errW_none, errW_some] <;> rfl), by repeat (first | (with_reducible first | exact HB.out | apply below_alloc | apply pw_below_drewN | apply below_drew1) | exact HB.out)⟩
            · rw [if_neg c7] at H
              have c7b0 : ((wrap64 (Int.tdiv x3_2 10)) == 0) = false := beq_eq_false_iff_ne.mpr c7
              have c7b1 : ((wrap64 (Int.tdiv x3_2 10)) != 0) = true := bne_iff_ne.mpr c7
              have H' := Aside0.mk H
              clear H
              go_wp2_with (first | ((with_reducible refine gate_builtin (b := .append) (xs := #[.tmp 13, .tmp 18]) rfl ?_); at_builtin; refine Kd.R_append (Kd.int .u8) (w0 := w) w.heap.size rfl (.tmp 13) (.tmp 18) 103 5 (.int .u8 0) 1 rfl Try.underlying103 info5 rfl (by decide) (by omega) u4 x4_2 ((wrap64 (48 - (Int.tmod x3_2 10))) % 256) [.int .u8 ((wrap64 (48 - (Int.tmod x3_2 10))) % 256)] (fun _ => True) (fun _ => False) rfl rfl ?aP (fun _ hk => hk.elim) ?aF ?aO ?aB ?aS ?aL ?_; (case aP => exact rfl); (case aB => exact (by repeat (first | (with_reducible first | exact HB.out | apply below_alloc | apply pw_below_drewN | apply below_drew1) | exact HB.out))); (case aF => exact (fun _ _ => trivial)); (case aO => exact (by (with_reducible repeat (first | apply Kd.R_alloc | apply Kd.R_drewN | apply Kd.R_drew)); exact HO_4.out)); (case aS => exact (below_size (by repeat (first | (with_reducible first | exact HB.out | apply below_alloc | apply pw_below_drewN | apply below_drew1) | exact HB.out)))); (case aL => have := LMc6.out; omega); intro v190 w22 ho hb hg hat; rw [← Ny189.out] at ho; have n0_ := Aside0.mk (hb); have n1_ := Aside0.mk (ho); clear HB; clear HO_4; have HB := n0_; have HO191 := n1_; clear n0_ n1_; clear ho hb hg hat))
              go_roundg k2
              case measure => have := HJ1.out; have := HK2.out; omega
              case rel => exact ⟨(wrap64 (Int.tdiv x3_2 10)), (y189), (by first | rfl | (simp; done) | (simp [*]; done)), H', ⟨by have := HJ1.out; have := HK2.out; omega⟩, ⟨by (with_reducible repeat (first | apply Kd.R_alloc | apply Kd.R_drewN | apply Kd.R_drew)); exact HO191.out⟩, ⟨by repeat (first | (with_reducible first | exact HB.out | apply below_alloc | apply pw_below_drewN | apply below_drew1) | exact HB.out)⟩⟩
          · rw [if_neg c6] at H
            exact absurd H (by simp)

-- NOT PRINTED: function 58 (interlockref22_Told_note)

-- NOT PRINTED: function 59 (interlockref22_Told_next)

-- NOT PRINTED: function 36 (interlockref22_Told_Try)

/-! ### interlockref18_Register: function 37 -/
def interlockref18_Register.f (a0 : ByteArray) : Option ((List (S97))) := (interlockref18_base.f 4 3).bind fun t209 => ((interlockref18_want.f 3 a0 (⟨#[]⟩ : ByteArray) 4).bind fun bt212 => (if t209.length < 2932031007402 then (some (t209 ++ [(⟨(⟨bt212.1, bt212.2.1, bt212.2.2.1⟩ : S95), bt212.2.2.2⟩ : S97)])) else (none)))
set_option maxHeartbeats 8000000 in
set_option maxRecDepth 100000 in
theorem interlockref18_Register.calls (a0 : ByteArray) (r : List (S97)) (w : World) (h : interlockref18_Register.f a0 = some r) :
    Calls Try.prog 37 #[.string a0] w fun e w' => ∃ v0_ : Value, e = .returned (v0_) ∧ Kd.R k97 97 w' w.heap.size (fun _ => True) v0_ r ∧ Below w.heap.size w w' := by
  have HB := Aside0.mk (Below.refl w.heap.size w)
  have H : ((interlockref18_base.f 4 3).bind fun t209 => ((interlockref18_want.f 3 a0 (⟨#[]⟩ : ByteArray) 4).bind fun bt212 => (if t209.length < 2932031007402 then (some (t209 ++ [(⟨(⟨bt212.1, bt212.2.1, bt212.2.2.1⟩ : S95), bt212.2.2.2⟩ : S97)])) else (none)))) = some r := h
  clear h
  replace H := Option.bind_eq_some_iff.mp H
  obtain ⟨t209, A20, H⟩ := H
  replace H : ((interlockref18_want.f 3 a0 (⟨#[]⟩ : ByteArray) 4).bind fun bt212 => (if t209.length < 2932031007402 then (some (t209 ++ [(⟨(⟨bt212.1, bt212.2.1, bt212.2.2.1⟩ : S95), bt212.2.2.2⟩ : S97)])) else (none))) = some r := H
  have A2 := Aside0.mk A20
  clear A20
  replace H := Option.bind_eq_some_iff.mp H
  obtain ⟨⟨t212, t213, t214, t215⟩, A30, H⟩ := H
  replace H : (if t209.length < 2932031007402 then (some (t209 ++ [(⟨(⟨t212, t213, t214⟩ : S95), t215⟩ : S97)])) else (none)) = some r := H
  have A3 := Aside0.mk A30
  clear A30
  by_cases c4 : t209.length < 2932031007402
  · rw [if_pos c4] at H
    have LMc4 := Aside0.mk c4
    clear c4
    obtain ⟨y216, hy216⟩ : ∃ y_ : List (S97), y_ = (t209 ++ [(⟨(⟨t212, t213, t214⟩ : S95), t215⟩ : S97)]) := ⟨_, rfl⟩
    replace H : (some y216) = some r := by first | (rw [hy216]; with_reducible exact H) | (have H2_ := (Option.bind_some _ _).symm.trans H; rw [hy216]; with_reducible exact H2_) | (have H2_ := (Option.bind_some _ _).symm.trans H; with_reducible exact H2_) | with_reducible exact H | (rw [hy216]; exact H) | exact H
    have Ny216 := Aside0.mk hy216
    clear hy216
    obtain rfl := Option.some.inj H
    go_enter Try.func37, Try.ntmps37
    go_wp2_with (first | ((with_reducible refine gate_callee (f := 55) rfl ?_); refine goesL_ (some 3) rfl rfl Try.func55 (by kernel_rfl) rfl #[.int .i64 4, .int .i64 3] rfl (by (try simp only [List.map_toArray, List.map_cons, List.map_nil]); first | done | rfl | (simp only [List.length_drop, List.length_take]; rfl)) ?_; (with_reducible refine (interlockref18_base.calls 4 3 t209 _ A2.out).mono ?_); rintro e w5 ⟨v210, rfl, ho0, hb⟩; refine ⟨_, rfl, ?_⟩; have n0_ := Aside0.mk (Kd.R_lower ho0 (below_size (by repeat (first | (with_reducible first | exact HB.out | apply below_alloc | apply pw_below_drewN | apply below_drew1) | exact HB.out)))); have n1_ := Aside0.mk (below_step (by repeat (first | (with_reducible first | exact HB.out | apply below_alloc | apply pw_below_drewN | apply below_drew1) | exact HB.out)) hb); clear HB; have HO211 := n0_; have HB := n1_; clear n0_ n1_; (try clear hb); (try clear hb2); (try clear hk); (try clear hi); (try clear ho0)) | ((with_reducible refine gate_callee (f := 56) rfl ?_); refine goesL_ (some 5) rfl rfl Try.func56 (by kernel_rfl) rfl #[.int .i64 3, .string a0, .string (⟨#[]⟩ : ByteArray), .int .i64 4] rfl (by (try simp only [List.map_toArray, List.map_cons, List.map_nil]); first | done | rfl | (simp only [List.length_drop, List.length_take]; rfl)) ?_; (with_reducible refine (interlockref18_want.calls 3 a0 (⟨#[]⟩ : ByteArray) 4 t212 t213 t214 t215 _ A3.out).mono ?_); rintro e w6 ⟨rfl, hb⟩; refine ⟨_, rfl, ?_⟩; have n0_ := Aside0.mk (Kd.R_below (by (with_reducible repeat (first | apply Kd.R_alloc | apply Kd.R_drewN | apply Kd.R_drew)); exact HO211.out) hb); have n1_ := Aside0.mk (below_step (by repeat (first | (with_reducible first | exact HB.out | apply below_alloc | apply pw_below_drewN | apply below_drew1) | exact HB.out)) hb); clear HO211; clear HB; have HO211 := n0_; have HB := n1_; clear n0_ n1_; (try clear hb); (try clear hb2); (try clear hk); (try clear hi)) | ((with_reducible refine gate_builtin (b := .append) (xs := #[.tmp 3, .tmp 6]) rfl ?_); at_builtin; refine Kd.R_append k97 (w0 := w) w.heap.size rfl (.tmp 3) (.tmp 6) 72 97 (.agg #[(.int .i64 0), (.string ⟨#[]⟩), (.string ⟨#[]⟩), (.int .i64 0)]) 48 rfl Try.underlying72 info97 rfl (by decide) (by omega) v210 t209 (⟨(⟨t212, t213, t214⟩ : S95), t215⟩ : S97) [.int .i64 t212, .string t213, .string t214, .int .i64 t215] (fun _ => True) (fun _ => False) rfl rfl ?aP (fun _ hk => hk.elim) ?aF ?aO ?aB ?aS ?aL ?_; (case aP => exact k97_mkM _ _ _ (⟨(⟨t212, t213, t214⟩ : S95), t215⟩ : S97)); (case aB => exact (by repeat (first | (with_reducible first | exact HB.out | apply below_alloc | apply pw_below_drewN | apply below_drew1) | exact HB.out))); (case aF => exact (fun _ _ => trivial)); (case aO => exact (by (with_reducible repeat (first | apply Kd.R_alloc | apply Kd.R_drewN | apply Kd.R_drew)); exact HO211.out)); (case aS => exact (below_size (by repeat (first | (with_reducible first | exact HB.out | apply below_alloc | apply pw_below_drewN | apply below_drew1) | exact HB.out)))); (case aL => have := LMc4.out; omega); intro v217 w7 ho hb hg hat; rw [← Ny216.out] at ho; have n0_ := Aside0.mk (hb); have n1_ := Aside0.mk (ho); clear HB; clear HO211; have HB := n0_; have HO218 := n1_; clear n0_ n1_; clear ho hb hg hat))
    go_ret
    exact ⟨_, by first | rfl | (simp [errW_none, errW_some] <;> rfl) | (simp [*, errW_none, errW_some] <;> rfl), by (with_reducible repeat (first | apply Kd.R_alloc | apply Kd.R_drewN | apply Kd.R_drew)); exact HO218.out, by repeat (first | (with_reducible first | exact HB.out | apply below_alloc | apply pw_below_drewN | apply below_drew1) | exact HB.out)⟩
  · rw [if_neg c4] at H
    exact absurd H (by simp)

/-- A state of type 50 at block g of W; what its slices lead to came in by w0. -/
def IsS50 (w0 W : World) (g : Nat) (f0 : Int) (f1 : ByteArray) (f2 : ByteArray) (f3 : ByteArray) (f4 : Int) (f5 : Bool) (f6 : List (S60)) (f7 : List (S62)) (f8 : List (S64)) (f9 : List (S66)) (f10 : List ByteArray) (f11 : Int) (f12 : List (S60)) (f13 : Int) (f14 : Int) : Prop := ∃ A6 c6, ∃ A7 c7, ∃ A8 c8, ∃ A9 c9, ∃ A10 c10, ∃ A12 c12, W.heap[g]? = some (.cells #[.int .i64 f0, .string f1, .string f2, .string f3, .int .i64 f4, .bool f5, .slice A6 f6.length c6, .slice A7 f7.length c7, .slice A8 f8.length c8, .slice A9 f9.length c9, .slice A10 f10.length c10, .int .i64 f11, .slice A12 f12.length c12, .int .i64 f13, .int .i64 f14] 50 (0, 0)) ∧ w0.heap.size ≤ g ∧ Kd.C k60 w0 A6 f6.length f6 ∧ Kd.C k62 w0 A7 f7.length f7 ∧ Kd.C k64 w0 A8 f8.length f8 ∧ Kd.C k66 w0 A9 f9.length f9 ∧ Kd.C Kd.string w0 A10 f10.length f10 ∧ Kd.C k60 w0 A12 f12.length f12
theorem IsS50.grown {w0 W : World} {g : Nat} {f0 : Int} {f1 : ByteArray} {f2 : ByteArray} {f3 : ByteArray} {f4 : Int} {f5 : Bool} {f6 : List (S60)} {f7 : List (S62)} {f8 : List (S64)} {f9 : List (S66)} {f10 : List ByteArray} {f11 : Int} {f12 : List (S60)} {f13 : Int} {f14 : Int} {W1 : World} {row : Option Nat} (h : IsS50 w0 W g f0 f1 f2 f3 f4 f5 f6 f7 f8 f9 f10 f11 f12 f13 f14) (hw : W.grownBy W1 row) (hne : some g ≠ row) : IsS50 w0 W1 g f0 f1 f2 f3 f4 f5 f6 f7 f8 f9 f10 f11 f12 f13 f14 := by
  obtain ⟨A6, c6, A7, c7, A8, c8, A9, c9, A10, c10, A12, c12, hb, hg, hr6, hr7, hr8, hr9, hr10, hr12⟩ := h
  exact ⟨A6, c6, A7, c7, A8, c8, A9, c9, A10, c10, A12, c12, blk_grown hb hw hne, hg, hr6, hr7, hr8, hr9, hr10, hr12⟩
theorem IsS50.fresh {w0 W : World} {g : Nat} {f0 : Int} {f1 : ByteArray} {f2 : ByteArray} {f3 : ByteArray} {f4 : Int} {f5 : Bool} {f6 : List (S60)} {f7 : List (S62)} {f8 : List (S64)} {f9 : List (S66)} {f10 : List ByteArray} {f11 : Int} {f12 : List (S60)} {f13 : Int} {f14 : Int} (h : IsS50 w0 W g f0 f1 f2 f3 f4 f5 f6 f7 f8 f9 f10 f11 f12 f13 f14) : ∀ k, W.heap.size ≤ k → k ≠ g := by
  obtain ⟨A6, c6, A7, c7, A8, c8, A9, c9, A10, c10, A12, c12, hb, hg, hr6, hr7, hr8, hr9, hr10, hr12⟩ := h
  exact Kd.freshB hb
theorem IsS50.kept {w0 W : World} {g : Nat} {f0 : Int} {f1 : ByteArray} {f2 : ByteArray} {f3 : ByteArray} {f4 : Int} {f5 : Bool} {f6 : List (S60)} {f7 : List (S62)} {f8 : List (S64)} {f9 : List (S66)} {f10 : List ByteArray} {f11 : Int} {f12 : List (S60)} {f13 : Int} {f14 : Int} {W1 : World} {S : Nat → Prop} (h : IsS50 w0 W g f0 f1 f2 f3 f4 f5 f6 f7 f8 f9 f10 f11 f12 f13 f14) (hk : Kept W W1 S) (hne : ¬ S g) : IsS50 w0 W1 g f0 f1 f2 f3 f4 f5 f6 f7 f8 f9 f10 f11 f12 f13 f14 := by
  obtain ⟨A6, c6, A7, c7, A8, c8, A9, c9, A10, c10, A12, c12, hb, hg, hr6, hr7, hr8, hr9, hr10, hr12⟩ := h
  exact ⟨A6, c6, A7, c7, A8, c8, A9, c9, A10, c10, A12, c12, blk_kept hb hk hne, hg, hr6, hr7, hr8, hr9, hr10, hr12⟩
theorem IsS50.below {w0 W : World} {g : Nat} {f0 : Int} {f1 : ByteArray} {f2 : ByteArray} {f3 : ByteArray} {f4 : Int} {f5 : Bool} {f6 : List (S60)} {f7 : List (S62)} {f8 : List (S64)} {f9 : List (S66)} {f10 : List ByteArray} {f11 : Int} {f12 : List (S60)} {f13 : Int} {f14 : Int} {W1 : World} (h : IsS50 w0 W g f0 f1 f2 f3 f4 f5 f6 f7 f8 f9 f10 f11 f12 f13 f14) (hw : Below W.heap.size W W1) : IsS50 w0 W1 g f0 f1 f2 f3 f4 f5 f6 f7 f8 f9 f10 f11 f12 f13 f14 := h.grown (grown_of_below hw none) (by simp)
theorem IsS50.alloc {w0 W : World} {g : Nat} {f0 : Int} {f1 : ByteArray} {f2 : ByteArray} {f3 : ByteArray} {f4 : Int} {f5 : Bool} {f6 : List (S60)} {f7 : List (S62)} {f8 : List (S64)} {f9 : List (S66)} {f10 : List ByteArray} {f11 : Int} {f12 : List (S60)} {f13 : Int} {f14 : Int} (h : IsS50 w0 W g f0 f1 f2 f3 f4 f5 f6 f7 f8 f9 f10 f11 f12 f13 f14) (o : Obj) : IsS50 w0 (W.alloc o) g f0 f1 f2 f3 f4 f5 f6 f7 f8 f9 f10 f11 f12 f13 f14 := h.below (below_alloc (Below.refl _ _) o)
theorem IsS50.drewN {w0 W : World} {g : Nat} {f0 : Int} {f1 : ByteArray} {f2 : ByteArray} {f3 : ByteArray} {f4 : Int} {f5 : Bool} {f6 : List (S60)} {f7 : List (S62)} {f8 : List (S64)} {f9 : List (S66)} {f10 : List ByteArray} {f11 : Int} {f12 : List (S60)} {f13 : Int} {f14 : Int} (h : IsS50 w0 W g f0 f1 f2 f3 f4 f5 f6 f7 f8 f9 f10 f11 f12 f13 f14) (m : Nat) : IsS50 w0 (W.drewN m) g f0 f1 f2 f3 f4 f5 f6 f7 f8 f9 f10 f11 f12 f13 f14 := h
theorem IsS50.drew {w0 W : World} {g : Nat} {f0 : Int} {f1 : ByteArray} {f2 : ByteArray} {f3 : ByteArray} {f4 : Int} {f5 : Bool} {f6 : List (S60)} {f7 : List (S62)} {f8 : List (S64)} {f9 : List (S66)} {f10 : List ByteArray} {f11 : Int} {f12 : List (S60)} {f13 : Int} {f14 : Int} (h : IsS50 w0 W g f0 f1 f2 f3 f4 f5 f6 f7 f8 f9 f10 f11 f12 f13 f14) : IsS50 w0 W.drew g f0 f1 f2 f3 f4 f5 f6 f7 f8 f9 f10 f11 f12 f13 f14 := h
theorem IsS50.at_ {w0 W : World} {g : Nat} {f0 : Int} {f1 : ByteArray} {f2 : ByteArray} {f3 : ByteArray} {f4 : Int} {f5 : Bool} {f6 : List (S60)} {f7 : List (S62)} {f8 : List (S64)} {f9 : List (S66)} {f10 : List ByteArray} {f11 : Int} {f12 : List (S60)} {f13 : Int} {f14 : Int} {w' : World} {m : Nat} (hq : W.drewN m = w') (h : IsS50 w0 W g f0 f1 f2 f3 f4 f5 f6 f7 f8 f9 f10 f11 f12 f13 f14) : IsS50 w0 w' g f0 f1 f2 f3 f4 f5 f6 f7 f8 f9 f10 f11 f12 f13 f14 := by subst hq; exact IsS50.drewN h m
theorem IsS50.apart {w0 W : World} {g : Nat} {f0 : Int} {f1 : ByteArray} {f2 : ByteArray} {f3 : ByteArray} {f4 : Int} {f5 : Bool} {f6 : List (S60)} {f7 : List (S62)} {f8 : List (S64)} {f9 : List (S66)} {f10 : List ByteArray} {f11 : Int} {f12 : List (S60)} {f13 : Int} {f14 : Int} {α : Type} {d : Kd α} {e : Nat} {base : Nat} {ok : Nat → Prop} {v : Value} {xs : List α} (h : IsS50 w0 W g f0 f1 f2 f3 f4 f5 f6 f7 f8 f9 f10 f11 f12 f13 f14) (ho : d.R e W base ok v xs) (ht : ∀ q, q ∈ e :: d.E → q ≠ 50) : d.R e W base (fun k => ok k ∧ k ≠ g) v xs := by
  obtain ⟨A6, c6, A7, c7, A8, c8, A9, c9, A10, c10, A12, c12, hb, hg, hr6, hr7, hr8, hr9, hr10, hr12⟩ := h
  exact Kd.R_types ho hb ht
theorem IsS50.own_ne {w0 W : World} {g : Nat} {f0 : Int} {f1 : ByteArray} {f2 : ByteArray} {f3 : ByteArray} {f4 : Int} {f5 : Bool} {f6 : List (S60)} {f7 : List (S62)} {f8 : List (S64)} {f9 : List (S66)} {f10 : List ByteArray} {f11 : Int} {f12 : List (S60)} {f13 : Int} {f14 : Int} {α : Type} {d : Kd α} {e : Nat} {base : Nat} {ok : Nat → Prop} {v : Value} {xs : List α} (h : IsS50 w0 W g f0 f1 f2 f3 f4 f5 f6 f7 f8 f9 f10 f11 f12 f13 f14) (ho : d.R e W base ok v xs) (ht : e ≠ 50) : some g ≠ v.ownBlock := by
  obtain ⟨A6, c6, A7, c7, A8, c8, A9, c9, A10, c10, A12, c12, hb, hg, hr6, hr7, hr8, hr9, hr10, hr12⟩ := h
  exact Kd.R_ne ho hb ht
theorem IsS50.lt {w0 W : World} {g : Nat} {f0 : Int} {f1 : ByteArray} {f2 : ByteArray} {f3 : ByteArray} {f4 : Int} {f5 : Bool} {f6 : List (S60)} {f7 : List (S62)} {f8 : List (S64)} {f9 : List (S66)} {f10 : List ByteArray} {f11 : Int} {f12 : List (S60)} {f13 : Int} {f14 : Int} (h : IsS50 w0 W g f0 f1 f2 f3 f4 f5 f6 f7 f8 f9 f10 f11 f12 f13 f14) : g < W.heap.size := by
  obtain ⟨A6, c6, A7, c7, A8, c8, A9, c9, A10, c10, A12, c12, hb, hg, hr6, hr7, hr8, hr9, hr10, hr12⟩ := h
  exact blk_lt hb
theorem IsS50.far {w0 W : World} {g : Nat} {f0 : Int} {f1 : ByteArray} {f2 : ByteArray} {f3 : ByteArray} {f4 : Int} {f5 : Bool} {f6 : List (S60)} {f7 : List (S62)} {f8 : List (S64)} {f9 : List (S66)} {f10 : List ByteArray} {f11 : Int} {f12 : List (S60)} {f13 : Int} {f14 : Int} {p : Addr} (h : IsS50 w0 W g f0 f1 f2 f3 f4 f5 f6 f7 f8 f9 f10 f11 f12 f13 f14) (hne : g ≠ p.block) (u : Value) : IsS50 w0 (W.setCell p u) g f0 f1 f2 f3 f4 f5 f6 f7 f8 f9 f10 f11 f12 f13 f14 := by
  obtain ⟨A6, c6, A7, c7, A8, c8, A9, c9, A10, c10, A12, c12, hb, hg, hr6, hr7, hr8, hr9, hr10, hr12⟩ := h
  exact ⟨A6, c6, A7, c7, A8, c8, A9, c9, A10, c10, A12, c12, blk_far hb hne u, hg, hr6, hr7, hr8, hr9, hr10, hr12⟩
theorem IsS50.new (w0 W : World) (A6 : Option Addr) (c6 : Nat) (A7 : Option Addr) (c7 : Nat) (A8 : Option Addr) (c8 : Nat) (A9 : Option Addr) (c9 : Nat) (A10 : Option Addr) (c10 : Nat) (A12 : Option Addr) (c12 : Nat) (f0 : Int) (f1 : ByteArray) (f2 : ByteArray) (f3 : ByteArray) (f4 : Int) (f5 : Bool) (f6 : List (S60)) (f7 : List (S62)) (f8 : List (S64)) (f9 : List (S66)) (f10 : List ByteArray) (f11 : Int) (f12 : List (S60)) (f13 : Int) (f14 : Int) (hB : Below w0.heap.size w0 W) (hr6 : Kd.C k60 w0 A6 f6.length f6) (hr7 : Kd.C k62 w0 A7 f7.length f7) (hr8 : Kd.C k64 w0 A8 f8.length f8) (hr9 : Kd.C k66 w0 A9 f9.length f9) (hr10 : Kd.C Kd.string w0 A10 f10.length f10) (hr12 : Kd.C k60 w0 A12 f12.length f12) : IsS50 w0 (W.alloc (.cells #[.int .i64 f0, .string f1, .string f2, .string f3, .int .i64 f4, .bool f5, .slice A6 f6.length c6, .slice A7 f7.length c7, .slice A8 f8.length c8, .slice A9 f9.length c9, .slice A10 f10.length c10, .int .i64 f11, .slice A12 f12.length c12, .int .i64 f13, .int .i64 f14] 50)) W.heap.size f0 f1 f2 f3 f4 f5 f6 f7 f8 f9 f10 f11 f12 f13 f14 := ⟨A6, c6, A7, c7, A8, c8, A9, c9, A10, c10, A12, c12, by simpa using heap_alloc_new W _, hB.size, hr6, hr7, hr8, hr9, hr10, hr12⟩

-- NOT PRINTED: function 39 (interlockref22_Told_Register)

-- NOT PRINTED: function 40 (interlockref22_Told_Free)

-- NOT PRINTED: function 41 (interlockref22_Told_Elder)

-- NOT PRINTED: function 42 (interlockref22_Told_Token)

-- NOT PRINTED: function 43 (interlockref22_Told_Batch)

-- NOT PRINTED: function 44 (interlockref22_Told_Settle)

-- NOT PRINTED: function 45 (interlockref22_Told_Abandon)

-- NOT PRINTED: function 17 (interlockref22_Job_Step)

/-! ### interlockref00_SameRow: function 18 -/
def interlockref00_SameRow.l0 : Nat → List (S60) → List (S60) → Int → Option (Bool)
  | 0, _, _, _ => none
  | k + 1, x0, x1, x5 => if x5 < (x0.length : Int) then (if 0 ≤ x5 then (if x5 < (x1.length : Int) then (if (!(((rd_T60 x0 x5).f0) == ((rd_T60 x1 x5).f0)) || (!(((rd_T60 x0 x5).f1) == ((rd_T60 x1 x5).f1)) || (!((((rd_T60 x0 x5).f2).toList) == (((rd_T60 x1 x5).f2).toList))))) = true then (some false) else (interlockref00_SameRow.l0 k x0 x1 (wrap64 (x5 + 1)))) else (none)) else (none)) else (some true)
def interlockref00_SameRow.f (k : Nat) (l0 : List (S60)) (l1 : List (S60)) : Option (Bool) := if (l0.length : Int) = (l1.length : Int) then (interlockref00_SameRow.l0 k l0 l1 0) else (some false)
set_option maxHeartbeats 8000000 in
set_option maxRecDepth 100000 in
theorem interlockref00_SameRow.calls (k : Nat) (A0 : Option Addr) (c0 : Nat) (l0 : List (S60)) (A1 : Option Addr) (c1 : Nat) (l1 : List (S60)) (r : Bool) (w : World) (hr0 : Kd.C k60 w A0 l0.length l0) (hc0 : l0.length ≤ c0) (hr1 : Kd.C k60 w A1 l1.length l1) (hc1 : l1.length ≤ c1) (h : interlockref00_SameRow.f k l0 l1 = some r) :
    Calls Try.prog 18 #[.slice A0 l0.length c0, .slice A1 l1.length c1] w fun e w' => e = .returned (.bool r) ∧ Drawn0 w w' := by
  have hu60 := Try.underlying60
  have HR0 := Aside0.mk hr0
  have HC0 := Aside0.mk hc0
  clear hr0 hc0
  have HR1 := Aside0.mk hr1
  have HC1 := Aside0.mk hc1
  clear hr1 hc1
  have H : (if (l0.length : Int) = (l1.length : Int) then (interlockref00_SameRow.l0 k l0 l1 0) else (some false)) = some r := h
  clear h
  by_cases c3 : (l0.length : Int) = (l1.length : Int)
  · rw [if_pos c3] at H
    have c3b0 : ((l0.length : Int) == (l1.length : Int)) = true := beq_iff_eq.mpr c3
    have c3b1 : ((l0.length : Int) != (l1.length : Int)) = false := bne_eq_false_iff_eq.mpr c3
    have c3b2 : (l0.length == l1.length) = true := by first | simpa using c3 | (simp at c3 ⊢; omega)
    clear c3
    have H' := Aside0.mk H
    clear H
    go_enter Try.func18, Try.ntmps18
    go_wp2
    repeat (go_quiet (fail); try go_wp2)
    go_loopg [5] k (fun kq v5 w' => ∃ (x5_1 : Int), v5 = .int .i64 x5_1 ∧ Aside0 (interlockref00_SameRow.l0 kq l0 l1 x5_1 = some r) ∧ Aside0 (kq ≤ k) ∧ Drawn0 w w')
    case atStart => exact ⟨(0), (by first | rfl | (simp; done) | (simp [*]; done)), H', ⟨Nat.le_refl _⟩, by repeat (first | exact Drawn0.refl _ | apply Drawn0.step)⟩
    case round =>
      clear H'
      try clear c1
      try clear p2
      try clear c3
      try clear c3b0
      try clear c3b1
      try clear c3b2
      obtain ⟨x5_1, rfl, HA, HK1, ⟨m1, rfl⟩⟩ := hrel
      cases gk with
      | zero => exact absurd HA.out (by simp [interlockref00_SameRow.l0])
      | succ k1 =>
        have H := HA.out
        clear HA
        simp only [interlockref00_SameRow.l0] at H
        by_cases c4 : x5_1 < (l0.length : Int)
        · rw [if_pos c4] at H
          have c4b0 : decide (x5_1 < (l0.length : Int)) = true := decide_eq_true c4
          clear c4
          by_cases c5 : 0 ≤ x5_1
          · rw [if_pos c5] at H
            have c5b0 : decide (0 ≤ x5_1) = true := decide_eq_true c5
            clear c5
            by_cases c6 : x5_1 < (l1.length : Int)
            · rw [if_pos c6] at H
              have c6b0 : decide (x5_1 < (l1.length : Int)) = true := decide_eq_true c6
              clear c6
              by_cases c7 : (!(((rd_T60 l0 x5_1).f0) == ((rd_T60 l1 x5_1).f0)) || (!(((rd_T60 l0 x5_1).f1) == ((rd_T60 l1 x5_1).f1)) || (!((((rd_T60 l0 x5_1).f2).toList) == (((rd_T60 l1 x5_1).f2).toList))))) = true
              · rw [if_pos c7] at H
                have c7b0 : (!(((rd_T60 l0 x5_1).f0) == ((rd_T60 l1 x5_1).f0)) || (!(((rd_T60 l0 x5_1).f1) == ((rd_T60 l1 x5_1).f1)) || (!((((rd_T60 l0 x5_1).f2).toList) == (((rd_T60 l1 x5_1).f2).toList))))) = true := c7
                clear c7
                obtain rfl := Option.some.inj H
                have p220 : 0 ≤ (x5_1 : Int) := of_decide_eq_true (by first | (with_reducible assumption) | assumption)
                have q220 : x5_1 < (l0.length : Int) := of_decide_eq_true (by first | (with_reducible assumption) | assumption)
                obtain ⟨ad220, e220, hx220_0, hx220_1, hx220_2⟩ := at_T60 HR0.out x5_1 p220 q220
                cases e220
                replace p220 := eq_true p220
                replace q220 := eq_true q220
                have p221 : 0 ≤ (x5_1 : Int) := of_decide_eq_true (by first | (with_reducible assumption) | assumption)
                have q221 : x5_1 < (l1.length : Int) := of_decide_eq_true (by first | (with_reducible assumption) | assumption)
                obtain ⟨ad221, e221, hx221_0, hx221_1, hx221_2⟩ := at_T60 HR1.out x5_1 p221 q221
                cases e221
                replace p221 := eq_true p221
                replace q221 := eq_true q221
                go_wp2
                repeat (go_quiet (fail); try go_wp2)
                go_ret
                exact ⟨by first | rfl | (simp; done) | (simp [*]; done), by repeat (first | exact Drawn0.refl _ | apply Drawn0.step)⟩
              · rw [if_neg c7] at H
                have c7b0 : (!(((rd_T60 l0 x5_1).f0) == ((rd_T60 l1 x5_1).f0)) || (!(((rd_T60 l0 x5_1).f1) == ((rd_T60 l1 x5_1).f1)) || (!((((rd_T60 l0 x5_1).f2).toList) == (((rd_T60 l1 x5_1).f2).toList))))) = false := by simpa using c7
                clear c7
                have H' := Aside0.mk H
                clear H
                have p220 : 0 ≤ (x5_1 : Int) := of_decide_eq_true (by first | (with_reducible assumption) | assumption)
                have q220 : x5_1 < (l0.length : Int) := of_decide_eq_true (by first | (with_reducible assumption) | assumption)
                obtain ⟨ad220, e220, hx220_0, hx220_1, hx220_2⟩ := at_T60 HR0.out x5_1 p220 q220
                cases e220
                replace p220 := eq_true p220
                replace q220 := eq_true q220
                have p221 : 0 ≤ (x5_1 : Int) := of_decide_eq_true (by first | (with_reducible assumption) | assumption)
                have q221 : x5_1 < (l1.length : Int) := of_decide_eq_true (by first | (with_reducible assumption) | assumption)
                obtain ⟨ad221, e221, hx221_0, hx221_1, hx221_2⟩ := at_T60 HR1.out x5_1 p221 q221
                cases e221
                replace p221 := eq_true p221
                replace q221 := eq_true q221
                go_wp2
                repeat (go_quiet (fail); try go_wp2)
                go_roundg k1
                case measure => have := HK1.out; omega
                case rel => exact ⟨(wrap64 (x5_1 + 1)), (by first | rfl | (simp; done) | (simp [*]; done)), H', ⟨by have := HK1.out; omega⟩, by repeat (first | exact Drawn0.refl _ | apply Drawn0.step)⟩
            · rw [if_neg c6] at H
              exact absurd H (by simp)
          · rw [if_neg c5] at H
            exact absurd H (by simp)
        · rw [if_neg c4] at H
          have c4b0 : decide (x5_1 < (l0.length : Int)) = false := decide_eq_false c4
          clear c4
          obtain rfl := Option.some.inj H
          go_wp2
          repeat (go_quiet (fail); try go_wp2)
          go_ret
          exact ⟨by first | rfl | (simp; done) | (simp [*]; done), by repeat (first | exact Drawn0.refl _ | apply Drawn0.step)⟩
  · rw [if_neg c3] at H
    have c3b0 : ((l0.length : Int) == (l1.length : Int)) = false := beq_eq_false_iff_ne.mpr c3
    have c3b1 : ((l0.length : Int) != (l1.length : Int)) = true := bne_iff_ne.mpr c3
    have c3b2 : (l0.length == l1.length) = false := by first | simpa using c3 | (simp at c3 ⊢; omega)
    obtain rfl := Option.some.inj H
    go_enter Try.func18, Try.ntmps18
    go_wp2
    repeat (go_quiet (fail); try go_wp2)
    go_ret
    exact ⟨by first | rfl | (simp; done) | (simp [*]; done), by repeat (first | exact Drawn0.refl _ | apply Drawn0.step)⟩

-- NOT PRINTED: function 19 (job_Job_After)

end Go.Proofs.Ytplpdeanepdokaa.PJobSteps
