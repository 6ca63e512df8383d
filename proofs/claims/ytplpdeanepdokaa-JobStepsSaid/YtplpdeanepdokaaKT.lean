/- Merged texts: JSC, LJSteps. -/
import Derived.Test.YtplpdeanepdokaaKS
import Derived.Test.YtplpdeanepdokaaRows
import Derived.WalkKit
import Derived.ProofKit
import Derived.OpenShut
import Derived.ShutString
import Derived.ChangeOld
import Derived.Below
import Derived.SizedLaws
/- JobSteps: the walk. -/
namespace Go.Proofs.Ytplpdeanepdokaa
open Go.RowKit H Go.Proofs.Ytplpdeanepdokaa.PJobSteps
open Go.Proofs.YtplpdeanepdokaaW.PrintWords (Kd)

set_option maxRecDepth 100000 in
set_option maxHeartbeats 8000000 in
theorem steps_walk (w : World) (k : Int) (tab name dest : ByteArray) (n : Int) (fl : Bool) (A6 A7 A8 A9 A10 : Option Addr) (c6 c7 c8 c9 c10 : Nat) (D : Sd) (Ar : Option Addr) (cr : Nat) (rows : List S60) (b : Int) (hbm : b ≤ 9223372036854775807) (A : Option Addr) (c : Nat) (l : List Int) (rs : Bool)
    (h : ArgS w A6 A7 A8 A9 A10 c6 c7 c8 c9 c10 D) (hrr : Kd.C k60 w Ar rows.length rows) (hrc : rows.length ≤ cr) (hri : ∀ r ∈ rows, -9223372036854775808 ≤ r.f1 ∧ r.f1 ≤ 9223372036854775807)
    (hr : Kd.C (Kd.int .i64) w A l.length l) (hc : l.length ≤ c) (hi : ∀ a ∈ l, -9223372036854775808 ≤ a ∧ a ≤ 9223372036854775807) :
    Calls Try.prog 6 #[.agg #[.int .i64 k, .string tab, .string name, .string dest, .int .i64 n, .bool fl, .slice A6 D.a.length c6, .slice A7 D.b.length c7, .slice A8 D.c.length c8, .slice A9 D.d.length c9, .slice A10 D.e.length c10], .slice Ar rows.length cr, .int .i64 b, .slice A l.length c, .bool rs] w
      fun e w' => e = .returned (.bool true) ∧ LawDone w w' := by
  have HA := Lib.hid h
  have HI := Lib.hid (And.intro hr (And.intro hc hi))
  have HR := Lib.hid (And.intro hrr (And.intro hrc hri))
  clear h hr hc hi hrr hrc hri
  go_enter Try.func6, Try.ntmps6
  go_wp2_with fail
  refine (alive_any _).mono ?_
  rintro e w1 ⟨rfl, h1⟩
  have hf1 : Fr (fun _ => False) w w1 := ((Fr.refl _ w).alloc _).trans h1 (fun _ _ h => h)
  have hB := h1.blk (blk_new w (.cells #[.int .i64 k, .string tab, .string name, .string dest, .int .i64 n, .bool fl, .slice A6 D.a.length c6, .slice A7 D.b.length c7, .slice A8 D.c.length c8, .slice A9 D.d.length c9, .slice A10 D.e.length c10] 28)) id
  have b0 := blk_cell hB 0
  have b1 := blk_cell hB 1
  have b2 := blk_cell hB 2
  have b3 := blk_cell hB 3
  have b4 := blk_cell hB 4
  have b5 := blk_cell hB 5
  have b6 := blk_cell hB 6
  have b7 := blk_cell hB 7
  have b8 := blk_cell hB 8
  have b9 := blk_cell hB 9
  have b10 := blk_cell hB 10
  simp only [List.getElem?_toArray, List.getElem?_cons_succ, List.getElem?_cons_zero] at b0 b1 b2 b3 b4 b5 b6 b7 b8 b9 b10
  have HB := Lib.hid hB
  have HF1 := Lib.hid hf1
  have HA1 := Lib.hid (HA.out.fr hf1)
  have HI1 := Lib.hid (And.intro (Kd.C_below HI.out.1 (hf1.below (Nat.le_refl _) (fun _ _ => id))) HI.out.2)
  have HR1 := Lib.hid (And.intro (Kd.C_below HR.out.1 (hf1.below (Nat.le_refl _) (fun _ _ => id))) HR.out.2)
  clear h1 hf1 hB HA HI HR
  go_wp2_with fail
  obtain ⟨K, r, hgr, hsm⟩ := great22_any k tab name dest n fl D.a D.b D.c D.d D.e rows l
  refine (interlocklaw22_great.calls K k tab name dest n fl A6 c6 D.a A7 c7 D.b A8 c8 D.c A9 c9 D.d A10 c10 D.e Ar cr rows A c l r w1 HA1.out.r6 HA1.out.l6 HA1.out.r7 HA1.out.l7 HA1.out.r8 HA1.out.l8 HA1.out.r9 HA1.out.l9 HA1.out.r10 HA1.out.l10 HR1.out.1 HR1.out.2.1 HI1.out.1 HI1.out.2.1 hgr).mono ?_
  rintro e w2 ⟨rfl, hb2⟩
  have hf2 := Fr.of_below hb2
  have HF2 := Lib.hid (HF1.out.trans hf2 (fun _ _ h => h))
  have HA2 := Lib.hid (HA1.out.fr hf2)
  have HI2 := Lib.hid (And.intro (Kd.C_below HI1.out.1 hb2) HI1.out.2)
  have HR2 := Lib.hid (And.intro (Kd.C_below HR1.out.1 hb2) HR1.out.2)
  have HB2 := Lib.hid (hf2.blk HB.out id)
  have HD : Hid (LawDone w w2) := (HF1.out.trans hf2 (fun _ _ h => h)).below (Nat.le_refl _) (fun _ _ => id)
  have HSM := Lib.hid hsm
  clear hf2 hb2 hgr hsm HA1 HB HF1 HI1 HR1
  cases r with
  | true =>
    go_wp2_with fail
    go_ret
    exact ⟨rfl, HD.out⟩
  | false =>
    have HSM2 := Lib.hid (HSM.out rfl).1
    have HL := Lib.hid (HSM.out rfl).2
    have HM : Hid (D.a.length ≤ 1000 ∧ D.b.length ≤ 1000 ∧ D.c.length ≤ 1000 ∧ D.d.length ≤ 1000 ∧ D.e.length ≤ 1000) := ⟨by have := HSM2.out.l6; omega, by have := HSM2.out.l7; omega, by have := HSM2.out.l8; omega, by have := HSM2.out.l9; omega, by have := HSM2.out.l10; omega⟩
    have hB := HB2.out
    have b0 := blk_cell hB 0
    have b1 := blk_cell hB 1
    have b2 := blk_cell hB 2
    have b3 := blk_cell hB 3
    have b4 := blk_cell hB 4
    have b5 := blk_cell hB 5
    have b6 := blk_cell hB 6
    have b7 := blk_cell hB 7
    have b8 := blk_cell hB 8
    have b9 := blk_cell hB 9
    have b10 := blk_cell hB 10
    simp only [List.getElem?_toArray, List.getElem?_cons_succ, List.getElem?_cons_zero] at b0 b1 b2 b3 b4 b5 b6 b7 b8 b9 b10
    clear HSM hB HD
    go_wp2_with fail
    refine (interlockref00_CopyStmt.calls k tab name dest n fl A6 c6 D.a A7 c7 D.b A8 c8 D.c A9 c9 D.d A10 c10 D.e _ _ _ _ _ _ _ _ _ _ _ w2 HA2.out.r6 HA2.out.l6 HA2.out.r7 HA2.out.l7 HA2.out.r8 HA2.out.l8 HA2.out.r9 HA2.out.l9 HA2.out.r10 HA2.out.l10 (copyStmt_eq k tab name dest n fl D.a D.b D.c D.d D.e HM.out.1 HM.out.2.1 HM.out.2.2.1 HM.out.2.2.2.1 HM.out.2.2.2.2)).mono ?_
    rintro e w3 ⟨v6, v7, v8, v9, v10, rfl, q6, q7, q8, q9, q10, hb3⟩
    obtain ⟨O6, o6, rfl, m6, d6⟩ := Kd.R_reads q6
    obtain ⟨O7, o7, rfl, m7, d7⟩ := Kd.R_reads q7
    obtain ⟨O8, o8, rfl, m8, d8⟩ := Kd.R_reads q8
    obtain ⟨O9, o9, rfl, m9, d9⟩ := Kd.R_reads q9
    obtain ⟨O10, o10, rfl, m10, d10⟩ := Kd.R_reads q10
    have hO : ArgK w3 O6 O7 O8 O9 O10 o6 o7 o8 o9 o10 D := ⟨d6, d7, d8, d9, d10, m6, m7, m8, m9, m10⟩
    have hOR : SxRd w3 ⟨k, tab, name, dest, n, fl, .slice O6 D.a.length o6, .slice O7 D.b.length o7, .slice O8 D.c.length o8, .slice O9 D.d.length o9, .slice O10 D.e.length o10⟩ D :=
      ⟨(Row.of_own (rows_own (f := rc) q6 (fun h => k60_openM h))).rd, (Row.of_own (rows_own (f := setc) q7 (fun h => k62_openM h))).rd, (Row.of_own (rows_own (f := condc) q8 (fun h => k64_openM h))).rd, (Row.of_own (rows_own (f := colc) q9 (fun h => k66_openM h))).rd, (Row.of_own (rows_own (f := strc) q10 (fun h => h))).rd⟩
    have hf3 := Fr.of_below hb3
    have HO := Lib.hid (And.intro hO hOR)
    have HF3 := Lib.hid hf3
    clear q6 q7 q8 q9 q10 m6 m7 m8 m9 m10 d6 d7 d8 d9 d10 hO hOR hf3 hb3 b0 b1 b2 b3 b4 b5 b6 b7 b8 b9 b10
    go_upto_region 6 with fail
    obtain ⟨w4, hw4⟩ : ∃ w4, w4 = w3.alloc (.cells #[.int .i64 k, .string tab, .string name, .string dest, .int .i64 n, .bool fl, .slice O6 D.a.length o6, .slice O7 D.b.length o7, .slice O8 D.c.length o8, .slice O9 D.d.length o9, .slice O10 D.e.length o10] 28) := ⟨_, rfl⟩
    rw [← hw4]
    have f34 : Fr (fun _ => False) w3 w4 := by rw [hw4]; exact (Fr.refl _ w3).alloc _
    have hob : w4.heap[w3.heap.size]? = some (.cells #[.int .i64 k, .string tab, .string name, .string dest, .int .i64 n, .bool fl, .slice O6 D.a.length o6, .slice O7 D.b.length o7, .slice O8 D.c.length o8, .slice O9 D.d.length o9, .slice O10 D.e.length o10] 28 (0, 0)) := by rw [hw4]; exact blk_new w3 _
    have f24 : Fr (fun _ => False) w2 w4 := HF3.out.trans f34 (fun _ _ h => h)
    have HK4 := Lib.hid (And.intro hob (And.intro f24 f34))
    have hR4 : Kd.C k60 w4 Ar rows.length rows := Kd.C_below HR2.out.1 (f24.below (Nat.le_refl _) (fun _ _ => id))
    clear hw4 hob f24 f34
    go_wp2_with fail
    refine (interlockref00_CopyRow.calls Ar cr rows rows w4 hR4 HR2.out.2.1 (copyRow_eq rows (by have := HL.out.1; omega))).mono ?_
    rintro e w5 ⟨vr, rfl, hr5, hb5⟩
    obtain ⟨Rr, rr, rfl, mr, dr⟩ := Kd.R_reads hr5
    have f45 := Fr.of_below hb5
    have hro := (Row.of_own (vals_own hr5))
    have f25 : Fr (fun _ => False) w2 w5 := HK4.out.2.1.trans f45 (fun _ _ h => h)
    have f35 : Fr (fun _ => False) w3 w5 := HK4.out.2.2.trans f45 (fun _ _ h => h)
    have HO5 := Lib.hid (And.intro (HO.out.1.fr f35) (HO.out.2.fr f35 (fun _ _ => id)))
    have HB5 := Lib.hid (And.intro (f25.blk HB2.out id) (f45.blk HK4.out.1 id))
    have HF5 := Lib.hid (And.intro (HF2.out.trans f25 (fun _ _ h => h)) f25)
    have HA5 := Lib.hid (HA2.out.fr f25)
    have HI5 := Lib.hid (And.intro (Kd.C_below HI2.out.1 (f25.below (Nat.le_refl _) (fun _ _ => id))) HI2.out.2)
    have HR5 := Lib.hid (And.intro (Kd.C_below HR2.out.1 (f25.below (Nat.le_refl _) (fun _ _ => id))) HR2.out.2)
    have HW5 := Lib.hid (And.intro hro (And.intro dr mr))
    clear hR4 hr5 hb5 mr dr f45 hro f25 f35 HK4 HO HB2 HF2 HA2 HI2 HR2 HF3
    have hB := HB5.out.2
    have b0 := blk_cell hB 0
    have b1 := blk_cell hB 1
    have b2 := blk_cell hB 2
    have b3 := blk_cell hB 3
    have b4 := blk_cell hB 4
    have b5 := blk_cell hB 5
    have b6 := blk_cell hB 6
    have b7 := blk_cell hB 7
    have b8 := blk_cell hB 8
    have b9 := blk_cell hB 9
    have b10 := blk_cell hB 10
    simp only [List.getElem?_toArray, List.getElem?_cons_succ, List.getElem?_cons_zero] at b0 b1 b2 b3 b4 b5 b6 b7 b8 b9 b10
    clear hB
    go_wp2_with fail
    have hfew : D.Few := ⟨HM.out.1, HM.out.2.1, HM.out.2.2.1, HM.out.2.2.2.1, HM.out.2.2.2.2⟩
    refine (new_any w5 k tab name dest n fl O6 O7 O8 O9 O10 o6 o7 o8 o9 o10 D b HO5.out.2 hfew).mono ?_
    rintro e w6 ⟨g, xa, xb, xc, xd, xe, va, rfl, hg, hso, hj, hf6⟩
    have HJ6 := Lib.hid (And.intro hg (And.intro hso (And.intro hj hf6)))
    have HFE := Lib.hid hfew
    have hB := hf6.blk HB5.out.1 id
    clear b0 b1 b2 b3 b4 b5 b6 b7 b8 b9 b10 hg hso hj hf6 hfew
    have b0 := blk_cell hB 0
    have b1 := blk_cell hB 1
    have b2 := blk_cell hB 2
    have b3 := blk_cell hB 3
    have b4 := blk_cell hB 4
    have b5 := blk_cell hB 5
    have b6 := blk_cell hB 6
    have b7 := blk_cell hB 7
    have b8 := blk_cell hB 8
    have b9 := blk_cell hB 9
    have b10 := blk_cell hB 10
    simp only [List.getElem?_toArray, List.getElem?_cons_succ, List.getElem?_cons_zero] at b0 b1 b2 b3 b4 b5 b6 b7 b8 b9 b10
    clear hB
    go_upto_region 9 with fail
    obtain ⟨mb, hmb⟩ : ∃ mb, mb = (if b < 1 then 1 else b) := ⟨_, rfl⟩
    have HMB : Hid (mb = max1 b) := hmb
    rw [← hmb]
    clear hmb
    obtain ⟨w7, hw7⟩ : ∃ w7, w7 = w6.alloc (.cells #[.int .i64 k, .string tab, .string name, .string dest, .int .i64 n, .bool fl, .slice A6 D.a.length c6, .slice A7 D.b.length c7, .slice A8 D.c.length c8, .slice A9 D.d.length c9, .slice A10 D.e.length c10, .int .i64 1, .slice none 0 0, .int .i64 mb, .int .i64 0] 50) := ⟨_, rfl⟩
    rw [← hw7]
    have hT0 := TailF.fresh (y := ⟨k, tab, name, dest, n, fl, .slice A6 D.a.length c6, .slice A7 D.b.length c7, .slice A8 D.c.length c8, .slice A9 D.d.length c9, .slice A10 D.e.length c10⟩) (mb := mb) HJ6.out.1 HJ6.out.2.1 (by have := HJ6.out.2.2.1; rw [← HMB.out] at this; exact this) HJ6.out.2.2.2 hw7
    have HT := Lib.hid hT0
    clear hT0 hw7 b0 b1 b2 b3 b4 b5 b6 b7 b8 b9 b10
    obtain ⟨G, hG⟩ : ∃ G, G = w6.heap.size := ⟨_, rfl⟩
    rw [← hG] at HT ⊢
    clear hG HJ6
    cases rs with
    | false =>
      go_upto_region 13 with fail
      obtain ⟨Xa, qa, hXa⟩ := own_slice (HT.out.own.choose_spec).a
      simp only at hXa
      subst hXa
      obtain ⟨Xb, qb, hXb⟩ := own_slice (HT.out.own.choose_spec).b
      simp only at hXb
      subst hXb
      obtain ⟨Xc, qc, hXc⟩ := own_slice (HT.out.own.choose_spec).c
      simp only at hXc
      subst hXc
      obtain ⟨Xd, qd, hXd⟩ := own_slice (HT.out.own.choose_spec).d
      simp only at hXd
      subst hXd
      obtain ⟨Xe, qe, hXe⟩ := own_slice (HT.out.own.choose_spec).e
      simp only at hXe
      subst hXe
      go_upto_region 15 with fail
      have hin := Kd.C_below HI5.out.1 (HT.out.fc.below (Nat.le_refl _) (fun _ _ => id))
      go_wp2_with fail
      refine (interlockref00_CopyInts.calls A c l l w7 hin HI5.out.2.1 (by have := HL.out.2; rw [interlockref00_CopyInts.f]; simp; omega)).mono ?_
      rintro e m1 ⟨u1, rfl, hR1, hbm1⟩
      have hown1 := Row.of_own (ints_own hR1)
      obtain ⟨U1, k1, hv, _⟩ := hown1.slice
      subst hv
      have HM1 := Lib.hid (And.intro hown1 (And.intro (Fr.of_below hbm1) hin))
      clear hR1 hbm1 hown1 hin
      obtain ⟨m1', hm1'⟩ : ∃ m1', m1' = m1.alloc (.cells #[.slice U1 l.length k1, .slice none 0 0, .int .i64 0] 36) := ⟨_, rfl⟩
      have HM1' := Lib.hid hm1'
      have hin2 := Kd.C_below (Kd.C_below HM1.out.2.2 (HM1.out.2.1.below (Nat.le_refl _) (fun _ _ => id))) (((Fr.refl (fun _ => False) m1).alloc (.cells #[.slice U1 l.length k1, .slice none 0 0, .int .i64 0] 36)).below (Nat.le_refl _) (fun _ _ => id))
      rw [← hm1'] at hin2
      clear hm1'
      go_upto_region 16 with fail
      rw [← HM1'.out]
      go_wp2_with fail
      refine (interlockref00_CopyInts.calls A c l l m1' hin2 HI5.out.2.1 (by have := HL.out.2; rw [interlockref00_CopyInts.f]; simp; omega)).mono ?_
      rintro e m2 ⟨u2, rfl, hR2, hbm2⟩
      have hown2 := Row.of_own (ints_own hR2)
      obtain ⟨U2, k2, hv, _⟩ := hown2.slice
      subst hv
      go_upto_region 17 with fail
      obtain ⟨m3, hm3⟩ : ∃ m3, m3 = m2.alloc (.cells #[.slice U2 l.length k2, .slice none 0 0, .int .i64 0] 36) := ⟨_, rfl⟩
      rw [← hm3]
      have hST := TailF.start HT.out HM1.out.2.1 HM1.out.1 (by rw [← HM1'.out]; exact Fr.of_below hbm2) hown2 hm3
      have HLB := Lib.hid hST.1
      have HLV := Lib.hid hST.2
      have HON : Hid (OnA 0 ⟨1, [], mb, 0, l, [], 0⟩) := ⟨by simp, by simp, by simp, HL.out.2, HI5.out.2.2, rfl, fun _ => by rw [HMB.out]; simp only [max1]; split <;> omega, by rw [HMB.out]; simp only [max1]; split <;> omega⟩
      clear hST hm3 hR2 hbm2 hown2 hin2 HM1 HM1'
      obtain ⟨p, hp⟩ : ∃ p, p = m1.heap.size := ⟨_, rfl⟩
      obtain ⟨P, hP⟩ : ∃ P, P = m2.heap.size := ⟨_, rfl⟩
      rw [← hp, ← hP] at HLB HLV
      rw [← hp, ← hP]
      clear hp hP
      have hl200 := HL.out.2
      have hs1 : name.size ≤ 1000 := by have := HSM2.out.a2; omega
      have hs2 : tab.size ≤ 1000 := by have := HSM2.out.a1; omega
      go_wp2_with fail
      go_loopw [17] (fun vi wr => ∃ (q : Nat) (s : JA) (v V : Value), q ≤ l.length + 6 ∧ vi = .int .i64 q ∧ LV w5 w7 wr g p G P ⟨k, tab, name, dest, n, fl, .slice Xa D.a.length qa, .slice Xb D.b.length qb, .slice Xc D.c.length qc, .slice Xd D.d.length qd, .slice Xe D.e.length qe⟩ ⟨k, tab, name, dest, n, fl, .slice A6 D.a.length c6, .slice A7 D.b.length c7, .slice A8 D.c.length c8, .slice A9 D.d.length c9, .slice A10 D.e.length c10⟩ s s v V ∧ OnA (3 * q) s) (fun vi _ => l.length + 6 - (intOf vi).toNat)
      case atStart => exact ⟨0, _, _, _, by omega, rfl, HLV.out, HON.out⟩
      case round =>
        obtain ⟨q, s, v, V, hq, rfl, hL, ha⟩ := hrel
        by_cases hlt : q < l.length + 6
        · have hok := ha.ok ⟨k, tab, name, dest, n, fl, .slice Xa D.a.length qa, .slice Xb D.b.length qb, .slice Xc D.c.length qc, .slice Xd D.d.length qd, .slice Xe D.e.length qe⟩ hs1 hs2 (by omega)
          have hok2 := ha.ok ⟨k, tab, name, dest, n, fl, .slice A6 D.a.length c6, .slice A7 D.b.length c7, .slice A8 D.c.length c8, .slice A9 D.d.length c9, .slice A10 D.e.length c10⟩ hs1 hs2 (by omega)
          obtain ⟨s', hs'⟩ : ∃ s', s' = stepA tab name s := ⟨_, rfl⟩
          obtain ⟨er, her⟩ : ∃ er, er = (if s'.phase < 5 then 0 else s'.err) := ⟨_, rfl⟩
          obtain ⟨kn, hkn⟩ : ∃ kn, kn = decide (5 ≤ s'.phase) := ⟨_, rfl⟩
          have hon := (step_on tab name ha).1
          rw [← hs'] at hon
          have HS := Lib.hid (And.intro hL (And.intro hok (And.intro hok2 (And.intro hs' (And.intro her (And.intro hkn hon))))))
          clear hL ha hok hok2 hs' her hkn hon
          go_wp2_with fail
          refine (step_any wr g p _ s v HS.out.1.job HS.out.2.1).mono ?_
          rintro e y1 h3
          have h3' : StepPost wr g p v ⟨k, tab, name, dest, n, fl, .slice Xa D.a.length qa, .slice Xb D.b.length qb, .slice Xc D.c.length qc, .slice Xd D.d.length qd, .slice Xe D.e.length qe⟩ s' e y1 := by rw [HS.out.2.2.2.1]; exact h3
          obtain ⟨rfl, h4⟩ := post_short h3' HS.out.2.2.2.2.1 HS.out.2.2.2.2.2.1
          obtain ⟨v', hL1⟩ := LV.jobStep HLB.out HS.out.1 h4
          have HS1 := Lib.hid hL1
          clear h3 h3' h4 hL1
          go_wp2_with fail
          refine (Rf.step_any y1 G P _ s V HS1.out.ref HS.out.2.2.1).mono ?_
          rintro e y2 h5
          have h5' : Rf.StepPost y1 G P V ⟨k, tab, name, dest, n, fl, .slice A6 D.a.length c6, .slice A7 D.b.length c7, .slice A8 D.c.length c8, .slice A9 D.d.length c9, .slice A10 D.e.length c10⟩ s' e y2 := by rw [HS.out.2.2.2.1]; exact h5
          obtain ⟨rfl, h6⟩ := Rf.post_short h5' HS.out.2.2.2.2.1 HS.out.2.2.2.2.2.1
          obtain ⟨V', hL2⟩ := LV.refStep HLB.out HS1.out h6
          have HS2 := Lib.hid (LV.made hL2 (Fr.refl (fun _ => False) y2).drew)
          have HQ := Lib.hid HS.out.2.2.2.2.2.2
          clear h5 h5' h6 HS HS1
          obtain ⟨⟨jv, hj⟩, ⟨t1, hT1⟩⟩ := hL2.job
          obtain ⟨⟨gv, hg2⟩, ⟨t2, hT2⟩⟩ := hL2.ref
          obtain ⟨Z1, z1, rfl, hz1, hk1⟩ := texts_kd (own_weaken (base' := 0) hT1.own (Nat.zero_le _)) hT1.few
          obtain ⟨Z2, z2, rfl, hz2, hk2⟩ := texts_kd (own_weaken (base' := 0) hT2.own (Nat.zero_le _)) hT2.few
          obtain ⟨Z3, z3, rfl, hz3⟩ := hg2.after.slice
          have x1 := blk_cell hg2.blk 11
          have x2 := blk_cell hg2.blk 12
          have x3 := blk_cell hT1.blk 1
          have x4 := blk_cell hT1.blk 2
          have x5 := blk_cell hT2.blk 1
          simp only [List.getElem?_toArray, List.getElem?_cons_succ, List.getElem?_cons_zero] at x1 x2 x3 x4 x5
          rw [HQ.out.held] at x4
          have HK := Lib.hid (And.intro hk1 (And.intro hk2 (And.intro hg2.after (And.intro hg2.few (And.intro hT1.few hj)))))
          clear hj hT1 hg2 hT2 hk1 hk2 hL2
          go_upto_region 22 with fail
          have hjd : JobR y2.drew g ⟨k, tab, name, dest, n, fl, .slice Xa D.a.length qa, .slice Xb D.b.length qb, .slice Xc D.c.length qc, .slice Xd D.d.length qd, .slice Xe D.e.length qe⟩ s'.phase jv s'.rows s'.tries s'.err := by
            have hj := HK.out.2.2.2.2.2
            exact ⟨hj.blk, hj.after.fr (Fr.refl (fun _ => False) y2).drew (fun _ _ _ _ => id), hj.few, hj.ints⟩
          have HJD := Lib.hid hjd
          clear hjd
          go_region_held3 (fun w' => w'.cell? ⟨G, 11, none⟩ = some (.int .i64 s'.phase) ∧ w'.cell? ⟨G, 12, none⟩ = some (.slice Z3 s'.rows.length z3) ∧ w'.cell? ⟨p, 1, none⟩ = some (.slice Z1 s'.xs.length z1) ∧ w'.cell? ⟨p, 2, none⟩ = some (.int .i64 0) ∧ w'.cell? ⟨P, 1, none⟩ = some (.slice Z2 s'.xs.length z2))
            (first | exact ⟨x1, x2, x3, x4, x5⟩ | exact ⟨x1a, x2a, x3a, x4a, x5a⟩ | exact ⟨x1b, x2b, x3b, x4b, x5b⟩ | exact ⟨x1c, x2c, x3c, x4c, x5c⟩)
            (first
            | (go_at_call 11; refine (phase_any _ g _ s'.phase jv _ _ _ HJD.out).mono ?_; rintro e ya ⟨rfl, rfl⟩)
            | (go_at_call 19; refine (after_any _ g _ s'.phase jv _ _ _ HJD.out).mono ?_; rintro e ya ⟨A1, a1, rfl, ha1, hra, fa⟩; have HFA := Lib.hid (And.intro fa (And.intro hra ha1)); have x1a := fa.cell x1 id; have x2a := fa.cell x2 id; have x3a := fa.cell x3 id; have x4a := fa.cell x4 id; have x5a := fa.cell x5 id; clear fa hra ha1)
            | (go_at_call 18; refine (same_rows _ A1 Z3 a1 z3 s'.rows HFA.out.2.1 HFA.out.2.2 (HK.out.2.2.1.fr ((Fr.refl (fun _ => False) y2).drew.trans HFA.out.1 (fun _ _ h => h)) (fun _ _ _ _ => id)) hz3 HK.out.2.2.2.1).mono ?_; rintro e yb ⟨rfl, fb⟩; have HFB := Lib.hid fb; have x1b := fb.cell x1a id; have x2b := fb.cell x2a id; have x3b := fb.cell x3a id; have x4b := fb.cell x4a id; have x5b := fb.cell x5a id; clear fb)
            | (go_at_call 20; have fyb := (((Fr.refl (fun _ => False) y2).drew.trans HFA.out.1 (fun _ _ h => h)).trans HFB.out (fun _ _ h => h)).below (Nat.le_refl _) (fun _ _ => id); refine (same_texts _ Z1 Z2 z1 z2 s'.xs (Kd.C_below HK.out.1 fyb) hz1 (Kd.C_below HK.out.2.1 fyb) hz2 HK.out.2.2.2.2.1).mono ?_; rintro e yc ⟨rfl, fc⟩; have HFC := Lib.hid fc; have x1c := fc.cell x1b id; have x2c := fc.cell x2b id; have x3c := fc.cell x3b id; have x4c := fc.cell x4b id; have x5c := fc.cell x5b id; clear fc fyb))
          all_goals
            clear x1 x2 x3 x4 x5 x1a x2a x3a x4a x5a x1b x2b x3b x4b x5b x1c x2c x3c x4c x5c
            have HEND := Lib.hid (LV.made HS2.out ((HFA.out.1.trans HFB.out (fun _ _ h => h)).trans HFC.out (fun _ _ h => h)))
            clear HK HJD
            go_wp2_with fail
            go_roundw
            case rel => exact ⟨q + 1, s', _, _, by omega, by go_num, HEND.out, HQ.out⟩
            case measure => simp [intOf]; omega
        · have hqe : q = l.length + 6 := by omega
          subst hqe
          obtain ⟨⟨jv, hj⟩, _⟩ := hL.job
          have fd : Fr (fun _ => False) wr wr.drew := (Fr.refl (fun _ => False) wr).drew
          have HJD : Hid (JobR wr.drew g ⟨k, tab, name, dest, n, fl, .slice Xa D.a.length qa, .slice Xb D.b.length qb, .slice Xc D.c.length qc, .slice Xd D.d.length qd, .slice Xe D.e.length qe⟩ s.phase jv s.rows s.tries s.err) := ⟨hj.blk, hj.after.fr fd (fun _ _ _ _ => id), hj.few, hj.ints⟩
          have HSR : Hid (SxRd wr.drew ⟨k, tab, name, dest, n, fl, .slice Xa D.a.length qa, .slice Xb D.b.length qb, .slice Xc D.c.length qc, .slice Xd D.d.length qd, .slice Xe D.e.length qe⟩ D) := HT.out.rd (hL.f3.drew)
          have HFC := Lib.hid (hL.fc.trans fd (fun _ _ h => h))
          have HBd := Lib.hid (And.intro (hL.fc.blk HB5.out.1 id) (hL.fc.blk HB5.out.2 id))
          clear hL ha hj fd hlt hq
          go_upto_region 24 with fail
          go_region_held3 (fun w' => w'.cell? ⟨w.heap.size, 0, none⟩ = some (.int .i64 k) ∧ w'.cell? ⟨w.heap.size, 1, none⟩ = some (.string tab) ∧ w'.cell? ⟨w.heap.size, 2, none⟩ = some (.string name) ∧ w'.cell? ⟨w.heap.size, 3, none⟩ = some (.string dest) ∧ w'.cell? ⟨w.heap.size, 4, none⟩ = some (.int .i64 n) ∧ w'.cell? ⟨w.heap.size, 5, none⟩ = some (.bool fl) ∧ w'.cell? ⟨w.heap.size, 6, none⟩ = some (.slice A6 D.a.length c6) ∧ w'.cell? ⟨w.heap.size, 7, none⟩ = some (.slice A7 D.b.length c7) ∧ w'.cell? ⟨w.heap.size, 8, none⟩ = some (.slice A8 D.c.length c8) ∧ w'.cell? ⟨w.heap.size, 9, none⟩ = some (.slice A9 D.d.length c9) ∧ w'.cell? ⟨w.heap.size, 10, none⟩ = some (.slice A10 D.e.length c10) ∧ w'.cell? ⟨w3.heap.size, 0, none⟩ = some (.int .i64 k) ∧ w'.cell? ⟨w3.heap.size, 1, none⟩ = some (.string tab) ∧ w'.cell? ⟨w3.heap.size, 2, none⟩ = some (.string name) ∧ w'.cell? ⟨w3.heap.size, 3, none⟩ = some (.string dest) ∧ w'.cell? ⟨w3.heap.size, 4, none⟩ = some (.int .i64 n) ∧ w'.cell? ⟨w3.heap.size, 5, none⟩ = some (.bool fl) ∧ w'.cell? ⟨w3.heap.size, 6, none⟩ = some (.slice O6 D.a.length o6) ∧ w'.cell? ⟨w3.heap.size, 7, none⟩ = some (.slice O7 D.b.length o7) ∧ w'.cell? ⟨w3.heap.size, 8, none⟩ = some (.slice O8 D.c.length o8) ∧ w'.cell? ⟨w3.heap.size, 9, none⟩ = some (.slice O9 D.d.length o9) ∧ w'.cell? ⟨w3.heap.size, 10, none⟩ = some (.slice O10 D.e.length o10))
            (first | exact cells22 HBd.out.1 HBd.out.2 | exact cells22 HBa.out.1 HBa.out.2 | exact cells22 HBb.out.1 HBb.out.2 | exact cells22 HBc.out.1 HBc.out.2 | exact cells22 HBe.out.1 HBe.out.2)
            (first
            | (go_at_call 22; refine (stmt_any _ g k tab name dest n fl Xa Xb Xc Xd Xe qa qb qc qd qe D s.phase jv s.rows s.tries s.err HJD.out HSR.out HFE.out).mono ?_; rintro e ya ⟨Y1, y1, Y2, y2, Y3, y3, Y4, y4, Y5, y5, rfl, hka, fa⟩; have HFA := Lib.hid (HFC.out.trans fa (fun _ _ h => h)); have HKA := Lib.hid hka; have HBa := Lib.hid (And.intro (fa.blk HBd.out.1 id) (fa.blk HBd.out.2 id)); clear fa hka)
            | (go_at_call 21; have hq21 := HFB.out; clear hq21; refine (same_stmts _ k tab name dest n fl O6 O7 O8 O9 O10 A6 A7 A8 A9 A10 o6 o7 o8 o9 o10 c6 c7 c8 c9 c10 D (HO5.out.1.fr HFB.out) (HA5.out.k.fr HFB.out) HFE.out).mono ?_; rintro e yc ⟨rfl, fc⟩; have HFD := Lib.hid (HFB.out.trans fc (fun _ _ h => h)); have HBc := Lib.hid (And.intro (fc.blk HBb.out.1 id) (fc.blk HBb.out.2 id)); clear fc)
            | (go_at_call 21; refine (same_stmts _ k tab name dest n fl Y1 Y2 Y3 Y4 Y5 A6 A7 A8 A9 A10 y1 y2 y3 y4 y5 c6 c7 c8 c9 c10 D HKA.out (HA5.out.k.fr HFA.out) HFE.out).mono ?_; rintro e yb ⟨rfl, fb⟩; have HFB := Lib.hid (HFA.out.trans fb (fun _ _ h => h)); have HBb := Lib.hid (And.intro (fb.blk HBa.out.1 id) (fb.blk HBa.out.2 id)); clear fb)
            | (go_at_call 18; refine (same_rowsK _ Rr Ar rr cr rows (Kd.C_below HW5.out.2.1 (HFD.out.below (Nat.le_refl _) (fun _ _ => id))) HW5.out.2.2 (Kd.C_below HR5.out.1 (HFD.out.below (Nat.le_refl _) (fun _ _ => id))) HR5.out.2.1 (by have := HL.out.1; omega)).mono ?_; rintro e ye ⟨rfl, fe⟩; have HFF := Lib.hid (HFD.out.trans fe (fun _ _ h => h)); have HBe := Lib.hid (And.intro (fe.blk HBc.out.1 id) (fe.blk HBc.out.2 id)); clear fe))
          all_goals
            have HW : Hid (LawDone w ye) := (HF5.out.1.trans HFF.out (fun _ _ h => h)).below (Nat.le_refl _) (fun _ _ => id)
            clear HFA HFB HFD HFF HBa HBb HBc HBe HBd HKA HJD HSR HFC
            go_wp2_with fail
            go_ret
            exact ⟨rfl, HW.out⟩
    | true =>
      have hB := HT.out.fc.blk HB5.out.2 id
      have b0 := blk_cell hB 0
      have b1 := blk_cell hB 1
      have b2 := blk_cell hB 2
      have b3 := blk_cell hB 3
      have b4 := blk_cell hB 4
      have b5 := blk_cell hB 5
      have b6 := blk_cell hB 6
      have b7 := blk_cell hB 7
      have b8 := blk_cell hB 8
      have b9 := blk_cell hB 9
      have b10 := blk_cell hB 10
      simp only [List.getElem?_toArray, List.getElem?_cons_succ, List.getElem?_cons_zero] at b0 b1 b2 b3 b4 b5 b6 b7 b8 b9 b10
      clear hB
      go_wp2_with fail
      refine (resume_any w7 k tab name dest n fl O6 O7 O8 O9 O10 Rr o6 o7 o8 o9 o10 rr D rows b (HO5.out.2.fr HT.out.fc (fun _ _ => id)) HFE.out ((HW5.out.1.fr HT.out.fc (fun _ _ _ _ => id)).rd) (by have := HL.out.1; omega) HR5.out.2.2).mono ?_
      rintro e w8 ⟨g1, za, zb, zc, zd, ze, va1, rfl, hg1, hso1, hj1, hf8⟩
      have HJ8 := Lib.hid (And.intro hg1 (And.intro hso1 (And.intro hj1 hf8)))
      have fG := (blk_frozen (hf8.blk HT.out.gr.choose_spec id)) 11
      have cG := blk_cell (hf8.blk HT.out.ref.choose_spec.blk id) 11
      simp only [List.getElem?_toArray, List.getElem?_cons_succ, List.getElem?_cons_zero] at cG
      clear b0 b1 b2 b3 b4 b5 b6 b7 b8 b9 b10 hg1 hso1 hj1 hf8
      go_upto_region 12 with fail
      have f58 : Fr (fun _ => False) w5 (w8.setCell ⟨G, 11, none⟩ (.int .i64 3)) := (HT.out.fc.trans HJ8.out.2.2.2 (fun _ _ h => h)).setCell (p := ⟨G, 11, none⟩) (fun hlt => by have := HT.out.G0; have h2 : G < w5.heap.size := hlt; omega) _
      have HF58 := Lib.hid f58
      clear f58 cG fG
      go_wp2_with fail
      refine (interlockref00_CopyRow.calls Ar cr rows rows _ (Kd.C_below HR5.out.1 (HF58.out.below (Nat.le_refl _) (fun _ _ => id))) HR5.out.2.1 (copyRow_eq rows (by have := HL.out.1; omega))).mono ?_
      rintro e w9 ⟨vq, rfl, hr9, hb9⟩
      have hro9 := Row.of_own (vals_own hr9)
      obtain ⟨Rq, rq, rfl, mq, _⟩ := Kd.R_reads hr9
      have hG9 := (Fr.of_below hb9).blk (blk_set (HJ8.out.2.2.2.blk HT.out.gr.choose_spec id) 11 (.int .i64 3)) id
      have fG := blk_frozen hG9 12
      obtain ⟨ra0, cG⟩ : ∃ ra0, w9.cell? ⟨G, 12, none⟩ = some ra0 := ⟨_, resumed_cell HT.out.ref.choose_spec HJ8.out.2.2.2 (Fr.of_below hb9)⟩
      have hT2 := TailF.resumed HT.out HJ8.out.1 HJ8.out.2.1 (by have := HJ8.out.2.2.1; rw [← HMB.out] at this; exact this) HJ8.out.2.2.2 (Fr.of_below hb9) hro9
      have HT2 := Lib.hid hT2
      clear hT2 hG9 hb9 hro9 hr9
      go_upto_region 13 with fail
      obtain ⟨wn, hwn⟩ : ∃ wn, wn = w9.setCell ⟨G, 12, none⟩ (.slice Rq rows.length rq) := ⟨_, rfl⟩
      rw [← hwn] at HT2 ⊢
      clear hwn HT HJ8 HF58 mq fG cG
      obtain ⟨Xa, qa, hXa⟩ := own_slice (HT2.out.own.choose_spec).a
      simp only at hXa
      subst hXa
      obtain ⟨Xb, qb, hXb⟩ := own_slice (HT2.out.own.choose_spec).b
      simp only at hXb
      subst hXb
      obtain ⟨Xc, qc, hXc⟩ := own_slice (HT2.out.own.choose_spec).c
      simp only at hXc
      subst hXc
      obtain ⟨Xd, qd, hXd⟩ := own_slice (HT2.out.own.choose_spec).d
      simp only at hXd
      subst hXd
      obtain ⟨Xe, qe, hXe⟩ := own_slice (HT2.out.own.choose_spec).e
      simp only at hXe
      subst hXe
      go_upto_region 15 with fail
      have hin := Kd.C_below HI5.out.1 (HT2.out.fc.below (Nat.le_refl _) (fun _ _ => id))
      go_wp2_with fail
      refine (interlockref00_CopyInts.calls A c l l wn hin HI5.out.2.1 (by have := HL.out.2; rw [interlockref00_CopyInts.f]; simp; omega)).mono ?_
      rintro e m1 ⟨u1, rfl, hR1, hbm1⟩
      have hown1 := Row.of_own (ints_own hR1)
      obtain ⟨U1, k1, hv, _⟩ := hown1.slice
      subst hv
      have HM1 := Lib.hid (And.intro hown1 (And.intro (Fr.of_below hbm1) hin))
      clear hR1 hbm1 hown1 hin
      obtain ⟨m1', hm1'⟩ : ∃ m1', m1' = m1.alloc (.cells #[.slice U1 l.length k1, .slice none 0 0, .int .i64 0] 36) := ⟨_, rfl⟩
      have HM1' := Lib.hid hm1'
      have hin2 := Kd.C_below (Kd.C_below HM1.out.2.2 (HM1.out.2.1.below (Nat.le_refl _) (fun _ _ => id))) (((Fr.refl (fun _ => False) m1).alloc (.cells #[.slice U1 l.length k1, .slice none 0 0, .int .i64 0] 36)).below (Nat.le_refl _) (fun _ _ => id))
      rw [← hm1'] at hin2
      clear hm1'
      go_upto_region 16 with fail
      rw [← HM1'.out]
      go_wp2_with fail
      refine (interlockref00_CopyInts.calls A c l l m1' hin2 HI5.out.2.1 (by have := HL.out.2; rw [interlockref00_CopyInts.f]; simp; omega)).mono ?_
      rintro e m2 ⟨u2, rfl, hR2, hbm2⟩
      have hown2 := Row.of_own (ints_own hR2)
      obtain ⟨U2, k2, hv, _⟩ := hown2.slice
      subst hv
      go_upto_region 17 with fail
      obtain ⟨m3, hm3⟩ : ∃ m3, m3 = m2.alloc (.cells #[.slice U2 l.length k2, .slice none 0 0, .int .i64 0] 36) := ⟨_, rfl⟩
      rw [← hm3]
      have hST := TailF.start HT2.out HM1.out.2.1 HM1.out.1 (by rw [← HM1'.out]; exact Fr.of_below hbm2) hown2 hm3
      have HLB := Lib.hid hST.1
      have HLV := Lib.hid hST.2
      have HON : Hid (OnA 0 ⟨3, rows, mb, 0, l, [], 0⟩) := ⟨by simp, by simp, by simp, HL.out.2, HI5.out.2.2, rfl, fun _ => by rw [HMB.out]; simp only [max1]; split <;> omega, by rw [HMB.out]; simp only [max1]; split <;> omega⟩
      clear hST hm3 hR2 hbm2 hown2 hin2 HM1 HM1'
      obtain ⟨p, hp⟩ : ∃ p, p = m1.heap.size := ⟨_, rfl⟩
      obtain ⟨P, hP⟩ : ∃ P, P = m2.heap.size := ⟨_, rfl⟩
      rw [← hp, ← hP] at HLB HLV
      rw [← hp, ← hP]
      clear hp hP
      have hl200 := HL.out.2
      have hs1 : name.size ≤ 1000 := by have := HSM2.out.a2; omega
      have hs2 : tab.size ≤ 1000 := by have := HSM2.out.a1; omega
      go_wp2_with fail
      go_loopw [17] (fun vi wr => ∃ (q : Nat) (s : JA) (v V : Value), q ≤ l.length + 6 ∧ vi = .int .i64 q ∧ LV w5 w8 wr g1 p G P ⟨k, tab, name, dest, n, fl, .slice Xa D.a.length qa, .slice Xb D.b.length qb, .slice Xc D.c.length qc, .slice Xd D.d.length qd, .slice Xe D.e.length qe⟩ ⟨k, tab, name, dest, n, fl, .slice A6 D.a.length c6, .slice A7 D.b.length c7, .slice A8 D.c.length c8, .slice A9 D.d.length c9, .slice A10 D.e.length c10⟩ s s v V ∧ OnA (3 * q) s) (fun vi _ => l.length + 6 - (intOf vi).toNat)
      case atStart => exact ⟨0, _, _, _, by omega, rfl, HLV.out, HON.out⟩
      case round =>
        obtain ⟨q, s, v, V, hq, rfl, hL, ha⟩ := hrel
        by_cases hlt : q < l.length + 6
        · have hok := ha.ok ⟨k, tab, name, dest, n, fl, .slice Xa D.a.length qa, .slice Xb D.b.length qb, .slice Xc D.c.length qc, .slice Xd D.d.length qd, .slice Xe D.e.length qe⟩ hs1 hs2 (by omega)
          have hok2 := ha.ok ⟨k, tab, name, dest, n, fl, .slice A6 D.a.length c6, .slice A7 D.b.length c7, .slice A8 D.c.length c8, .slice A9 D.d.length c9, .slice A10 D.e.length c10⟩ hs1 hs2 (by omega)
          obtain ⟨s', hs'⟩ : ∃ s', s' = stepA tab name s := ⟨_, rfl⟩
          obtain ⟨er, her⟩ : ∃ er, er = (if s'.phase < 5 then 0 else s'.err) := ⟨_, rfl⟩
          obtain ⟨kn, hkn⟩ : ∃ kn, kn = decide (5 ≤ s'.phase) := ⟨_, rfl⟩
          have hon := (step_on tab name ha).1
          rw [← hs'] at hon
          have HS := Lib.hid (And.intro hL (And.intro hok (And.intro hok2 (And.intro hs' (And.intro her (And.intro hkn hon))))))
          clear hL ha hok hok2 hs' her hkn hon
          go_wp2_with fail
          refine (step_any wr g1 p _ s v HS.out.1.job HS.out.2.1).mono ?_
          rintro e y1 h3
          have h3' : StepPost wr g1 p v ⟨k, tab, name, dest, n, fl, .slice Xa D.a.length qa, .slice Xb D.b.length qb, .slice Xc D.c.length qc, .slice Xd D.d.length qd, .slice Xe D.e.length qe⟩ s' e y1 := by rw [HS.out.2.2.2.1]; exact h3
          obtain ⟨rfl, h4⟩ := post_short h3' HS.out.2.2.2.2.1 HS.out.2.2.2.2.2.1
          obtain ⟨v', hL1⟩ := LV.jobStep HLB.out HS.out.1 h4
          have HS1 := Lib.hid hL1
          clear h3 h3' h4 hL1
          go_wp2_with fail
          refine (Rf.step_any y1 G P _ s V HS1.out.ref HS.out.2.2.1).mono ?_
          rintro e y2 h5
          have h5' : Rf.StepPost y1 G P V ⟨k, tab, name, dest, n, fl, .slice A6 D.a.length c6, .slice A7 D.b.length c7, .slice A8 D.c.length c8, .slice A9 D.d.length c9, .slice A10 D.e.length c10⟩ s' e y2 := by rw [HS.out.2.2.2.1]; exact h5
          obtain ⟨rfl, h6⟩ := Rf.post_short h5' HS.out.2.2.2.2.1 HS.out.2.2.2.2.2.1
          obtain ⟨V', hL2⟩ := LV.refStep HLB.out HS1.out h6
          have HS2 := Lib.hid (LV.made hL2 (Fr.refl (fun _ => False) y2).drew)
          have HQ := Lib.hid HS.out.2.2.2.2.2.2
          clear h5 h5' h6 HS HS1
          obtain ⟨⟨jv, hj⟩, ⟨t1, hT1⟩⟩ := hL2.job
          obtain ⟨⟨gv, hg2⟩, ⟨t2, hT2⟩⟩ := hL2.ref
          obtain ⟨Z1, z1, rfl, hz1, hk1⟩ := texts_kd (own_weaken (base' := 0) hT1.own (Nat.zero_le _)) hT1.few
          obtain ⟨Z2, z2, rfl, hz2, hk2⟩ := texts_kd (own_weaken (base' := 0) hT2.own (Nat.zero_le _)) hT2.few
          obtain ⟨Z3, z3, rfl, hz3⟩ := hg2.after.slice
          have x1 := blk_cell hg2.blk 11
          have x2 := blk_cell hg2.blk 12
          have x3 := blk_cell hT1.blk 1
          have x4 := blk_cell hT1.blk 2
          have x5 := blk_cell hT2.blk 1
          simp only [List.getElem?_toArray, List.getElem?_cons_succ, List.getElem?_cons_zero] at x1 x2 x3 x4 x5
          rw [HQ.out.held] at x4
          have HK := Lib.hid (And.intro hk1 (And.intro hk2 (And.intro hg2.after (And.intro hg2.few (And.intro hT1.few hj)))))
          clear hj hT1 hg2 hT2 hk1 hk2 hL2
          go_upto_region 22 with fail
          have hjd : JobR y2.drew g1 ⟨k, tab, name, dest, n, fl, .slice Xa D.a.length qa, .slice Xb D.b.length qb, .slice Xc D.c.length qc, .slice Xd D.d.length qd, .slice Xe D.e.length qe⟩ s'.phase jv s'.rows s'.tries s'.err := by
            have hj := HK.out.2.2.2.2.2
            exact ⟨hj.blk, hj.after.fr (Fr.refl (fun _ => False) y2).drew (fun _ _ _ _ => id), hj.few, hj.ints⟩
          have HJD := Lib.hid hjd
          clear hjd
          go_region_held3 (fun w' => w'.cell? ⟨G, 11, none⟩ = some (.int .i64 s'.phase) ∧ w'.cell? ⟨G, 12, none⟩ = some (.slice Z3 s'.rows.length z3) ∧ w'.cell? ⟨p, 1, none⟩ = some (.slice Z1 s'.xs.length z1) ∧ w'.cell? ⟨p, 2, none⟩ = some (.int .i64 0) ∧ w'.cell? ⟨P, 1, none⟩ = some (.slice Z2 s'.xs.length z2))
            (first | exact ⟨x1, x2, x3, x4, x5⟩ | exact ⟨x1a, x2a, x3a, x4a, x5a⟩ | exact ⟨x1b, x2b, x3b, x4b, x5b⟩ | exact ⟨x1c, x2c, x3c, x4c, x5c⟩)
            (first
            | (go_at_call 11; refine (phase_any _ g1 _ s'.phase jv _ _ _ HJD.out).mono ?_; rintro e ya ⟨rfl, rfl⟩)
            | (go_at_call 19; refine (after_any _ g1 _ s'.phase jv _ _ _ HJD.out).mono ?_; rintro e ya ⟨A1, a1, rfl, ha1, hra, fa⟩; have HFA := Lib.hid (And.intro fa (And.intro hra ha1)); have x1a := fa.cell x1 id; have x2a := fa.cell x2 id; have x3a := fa.cell x3 id; have x4a := fa.cell x4 id; have x5a := fa.cell x5 id; clear fa hra ha1)
            | (go_at_call 18; refine (same_rows _ A1 Z3 a1 z3 s'.rows HFA.out.2.1 HFA.out.2.2 (HK.out.2.2.1.fr ((Fr.refl (fun _ => False) y2).drew.trans HFA.out.1 (fun _ _ h => h)) (fun _ _ _ _ => id)) hz3 HK.out.2.2.2.1).mono ?_; rintro e yb ⟨rfl, fb⟩; have HFB := Lib.hid fb; have x1b := fb.cell x1a id; have x2b := fb.cell x2a id; have x3b := fb.cell x3a id; have x4b := fb.cell x4a id; have x5b := fb.cell x5a id; clear fb)
            | (go_at_call 20; have fyb := (((Fr.refl (fun _ => False) y2).drew.trans HFA.out.1 (fun _ _ h => h)).trans HFB.out (fun _ _ h => h)).below (Nat.le_refl _) (fun _ _ => id); refine (same_texts _ Z1 Z2 z1 z2 s'.xs (Kd.C_below HK.out.1 fyb) hz1 (Kd.C_below HK.out.2.1 fyb) hz2 HK.out.2.2.2.2.1).mono ?_; rintro e yc ⟨rfl, fc⟩; have HFC := Lib.hid fc; have x1c := fc.cell x1b id; have x2c := fc.cell x2b id; have x3c := fc.cell x3b id; have x4c := fc.cell x4b id; have x5c := fc.cell x5b id; clear fc fyb))
          all_goals
            clear x1 x2 x3 x4 x5 x1a x2a x3a x4a x5a x1b x2b x3b x4b x5b x1c x2c x3c x4c x5c
            have HEND := Lib.hid (LV.made HS2.out ((HFA.out.1.trans HFB.out (fun _ _ h => h)).trans HFC.out (fun _ _ h => h)))
            clear HK HJD
            go_wp2_with fail
            go_roundw
            case rel => exact ⟨q + 1, s', _, _, by omega, by go_num, HEND.out, HQ.out⟩
            case measure => simp [intOf]; omega
        · have hqe : q = l.length + 6 := by omega
          subst hqe
          obtain ⟨⟨jv, hj⟩, _⟩ := hL.job
          have fd : Fr (fun _ => False) wr wr.drew := (Fr.refl (fun _ => False) wr).drew
          have HJD : Hid (JobR wr.drew g1 ⟨k, tab, name, dest, n, fl, .slice Xa D.a.length qa, .slice Xb D.b.length qb, .slice Xc D.c.length qc, .slice Xd D.d.length qd, .slice Xe D.e.length qe⟩ s.phase jv s.rows s.tries s.err) := ⟨hj.blk, hj.after.fr fd (fun _ _ _ _ => id), hj.few, hj.ints⟩
          have HSR : Hid (SxRd wr.drew ⟨k, tab, name, dest, n, fl, .slice Xa D.a.length qa, .slice Xb D.b.length qb, .slice Xc D.c.length qc, .slice Xd D.d.length qd, .slice Xe D.e.length qe⟩ D) := HT2.out.rd (hL.f3.drew)
          have HFC := Lib.hid (hL.fc.trans fd (fun _ _ h => h))
          have HBd := Lib.hid (And.intro (hL.fc.blk HB5.out.1 id) (hL.fc.blk HB5.out.2 id))
          clear hL ha hj fd hlt hq
          go_upto_region 24 with fail
          go_region_held3 (fun w' => w'.cell? ⟨w.heap.size, 0, none⟩ = some (.int .i64 k) ∧ w'.cell? ⟨w.heap.size, 1, none⟩ = some (.string tab) ∧ w'.cell? ⟨w.heap.size, 2, none⟩ = some (.string name) ∧ w'.cell? ⟨w.heap.size, 3, none⟩ = some (.string dest) ∧ w'.cell? ⟨w.heap.size, 4, none⟩ = some (.int .i64 n) ∧ w'.cell? ⟨w.heap.size, 5, none⟩ = some (.bool fl) ∧ w'.cell? ⟨w.heap.size, 6, none⟩ = some (.slice A6 D.a.length c6) ∧ w'.cell? ⟨w.heap.size, 7, none⟩ = some (.slice A7 D.b.length c7) ∧ w'.cell? ⟨w.heap.size, 8, none⟩ = some (.slice A8 D.c.length c8) ∧ w'.cell? ⟨w.heap.size, 9, none⟩ = some (.slice A9 D.d.length c9) ∧ w'.cell? ⟨w.heap.size, 10, none⟩ = some (.slice A10 D.e.length c10) ∧ w'.cell? ⟨w3.heap.size, 0, none⟩ = some (.int .i64 k) ∧ w'.cell? ⟨w3.heap.size, 1, none⟩ = some (.string tab) ∧ w'.cell? ⟨w3.heap.size, 2, none⟩ = some (.string name) ∧ w'.cell? ⟨w3.heap.size, 3, none⟩ = some (.string dest) ∧ w'.cell? ⟨w3.heap.size, 4, none⟩ = some (.int .i64 n) ∧ w'.cell? ⟨w3.heap.size, 5, none⟩ = some (.bool fl) ∧ w'.cell? ⟨w3.heap.size, 6, none⟩ = some (.slice O6 D.a.length o6) ∧ w'.cell? ⟨w3.heap.size, 7, none⟩ = some (.slice O7 D.b.length o7) ∧ w'.cell? ⟨w3.heap.size, 8, none⟩ = some (.slice O8 D.c.length o8) ∧ w'.cell? ⟨w3.heap.size, 9, none⟩ = some (.slice O9 D.d.length o9) ∧ w'.cell? ⟨w3.heap.size, 10, none⟩ = some (.slice O10 D.e.length o10))
            (first | exact cells22 HBd.out.1 HBd.out.2 | exact cells22 HBa.out.1 HBa.out.2 | exact cells22 HBb.out.1 HBb.out.2 | exact cells22 HBc.out.1 HBc.out.2 | exact cells22 HBe.out.1 HBe.out.2)
            (first
            | (go_at_call 22; refine (stmt_any _ g1 k tab name dest n fl Xa Xb Xc Xd Xe qa qb qc qd qe D s.phase jv s.rows s.tries s.err HJD.out HSR.out HFE.out).mono ?_; rintro e ya ⟨Y1, y1, Y2, y2, Y3, y3, Y4, y4, Y5, y5, rfl, hka, fa⟩; have HFA := Lib.hid (HFC.out.trans fa (fun _ _ h => h)); have HKA := Lib.hid hka; have HBa := Lib.hid (And.intro (fa.blk HBd.out.1 id) (fa.blk HBd.out.2 id)); clear fa hka)
            | (go_at_call 21; have hq21 := HFB.out; clear hq21; refine (same_stmts _ k tab name dest n fl O6 O7 O8 O9 O10 A6 A7 A8 A9 A10 o6 o7 o8 o9 o10 c6 c7 c8 c9 c10 D (HO5.out.1.fr HFB.out) (HA5.out.k.fr HFB.out) HFE.out).mono ?_; rintro e yc ⟨rfl, fc⟩; have HFD := Lib.hid (HFB.out.trans fc (fun _ _ h => h)); have HBc := Lib.hid (And.intro (fc.blk HBb.out.1 id) (fc.blk HBb.out.2 id)); clear fc)
            | (go_at_call 21; refine (same_stmts _ k tab name dest n fl Y1 Y2 Y3 Y4 Y5 A6 A7 A8 A9 A10 y1 y2 y3 y4 y5 c6 c7 c8 c9 c10 D HKA.out (HA5.out.k.fr HFA.out) HFE.out).mono ?_; rintro e yb ⟨rfl, fb⟩; have HFB := Lib.hid (HFA.out.trans fb (fun _ _ h => h)); have HBb := Lib.hid (And.intro (fb.blk HBa.out.1 id) (fb.blk HBa.out.2 id)); clear fb)
            | (go_at_call 18; refine (same_rowsK _ Rr Ar rr cr rows (Kd.C_below HW5.out.2.1 (HFD.out.below (Nat.le_refl _) (fun _ _ => id))) HW5.out.2.2 (Kd.C_below HR5.out.1 (HFD.out.below (Nat.le_refl _) (fun _ _ => id))) HR5.out.2.1 (by have := HL.out.1; omega)).mono ?_; rintro e ye ⟨rfl, fe⟩; have HFF := Lib.hid (HFD.out.trans fe (fun _ _ h => h)); have HBe := Lib.hid (And.intro (fe.blk HBc.out.1 id) (fe.blk HBc.out.2 id)); clear fe))
          all_goals
            have HW : Hid (LawDone w ye) := (HF5.out.1.trans HFF.out (fun _ _ h => h)).below (Nat.le_refl _) (fun _ _ => id)
            clear HFA HFB HFD HFF HBa HBb HBc HBe HBd HKA HJD HSR HFC
            go_wp2_with fail
            go_ret
            exact ⟨rfl, HW.out⟩
end Go.Proofs.Ytplpdeanepdokaa

/- The statement JobSteps: for every input the law answers true, and the input reads behind the call as it read before. No condition. -/
namespace Go.Proofs.Ytplpdeanepdokaa.jobSteps
open Go.ChangeShapes Go.WideShapes Go.ChangeAt Go.RowKit
open Go.ChangeMaps (open_string shut_string)
set_option linter.unusedVariables false
theorem own : ownKnob Try.prog.godebug = none := by kernel_rfl
theorem laidOut : laidOutB Try.prog = true := by kernel_rfl
set_option maxRecDepth 100000 in
theorem lifted (os : Os) (started : os.Started) (H : Type) (enc : TypeId × Value → H) :
    ReturnsInHanded {} Try.checked os 6 .any (Rows.jobStepsSpec.pre6 enc Try.prog Try.f6 Rows.jobStepsRow.domain false) (Rows.jobStepsSpec.post enc Try.prog Try.f6 false true false false) := by
  refine returnsInHanded_of_change_sized (C := Try.checked) own started (by kernel_rfl) Try.func6
    (ChangeSpec.witness6 (enc := enc) (C := Try.checked) false ⟨#[], #[.agg #[.int .i64 0, .string ByteArray.empty, .string ByteArray.empty, .string ByteArray.empty, .int .i64 0, .bool false, .slice none 0 0, .slice none 0 0, .slice none 0 0, .slice none 0 0, .slice none 0 0], .slice none 0 0, .int .i64 0, .slice none 0 0, .bool false], []⟩ 8 (by kernel_rfl) (by kernel_rfl) (by kernel_rfl) (by kernel_rfl)) ?_
  intro W base args ds gs before hval0 hW hcnd hsz0 _
  have hval : ∀ (j : Nat) t v, Try.f6.params[j]? = some t → args[j]? = some v → Value.okWide Try.prog W .any base t v := hval0
  have hW' := hW
  obtain ⟨p, q, hA0, hV, rfl, hfz, hnd⟩ := hW
  have hA : DataW.TrodAll enc Try.prog W 0 (fun _ => true) true Try.f6.params.toList args.toList ds p := hA0
  rw [Try.params6] at hA hval
  obtain ⟨v0, vs0, d0, ds0, p0, q0, hargs, rfl, rfl, h0, r0⟩ := trodAll_cons hA
  obtain ⟨v1, vs1, d1, ds1, p1, q1, rfl, rfl, rfl, h1, r1⟩ := trodAll_cons r0
  obtain ⟨v2, vs2, d2, ds2, p2, q2, rfl, rfl, rfl, h2, r2⟩ := trodAll_cons r1
  obtain ⟨v3, vs3, d3, ds3, p3, q3, rfl, rfl, rfl, h3, r3⟩ := trodAll_cons r2
  obtain ⟨v4, vs4, d4, ds4, p4, q4, rfl, rfl, rfl, h4, r4⟩ := trodAll_cons r3
  obtain ⟨rfl, rfl, rfl⟩ := trodAll_nil r4
  obtain rfl : args = #[v0, v1, v2, v3, v4] := by cases args; simp_all
  obtain ⟨rfl, rfl⟩ := trodVars_none hV
  obtain ⟨cs, rfl, hcs⟩ := okWide_struct Try.underlying28 (hval 0 28 v0 rfl rfl)
  have k0 := h0
  have lt0 : ∀ x ∈ p0, x.block < W.heap.size := by obtain ⟨m, hm⟩ := k0; exact DataW.trod_lt m _ _ _ hm
  obtain ⟨fuel, hf⟩ := h0
  obtain ⟨k, tab, name, dest, n, fl, A6, A7, A8, A9, A10, c6, c7, c8, c9, c10, D, hl, hS⟩ := stmt_reads hf
  obtain rfl : cs = #[.int .i64 k, .string tab, .string name, .string dest, .int .i64 n, .bool fl, .slice A6 D.a.length c6, .slice A7 D.b.length c7, .slice A8 D.c.length c8, .slice A9 D.d.length c9, .slice A10 D.e.length c10] := by
    apply Array.ext'
    exact hl
  obtain ⟨ra, rl, rcc, rfl⟩ := okWide_slice Try.underlying45 (hval 1 45 v1 rfl rfl)
  have k1 := h1
  have lt1 : ∀ x ∈ p1, x.block < W.heap.size := by obtain ⟨m, hm⟩ := k1; exact DataW.trod_lt m _ _ _ hm
  obtain ⟨fuel1, hf1⟩ := h1
  obtain ⟨Ar, cr, rows, hcs1, hrr, hrc, hri⟩ := row_reads hf1
  obtain ⟨rfl, rfl, rfl⟩ : ra = Ar ∧ rl = rows.length ∧ rcc = cr := by simpa [Value.cells] using hcs1
  obtain ⟨a2, rfl, rfl, rfl, w2⟩ := open_int Try.underlying3 (hval 2 3 v2 rfl rfl) h2
  obtain ⟨sa, sl, sc, rfl⟩ := okWide_slice Try.underlying31 (hval 3 31 v3 rfl rfl)
  have k3 := h3
  have lt3 : ∀ x ∈ p3, x.block < W.heap.size := by obtain ⟨m, hm⟩ := k3; exact DataW.trod_lt m _ _ _ hm
  obtain ⟨fuel3, hf3⟩ := h3
  obtain ⟨A, c, l, hcs3, hr, hc, hi⟩ := ints_reads hf3
  obtain ⟨rfl, rfl, rfl⟩ : sa = A ∧ sl = l.length ∧ sc = c := by simpa [Value.cells] using hcs3
  obtain ⟨rs, rfl, rfl, rfl⟩ := open_bool Try.underlying4 (hval 4 4 v4 rfl rfl) h4
  clear hA0 hval0 hsz0
  refine (steps_walk W k tab name dest n fl A6 A7 A8 A9 A10 c6 c7 c8 c9 c10 D ra rcc rows a2 (Go.bounds_i64 w2).2 sa sc l rs hS hrr hrc hri hr hc hi).mono fun e W' ⟨he, bel⟩ => ?_
  subst he
  exact ⟨_, rfl, _, _, _, [], _, [], hW', trodAll_mk1 (shut_bool Try.underlying4 _), (trodAll_cons_mk (Below.trod laidOut (by kernel_rfl) (of_decide_eq_true (by kernel_rfl)) k0 bel lt0) (trodAll_cons_mk (Below.trod laidOut (by kernel_rfl) (of_decide_eq_true (by kernel_rfl)) k1 bel lt1) (trodAll_cons_mk (shut_int Try.underlying3 w2) (trodAll_cons_mk (Below.trod laidOut (by kernel_rfl) (of_decide_eq_true (by kernel_rfl)) k3 bel lt3) (trodAll_cons_mk (shut_bool Try.underlying4 _) trodAll_mk0))))), rfl, bel.frame _, fun h => by cases h⟩
theorem over : Rows.jobStepsRow.holds Try.pinned (OpenSpec.ofChange Rows.jobStepsSpec) :=
  OpenClaim.holds_of_wide 6 Try.f6 rfl rfl rfl rfl rfl rfl rfl ⟨rfl, rfl, rfl, rfl, rfl⟩ rfl rfl rfl rfl rfl (by kernel_rfl) Try.func6 (by kernel_rfl)
    (of_decide_eq_true (by kernel_rfl)) (by unfold Func.isWrapper; first | (rw [if_pos (by decide +kernel)]; kernel_rfl) | (rw [if_neg (by decide +kernel)]; exact ⟨rfl, rfl⟩))
    (fun os started H enc _ => lifted os started H enc)
theorem proved : Rows.JobStepsSaid := over
#print axioms proved
end Go.Proofs.Ytplpdeanepdokaa.jobSteps
namespace Go.Proofs.Ytplpdeanepdokaa
/-- The row, under a short name, for the claim. -/
theorem jobSteps_holds : Rows.JobStepsSaid := jobSteps.proved
end Go.Proofs.Ytplpdeanepdokaa

