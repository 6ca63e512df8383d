/- JobOn: the walk. -/
import Derived.Test.YtplpdeanepdokaaJO
namespace Go.Proofs.Ytplpdeanepdokaa
open Go.RowKit H Go.Proofs.Ytplpdeanepdokaa.PJobSteps
open Go.Proofs.YtplpdeanepdokaaW.PrintWords (Kd)

theorem on_next {w w' : World} {g p : Nat} {v : Value} {x : Sx} {s : JA} {e : Ending} {tab name : ByteArray} {N : Nat} {ph er : Int} (ha : OnA N s) (h : StepPost w g p v x (stepA tab name s) e w')
    (hph : ph = s.phase) (her : er = if s.phase < 5 then 0 else s.err) :
    ∃ (s' : JA) (ph' er' : Int), e = .returned (.tuple #[.int .i64 er', .bool (decide (5 ≤ ph'))]) ∧ JPa w g p v x s' w' ∧ OnA (N + 3) s' ∧ ph ≤ ph' ∧ ph' ≤ 6 ∧ ph' = s'.phase ∧ er' = (if s'.phase < 5 then 0 else s'.err) ∧ (5 ≤ ph → 5 ≤ ph' ∧ er' = er) := by
  obtain ⟨rfl, hp⟩ := h
  obtain ⟨h1, h2, h3⟩ := step_on tab name ha
  subst hph her
  refine ⟨_, _, _, rfl, hp, h1, h2, h1.p6, rfl, rfl, fun h5 => ⟨by omega, ?_⟩⟩
  rw [if_neg (by omega), if_neg (by omega), h3 h5]

set_option maxHeartbeats 2000000 in
theorem on_walk (w : World) (k : Int) (tab name dest : ByteArray) (n : Int) (fl : Bool) (A6 A7 A8 A9 A10 : Option Addr) (c6 c7 c8 c9 c10 : Nat) (D : Sd) (b : Int) (hbm : b ≤ 9223372036854775807) (A : Option Addr) (c : Nat) (l : List Int)
    (h : ArgS w A6 A7 A8 A9 A10 c6 c7 c8 c9 c10 D) (hr : Kd.C (Kd.int .i64) w A l.length l) (hc : l.length ≤ c) (hi : ∀ a ∈ l, -9223372036854775808 ≤ a ∧ a ≤ 9223372036854775807) :
    Calls Try.prog 5 #[.agg #[.int .i64 k, .string tab, .string name, .string dest, .int .i64 n, .bool fl, .slice A6 D.a.length c6, .slice A7 D.b.length c7, .slice A8 D.c.length c8, .slice A9 D.d.length c9, .slice A10 D.e.length c10], .int .i64 b, .slice A l.length c] w
      fun e w' => e = .returned (.bool true) ∧ LawDone w w' := by
  have HA := Lib.hid h
  have HI := Lib.hid (And.intro hr (And.intro hc hi))
  clear h hr hc hi
  go_enter Try.func5, Try.ntmps5
  go_wp2_with fail
  refine (alive_any _).mono ?_
  rintro e w1 ⟨rfl, h1⟩
  have hf1 : Fr (fun _ => False) w w1 := ((Fr.refl _ w).alloc _).trans h1 (fun _ _ h => h)
  have hB := h1.blk (blk_new w (.cells #[.int .i64 k, .string tab, .string name, .string dest, .int .i64 n, .bool fl, .slice A6 D.a.length c6, .slice A7 D.b.length c7, .slice A8 D.c.length c8, .slice A9 D.d.length c9, .slice A10 D.e.length c10] 28)) id
  have b0 := blk_cell hB 0
  have b1 := blk_cell hB 1
  have b2 := blk_cell hB 2
  have b3 := blk_cell hB 3
  have b4 := blk_cell hB 4
  have b5 := blk_cell hB 5
  have b6 := blk_cell hB 6
  have b7 := blk_cell hB 7
  have b8 := blk_cell hB 8
  have b9 := blk_cell hB 9
  have b10 := blk_cell hB 10
  simp only [List.getElem?_toArray, List.getElem?_cons_succ, List.getElem?_cons_zero] at b0 b1 b2 b3 b4 b5 b6 b7 b8 b9 b10
  have HB := Lib.hid hB
  have HF1 := Lib.hid hf1
  have HA1 := Lib.hid (HA.out.fr hf1)
  have HI1 := Lib.hid (And.intro (Kd.C_below HI.out.1 (hf1.below (Nat.le_refl _) (fun _ _ => id))) HI.out.2)
  clear h1 hf1 hB HA HI
  go_wp2_with fail
  obtain ⟨K, r, hgr, hsm⟩ := great22_some k tab name dest n fl D.a D.b D.c D.d D.e l
  refine (interlocklaw22_great.calls K k tab name dest n fl A6 c6 D.a A7 c7 D.b A8 c8 D.c A9 c9 D.d A10 c10 D.e none 0 [] A c l r w1 HA1.out.r6 HA1.out.l6 HA1.out.r7 HA1.out.l7 HA1.out.r8 HA1.out.l8 HA1.out.r9 HA1.out.l9 HA1.out.r10 HA1.out.l10 ⟨rfl, by simp, fun h => by simp at h⟩ (by simp) HI1.out.1 HI1.out.2.1 hgr).mono ?_
  rintro e w2 ⟨rfl, hb2⟩
  have hf2 := Fr.of_below hb2
  have HF2 := Lib.hid (HF1.out.trans hf2 (fun _ _ h => h))
  have HA2 := Lib.hid (HA1.out.fr hf2)
  have HI2 := Lib.hid (And.intro (Kd.C_below HI1.out.1 hb2) HI1.out.2)
  have HB2 := Lib.hid (hf2.blk HB.out id)
  have HD : Hid (LawDone w w2) := (HF1.out.trans hf2 (fun _ _ h => h)).below (Nat.le_refl _) (fun _ _ => id)
  have HSM := Lib.hid hsm
  clear hf2 hb2 hgr hsm HA1 HB HF1 HI1
  cases r with
  | true =>
    go_wp2_with fail
    go_ret
    exact ⟨rfl, HD.out⟩
  | false =>
    have HSM2 := Lib.hid (HSM.out rfl).1
    have hl200 := (HSM.out rfl).2
    have hB := HB2.out
    have b0 := blk_cell hB 0
    have b1 := blk_cell hB 1
    have b2 := blk_cell hB 2
    have b3 := blk_cell hB 3
    have b4 := blk_cell hB 4
    have b5 := blk_cell hB 5
    have b6 := blk_cell hB 6
    have b7 := blk_cell hB 7
    have b8 := blk_cell hB 8
    have b9 := blk_cell hB 9
    have b10 := blk_cell hB 10
    simp only [List.getElem?_toArray, List.getElem?_cons_succ, List.getElem?_cons_zero] at b0 b1 b2 b3 b4 b5 b6 b7 b8 b9 b10
    clear HSM hB HB2 HD
    go_wp2_with fail
    refine (new_any w2 k tab name dest n fl A6 A7 A8 A9 A10 c6 c7 c8 c9 c10 D b (HA2.out.rd k tab name dest n fl) ⟨by have := HSM2.out.l6; omega, by have := HSM2.out.l7; omega, by have := HSM2.out.l8; omega, by have := HSM2.out.l9; omega, by have := HSM2.out.l10; omega⟩).mono ?_
    rintro e w3 ⟨g, xa, xb, xc, xd, xe, va, rfl, hg, _, hj, hf3⟩
    have HI3 := Lib.hid (And.intro (Kd.C_below HI2.out.1 (hf3.below (Nat.le_refl _) (fun _ _ => id))) HI2.out.2)
    have HJ3 := Lib.hid (And.intro hj (And.intro hf3 hg))
    clear hj hf3 HI2 b0 b1 b2 b3 b4 b5 b6 b7 b8 b9 b10 HA2 hg
    go_wp2_with fail
    refine (interlockref00_CopyInts.calls A c l l w3 HI3.out.1 HI3.out.2.1 (by rw [interlockref00_CopyInts.f]; simp; omega)).mono ?_
    rintro e w4 ⟨v0, rfl, hR, hb4⟩
    have hown := ints_own hR
    obtain ⟨A0, c0, hv, _⟩ := (Row.of_own hown).slice
    subst hv
    have hT : Told (w4.alloc (.cells #[.slice A0 l.length c0, .slice none 0 0, .int .i64 0] 36)) w4.heap.size (.slice A0 l.length c0) (.slice none 0 0) l [] 0 :=
      ⟨blk_new w4 _, (Row.of_own hown).fr ((Fr.refl (fun _ => False) w4).alloc _) (fun _ _ _ _ => id), World.ownsRow_nil _ _ _ _, by simp⟩
    have hL := LInv.first HJ3.out.2.1 HJ3.out.1 ((Fr.of_below hb4).alloc _) hT
    have HL := Lib.hid (And.intro hL (And.intro HJ3.out.2.2 (HJ3.out.2.1.trans (Fr.of_below hb4) (fun _ _ h => h)).size))
    have HO : Hid (OnA 0 ⟨1, [], max1 b, 0, l, [], 0⟩) := ⟨by simp, by simp, by simp, hl200, HI3.out.2.2, rfl, fun _ => by simp only [max1]; split <;> omega, by simp only [max1]; split <;> omega⟩
    have hs1 : name.size ≤ 1000 := by have := HSM2.out.a2; omega
    have hs2 : tab.size ≤ 1000 := by have := HSM2.out.a1; omega
    clear hT hL hR hb4 hown HJ3 HI3
    go_wp2_with fail
    go_loopw [9, 10, 11, 12] (fun v9 v10 v11 v12 wr => ∃ (q : Nat) (s : JA) (v : Value), q ≤ l.length + 6 ∧ v9 = .int .i64 s.phase ∧ v10 = .int .i64 (if s.phase < 5 then 0 else s.err) ∧ v11 = .bool (decide (5 ≤ s.phase)) ∧ v12 = .int .i64 q ∧ LInv w2 wr g w4.heap.size ⟨k, tab, name, dest, n, fl, xa, xb, xc, xd, xe⟩ s v ∧ OnA (3 * q) s) (fun _ _ _ vi _ => l.length + 6 - (intOf vi).toNat)
    case atStart => exact ⟨0, _, _, by omega, rfl, rfl, rfl, rfl, HL.out.1, HO.out⟩
    case round =>
      obtain ⟨q, s, v, hq, rfl, rfl, rfl, rfl, hL, ha⟩ := hrel
      by_cases hlt : q < l.length + 6
      · have hok := ha.ok ⟨k, tab, name, dest, n, fl, xa, xb, xc, xd, xe⟩ hs1 hs2 (by omega)
        have HS := Lib.hid (And.intro hL (And.intro ha hok))
        have hp := ha.p6
        have hp1 := ha.p1
        clear hL ha hok
        obtain ⟨ph, hph⟩ : ∃ ph, ph = s.phase := ⟨_, rfl⟩
        obtain ⟨er, her⟩ : ∃ er, er = (if s.phase < 5 then 0 else s.err) := ⟨_, rfl⟩
        obtain ⟨kn, hkn⟩ : ∃ kn, kn = decide (5 ≤ s.phase) := ⟨_, rfl⟩
        rw [← hkn, ← her, ← hph]
        rw [← hph] at hp hp1
        have HPE := Lib.hid (And.intro hph (And.intro her hkn))
        clear hph her hkn
        go_wp2_with fail
        refine (step_any wr g w4.heap.size _ s v HS.out.1.jw HS.out.2.2).mono ?_
        rintro e w5 h3
        obtain ⟨s', ph', er', rfl, h4, ha', hle, hp6, hph', her', hkeep⟩ := on_next HS.out.2.1 h3 HPE.out.1 HPE.out.2.1
        obtain ⟨v', hL'⟩ := HS.out.1.step HL.out.2.1 HL.out.2.2 h4
        obtain ⟨⟨va', hj'⟩, ⟨vt', ht'⟩⟩ := hL'.jw
        have c2 := blk_cell ht'.blk 2
        simp only [List.getElem?_toArray, List.getElem?_cons_succ, List.getElem?_cons_zero] at c2
        rw [ha'.held] at c2
        rw [← hph'] at hj'
        have HN := Lib.hid (And.intro hL' (And.intro ha' (And.intro hph' (And.intro her' hj'))))
        have hkn := HPE.out.2.2
        rw [← HPE.out.1] at hkn
        have hs5 : (s.phase < 5) = (ph < 5) := by rw [← HPE.out.1]
        clear h3 h4 hL' ha' hph' her' hj' ht' HS HPE hs5
        by_cases h5 : 5 ≤ ph
        · obtain rfl : kn = true := by rw [hkn]; exact decide_eq_true h5
          obtain ⟨h5', rfl⟩ := hkeep h5
          rw [decide_eq_true h5']
          clear hkn hkeep
          go_wp2_with fail
          refine (phase_any _ g _ ph' va' _ _ _ HN.out.2.2.2.2).mono ?_
          rintro e w6 ⟨rfl, rfl⟩
          go_wp2_with fail
          go_roundw
          case rel => exact ⟨q + 1, s', v', by omega, by rw [HN.out.2.2.1], by rw [HN.out.2.2.2.1], by first | rw [← HN.out.2.2.1, decide_eq_true h5'] | rw [← HN.out.2.2.1, decide_eq_false (by omega)], by go_num, HN.out.1, HN.out.2.1⟩
          case measure => simp [intOf]; omega
        · obtain rfl : kn = false := by rw [hkn]; exact decide_eq_false h5
          clear hkn hkeep
          by_cases h5' : 5 ≤ ph'
          · rw [decide_eq_true h5']
            go_wp2_with fail
            refine (phase_any _ g _ ph' va' _ _ _ HN.out.2.2.2.2).mono ?_
            rintro e w6 ⟨rfl, rfl⟩
            go_wp2_with fail
            go_roundw
            case rel => exact ⟨q + 1, s', v', by omega, by rw [HN.out.2.2.1], by rw [HN.out.2.2.2.1], by first | rw [← HN.out.2.2.1, decide_eq_true h5'] | rw [← HN.out.2.2.1, decide_eq_false (by omega)], by go_num, HN.out.1, HN.out.2.1⟩
            case measure => simp [intOf]; omega
          · rw [decide_eq_false h5']
            go_wp2_with fail
            refine (phase_any _ g _ ph' va' _ _ _ HN.out.2.2.2.2).mono ?_
            rintro e w6 ⟨rfl, rfl⟩
            go_wp2_with fail
            go_roundw
            case rel => exact ⟨q + 1, s', v', by omega, by rw [HN.out.2.2.1], by rw [HN.out.2.2.2.1], by first | rw [← HN.out.2.2.1, decide_eq_true h5'] | rw [← HN.out.2.2.1, decide_eq_false (by omega)], by go_num, HN.out.1, HN.out.2.1⟩
            case measure => simp [intOf]; omega
      · have hqe : q = l.length + 6 := by omega
        subst hqe
        have HW : Hid (LawDone w wr) := (HF2.out.trans hL.fr (fun _ _ h => h)).below (Nat.le_refl _) (fun _ _ => id)
        clear hL ha hlt hq
        obtain ⟨er, her⟩ : ∃ er, er = (if s.phase < 5 then 0 else s.err) := ⟨_, rfl⟩
        obtain ⟨kn, hkn⟩ : ∃ kn, kn = decide (5 ≤ s.phase) := ⟨_, rfl⟩
        rw [← hkn, ← her]
        clear her hkn
        go_wp2_with fail
        go_ret
        exact ⟨rfl, HW.out⟩
end Go.Proofs.Ytplpdeanepdokaa
