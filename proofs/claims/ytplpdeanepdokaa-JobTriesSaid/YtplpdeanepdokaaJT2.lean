/- JobTries: the walk. -/
import Derived.Test.YtplpdeanepdokaaJF
import Derived.Test.YtplpdeanepdokaaJZ
namespace Go.Proofs.Ytplpdeanepdokaa
open Go.RowKit H Go.Proofs.Ytplpdeanepdokaa.PJobSteps
open Go.Proofs.YtplpdeanepdokaaW.PrintWords (Kd)

theorem tries_end {tab : ByteArray} {T : Nat} {s : JA} (h : triesA tab T T s) : s.phase = 6 ∧ s.tries = 0 ∧ s.err = 34 ∧ s.ans = [] ∧ s.xs = List.replicate T (tryT (regW tab)) ∧ s.held = 0 := by
  rw [triesA, if_neg (by omega)] at h
  exact h
theorem tries_ret {w w' : World} {g p : Nat} {v : Value} {x : Sx} {s : JA} {e : Ending} {tab : ByteArray} {T i : Nat} (hi : i + 1 < T) (h : StepPost w g p v x s e w') (ha : triesA tab T (i + 1) s) :
    e = .returned (.tuple #[.int .i64 0, .bool false]) ∧ JPa w g p v x s w' := by
  obtain ⟨rfl, hp⟩ := h
  rw [triesA, if_pos hi] at ha
  refine ⟨?_, hp⟩
  rw [ha.1]
  rfl
theorem tries_stay {w w' : World} {g p : Nat} {v : Value} {x : Sx} {s s' : JA} {e : Ending} {tab : ByteArray} {T : Nat} (hs : s' = s) (h : StepPost w g p v x s' e w') (ha : triesA tab T T s) :
    e = .returned (.tuple #[.int .i64 34, .bool true]) ∧ JPa w g p v x s w' := by
  subst hs
  obtain ⟨rfl, hp⟩ := h
  refine ⟨?_, hp⟩
  rw [(tries_end ha).1, (tries_end ha).2.2.1]
  rfl
theorem tries_ret_end {w w' : World} {g p : Nat} {v : Value} {x : Sx} {s : JA} {e : Ending} {tab : ByteArray} {T i : Nat} (hi : i + 1 = T) (h : StepPost w g p v x s e w') (ha : triesA tab T (i + 1) s) :
    e = .returned (.tuple #[.int .i64 34, .bool true]) ∧ JPa w g p v x s w' := by
  obtain ⟨rfl, hp⟩ := h
  rw [triesA, if_neg (by omega)] at ha
  refine ⟨?_, hp⟩
  rw [ha.1, ha.2.2.1]
  rfl
set_option maxHeartbeats 2000000 in
theorem tries_walk (w : World) (k : Int) (tab name dest : ByteArray) (n : Int) (fl : Bool) (A6 A7 A8 A9 A10 : Option Addr) (c6 c7 c8 c9 c10 : Nat) (D : Sd) (b : Int)
    (h : ArgS w A6 A7 A8 A9 A10 c6 c7 c8 c9 c10 D) :
    Calls Try.prog 4 #[.agg #[.int .i64 k, .string tab, .string name, .string dest, .int .i64 n, .bool fl, .slice A6 D.a.length c6, .slice A7 D.b.length c7, .slice A8 D.c.length c8, .slice A9 D.d.length c9, .slice A10 D.e.length c10], .int .i64 b] w
      fun e w' => e = .returned (.bool true) ∧ LawDone w w' := by
  have HA := Lib.hid h
  clear h
  go_enter Try.func4, Try.ntmps4
  go_wp2_with fail
  refine (alive_any _).mono ?_
  rintro e w1 ⟨rfl, h1⟩
  have hf1 : Fr (fun _ => False) w w1 := ((Fr.refl _ w).alloc _).trans h1 (fun _ _ h => h)
  have hB := h1.blk (blk_new w (.cells #[.int .i64 k, .string tab, .string name, .string dest, .int .i64 n, .bool fl, .slice A6 D.a.length c6, .slice A7 D.b.length c7, .slice A8 D.c.length c8, .slice A9 D.d.length c9, .slice A10 D.e.length c10] 28)) id
  have b0 := blk_cell hB 0
  have b1 := blk_cell hB 1
  have b2 := blk_cell hB 2
  have b3 := blk_cell hB 3
  have b4 := blk_cell hB 4
  have b5 := blk_cell hB 5
  have b6 := blk_cell hB 6
  have b7 := blk_cell hB 7
  have b8 := blk_cell hB 8
  have b9 := blk_cell hB 9
  have b10 := blk_cell hB 10
  simp only [List.getElem?_toArray, List.getElem?_cons_succ, List.getElem?_cons_zero] at b0 b1 b2 b3 b4 b5 b6 b7 b8 b9 b10
  have HB := Lib.hid hB
  have HF1 := Lib.hid hf1
  have HA1 := Lib.hid (HA.out.fr hf1)
  clear h1 hf1 hB HA
  go_wp2_with fail
  obtain ⟨K, r, hgr, hsm⟩ := great_some k tab name dest n fl D.a D.b D.c D.d D.e
  refine (interlocklaw15_GreatStmt.calls K k tab name dest n fl A6 c6 D.a A7 c7 D.b A8 c8 D.c A9 c9 D.d A10 c10 D.e r w1 HA1.out.r6 HA1.out.l6 HA1.out.r7 HA1.out.l7 HA1.out.r8 HA1.out.l8 HA1.out.r9 HA1.out.l9 HA1.out.r10 HA1.out.l10 hgr).mono ?_
  rintro e w2 ⟨rfl, hb2⟩
  have hf2 := Fr.of_below hb2
  have HF2 := Lib.hid (HF1.out.trans hf2 (fun _ _ h => h))
  have HA2 := Lib.hid (HA1.out.fr hf2)
  have HB2 := Lib.hid (hf2.blk HB.out id)
  have HD : Hid (LawDone w w2) := (HF1.out.trans hf2 (fun _ _ h => h)).below (Nat.le_refl _) (fun _ _ => id)
  have HSM := Lib.hid hsm
  clear hb2 hf2 HB HF1 HA1 b0 b1 b2 b3 b4 b5 b6 b7 b8 b9 b10 hgr hsm
  cases r with
  | true =>
    go_wp2_with fail
    go_ret
    exact ⟨rfl, HD.out⟩
  | false =>
    by_cases hb1 : 100 < b
    · go_wp2_with fail
      go_ret
      exact ⟨rfl, HD.out⟩
    by_cases hb0 : b < 1
    · have hbb : b < 1 := hb0
      have HSM2 := Lib.hid (HSM.out (by simp))
      have hB := HB2.out
      have b0 := blk_cell hB 0
      have b1 := blk_cell hB 1
      have b2 := blk_cell hB 2
      have b3 := blk_cell hB 3
      have b4 := blk_cell hB 4
      have b5 := blk_cell hB 5
      have b6 := blk_cell hB 6
      have b7 := blk_cell hB 7
      have b8 := blk_cell hB 8
      have b9 := blk_cell hB 9
      have b10 := blk_cell hB 10
      simp only [List.getElem?_toArray, List.getElem?_cons_succ, List.getElem?_cons_zero] at b0 b1 b2 b3 b4 b5 b6 b7 b8 b9 b10
      have hm : max1 b = 1 := by unfold max1; rw [if_pos hb0]
      have HM := Lib.hid hm
      clear HSM hm hB HB2 HD
      go_wp2_with fail
      refine (new_any w2 k tab name dest n fl A6 A7 A8 A9 A10 c6 c7 c8 c9 c10 D b (HA2.out.rd k tab name dest n fl) ⟨by have := HSM2.out.l6; omega, by have := HSM2.out.l7; omega, by have := HSM2.out.l8; omega, by have := HSM2.out.l9; omega, by have := HSM2.out.l10; omega⟩).mono ?_
      rintro e w4 ⟨g, xa, xb, xc, xd, xe, va, rfl, hg, _, hj, hf4⟩
      have hT : Told (w4.alloc (.cells #[.slice none 0 0, .slice none 0 0, .int .i64 0] 36)) w4.heap.size (.slice none 0 0) (.slice none 0 0) [] [] 0 :=
        ⟨blk_new w4 _, Row.nil _ _, World.ownsRow_nil _ _ _ _, by simp⟩
      have hL := LInv.first hf4 hj ((Fr.refl (fun _ => False) w4).alloc _) hT
      rw [HM.out] at hL
      have HL := Lib.hid (And.intro hL (And.intro hg hf4.size))
      have hs1 : name.size ≤ 1000 := by have := HSM2.out.a2; omega
      have hs2 : tab.size ≤ 1000 := by have := HSM2.out.a1; omega
      clear hf4 hj hT hL b0 b1 b2 b3 b4 b5 b6 b7 b8 b9 b10 HM HA2
      go_wp2_with fail
      go_loopw [7] (fun vi wr => ∃ (q : Nat) (s : JA) (v : Value), q ≤ 1 ∧ vi = .int .i64 ((q : Int) + 1) ∧ LInv w2 wr g w4.heap.size ⟨k, tab, name, dest, n, fl, xa, xb, xc, xd, xe⟩ s v ∧ triesA tab 1 q s) (fun vi _ => 1 + 1 - (intOf vi).toNat)
      case atStart => exact ⟨0, _, _, by omega, rfl, HL.out.1, by rw [triesA, if_pos (by omega)]; exact ⟨rfl, by simp, rfl, rfl, rfl, rfl⟩⟩
      case round =>
        obtain ⟨q, s, v, hq, rfl, hL, ha⟩ := hrel
        by_cases hlt : q < 1
        · have hok := tries_ok ⟨k, tab, name, dest, n, fl, xa, xb, xc, xd, xe⟩ hs1 hs2 1 q (by omega) hq s ha
          have HS := Lib.hid (And.intro hL (And.intro ha hok))
          clear hL ha hok
          go_wp2_with fail
          refine (step_any wr g w4.heap.size _ s v HS.out.1.jw HS.out.2.2).mono ?_
          rintro e w5 h3
          have hst := tries_step tab name 1 q hlt s HS.out.2.1
          by_cases hqe : q + 1 = 1
          · obtain ⟨rfl, h4⟩ := tries_ret_end hqe h3 hst
            obtain ⟨v', hL'⟩ := HS.out.1.step HL.out.2.1 HL.out.2.2 h4
            have HN := Lib.hid (And.intro hL' hst)
            have hd : (((q : Int) + 1) == 1) = true := by simp; omega
            clear h3 h4 hst hL' HS
            go_wp2_with fail
            go_roundw
            case rel => exact ⟨q + 1, _, _, by omega, by go_num, HN.out.1, HN.out.2⟩
            case measure => simp [intOf]; omega
          · obtain ⟨rfl, h4⟩ := tries_ret (by omega) h3 hst
            obtain ⟨v', hL'⟩ := HS.out.1.step HL.out.2.1 HL.out.2.2 h4
            have HN := Lib.hid (And.intro hL' hst)
            have hd : (((q : Int) + 1) == 1) = false := by simp; omega
            clear h3 h4 hst hL' HS
            go_wp2_with fail
            go_roundw
            case rel => exact ⟨q + 1, _, _, by omega, by go_num, HN.out.1, HN.out.2⟩
            case measure => simp [intOf]; omega
        · have hke : 1 = q := by omega
          subst hke
          clear hlt hq
          obtain ⟨⟨⟨va5, hj5⟩, ⟨vt5, ht5⟩⟩, hf5, ho5⟩ := hL
          have hxs : s.xs = List.replicate 1 (tryT (regW tab)) := by
            exact (tries_end ha).2.2.2.2.1
          have hown := ht5.own
          have hb5 := ht5.blk
          obtain ⟨A9', c9', hv, _⟩ := (Row.of_own hown).slice
          subst hv
          obtain ⟨bq, oq, rfl, hcq⟩ := (Row.of_own hown).cells (by
            intro e9
            have h9 := congrArg List.length e9
            rw [hxs, List.length_map, List.length_replicate, List.length_nil] at h9
            omega)
          rw [hxs, List.length_replicate] at hb5
          have c1 := blk_cell hb5 1
          simp only [List.getElem?_toArray, List.getElem?_cons_succ, List.getElem?_cons_zero] at c1
          have HC : Hid (∀ i, i < 1 → wr.cell? ⟨bq, oq + i, none⟩ = some (.string (tryT (regW tab)))) := by
            intro i hi
            refine hcq i _ ?_
            rw [hxs]
            simp [hi]
          have HS := Lib.hid (And.intro (show LInv w2 wr g w4.heap.size ⟨k, tab, name, dest, n, fl, xa, xb, xc, xd, xe⟩ s _ from ⟨⟨⟨va5, hj5⟩, ⟨vt5, ht5⟩⟩, hf5, ho5⟩) ha)
          clear ha hj5 ht5 hf5 ho5 hxs hown hb5 hcq
          have hsz := tryT_size (regW tab)
          have hcut := tryT_cut (regW tab)
          generalize tryT (regW tab) = txt at *
          have HT := Lib.hid hcut
          clear hcut
          go_wp2_with fail
          go_loop [10] (fun vi => ∃ (q : Nat), q ≤ 1 ∧ vi = .int .i64 q) (fun vi => 1 - (intOf vi).toNat)
          case atStart => exact ⟨0, by omega, rfl⟩
          case round =>
            obtain ⟨q, hq, rfl⟩ := hrel
            by_cases hlt : q < 1
            · have cq := HC.out q hlt
              have hx : ((txt.extract 0 3).toList == [116, 114, 121]) = true := by rw [HT.out]; decide +kernel
              have hxs : (3 : Int) ≤ txt.size := by omega
              go_wp2_with fail
              have hq1 : q + 1 ≤ 1 := hlt
              clear hx hxs cq c1
              refine ⟨⟨q + 1, hq1, by first | omega | go_num⟩, by simp [intOf]; omega⟩
            · obtain rfl : q = 1 := by omega
              clear hlt hq
              have hok := tries_ok ⟨k, tab, name, dest, n, fl, xa, xb, xc, xd, xe⟩ hs1 hs2 1 1 (by omega) (Nat.le_refl _) s HS.out.2
              have hst := tries_last tab name 1 s HS.out.2
              go_wp2_with fail
              refine (step_any wr g w4.heap.size _ s _ HS.out.1.jw hok).mono ?_
              rintro e w5 h3
              obtain ⟨rfl, h4⟩ := tries_stay hst h3 HS.out.2
              obtain ⟨v', hL'⟩ := HS.out.1.step HL.out.2.1 HL.out.2.2 h4
              obtain ⟨⟨va', hj'⟩, _⟩ := hL'.jw
              rw [(tries_end HS.out.2).1] at hj'
              have HN := Lib.hid (And.intro hL'.fr hj')
              clear h3 h4 hst hL' hj' hok HS
              go_wp2_with fail
              refine (phase_any w5 g _ 6 va' _ _ _ HN.out.2).mono ?_
              rintro e w6 ⟨rfl, rfl⟩
              go_wp2_with fail
              go_ret
              exact ⟨rfl, (HF2.out.trans HN.out.1 (fun _ _ h => h)).below (Nat.le_refl _) (fun _ _ => id)⟩
    · obtain ⟨m, rfl⟩ := Int.eq_ofNat_of_zero_le (show (0 : Int) ≤ b by omega)
      have hm1 : 1 ≤ m := by omega
      have hm2 : m ≤ 100 := by omega
      clear hb0 hb1
      have HSM2 := Lib.hid (HSM.out (by simp))
      have hB := HB2.out
      have b0 := blk_cell hB 0
      have b1 := blk_cell hB 1
      have b2 := blk_cell hB 2
      have b3 := blk_cell hB 3
      have b4 := blk_cell hB 4
      have b5 := blk_cell hB 5
      have b6 := blk_cell hB 6
      have b7 := blk_cell hB 7
      have b8 := blk_cell hB 8
      have b9 := blk_cell hB 9
      have b10 := blk_cell hB 10
      simp only [List.getElem?_toArray, List.getElem?_cons_succ, List.getElem?_cons_zero] at b0 b1 b2 b3 b4 b5 b6 b7 b8 b9 b10
      have hm : max1 (m : Int) = (m : Int) := by unfold max1; rw [if_neg (by omega)]
      have HM := Lib.hid hm
      clear HSM hm hB HB2 HD
      go_wp2_with fail
      refine (new_any w2 k tab name dest n fl A6 A7 A8 A9 A10 c6 c7 c8 c9 c10 D (m : Int) (HA2.out.rd k tab name dest n fl) ⟨by have := HSM2.out.l6; omega, by have := HSM2.out.l7; omega, by have := HSM2.out.l8; omega, by have := HSM2.out.l9; omega, by have := HSM2.out.l10; omega⟩).mono ?_
      rintro e w4 ⟨g, xa, xb, xc, xd, xe, va, rfl, hg, _, hj, hf4⟩
      have hT : Told (w4.alloc (.cells #[.slice none 0 0, .slice none 0 0, .int .i64 0] 36)) w4.heap.size (.slice none 0 0) (.slice none 0 0) [] [] 0 :=
        ⟨blk_new w4 _, Row.nil _ _, World.ownsRow_nil _ _ _ _, by simp⟩
      have hL := LInv.first hf4 hj ((Fr.refl (fun _ => False) w4).alloc _) hT
      rw [HM.out] at hL
      have HL := Lib.hid (And.intro hL (And.intro hg hf4.size))
      have hs1 : name.size ≤ 1000 := by have := HSM2.out.a2; omega
      have hs2 : tab.size ≤ 1000 := by have := HSM2.out.a1; omega
      clear hf4 hj hT hL b0 b1 b2 b3 b4 b5 b6 b7 b8 b9 b10 HM HA2
      go_wp2_with fail
      go_loopw [7] (fun vi wr => ∃ (q : Nat) (s : JA) (v : Value), q ≤ m ∧ vi = .int .i64 ((q : Int) + 1) ∧ LInv w2 wr g w4.heap.size ⟨k, tab, name, dest, n, fl, xa, xb, xc, xd, xe⟩ s v ∧ triesA tab m q s) (fun vi _ => m + 1 - (intOf vi).toNat)
      case atStart => exact ⟨0, _, _, by omega, rfl, HL.out.1, by rw [triesA, if_pos (by omega)]; exact ⟨rfl, by simp, rfl, rfl, rfl, rfl⟩⟩
      case round =>
        obtain ⟨q, s, v, hq, rfl, hL, ha⟩ := hrel
        by_cases hlt : q < m
        · have hok := tries_ok ⟨k, tab, name, dest, n, fl, xa, xb, xc, xd, xe⟩ hs1 hs2 m q (by omega) hq s ha
          have HS := Lib.hid (And.intro hL (And.intro ha hok))
          clear hL ha hok
          go_wp2_with fail
          refine (step_any wr g w4.heap.size _ s v HS.out.1.jw HS.out.2.2).mono ?_
          rintro e w5 h3
          have hst := tries_step tab name m q hlt s HS.out.2.1
          by_cases hqe : q + 1 = m
          · obtain ⟨rfl, h4⟩ := tries_ret_end hqe h3 hst
            obtain ⟨v', hL'⟩ := HS.out.1.step HL.out.2.1 HL.out.2.2 h4
            have HN := Lib.hid (And.intro hL' hst)
            have hd : (((q : Int) + 1) == (m : Int)) = true := by simp; omega
            clear h3 h4 hst hL' HS
            go_wp2_with fail
            go_roundw
            case rel => exact ⟨q + 1, _, _, by omega, by go_num, HN.out.1, HN.out.2⟩
            case measure => simp [intOf]; omega
          · obtain ⟨rfl, h4⟩ := tries_ret (by omega) h3 hst
            obtain ⟨v', hL'⟩ := HS.out.1.step HL.out.2.1 HL.out.2.2 h4
            have HN := Lib.hid (And.intro hL' hst)
            have hd : (((q : Int) + 1) == (m : Int)) = false := by simp; omega
            clear h3 h4 hst hL' HS
            go_wp2_with fail
            go_roundw
            case rel => exact ⟨q + 1, _, _, by omega, by go_num, HN.out.1, HN.out.2⟩
            case measure => simp [intOf]; omega
        · have hke : m = q := by omega
          subst hke
          clear hlt hq
          obtain ⟨⟨⟨va5, hj5⟩, ⟨vt5, ht5⟩⟩, hf5, ho5⟩ := hL
          have hxs : s.xs = List.replicate m (tryT (regW tab)) := by
            exact (tries_end ha).2.2.2.2.1
          have hown := ht5.own
          have hb5 := ht5.blk
          obtain ⟨A9', c9', hv, _⟩ := (Row.of_own hown).slice
          subst hv
          obtain ⟨bq, oq, rfl, hcq⟩ := (Row.of_own hown).cells (by
            intro e9
            have h9 := congrArg List.length e9
            rw [hxs, List.length_map, List.length_replicate, List.length_nil] at h9
            omega)
          rw [hxs, List.length_replicate] at hb5
          have c1 := blk_cell hb5 1
          simp only [List.getElem?_toArray, List.getElem?_cons_succ, List.getElem?_cons_zero] at c1
          have HC : Hid (∀ i, i < m → wr.cell? ⟨bq, oq + i, none⟩ = some (.string (tryT (regW tab)))) := by
            intro i hi
            refine hcq i _ ?_
            rw [hxs]
            simp [hi]
          have HS := Lib.hid (And.intro (show LInv w2 wr g w4.heap.size ⟨k, tab, name, dest, n, fl, xa, xb, xc, xd, xe⟩ s _ from ⟨⟨⟨va5, hj5⟩, ⟨vt5, ht5⟩⟩, hf5, ho5⟩) ha)
          clear ha hj5 ht5 hf5 ho5 hxs hown hb5 hcq
          have hsz := tryT_size (regW tab)
          have hcut := tryT_cut (regW tab)
          generalize tryT (regW tab) = txt at *
          have HT := Lib.hid hcut
          clear hcut
          go_wp2_with fail
          go_loop [10] (fun vi => ∃ (q : Nat), q ≤ m ∧ vi = .int .i64 q) (fun vi => m - (intOf vi).toNat)
          case atStart => exact ⟨0, by omega, rfl⟩
          case round =>
            obtain ⟨q, hq, rfl⟩ := hrel
            by_cases hlt : q < m
            · have cq := HC.out q hlt
              have hx : ((txt.extract 0 3).toList == [116, 114, 121]) = true := by rw [HT.out]; decide +kernel
              have hxs : (3 : Int) ≤ txt.size := by omega
              go_wp2_with fail
              have hq1 : q + 1 ≤ m := hlt
              clear hx hxs cq c1
              refine ⟨⟨q + 1, hq1, by first | omega | go_num⟩, by simp [intOf]; omega⟩
            · obtain rfl : q = m := by omega
              clear hlt hq
              have hok := tries_ok ⟨k, tab, name, dest, n, fl, xa, xb, xc, xd, xe⟩ hs1 hs2 q q (by omega) (Nat.le_refl _) s HS.out.2
              have hst := tries_last tab name q s HS.out.2
              go_wp2_with fail
              refine (step_any wr g w4.heap.size _ s _ HS.out.1.jw hok).mono ?_
              rintro e w5 h3
              obtain ⟨rfl, h4⟩ := tries_stay hst h3 HS.out.2
              obtain ⟨v', hL'⟩ := HS.out.1.step HL.out.2.1 HL.out.2.2 h4
              obtain ⟨⟨va', hj'⟩, _⟩ := hL'.jw
              rw [(tries_end HS.out.2).1] at hj'
              have HN := Lib.hid (And.intro hL'.fr hj')
              clear h3 h4 hst hL' hj' hok HS
              go_wp2_with fail
              refine (phase_any w5 g _ 6 va' _ _ _ HN.out.2).mono ?_
              rintro e w6 ⟨rfl, rfl⟩
              go_wp2_with fail
              go_ret
              exact ⟨rfl, (HF2.out.trans HN.out.1 (fun _ _ h => h)).below (Nat.le_refl _) (fun _ _ => id)⟩
end Go.Proofs.Ytplpdeanepdokaa
