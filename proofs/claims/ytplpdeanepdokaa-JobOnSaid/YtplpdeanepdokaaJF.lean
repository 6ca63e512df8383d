/- JobEnds: the walk. -/
import Derived.Test.YtplpdeanepdokaaJE
import Derived.Test.YtplpdeanepdokaaJG
namespace Go.Proofs.Ytplpdeanepdokaa
open Go.RowKit H Go.Proofs.Ytplpdeanepdokaa.PJobSteps
open Go.Proofs.YtplpdeanepdokaaW.PrintWords (Kd)

/-- The statement that came in. -/
structure ArgS (w : World) (A6 A7 A8 A9 A10 : Option Addr) (c6 c7 c8 c9 c10 : Nat) (D : Sd) : Prop where
  r6 : Kd.C k60 w A6 D.a.length D.a
  r7 : Kd.C k62 w A7 D.b.length D.b
  r8 : Kd.C k64 w A8 D.c.length D.c
  r9 : Kd.C k66 w A9 D.d.length D.d
  r10 : Kd.C Kd.string w A10 D.e.length D.e
  l6 : D.a.length ≤ c6
  l7 : D.b.length ≤ c7
  l8 : D.c.length ≤ c8
  l9 : D.d.length ≤ c9
  l10 : D.e.length ≤ c10
  d6 : Rd w (.slice A6 D.a.length c6) D.a.length (D.a.flatMap rc)
  d7 : Rd w (.slice A7 D.b.length c7) D.b.length (D.b.flatMap setc)
  d8 : Rd w (.slice A8 D.c.length c8) D.c.length (D.c.flatMap condc)
  d9 : Rd w (.slice A9 D.d.length c9) D.d.length (D.d.flatMap colc)
  d10 : Rd w (.slice A10 D.e.length c10) D.e.length (D.e.flatMap strc)
theorem ArgS.fr {w w' : World} {A6 A7 A8 A9 A10 : Option Addr} {c6 c7 c8 c9 c10 : Nat} {D : Sd} (h : ArgS w A6 A7 A8 A9 A10 c6 c7 c8 c9 c10 D) (hf : Fr (fun _ => False) w w') : ArgS w' A6 A7 A8 A9 A10 c6 c7 c8 c9 c10 D :=
  have hb : Below w.heap.size w w' := hf.below (Nat.le_refl _) (fun _ _ => id)
  ⟨Kd.C_below h.r6 hb, Kd.C_below h.r7 hb, Kd.C_below h.r8 hb, Kd.C_below h.r9 hb, Kd.C_below h.r10 hb, h.l6, h.l7, h.l8, h.l9, h.l10,
    h.d6.fr hf (fun _ _ => id), h.d7.fr hf (fun _ _ => id), h.d8.fr hf (fun _ _ => id), h.d9.fr hf (fun _ _ => id), h.d10.fr hf (fun _ _ => id)⟩
theorem ArgS.rd {w : World} {A6 A7 A8 A9 A10 : Option Addr} {c6 c7 c8 c9 c10 : Nat} {D : Sd} (h : ArgS w A6 A7 A8 A9 A10 c6 c7 c8 c9 c10 D) (k : Int) (tab name dest : ByteArray) (n : Int) (fl : Bool) :
    SxRd w ⟨k, tab, name, dest, n, fl, .slice A6 D.a.length c6, .slice A7 D.b.length c7, .slice A8 D.c.length c8, .slice A9 D.d.length c9, .slice A10 D.e.length c10⟩ D := ⟨h.d6, h.d7, h.d8, h.d9, h.d10⟩

def bl (k : Nat) : List Int := (List.range k).flatMap fun (j : Nat) => [1, 1 + 2 * (j : Int)]
theorem bl_succ (k : Nat) : bl (k + 1) = bl k ++ [1, 1 + 2 * (k : Int)] := by simp [bl, List.range_succ]
theorem bl_length (k : Nat) : (bl k).length = 2 * k := by
  induction k with
  | zero => rfl
  | succ k ih => rw [bl_succ, List.length_append, ih]; simp; omega
theorem batA_bl (n : Nat) : ∀ d, d ≤ n → batA n d = (List.range d).flatMap (fun (j : Nat) => [1, 1 + 2 * ((n - d + j : Nat) : Int)]) ++ [1, 0, 1, 0]
  | 0, _ => rfl
  | d + 1, h => by
    rw [batA, batA_bl n d (by omega), List.range_succ_eq_map, List.flatMap_cons, List.flatMap_map]
    have : (fun (a : Nat) => [(1 : Int), 1 + 2 * ((n - d + a : Nat) : Int)]) = fun a => [1, 1 + 2 * ((n - (d + 1) + a.succ : Nat) : Int)] := by
      funext a
      rw [show n - (d + 1) + a.succ = n - d + a by omega]
    rw [this]
    simp
theorem ends_first (n : Nat) : [1, 0, 0] ++ bl n ++ [1, 0, 1, 0] = 1 :: 0 :: 0 :: batA n n := by
  rw [batA_bl n n (Nat.le_refl _)]
  simp [bl]
theorem info3' : (Try.prog.info? 3).map (fun i => (i.zero, i.size, i.bytes)) = some (some (.int .i64 0), 1, 8) := by kernel_rfl
/-- A literal's own row. -/
theorem own_lit (w : World) (e : TypeId) (l : List Value) (n : Nat) (hn : n = l.length) (hm : l.length ≤ 1000000) (o : Obj) (ho : o = .cells l.toArray e) :
    (w.alloc o).ownsRow w.heap.size e 1 (.slice (some ⟨w.heap.size, 0, none⟩) n n) n l := by
  subst hn ho
  exact ⟨by simp, .inr ⟨w.heap.size, l.length, l.toArray, rfl, Nat.le_refl _, blk_new w _, Nat.le_refl _, by unfold maxLen; omega, by simp, by simp⟩⟩
theorem ends_ret {w w' : World} {g p : Nat} {v : Value} {x : Sx} {s : JA} {e : Ending} {n k : Nat} (hk : k ≤ n + 3) (h : StepPost w g p v x s e w') (ha : endsA n (k + 1) s) :
    e = .returned (.tuple #[.int .i64 0, .bool (decide (k = n + 3))]) ∧ JPa w g p v x s w' ∧ (k = n + 3 → s.held = 0) := by
  obtain ⟨rfl, hp⟩ := h
  obtain ⟨h1, h2⟩ := ends_phase n (k + 1) (by omega) s ha
  refine ⟨?_, hp, fun e => (h2 (by omega)).2⟩
  have e1 : (if s.phase < 5 then (0 : Int) else s.err) = 0 := by
    split
    · rfl
    · exact (h2 (by omega)).1
  have e2 : decide (5 ≤ s.phase) = decide (k = n + 3) := by
    rw [Bool.eq_iff_iff]
    simp
    omega
  rw [e1, e2]

def LawDone (w w' : World) : Prop := Below w.heap.size w w'
set_option maxHeartbeats 2000000 in
theorem ends_walk (w : World) (k : Int) (tab name dest : ByteArray) (n : Int) (fl : Bool) (A6 A7 A8 A9 A10 : Option Addr) (c6 c7 c8 c9 c10 : Nat) (D : Sd) (b : Int)
    (h : ArgS w A6 A7 A8 A9 A10 c6 c7 c8 c9 c10 D) :
    Calls Try.prog 3 #[.agg #[.int .i64 k, .string tab, .string name, .string dest, .int .i64 n, .bool fl, .slice A6 D.a.length c6, .slice A7 D.b.length c7, .slice A8 D.c.length c8, .slice A9 D.d.length c9, .slice A10 D.e.length c10], .int .i64 b] w
      fun e w' => e = .returned (.bool true) ∧ LawDone w w' := by
  have HA := Lib.hid h
  clear h
  go_enter Try.func3, Try.ntmps3
  go_wp2_with fail
  refine (alive_any _).mono ?_
  rintro e w1 ⟨rfl, h1⟩
  have hf1 : Fr (fun _ => False) w w1 := ((Fr.refl _ w).alloc _).trans h1 (fun _ _ h => h)
  have hB := h1.blk (blk_new w (.cells #[.int .i64 k, .string tab, .string name, .string dest, .int .i64 n, .bool fl, .slice A6 D.a.length c6, .slice A7 D.b.length c7, .slice A8 D.c.length c8, .slice A9 D.d.length c9, .slice A10 D.e.length c10] 28)) id
  have b0 := blk_cell hB 0
  have b1 := blk_cell hB 1
  have b2 := blk_cell hB 2
  have b3 := blk_cell hB 3
  have b4 := blk_cell hB 4
  have b5 := blk_cell hB 5
  have b6 := blk_cell hB 6
  have b7 := blk_cell hB 7
  have b8 := blk_cell hB 8
  have b9 := blk_cell hB 9
  have b10 := blk_cell hB 10
  simp only [List.getElem?_toArray, List.getElem?_cons_succ, List.getElem?_cons_zero] at b0 b1 b2 b3 b4 b5 b6 b7 b8 b9 b10
  have HB := Lib.hid hB
  have HF1 := Lib.hid hf1
  have HA1 := Lib.hid (HA.out.fr hf1)
  clear h1 hf1 hB HA
  go_wp2_with fail
  obtain ⟨K, r, hgr, hsm⟩ := great_some k tab name dest n fl D.a D.b D.c D.d D.e
  refine (interlocklaw15_GreatStmt.calls K k tab name dest n fl A6 c6 D.a A7 c7 D.b A8 c8 D.c A9 c9 D.d A10 c10 D.e r w1 HA1.out.r6 HA1.out.l6 HA1.out.r7 HA1.out.l7 HA1.out.r8 HA1.out.l8 HA1.out.r9 HA1.out.l9 HA1.out.r10 HA1.out.l10 hgr).mono ?_
  rintro e w2 ⟨rfl, hb2⟩
  have hf2 := Fr.of_below hb2
  have HF2 := Lib.hid (HF1.out.trans hf2 (fun _ _ h => h))
  have HA2 := Lib.hid (HA1.out.fr hf2)
  have HB2 := Lib.hid (hf2.blk HB.out id)
  have HD : Hid (LawDone w w2) := (HF1.out.trans hf2 (fun _ _ h => h)).below (Nat.le_refl _) (fun _ _ => id)
  have HSM := Lib.hid hsm
  clear hb2 hf2 HB HF1 HA1 b0 b1 b2 b3 b4 b5 b6 b7 b8 b9 b10 hgr hsm
  cases r with
  | true =>
    go_wp2_with fail
    go_ret
    exact ⟨rfl, HD.out⟩
  | false =>
    by_cases hb0 : b < 0
    · go_wp2_with fail
      go_ret
      exact ⟨rfl, HD.out⟩
    by_cases hb1 : 60 < b
    · go_wp2_with fail
      go_ret
      exact ⟨rfl, HD.out⟩
    obtain ⟨m, rfl⟩ := Int.eq_ofNat_of_zero_le (Int.not_lt.1 hb0)
    have hm : m ≤ 60 := by omega
    clear hb0 hb1 HD
    obtain ⟨i0, hi, hz0, hz1, hz2⟩ := info_parts info3'
    have HI := Lib.hid (And.intro hi (And.intro hz0 (And.intro hz1 hz2)))
    have HO0 := Lib.hid (own_lit w2 3 [.int .i64 1, .int .i64 0, .int .i64 0] 3 rfl (by simp) _ rfl)
    clear hi hz0 hz1 hz2
    go_wp2_with fail
    go_loopw [5, 6] (fun va vi wr => ∃ (j : Nat), j ≤ m ∧ vi = .int .i64 j ∧ wr.ownsRow w2.heap.size 3 1 va (3 + 2 * j) (([1, 0, 0] ++ bl j).map (Value.int .i64)) ∧ Fr (fun _ => False) w2 wr) (fun _ vi _ => m - (intOf vi).toNat)
    case atStart => exact ⟨0, by omega, rfl, HO0.out, (Fr.refl _ w2).alloc _⟩
    case round =>
      obtain ⟨j, hj, rfl, ho, hfr⟩ := hrel
      obtain ⟨Aj, cj, rfl⟩ := own_slice ho
      by_cases hlt : j < m
      · have hown := ho.alloc (.cells #[.int .i64 1, .int .i64 (1 + 2 * (j : Int))] 3)
        have hnw : ∀ (q : Nat) (u : Value), [Value.int .i64 1, Value.int .i64 (1 + 2 * (j : Int))][q]? = some u → (wr.alloc (.cells #[.int .i64 1, .int .i64 (1 + 2 * (j : Int))] 3)).cell? ((⟨wr.heap.size, 0, none⟩ : Addr).add q) = some u := by
          intro q u hu
          rw [Addr.add_lit, Nat.zero_add, blk_cell (blk_new wr _)]
          simpa using hu
        have HH := Lib.hid (And.intro hown (And.intro hnw hfr))
        have HC : Hid ((∀ u ∈ [Value.int .i64 1, Value.int .i64 (1 + 2 * (j : Int))], u.oneCell' = true) ∧ 3 + 2 * j + 2 ≤ maxLen ∧ (3 + 2 * j + 2) * 8 ≤ 140737488355328 ∧ w2.heap.size ≤ (wr.alloc (.cells #[.int .i64 1, .int .i64 (1 + 2 * (j : Int))] 3)).heap.size) := by
          refine ⟨by intro u hu; simp at hu; rcases hu with h | h <;> (subst h; rfl), by unfold maxLen; omega, by omega, ?_⟩
          have := hfr.size
          simp
          omega
        clear ho hown hnw hfr
        go_wp2_with (at_builtin; refine wpList_append_own_at _ rfl _ _ 31 rfl w2.heap.size 3 i0 (.int .i64 0) 1 8 Try.underlying31 HI.out.1 HI.out.2.1 HI.out.2.2.1 HI.out.2.2.2 rfl (by decide) _ _ _ rfl HH.out.1 ⟨wr.heap.size, 0, none⟩ 2 2 [.int .i64 1, .int .i64 (1 + 2 * (j : Int))] rfl rfl HH.out.2.1 HC.out.1 HC.out.2.1 HC.out.2.2.1 HC.out.2.2.2 ?_)
        intro v' w3 hown1 hg _ hat
        obtain ⟨A1, k1, rfl⟩ := own_slice hown1
        have HN : Hid (w3.ownsRow w2.heap.size 3 1 (.slice A1 (3 + 2 * j + 2) k1) (3 + 2 * (j + 1)) (([1, 0, 0] ++ bl (j + 1)).map (Value.int .i64)) ∧ Fr (fun _ => False) w2 w3) := by
          refine ⟨?_, ((HH.out.2.2.alloc _).grown hg ?_)⟩
          · rw [bl_succ, show 3 + 2 * (j + 1) = 3 + 2 * j + 2 by omega]
            simpa using hown1
          · intro i hi he
            have := (HH.out.1.lt i he).1
            omega
        clear hown1 hg hat HH HC
        go_wp2_with fail
        go_roundw
        case rel => exact ⟨j + 1, by omega, by go_num, HN.out.1, HN.out.2⟩
        case measure => simp [intOf]; omega
      · have hje : j = m := by omega
        subst hje
        clear hlt
        have hown := ho.alloc (.cells #[.int .i64 1, .int .i64 0, .int .i64 1, .int .i64 0] 3)
        have hnw : ∀ (q : Nat) (u : Value), [Value.int .i64 1, .int .i64 0, .int .i64 1, .int .i64 0][q]? = some u → (wr.alloc (.cells #[.int .i64 1, .int .i64 0, .int .i64 1, .int .i64 0] 3)).cell? ((⟨wr.heap.size, 0, none⟩ : Addr).add q) = some u := by
          intro q u hu
          rw [Addr.add_lit, Nat.zero_add, blk_cell (blk_new wr _)]
          simpa using hu
        have HH := Lib.hid (And.intro hown (And.intro hnw hfr))
        have HC : Hid ((∀ u ∈ [Value.int .i64 1, .int .i64 0, .int .i64 1, .int .i64 0], u.oneCell' = true) ∧ 3 + 2 * j + 4 ≤ maxLen ∧ (3 + 2 * j + 4) * 8 ≤ 140737488355328 ∧ w2.heap.size ≤ (wr.alloc (.cells #[.int .i64 1, .int .i64 0, .int .i64 1, .int .i64 0] 3)).heap.size) := by
          refine ⟨by intro u hu; simp at hu; rcases hu with h | h | h | h <;> (subst h; rfl), by unfold maxLen; omega, by omega, ?_⟩
          have := hfr.size
          simp
          omega
        clear ho hown hnw hfr
        go_wp2_with (at_builtin; refine wpList_append_own_at _ rfl _ _ 31 rfl w2.heap.size 3 i0 (.int .i64 0) 1 8 Try.underlying31 HI.out.1 HI.out.2.1 HI.out.2.2.1 HI.out.2.2.2 rfl (by decide) _ _ _ rfl HH.out.1 ⟨wr.heap.size, 0, none⟩ 4 4 [.int .i64 1, .int .i64 0, .int .i64 1, .int .i64 0] rfl rfl HH.out.2.1 HC.out.1 HC.out.2.1 HC.out.2.2.1 HC.out.2.2.2 ?_)
        intro v' w3 hown1 hg _ hat
        obtain ⟨A1, k1, rfl⟩ := own_slice hown1
        have hf3 : Fr (fun _ => False) w2 w3 := (HH.out.2.2.alloc _).grown hg (fun i hi he => by have := (HH.out.1.lt i he).1; omega)
        have hown2 : w3.ownsRow w2.heap.size 3 1 (.slice A1 (3 + 2 * j + 4) k1) (3 + 2 * j + 4) ((1 :: 0 :: 0 :: batA j j).map (Value.int .i64)) := by
          rw [← ends_first]
          simpa using hown1
        have hB := hf3.blk HB2.out id
        have b0 := blk_cell hB 0
        have b1 := blk_cell hB 1
        have b2 := blk_cell hB 2
        have b3 := blk_cell hB 3
        have b4 := blk_cell hB 4
        have b5 := blk_cell hB 5
        have b6 := blk_cell hB 6
        have b7 := blk_cell hB 7
        have b8 := blk_cell hB 8
        have b9 := blk_cell hB 9
        have b10 := blk_cell hB 10
        simp only [List.getElem?_toArray, List.getElem?_cons_succ, List.getElem?_cons_zero] at b0 b1 b2 b3 b4 b5 b6 b7 b8 b9 b10
        have HN := Lib.hid (And.intro hown2 (HF2.out.trans hf3 (fun _ _ h => h)))
        have HA3 := Lib.hid (HA2.out.fr hf3)
        have HSM2 := Lib.hid (HSM.out (by simp))
        clear hown1 hown2 hg hat HH HC hf3 hB HA2 HB2 HF2 HSM HO0
        go_wp2_with fail
        refine (new_any w3 k tab name dest n fl A6 A7 A8 A9 A10 c6 c7 c8 c9 c10 D 1 (HA3.out.rd k tab name dest n fl) ⟨by have := HSM2.out.l6; omega, by have := HSM2.out.l7; omega, by have := HSM2.out.l8; omega, by have := HSM2.out.l9; omega, by have := HSM2.out.l10; omega⟩).mono ?_
        rintro e w4 ⟨g, xa, xb, xc, xd, xe, va, rfl, hg, _, hj, hf4⟩
        have ho4 := hf4.own HN.out.1 (fun _ _ => id)
        have hT : Told (w4.alloc (.cells #[.slice A1 (3 + 2 * j + 4) k1, .slice none 0 0, .int .i64 0] 36)) w4.heap.size (.slice A1 (3 + 2 * j + 4) k1) (.slice none 0 0) (1 :: 0 :: 0 :: batA j j) [] 0 := by
          have hrow := (Row.of_own ho4).fr ((Fr.refl (fun _ => False) w4).alloc (.cells #[.slice A1 (3 + 2 * j + 4) k1, .slice none 0 0, .int .i64 0] 36)) (fun _ _ _ _ => id)
          refine ⟨blk_new w4 _, ?_, World.ownsRow_nil _ _ _ _, by simp⟩
          have hl : (1 :: 0 :: 0 :: batA j j).length = 3 + 2 * j + 4 := by simp [batA_length]; omega
          rw [hl]
          exact hrow
        have hL := LInv.first hf4 hj ((Fr.refl (fun _ => False) w4).alloc _) hT
        have HL := Lib.hid (And.intro hL (And.intro hg hf4.size))
        have HFW := Lib.hid HN.out.2
        have hs1 : name.size ≤ 1000 := by have := HSM2.out.a2; omega
        have hs2 : tab.size ≤ 1000 := by have := HSM2.out.a1; omega
        clear hf4 hj hT hL ho4 HN HA3 b0 b1 b2 b3 b4 b5 b6 b7 b8 b9 b10
        go_wp2_with fail
        go_loopw [9] (fun vi wr => ∃ (q : Nat) (s : JA) (v : Value), q ≤ j + 3 ∧ vi = .int .i64 q ∧ LInv w3 wr g w4.heap.size ⟨k, tab, name, dest, n, fl, xa, xb, xc, xd, xe⟩ s v ∧ endsA j q s) (fun vi _ => j + 4 - (intOf vi).toNat)
        case atStart => exact ⟨0, _, _, by omega, rfl, HL.out.1, ⟨rfl, rfl, rfl, rfl, rfl⟩⟩
        case round =>
          obtain ⟨q, s, v, hq, rfl, hL, ha⟩ := hrel
          have hok := ends_ok ⟨k, tab, name, dest, n, fl, xa, xb, xc, xd, xe⟩ hs1 hs2 j (by omega) q hq s ha
          have HS := Lib.hid (And.intro hL (And.intro ha hok))
          clear hL ha hok
          go_wp2_with fail
          refine (step_any wr g w4.heap.size _ s v HS.out.1.jw HS.out.2.2).mono ?_
          rintro e w5 h3
          have hst := ends_step tab name j (by omega) q hq s HS.out.2.1
          obtain ⟨rfl, h4, hh⟩ := ends_ret hq h3 hst
          obtain ⟨v', hL'⟩ := HS.out.1.step HL.out.2.1 HL.out.2.2 h4
          have HN := Lib.hid (And.intro hL' (And.intro hst hh))
          clear h3 h4 hst hL' HS hh
          by_cases hqe : q = j + 3
          · have hd : decide (q = j + 3) = true := decide_eq_true hqe
            obtain ⟨⟨hj5, ⟨vt5, ht5⟩⟩, hf5, _⟩ := HN.out.1
            have hb5 := ht5.blk
            rw [HN.out.2.2 hqe] at hb5
            have c2 := blk_cell hb5 2
            simp only [List.getElem?_toArray, List.getElem?_cons_succ, List.getElem?_cons_zero] at c2
            have HF : Hid (LawDone w w5) := (HFW.out.trans hf5 (fun _ _ h => h)).below (Nat.le_refl _) (fun _ _ => id)
            clear hj5 ht5 hf5 hb5 HN hqe
            go_wp2_with fail
            go_ret
            exact ⟨rfl, HF.out⟩
          · have hd : decide (q = j + 3) = false := decide_eq_false hqe
            go_wp2_with fail
            go_roundw
            case rel => exact ⟨q + 1, _, _, by omega, by go_num, HN.out.1, HN.out.2.1⟩
            case measure => simp [intOf]; omega
end Go.Proofs.Ytplpdeanepdokaa
