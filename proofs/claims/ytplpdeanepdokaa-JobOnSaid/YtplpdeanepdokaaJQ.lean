/- A statement that came in, whole. -/
import Derived.Test.YtplpdeanepdokaaJR
namespace Go.Proofs.Ytplpdeanepdokaa
open Go.RowKit H Go.Proofs.Ytplpdeanepdokaa.PJobSteps
open Go.Proofs.YtplpdeanepdokaaW.PrintWords (Kd)

theorem rd_of {α : Type} {f : α → List Value} {sz : Nat} (hf : ∀ x, (f x).length = sz) (hsz : 0 < sz) {w : World} {A : Option Addr} {c : Nat} {l : List α} (hl : l.length ≤ c)
    (h : 0 < l.length → ∃ ad, A = some ad ∧ ∀ i x, l[i]? = some x → ∀ (j : Nat) (u : Value), (f x)[j]? = some u → w.cell? (ad.add (i * sz + j)) = some u) : Rd w (.slice A l.length c) l.length (l.flatMap f) := by
  refine ⟨A, c, rfl, hl, ?_⟩
  by_cases h0 : 0 < l.length
  · obtain ⟨ad, rfl, hc⟩ := h h0
    refine .inr ⟨ad, rfl, fun q u hu => ?_⟩
    have hq : q < l.length * sz := by
      have := (List.getElem?_eq_some_iff.1 hu).1
      rwa [flat_length f sz hf] at this
    have hi : q / sz < l.length := by
      rw [Nat.div_lt_iff_lt_mul hsz]
      exact hq
    have hj : q % sz < sz := Nat.mod_lt _ hsz
    have he : q / sz * sz + q % sz = q := by rw [Nat.mul_comm]; exact Nat.div_add_mod q sz
    rw [← he, flat_get f sz hf l (q / sz) (q % sz) hi hj] at hu
    have := hc (q / sz) _ (List.getElem?_eq_getElem hi) (q % sz) u hu
    rwa [he] at this
  · left
    have : l = [] := List.eq_nil_of_length_eq_zero (by omega)
    rw [this]
    rfl
theorem kd_of {α : Type} {d : Kd α} {f : α → List Value} {sz : Nat} (hs : d.sz = sz) (hk : ∀ w x, d.K w x (f x)) (hf : ∀ x, (f x).length = sz) {w : World} {A : Option Addr} {l : List α} (hm : l.length ≤ maxLen)
    (h : 0 < l.length → ∃ ad, A = some ad ∧ ∀ i x, l[i]? = some x → ∀ (j : Nat) (u : Value), (f x)[j]? = some u → w.cell? (ad.add (i * sz + j)) = some u) : Kd.C d w A l.length l := by
  unfold maxLen at hm
  refine ⟨rfl, by omega, fun h0 => ?_⟩
  obtain ⟨ad, e, hc⟩ := h h0
  refine ⟨ad, e, fun j x hj => ⟨f x, by rw [hf, hs], hk w x, fun i u hu => ?_⟩⟩
  rw [hs]
  exact hc j x hj i u hu

section
variable {H : Type} {enc : TypeId × Value → H} {w : World} {base : Nat} {spare : Nat → Bool} {held : Bool} {fuel : Nat} {cs : List Value} {x : DataW H × List MemPlace}
theorem stmt_reads (h : DataW.trod enc Try.prog w base spare held fuel 28 cs = some x) :
    ∃ (k : Int) (tab name dest : ByteArray) (n : Int) (fl : Bool) (A6 A7 A8 A9 A10 : Option Addr) (c6 c7 c8 c9 c10 : Nat) (D : Sd),
      cs = [.int .i64 k, .string tab, .string name, .string dest, .int .i64 n, .bool fl, .slice A6 D.a.length c6, .slice A7 D.b.length c7, .slice A8 D.c.length c8, .slice A9 D.d.length c9, .slice A10 D.e.length c10] ∧
      ArgS w A6 A7 A8 A9 A10 c6 c7 c8 c9 c10 D := by
  obtain ⟨xs, n, rfl, _, hl, hxs, hf⟩ := DataW.trod_struct Try.underlying28 h
  rw [ce28] at hl
  obtain ⟨v0, v1, v2, v3, v4, v5, v6, v7, v8, v9, v10, rfl⟩ := len11 hl
  obtain ⟨y0, e0⟩ := some_of (i := 0) hxs (by simp)
  obtain ⟨y1, e1⟩ := some_of (i := 1) hxs (by simp)
  obtain ⟨y2, e2⟩ := some_of (i := 2) hxs (by simp)
  obtain ⟨y3, e3⟩ := some_of (i := 3) hxs (by simp)
  obtain ⟨y4, e4⟩ := some_of (i := 4) hxs (by simp)
  obtain ⟨y5, e5⟩ := some_of (i := 5) hxs (by simp)
  obtain ⟨y6, e6⟩ := some_of (i := 6) hxs (by simp)
  obtain ⟨y7, e7⟩ := some_of (i := 7) hxs (by simp)
  obtain ⟨y8, e8⟩ := some_of (i := 8) hxs (by simp)
  obtain ⟨y9, e9⟩ := some_of (i := 9) hxs (by simp)
  obtain ⟨y10, e10⟩ := some_of (i := 10) hxs (by simp)
  have f0 : DataW.trod enc Try.prog w base spare held n 3 (([v0, v1, v2, v3, v4, v5, v6, v7, v8, v9, v10].drop 0).take (Try.prog.cellsOf 3)) = xs[0]? := hf 0 _ rfl
  have f1 : DataW.trod enc Try.prog w base spare held n 9 (([v0, v1, v2, v3, v4, v5, v6, v7, v8, v9, v10].drop 1).take (Try.prog.cellsOf 9)) = xs[1]? := hf 1 _ rfl
  have f2 : DataW.trod enc Try.prog w base spare held n 9 (([v0, v1, v2, v3, v4, v5, v6, v7, v8, v9, v10].drop 2).take (Try.prog.cellsOf 9)) = xs[2]? := hf 2 _ rfl
  have f3 : DataW.trod enc Try.prog w base spare held n 9 (([v0, v1, v2, v3, v4, v5, v6, v7, v8, v9, v10].drop 3).take (Try.prog.cellsOf 9)) = xs[3]? := hf 3 _ rfl
  have f4 : DataW.trod enc Try.prog w base spare held n 3 (([v0, v1, v2, v3, v4, v5, v6, v7, v8, v9, v10].drop 4).take (Try.prog.cellsOf 3)) = xs[4]? := hf 4 _ rfl
  have f5 : DataW.trod enc Try.prog w base spare held n 4 (([v0, v1, v2, v3, v4, v5, v6, v7, v8, v9, v10].drop 5).take (Try.prog.cellsOf 4)) = xs[5]? := hf 5 _ rfl
  have f6 : DataW.trod enc Try.prog w base spare held n 22 (([v0, v1, v2, v3, v4, v5, v6, v7, v8, v9, v10].drop 6).take (Try.prog.cellsOf 22)) = xs[6]? := hf 6 _ rfl
  have f7 : DataW.trod enc Try.prog w base spare held n 23 (([v0, v1, v2, v3, v4, v5, v6, v7, v8, v9, v10].drop 7).take (Try.prog.cellsOf 23)) = xs[7]? := hf 7 _ rfl
  have f8 : DataW.trod enc Try.prog w base spare held n 24 (([v0, v1, v2, v3, v4, v5, v6, v7, v8, v9, v10].drop 8).take (Try.prog.cellsOf 24)) = xs[8]? := hf 8 _ rfl
  have f9 : DataW.trod enc Try.prog w base spare held n 25 (([v0, v1, v2, v3, v4, v5, v6, v7, v8, v9, v10].drop 9).take (Try.prog.cellsOf 25)) = xs[9]? := hf 9 _ rfl
  have f10 : DataW.trod enc Try.prog w base spare held n 26 (([v0, v1, v2, v3, v4, v5, v6, v7, v8, v9, v10].drop 10).take (Try.prog.cellsOf 26)) = xs[10]? := hf 10 _ rfl
  rw [ce3, e0] at f0
  rw [ce9, e1] at f1
  rw [ce9, e2] at f2
  rw [ce9, e3] at f3
  rw [ce3, e4] at f4
  rw [ce4, e5] at f5
  rw [ce22, e6] at f6
  rw [ce23, e7] at f7
  rw [ce24, e8] at f8
  rw [ce25, e9] at f9
  rw [ce26, e10] at f10
  obtain ⟨n0, q0, _, _⟩ := DataW.trod_int Try.underlying3 f0
  obtain ⟨n1, q1, _, _⟩ := DataW.trod_string Try.underlying9 f1
  obtain ⟨n2, q2, _, _⟩ := DataW.trod_string Try.underlying9 f2
  obtain ⟨n3, q3, _, _⟩ := DataW.trod_string Try.underlying9 f3
  obtain ⟨n4, q4, _, _⟩ := DataW.trod_int Try.underlying3 f4
  obtain ⟨n5, q5, _⟩ := DataW.trod_bool Try.underlying4 f5
  obtain ⟨A6, c6, l6, q6, b6, m6, _, r6⟩ := slice_reads (f := rc) (q := fun _ => True) Try.underlying22 ce60 (fun _ => rfl) (fun h => by obtain ⟨r, hr, _⟩ := is60 h; exact ⟨r, hr, trivial⟩) f6
  obtain ⟨A7, c7, l7, q7, b7, m7, _, r7⟩ := slice_reads (f := setc) (q := fun _ => True) Try.underlying23 ce62 (fun _ => rfl) (fun h => by obtain ⟨r, hr⟩ := is62 h; exact ⟨r, hr, trivial⟩) f7
  obtain ⟨A8, c8, l8, q8, b8, m8, _, r8⟩ := slice_reads (f := condc) (q := fun _ => True) Try.underlying24 ce64 (fun _ => rfl) (fun h => by obtain ⟨r, hr⟩ := is64 h; exact ⟨r, hr, trivial⟩) f8
  obtain ⟨A9, c9, l9, q9, b9, m9, _, r9⟩ := slice_reads (f := colc) (q := fun _ => True) Try.underlying25 ce66 (fun _ => rfl) (fun h => by obtain ⟨r, hr⟩ := is66 h; exact ⟨r, hr, trivial⟩) f9
  obtain ⟨A10, c10, l10, q10, b10, m10, _, r10⟩ := slice_reads (f := strc) (q := fun _ => True) Try.underlying26 ce9 (fun _ => rfl) (fun h => by obtain ⟨r, hr⟩ := is9 h; exact ⟨r, hr, trivial⟩) f10
  injection q0 with q0
  injection q1 with q1
  injection q2 with q2
  injection q3 with q3
  injection q4 with q4
  injection q5 with q5
  injection q6 with q6
  injection q7 with q7
  injection q8 with q8
  injection q9 with q9
  injection q10 with q10
  subst q0 q1 q2 q3 q4 q5 q6 q7 q8 q9 q10
  exact ⟨n0, n1, n2, n3, n4, n5, A6, A7, A8, A9, A10, c6, c7, c8, c9, c10, ⟨l6, l7, l8, l9, l10⟩, rfl,
    ⟨kd_of rfl k60_mk (fun _ => rfl) m6 r6, kd_of rfl k62_mk (fun _ => rfl) m7 r7, kd_of rfl k64_mk (fun _ => rfl) m8 r8, kd_of rfl k66_mk (fun _ => rfl) m9 r9, kd_of (d := Kd.string) rfl (fun _ _ => rfl) (fun _ => rfl) m10 r10,
      b6, b7, b8, b9, b10, rd_of (f := rc) (sz := 3) (fun _ => rfl) (by decide) b6 r6, rd_of (f := setc) (sz := 4) (fun _ => rfl) (by decide) b7 r7, rd_of (f := condc) (sz := 5) (fun _ => rfl) (by decide) b8 r8, rd_of (f := colc) (sz := 3) (fun _ => rfl) (by decide) b9 r9, rd_of (f := strc) (sz := 1) (fun _ => rfl) (by decide) b10 r10⟩⟩
end
end Go.Proofs.Ytplpdeanepdokaa
