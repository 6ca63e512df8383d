/- An argument of numbers, read whole. -/
import Derived.Test.YtplpdeanepdokaaJQ
import Derived.OpenShut
namespace Go.Proofs.Ytplpdeanepdokaa
open Go.RowKit H Go.Proofs.Ytplpdeanepdokaa.PJobSteps
open Go.Proofs.YtplpdeanepdokaaW.PrintWords (Kd)
section
variable {H : Type} {enc : TypeId × Value → H} {w : World} {base : Nat} {spare : Nat → Bool} {held : Bool} {fuel : Nat} {cs : List Value} {x : DataW H × List MemPlace}
theorem ints_reads (h : DataW.trod enc Try.prog w base spare held fuel 31 cs = some x) :
    ∃ (A : Option Addr) (c : Nat) (l : List Int), cs = [.slice A l.length c] ∧ Kd.C (Kd.int .i64) w A l.length l ∧ l.length ≤ c ∧ (∀ a ∈ l, -9223372036854775808 ≤ a ∧ a ≤ 9223372036854775807) := by
  obtain ⟨A, c, l, rfl, hl, hm, hq, hr⟩ := slice_reads (f := fun (n : Int) => [Value.int .i64 n]) (sz := 1) (q := fun n => -9223372036854775808 ≤ n ∧ n ≤ 9223372036854775807) Try.underlying31 (by kernel_rfl) (fun _ => rfl) (fun {fuel cs x} h => by
    obtain ⟨n, h1, _, h2⟩ := DataW.trod_int Try.underlying3 h
    exact ⟨n, h1, Go.bounds_i64 h2⟩) h
  exact ⟨A, c, l, rfl, kd_of rfl (fun _ _ => rfl) (fun _ => rfl) hm hr, hl, hq⟩
end
end Go.Proofs.Ytplpdeanepdokaa
