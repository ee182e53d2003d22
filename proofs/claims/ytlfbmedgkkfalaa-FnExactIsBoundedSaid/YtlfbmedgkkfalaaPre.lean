/- The walks of PreambleOf and EdgesOfBytes, of the reference. Conditions: lists of at most 2^20 numbers. -/
import Derived.Test.YtlfbmedgkkfalaaDecC
namespace Go.Proofs.Ytlfbmedgkkfalaa
open Go.RowKit

theorem ne_cases (x : Int) : x = 0 ∨ (x ≠ 0 ∧ (x != 0) = true ∧ (x == 0) = false) := by
  by_cases h : x = 0
  · exact .inl h
  · exact .inr ⟨h, by simp [h], by simp [h]⟩
namespace PreambleOf
def prA (zs : List Int) : Int := if (decZ zs).code = 0 then (decZ zs).pre else 0
def cod (zs : List Int) : Int := (decZ zs).code

set_option maxHeartbeats 2000000 in
theorem spec_any (A : Option Addr) (n c : Nat) (zs : List Int) (w : World) (h : RI w w.heap.size A n zs) (_ : n ≤ 1099511627776) (hn : n ≤ 1048576) :
    Calls Try.prog 107 #[.slice A n c] w (RetV w (.tuple #[.int .i64 (prA zs), .int .i64 (cod zs)])) := by
  obtain ⟨d, hd⟩ : ∃ d, decZ zs = d := ⟨_, rfl⟩
  obtain ⟨dc, dp, de⟩ := d
  have E1 := Lib.hid (show prA zs = if dc = 0 then dp else 0 from by unfold prA; rw [hd])
  have E2 := Lib.hid (show cod zs = dc from by unfold cod; rw [hd])
  rcases ne_cases dc with rfl | ⟨h1, h2, h3⟩
  all_goals
    go_enter Try.func107, Try.ntmps107
    go_wp2_with fail
    refine (l23Code_any A n c zs _ h hn).mono ?_
    rw [hd]
    clear hd
    rintro e w1 ⟨A1, n1, c1, q, rfl, hown1, hb1⟩
    dsimp only
    go_wp2
    go_ret2
    rw [E1.out, E2.out]
    first
    | exact ⟨by rw [if_pos trivial]; rfl, hb1.alloc hb1.size _⟩
    | exact ⟨by rw [if_neg h1]; rfl, hb1.alloc hb1.size _⟩
end PreambleOf
end Go.Proofs.Ytlfbmedgkkfalaa
