/- The walks of what the reference's decoder tells of a list. Conditions: lists of at most 2^20 numbers. -/
import Derived.Test.YtlfbmedgkkfalaaDecR
import Derived.Deep.RegionHeld3
namespace Go.Proofs.Ytlfbmedgkkfalaa
open Go.RowKit

/-- what the decoder finds in whatever list -/
def decZ (zs : List Int) : Dec := if isBits zs then decP zs else ⟨1, 0, []⟩
/-- the same handed back with its code -/
def RetCode (T : TypeId) (w0 : World) (d : Dec) (e : Ending) (w' : World) : Prop :=
  ∃ A n c q, e = .returned (.tuple #[.agg #[.int .i64 d.pre, .slice A n c, .int .i64 q], .int .i64 d.code]) ∧ OwnI T w' w0.heap.size A n c d.edges ∧ Below w0.heap.size w0 w'

set_option maxHeartbeats 2000000 in
theorem l23Code_any (A : Option Addr) (n c : Nat) (zs : List Int) (w : World) (h : RI w w.heap.size A n zs) (hn : n ≤ 1048576) :
    Calls Try.prog 188 #[.slice A n c] w (RetCode 2 w (decZ zs)) := by
  have h0 : RI (w.alloc (.cells #[.int .i64 0, .slice none 0 0, .int .i64 0] 156)) (w.alloc (.cells #[.int .i64 0, .slice none 0 0, .int .i64 0] 156)).heap.size A n zs := h.alloc' _
  have hn' : n ≤ 1099511627776 := by omega
  rcases bool_cases (isBits zs) with hz | hz
  case inr =>
    have E := Lib.hid (show decZ zs = ⟨1, 0, []⟩ from by unfold decZ; rw [hz]; rfl)
    go_enter Try.func188, Try.ntmps188
    go_wp2_with (go_at_call 154; refine (sIsBits_any _ _ _ _ _ h0 hn').mono ?_; rintro e w' ⟨rfl, rfl⟩)
    rw [E.out]
    exact bodyPost_ret (v := .tuple #[.agg #[.int .i64 0, .slice none 0 0, .int .i64 0], .int .i64 1]) (by simp [results, Try.results188, go_sem]) rfl ⟨none, 0, 0, 0, rfl, OwnI.nil _ _ _, by go_grown⟩
  case inl =>
    obtain ⟨d, hd⟩ : ∃ d, decP zs = d := ⟨_, rfl⟩
    obtain ⟨dc, dp, de⟩ := d
    have E := Lib.hid (show decZ zs = ⟨dc, dp, de⟩ from by unfold decZ; rw [hz]; exact hd)
    go_enter Try.func188, Try.ntmps188
    go_wp2_with (go_at_call 154; refine (sIsBits_any _ _ _ _ _ h0 hn').mono ?_; rintro e w' ⟨rfl, rfl⟩)
    refine (l23Run_any A n c zs _ h0 hn).mono ?_
    rw [hd]
    clear hd
    rintro e w1 ⟨A1, n1, c1, rfl, hown1, hb1⟩
    obtain ⟨hc1, hf1⟩ := bcell hb1
    have hz1 : w.heap.size < w1.heap.size := by have := hb1.size; simp only [isz_alloc] at this; omega
    dsimp only at hown1
    dsimp only
    go_wp2_with fail
    go_region
    all_goals
      go_wp2
      rw [E.out]
      refine bodyPost_ret (v := .tuple #[.agg #[.int .i64 dp, .slice A1 n1 c1, .int .i64 dc], .int .i64 dc]) (by simp [results, Try.results188, go_sem, hc1, hz1]) rfl ⟨A1, n1, c1, dc, rfl, ?_, ?_⟩
      · refine OwnI.weaken (base := (w.alloc (.cells #[.int .i64 0, .slice none 0 0, .int .i64 0] 156)).heap.size) ?_ (by simp)
        (repeat (first | exact hown1 | refine OwnI.other ?_ (by simp) _ | refine OwnI.alloc ?_ _ | refine OwnI.drewN ?_ _ | refine OwnI.drew ?_))
      · (repeat (first | exact Below.refl _ _ | refine below_next hb1 ?_ (Nat.le_refl _) | refine Below.setCell ?_ (by simp) _ | refine below_drewN ?_ _ | refine Below.drew ?_ | refine below_alloc ?_ (Nat.le_refl _) _))
end Go.Proofs.Ytlfbmedgkkfalaa
