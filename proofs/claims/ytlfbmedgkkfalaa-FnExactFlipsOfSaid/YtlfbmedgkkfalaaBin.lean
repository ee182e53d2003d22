/- slices.BinarySearch on a rising row. Conditions: at most 2^40 numbers. -/
import Derived.Test.YtlfbmedgkkfalaaKit9
import Derived.Test.YtlfbmedgkkfalaaBase
namespace Go.Proofs.Ytlfbmedgkkfalaa
open Go.RowKit
theorem less_any (x y : Int) (w : World) :
    Calls Try.prog 236 #[.int .i64 x, .int .i64 y] w fun e w' => e = .returned (.bool (decide (x < y))) ∧ w = w' := by
  by_cases h : x < y
  all_goals
    go_enter Try.func236, Try.ntmps236
    go_wp2
    go_ret
    exact ⟨ret_bool (by simp [h]), rfl⟩
theorem nan_any (x : Int) (w : World) :
    Calls Try.prog 237 #[.int .i64 x] w fun e w' => e = .returned (.bool false) ∧ w = w' := by
  go_enter Try.func237, Try.ntmps237
  go_wp2
  go_ret
  exact ⟨ret_bool (by simp), rfl⟩

theorem bool_cases2 (b : Bool) : b = true ∨ b = false := by cases b <;> simp
/-- what a search finds -/
def fnd (n : Nat) (xs : List Int) (t : Int) (i : Nat) : Bool := decide (i < n ∧ gi xs i = t)
def Found (xs : List Int) (t : Int) (i : Nat) : Prop := i ≤ xs.length ∧ (∀ k, k < i → gi xs k < t) ∧ ∀ k, i ≤ k → k < xs.length → t ≤ gi xs k

set_option maxHeartbeats 4000000 in
theorem search_any (A : Option Addr) (n c : Nat) (xs : List Int) (t : Int) (w : World) (h : RI w w.heap.size A n xs) (hn : n ≤ 1099511627776) (hs : ∀ i j, i < j → j < n → gi xs i < gi xs j) :
    Calls Try.prog 167 #[.slice A n c, .int .i64 t] w fun e w' => ∃ i : Nat, Found xs t i ∧ e = .returned (.tuple #[.int .i64 i, .bool (fnd n xs t i)]) ∧ w = w' := by
  have L := Lib.hid h.len
  have HS := Lib.hid hs
  clear hs
  go_enter Try.func167, Try.ntmps167
  go_wp2
  go_loop [7, 8] (fun i j => ∃ a b : Nat, i = .int .i64 a ∧ j = .int .i64 b ∧ a ≤ b ∧ b ≤ n ∧ Hid (∀ k, k < a → gi xs k < t) ∧ Hid (∀ k, b ≤ k → k < n → t ≤ gi xs k)) (fun i j => (intOf j).toNat - (intOf i).toNat)
  case atStart => exact ⟨0, n, rfl, rfl, Nat.zero_le _, Nat.le_refl _, fun k hk => absurd hk (by omega), fun k h1 h2 => absurd h1 (by omega)⟩
  case round =>
    obtain ⟨a, b, rfl, rfl, hab, hbn, HA, HB⟩ := hrel
    by_cases hlt : a < b
    · obtain ⟨blk, o, rfl, _, hc⟩ := h.get (by omega)
      have HC := Lib.hid hc
      clear hc
      have hcell := HC.out ((a + b) / 2) (by omega)
      obtain ⟨x, hx⟩ : ∃ x, gi xs ((a + b) / 2) = x := ⟨_, rfl⟩
      rw [hx] at hcell
      have HX := Lib.hid hx
      clear hx
      rcases bool_cases2 (decide (x < t)) with hd | hd
      · have HD := Lib.hid hd
        go_wp2_with fail
        refine (less_any x t w).mono ?_
        rw [HD.out]
        rintro e w' ⟨rfl, rfl⟩
        clear hcell
        go_wp2
        go_round
        case rel => exact ⟨(a + b) / 2 + 1, b, congrArg (Value.int .i64) (by omega), rfl, by omega, hbn, fun k hk => by
            have h1 := of_decide_eq_true HD.out
            rw [← HX.out] at h1
            rcases Nat.lt_or_ge k ((a + b) / 2) with h2 | h2
            · exact Int.lt_trans (HS.out k _ h2 (by omega)) h1
            · rw [show k = (a + b) / 2 by omega]; exact h1, HB⟩
        case measure => simp [intOf]; omega
      · have HD := Lib.hid hd
        go_wp2_with fail
        refine (less_any x t w).mono ?_
        rw [HD.out]
        rintro e w' ⟨rfl, rfl⟩
        clear hcell
        go_wp2
        go_round
        case rel => exact ⟨a, (a + b) / 2, rfl, congrArg (Value.int .i64) (by omega), by omega, by omega, HA, fun k h1 h2 => by
            have h3 := of_decide_eq_false HD.out
            rw [← HX.out] at h3
            rcases Nat.lt_or_ge ((a + b) / 2) k with h4 | h4
            · have := HS.out _ k h4 h2; omega
            · rw [show k = (a + b) / 2 by omega]; omega⟩
        case measure => simp [intOf]; omega
    · obtain rfl : a = b := by omega
      have HF := Lib.hid (show Found xs t a from ⟨by rw [L.out]; exact hbn, HA.out, fun k h1 h2 => HB.out k h1 (by rw [L.out] at h2; exact h2)⟩)
      by_cases han : a < n
      · obtain ⟨blk, o, rfl, _, hc⟩ := h.get (by omega)
        have hcell := hc a han
        clear hc
        obtain ⟨x, hx⟩ : ∃ x, gi xs a = x := ⟨_, rfl⟩
        rw [hx] at hcell
        by_cases hxt : x = t
        · have hb : (x == t) = true := by simp [hxt]
          have HR := Lib.hid (show fnd n xs t a = true from by unfold fnd; rw [hx]; simp [han, hxt])
          clear hx hxt
          go_wp2
          go_ret2
          exact ⟨a, HF.out, by rw [HR.out]; rfl, rfl⟩
        · have hb : (x == t) = false := by simp [hxt]
          have HR := Lib.hid (show fnd n xs t a = false from by unfold fnd; rw [hx]; simp [hxt])
          clear hx hxt
          go_wp2_with fail
          refine (nan_any x w).mono ?_
          rintro e w' ⟨rfl, rfl⟩
          go_wp2
          go_ret2
          exact ⟨a, HF.out, by rw [HR.out]; rfl, rfl⟩
      · have HR := Lib.hid (show fnd n xs t a = false from by unfold fnd; simp [han])
        go_wp2
        go_ret2
        exact ⟨a, HF.out, by rw [HR.out]; rfl, rfl⟩
end Go.Proofs.Ytlfbmedgkkfalaa
