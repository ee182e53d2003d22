/- The walks of the program's change with the closure that inverts a sample. Conditions: lists of at most 8192 bits. -/
import Derived.Test.YtlfbmedgkkfalaaSil
namespace Go.Proofs.Ytlfbmedgkkfalaa
open Go.RowKit

/-- a list whose numbers from p on, below k, are changed -/
def chg (φ : Int → Int) (zs : List Int) (p k : Nat) : List Int := (List.range zs.length).map fun i => if p ≤ i ∧ i < k then φ (gi zs i) else gi zs i
section
variable {φ : Int → Int}
theorem chg_len (zs : List Int) (p k : Nat) : (chg φ zs p k).length = zs.length := by simp [chg]
theorem chg_gi {zs : List Int} {p k i : Nat} (h : i < zs.length) : gi (chg φ zs p k) i = if p ≤ i ∧ i < k then φ (gi zs i) else gi zs i := by simp [gi, chg, h]
theorem chg_none {zs : List Int} {p k : Nat} (h : k ≤ p) : chg φ zs p k = zs := by
  refine ext_gi (chg_len _ _ _) fun i hi => ?_
  rw [chg_len] at hi
  rw [chg_gi hi, if_neg (by omega)]
theorem chg_set {zs : List Int} {p k : Nat} (hk : p ≤ k) (hn : k < zs.length) : (chg φ zs p k).set k (φ (gi zs k)) = chg φ zs p (k + 1) := by
  refine ext_gi (by rw [List.length_set, chg_len, chg_len]) fun i hi => ?_
  rw [List.length_set, chg_len] at hi
  rw [chg_gi hi]
  have : gi ((chg φ zs p k).set k (φ (gi zs k))) i = if k = i then φ (gi zs k) else gi (chg φ zs p k) i := by
    unfold gi
    rw [List.getD_eq_getElem?_getD, List.getElem?_set, List.getD_eq_getElem?_getD]
    by_cases hik : k = i
    · rw [if_pos hik, if_pos hik, if_pos (by rw [chg_len]; omega)]; rfl
    · rw [if_neg hik, if_neg hik, List.getD_eq_getElem?_getD]
  rw [this, chg_gi hi]
  by_cases hik : k = i
  · subst hik
    rw [if_pos rfl, if_pos (by omega)]
  · rw [if_neg hik]
    by_cases h2 : p ≤ i ∧ i < k
    · rw [if_pos h2, if_pos (by omega)]
    · rw [if_neg h2, if_neg (by omega)]
theorem chg_more {zs : List Int} {p k : Nat} (h : zs.length ≤ k) : chg φ zs p k = chg φ zs p zs.length := by
  refine ext_gi (by rw [chg_len, chg_len]) fun i hi => ?_
  rw [chg_len] at hi
  rw [chg_gi hi, chg_gi hi]
  by_cases h2 : p ≤ i
  · rw [if_pos (by omega), if_pos (by omega)]
  · rw [if_neg (by omega), if_neg (by omega)]
end
def inv (z : Int) : Int := 1 - z

namespace ApplyFault
theorem inv_any (z : Int) (w : World) (h1 : 0 ≤ z) (h2 : z ≤ 1) :
    Calls Try.prog 232 #[.int .i64 z] w fun e w' => e = .returned (.int .i64 (inv z)) ∧ w = w' := by
  go_enter Try.func232, Try.ntmps232
  go_wp2
  go_ret
  exact ⟨rfl, rfl⟩

theorem bit_at {zs : List Int} (h : isBits zs = true) {k : Nat} (hk : k < zs.length) : 0 ≤ gi zs k ∧ gi zs k ≤ 1 := by
  unfold isBits at h
  simp only [Bool.and_eq_true] at h
  exact allR_gi h.2 hk

set_option maxHeartbeats 4000000 in
theorem change_inv (A1 : Option Addr) (n c1 base q t : Nat) (zs : List Int) (w : World) (hown : OwnI 2 w base A1 n c1 zs) (hn : n ≤ 8192) (_ : q ≤ 8192) (ht : t ≤ 16384) (hz : isBits zs = true) :
    Calls Try.prog 233 #[.slice A1 n c1, .int .i64 q, .int .i64 t, .func (.func 232) #[] #[]] w fun e w' => e = .returned (.tuple #[]) ∧ OwnI 2 w' base A1 n c1 (chg inv zs q (min t n)) ∧ w.grownBy w' (Value.slice A1 n c1).ownBlock := by
  have L := Lib.hid hown.len
  have HZ := Lib.hid hz
  clear hz
  by_cases htn : t ≤ n
  all_goals
    go_enter Try.func233, Try.ntmps233
    go_wp2
    go_loopw [8] (fun i wr => ∃ k : Nat, q ≤ k ∧ k ≤ max q (min t n) ∧ i = .int .i64 k ∧ OwnI 2 wr base A1 n c1 (chg inv zs q k) ∧ w.grownBy wr (Value.slice A1 n c1).ownBlock) (fun i _ => min t n - (intOf i).toNat)
    case atStart => exact ⟨q, Nat.le_refl _, by omega, rfl, by rw [chg_none (by omega)]; exact hown, World.grownBy.refl _ _⟩
    case round =>
      obtain ⟨k, hk0', hk, rfl, hown', hg⟩ := hrel
      have HK' := Lib.hid hk
      clear hk
      by_cases hlt2 : k < min t n
      · have hkn : k < n := by omega
        have hkt : k < t := by omega
        obtain ⟨g, rfl, hg1, hg2⟩ := hown'.form (by omega)
        have hold := hown'.cell hkn
        rw [chg_gi (by rw [L.out]; exact hkn), if_neg (by omega)] at hold
        have hfr := hown'.frozen k
        have hbit := bit_at HZ.out (k := k) (by rw [L.out]; exact hkn)
        go_wp2_with fail
        refine (inv_any _ _ hbit.1 hbit.2).mono ?_
        rintro e w' ⟨rfl, rfl⟩
        go_wp2
        go_roundw
        case rel =>
          have := hown'.stored k (inv (gi zs k))
          rw [chg_set (by omega) (by rw [L.out]; exact hkn)] at this
          exact ⟨k + 1, by omega, by omega, by go_num, this.1, grown_tr hg this.2⟩
        case measure => simp [intOf]; omega
      · have HK := Lib.hid (show k = max q (min t n) from by have := HK'.out; omega)
        have hkn : t ≤ k ∨ n ≤ k := by omega
        go_wp2
        go_end0
        refine ⟨rfl, ?_, hg⟩
        rw [HK.out] at hown'
        by_cases hqn : q ≤ min t n
        · rwa [Nat.max_eq_right hqn] at hown'
        · rw [Nat.max_eq_left (by omega), chg_none (Nat.le_refl _)] at hown'
          rw [chg_none (by omega)]
          exact hown'
end ApplyFault
end Go.Proofs.Ytlfbmedgkkfalaa
