/- The walks of the small functions on lists of int64, of the program, the reference and the laws. Conditions: lists of at most 2^40 numbers. -/
import Derived.Test.YtlfbmedgkkfalaaRows
import Derived.Test.YtlfbmedgkkfalaaKit
import Derived.Deep.QuietTactic
import Derived.BigQuiet
namespace Go.Proofs.Ytlfbmedgkkfalaa
open Go.RowKit

theorem infoInt : (Try.prog.info? 2).map (fun i => (i.zero, i.size, i.bytes)) = some (some (.int .i64 0), 1, 8) := by kernel_rfl

set_option maxHeartbeats 400000 in
theorem l01In_any (n lo hi : Int) (w : World) :
    Calls Try.prog 143 #[.int .i64 n, .int .i64 lo, .int .i64 hi] w fun e w' => e = .returned (.bool (inR n lo hi)) ∧ w = w' := by
  by_cases h1 : lo ≤ n <;> by_cases h2 : n ≤ hi
  all_goals
    go_enter Try.func143, Try.ntmps143
    go_wp2
    go_ret
    exact ⟨ret_bool (by simp [inR, h1, h2]), rfl⟩

set_option maxHeartbeats 400000 in
theorem within_any (n lo hi : Int) (w : World) :
    Calls Try.prog 145 #[.int .i64 n, .int .i64 lo, .int .i64 hi] w fun e w' => e = .returned (.bool (inR n lo hi)) ∧ w = w' := by
  by_cases h1 : lo ≤ n <;> by_cases h2 : n ≤ hi
  all_goals
    go_enter Try.func145, Try.ntmps145
    go_wp2
    go_ret
    exact ⟨ret_bool (by simp [inR, h1, h2]), rfl⟩

def allM (n : Nat) (zs : List Int) (most hi : Int) : Bool := decide ((n : Int) ≤ most) && allR zs 0 hi

set_option maxHeartbeats 400000 in
theorem l01All_any (A : Option Addr) (n c : Nat) (zs : List Int) (most hi : Int) (w : World) (h : RI w w.heap.size A n zs) (hn : n ≤ 1099511627776) :
    Calls Try.prog 222 #[.slice A n c, .int .i64 most, .int .i64 hi] w fun e w' => e = .returned (.bool (allM n zs most hi)) ∧ w = w' := by
  by_cases hm : (n : Int) ≤ most
  · go_enter Try.func222, Try.ntmps222
    go_wp2
    go_loop [7] (fun i => ∃ k : Nat, k ≤ n ∧ i = .int .i64 k ∧ allR (zs.take k) 0 hi = true) (fun i => n - (intOf i).toNat)
    case atStart => exact ⟨0, Nat.zero_le _, rfl, rfl⟩
    case round =>
      obtain ⟨k, hk, rfl, hall⟩ := hrel
      have Hall := Lib.hid hall
      clear hall
      by_cases hlt : k < n
      · obtain ⟨b, o, rfl, _, hc⟩ := h.get (by omega)
        have hcell := hc k hlt
        clear hc
        by_cases hr : inR (gi zs k) 0 hi = true
        · go_wp2_with (go_at_call 143; refine (l01In_any _ _ _ _).mono ?_; rintro e w' ⟨rfl, rfl⟩)
          go_round
          case rel => exact ⟨k + 1, by omega, by go_num, by rw [allR_take (by rw [h.len]; exact hlt), Hall.out, hr]; rfl⟩
          case measure => simp [intOf]; omega
        · have hr' : inR (gi zs k) 0 hi = false := by simpa using hr
          clear hr
          go_wp2_with (go_at_call 143; refine (l01In_any _ _ _ _).mono ?_; rintro e w' ⟨rfl, rfl⟩)
          go_ret
          exact ⟨ret_bool (by simp [allM, allR_no (by rw [h.len]; exact hlt) hr']), rfl⟩
      · have hkn : k = n := by omega
        have hz : allR zs 0 hi = true := by have := Hall.out; rwa [List.take_of_length_le (by rw [h.len]; omega)] at this
        have Hz := Lib.hid hz
        clear hz hkn
        go_wp2
        go_ret
        exact ⟨ret_bool (by simp [allM, hm, Hz.out]), rfl⟩
  · go_enter Try.func222, Try.ntmps222
    go_wp2
    go_ret
    exact ⟨ret_bool (by simp [allM]; omega), rfl⟩

set_option maxHeartbeats 400000 in
theorem sIsBits_any (A : Option Addr) (n c : Nat) (zs : List Int) (w : World) (h : RI w w.heap.size A n zs) (hn : n ≤ 1099511627776) :
    Calls Try.prog 154 #[.slice A n c] w fun e w' => e = .returned (.bool (isBits zs)) ∧ w = w' := by
  have E : Hid (allM n zs 8192 1 = isBits zs) := by
    unfold Hid allM isBits; rw [h.len]
    congr 1
    rw [decide_eq_decide]; omega
  go_enter Try.func154, Try.ntmps154
  go_wp2_with (go_at_call 222; refine (l01All_any _ _ _ _ _ _ _ h hn).mono ?_; rintro e w' ⟨rfl, rfl⟩)
  go_ret
  exact ⟨ret_bool E.out, rfl⟩

set_option maxHeartbeats 400000 in
theorem allWithin_any (A : Option Addr) (n c : Nat) (zs : List Int) (lo hi : Int) (w : World) (h : RI w w.heap.size A n zs) (hn : n ≤ 1099511627776) :
    Calls Try.prog 224 #[.slice A n c, .int .i64 lo, .int .i64 hi] w fun e w' => e = .returned (.bool (allR zs lo hi)) ∧ w = w' := by
  go_enter Try.func224, Try.ntmps224
  go_wp2
  go_loop [11] (fun i => ∃ k : Nat, k ≤ n ∧ i = .int .i64 k ∧ allR (zs.take k) lo hi = true) (fun i => n - (intOf i).toNat)
  case atStart => exact ⟨0, Nat.zero_le _, rfl, rfl⟩
  case round =>
    obtain ⟨k, hk, rfl, hall⟩ := hrel
    have Hall := Lib.hid hall
    clear hall
    by_cases hlt : k < n
    · obtain ⟨b, o, rfl, _, hc⟩ := h.get (by omega)
      have hcell := hc k hlt
      clear hc
      by_cases h1 : gi zs k < lo
      · go_wp2
        go_ret
        exact ⟨ret_bool (by rw [allR_no (by rw [h.len]; exact hlt) (inR_no.2 (.inl h1))]), rfl⟩
      · by_cases h2 : hi < gi zs k
        · go_wp2
          go_ret
          exact ⟨ret_bool (by rw [allR_no (by rw [h.len]; exact hlt) (inR_no.2 (.inr h2))]), rfl⟩
        · go_wp2
          go_round
          case rel => exact ⟨k + 1, by omega, by go_num, by rw [allR_take (by rw [h.len]; exact hlt), Hall.out, inR_iff.2 ⟨by omega, by omega⟩]; rfl⟩
          case measure => simp [intOf]; omega
    · have hkn : k = n := by omega
      have hz : allR zs lo hi = true := by have := Hall.out; rwa [List.take_of_length_le (by rw [h.len]; omega)] at this
      have Hz := Lib.hid hz
      clear hz hkn
      go_wp2
      go_ret
      exact ⟨ret_bool Hz.out.symm, rfl⟩

set_option maxHeartbeats 400000 in
theorem iIsBits_any (A : Option Addr) (n c : Nat) (zs : List Int) (w : World) (h : RI w w.heap.size A n zs) (hn : n ≤ 1099511627776) :
    Calls Try.prog 155 #[.slice A n c] w fun e w' => e = .returned (.bool (isBits zs)) ∧ w = w' := by
  have L := Lib.hid h.len
  by_cases hm : n ≤ 8192
  all_goals
    go_enter Try.func155, Try.ntmps155
    go_wp2_with (go_at_call 224; refine (allWithin_any _ _ _ _ _ _ _ h hn).mono ?_; rintro e w' ⟨rfl, rfl⟩)
    go_ret
    exact ⟨ret_bool (by unfold isBits; rw [L.out]; simp [hm]), rfl⟩

set_option maxHeartbeats 400000 in
theorem toInt64S_any (A : Option Addr) (n c : Nat) (zs : List Int) (w : World) (h : RI w w.heap.size A n zs) (hn : n ≤ 1099511627776) :
    Calls Try.prog 62 #[.slice A n c] w (RetI 2 w n zs) := by
  have L := Lib.hid h.len
  go_enter Try.func62, Try.ntmps62
  go_wp2_with (at_make; refine wpl_make _ Try.underlying24 infoInt rfl _ _ rfl n rfl rfl hn ?_; intro w1 hown1 hg1)
  have hb1 : Below w.heap.size w w1 := (Below.refl _ _).grown hg1 (Nat.le_refl _) (fun _ e => by cases e)
  have hz1 : w.heap.size < w1.heap.size := by
    rcases Nat.lt_or_ge w.heap.size w1.heap.size with hh | hh
    · exact hh
    · exact absurd hh (by have := hown1.block w.heap.size 0 rfl; omega)
  clear hg1
  have O1 := Lib.hid hown1
  clear hown1
  go_loopw [4] (fun i wr => ∃ k : Nat, k ≤ n ∧ i = .int .i64 k ∧ OwnI 2 wr w.heap.size (some ⟨w.heap.size, 0, none⟩) n n (fillTo zs n k) ∧ Below w.heap.size w wr) (fun i _ => n - (intOf i).toNat)
  case atStart => exact ⟨0, Nat.zero_le _, rfl, by rw [fillTo_zero]; exact O1.out, hb1⟩
  case round =>
    obtain ⟨k, hk, rfl, hown, hb⟩ := hrel
    by_cases hlt : k < n
    · obtain ⟨b, o, rfl, hbl, hc⟩ := (h.below hb (Nat.le_refl _)).get (by omega)
      have hcell := hc k hlt
      clear hc
      have hold := hown.cell hlt
      have hfr := hown.frozen k
      go_wp2
      go_roundw
      case rel =>
        have := hown.stored k (gi zs k)
        rw [fillTo_set L.out hlt] at this
        exact ⟨k + 1, by omega, by go_num, this.1, hb.setCell (Nat.le_refl _) _⟩
      case measure => simp [intOf]; omega
    · have hkn : k = n := by omega
      have HK := Lib.hid hkn
      clear hkn
      go_wp2
      go_ret
      have := HK.out
      subst this
      rw [fillTo_all L.out] at hown
      exact ⟨_, _, rfl, hown, hb⟩

set_option maxHeartbeats 400000 in
theorem eqInt64S_any (A A' : Option Addr) (n n' c c' : Nat) (xs ys : List Int) (w : World) (hx : RI w w.heap.size A n xs) (hy : RI w w.heap.size A' n' ys) (hn : n ≤ 1099511627776) (hn' : n' ≤ 1099511627776) :
    Calls Try.prog 65 #[.slice A n c, .slice A' n' c'] w (RetV w (.bool (eqI xs ys))) := by
  by_cases hnn : n = n'
  · subst hnn
    go_enter Try.func65, Try.ntmps65
    go_wp2
    go_loopw [5] (fun i wr => ∃ k : Nat, k ≤ n ∧ i = .int .i64 k ∧ xs.take k = ys.take k ∧ Below w.heap.size w wr) (fun i _ => n - (intOf i).toNat)
    case atStart => exact ⟨0, Nat.zero_le _, rfl, rfl, Below.refl _ _⟩
    case round =>
      obtain ⟨k, hk, rfl, heq, hb⟩ := hrel
      have Heq := Lib.hid heq
      clear heq
      by_cases hlt : k < n
      · obtain ⟨b, o, rfl, _, hc⟩ := (hx.below hb (Nat.le_refl _)).get (by omega)
        have hcell := hc k hlt
        clear hc
        obtain ⟨b', o', rfl, _, hc⟩ := (hy.below hb (Nat.le_refl _)).get (by omega)
        have hcell' := hc k hlt
        clear hc
        by_cases hr : gi xs k = gi ys k
        · have HR := Lib.hid hr
          have hbn : (gi xs k != gi ys k) = false := by simp [hr]
          clear hr
          go_wp2
          go_quiet (fail)
          go_wp2
          go_roundw
          case rel => exact ⟨k + 1, by omega, by go_num, by rw [take_gi (by rw [hx.len]; exact hlt), take_gi (by rw [hy.len]; exact hlt), Heq.out, HR.out], below_drewN hb _⟩
          case measure => simp [intOf]; omega
        · have hbn : (gi xs k != gi ys k) = true := by simp [hr]
          have HR := Lib.hid hr
          clear hr
          go_wp2
          go_quiet (fail)
          go_wp2
          go_ret
          exact ⟨ret_bool (eqI_no HR.out).symm, below_drewN hb _⟩
      · have hkn : k = n := by omega
        have HK := Lib.hid hkn
        clear hkn
        go_wp2
        go_ret
        refine ⟨ret_bool (eqI_take hx.len hy.len ?_).symm, hb⟩
        have := Heq.out
        rwa [HK.out] at this
  · have hbn : ((n : Int) != (n' : Int)) = true := by simp; omega
    go_enter Try.func65, Try.ntmps65
    go_wp2
    go_ret
    exact ⟨ret_bool (eqI_len (by rw [hx.len, hy.len]; exact hnn)).symm, Below.refl _ _⟩

set_option maxHeartbeats 400000 in
theorem markInt64S_any (A : Option Addr) (n c base : Nat) (zs : List Int) (q : Int) (w : World) (h : OwnI 2 w base A n c zs) (hn : n ≤ 1099511627776) (hq : 0 ≤ q) (hq2 : q ≤ 1099511627776) :
    Calls Try.prog 66 #[.slice A n c, .int .i64 q] w fun e w' => e = .returned (.int .i64 (q + n)) ∧ OwnI 2 w' base A n c (marks q n) ∧ w.grownBy w' (Value.slice A n c).ownBlock := by
  have L := Lib.hid h.len
  go_enter Try.func66, Try.ntmps66
  go_wp2
  go_loopw [1, 5] (fun j i wr => ∃ k : Nat, k ≤ n ∧ i = .int .i64 k ∧ j = .int .i64 (q + k) ∧ OwnI 2 wr base A n c (markTo zs q k) ∧ w.grownBy wr (Value.slice A n c).ownBlock) (fun _ i _ => n - (intOf i).toNat)
  case atStart => exact ⟨0, Nat.zero_le _, rfl, by go_num, by rw [markTo_zero]; exact h, World.grownBy.refl _ _⟩
  case round =>
    obtain ⟨k, hk, rfl, rfl, hown, hg⟩ := hrel
    by_cases hlt : k < n
    · obtain ⟨g, rfl, _, _⟩ := hown.form (by omega)
      have hold := hown.cell hlt
      have hfr := hown.frozen k
      go_wp2
      go_roundw
      case rel =>
        have := hown.stored k (q + k)
        rw [markTo_set L.out hlt] at this
        exact ⟨k + 1, by omega, by go_num, by congr 1; omega, this.1, grown_tr hg this.2⟩
      case measure => simp [intOf]; omega
    · have hkn : k = n := by omega
      have HK := Lib.hid hkn
      clear hkn
      go_wp2
      go_ret
      have := HK.out
      subst this
      rw [markTo_all L.out] at hown
      exact ⟨rfl, hown, hg⟩

set_option maxHeartbeats 400000 in
theorem heldInt64S_any (A : Option Addr) (n c : Nat) (q : Int) (w : World) (h : RI w w.heap.size A n (marks q n)) (hn : n ≤ 1099511627776) (hq : 0 ≤ q) (hq2 : q ≤ 1099511627776) :
    Calls Try.prog 67 #[.slice A n c, .int .i64 q] w fun e w' => e = .returned (.int .i64 (q + n)) ∧ w = w' := by
  go_enter Try.func67, Try.ntmps67
  go_wp2
  go_loop [1, 5] (fun j i => ∃ k : Nat, k ≤ n ∧ i = .int .i64 k ∧ j = .int .i64 (q + k)) (fun _ i => n - (intOf i).toNat)
  case atStart => exact ⟨0, Nat.zero_le _, rfl, by go_num⟩
  case round =>
    obtain ⟨k, hk, rfl, rfl⟩ := hrel
    by_cases hlt : k < n
    · obtain ⟨b, o, rfl, _, hc⟩ := h.get (by omega)
      have hcell := hc k hlt
      clear hc
      rw [marks_gi hlt] at hcell
      go_wp2
      go_round
      case rel => exact ⟨k + 1, by omega, by go_num, by congr 1; omega⟩
      case measure => simp [intOf]; omega
    · have hkn : k = n := by omega
      have HK := Lib.hid hkn
      clear hkn
      go_wp2
      go_ret
      exact ⟨ret_int (by have := HK.out; omega), rfl⟩
end Go.Proofs.Ytlfbmedgkkfalaa
