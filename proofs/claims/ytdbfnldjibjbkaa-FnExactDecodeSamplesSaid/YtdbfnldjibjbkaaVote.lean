/- The walks of the voter and of DecodeSamples, of the program and the reference. Conditions: lists of at most 2^20 numbers. -/
import Derived.Test.YtdbfnldjibjbkaaVoted
namespace Go.Proofs.Ytdbfnldjibjbkaa
open Go.RowKit

/-- a sample of a window; those ahead of the first are 1 -/
def vt (zs : List Int) (p : Int) : Int := if p < 0 then 1 else gi zs p.toNat
def onesTo (zs : List Int) (i : Nat) : Nat → Int
  | 0 => 0
  | m + 1 => onesTo zs i m + vt zs ((i : Int) - 4 + m)
def ones (zs : List Int) (i : Nat) : Int := onesTo zs i 5
def vb (zs : List Int) (i : Nat) : Int := if 3 ≤ ones zs i then 1 else 0
def votedTo (zs : List Int) (k : Nat) : List Int := (List.range k).map (vb zs)
def voted (zs : List Int) : List Int := votedTo zs zs.length
theorem votedTo_succ (zs : List Int) (k : Nat) : votedTo zs (k + 1) = votedTo zs k ++ [vb zs k] := by simp [votedTo, List.range_succ]
theorem voted_len (zs : List Int) : (voted zs).length = zs.length := by simp [voted, votedTo]
theorem bit_gi {zs : List Int} (h : isBits zs = true) {k : Nat} (hk : k < zs.length) : gi zs k = 0 ∨ gi zs k = 1 := by
  unfold isBits at h
  simp only [Bool.and_eq_true] at h
  have := allR_gi h.2 hk
  omega
theorem vt_bit {zs : List Int} (h : isBits zs = true) {p : Int} (hp : p < (zs.length : Int)) : 0 ≤ vt zs p ∧ vt zs p ≤ 1 := by
  unfold vt
  split
  · omega
  · have := bit_gi h (k := p.toNat) (by omega)
    omega
theorem ones_bd {zs : List Int} (h : isBits zs = true) {i : Nat} (hi : i < zs.length) : ∀ m : Nat, m ≤ 5 → 0 ≤ onesTo zs i m ∧ onesTo zs i m ≤ m := by
  intro m
  induction m with
  | zero => intro _; simp [onesTo]
  | succ m ih =>
    intro hm
    have h1 := ih (by omega)
    have h2 := vt_bit h (p := (i : Int) - 4 + m) (by omega)
    unfold onesTo
    omega

namespace Vote
set_option maxHeartbeats 2000000 in
theorem l21Ones_any (A : Option Addr) (n c : Nat) (zs : List Int) (i : Nat) (w : World) (h : RI w w.heap.size A n zs) (hn : n ≤ 1048576) (hi : i < n) (hz : isBits zs = true) :
    Calls Try.prog 174 #[.slice A n c, .int .i64 i] w fun e w' => e = .returned (.int .i64 (ones zs i)) ∧ w = w' := by
  have L := Lib.hid h.len
  have HZ := Lib.hid hz
  clear hz
  obtain ⟨b, o, rfl, _, hc⟩ := h.get (by omega)
  have HC := Lib.hid hc
  clear hc
  go_enter Try.func174, Try.ntmps174
  go_wp2
  go_loop [5, 6] (fun v k => ∃ m : Nat, m ≤ 5 ∧ k = .int .i64 ((i : Int) - 4 + m) ∧ v = .int .i64 (onesTo zs i m)) (fun _ k => ((i : Int) + 1 - intOf k).toNat)
  case atStart => exact ⟨0, by omega, by go_num, rfl⟩
  case round =>
    obtain ⟨m, hm, rfl, rfl⟩ := hrel
    by_cases hm5 : m < 5
    · have hv := ones_bd HZ.out (i := i) (by rw [L.out]; exact hi) m hm
      obtain ⟨v, hvv⟩ : ∃ v, onesTo zs i m = v := ⟨_, rfl⟩
      rw [hvv] at hv ⊢
      have HV := Lib.hid hvv
      clear hvv
      obtain ⟨hv1, hv2⟩ := hv
      by_cases hp : (i : Int) - 4 + m < 0
      · go_wp2
        go_round
        case rel => exact ⟨m + 1, by omega, by go_num, by rw [show onesTo zs i (m + 1) = onesTo zs i m + vt zs ((i : Int) - 4 + m) from rfl, HV.out]; unfold vt; rw [if_pos hp]⟩
        case measure => simp [intOf]; omega
      · obtain ⟨q, hq⟩ : ∃ q : Nat, (i : Int) - 4 + m = (q : Int) := ⟨((i : Int) - 4 + m).toNat, by omega⟩
        have hqn : q < n := by omega
        have hqi : q ≤ i := by omega
        have hcell := HC.out q hqn
        have hb := bit_gi HZ.out (k := q) (by rw [L.out]; exact hqn)
        obtain ⟨s, hs⟩ : ∃ s, gi zs q = s := ⟨_, rfl⟩
        rw [hs] at hcell hb
        have HS := Lib.hid hs
        have hs1 : 0 ≤ s := by omega
        have hs2 : s ≤ 1 := by omega
        have HQ := Lib.hid hq
        have HM := Lib.hid (show vt zs ((i : Int) - 4 + m) = s from by unfold vt; rw [if_neg hp, hq]; exact hs)
        clear hs hb hp
        rw [hq]
        clear hq
        go_wp2
        go_round
        case rel => exact ⟨m + 1, by omega, by have := HQ.out; congr 1; omega, by rw [show onesTo zs i (m + 1) = onesTo zs i m + vt zs ((i : Int) - 4 + m) from rfl, HV.out, HM.out]⟩
        case measure => have := HQ.out; simp [intOf]; omega
    · obtain rfl : m = 5 := by omega
      go_wp2
      go_ret
      exact ⟨rfl, rfl⟩

set_option maxHeartbeats 2000000 in
theorem onesInWindow_any (A : Option Addr) (n c : Nat) (zs : List Int) (i : Nat) (w : World) (h : RI w w.heap.size A n zs) (hn : n ≤ 1048576) (hi : i < n) (hz : isBits zs = true) :
    Calls Try.prog 202 #[.slice A n c, .int .i64 i] w fun e w' => e = .returned (.int .i64 (ones zs i)) ∧ w = w' := by
  have L := Lib.hid h.len
  have HZ := Lib.hid hz
  clear hz
  obtain ⟨b, o, rfl, _, hc⟩ := h.get (by omega)
  have HC := Lib.hid hc
  clear hc
  go_enter Try.func202, Try.ntmps202
  go_wp2
  go_loop [5, 6] (fun v k => ∃ m : Nat, m ≤ 5 ∧ k = .int .i64 ((i : Int) - 4 + m) ∧ v = .int .i64 (onesTo zs i m)) (fun _ k => ((i : Int) + 1 - intOf k).toNat)
  case atStart => exact ⟨0, by omega, by go_num, rfl⟩
  case round =>
    obtain ⟨m, hm, rfl, rfl⟩ := hrel
    by_cases hm5 : m < 5
    · have hv := ones_bd HZ.out (i := i) (by rw [L.out]; exact hi) m hm
      obtain ⟨v, hvv⟩ : ∃ v, onesTo zs i m = v := ⟨_, rfl⟩
      rw [hvv] at hv ⊢
      have HV := Lib.hid hvv
      clear hvv
      obtain ⟨hv1, hv2⟩ := hv
      by_cases hp : (i : Int) - 4 + m < 0
      · go_wp2
        go_round
        case rel => exact ⟨m + 1, by omega, by go_num, by rw [show onesTo zs i (m + 1) = onesTo zs i m + vt zs ((i : Int) - 4 + m) from rfl, HV.out]; unfold vt; rw [if_pos hp]⟩
        case measure => simp [intOf]; omega
      · obtain ⟨q, hq⟩ : ∃ q : Nat, (i : Int) - 4 + m = (q : Int) := ⟨((i : Int) - 4 + m).toNat, by omega⟩
        have hqn : q < n := by omega
        have hqi : q ≤ i := by omega
        have hcell := HC.out q hqn
        have hb := bit_gi HZ.out (k := q) (by rw [L.out]; exact hqn)
        have HQ := Lib.hid hq
        have HM := Lib.hid (show vt zs ((i : Int) - 4 + m) = gi zs q from by unfold vt; rw [if_neg hp, hq]; rfl)
        clear hp
        rw [hq]
        clear hq
        rcases hb with hb | hb
        all_goals
          rw [hb] at hcell
          have HB := Lib.hid hb
          clear hb
          go_wp2
          go_round
          case rel => exact ⟨m + 1, by omega, by have := HQ.out; congr 1; omega, by rw [show onesTo zs i (m + 1) = onesTo zs i m + vt zs ((i : Int) - 4 + m) from rfl, HV.out, HM.out, HB.out]; try (first | rfl | rw [Int.add_zero])⟩
          case measure => have := HQ.out; simp [intOf]; omega
    · obtain rfl : m = 5 := by omega
      go_wp2
      go_ret
      exact ⟨rfl, rfl⟩

set_option maxHeartbeats 2000000 in
theorem l21Vote_any (A : Option Addr) (n c : Nat) (zs : List Int) (w : World) (h : RI w w.heap.size A n zs) (hn : n ≤ 1048576) (hz : isBits zs = true) :
    Calls Try.prog 130 #[.slice A n c] w (RetI 2 w n (voted zs)) := by
  have L := Lib.hid h.len
  have HZ := Lib.hid hz
  clear hz
  go_enter Try.func130, Try.ntmps130
  go_wp2
  go_loopw [3, 4, 5] (fun o i _ wr => ∃ (k m : Nat) (A' : Option Addr) (c' : Nat), k ≤ n ∧ m = k ∧ i = .int .i64 k ∧ o = .slice A' m c' ∧ OwnI 2 wr w.heap.size A' m c' (votedTo zs k) ∧ Below w.heap.size w wr) (fun _ i _ _ => n - (intOf i).toNat)
  case atStart => exact ⟨0, 0, some ⟨w.heap.size, 0, none⟩, 0, Nat.zero_le _, rfl, rfl, rfl, OwnI.empty _ (Nat.le_refl _), (Below.refl _ _).alloc (Nat.le_refl _) _⟩
  case round =>
    obtain ⟨k, m, A', c', hk, hmk, rfl, rfl, hown, hb⟩ := hrel
    have HM := Lib.hid hmk
    have hm9 : m ≤ 9437184 := by omega
    clear hmk
    by_cases hlt : k < n
    · go_wp2_with fail
      refine (l21Ones_any A n c zs k _ (h.up hb) hn hlt HZ.out).mono ?_
      obtain ⟨v, hvv⟩ : ∃ v, ones zs k = v := ⟨_, rfl⟩
      rw [hvv]
      have HV := Lib.hid hvv
      clear hvv
      rintro e w' ⟨rfl, rfl⟩
      by_cases h3 : 3 ≤ v
      · go_wp2_with (at_builtin; refine wpl_appI _ _ Try.underlying25 infoInt rfl _ _ rfl w.heap.size _ m _ _ rfl hown 1 rfl (by omega) hb.size ?_; intro A2 c2 w2 hown2 hB2 hg2)
        go_roundw
        case rel => exact ⟨k + 1, m + 1, A2, c2, by omega, by rw [HM.out], by go_num, rfl, by rw [votedTo_succ, show vb zs k = 1 from by unfold vb; rw [HV.out, if_pos h3]]; exact hown2, hb.trans (hB2 _ (Nat.le_refl _))⟩
        case measure => simp [intOf]; omega
      · go_wp2_with (at_builtin; refine wpl_appI _ _ Try.underlying25 infoInt rfl _ _ rfl w.heap.size _ m _ _ rfl hown 0 rfl (by omega) hb.size ?_; intro A2 c2 w2 hown2 hB2 hg2)
        go_roundw
        case rel => exact ⟨k + 1, m + 1, A2, c2, by omega, by rw [HM.out], by go_num, rfl, by rw [votedTo_succ, show vb zs k = 0 from by unfold vb; rw [HV.out, if_neg (by omega)]]; exact hown2, hb.trans (hB2 _ (Nat.le_refl _))⟩
        case measure => simp [intOf]; omega
    · obtain rfl : k = n := by omega
      obtain rfl := HM.out
      go_wp2
      go_ret
      exact ⟨A', c', rfl, by unfold voted; rw [L.out]; exact hown, hb⟩

theorem oneIf_any (b : Bool) (w : World) :
    Calls Try.prog 201 #[.bool b] w fun e w' => e = .returned (.int .i64 (if b then 1 else 0)) ∧ w = w' := by
  cases b
  all_goals
    go_enter Try.func201, Try.ntmps201
    go_wp2
    go_ret
    exact ⟨rfl, rfl⟩

set_option maxHeartbeats 2000000 in
theorem vote_any (A : Option Addr) (n c : Nat) (zs : List Int) (w : World) (h : RI w w.heap.size A n zs) (hn : n ≤ 1048576) (hz : isBits zs = true) :
    Calls Try.prog 175 #[.slice A n c] w (RetI 2 w n (voted zs)) := by
  have L := Lib.hid h.len
  have HZ := Lib.hid hz
  clear hz
  go_enter Try.func175, Try.ntmps175
  go_wp2
  go_loopw [3, 8] (fun o i wr => ∃ (k m : Nat) (A' : Option Addr) (c' : Nat), k ≤ n ∧ m = k ∧ i = .int .i64 k ∧ o = .slice A' m c' ∧ OwnI 2 wr w.heap.size A' m c' (votedTo zs k) ∧ Below w.heap.size w wr) (fun _ i _ => n - (intOf i).toNat)
  case atStart => exact ⟨0, 0, some ⟨w.heap.size, 0, none⟩, 0, Nat.zero_le _, rfl, rfl, rfl, OwnI.empty _ (Nat.le_refl _), (Below.refl _ _).alloc (Nat.le_refl _) _⟩
  case round =>
    obtain ⟨k, m, A', c', hk, hmk, rfl, rfl, hown, hb⟩ := hrel
    have HM := Lib.hid hmk
    have hm9 : m ≤ 9437184 := by omega
    clear hmk
    by_cases hlt : k < n
    · go_wp2_with fail
      refine (onesInWindow_any A n c zs k _ (h.up hb) hn hlt HZ.out).mono ?_
      have hv := ones_bd HZ.out (i := k) (by rw [L.out]; exact hlt) 5 (by omega)
      obtain ⟨v, hvv⟩ : ∃ v, ones zs k = v := ⟨_, rfl⟩
      rw [show onesTo zs k 5 = ones zs k from rfl, hvv] at hv
      obtain ⟨hv1, hv2⟩ := hv
      rw [hvv]
      have HV := Lib.hid hvv
      clear hvv
      rintro e w' ⟨rfl, rfl⟩
      go_wp2_with fail
      refine (oneIf_any _ _).mono ?_
      have hb3 : (if decide (5 < 2 * v) = true then (1 : Int) else 0) = vb zs k := by
        unfold vb; rw [HV.out]
        by_cases h3 : 3 ≤ v
        · rw [if_pos h3, if_pos (by simp; omega)]
        · rw [if_neg h3, if_neg (by simp; omega)]
      first | rw [hb3] | skip
      clear hb3
      rintro e w' ⟨rfl, rfl⟩
      go_wp2_with (at_builtin; refine wpl_appI _ _ Try.underlying25 infoInt rfl _ _ rfl w.heap.size _ m _ _ rfl hown (vb zs k) rfl (by omega) hb.size ?_; intro A2 c2 w2 hown2 hB2 hg2)
      go_roundw
      case rel => exact ⟨k + 1, m + 1, A2, c2, by omega, by rw [HM.out], by go_num, rfl, by rw [votedTo_succ]; exact hown2, hb.trans (hB2 _ (Nat.le_refl _))⟩
      case measure => simp [intOf]; omega
    · obtain rfl : k = n := by omega
      obtain rfl := HM.out
      go_wp2
      go_ret
      exact ⟨A', c', rfl, by unfold voted; rw [L.out]; exact hown, hb⟩
end Vote

namespace DecodeSamples
def res (zs : List Int) : List Int := if isBits zs then DecodeVoted.res (voted zs) else []
def cod (zs : List Int) : Int := if isBits zs then DecodeVoted.cod (voted zs) else 1
theorem res_len (zs : List Int) : (res zs).length ≤ zs.length := by
  unfold res
  split
  · have := DecodeVoted.res_len (voted zs)
    rwa [voted_len] at this
  · simp

set_option maxHeartbeats 2000000 in
theorem spec_any (A : Option Addr) (n c : Nat) (zs : List Int) (w : World) (h : RI w w.heap.size A n zs) (hn' : n ≤ 1099511627776) (hn : n ≤ 1048576) :
    Calls Try.prog 73 #[.slice A n c] w (RetIC 2 w (res zs) (cod zs)) := by
  rcases bool_cases (isBits zs) with hz | hz
  case inr =>
    have E1 := Lib.hid (show res zs = [] from by simp [res, hz])
    have E2 := Lib.hid (show cod zs = 1 from by simp [cod, hz])
    go_enter Try.func73, Try.ntmps73
    go_wp2_with (go_at_call 102; refine (sIsBits_any _ _ _ _ _ h hn').mono ?_; rintro e w' ⟨rfl, rfl⟩)
    go_ret2
    exact ⟨none, 0, 0, by rw [E2.out]; rfl, by rw [E1.out]; exact OwnI.nil _ _ _, by go_grown⟩
  have E1 := Lib.hid (show res zs = DecodeVoted.res (voted zs) from by simp [res, hz])
  have E2 := Lib.hid (show cod zs = DecodeVoted.cod (voted zs) from by simp [cod, hz])
  have HZ := Lib.hid hz
  go_enter Try.func73, Try.ntmps73
  go_wp2_with (go_at_call 102; refine (sIsBits_any _ _ _ _ _ h hn').mono ?_; rintro e w' ⟨rfl, rfl⟩)
  refine (Vote.l21Vote_any A n c zs _ h hn HZ.out).mono ?_
  rintro e w1 ⟨A1, c1, rfl, hown1, hb1⟩
  go_wp2_with fail
  refine (DecodeVoted.spec_any A1 n c1 (voted zs) _ hown1.reads hn' hn).mono ?_
  rintro e w2 ⟨A2, n2, c2, rfl, hown2, hb2⟩
  go_wp2
  go_ret2
  rw [E1.out, E2.out]
  exact ⟨_, _, _, rfl, hown2.weaken hb1.size, below_next hb2 hb1 (Nat.le_refl _)⟩

set_option maxHeartbeats 2000000 in
theorem impl_any (A : Option Addr) (n c : Nat) (zs : List Int) (w : World) (h : RI w w.heap.size A n zs) (hn' : n ≤ 1099511627776) (hn : n ≤ 1048576) :
    Calls Try.prog 74 #[.slice A n c] w (RetIC 2 w (res zs) (cod zs)) := by
  rcases bool_cases (isBits zs) with hz | hz
  case inr =>
    have E1 := Lib.hid (show res zs = [] from by simp [res, hz])
    have E2 := Lib.hid (show cod zs = 1 from by simp [cod, hz])
    go_enter Try.func74, Try.ntmps74
    go_wp2_with (first | (go_at_call 104; refine (iIsBits_any _ _ _ _ _ h hn').mono ?_; rintro e w' ⟨rfl, rfl⟩) | go_in)
    go_ret2
    exact ⟨none, 0, 0, by rw [E2.out]; rfl, by rw [E1.out]; exact OwnI.nil _ _ _, by go_grown⟩
  have E1 := Lib.hid (show res zs = DecodeVoted.res (voted zs) from by simp [res, hz])
  have E2 := Lib.hid (show cod zs = DecodeVoted.cod (voted zs) from by simp [cod, hz])
  have HZ := Lib.hid hz
  have hvs : Calls Try.prog 131 #[.slice A n c] w fun e w' => ∃ A1 c1, e = .returned (.tuple #[.slice A1 n c1, .int .i64 0]) ∧ OwnI 2 w' w.heap.size A1 n c1 (voted zs) ∧ Below w.heap.size w w' := by
    go_enter Try.func131, Try.ntmps131
    go_wp2_with (go_at_call 104; refine (iIsBits_any _ _ _ _ _ h hn').mono ?_; rintro e w' ⟨rfl, rfl⟩)
    refine (Vote.vote_any A n c zs _ h hn HZ.out).mono ?_
    rintro e w1 ⟨A1, c1, rfl, hown1, hb1⟩
    go_wp2
    go_ret2
    exact ⟨A1, c1, rfl, hown1, hb1⟩
  have HVS := Lib.hid hvs
  clear hvs
  go_enter Try.func74, Try.ntmps74
  go_wp2_with fail
  refine HVS.out.mono ?_
  rintro e w1 ⟨A1, c1, rfl, hown1, hb1⟩
  go_wp2_with fail
  refine (DecodeVoted.impl_any A1 n c1 (voted zs) _ hown1.reads hn' hn).mono ?_
  rintro e w2 ⟨A2, n2, c2, rfl, hown2, hb2⟩
  go_wp2
  go_ret2
  rw [E1.out, E2.out]
  exact ⟨_, _, _, rfl, hown2.weaken hb1.size, below_next hb2 hb1 (Nat.le_refl _)⟩
end DecodeSamples
end Go.Proofs.Ytdbfnldjibjbkaa
