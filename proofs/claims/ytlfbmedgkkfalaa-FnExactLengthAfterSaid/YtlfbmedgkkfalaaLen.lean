/- The walks of LengthAfter, of the program and the reference. Conditions: none. -/
import Derived.Test.YtlfbmedgkkfalaaAs
namespace Go.Proofs.Ytlfbmedgkkfalaa
open Go.RowKit
namespace LengthAfter
def val (a : Int) (fs : List Flt) : Int := if inR a 0 8192 = true ∧ isScript fs = true then (lenS a.toNat fs : Int) else 0
def cod (a : Int) (fs : List Flt) : Int := if inR a 0 8192 then (if isScript fs then 0 else 2) else 1

theorem lenF3 (n q l : Nat) {f : Flt} (h : f.kd = 3) (hq : f.pos = q) (hl : f.len = l) : lenF n f = n - (min n (q + l) - min n q) := by
  unfold lenF; rw [if_pos h, hq, hl]; rfl
theorem lenF4 (n q l : Nat) {f : Flt} (h : f.kd = 4) (hq : f.pos = q) (hl : f.len = l) : lenF n f = if q ≤ n then min 8192 (n + l) else n := by
  unfold lenF; rw [if_neg (by omega), if_pos h, hq, hl]; rfl
theorem lenFo (n : Nat) {f : Flt} (h3 : f.kd ≠ 3) (h4 : f.kd ≠ 4) : lenF n f = n := by
  unfold lenF; rw [if_neg h3, if_neg h4]

set_option maxHeartbeats 8000000 in
theorem spec_any (a : Int) (A : Option Addr) (n c : Nat) (fs : List Flt) (w : World) (h : RE encF 4 w w.heap.size A n fs) (hn : n ≤ 1099511627776) :
    Calls Try.prog 38 #[.int .i64 a, .slice A n c] w (RetV w (.tuple #[.int .i64 (val a fs), .int .i64 (cod a fs)])) := by
  have L := Lib.hid h.len
  rcases bool_cases (inR a 0 8192) with hr | hr
  case inr =>
    have E1 := Lib.hid (show val a fs = 0 from by simp [val, hr])
    have E2 := Lib.hid (show cod a fs = 1 from by simp [cod, hr])
    go_enter Try.func38, Try.ntmps38
    go_wp2_with fail
    refine (l01In_any a 0 8192 _).mono ?_
    rw [show inR a 0 8192 = false from hr]
    rintro e w' ⟨rfl, rfl⟩
    go_wp2
    go_ret2
    rw [E1.out, E2.out]
    exact ⟨rfl, Below.refl _ _⟩
  rcases bool_cases (isScript fs) with hz | hz
  case inr =>
    have E1 := Lib.hid (show val a fs = 0 from by simp [val, hz])
    have E2 := Lib.hid (show cod a fs = 2 from by simp [cod, hr, hz])
    go_enter Try.func38, Try.ntmps38
    go_wp2_with fail
    refine (l01In_any a 0 8192 _).mono ?_
    rw [show inR a 0 8192 = true from hr]
    rintro e w' ⟨rfl, rfl⟩
    go_wp2_with fail
    refine (sIsScript_any A n c fs _ h hn).mono ?_
    rw [hz]
    rintro e w1 ⟨rfl, hb1⟩
    go_wp2
    go_ret2
    rw [E1.out, E2.out]
    exact ⟨rfl, hb1⟩
  have hr' := inR_iff.1 hr
  obtain ⟨N, rfl⟩ : ∃ N : Nat, a = N := ⟨a.toNat, by omega⟩
  have hN : N ≤ 8192 := by omega
  have E1 := Lib.hid (show val N fs = (lenS N fs : Int) from by simp [val, hr, hz])
  have E2 := Lib.hid (show cod N fs = 0 from by simp [cod, hr, hz])
  have HA := Lib.hid (isScript_all hz)
  clear hr'
  go_enter Try.func38, Try.ntmps38
  go_wp2_with fail
  refine (l01In_any N 0 8192 _).mono ?_
  rw [show inR N 0 8192 = true from hr]
  rintro e w' ⟨rfl, rfl⟩
  go_wp2_with fail
  refine (sIsScript_any A n c fs _ h hn).mono ?_
  rw [hz]
  clear hz hr
  rintro e w1 ⟨rfl, hb1⟩
  go_wp2
  go_loopw [0, 6] (fun x i wr => ∃ k M : Nat, k ≤ n ∧ i = .int .i64 k ∧ x = .int .i64 M ∧ M = lenS N (fs.take k) ∧ Below w.heap.size w wr) (fun _ i _ => n - (intOf i).toNat)
  case atStart => exact ⟨0, N, Nat.zero_le _, rfl, rfl, rfl, hb1⟩
  case round =>
    obtain ⟨k, M, hk, rfl, rfl, hM, hb⟩ := hrel
    have hM8 : M ≤ 8192 := by rw [hM]; exact lenS_le _ _ hN
    have HM := Lib.hid hM
    clear hM
    by_cases hlt : k < n
    · obtain ⟨b, o, rfl, hbl, hc⟩ := (h.below hb (Nat.le_refl _)).get (by omega)
      have hc0 := hc k hlt 0 _ rfl
      have hc1 := hc k hlt 1 _ rfl
      have hc2 := hc k hlt 2 _ rfl
      have hc3 := hc k hlt 3 _ rfl
      clear hc
      rw [Nat.add_zero] at hc0
      have hfl := allF_ge HA.out (k := k) (by rw [L.out]; exact hlt)
      have ST := Lib.hid (show lenS N (fs.take (k + 1)) = lenF M (ge fs k) from by rw [lenS_take (by rw [L.out]; exact hlt), ← HM.out])
      obtain ⟨f, hfe⟩ : ∃ f, ge fs k = f := ⟨_, rfl⟩
      rw [hfe] at hc0 hc1 hc2 hc3 hfl
      have HFE := Lib.hid hfe
      clear hfe
      obtain ⟨q, l, hq, hl, hq8, hl8, _⟩ := isFault_parts hfl
      rw [hq] at hc1
      rw [hl] at hc2
      have HQ := Lib.hid hq
      have HL := Lib.hid hl
      clear hq hl hfl
      obtain ⟨kd, hkd⟩ : ∃ x, f.kd = x := ⟨_, rfl⟩
      rw [hkd] at hc0
      have HK := Lib.hid hkd
      clear hkd
      by_cases h3 : kd = 3
      · subst h3
        have E := Lib.hid (show lenS N (fs.take (k + 1)) = M - (min M (q + l) - min M q) from by rw [ST.out, HFE.out]; exact lenF3 M q l HK.out HQ.out HL.out)
        by_cases hqM : M ≤ q
        · have hql : (M : Int) ≤ (q : Int) + (l : Int) := by omega
          have E3 := Lib.hid (show M - (min M (q + l) - min M q) = M by omega)
          go_wp2
          go_roundw
          case rel => exact ⟨k + 1, M, by omega, by go_num, rfl, by rw [E.out, E3.out], by first | exact hb | exact hb.alloc hb.size _⟩
          case measure => simp [intOf]; omega
        · have hqM2 : ¬ ((M : Int) ≤ (q : Int)) := by omega
          by_cases hqlM : M ≤ q + l
          · have hql : (M : Int) ≤ (q : Int) + (l : Int) := by omega
            have hs : (M : Int) - ((M : Int) - (q : Int)) = (q : Int) := by omega
            have HS := Lib.hid hs
            have E3 := Lib.hid (show M - (min M (q + l) - min M q) = q by omega)
            clear hs
            go_wp2
            go_roundw
            case rel => exact ⟨k + 1, q, by omega, by go_num, by rw [HS.out], by rw [E.out, E3.out], by first | exact hb | exact hb.alloc hb.size _⟩
            case measure => simp [intOf]; omega
          · have hql : ¬ ((M : Int) ≤ (q : Int) + (l : Int)) := by omega
            have HS := Lib.hid (show (M : Int) - ((q : Int) + (l : Int) - (q : Int)) = ((M - l : Nat) : Int) by omega)
            have E3 := Lib.hid (show M - (min M (q + l) - min M q) = M - l by omega)
            go_wp2
            go_roundw
            case rel => exact ⟨k + 1, M - l, by omega, by go_num, by first | rw [HS.out] | (congr 1; omega), by rw [E.out, E3.out], by first | exact hb | exact hb.alloc hb.size _⟩
            case measure => simp [intOf]; omega
      · have hb3 : (kd == 3) = false := by simp [h3]
        by_cases h4 : kd = 4
        · subst h4
          have E := Lib.hid (show lenS N (fs.take (k + 1)) = if q ≤ M then min 8192 (M + l) else M from by rw [ST.out, HFE.out]; exact lenF4 M q l HK.out HQ.out HL.out)
          by_cases hqM : q ≤ M
          · have hqi : (q : Int) ≤ (M : Int) := by omega
            by_cases h8 : 8192 ≤ M + l
            · have h8i : (8192 : Int) ≤ (M : Int) + (l : Int) := by omega
              have E3 := Lib.hid (show min 8192 (M + l) = 8192 by omega)
              have HQM := Lib.hid hqM
              go_wp2
              go_roundw
              case rel => exact ⟨k + 1, 8192, by omega, by go_num, congrArg (Value.int .i64) (show (8192 : Int) = ((8192 : Nat) : Int) by omega), by rw [E.out, if_pos HQM.out, E3.out], by first | exact hb | exact hb.alloc hb.size _⟩
              case measure => simp [intOf]; omega
            · have h8i : (M : Int) + (l : Int) < 8192 := by omega
              have E3 := Lib.hid (show min 8192 (M + l) = M + l by omega)
              have HQM := Lib.hid hqM
              go_wp2
              go_roundw
              case rel => exact ⟨k + 1, M + l, by omega, by go_num, by first | rw [Int.natCast_add] | rw [if_pos h8i, Int.natCast_add], by rw [E.out, if_pos HQM.out, E3.out], by first | exact hb | exact hb.alloc hb.size _⟩
              case measure => simp [intOf]; omega
          · have hqi : ¬ ((q : Int) ≤ (M : Int)) := by omega
            have HQM := Lib.hid hqM
            go_wp2
            go_roundw
            case rel => exact ⟨k + 1, M, by omega, by go_num, rfl, by rw [E.out, if_neg HQM.out], by first | exact hb | exact hb.alloc hb.size _⟩
            case measure => simp [intOf]; omega
        · have hb4 : (kd == 4) = false := by simp [h4]
          have E := Lib.hid (show lenS N (fs.take (k + 1)) = M from by rw [ST.out, HFE.out]; exact lenFo M (by rw [HK.out]; exact h3) (by rw [HK.out]; exact h4))
          clear h3 h4
          go_wp2
          go_roundw
          case rel => exact ⟨k + 1, M, by omega, by go_num, rfl, E.out.symm, by first | exact hb | exact hb.alloc hb.size _⟩
          case measure => simp [intOf]; omega
    · have hkn : k = n := by omega
      have HK := Lib.hid (show fs.take k = fs by rw [List.take_of_length_le (by rw [L.out]; omega)])
      clear hkn
      go_wp2
      go_ret2
      rw [E1.out, E2.out, HM.out, HK.out]
      exact ⟨rfl, hb⟩

theorem zeros_bits {N : Nat} (h : N ≤ 8192) : isBits (List.replicate N 0) = true := by
  refine isBits_iff.2 ⟨by simpa using h, fun z hz => ?_⟩
  have := List.eq_of_mem_replicate hz
  omega

set_option maxHeartbeats 4000000 in
theorem impl_any (a : Int) (A : Option Addr) (n c : Nat) (fs : List Flt) (w : World) (h : RE encF 4 w w.heap.size A n fs) (hn : n ≤ 1099511627776) :
    Calls Try.prog 39 #[.int .i64 a, .slice A n c] w (RetV w (.tuple #[.int .i64 (val a fs), .int .i64 (cod a fs)])) := by
  have L := Lib.hid h.len
  rcases bool_cases (inR a 0 8192) with hr | hr
  case inr =>
    have E1 := Lib.hid (show val a fs = 0 from by simp [val, hr])
    have E2 := Lib.hid (show cod a fs = 1 from by simp [cod, hr])
    go_enter Try.func39, Try.ntmps39
    go_wp2_with fail
    refine (within_any a 0 8192 _).mono ?_
    rw [show inR a 0 8192 = false from hr]
    rintro e w' ⟨rfl, rfl⟩
    go_wp2
    go_ret2
    rw [E1.out, E2.out]
    exact ⟨rfl, Below.refl _ _⟩
  rcases bool_cases (isScript fs) with hz | hz
  case inr =>
    have E1 := Lib.hid (show val a fs = 0 from by simp [val, hz])
    have E2 := Lib.hid (show cod a fs = 2 from by simp [cod, hr, hz])
    go_enter Try.func39, Try.ntmps39
    go_wp2_with fail
    refine (within_any a 0 8192 _).mono ?_
    rw [show inR a 0 8192 = true from hr]
    rintro e w' ⟨rfl, rfl⟩
    go_wp2_with fail
    refine (iIsScript_any A n c fs _ h hn).mono ?_
    rw [hz]
    rintro e w1 ⟨rfl, hb1⟩
    go_wp2
    go_ret2
    rw [E1.out, E2.out]
    exact ⟨rfl, hb1⟩
  have hr' := inR_iff.1 hr
  obtain ⟨N, rfl⟩ : ∃ N : Nat, a = N := ⟨a.toNat, by omega⟩
  have hN : N ≤ 8192 := by omega
  have E1 := Lib.hid (show val N fs = (lenS N fs : Int) from by simp [val, hr, hz])
  have E2 := Lib.hid (show cod N fs = 0 from by simp [cod, hr, hz])
  have HA := Lib.hid (isScript_all hz)
  clear hr'
  go_enter Try.func39, Try.ntmps39
  go_wp2_with fail
  refine (within_any N 0 8192 _).mono ?_
  rw [show inR N 0 8192 = true from hr]
  rintro e w' ⟨rfl, rfl⟩
  go_wp2_with fail
  refine (iIsScript_any A n c fs _ h hn).mono ?_
  rw [hz]
  clear hz hr
  rintro e w1 ⟨rfl, hb1⟩
  go_wp2_with (with_reducible refine wpl_make _ Try.underlying24 infoInt rfl _ _ rfl N rfl rfl (by omega) ?_; intro w2 hown2 hg2)
  have hb2 : Below w.heap.size w w2 := hb1.grown hg2 hb1.size (fun g e => by cases e)
  refine (ApplyScript.applyScript_any _ N N _ A n c fs _ hown2.reads (zeros_bits hN) (fun e => by cases e) (h.up hb2) HA.out hn).mono ?_
  rintro e w3 ⟨A3, c3, rfl, hown3, hb3⟩
  have HL := Lib.hid (show (List.replicate N (0 : Int)).length = N by simp)
  go_wp2
  go_ret2
  rw [E1.out, E2.out]
  exact ⟨rfl, below_next hb3 hb2 (Nat.le_refl _)⟩
end LengthAfter
end Go.Proofs.Ytlfbmedgkkfalaa
