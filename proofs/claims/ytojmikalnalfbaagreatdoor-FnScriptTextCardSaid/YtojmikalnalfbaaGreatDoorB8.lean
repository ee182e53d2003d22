/- Walks, laws and small notions for the claims of this seat, several texts as one (CellA, As, Len). Conditions: as each theorem states them. -/
import Derived.Test.YtojmikalnalfbaaGreatDoorB5
import Derived.Test.YtojmikalnalfbaaGreatDoorB7
namespace Go.Proofs.YtojmikalnalfbaaGreatDoor
open Go.RowKit

/-- the code of a list and a script -/
def bsCode (zs : List Int) (fs : List Flt) : Int := if isBits zs then (if isScript fs then 0 else 2) else 1

/-- is a fault an inversion of whole cells -/
def cellF (f : Flt) : Bool := decide (f.kd = 2) && (decide (f.pos % 8 = 0) && decide (f.len % 8 = 0))
def allC (fs : List Flt) : Bool := fs.all cellF
theorem allC_take {fs : List Flt} {k : Nat} (hk : k < fs.length) : allC (fs.take (k + 1)) = (allC (fs.take k) && cellF (ge fs k)) := by
  rw [take_ge hk]; simp [allC]
theorem allC_no {fs : List Flt} {k : Nat} (hk : k < fs.length) (h : cellF (ge fs k) = false) : allC fs = false := by
  refine Bool.eq_false_iff.2 fun ht => ?_
  have := List.all_eq_true.1 ht (ge fs k) (mem_ge hk)
  rw [h] at this; cases this
/-- is cell k inverted by a fault; how often by a script -/
def hit (f : Flt) (k : Nat) : Bool := inR (8 * (k : Int)) f.pos (f.pos + f.len - 1)
def hits (fs : List Flt) (k : Nat) : Nat := (fs.filter fun f => hit f k).length
theorem hits_take {fs : List Flt} {j : Nat} (hj : j < fs.length) (k : Nat) : hits (fs.take (j + 1)) k = hits (fs.take j) k + (if hit (ge fs j) k then 1 else 0) := by
  rw [take_ge hj]
  unfold hits
  rw [List.filter_append, List.length_append]
  by_cases h : hit (ge fs j) k = true
  · simp [h]
  · simp [h]
/-- is a cell wrong -/
def odd (fs : List Flt) (k : Nat) : Bool := decide (hits fs k % 2 = 1)
/-- the wrong cells below k -/
def wrongTo (fs : List Flt) : Nat → List Int
  | 0 => []
  | k + 1 => wrongTo fs k ++ (if odd fs k then [(k : Int)] else [])
theorem wrongTo_yes {fs : List Flt} {k : Nat} (h : odd fs k = true) : wrongTo fs (k + 1) = wrongTo fs k ++ [(k : Int)] := by simp [wrongTo, h]
theorem wrongTo_no {fs : List Flt} {k : Nat} (h : odd fs k = false) : wrongTo fs (k + 1) = wrongTo fs k := by simp [wrongTo, h]
theorem wrongTo_len (fs : List Flt) (k : Nat) : (wrongTo fs k).length ≤ k := by
  induction k with
  | zero => simp [wrongTo]
  | succ k ih => unfold wrongTo; split <;> simp <;> omega
namespace CellErrors
def res (zs : List Int) (fs : List Flt) : List Int := if bsCode zs fs = 0 ∧ allC fs = true then wrongTo fs (zs.length / 8) else []
def cod (zs : List Int) (fs : List Flt) : Int := if bsCode zs fs = 0 then (if allC fs then 0 else 5) else bsCode zs fs
theorem res_len (zs : List Int) (fs : List Flt) : (res zs fs).length ≤ zs.length := by
  unfold res; split
  · have := wrongTo_len fs (zs.length / 8)
    omega
  · simp
end CellErrors
end Go.Proofs.YtojmikalnalfbaaGreatDoor

namespace Go.Proofs.YtojmikalnalfbaaGreatDoor
open Go.RowKit
theorem isScript_len {fs : List Flt} (h : isScript fs = true) : fs.length ≤ 30 := by
  unfold isScript at h; simp only [Bool.and_eq_true, decide_eq_true_eq] at h; exact h.1
theorem isScript_all {fs : List Flt} (h : isScript fs = true) : allF fs = true := by
  unfold isScript at h; simp only [Bool.and_eq_true, decide_eq_true_eq] at h; exact h.2
/-- a slice of the call's own is handed back, of whatever length the list has -/
def RetL (T : TypeId) (w0 : World) (zs : List Int) (e : Ending) (w' : World) : Prop :=
  ∃ A n c, e = .returned (.slice A n c) ∧ OwnI T w' w0.heap.size A n c zs ∧ Below w0.heap.size w0 w'
theorem RetI.toL {T : TypeId} {w0 : World} {n : Nat} {zs : List Int} {e : Ending} {w' : World} (h : RetI T w0 n zs e w') : RetL T w0 zs e w' :=
  let ⟨A, c, h1, h2, h3⟩ := h; ⟨A, n, c, h1, h2, h3⟩
namespace ApplyScript
theorem l24L (A : Option Addr) (n c : Nat) (zs : List Int) (f : Flt) (w : World) (hri : RI w w.heap.size A n zs) (hz : isBits zs = true) (hf : isFault f = true) (hA : Pl A c) (hnc : n ≤ c) (hcm : c ≤ maxLen) :
    Calls Tryz.prog 36 #[.slice A n c, .agg #[.int .i64 f.kd, .int .i64 f.pos, .int .i64 f.len, .int .i64 f.val]] w (RetL 2 w (appF zs f)) :=
  (ApplyFault.l24Apply_any A n c zs f.kd f.pos f.len f.val w hri hz hf hA hnc hcm).mono fun _ _ h => RetI.toL h
theorem apfL (A : Option Addr) (n c : Nat) (zs : List Int) (f : Flt) (w : World) (hri : RI w w.heap.size A n zs) (hz : isBits zs = true) (hf : isFault f = true) (hA : A = none → c = 0) :
    Calls Tryz.prog 34 #[.slice A n c, .agg #[.int .i64 f.kd, .int .i64 f.pos, .int .i64 f.len, .int .i64 f.val]] w (RetL 2 w (appF zs f)) :=
  (ApplyFault.applyFault_any A n c zs f.kd f.pos f.len f.val w hri hz hf hA).mono fun _ _ h => RetI.toL h

set_option maxHeartbeats 2000000 in
theorem applyScript_any (A : Option Addr) (n c : Nat) (zs : List Int) (B : Option Addr) (m d : Nat) (fs : List Flt) (w : World) (h : RI w w.heap.size A n zs) (hz : isBits zs = true) (hA : A = none → c = 0) (hf : RE encF 4 w w.heap.size B m fs) (hall : allF fs = true) (hm : m ≤ 1099511627776) :
    Calls Tryz.prog 55 #[.slice A n c, .slice B m d] w (RetI 2 w (lenS n fs) (appS zs fs)) := by
  have L := Lib.hid h.len
  have LF := Lib.hid hf.len
  have HZ := Lib.hid hz
  have HA := Lib.hid hall
  have hn : n ≤ 8192 := by rw [← h.len]; exact isBits_len hz
  clear hz hall
  go_enter Tryz.func55, Tryz.ntmps55
  go_wp2_with fail
  refine (SilenceFrom.clone_any A n c zs w h (by omega) hA).mono ?_
  rintro e w1 ⟨A1, c1, rfl, hown1, hb1⟩
  go_wp2_with fail
  go_loopw [5, 12] (fun o i wr => ∃ (k n' : Nat) (A' : Option Addr) (c' : Nat), k ≤ m ∧ i = .int .i64 k ∧ o = .slice A' n' c' ∧ OwnI 2 wr w.heap.size A' n' c' (appS zs (fs.take k)) ∧ Below w.heap.size w wr) (fun _ i _ => m - (intOf i).toNat)
  case atStart => exact ⟨0, n, A1, c1, Nat.zero_le _, rfl, rfl, hown1, hb1⟩
  case round =>
    obtain ⟨k, n', A', c', hk, rfl, rfl, hown, hb⟩ := hrel
    by_cases hlt : k < m
    · obtain ⟨b, o, rfl, hbl, hc⟩ := (hf.below hb (Nat.le_refl _)).get (by omega)
      have hc0 := hc k hlt 0 _ rfl
      have hc1 := hc k hlt 1 _ rfl
      have hc2 := hc k hlt 2 _ rfl
      have hc3 := hc k hlt 3 _ rfl
      clear hc
      rw [Nat.add_zero] at hc0
      have hfl := allF_ge HA.out (k := k) (by rw [LF.out]; exact hlt)
      have hbits : isBits (appS zs (fs.take k)) = true := appS_bits HZ.out (allF_take' k HA.out)
      have ST := Lib.hid (appS_take (zs := zs) (fs := fs) (k := k) (by rw [LF.out]; exact hlt))
      have HFL := Lib.hid hfl
      have HBT := Lib.hid hbits
      have HO := Lib.hid hown
      have HB := Lib.hid hb
      clear hfl hbits hown hb
      go_wp2_with fail
      refine (apfL A' n' c' _ (ge fs k) _ (by exact (HO.out.alloc _).reads) HBT.out HFL.out (own_none HO.out)).mono ?_
      rintro e w2 ⟨A2, n2, c2, rfl, hown2, hb2⟩
      have HO2 := Lib.hid hown2
      have HB2 := Lib.hid hb2
      clear hown2 hb2
      go_wp2_with fail
      go_roundw
      case rel =>
        have hb' := HB.out
        have := HO2.out
        refine ⟨k + 1, n2, A2, c2, by omega, by go_num, rfl, ?_, below_next HB2.out (below_alloc hb' (Nat.le_refl _) _) (Nat.le_refl _)⟩
        rw [ST.out]
        exact this.weaken (Nat.le_trans hb'.size (by rw [isz_alloc]; omega))
      case measure => simp [intOf]; omega
    · have hkm : k = m := by omega
      have HK := Lib.hid (show fs.take k = fs by rw [List.take_of_length_le (by rw [LF.out]; omega)])
      clear hkm
      have hl := hown.len
      rw [HK.out, appS_len, L.out] at hl
      rw [HK.out] at hown
      have HL := Lib.hid hl
      clear hl
      go_wp2
      go_ret
      rw [HL.out]
      exact ⟨A', c', rfl, hown, hb⟩

def res (zs : List Int) (fs : List Flt) : List Int := if bsCode zs fs = 0 then appS zs fs else []
theorem bs_ok {zs : List Int} {fs : List Flt} (h : bsCode zs fs = 0) : isBits zs = true ∧ isScript fs = true := by
  unfold bsCode at h
  split at h
  · split at h
    · exact ⟨by assumption, by assumption⟩
    · cases h
  · cases h
theorem bs_of {zs : List Int} {fs : List Flt} (h1 : isBits zs = true) (h2 : isScript fs = true) : bsCode zs fs = 0 := by simp [bsCode, h1, h2]
theorem res_bits (zs : List Int) (fs : List Flt) : isBits (res zs fs) = true := by
  unfold res
  split
  · rename_i h
    obtain ⟨h1, h2⟩ := bs_ok h
    exact appS_bits h1 (isScript_all h2)
  · rfl
theorem res_len (zs : List Int) (fs : List Flt) : (res zs fs).length ≤ 8192 := isBits_len (res_bits zs fs)

end ApplyScript
end Go.Proofs.YtojmikalnalfbaaGreatDoor

namespace Go.Proofs.YtojmikalnalfbaaGreatDoor
open Go.RowKit
namespace LengthAfter
def val (a : Int) (fs : List Flt) : Int := if inR a 0 8192 = true ∧ isScript fs = true then (lenS a.toNat fs : Int) else 0
def cod (a : Int) (fs : List Flt) : Int := if inR a 0 8192 then (if isScript fs then 0 else 2) else 1

theorem lenF3 (n q l : Nat) {f : Flt} (h : f.kd = 3) (hq : f.pos = q) (hl : f.len = l) : lenF n f = n - (min n (q + l) - min n q) := by
  unfold lenF; rw [if_pos h, hq, hl]; rfl
theorem lenF4 (n q l : Nat) {f : Flt} (h : f.kd = 4) (hq : f.pos = q) (hl : f.len = l) : lenF n f = if q ≤ n then min 8192 (n + l) else n := by
  unfold lenF; rw [if_neg (by omega), if_pos h, hq, hl]; rfl
theorem lenFo (n : Nat) {f : Flt} (h3 : f.kd ≠ 3) (h4 : f.kd ≠ 4) : lenF n f = n := by
  unfold lenF; rw [if_neg h3, if_neg h4]

set_option maxHeartbeats 8000000 in
theorem spec_any (a : Int) (A : Option Addr) (n c : Nat) (fs : List Flt) (w : World) (h : RE encF 4 w w.heap.size A n fs) (hn : n ≤ 1099511627776) :
    Calls Tryz.prog 26 #[.int .i64 a, .slice A n c] w (RetV w (.tuple #[.int .i64 (val a fs), .int .i64 (cod a fs)])) := by
  have L := Lib.hid h.len
  rcases bool_cases (inR a 0 8192) with hr | hr
  case inr =>
    have E1 := Lib.hid (show val a fs = 0 from by simp [val, hr])
    have E2 := Lib.hid (show cod a fs = 1 from by simp [cod, hr])
    go_enter Tryz.func26, Tryz.ntmps26
    go_wp2_with fail
    refine (l01In_any a 0 8192 _).mono ?_
    rw [show inR a 0 8192 = false from hr]
    rintro e w' ⟨rfl, rfl⟩
    go_wp2
    go_ret2
    rw [E1.out, E2.out]
    exact ⟨rfl, Below.refl _ _⟩
  rcases bool_cases (isScript fs) with hz | hz
  case inr =>
    have E1 := Lib.hid (show val a fs = 0 from by simp [val, hz])
    have E2 := Lib.hid (show cod a fs = 2 from by simp [cod, hr, hz])
    go_enter Tryz.func26, Tryz.ntmps26
    go_wp2_with fail
    refine (l01In_any a 0 8192 _).mono ?_
    rw [show inR a 0 8192 = true from hr]
    rintro e w' ⟨rfl, rfl⟩
    go_wp2_with fail
    refine (sIsScript_any A n c fs _ h hn).mono ?_
    rw [hz]
    rintro e w1 ⟨rfl, hb1⟩
    go_wp2
    go_ret2
    rw [E1.out, E2.out]
    exact ⟨rfl, hb1⟩
  have hr' := inR_iff.1 hr
  obtain ⟨N, rfl⟩ : ∃ N : Nat, a = N := ⟨a.toNat, by omega⟩
  have hN : N ≤ 8192 := by omega
  have E1 := Lib.hid (show val N fs = (lenS N fs : Int) from by simp [val, hr, hz])
  have E2 := Lib.hid (show cod N fs = 0 from by simp [cod, hr, hz])
  have HA := Lib.hid (isScript_all hz)
  clear hr'
  go_enter Tryz.func26, Tryz.ntmps26
  go_wp2_with fail
  refine (l01In_any N 0 8192 _).mono ?_
  rw [show inR N 0 8192 = true from hr]
  rintro e w' ⟨rfl, rfl⟩
  go_wp2_with fail
  refine (sIsScript_any A n c fs _ h hn).mono ?_
  rw [hz]
  clear hz hr
  rintro e w1 ⟨rfl, hb1⟩
  go_wp2
  go_loopw [0, 6] (fun x i wr => ∃ k M : Nat, k ≤ n ∧ i = .int .i64 k ∧ x = .int .i64 M ∧ M = lenS N (fs.take k) ∧ Below w.heap.size w wr) (fun _ i _ => n - (intOf i).toNat)
  case atStart => exact ⟨0, N, Nat.zero_le _, rfl, rfl, rfl, hb1⟩
  case round =>
    obtain ⟨k, M, hk, rfl, rfl, hM, hb⟩ := hrel
    have hM8 : M ≤ 8192 := by rw [hM]; exact lenS_le _ _ hN
    have HM := Lib.hid hM
    clear hM
    by_cases hlt : k < n
    · obtain ⟨b, o, rfl, hbl, hc⟩ := (h.below hb (Nat.le_refl _)).get (by omega)
      have hc0 := hc k hlt 0 _ rfl
      have hc1 := hc k hlt 1 _ rfl
      have hc2 := hc k hlt 2 _ rfl
      have hc3 := hc k hlt 3 _ rfl
      clear hc
      rw [Nat.add_zero] at hc0
      have hfl := allF_ge HA.out (k := k) (by rw [L.out]; exact hlt)
      have ST := Lib.hid (show lenS N (fs.take (k + 1)) = lenF M (ge fs k) from by rw [lenS_take (by rw [L.out]; exact hlt), ← HM.out])
      obtain ⟨f, hfe⟩ : ∃ f, ge fs k = f := ⟨_, rfl⟩
      rw [hfe] at hc0 hc1 hc2 hc3 hfl
      have HFE := Lib.hid hfe
      clear hfe
      obtain ⟨q, l, hq, hl, hq8, hl8, _⟩ := isFault_parts hfl
      rw [hq] at hc1
      rw [hl] at hc2
      have HQ := Lib.hid hq
      have HL := Lib.hid hl
      clear hq hl hfl
      obtain ⟨kd, hkd⟩ : ∃ x, f.kd = x := ⟨_, rfl⟩
      rw [hkd] at hc0
      have HK := Lib.hid hkd
      clear hkd
      by_cases h3 : kd = 3
      · subst h3
        have E := Lib.hid (show lenS N (fs.take (k + 1)) = M - (min M (q + l) - min M q) from by rw [ST.out, HFE.out]; exact lenF3 M q l HK.out HQ.out HL.out)
        by_cases hqM : M ≤ q
        · have hql : (M : Int) ≤ (q : Int) + (l : Int) := by omega
          have E3 := Lib.hid (show M - (min M (q + l) - min M q) = M by omega)
          go_wp2
          go_roundw
          case rel => exact ⟨k + 1, M, by omega, by go_num, rfl, by rw [E.out, E3.out], by first | exact hb | exact hb.alloc hb.size _⟩
          case measure => simp [intOf]; omega
        · have hqM2 : ¬ ((M : Int) ≤ (q : Int)) := by omega
          by_cases hqlM : M ≤ q + l
          · have hql : (M : Int) ≤ (q : Int) + (l : Int) := by omega
            have hs : (M : Int) - ((M : Int) - (q : Int)) = (q : Int) := by omega
            have HS := Lib.hid hs
            have E3 := Lib.hid (show M - (min M (q + l) - min M q) = q by omega)
            clear hs
            go_wp2
            go_roundw
            case rel => exact ⟨k + 1, q, by omega, by go_num, by rw [HS.out], by rw [E.out, E3.out], by first | exact hb | exact hb.alloc hb.size _⟩
            case measure => simp [intOf]; omega
          · have hql : ¬ ((M : Int) ≤ (q : Int) + (l : Int)) := by omega
            have HS := Lib.hid (show (M : Int) - ((q : Int) + (l : Int) - (q : Int)) = ((M - l : Nat) : Int) by omega)
            have E3 := Lib.hid (show M - (min M (q + l) - min M q) = M - l by omega)
            go_wp2
            go_roundw
            case rel => exact ⟨k + 1, M - l, by omega, by go_num, by first | rw [HS.out] | (congr 1; omega), by rw [E.out, E3.out], by first | exact hb | exact hb.alloc hb.size _⟩
            case measure => simp [intOf]; omega
      · have hb3 : (kd == 3) = false := by simp [h3]
        by_cases h4 : kd = 4
        · subst h4
          have E := Lib.hid (show lenS N (fs.take (k + 1)) = if q ≤ M then min 8192 (M + l) else M from by rw [ST.out, HFE.out]; exact lenF4 M q l HK.out HQ.out HL.out)
          by_cases hqM : q ≤ M
          · have hqi : (q : Int) ≤ (M : Int) := by omega
            by_cases h8 : 8192 ≤ M + l
            · have h8i : (8192 : Int) ≤ (M : Int) + (l : Int) := by omega
              have E3 := Lib.hid (show min 8192 (M + l) = 8192 by omega)
              have HQM := Lib.hid hqM
              go_wp2
              go_roundw
              case rel => exact ⟨k + 1, 8192, by omega, by go_num, congrArg (Value.int .i64) (show (8192 : Int) = ((8192 : Nat) : Int) by omega), by rw [E.out, if_pos HQM.out, E3.out], by first | exact hb | exact hb.alloc hb.size _⟩
              case measure => simp [intOf]; omega
            · have h8i : (M : Int) + (l : Int) < 8192 := by omega
              have E3 := Lib.hid (show min 8192 (M + l) = M + l by omega)
              have HQM := Lib.hid hqM
              go_wp2
              go_roundw
              case rel => exact ⟨k + 1, M + l, by omega, by go_num, by first | rw [Int.natCast_add] | rw [if_pos h8i, Int.natCast_add], by rw [E.out, if_pos HQM.out, E3.out], by first | exact hb | exact hb.alloc hb.size _⟩
              case measure => simp [intOf]; omega
          · have hqi : ¬ ((q : Int) ≤ (M : Int)) := by omega
            have HQM := Lib.hid hqM
            go_wp2
            go_roundw
            case rel => exact ⟨k + 1, M, by omega, by go_num, rfl, by rw [E.out, if_neg HQM.out], by first | exact hb | exact hb.alloc hb.size _⟩
            case measure => simp [intOf]; omega
        · have hb4 : (kd == 4) = false := by simp [h4]
          have E := Lib.hid (show lenS N (fs.take (k + 1)) = M from by rw [ST.out, HFE.out]; exact lenFo M (by rw [HK.out]; exact h3) (by rw [HK.out]; exact h4))
          clear h3 h4
          go_wp2
          go_roundw
          case rel => exact ⟨k + 1, M, by omega, by go_num, rfl, E.out.symm, by first | exact hb | exact hb.alloc hb.size _⟩
          case measure => simp [intOf]; omega
    · have hkn : k = n := by omega
      have HK := Lib.hid (show fs.take k = fs by rw [List.take_of_length_le (by rw [L.out]; omega)])
      clear hkn
      go_wp2
      go_ret2
      rw [E1.out, E2.out, HM.out, HK.out]
      exact ⟨rfl, hb⟩

theorem zeros_bits {N : Nat} (h : N ≤ 8192) : isBits (List.replicate N 0) = true := by
  refine isBits_iff.2 ⟨by simpa using h, fun z hz => ?_⟩
  have := List.eq_of_mem_replicate hz
  omega

set_option maxHeartbeats 4000000 in
theorem impl_any (a : Int) (A : Option Addr) (n c : Nat) (fs : List Flt) (w : World) (h : RE encF 4 w w.heap.size A n fs) (hn : n ≤ 1099511627776) :
    Calls Tryz.prog 25 #[.int .i64 a, .slice A n c] w (RetV w (.tuple #[.int .i64 (val a fs), .int .i64 (cod a fs)])) := by
  have L := Lib.hid h.len
  rcases bool_cases (inR a 0 8192) with hr | hr
  case inr =>
    have E1 := Lib.hid (show val a fs = 0 from by simp [val, hr])
    have E2 := Lib.hid (show cod a fs = 1 from by simp [cod, hr])
    go_enter Tryz.func25, Tryz.ntmps25
    go_wp2_with fail
    refine (within_any a 0 8192 _).mono ?_
    rw [show inR a 0 8192 = false from hr]
    rintro e w' ⟨rfl, rfl⟩
    go_wp2
    go_ret2
    rw [E1.out, E2.out]
    exact ⟨rfl, Below.refl _ _⟩
  rcases bool_cases (isScript fs) with hz | hz
  case inr =>
    have E1 := Lib.hid (show val a fs = 0 from by simp [val, hz])
    have E2 := Lib.hid (show cod a fs = 2 from by simp [cod, hr, hz])
    go_enter Tryz.func25, Tryz.ntmps25
    go_wp2_with fail
    refine (within_any a 0 8192 _).mono ?_
    rw [show inR a 0 8192 = true from hr]
    rintro e w' ⟨rfl, rfl⟩
    go_wp2_with fail
    refine (iIsScript_any A n c fs _ h hn).mono ?_
    rw [hz]
    rintro e w1 ⟨rfl, hb1⟩
    go_wp2
    go_ret2
    rw [E1.out, E2.out]
    exact ⟨rfl, hb1⟩
  have hr' := inR_iff.1 hr
  obtain ⟨N, rfl⟩ : ∃ N : Nat, a = N := ⟨a.toNat, by omega⟩
  have hN : N ≤ 8192 := by omega
  have E1 := Lib.hid (show val N fs = (lenS N fs : Int) from by simp [val, hr, hz])
  have E2 := Lib.hid (show cod N fs = 0 from by simp [cod, hr, hz])
  have HA := Lib.hid (isScript_all hz)
  clear hr'
  go_enter Tryz.func25, Tryz.ntmps25
  go_wp2_with fail
  refine (within_any N 0 8192 _).mono ?_
  rw [show inR N 0 8192 = true from hr]
  rintro e w' ⟨rfl, rfl⟩
  go_wp2_with fail
  refine (iIsScript_any A n c fs _ h hn).mono ?_
  rw [hz]
  clear hz hr
  rintro e w1 ⟨rfl, hb1⟩
  go_wp2_with (with_reducible refine wpl_make _ Tryz.underlying24 infoInt rfl _ _ rfl N rfl rfl (by omega) ?_; intro w2 hown2 hg2)
  have hb2 : Below w.heap.size w w2 := hb1.grown hg2 hb1.size (fun g e => by cases e)
  refine (ApplyScript.applyScript_any _ N N _ A n c fs _ hown2.reads (zeros_bits hN) (fun e => by cases e) (h.up hb2) HA.out hn).mono ?_
  rintro e w3 ⟨A3, c3, rfl, hown3, hb3⟩
  have HL := Lib.hid (show (List.replicate N (0 : Int)).length = N by simp)
  go_wp2
  go_ret2
  rw [E1.out, E2.out]
  exact ⟨rfl, below_next hb3 hb2 (Nat.le_refl _)⟩
end LengthAfter
end Go.Proofs.YtojmikalnalfbaaGreatDoor
