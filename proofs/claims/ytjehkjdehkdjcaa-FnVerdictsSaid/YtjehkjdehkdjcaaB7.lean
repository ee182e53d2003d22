/- Walks, laws and small notions for the claims of this seat, several texts as one (CellA, As, FlipsA, Bnd, Bnd3, Bnd2, Bnd4, Bnd5, Bin, Flips, Join, Len, CellB, CellC). Conditions: as each theorem states them. -/
import Derived.Test.YtjehkjdehkdjcaaB5
import Derived.Test.YtjehkjdehkdjcaaB6
import Derived.Deep.QuietTactic
import Derived.BigQuiet
import Derived.IntWalk
import Derived.Deep.DeepCutAuto
import Derived.Test.YtjehkjdehkdjcaaB1
import Derived.StillTailTactics
import Derived.Test.YtjehkjdehkdjcaaB2
import Derived.BigRegion
namespace Go.Proofs.Ytjehkjdehkdjcaa
open Go.RowKit

/-- the code of a list and a script -/
def bsCode (zs : List Int) (fs : List Flt) : Int := if isBits zs then (if isScript fs then 0 else 2) else 1

set_option maxHeartbeats 1000000 in
theorem scriptCode_any (A B : Option Addr) (n c m d : Nat) (zs : List Int) (fs : List Flt) (w : World) (h : RI w w.heap.size A n zs) (hn : n ≤ 1099511627776) (hf : RE encF 4 w w.heap.size B m fs) (hm : m ≤ 1099511627776) :
    Calls Try.prog 141 #[.slice A n c, .slice B m d] w (RetV w (.int .i64 (bsCode zs fs))) := by
  rcases bool_cases (isBits zs) with hz | hz
  case inr =>
    have E := Lib.hid (show bsCode zs fs = 1 from by simp [bsCode, hz])
    go_enter Try.func141, Try.ntmps141
    go_wp2_with (go_at_call 131; refine (iIsBits_any _ _ _ _ _ h hn).mono ?_; rintro e w' ⟨rfl, rfl⟩)
    go_ret
    exact ⟨ret_int E.out.symm, by go_grown⟩
  rcases bool_cases (isScript fs) with hs | hs
  all_goals
    go_enter Try.func141, Try.ntmps141
    go_wp2_with (go_at_call 131; refine (iIsBits_any _ _ _ _ _ h hn).mono ?_; rintro e w' ⟨rfl, rfl⟩)
    refine (iIsScript_any B m d fs w hf hm).mono ?_
    rw [hs]
    rintro e w1 ⟨rfl, hb1⟩
    go_wp2
    go_ret
    exact ⟨ret_int (by simp [bsCode, hz, hs]), hb1⟩

set_option maxHeartbeats 1000000 in
theorem l26Code_any (A B : Option Addr) (n c m d : Nat) (zs : List Int) (fs : List Flt) (w : World) (h : RI w w.heap.size A n zs) (hn : n ≤ 1099511627776) (hf : RE encF 4 w w.heap.size B m fs) (hm : m ≤ 1099511627776) :
    Calls Try.prog 142 #[.slice A n c, .slice B m d] w (RetV w (.int .i64 (bsCode zs fs))) := by
  rcases bool_cases (isBits zs) with hz | hz
  case inr =>
    have E := Lib.hid (show bsCode zs fs = 1 from by simp [bsCode, hz])
    go_enter Try.func142, Try.ntmps142
    go_wp2_with (go_at_call 130; refine (sIsBits_any _ _ _ _ _ h hn).mono ?_; rintro e w' ⟨rfl, rfl⟩)
    go_ret
    exact ⟨ret_int E.out.symm, by go_grown⟩
  rcases bool_cases (isScript fs) with hs | hs
  all_goals
    go_enter Try.func142, Try.ntmps142
    go_wp2_with (go_at_call 130; refine (sIsBits_any _ _ _ _ _ h hn).mono ?_; rintro e w' ⟨rfl, rfl⟩)
    refine (sIsScript_any B m d fs w hf hm).mono ?_
    rw [hs]
    rintro e w1 ⟨rfl, hb1⟩
    go_wp2
    go_ret
    exact ⟨ret_int (by simp [bsCode, hz, hs]), hb1⟩

/-- is a fault an inversion of whole cells -/
def cellF (f : Flt) : Bool := decide (f.kd = 2) && (decide (f.pos % 8 = 0) && decide (f.len % 8 = 0))
def allC (fs : List Flt) : Bool := fs.all cellF
theorem allC_take {fs : List Flt} {k : Nat} (hk : k < fs.length) : allC (fs.take (k + 1)) = (allC (fs.take k) && cellF (ge fs k)) := by
  rw [take_ge hk]; simp [allC]
theorem allC_no {fs : List Flt} {k : Nat} (hk : k < fs.length) (h : cellF (ge fs k) = false) : allC fs = false := by
  refine Bool.eq_false_iff.2 fun ht => ?_
  have := List.all_eq_true.1 ht (ge fs k) (mem_ge hk)
  rw [h] at this; cases this
/-- is cell k inverted by a fault; how often by a script -/
def hit (f : Flt) (k : Nat) : Bool := inR (8 * (k : Int)) f.pos (f.pos + f.len - 1)
def hits (fs : List Flt) (k : Nat) : Nat := (fs.filter fun f => hit f k).length
theorem hits_take {fs : List Flt} {j : Nat} (hj : j < fs.length) (k : Nat) : hits (fs.take (j + 1)) k = hits (fs.take j) k + (if hit (ge fs j) k then 1 else 0) := by
  rw [take_ge hj]
  unfold hits
  rw [List.filter_append, List.length_append]
  by_cases h : hit (ge fs j) k = true
  · simp [h]
  · simp [h]
/-- is a cell wrong -/
def odd (fs : List Flt) (k : Nat) : Bool := decide (hits fs k % 2 = 1)
/-- the wrong cells below k -/
def wrongTo (fs : List Flt) : Nat → List Int
  | 0 => []
  | k + 1 => wrongTo fs k ++ (if odd fs k then [(k : Int)] else [])
theorem wrongTo_yes {fs : List Flt} {k : Nat} (h : odd fs k = true) : wrongTo fs (k + 1) = wrongTo fs k ++ [(k : Int)] := by simp [wrongTo, h]
theorem wrongTo_no {fs : List Flt} {k : Nat} (h : odd fs k = false) : wrongTo fs (k + 1) = wrongTo fs k := by simp [wrongTo, h]
theorem wrongTo_len (fs : List Flt) (k : Nat) : (wrongTo fs k).length ≤ k := by
  induction k with
  | zero => simp [wrongTo]
  | succ k ih => unfold wrongTo; split <;> simp <;> omega
namespace CellErrors
def res (zs : List Int) (fs : List Flt) : List Int := if bsCode zs fs = 0 ∧ allC fs = true then wrongTo fs (zs.length / 8) else []
def cod (zs : List Int) (fs : List Flt) : Int := if bsCode zs fs = 0 then (if allC fs then 0 else 5) else bsCode zs fs
theorem res_len (zs : List Int) (fs : List Flt) : (res zs fs).length ≤ zs.length := by
  unfold res; split
  · have := wrongTo_len fs (zs.length / 8)
    omega
  · simp
end CellErrors
end Go.Proofs.Ytjehkjdehkdjcaa

namespace Go.Proofs.Ytjehkjdehkdjcaa
open Go.RowKit
theorem isScript_len {fs : List Flt} (h : isScript fs = true) : fs.length ≤ 30 := by
  unfold isScript at h; simp only [Bool.and_eq_true, decide_eq_true_eq] at h; exact h.1
theorem isScript_all {fs : List Flt} (h : isScript fs = true) : allF fs = true := by
  unfold isScript at h; simp only [Bool.and_eq_true, decide_eq_true_eq] at h; exact h.2
/-- a slice of the call's own is handed back, of whatever length the list has -/
def RetL (T : TypeId) (w0 : World) (zs : List Int) (e : Ending) (w' : World) : Prop :=
  ∃ A n c, e = .returned (.slice A n c) ∧ OwnI T w' w0.heap.size A n c zs ∧ Below w0.heap.size w0 w'
theorem RetI.toL {T : TypeId} {w0 : World} {n : Nat} {zs : List Int} {e : Ending} {w' : World} (h : RetI T w0 n zs e w') : RetL T w0 zs e w' :=
  let ⟨A, c, h1, h2, h3⟩ := h; ⟨A, n, c, h1, h2, h3⟩
namespace ApplyScript
theorem l24L (A : Option Addr) (n c : Nat) (zs : List Int) (f : Flt) (w : World) (hri : RI w w.heap.size A n zs) (hz : isBits zs = true) (hf : isFault f = true) (hA : Pl A c) (hnc : n ≤ c) (hcm : c ≤ maxLen) :
    Calls Try.prog 208 #[.slice A n c, .agg #[.int .i64 f.kd, .int .i64 f.pos, .int .i64 f.len, .int .i64 f.val]] w (RetL 2 w (appF zs f)) :=
  (ApplyFault.l24Apply_any A n c zs f.kd f.pos f.len f.val w hri hz hf hA hnc hcm).mono fun _ _ h => RetI.toL h
theorem apfL (A : Option Addr) (n c : Nat) (zs : List Int) (f : Flt) (w : World) (hri : RI w w.heap.size A n zs) (hz : isBits zs = true) (hf : isFault f = true) (hA : A = none → c = 0) :
    Calls Try.prog 169 #[.slice A n c, .agg #[.int .i64 f.kd, .int .i64 f.pos, .int .i64 f.len, .int .i64 f.val]] w (RetL 2 w (appF zs f)) :=
  (ApplyFault.applyFault_any A n c zs f.kd f.pos f.len f.val w hri hz hf hA).mono fun _ _ h => RetI.toL h

set_option maxHeartbeats 2000000 in
theorem l25Apply_any (A : Option Addr) (n c : Nat) (zs : List Int) (B : Option Addr) (m d : Nat) (fs : List Flt) (w : World) (h : RI w w.heap.size A n zs) (hz : isBits zs = true) (hA : A = none → c = 0) (hf : RE encF 4 w w.heap.size B m fs) (hall : allF fs = true) (hm : m ≤ 1099511627776) :
    Calls Try.prog 151 #[.slice A n c, .slice B m d] w (RetI 2 w (lenS n fs) (appS zs fs)) := by
  have L := Lib.hid h.len
  have LF := Lib.hid hf.len
  have HZ := Lib.hid hz
  have HA := Lib.hid hall
  have hn : n ≤ 8192 := by rw [← h.len]; exact isBits_len hz
  clear hz hall
  go_enter Try.func151, Try.ntmps151
  go_wp2_with fail
  refine (l01Own_any A n c zs w h (by omega) hA).mono ?_
  rintro e w1 ⟨A1, c1, rfl, hown1, hb1⟩
  go_wp2_with fail
  go_loopw [5, 6] (fun o i wr => ∃ (k n' : Nat) (A' : Option Addr) (c' : Nat), k ≤ m ∧ i = .int .i64 k ∧ o = .slice A' n' c' ∧ OwnI 2 wr w.heap.size A' n' c' (appS zs (fs.take k)) ∧ Below w.heap.size w wr) (fun _ i _ => m - (intOf i).toNat)
  case atStart => exact ⟨0, n, A1, c1, Nat.zero_le _, rfl, rfl, hown1, hb1⟩
  case round =>
    obtain ⟨k, n', A', c', hk, rfl, rfl, hown, hb⟩ := hrel
    by_cases hlt : k < m
    · obtain ⟨b, o, rfl, hbl, hc⟩ := (hf.below hb (Nat.le_refl _)).get (by omega)
      have hc0 := hc k hlt 0 _ rfl
      have hc1 := hc k hlt 1 _ rfl
      have hc2 := hc k hlt 2 _ rfl
      have hc3 := hc k hlt 3 _ rfl
      clear hc
      rw [Nat.add_zero] at hc0
      have hfl := allF_ge HA.out (k := k) (by rw [LF.out]; exact hlt)
      have hbits : isBits (appS zs (fs.take k)) = true := appS_bits HZ.out (allF_take' k HA.out)
      have ST := Lib.hid (appS_take (zs := zs) (fs := fs) (k := k) (by rw [LF.out]; exact hlt))
      have HFL := Lib.hid hfl
      have HBT := Lib.hid hbits
      clear hfl hbits
      have hcap := hown.cap
      go_wp2_with fail
      refine (l24L A' n' c' _ (ge fs k) _ hown.reads HBT.out HFL.out hown.pl hcap.1 hcap.2).mono ?_
      rintro e w2 ⟨A2, n2, c2, rfl, hown2, hb2⟩
      have HO2 := Lib.hid hown2
      clear hown2
      go_wp2_with fail
      go_roundw
      case rel =>
        have := HO2.out
        exact ⟨k + 1, n2, A2, c2, by omega, by go_num, rfl, by rw [ST.out]; exact this.weaken hb.size, below_next hb2 hb (Nat.le_refl _)⟩
      case measure => simp [intOf]; omega
    · have hkm : k = m := by omega
      have HK := Lib.hid (show fs.take k = fs by rw [List.take_of_length_le (by rw [LF.out]; omega)])
      clear hkm
      have hl := hown.len
      rw [HK.out, appS_len, L.out] at hl
      rw [HK.out] at hown
      have HL := Lib.hid hl
      clear hl
      go_wp2
      go_ret
      rw [HL.out]
      exact ⟨A', c', rfl, hown, hb⟩

set_option maxHeartbeats 2000000 in
theorem applyScript_any (A : Option Addr) (n c : Nat) (zs : List Int) (B : Option Addr) (m d : Nat) (fs : List Flt) (w : World) (h : RI w w.heap.size A n zs) (hz : isBits zs = true) (hA : A = none → c = 0) (hf : RE encF 4 w w.heap.size B m fs) (hall : allF fs = true) (hm : m ≤ 1099511627776) :
    Calls Try.prog 143 #[.slice A n c, .slice B m d] w (RetI 2 w (lenS n fs) (appS zs fs)) := by
  have L := Lib.hid h.len
  have LF := Lib.hid hf.len
  have HZ := Lib.hid hz
  have HA := Lib.hid hall
  have hn : n ≤ 8192 := by rw [← h.len]; exact isBits_len hz
  clear hz hall
  go_enter Try.func143, Try.ntmps143
  go_wp2_with fail
  refine (SilenceFrom.clone_any A n c zs w h (by omega) hA).mono ?_
  rintro e w1 ⟨A1, c1, rfl, hown1, hb1⟩
  go_wp2_with fail
  go_loopw [5, 12] (fun o i wr => ∃ (k n' : Nat) (A' : Option Addr) (c' : Nat), k ≤ m ∧ i = .int .i64 k ∧ o = .slice A' n' c' ∧ OwnI 2 wr w.heap.size A' n' c' (appS zs (fs.take k)) ∧ Below w.heap.size w wr) (fun _ i _ => m - (intOf i).toNat)
  case atStart => exact ⟨0, n, A1, c1, Nat.zero_le _, rfl, rfl, hown1, hb1⟩
  case round =>
    obtain ⟨k, n', A', c', hk, rfl, rfl, hown, hb⟩ := hrel
    by_cases hlt : k < m
    · obtain ⟨b, o, rfl, hbl, hc⟩ := (hf.below hb (Nat.le_refl _)).get (by omega)
      have hc0 := hc k hlt 0 _ rfl
      have hc1 := hc k hlt 1 _ rfl
      have hc2 := hc k hlt 2 _ rfl
      have hc3 := hc k hlt 3 _ rfl
      clear hc
      rw [Nat.add_zero] at hc0
      have hfl := allF_ge HA.out (k := k) (by rw [LF.out]; exact hlt)
      have hbits : isBits (appS zs (fs.take k)) = true := appS_bits HZ.out (allF_take' k HA.out)
      have ST := Lib.hid (appS_take (zs := zs) (fs := fs) (k := k) (by rw [LF.out]; exact hlt))
      have HFL := Lib.hid hfl
      have HBT := Lib.hid hbits
      have HO := Lib.hid hown
      have HB := Lib.hid hb
      clear hfl hbits hown hb
      go_wp2_with fail
      refine (apfL A' n' c' _ (ge fs k) _ (by exact (HO.out.alloc _).reads) HBT.out HFL.out (own_none HO.out)).mono ?_
      rintro e w2 ⟨A2, n2, c2, rfl, hown2, hb2⟩
      have HO2 := Lib.hid hown2
      have HB2 := Lib.hid hb2
      clear hown2 hb2
      go_wp2_with fail
      go_roundw
      case rel =>
        have hb' := HB.out
        have := HO2.out
        refine ⟨k + 1, n2, A2, c2, by omega, by go_num, rfl, ?_, below_next HB2.out (below_alloc hb' (Nat.le_refl _) _) (Nat.le_refl _)⟩
        rw [ST.out]
        exact this.weaken (Nat.le_trans hb'.size (by rw [isz_alloc]; omega))
      case measure => simp [intOf]; omega
    · have hkm : k = m := by omega
      have HK := Lib.hid (show fs.take k = fs by rw [List.take_of_length_le (by rw [LF.out]; omega)])
      clear hkm
      have hl := hown.len
      rw [HK.out, appS_len, L.out] at hl
      rw [HK.out] at hown
      have HL := Lib.hid hl
      clear hl
      go_wp2
      go_ret
      rw [HL.out]
      exact ⟨A', c', rfl, hown, hb⟩

def res (zs : List Int) (fs : List Flt) : List Int := if bsCode zs fs = 0 then appS zs fs else []
theorem bs_ok {zs : List Int} {fs : List Flt} (h : bsCode zs fs = 0) : isBits zs = true ∧ isScript fs = true := by
  unfold bsCode at h
  split at h
  · split at h
    · exact ⟨by assumption, by assumption⟩
    · cases h
  · cases h
theorem bs_of {zs : List Int} {fs : List Flt} (h1 : isBits zs = true) (h2 : isScript fs = true) : bsCode zs fs = 0 := by simp [bsCode, h1, h2]
theorem res_bits (zs : List Int) (fs : List Flt) : isBits (res zs fs) = true := by
  unfold res
  split
  · rename_i h
    obtain ⟨h1, h2⟩ := bs_ok h
    exact appS_bits h1 (isScript_all h2)
  · rfl
theorem res_len (zs : List Int) (fs : List Flt) : (res zs fs).length ≤ 8192 := isBits_len (res_bits zs fs)

set_option maxHeartbeats 2000000 in
theorem spec_any (A : Option Addr) (n c : Nat) (zs : List Int) (B : Option Addr) (m d : Nat) (fs : List Flt) (w : World) (h : RI w w.heap.size A n zs) (hn' : n ≤ 1099511627776) (hA : A = none → c = 0) (hf : RE encF 4 w w.heap.size B m fs) (hm' : m ≤ 1099511627776) :
    Calls Try.prog 58 #[.slice A n c, .slice B m d] w (RetIC 2 w (res zs fs) (bsCode zs fs)) := by
  rcases bool_cases (isBits zs) with hz | hz
  case inr =>
    have E2 := Lib.hid (show bsCode zs fs = 1 from by simp [bsCode, hz])
    have E1 := Lib.hid (show res zs fs = [] from by simp [res, E2.out])
    go_enter Try.func58, Try.ntmps58
    go_wp2_with fail
    refine (sIsBits_any _ _ _ _ _ h hn').mono ?_
    rw [hz]
    rintro e w' ⟨rfl, rfl⟩
    go_wp2
    go_ret2
    rw [E1.out, E2.out]
    exact ⟨none, 0, 0, rfl, OwnI.nil _ _ _, Below.refl _ _⟩
  rcases bool_cases (isScript fs) with hs | hs
  case inr =>
    have E2 := Lib.hid (show bsCode zs fs = 2 from by simp [bsCode, hz, hs])
    have E1 := Lib.hid (show res zs fs = [] from by simp [res, E2.out])
    go_enter Try.func58, Try.ntmps58
    go_wp2_with fail
    refine (sIsBits_any _ _ _ _ _ h hn').mono ?_
    rw [hz]
    rintro e w' ⟨rfl, rfl⟩
    go_wp2_with fail
    refine (sIsScript_any B m d fs w hf hm').mono ?_
    rw [hs]
    rintro e w1 ⟨rfl, hb1⟩
    go_wp2
    go_ret2
    rw [E1.out, E2.out]
    exact ⟨none, 0, 0, rfl, OwnI.nil _ _ _, hb1⟩
  have E2 := Lib.hid (bs_of hz hs)
  have E1 := Lib.hid (show res zs fs = appS zs fs from by simp [res, E2.out])
  have HZ := Lib.hid hz
  have HS := Lib.hid hs
  clear hz hs
  go_enter Try.func58, Try.ntmps58
  go_wp2_with fail
  refine (sIsBits_any _ _ _ _ _ h hn').mono ?_
  rw [HZ.out]
  rintro e w' ⟨rfl, rfl⟩
  go_wp2_with fail
  refine (sIsScript_any B m d fs w hf hm').mono ?_
  rw [HS.out]
  rintro e w1 ⟨rfl, hb1⟩
  go_wp2_with fail
  refine (l25Apply_any A n c zs B m d fs _ (h.up hb1) HZ.out hA (hf.up hb1) (isScript_all HS.out) hm').mono ?_
  rintro e w2 ⟨A2, c2, rfl, hown2, hb2⟩
  go_wp2
  go_ret2
  rw [E1.out, E2.out]
  exact ⟨_, _, _, rfl, hown2.weaken hb1.size, below_next hb2 hb1 (Nat.le_refl _)⟩

set_option maxHeartbeats 2000000 in
theorem impl_any (A : Option Addr) (n c : Nat) (zs : List Int) (B : Option Addr) (m d : Nat) (fs : List Flt) (w : World) (h : RI w w.heap.size A n zs) (hn' : n ≤ 1099511627776) (hA : A = none → c = 0) (hf : RE encF 4 w w.heap.size B m fs) (hm' : m ≤ 1099511627776) :
    Calls Try.prog 46 #[.slice A n c, .slice B m d] w (RetIC 2 w (res zs fs) (bsCode zs fs)) := by
  obtain ⟨q, hq⟩ : ∃ q, bsCode zs fs = q := ⟨_, rfl⟩
  have HQ := Lib.hid hq
  by_cases h1 : q = 0
  case neg =>
    have h2 : (q != 0) = true := by simp [h1]
    have E1 := Lib.hid (show res zs fs = [] from by unfold res; rw [hq, if_neg h1])
    have H1 := Lib.hid h1
    clear hq h1
    go_enter Try.func46, Try.ntmps46
    go_wp2_with fail
    refine (scriptCode_any A B n c m d zs fs w h hn' hf hm').mono ?_
    rw [HQ.out]
    rintro e w1 ⟨rfl, hb1⟩
    go_wp2
    go_ret2
    rw [E1.out, HQ.out]
    exact ⟨none, 0, 0, rfl, OwnI.nil _ _ _, hb1⟩
  subst h1
  obtain ⟨hbits, hscr⟩ := bs_ok hq
  have HZ := Lib.hid hbits
  have HS := Lib.hid hscr
  have E1 := Lib.hid (show res zs fs = appS zs fs from by unfold res; rw [hq, if_pos rfl])
  clear hq hbits hscr
  go_enter Try.func46, Try.ntmps46
  go_wp2_with fail
  refine (scriptCode_any A B n c m d zs fs w h hn' hf hm').mono ?_
  rw [HQ.out]
  rintro e w1 ⟨rfl, hb1⟩
  go_wp2_with fail
  refine (applyScript_any A n c zs B m d fs _ (h.up hb1) HZ.out hA (hf.up hb1) (isScript_all HS.out) hm').mono ?_
  rintro e w2 ⟨A2, c2, rfl, hown2, hb2⟩
  go_wp2
  go_ret2
  rw [E1.out, HQ.out]
  exact ⟨_, _, _, rfl, hown2.weaken hb1.size, below_next hb2 hb1 (Nat.le_refl _)⟩
end ApplyScript
end Go.Proofs.Ytjehkjdehkdjcaa

namespace Go.Proofs.Ytjehkjdehkdjcaa
open Go.RowKit

/-- a mark is turned -/
def togM (ms : List Int) (p : Nat) : List Int := ms.set p (1 - gi ms p)
theorem togM_len (ms : List Int) (p : Nat) : (togM ms p).length = ms.length := by simp [togM]
theorem togM_gi {ms : List Int} {p i : Nat} (h : i < ms.length) : gi (togM ms p) i = if i = p then 1 - gi ms p else gi ms i := by
  unfold togM gi
  rw [List.getD_eq_getElem?_getD, List.getElem?_set]
  by_cases hip : p = i
  · subst hip
    rw [if_pos rfl, if_pos rfl, if_pos h]; rfl
  · rw [if_neg hip, if_neg (fun e => hip e.symm), List.getD_eq_getElem?_getD]
/-- the marks behind a script -/
def marksOf (fs : List Flt) : List Int := fs.foldl (fun ms f => togM ms f.pos.toNat) (List.replicate 8193 0)
theorem marksOf_take {fs : List Flt} {k : Nat} (h : k < fs.length) : marksOf (fs.take (k + 1)) = togM (marksOf (fs.take k)) (ge fs k).pos.toNat := by
  unfold marksOf
  rw [take_ge h, List.foldl_append]
  rfl
theorem foldl_tog_len (fs : List Flt) : ∀ ms : List Int, (fs.foldl (fun ms f => togM ms f.pos.toNat) ms).length = ms.length := by
  induction fs with
  | nil => intro ms; rfl
  | cons f fs ih => intro ms; exact (ih _).trans (togM_len _ _)
theorem marksOf_len (fs : List Flt) : (marksOf fs).length = 8193 := (foldl_tog_len fs _).trans List.length_replicate
theorem foldl_tog_bit (fs : List Flt) : ∀ ms : List Int, (∀ i, i < ms.length → gi ms i = 0 ∨ gi ms i = 1) → ∀ i, i < ms.length → gi (fs.foldl (fun ms f => togM ms f.pos.toNat) ms) i = 0 ∨ gi (fs.foldl (fun ms f => togM ms f.pos.toNat) ms) i = 1 := by
  induction fs with
  | nil => intro ms h; exact h
  | cons f fs ih =>
    intro ms h i hi
    refine ih (togM ms f.pos.toNat) (fun j hj => ?_) i (by rw [togM_len]; exact hi)
    rw [togM_len] at hj
    rw [togM_gi hj]
    split
    · rename_i he
      subst he
      rcases h _ hj with h | h <;> omega
    · exact h j hj
theorem marksOf_bit (fs : List Flt) {i : Nat} (h : i < 8193) : gi (marksOf fs) i = 0 ∨ gi (marksOf fs) i = 1 := by
  refine foldl_tog_bit fs _ (fun j hj => .inl ?_) i (by rw [List.length_replicate]; exact h)
  rw [List.length_replicate] at hj
  unfold gi
  rw [List.getD_eq_getElem?_getD, List.getElem?_replicate, if_pos hj]; rfl

/-- the marked places from a on, n places -/
def posF (ms : List Int) (a n : Nat) : List Int := ((List.range' a n).filter fun i => decide (gi ms i = 1)).map fun (i : Nat) => (i : Int)
theorem posF_succ (ms : List Int) (a n : Nat) : posF ms a (n + 1) = posF ms a n ++ (if gi ms (a + n) = 1 then [((a + n : Nat) : Int)] else []) := by
  unfold posF
  rw [List.range'_concat, List.filter_append, List.map_append]
  congr 1
  rw [Nat.one_mul]
  by_cases h : gi ms (a + n) = 1 <;> simp [h]
theorem posF_zero (ms : List Int) (a : Nat) : posF ms a 0 = [] := by simp [posF]
theorem posF_split (ms : List Int) (p n : Nat) (h : p < n) : posF ms 0 n = posF ms 0 p ++ ((if gi ms p = 1 then [(p : Int)] else []) ++ posF ms (p + 1) (n - (p + 1))) := by
  obtain ⟨m, rfl⟩ : ∃ m, n = p + 1 + m := ⟨n - (p + 1), by omega⟩
  rw [show p + 1 + m - (p + 1) = m from by omega]
  have h1 : List.range' 0 (p + 1 + m) = List.range' 0 (p + 1) ++ List.range' (p + 1) m := by
    rw [← List.range'_append_1, Nat.zero_add]
  have h2 : posF ms 0 (p + 1 + m) = posF ms 0 (p + 1) ++ posF ms (p + 1) m := by
    unfold posF
    rw [h1, List.filter_append, List.map_append]
  rw [h2, posF_succ, List.append_assoc, Nat.zero_add]
theorem posF_congr {ms ms' : List Int} {a n : Nat} (h : ∀ i, a ≤ i → i < a + n → gi ms i = gi ms' i) : posF ms a n = posF ms' a n := by
  unfold posF
  congr 1
  apply List.filter_congr
  intro i hi
  rw [List.mem_range'_1] at hi
  rw [h i hi.1 hi.2]
theorem posF_lt {ms : List Int} {a n : Nat} {z : Int} (h : z ∈ posF ms a n) : (a : Int) ≤ z ∧ z < (a : Int) + (n : Int) := by
  unfold posF at h
  obtain ⟨i, hi, rfl⟩ := List.mem_map.1 h
  have := (List.mem_filter.1 hi).1
  rw [List.mem_range'_1] at this
  omega
theorem posF_len (ms : List Int) (a n : Nat) : (posF ms a n).length ≤ n := by
  unfold posF
  rw [List.length_map]
  exact Nat.le_trans (List.length_filter_le _ _) (by simp)
/-- the places behind one turn more -/
theorem posF_tog {ms : List Int} {p n : Nat} (hp : p < n) (hn : n ≤ ms.length) (hb : gi ms p = 0 ∨ gi ms p = 1) :
    posF (togM ms p) 0 n = posF ms 0 p ++ ((if gi ms p = 1 then [] else [(p : Int)]) ++ posF ms (p + 1) (n - (p + 1))) := by
  rw [posF_split _ p n hp, togM_gi (by omega), if_pos rfl]
  have e1 : posF (togM ms p) 0 p = posF ms 0 p := posF_congr fun i _ h2 => by rw [togM_gi (by omega), if_neg (by omega)]
  have e2 : posF (togM ms p) (p + 1) (n - (p + 1)) = posF ms (p + 1) (n - (p + 1)) := posF_congr fun i h1 h2 => by rw [togM_gi (by omega), if_neg (by omega)]
  rw [e1, e2]
  rcases hb with h | h <;> rw [h] <;> rfl
def allFl (fs : List Flt) : Bool := fs.all fun f => decide (f.kd = 1)
theorem allFl_take {fs : List Flt} {k : Nat} (hk : k < fs.length) : allFl (fs.take (k + 1)) = (allFl (fs.take k) && decide ((ge fs k).kd = 1)) := by
  rw [take_ge hk]; simp [allFl]
theorem allFl_no {fs : List Flt} {k : Nat} (hk : k < fs.length) (h : (ge fs k).kd ≠ 1) : allFl fs = false := by
  refine Bool.eq_false_iff.2 fun ht => ?_
  have := List.all_eq_true.1 ht (ge fs k) (mem_ge hk)
  simp [h] at this

namespace FlipsOf
def res (fs : List Flt) : List Int := if isScript fs = true ∧ allFl fs = true then posF (marksOf fs) 0 8193 else []
def cod (fs : List Flt) : Int := if isScript fs then (if allFl fs then 0 else 5) else 2
theorem res_len (fs : List Flt) : (res fs).length ≤ 8193 := by
  unfold res
  split
  · exact posF_len _ _ _
  · simp
end FlipsOf
end Go.Proofs.Ytjehkjdehkdjcaa

namespace Go.Proofs.Ytjehkjdehkdjcaa
open Go.RowKit

/-- is the k-th fault at least so far behind the one before it -/
def spAt (fs : List Flt) (d : Int) (k : Nat) : Bool := decide (k = 0) || decide (d ≤ (ge fs k).pos - (ge fs (k - 1)).pos)
def spTo (fs : List Flt) (d : Int) (k : Nat) : Bool := (List.range k).all fun i => spAt fs d i
def spaced (fs : List Flt) (d : Int) : Bool := spTo fs d fs.length
theorem spTo_succ (fs : List Flt) (d : Int) (k : Nat) : spTo fs d (k + 1) = (spTo fs d k && spAt fs d k) := by simp [spTo, List.range_succ]
theorem spaced_no {fs : List Flt} {d : Int} {k : Nat} (hk : k < fs.length) (h : spAt fs d k = false) : spaced fs d = false := by
  refine Bool.eq_false_iff.2 fun ht => ?_
  have := List.all_eq_true.1 ht k (List.mem_range.2 hk)
  rw [h] at this; cases this
theorem spAt_zero (fs : List Flt) (d : Int) : spAt fs d 0 = true := rfl
theorem spAt_of {fs : List Flt} {d : Int} {k : Nat} (h : d ≤ (ge fs k).pos - (ge fs (k - 1)).pos) : spAt fs d k = true := by simp [spAt, h]
theorem spAt_no {fs : List Flt} {d : Int} {k : Nat} (hk : k ≠ 0) (h : ¬ d ≤ (ge fs k).pos - (ge fs (k - 1)).pos) : spAt fs d k = false := by simp [spAt, h, hk]

set_option maxHeartbeats 2000000 in
theorem isSpaced_any (A : Option Addr) (n c : Nat) (fs : List Flt) (d : Int) (w : World) (h : RE encF 4 w w.heap.size A n fs) (hn : n ≤ 1099511627776) (hall : allF fs = true) :
    Calls Try.prog 236 #[.slice A n c, .int .i64 d] w (RetV w (.bool (spaced fs d))) := by
  have L := Lib.hid h.len
  have HA := Lib.hid hall
  clear hall
  go_enter Try.func236, Try.ntmps236
  go_wp2
  go_loopw [5] (fun i wr => ∃ k : Nat, 1 ≤ k ∧ k ≤ max 1 n ∧ i = .int .i64 k ∧ spTo fs d k = true ∧ Below w.heap.size w wr) (fun i _ => n - (intOf i).toNat)
  case atStart => exact ⟨1, Nat.le_refl _, by omega, rfl, rfl, Below.refl _ _⟩
  case round =>
    obtain ⟨k, hk1', hk, rfl, hall, hb⟩ := hrel
    have Hall := Lib.hid hall
    have HKM := Lib.hid hk
    clear hall hk
    by_cases hlt : k < n
    · obtain ⟨b, o, rfl, _, hc⟩ := (h.below hb (Nat.le_refl _)).get (by omega)
      have hc1 := hc k hlt 1 _ rfl
      have hc2 := hc (k - 1) (by omega) 1 _ rfl
      clear hc
      have hp1 := isFault_pos (allF_ge HA.out (k := k) (by rw [L.out]; exact hlt))
      have hp2 := isFault_pos (allF_ge HA.out (k := k - 1) (by rw [L.out]; omega))
      obtain ⟨p, hp⟩ : ∃ p, (ge fs k).pos = p := ⟨_, rfl⟩
      obtain ⟨q, hq⟩ : ∃ q, (ge fs (k - 1)).pos = q := ⟨_, rfl⟩
      rw [hp] at hc1 hp1
      rw [hq] at hc2 hp2
      have HP := Lib.hid hp
      have HQ := Lib.hid hq
      obtain ⟨hp3, hp4⟩ := hp1
      obtain ⟨hq3, hq4⟩ := hp2
      clear hp hq
      have hk1 : 0 < k := by omega
      have hk0 := Lib.hid (show k ≠ 0 by omega)
      by_cases hd : d ≤ p - q
      · have HD := Lib.hid (show spAt fs d k = true from spAt_of (by rw [HP.out, HQ.out]; exact hd))
        have hd2 : decide (p - q < d) = false := by simp; omega
        have hw1 : IntKind.i64.wrap (p - q) = p - q := IntWalk.i64_in _ (by omega)
        clear hd
        go_wp2_with fail
        go_quiet (fail)
        clear hk1 hw1 hc1 hc2
        go_wp2
        go_roundw
        case rel => exact ⟨k + 1, by omega, by omega, by go_num, by rw [spTo_succ, Hall.out, HD.out]; rfl, below_drewN hb _⟩
        case measure => simp [intOf]; omega
      · have HD := Lib.hid (show spAt fs d k = false from spAt_no hk0.out (by rw [HP.out, HQ.out]; exact hd))
        have hd2 : decide (p - q < d) = true := by simp; omega
        have hw1 : IntKind.i64.wrap (p - q) = p - q := IntWalk.i64_in _ (by omega)
        clear hd
        go_wp2_with fail
        go_quiet (fail)
        clear hk1 hw1 hc1 hc2
        go_wp2
        go_ret
        exact ⟨ret_bool (spaced_no (by rw [L.out]; exact hlt) HD.out).symm, below_drewN hb _⟩
    · have hz := Lib.hid (show spaced fs d = true from by
        unfold spaced
        rw [L.out]
        have h1 := HKM.out
        by_cases hn0 : n = 0
        · rw [hn0]; rfl
        · rw [show n = k by omega]; exact Hall.out)
      go_wp2
      go_ret
      exact ⟨ret_bool hz.out.symm, hb⟩

theorem notFlip_any (k p l v : Int) (w : World) :
    Calls Try.prog 237 #[.agg #[.int .i64 k, .int .i64 p, .int .i64 l, .int .i64 v]] w (RetV w (.bool (!decide (k = 1)))) := by
  go_enter Try.func237, Try.ntmps237
  go_wp2
  go_ret
  exact ⟨ret_bool (by by_cases h : k = 1 <;> simp [h]), (Below.refl _ _).alloc (Nat.le_refl _) _⟩

set_option maxHeartbeats 1000000 in
theorem indexFl_any (A : Option Addr) (n c : Nat) (fs : List Flt) (w : World) (h : RE encF 4 w w.heap.size A n fs) (hn : n ≤ 1099511627776) :
    Calls Try.prog 210 #[.slice A n c, .func (.func 237) #[] #[]] w fun e w' => ∃ z : Int, e = .returned (.int .i64 z) ∧ decide (0 ≤ z) = (!allFl fs) ∧ Below w.heap.size w w' := by
  have L := Lib.hid h.len
  go_enter Try.func210, Try.ntmps210
  go_wp2
  go_loopw [5, 8] (fun _ i wr => ∃ k : Nat, k ≤ n ∧ i = .int .i64 k ∧ allFl (fs.take k) = true ∧ Below w.heap.size w wr) (fun _ i _ => n - (intOf i).toNat)
  case atStart => exact ⟨0, Nat.zero_le _, rfl, rfl, Below.refl _ _⟩
  case round =>
    obtain ⟨k, hk, rfl, hall, hb⟩ := hrel
    have Hall := Lib.hid hall
    clear hall
    by_cases hlt : k < n
    · obtain ⟨b, o, rfl, hbl, hc⟩ := (h.below hb (Nat.le_refl _)).get (by omega)
      have hc0 := hc k hlt 0 _ rfl
      have hc1 := hc k hlt 1 _ rfl
      have hc2 := hc k hlt 2 _ rfl
      have hc3 := hc k hlt 3 _ rfl
      clear hc
      rw [Nat.add_zero] at hc0
      rcases bool_cases (decide ((ge fs k).kd = 1)) with hf | hf
      all_goals
        have HF := Lib.hid hf
        go_wp2_with fail
        refine (notFlip_any _ _ _ _ _).mono ?_
        rw [hf]
        clear hf
        rintro e w1 ⟨rfl, hb1⟩
        have hb1' := below_next hb1 hb (Nat.le_refl _)
      · go_wp2
        go_roundw
        case rel => exact ⟨k + 1, by omega, by go_num, by rw [allFl_take (by rw [L.out]; exact hlt), Hall.out, HF.out]; rfl, hb1'⟩
        case measure => simp [intOf]; omega
      · go_wp2
        go_ret
        exact ⟨(k : Int), rfl, by rw [allFl_no (by rw [L.out]; exact hlt) (of_decide_eq_false HF.out)]; simp, hb1'⟩
    · have hkn : k = n := by omega
      have hz : allFl fs = true := by have := Hall.out; rwa [List.take_of_length_le (by rw [h.len]; omega)] at this
      have Hz := Lib.hid hz
      clear hz hkn
      go_wp2
      go_ret
      exact ⟨-1, rfl, by rw [Hz.out]; rfl, hb⟩

set_option maxHeartbeats 1000000 in
theorem containsFl_any (A : Option Addr) (n c : Nat) (fs : List Flt) (w : World) (h : RE encF 4 w w.heap.size A n fs) (hn : n ≤ 1099511627776) :
    Calls Try.prog 153 #[.slice A n c, .func (.func 237) #[] #[]] w (RetV w (.bool (!allFl fs))) := by
  go_enter Try.func153, Try.ntmps153
  go_wp2_with fail
  refine (indexFl_any A n c fs w h hn).mono ?_
  rintro e w1 ⟨z, rfl, hz, hb1⟩
  have HZ := Lib.hid hz
  clear hz
  go_wp2
  go_ret
  exact ⟨ret_bool HZ.out, hb1⟩


set_option maxHeartbeats 4000000 in
theorem l26Flips_any (A : Option Addr) (n c : Nat) (fs : List Flt) (w : World) (h : RE encF 4 w w.heap.size A n fs) (hn : n ≤ 1099511627776) (hall : allF fs = true) :
    Calls Try.prog 238 #[.slice A n c] w (RetV w (.bool (spaced fs 6 && allFl fs))) := by
  have L := Lib.hid h.len
  have HA := Lib.hid hall
  clear hall
  go_enter Try.func238, Try.ntmps238
  go_wp2
  go_loopw [3] (fun i wr => ∃ k : Nat, k ≤ n ∧ i = .int .i64 k ∧ spTo fs 6 k = true ∧ allFl (fs.take k) = true ∧ Below w.heap.size w wr) (fun i _ => n - (intOf i).toNat)
  case atStart => exact ⟨0, Nat.zero_le _, rfl, rfl, rfl, Below.refl _ _⟩
  case round =>
    obtain ⟨k, hk, rfl, hsp, hfl, hb⟩ := hrel
    have HSP := Lib.hid hsp
    have HFL := Lib.hid hfl
    clear hsp hfl
    by_cases hlt : k < n
    · obtain ⟨b, o, rfl, _, hc⟩ := (h.below hb (Nat.le_refl _)).get (by omega)
      have hc0 := hc k hlt 0 _ rfl
      have hc1 := hc k hlt 1 _ rfl
      have HC := Lib.hid hc
      clear hc
      rw [Nat.add_zero] at hc0
      obtain ⟨kd, hkd⟩ : ∃ x, (ge fs k).kd = x := ⟨_, rfl⟩
      rw [hkd] at hc0
      have HK := Lib.hid hkd
      clear hkd
      by_cases h1 : kd = 1
      case neg =>
        have hb1 : (kd != 1) = true := by simp [h1]
        have HN := Lib.hid h1
        clear h1
        go_wp2_with fail
        go_quiet (fail)
        clear hc0 hc1
        go_wp2
        go_ret
        exact ⟨ret_bool (by rw [allFl_no (by rw [L.out]; exact hlt) (by rw [HK.out]; exact HN.out), Bool.and_false]), below_drewN hb _⟩
      subst h1
      have hb1 : ((1 : Int) != 1) = false := rfl
      have HF1 := Lib.hid (show allFl (fs.take (k + 1)) = true from by rw [allFl_take (by rw [L.out]; exact hlt), HFL.out, HK.out]; rfl)
      by_cases hk0 : k = 0
      · subst hk0
        simp only [Nat.zero_mul, Nat.add_zero] at hc0 hc1
        go_wp2_with fail
        go_quiet (fail)
        clear hc0 hc1
        go_wp2
        go_roundw
        case rel => exact ⟨1, by omega, by go_num, by rw [spTo_succ, HSP.out]; rfl, HF1.out, below_drewN hb _⟩
        case measure => simp [intOf]; omega
      · have hc2 := HC.out (k - 1) (by omega) 1 _ rfl
        have hp1 := isFault_pos (allF_ge HA.out (k := k) (by rw [L.out]; exact hlt))
        have hp2 := isFault_pos (allF_ge HA.out (k := k - 1) (by rw [L.out]; omega))
        obtain ⟨p, hp⟩ : ∃ p, (ge fs k).pos = p := ⟨_, rfl⟩
        obtain ⟨q, hq⟩ : ∃ q, (ge fs (k - 1)).pos = q := ⟨_, rfl⟩
        rw [hp] at hc1 hp1
        rw [hq] at hc2 hp2
        have HP := Lib.hid hp
        have HQ := Lib.hid hq
        obtain ⟨hp3, hp4⟩ := hp1
        obtain ⟨hq3, hq4⟩ := hp2
        clear hp hq
        have hk1 : 0 < k := by omega
        have HK0 := Lib.hid hk0
        clear hk0
        by_cases hd : 6 ≤ p - q
        · have HD := Lib.hid (show spAt fs 6 k = true from spAt_of (by rw [HP.out, HQ.out]; exact hd))
          have hd2 : decide (p - q < 6) = false := by simp; omega
          have hw1 : IntKind.i64.wrap (p - q) = p - q := IntWalk.i64_in _ (by omega)
          clear hd
          go_wp2_with fail
          go_quiet (fail)
          clear hk1 hw1 hc0 hc1 hc2
          go_wp2
          go_roundw
          case rel => exact ⟨k + 1, by omega, by go_num, by rw [spTo_succ, HSP.out, HD.out]; rfl, HF1.out, below_drewN hb _⟩
          case measure => simp [intOf]; omega
        · have HD := Lib.hid (show spAt fs 6 k = false from spAt_no HK0.out (by rw [HP.out, HQ.out]; exact hd))
          have hd2 : decide (p - q < 6) = true := by simp; omega
          have hw1 : IntKind.i64.wrap (p - q) = p - q := IntWalk.i64_in _ (by omega)
          clear hd
          go_wp2_with fail
          go_quiet (fail)
          clear hk1 hw1 hc0 hc1 hc2
          go_wp2
          go_ret
          exact ⟨ret_bool (by rw [spaced_no (by rw [L.out]; exact hlt) HD.out, Bool.false_and]), below_drewN hb _⟩
    · have hkn : k = n := by omega
      have h1 := Lib.hid (show (spaced fs 6 && allFl fs) = true from by
        have e1 := HSP.out
        have e2 := HFL.out
        rw [List.take_of_length_le (by rw [L.out]; omega)] at e2
        unfold spaced
        rw [L.out, ← hkn, e1, e2]; rfl)
      clear hkn
      go_wp2
      go_ret
      exact ⟨ret_bool h1.out.symm, hb⟩

/-- is each fault within a run of the samples behind those before it -/
def witTo (zs : List Int) (fs : List Flt) (k : Nat) : Bool := (List.range k).all fun i => within5 (appS zs (fs.take i)) (ge fs i)
def wit (zs : List Int) (fs : List Flt) : Bool := witTo zs fs fs.length
theorem witTo_succ (zs : List Int) (fs : List Flt) (k : Nat) : witTo zs fs (k + 1) = (witTo zs fs k && within5 (appS zs (fs.take k)) (ge fs k)) := by simp [witTo, List.range_succ]
theorem wit_no {zs : List Int} {fs : List Flt} {k : Nat} (hk : k < fs.length) (h : within5 (appS zs (fs.take k)) (ge fs k) = false) : wit zs fs = false := by
  refine Bool.eq_false_iff.2 fun ht => ?_
  have := List.all_eq_true.1 ht k (List.mem_range.2 hk)
  rw [h] at this; cases this

end Go.Proofs.Ytjehkjdehkdjcaa

namespace Go.Proofs.Ytjehkjdehkdjcaa
open Go.RowKit
/-- the way in which a script is bounded, or 0 -/
def bnd (zs : List Int) (fs : List Flt) : Int := if (spaced fs 6 && allFl fs) = true then 1 else if (spaced fs 160 && wit zs fs) = true then 2 else 0

set_option maxRecDepth 20000 in
set_option maxHeartbeats 8000000 in
theorem boundOf_any (A : Option Addr) (n c : Nat) (zs : List Int) (B : Option Addr) (m d : Nat) (fs : List Flt) (w : World) (h : RI w w.heap.size A n zs) (hz : isBits zs = true) (hA : Pl A c) (hnc : n ≤ c) (hcm : c ≤ maxLen) (hf : RE encF 4 w w.heap.size B m fs) (hall : allF fs = true) (hm : m ≤ 1099511627776) :
    Calls Try.prog 183 #[.slice A n c, .slice B m d] w (RetV w (.int .i64 (bnd zs fs))) := by
  have L := Lib.hid h.len
  have LF := Lib.hid hf.len
  have HZ := Lib.hid hz
  have HA := Lib.hid hall
  have HPL := Lib.hid hA
  clear hz hall hA
  obtain ⟨V, hV⟩ : ∃ V, bnd zs fs = V := ⟨_, rfl⟩
  rw [hV]
  have HV := Lib.hid hV
  clear hV
  rcases bool_cases (spaced fs 6 && allFl fs) with hb | hb
  case inl =>
    have hb' := hb
    rw [Bool.and_eq_true] at hb'
    have H1 := Lib.hid hb'.1
    have H2 := Lib.hid hb'.2
    have HW := Lib.hid (show V = 1 from by rw [← HV.out]; unfold bnd; rw [if_pos hb])
    clear hb hb'
    go_enter Try.func183, Try.ntmps183
    go_wp2_with fail
    refine (isSpaced_any B m d fs 6 w hf hm HA.out).mono ?_
    rw [H1.out]
    rintro e w1 ⟨rfl, hb1⟩
    go_wp2_with fail
    refine (containsFl_any B m d fs _ (hf.up hb1) hm).mono ?_
    rw [H2.out]
    rintro e w2 ⟨rfl, hb2⟩
    go_wp2
    go_ret
    exact ⟨ret_int HW.out.symm, below_next hb2 hb1 (Nat.le_refl _)⟩
  have HNB := Lib.hid hb
  rcases bool_cases (spaced fs 6) with h6 | h6
  all_goals
    have H6 := Lib.hid h6
    have HFL := Lib.hid (show spaced fs 6 = true → allFl fs = false from fun e => by rw [e, Bool.true_and] at hb; exact hb)
    clear hb h6
    go_enter Try.func183, Try.ntmps183
    go_wp2_with fail
    refine (isSpaced_any B m d fs 6 w hf hm HA.out).mono ?_
    rw [H6.out]
    rintro e w1 ⟨rfl, hb1⟩
  · go_wp2_with fail
    refine (containsFl_any B m d fs _ (hf.up hb1) hm).mono ?_
    rw [HFL.out H6.out]
    rintro e w2 ⟨rfl, hb2⟩
    have hbb := below_next hb2 hb1 (Nat.le_refl _)
    clear hb1 hb2
    go_wp2_with fail
    go_loopw [0, 16] (fun s i wr => ∃ (k n' : Nat) (A' : Option Addr) (c' : Nat), k ≤ m ∧ i = .int .i64 k ∧ s = .slice A' n' c' ∧ RI wr wr.heap.size A' n' (appS zs (fs.take k)) ∧ Hid (Pl A' c') ∧ n' ≤ c' ∧ c' ≤ maxLen ∧ witTo zs fs k = true ∧ Below w.heap.size w wr) (fun _ i _ => m - (intOf i).toNat)
    case atStart => exact ⟨0, n, A, c, Nat.zero_le _, rfl, rfl, h.up hbb, HPL.out, hnc, hcm, rfl, hbb⟩
    case round =>
      obtain ⟨k, n', A', c', hk, rfl, rfl, hri, HPL', hnc', hcm', hwi, hb⟩ := hrel
      have HWI := Lib.hid hwi
      have hn' : n' ≤ 8192 := by
        rw [← hri.len]; exact isBits_len (appS_bits HZ.out (allF_take' k HA.out))
      clear hwi hbb
      by_cases hlt : k < m
      · obtain ⟨b, o, rfl, _, hc⟩ := (hf.below hb (Nat.le_refl _)).get (by omega)
        have hc0 := hc k hlt 0 _ rfl
        have hc1 := hc k hlt 1 _ rfl
        have hc2 := hc k hlt 2 _ rfl
        have hc3 := hc k hlt 3 _ rfl
        clear hc
        rw [Nat.add_zero] at hc0
        have HBT := Lib.hid (appS_bits HZ.out (allF_take' k HA.out))
        have HFT := Lib.hid (allF_ge HA.out (k := k) (by rw [LF.out]; exact hlt))
        have ST := Lib.hid (appS_take (zs := zs) (fs := fs) (k := k) (by rw [LF.out]; exact hlt))
        have hbk := BlkL.new wr 82 #[.int .i64 (ge fs k).kd, .int .i64 (ge fs k).pos, .int .i64 (ge fs k).len, .int .i64 (ge fs k).val] rfl
        have HBK := Lib.hid hbk
        have HB := Lib.hid hb
        have HRI := Lib.hid hri
        clear hbk hb hri
        rcases bool_cases (within5 (appS zs (fs.take k)) (ge fs k)) with hw | hw
        · have HW := Lib.hid hw
          clear hw
          go_wp2_with fail
          refine (withinRun_any A' n' c' (appS zs (fs.take k)) (ge fs k).kd (ge fs k).pos (ge fs k).len (ge fs k).val _ (by exact HRI.out.alloc' _) (by omega) hnc' hcm').mono ?_
          rw [show within5 (appS zs (fs.take k)) ⟨(ge fs k).kd, (ge fs k).pos, (ge fs k).len, (ge fs k).val⟩ = _ from HW.out]
          rintro e w3 ⟨rfl, hb3⟩
          have K3 := BlkL.next hb3 HBK.out
          have s0 := K3.c 0 rfl
          have s1 := K3.c 1 rfl
          have s2 := K3.c 2 rfl
          have s3 := K3.c 3 rfl
          have hri3 := (HRI.out.alloc' _).up hb3
          have hB3 := below_next hb3 (below_alloc HB.out (Nat.le_refl _) _) (Nat.le_refl _)
          have HB3 := Lib.hid hB3
          clear K3 hb3 hB3 hc0 hc1 hc2 hc3
          go_wp2_with fail
          refine (ApplyScript.apfL A' n' c' _ (ge fs k) _ hri3 HBT.out HFT.out HPL'.out.cap).mono ?_
          rintro e w4 ⟨A4, n4, c4, rfl, hown4, hb4⟩
          have HO4 := Lib.hid hown4
          clear hown4
          go_wp2
          go_roundw
          case rel =>
            have e4 := HO4.out
            exact ⟨k + 1, n4, A4, c4, by omega, by go_num, rfl, by rw [ST.out]; exact e4.reads, e4.pl, e4.cap.1, e4.cap.2, by rw [witTo_succ, HWI.out, HW.out]; rfl, below_next hb4 HB3.out (Nat.le_refl _)⟩
          case measure => simp [intOf]; omega
        · have HW := Lib.hid hw
          have HR := Lib.hid (show V = 0 from by
            rw [← HV.out]; unfold bnd; rw [HNB.out, wit_no (by rw [LF.out]; exact hlt) hw, Bool.and_false]; rfl)
          clear hw
          go_wp2_with fail
          refine (withinRun_any A' n' c' (appS zs (fs.take k)) (ge fs k).kd (ge fs k).pos (ge fs k).len (ge fs k).val _ (by exact HRI.out.alloc' _) (by omega) hnc' hcm').mono ?_
          rw [show within5 (appS zs (fs.take k)) ⟨(ge fs k).kd, (ge fs k).pos, (ge fs k).len, (ge fs k).val⟩ = _ from HW.out]
          rintro e w3 ⟨rfl, hb3⟩
          go_wp2
          go_ret
          exact ⟨ret_int HR.out.symm, below_next hb3 (below_alloc HB.out (Nat.le_refl _) _) (Nat.le_refl _)⟩
      · have hkm : k = m := by omega
        have HWT := Lib.hid (show wit zs fs = true from by unfold wit; rw [LF.out, ← hkm]; exact HWI.out)
        clear hkm
        rcases bool_cases (spaced fs 160) with hs | hs
        all_goals
          have HS := Lib.hid hs
          have HR := Lib.hid (show V = if spaced fs 160 = true then 2 else 0 from by
            rw [← HV.out]; unfold bnd; rw [HNB.out, HWT.out, Bool.and_true]; rfl)
          clear hs
          go_wp2_with fail
          refine (isSpaced_any B m d fs 160 _ (by exact hf.up hb) hm HA.out).mono ?_
          rw [HS.out]
          rintro e w3 ⟨rfl, hb3⟩
          go_wp2
          go_ret
          exact ⟨ret_int (by rw [HR.out, HS.out]; rfl), below_next hb3 hb (Nat.le_refl _)⟩
  · have hbb := hb1
    go_wp2_with fail
    go_loopw [0, 16] (fun s i wr => ∃ (k n' : Nat) (A' : Option Addr) (c' : Nat), k ≤ m ∧ i = .int .i64 k ∧ s = .slice A' n' c' ∧ RI wr wr.heap.size A' n' (appS zs (fs.take k)) ∧ Hid (Pl A' c') ∧ n' ≤ c' ∧ c' ≤ maxLen ∧ witTo zs fs k = true ∧ Below w.heap.size w wr) (fun _ i _ => m - (intOf i).toNat)
    case atStart => exact ⟨0, n, A, c, Nat.zero_le _, rfl, rfl, h.up hbb, HPL.out, hnc, hcm, rfl, hbb⟩
    case round =>
      obtain ⟨k, n', A', c', hk, rfl, rfl, hri, HPL', hnc', hcm', hwi, hb⟩ := hrel
      have HWI := Lib.hid hwi
      have hn' : n' ≤ 8192 := by
        rw [← hri.len]; exact isBits_len (appS_bits HZ.out (allF_take' k HA.out))
      clear hwi hbb
      by_cases hlt : k < m
      · obtain ⟨b, o, rfl, _, hc⟩ := (hf.below hb (Nat.le_refl _)).get (by omega)
        have hc0 := hc k hlt 0 _ rfl
        have hc1 := hc k hlt 1 _ rfl
        have hc2 := hc k hlt 2 _ rfl
        have hc3 := hc k hlt 3 _ rfl
        clear hc
        rw [Nat.add_zero] at hc0
        have HBT := Lib.hid (appS_bits HZ.out (allF_take' k HA.out))
        have HFT := Lib.hid (allF_ge HA.out (k := k) (by rw [LF.out]; exact hlt))
        have ST := Lib.hid (appS_take (zs := zs) (fs := fs) (k := k) (by rw [LF.out]; exact hlt))
        have hbk := BlkL.new wr 82 #[.int .i64 (ge fs k).kd, .int .i64 (ge fs k).pos, .int .i64 (ge fs k).len, .int .i64 (ge fs k).val] rfl
        have HBK := Lib.hid hbk
        have HB := Lib.hid hb
        have HRI := Lib.hid hri
        clear hbk hb hri
        rcases bool_cases (within5 (appS zs (fs.take k)) (ge fs k)) with hw | hw
        · have HW := Lib.hid hw
          clear hw
          go_wp2_with fail
          refine (withinRun_any A' n' c' (appS zs (fs.take k)) (ge fs k).kd (ge fs k).pos (ge fs k).len (ge fs k).val _ (by exact HRI.out.alloc' _) (by omega) hnc' hcm').mono ?_
          rw [show within5 (appS zs (fs.take k)) ⟨(ge fs k).kd, (ge fs k).pos, (ge fs k).len, (ge fs k).val⟩ = _ from HW.out]
          rintro e w3 ⟨rfl, hb3⟩
          have K3 := BlkL.next hb3 HBK.out
          have s0 := K3.c 0 rfl
          have s1 := K3.c 1 rfl
          have s2 := K3.c 2 rfl
          have s3 := K3.c 3 rfl
          have hri3 := (HRI.out.alloc' _).up hb3
          have hB3 := below_next hb3 (below_alloc HB.out (Nat.le_refl _) _) (Nat.le_refl _)
          have HB3 := Lib.hid hB3
          clear K3 hb3 hB3 hc0 hc1 hc2 hc3
          go_wp2_with fail
          refine (ApplyScript.apfL A' n' c' _ (ge fs k) _ hri3 HBT.out HFT.out HPL'.out.cap).mono ?_
          rintro e w4 ⟨A4, n4, c4, rfl, hown4, hb4⟩
          have HO4 := Lib.hid hown4
          clear hown4
          go_wp2
          go_roundw
          case rel =>
            have e4 := HO4.out
            exact ⟨k + 1, n4, A4, c4, by omega, by go_num, rfl, by rw [ST.out]; exact e4.reads, e4.pl, e4.cap.1, e4.cap.2, by rw [witTo_succ, HWI.out, HW.out]; rfl, below_next hb4 HB3.out (Nat.le_refl _)⟩
          case measure => simp [intOf]; omega
        · have HW := Lib.hid hw
          have HR := Lib.hid (show V = 0 from by
            rw [← HV.out]; unfold bnd; rw [HNB.out, wit_no (by rw [LF.out]; exact hlt) hw, Bool.and_false]; rfl)
          clear hw
          go_wp2_with fail
          refine (withinRun_any A' n' c' (appS zs (fs.take k)) (ge fs k).kd (ge fs k).pos (ge fs k).len (ge fs k).val _ (by exact HRI.out.alloc' _) (by omega) hnc' hcm').mono ?_
          rw [show within5 (appS zs (fs.take k)) ⟨(ge fs k).kd, (ge fs k).pos, (ge fs k).len, (ge fs k).val⟩ = _ from HW.out]
          rintro e w3 ⟨rfl, hb3⟩
          go_wp2
          go_ret
          exact ⟨ret_int HR.out.symm, below_next hb3 (below_alloc HB.out (Nat.le_refl _) _) (Nat.le_refl _)⟩
      · have hkm : k = m := by omega
        have HWT := Lib.hid (show wit zs fs = true from by unfold wit; rw [LF.out, ← hkm]; exact HWI.out)
        clear hkm
        rcases bool_cases (spaced fs 160) with hs | hs
        all_goals
          have HS := Lib.hid hs
          have HR := Lib.hid (show V = if spaced fs 160 = true then 2 else 0 from by
            rw [← HV.out]; unfold bnd; rw [HNB.out, HWT.out, Bool.and_true]; rfl)
          clear hs
          go_wp2_with fail
          refine (isSpaced_any B m d fs 160 _ (by exact hf.up hb) hm HA.out).mono ?_
          rw [HS.out]
          rintro e w3 ⟨rfl, hb3⟩
          go_wp2
          go_ret
          exact ⟨ret_int (by rw [HR.out, HS.out]; rfl), below_next hb3 hb (Nat.le_refl _)⟩
end Go.Proofs.Ytjehkjdehkdjcaa

namespace Go.Proofs.Ytjehkjdehkdjcaa
open Go.RowKit

set_option maxRecDepth 20000 in
set_option maxHeartbeats 8000000 in
theorem l26Slips_any (A : Option Addr) (n c : Nat) (zs : List Int) (B : Option Addr) (m d : Nat) (fs : List Flt) (w : World) (h : RI w w.heap.size A n zs) (hz : isBits zs = true) (hA : Pl A c) (hnc : n ≤ c) (hcm : c ≤ maxLen) (hf : RE encF 4 w w.heap.size B m fs) (hall : allF fs = true) (hm : m ≤ 1099511627776) :
    Calls Try.prog 239 #[.slice A n c, .slice B m d] w (RetV w (.bool (spaced fs 160 && wit zs fs))) := by
  have L := Lib.hid h.len
  have LF := Lib.hid hf.len
  have HZ := Lib.hid hz
  have HA := Lib.hid hall
  clear hz hall
  go_enter Try.func239, Try.ntmps239
  go_wp2
  go_loopw [0, 5] (fun s i wr => ∃ (k n' : Nat) (A' : Option Addr) (c' : Nat), k ≤ m ∧ i = .int .i64 k ∧ s = .slice A' n' c' ∧ RI wr wr.heap.size A' n' (appS zs (fs.take k)) ∧ Pl A' c' ∧ n' ≤ c' ∧ c' ≤ maxLen ∧ spTo fs 160 k = true ∧ witTo zs fs k = true ∧ Below w.heap.size w wr) (fun _ i _ => m - (intOf i).toNat)
  case atStart => exact ⟨0, n, A, c, Nat.zero_le _, rfl, rfl, h, hA, hnc, hcm, rfl, rfl, Below.refl _ _⟩
  case round =>
    obtain ⟨k, n', A', c', hk, rfl, rfl, hri, hpl, hnc', hcm', hsp, hwi, hb⟩ := hrel
    have HSP := Lib.hid hsp
    have HWI := Lib.hid hwi
    have HPL := Lib.hid hpl
    have hn' : n' ≤ 8192 := by
      rw [← hri.len]; exact isBits_len (appS_bits HZ.out (allF_take' k HA.out))
    clear hsp hwi hpl
    by_cases hlt : k < m
    · obtain ⟨b, o, rfl, _, hc⟩ := (hf.below hb (Nat.le_refl _)).get (by omega)
      have hc0 := hc k hlt 0 _ rfl
      have hc1 := hc k hlt 1 _ rfl
      have hc2 := hc k hlt 2 _ rfl
      have hc3 := hc k hlt 3 _ rfl
      have HC := Lib.hid hc
      clear hc
      rw [Nat.add_zero] at hc0
      have HBT := Lib.hid (appS_bits HZ.out (allF_take' k HA.out))
      have HFL := Lib.hid (allF_ge HA.out (k := k) (by rw [LF.out]; exact hlt))
      have ST := Lib.hid (appS_take (zs := zs) (fs := fs) (k := k) (by rw [LF.out]; exact hlt))
      by_cases hk0 : k = 0
      · subst hk0
        have HD := Lib.hid (spAt_zero fs 160)
        simp only [Nat.zero_mul, Nat.add_zero] at hc0 hc1 hc2 hc3
        rcases bool_cases (within5 (appS zs (fs.take 0)) (ge fs 0)) with hw | hw
        case inl =>
          have HW := Lib.hid hw
          clear hw
          go_wp2_with fail
          refine wp_region_still_tail 23 (by kernel_rfl) (by kernel_rfl) ?_
          simp only [List.take_succ_cons, List.take_zero, List.drop_succ_cons, List.drop_zero]
          iterate 23 ((with_reducible refine wpStill_step (fun K hK => ?_)); have HK9 := Lib.hid hK; clear hK; go_simp; (with_reducible refine HK9.out _ ?_); clear HK9 K)
          with_reducible refine wpStill_nil ?_
          go_wp2_with fail
          refine (l26Within_any A' n' c' (appS zs (fs.take 0)) (ge fs 0).kd (ge fs 0).pos (ge fs 0).len (ge fs 0).val _ (by exact hri) (by omega)).mono ?_
          rw [show within5 (appS zs (fs.take 0)) ⟨(ge fs 0).kd, (ge fs 0).pos, (ge fs 0).len, (ge fs 0).val⟩ = _ from HW.out]
          rintro e w2 ⟨rfl, hb2⟩
          have hbc : Below wr.heap.size wr w2 := below_next_drew hb2 (Below.refl wr.heap.size wr) (Nat.le_refl _)
          clear hb2
          have hbT := below_next hbc hb (Nat.le_refl _)
          have hri2 := hri.up hbc
          obtain ⟨b', o', e', _, hc⟩ := (hf.below hbT (Nat.le_refl _)).get (by omega)
          cases e'
          have g0 := hc 0 hlt 0 _ rfl
          have g1 := hc 0 hlt 1 _ rfl
          have g2 := hc 0 hlt 2 _ rfl
          have g3 := hc 0 hlt 3 _ rfl
          clear hc
          simp only [Nat.zero_mul, Nat.add_zero] at g0 g1 g2 g3
          clear hc0 hc1 hc2 hc3
          go_wp2_with fail
          refine (ApplyScript.l24L A' n' c' _ (ge fs 0) _ hri2 HBT.out HFL.out HPL.out hnc' hcm').mono ?_
          rintro e w3 ⟨A3, n3, c3, rfl, hown3, hb3⟩
          have HO3 := Lib.hid hown3
          clear hown3
          go_wp2
          go_roundw
          case rel =>
            have e3 := HO3.out
            exact ⟨1, n3, A3, c3, by omega, by go_num, rfl, by rw [ST.out]; exact e3.reads, e3.pl, e3.cap.1, e3.cap.2, by rw [spTo_succ, HSP.out, HD.out]; rfl, by rw [witTo_succ, HWI.out, HW.out]; rfl, below_next hb3 hbT (Nat.le_refl _)⟩
          case measure => simp [intOf]; omega
        case inr =>
          have HW := Lib.hid hw
          clear hw
          go_wp2_with fail
          refine wp_region_still_tail 23 (by kernel_rfl) (by kernel_rfl) ?_
          simp only [List.take_succ_cons, List.take_zero, List.drop_succ_cons, List.drop_zero]
          iterate 23 ((with_reducible refine wpStill_step (fun K hK => ?_)); have HK9 := Lib.hid hK; clear hK; go_simp; (with_reducible refine HK9.out _ ?_); clear HK9 K)
          with_reducible refine wpStill_nil ?_
          go_wp2_with fail
          refine (l26Within_any A' n' c' (appS zs (fs.take 0)) (ge fs 0).kd (ge fs 0).pos (ge fs 0).len (ge fs 0).val _ (by exact hri) (by omega)).mono ?_
          rw [show within5 (appS zs (fs.take 0)) ⟨(ge fs 0).kd, (ge fs 0).pos, (ge fs 0).len, (ge fs 0).val⟩ = _ from HW.out]
          rintro e w2 ⟨rfl, hb2⟩
          have hbc : Below wr.heap.size wr w2 := below_next_drew hb2 (Below.refl wr.heap.size wr) (Nat.le_refl _)
          clear hb2
          have hbT := below_next hbc hb (Nat.le_refl _)
          have hri2 := hri.up hbc
          obtain ⟨b', o', e', _, hc⟩ := (hf.below hbT (Nat.le_refl _)).get (by omega)
          cases e'
          have g0 := hc 0 hlt 0 _ rfl
          have g1 := hc 0 hlt 1 _ rfl
          have g2 := hc 0 hlt 2 _ rfl
          have g3 := hc 0 hlt 3 _ rfl
          clear hc
          simp only [Nat.zero_mul, Nat.add_zero] at g0 g1 g2 g3
          clear hc0 hc1 hc2 hc3
          go_wp2
          go_ret
          exact ⟨ret_bool (by rw [wit_no (by rw [LF.out]; exact hlt) HW.out, Bool.and_false]), hbT⟩
      · have hc4 := HC.out (k - 1) (by omega) 1 _ rfl
        have hp1 := isFault_pos HFL.out
        have hp2 := isFault_pos (allF_ge HA.out (k := k - 1) (by rw [LF.out]; omega))
        have hk1 : 0 < k := by omega
        have HK0 := Lib.hid hk0
        clear hk0
        obtain ⟨p, hp⟩ : ∃ p, (ge fs k).pos = p := ⟨_, rfl⟩
        obtain ⟨q, hq⟩ : ∃ q, (ge fs (k - 1)).pos = q := ⟨_, rfl⟩
        rw [hq] at hc4 hp2
        have HQ := Lib.hid hq
        clear hq
        rw [hp] at hp1
        obtain ⟨hp3, hp4⟩ := hp1
        obtain ⟨hq3, hq4⟩ := hp2
        by_cases hd : 160 ≤ p - q
        case neg =>
          rw [hp] at hc1
          have HP := Lib.hid hp
          clear hp
          have HD := Lib.hid (show spAt fs 160 k = false from spAt_no HK0.out (by rw [HP.out, HQ.out]; exact hd))
          have hd2 : decide (p - q < 160) = true := by simp; omega
          have hw1 : IntKind.i64.wrap (p - q) = p - q := IntWalk.i64_in _ (by omega)
          clear hd
          go_wp2_with fail
          go_quiet (fail)
          clear hk1 hw1 hc0 hc1 hc2 hc3 hc4
          go_wp2
          go_ret
          exact ⟨ret_bool (by rw [spaced_no (by rw [LF.out]; exact hlt) HD.out, Bool.false_and]), below_drewN hb _⟩
        subst hp
        have HD := Lib.hid (show spAt fs 160 k = true from spAt_of (by rw [HQ.out]; exact hd))
        have hd2 : decide ((ge fs k).pos - q < 160) = false := by simp; omega
        have hw1 : IntKind.i64.wrap ((ge fs k).pos - q) = (ge fs k).pos - q := IntWalk.i64_in _ (by omega)
        have hwk : IntKind.i64.wrap ((k : Int) - 1) = ((k - 1 : Nat) : Int) := by rw [IntWalk.i64_in _ (by omega)]; omega
        have hk2 : k - 1 < m := by omega
        clear hd
        rcases bool_cases (within5 (appS zs (fs.take k)) (ge fs k)) with hw | hw
        case inl =>
          have HW := Lib.hid hw
          clear hw
          go_wp2_with fail
          refine wp_region_still_tail 23 (by kernel_rfl) (by kernel_rfl) ?_
          simp only [List.take_succ_cons, List.take_zero, List.drop_succ_cons, List.drop_zero]
          iterate 23 ((with_reducible refine wpStill_step (fun K hK => ?_)); have HK9 := Lib.hid hK; clear hK; go_simp; (with_reducible refine HK9.out _ ?_); clear HK9 K)
          with_reducible refine wpStill_nil ?_
          go_wp2_with fail
          refine (l26Within_any A' n' c' (appS zs (fs.take k)) (ge fs k).kd (ge fs k).pos (ge fs k).len (ge fs k).val _ (by exact hri) (by omega)).mono ?_
          rw [show within5 (appS zs (fs.take k)) ⟨(ge fs k).kd, (ge fs k).pos, (ge fs k).len, (ge fs k).val⟩ = _ from HW.out]
          rintro e w2 ⟨rfl, hb2⟩
          have hbc : Below wr.heap.size wr w2 := below_next_drew hb2 (Below.refl wr.heap.size wr) (Nat.le_refl _)
          clear hb2
          have hbT := below_next hbc hb (Nat.le_refl _)
          have hri2 := hri.up hbc
          obtain ⟨b', o', e', _, hc⟩ := (hf.below hbT (Nat.le_refl _)).get (by omega)
          cases e'
          have g0 := hc k hlt 0 _ rfl
          have g1 := hc k hlt 1 _ rfl
          have g2 := hc k hlt 2 _ rfl
          have g3 := hc k hlt 3 _ rfl
          clear hc
          rw [Nat.add_zero] at g0
          clear hc0 hc1 hc2 hc3 hc4 hw1 hk1 hwk hk2
          go_wp2_with fail
          refine (ApplyScript.l24L A' n' c' _ (ge fs k) _ hri2 HBT.out HFL.out HPL.out hnc' hcm').mono ?_
          rintro e w3 ⟨A3, n3, c3, rfl, hown3, hb3⟩
          have HO3 := Lib.hid hown3
          clear hown3
          go_wp2
          go_roundw
          case rel =>
            have e3 := HO3.out
            exact ⟨k + 1, n3, A3, c3, by omega, by go_num, rfl, by rw [ST.out]; exact e3.reads, e3.pl, e3.cap.1, e3.cap.2, by rw [spTo_succ, HSP.out, HD.out]; rfl, by rw [witTo_succ, HWI.out, HW.out]; rfl, below_next hb3 hbT (Nat.le_refl _)⟩
          case measure => simp [intOf]; omega
        case inr =>
          have HW := Lib.hid hw
          clear hw
          go_wp2_with fail
          refine wp_region_still_tail 23 (by kernel_rfl) (by kernel_rfl) ?_
          simp only [List.take_succ_cons, List.take_zero, List.drop_succ_cons, List.drop_zero]
          iterate 23 ((with_reducible refine wpStill_step (fun K hK => ?_)); have HK9 := Lib.hid hK; clear hK; go_simp; (with_reducible refine HK9.out _ ?_); clear HK9 K)
          with_reducible refine wpStill_nil ?_
          go_wp2_with fail
          refine (l26Within_any A' n' c' (appS zs (fs.take k)) (ge fs k).kd (ge fs k).pos (ge fs k).len (ge fs k).val _ (by exact hri) (by omega)).mono ?_
          rw [show within5 (appS zs (fs.take k)) ⟨(ge fs k).kd, (ge fs k).pos, (ge fs k).len, (ge fs k).val⟩ = _ from HW.out]
          rintro e w2 ⟨rfl, hb2⟩
          have hbc : Below wr.heap.size wr w2 := below_next_drew hb2 (Below.refl wr.heap.size wr) (Nat.le_refl _)
          clear hb2
          have hbT := below_next hbc hb (Nat.le_refl _)
          have hri2 := hri.up hbc
          obtain ⟨b', o', e', _, hc⟩ := (hf.below hbT (Nat.le_refl _)).get (by omega)
          cases e'
          have g0 := hc k hlt 0 _ rfl
          have g1 := hc k hlt 1 _ rfl
          have g2 := hc k hlt 2 _ rfl
          have g3 := hc k hlt 3 _ rfl
          clear hc
          rw [Nat.add_zero] at g0
          clear hc0 hc1 hc2 hc3 hc4 hw1 hk1 hwk hk2
          go_wp2
          go_ret
          exact ⟨ret_bool (by rw [wit_no (by rw [LF.out]; exact hlt) HW.out, Bool.and_false]), hbT⟩
    · have hkm : k = m := by omega
      have h1 := Lib.hid (show (spaced fs 160 && wit zs fs) = true from by
        unfold spaced wit
        rw [LF.out, ← hkm, HSP.out, HWI.out]; rfl)
      clear hkm
      go_wp2
      go_ret
      exact ⟨ret_bool h1.out.symm, hb⟩
end Go.Proofs.Ytjehkjdehkdjcaa

namespace Go.Proofs.Ytjehkjdehkdjcaa
open Go.RowKit
namespace BoundOf
def val (zs : List Int) (fs : List Flt) : Int := if bsCode zs fs = 0 then bnd zs fs else 0
theorem bnd_rng (zs : List Int) (fs : List Flt) : bnd zs fs = 0 ∨ bnd zs fs = 1 ∨ bnd zs fs = 2 := by
  unfold bnd
  split
  · exact .inr (.inl rfl)
  · split
    · exact .inr (.inr rfl)
    · exact .inl rfl

set_option maxHeartbeats 4000000 in
theorem impl_any (A : Option Addr) (n c : Nat) (zs : List Int) (B : Option Addr) (m d : Nat) (fs : List Flt) (w : World) (h : RI w w.heap.size A n zs) (hn' : n ≤ 1099511627776) (hA : Pl A c) (hnc : n ≤ c) (hcm : c ≤ maxLen) (hf : RE encF 4 w w.heap.size B m fs) (hm' : m ≤ 1099511627776) :
    Calls Try.prog 110 #[.slice A n c, .slice B m d] w (RetV w (.tuple #[.int .i64 (val zs fs), .int .i64 (bsCode zs fs)])) := by
  obtain ⟨q, hq⟩ : ∃ q, bsCode zs fs = q := ⟨_, rfl⟩
  have HQ := Lib.hid hq
  by_cases h1 : q = 0
  case neg =>
    have h2 : (q != 0) = true := by simp [h1]
    have E1 := Lib.hid (show val zs fs = 0 from by unfold val; rw [hq, if_neg h1])
    clear hq h1
    go_enter Try.func110, Try.ntmps110
    go_wp2_with fail
    refine (scriptCode_any A B n c m d zs fs w h hn' hf hm').mono ?_
    rw [HQ.out]
    rintro e w1 ⟨rfl, hb1⟩
    go_wp2
    go_ret2
    rw [E1.out, HQ.out]
    exact ⟨rfl, hb1⟩
  subst h1
  obtain ⟨hbits, hscr⟩ := ApplyScript.bs_ok hq
  have HZ := Lib.hid hbits
  have HS := Lib.hid hscr
  have E1 := Lib.hid (show val zs fs = bnd zs fs from by unfold val; rw [hq, if_pos rfl])
  clear hq hbits hscr
  go_enter Try.func110, Try.ntmps110
  go_wp2_with fail
  refine (scriptCode_any A B n c m d zs fs w h hn' hf hm').mono ?_
  rw [HQ.out]
  rintro e w1 ⟨rfl, hb1⟩
  go_wp2_with fail
  refine (boundOf_any A n c zs B m d fs _ (h.up hb1) HZ.out hA hnc hcm (hf.up hb1) (isScript_all HS.out) hm').mono ?_
  rintro e w2 ⟨rfl, hb2⟩
  go_wp2
  go_ret2
  rw [E1.out, HQ.out]
  exact ⟨rfl, below_next hb2 hb1 (Nat.le_refl _)⟩
end BoundOf
namespace IsBounded
def val (zs : List Int) (fs : List Flt) : Bool := decide (bsCode zs fs = 0) && decide (0 < bnd zs fs)

set_option maxHeartbeats 4000000 in
theorem impl_any (A : Option Addr) (n c : Nat) (zs : List Int) (B : Option Addr) (m d : Nat) (fs : List Flt) (w : World) (h : RI w w.heap.size A n zs) (hn' : n ≤ 1099511627776) (hA : Pl A c) (hnc : n ≤ c) (hcm : c ≤ maxLen) (hf : RE encF 4 w w.heap.size B m fs) (hm' : m ≤ 1099511627776) :
    Calls Try.prog 112 #[.slice A n c, .slice B m d] w (RetV w (.bool (val zs fs))) := by
  obtain ⟨V, hV⟩ : ∃ V, val zs fs = V := ⟨_, rfl⟩
  rw [hV]
  have HV := Lib.hid hV
  clear hV
  obtain ⟨q, hq⟩ : ∃ q, bsCode zs fs = q := ⟨_, rfl⟩
  have HQ := Lib.hid hq
  by_cases h1 : q = 0
  case neg =>
    have h2 : (q == 0) = false := by simp [h1]
    have E1 := Lib.hid (show V = false from by rw [← HV.out]; unfold val; rw [hq]; simp [h1])
    clear hq h1
    go_enter Try.func112, Try.ntmps112
    go_wp2_with fail
    refine (scriptCode_any A B n c m d zs fs w h hn' hf hm').mono ?_
    rw [HQ.out]
    rintro e w1 ⟨rfl, hb1⟩
    go_wp2
    go_ret
    exact ⟨ret_bool E1.out.symm, hb1⟩
  subst h1
  obtain ⟨hbits, hscr⟩ := ApplyScript.bs_ok hq
  have HZ := Lib.hid hbits
  have HS := Lib.hid hscr
  obtain ⟨b, hb⟩ : ∃ b, bnd zs fs = b := ⟨_, rfl⟩
  have E1 := Lib.hid (show V = decide (0 < b) from by rw [← HV.out]; unfold val; rw [hq, hb]; rfl)
  have HBD := Lib.hid hb
  clear hq hbits hscr hb
  by_cases hp : 0 < b
  all_goals
    have HP := Lib.hid hp
    go_enter Try.func112, Try.ntmps112
    go_wp2_with fail
    refine (scriptCode_any A B n c m d zs fs w h hn' hf hm').mono ?_
    rw [HQ.out]
    rintro e w1 ⟨rfl, hb1⟩
    go_wp2_with fail
    refine (boundOf_any A n c zs B m d fs _ (h.up hb1) HZ.out hA hnc hcm (hf.up hb1) (isScript_all HS.out) hm').mono ?_
    rw [HBD.out]
    rintro e w2 ⟨rfl, hb2⟩
    go_wp2
    go_ret
    exact ⟨ret_bool (by rw [E1.out] <;> simp [HP.out]), below_next hb2 hb1 (Nat.le_refl _)⟩
end IsBounded
end Go.Proofs.Ytjehkjdehkdjcaa

namespace Go.Proofs.Ytjehkjdehkdjcaa
open Go.RowKit
set_option maxHeartbeats 4000000 in
theorem l26Bound_any (A : Option Addr) (n c : Nat) (zs : List Int) (B : Option Addr) (m d : Nat) (fs : List Flt) (w : World) (h : RI w w.heap.size A n zs) (hz : isBits zs = true) (hA : Pl A c) (hnc : n ≤ c) (hcm : c ≤ maxLen) (hf : RE encF 4 w w.heap.size B m fs) (hall : allF fs = true) (hm : m ≤ 1099511627776) :
    Calls Try.prog 184 #[.slice A n c, .slice B m d] w (RetV w (.int .i64 (bnd zs fs))) := by
  obtain ⟨V, hV⟩ : ∃ V, bnd zs fs = V := ⟨_, rfl⟩
  rw [hV]
  have HV := Lib.hid hV
  have HZ := Lib.hid hz
  have HA := Lib.hid hall
  have HPL := Lib.hid hA
  clear hV hz hall hA
  rcases bool_cases (spaced fs 6 && allFl fs) with h1 | h1
  case inl =>
    have H1 := Lib.hid h1
    have HW := Lib.hid (show V = 1 from by rw [← HV.out]; unfold bnd; rw [if_pos h1])
    clear h1
    go_enter Try.func184, Try.ntmps184
    go_wp2_with fail
    refine (l26Flips_any B m d fs w hf hm HA.out).mono ?_
    rw [H1.out]
    rintro e w1 ⟨rfl, hb1⟩
    go_wp2
    go_ret
    exact ⟨ret_int HW.out.symm, hb1⟩
  rcases bool_cases (spaced fs 160 && wit zs fs) with h2 | h2
  all_goals
    have H1 := Lib.hid h1
    have H2 := Lib.hid h2
    have HW := Lib.hid (show V = if (spaced fs 160 && wit zs fs) = true then 2 else 0 from by rw [← HV.out]; unfold bnd; rw [h1]; rfl)
    clear h1 h2
    go_enter Try.func184, Try.ntmps184
    go_wp2_with fail
    refine (l26Flips_any B m d fs w hf hm HA.out).mono ?_
    rw [H1.out]
    rintro e w1 ⟨rfl, hb1⟩
    go_wp2_with fail
    refine (l26Slips_any A n c zs B m d fs _ (h.up hb1) HZ.out HPL.out hnc hcm (hf.up hb1) HA.out hm).mono ?_
    rw [H2.out]
    rintro e w2 ⟨rfl, hb2⟩
    go_wp2
    go_ret
    exact ⟨ret_int (by rw [HW.out, H2.out]; rfl), below_next hb2 hb1 (Nat.le_refl _)⟩
namespace BoundOf
set_option maxHeartbeats 4000000 in
theorem spec_any (A : Option Addr) (n c : Nat) (zs : List Int) (B : Option Addr) (m d : Nat) (fs : List Flt) (w : World) (h : RI w w.heap.size A n zs) (hn' : n ≤ 1099511627776) (hA : Pl A c) (hnc : n ≤ c) (hcm : c ≤ maxLen) (hf : RE encF 4 w w.heap.size B m fs) (hm' : m ≤ 1099511627776) :
    Calls Try.prog 111 #[.slice A n c, .slice B m d] w (RetV w (.tuple #[.int .i64 (val zs fs), .int .i64 (bsCode zs fs)])) := by
  obtain ⟨q, hq⟩ : ∃ q, bsCode zs fs = q := ⟨_, rfl⟩
  have HQ := Lib.hid hq
  by_cases h1 : q = 0
  case neg =>
    have h2 : (q != 0) = true := by simp [h1]
    have E1 := Lib.hid (show val zs fs = 0 from by unfold val; rw [hq, if_neg h1])
    clear hq h1
    go_enter Try.func111, Try.ntmps111
    go_wp2_with fail
    refine (l26Code_any A B n c m d zs fs w h hn' hf hm').mono ?_
    rw [HQ.out]
    rintro e w1 ⟨rfl, hb1⟩
    go_wp2
    go_ret2
    rw [E1.out, HQ.out]
    exact ⟨rfl, hb1⟩
  subst h1
  obtain ⟨hbits, hscr⟩ := ApplyScript.bs_ok hq
  have HZ := Lib.hid hbits
  have HS := Lib.hid hscr
  have E1 := Lib.hid (show val zs fs = bnd zs fs from by unfold val; rw [hq, if_pos rfl])
  clear hq hbits hscr
  go_enter Try.func111, Try.ntmps111
  go_wp2_with fail
  refine (l26Code_any A B n c m d zs fs w h hn' hf hm').mono ?_
  rw [HQ.out]
  rintro e w1 ⟨rfl, hb1⟩
  go_wp2_with fail
  refine (l26Bound_any A n c zs B m d fs _ (h.up hb1) HZ.out hA hnc hcm (hf.up hb1) (isScript_all HS.out) hm').mono ?_
  rintro e w2 ⟨rfl, hb2⟩
  go_wp2
  go_ret2
  rw [E1.out, HQ.out]
  exact ⟨rfl, below_next hb2 hb1 (Nat.le_refl _)⟩
end BoundOf
namespace IsBounded
set_option maxHeartbeats 4000000 in
theorem spec_any (A : Option Addr) (n c : Nat) (zs : List Int) (B : Option Addr) (m d : Nat) (fs : List Flt) (w : World) (h : RI w w.heap.size A n zs) (hn' : n ≤ 1099511627776) (hA : Pl A c) (hnc : n ≤ c) (hcm : c ≤ maxLen) (hf : RE encF 4 w w.heap.size B m fs) (hm' : m ≤ 1099511627776) :
    Calls Try.prog 113 #[.slice A n c, .slice B m d] w (RetV w (.bool (val zs fs))) := by
  obtain ⟨V, hV⟩ : ∃ V, val zs fs = V := ⟨_, rfl⟩
  rw [hV]
  have HV := Lib.hid hV
  clear hV
  obtain ⟨q, hq⟩ : ∃ q, bsCode zs fs = q := ⟨_, rfl⟩
  have HQ := Lib.hid hq
  by_cases h1 : q = 0
  case neg =>
    have h2 : (q == 0) = false := by simp [h1]
    have E1 := Lib.hid (show V = false from by rw [← HV.out]; unfold val; rw [hq]; simp [h1])
    clear hq h1
    go_enter Try.func113, Try.ntmps113
    go_wp2_with fail
    refine (l26Code_any A B n c m d zs fs w h hn' hf hm').mono ?_
    rw [HQ.out]
    rintro e w1 ⟨rfl, hb1⟩
    go_wp2
    go_ret
    exact ⟨ret_bool E1.out.symm, hb1⟩
  subst h1
  obtain ⟨hbits, hscr⟩ := ApplyScript.bs_ok hq
  have HZ := Lib.hid hbits
  have HS := Lib.hid hscr
  obtain ⟨b, hb⟩ : ∃ b, bnd zs fs = b := ⟨_, rfl⟩
  have E1 := Lib.hid (show V = decide (0 < b) from by rw [← HV.out]; unfold val; rw [hq, hb]; rfl)
  have HBD := Lib.hid hb
  clear hq hbits hscr hb
  by_cases hp : 0 < b
  all_goals
    have HP := Lib.hid hp
    go_enter Try.func113, Try.ntmps113
    go_wp2_with fail
    refine (l26Code_any A B n c m d zs fs w h hn' hf hm').mono ?_
    rw [HQ.out]
    rintro e w1 ⟨rfl, hb1⟩
    go_wp2_with fail
    refine (l26Bound_any A n c zs B m d fs _ (h.up hb1) HZ.out hA hnc hcm (hf.up hb1) (isScript_all HS.out) hm').mono ?_
    rw [HBD.out]
    rintro e w2 ⟨rfl, hb2⟩
    go_wp2
    go_ret
    exact ⟨ret_bool (by rw [E1.out] <;> simp [HP.out]), below_next hb2 hb1 (Nat.le_refl _)⟩
end IsBounded
end Go.Proofs.Ytjehkjdehkdjcaa

namespace Go.Proofs.Ytjehkjdehkdjcaa
open Go.RowKit
theorem less_any (x y : Int) (w : World) :
    Calls Try.prog 214 #[.int .i64 x, .int .i64 y] w fun e w' => e = .returned (.bool (decide (x < y))) ∧ w = w' := by
  by_cases h : x < y
  all_goals
    go_enter Try.func214, Try.ntmps214
    go_wp2
    go_ret
    exact ⟨ret_bool (by simp [h]), rfl⟩
theorem nan_any (x : Int) (w : World) :
    Calls Try.prog 215 #[.int .i64 x] w fun e w' => e = .returned (.bool false) ∧ w = w' := by
  go_enter Try.func215, Try.ntmps215
  go_wp2
  go_ret
  exact ⟨ret_bool (by simp), rfl⟩

theorem bool_cases2 (b : Bool) : b = true ∨ b = false := by cases b <;> simp
/-- what a search finds -/
def fnd (n : Nat) (xs : List Int) (t : Int) (i : Nat) : Bool := decide (i < n ∧ gi xs i = t)
def Found (xs : List Int) (t : Int) (i : Nat) : Prop := i ≤ xs.length ∧ (∀ k, k < i → gi xs k < t) ∧ ∀ k, i ≤ k → k < xs.length → t ≤ gi xs k

set_option maxHeartbeats 4000000 in
theorem search_any (A : Option Addr) (n c : Nat) (xs : List Int) (t : Int) (w : World) (h : RI w w.heap.size A n xs) (hn : n ≤ 1099511627776) (hs : ∀ i j, i < j → j < n → gi xs i < gi xs j) :
    Calls Try.prog 157 #[.slice A n c, .int .i64 t] w fun e w' => ∃ i : Nat, Found xs t i ∧ e = .returned (.tuple #[.int .i64 i, .bool (fnd n xs t i)]) ∧ w = w' := by
  have L := Lib.hid h.len
  have HS := Lib.hid hs
  clear hs
  go_enter Try.func157, Try.ntmps157
  go_wp2
  go_loop [7, 8] (fun i j => ∃ a b : Nat, i = .int .i64 a ∧ j = .int .i64 b ∧ a ≤ b ∧ b ≤ n ∧ Hid (∀ k, k < a → gi xs k < t) ∧ Hid (∀ k, b ≤ k → k < n → t ≤ gi xs k)) (fun i j => (intOf j).toNat - (intOf i).toNat)
  case atStart => exact ⟨0, n, rfl, rfl, Nat.zero_le _, Nat.le_refl _, fun k hk => absurd hk (by omega), fun k h1 h2 => absurd h1 (by omega)⟩
  case round =>
    obtain ⟨a, b, rfl, rfl, hab, hbn, HA, HB⟩ := hrel
    by_cases hlt : a < b
    · obtain ⟨blk, o, rfl, _, hc⟩ := h.get (by omega)
      have HC := Lib.hid hc
      clear hc
      have hcell := HC.out ((a + b) / 2) (by omega)
      obtain ⟨x, hx⟩ : ∃ x, gi xs ((a + b) / 2) = x := ⟨_, rfl⟩
      rw [hx] at hcell
      have HX := Lib.hid hx
      clear hx
      rcases bool_cases2 (decide (x < t)) with hd | hd
      · have HD := Lib.hid hd
        go_wp2_with fail
        refine (less_any x t w).mono ?_
        rw [HD.out]
        rintro e w' ⟨rfl, rfl⟩
        clear hcell
        go_wp2
        go_round
        case rel => exact ⟨(a + b) / 2 + 1, b, congrArg (Value.int .i64) (by omega), rfl, by omega, hbn, fun k hk => by
            have h1 := of_decide_eq_true HD.out
            rw [← HX.out] at h1
            rcases Nat.lt_or_ge k ((a + b) / 2) with h2 | h2
            · exact Int.lt_trans (HS.out k _ h2 (by omega)) h1
            · rw [show k = (a + b) / 2 by omega]; exact h1, HB⟩
        case measure => simp [intOf]; omega
      · have HD := Lib.hid hd
        go_wp2_with fail
        refine (less_any x t w).mono ?_
        rw [HD.out]
        rintro e w' ⟨rfl, rfl⟩
        clear hcell
        go_wp2
        go_round
        case rel => exact ⟨a, (a + b) / 2, rfl, congrArg (Value.int .i64) (by omega), by omega, by omega, HA, fun k h1 h2 => by
            have h3 := of_decide_eq_false HD.out
            rw [← HX.out] at h3
            rcases Nat.lt_or_ge ((a + b) / 2) k with h4 | h4
            · have := HS.out _ k h4 h2; omega
            · rw [show k = (a + b) / 2 by omega]; omega⟩
        case measure => simp [intOf]; omega
    · obtain rfl : a = b := by omega
      have HF := Lib.hid (show Found xs t a from ⟨by rw [L.out]; exact hbn, HA.out, fun k h1 h2 => HB.out k h1 (by rw [L.out] at h2; exact h2)⟩)
      by_cases han : a < n
      · obtain ⟨blk, o, rfl, _, hc⟩ := h.get (by omega)
        have hcell := hc a han
        clear hc
        obtain ⟨x, hx⟩ : ∃ x, gi xs a = x := ⟨_, rfl⟩
        rw [hx] at hcell
        by_cases hxt : x = t
        · have hb : (x == t) = true := by simp [hxt]
          have HR := Lib.hid (show fnd n xs t a = true from by unfold fnd; rw [hx]; simp [han, hxt])
          clear hx hxt
          go_wp2
          go_ret2
          exact ⟨a, HF.out, by rw [HR.out]; rfl, rfl⟩
        · have hb : (x == t) = false := by simp [hxt]
          have HR := Lib.hid (show fnd n xs t a = false from by unfold fnd; rw [hx]; simp [hxt])
          clear hx hxt
          go_wp2_with fail
          refine (nan_any x w).mono ?_
          rintro e w' ⟨rfl, rfl⟩
          go_wp2
          go_ret2
          exact ⟨a, HF.out, by rw [HR.out]; rfl, rfl⟩
      · have HR := Lib.hid (show fnd n xs t a = false from by unfold fnd; simp [han])
        go_wp2
        go_ret2
        exact ⟨a, HF.out, by rw [HR.out]; rfl, rfl⟩
end Go.Proofs.Ytjehkjdehkdjcaa

namespace Go.Proofs.Ytjehkjdehkdjcaa
open Go.RowKit

theorem posF_rise (ms : List Int) (n : Nat) : ∀ i j, i < j → j < (posF ms 0 n).length → gi (posF ms 0 n) i < gi (posF ms 0 n) j := by
  have hp : (posF ms 0 n).Pairwise (· < ·) := by
    unfold posF
    rw [List.pairwise_map]
    refine List.Pairwise.imp (fun {a b} (h : a < b) => by omega) (List.Pairwise.filter _ (List.pairwise_lt_range'))
  intro i j hij hj
  rw [gi_lt (by omega), gi_lt hj]
  exact List.pairwise_iff_getElem.1 hp i j (by omega) hj hij

section
variable {ms : List Int} {q i : Nat}
theorem gi_app_ge {xs ys : List Int} {k : Nat} (h : xs.length ≤ k) : gi (xs ++ ys) k = gi ys (k - xs.length) := by
  unfold gi
  rw [List.getD_eq_getElem?_getD, List.getElem?_append_right h, List.getD_eq_getElem?_getD]
theorem posF_ge {a n k : Nat} (h : k < (posF ms a n).length) : (a : Int) ≤ gi (posF ms a n) k ∧ gi (posF ms a n) k < (a : Int) + (n : Int) := posF_lt (mem_gi h)
theorem found_at (hq : q < 8193) (h : Found (posF ms 0 8193) q i) : i = (posF ms 0 q).length := by
  obtain ⟨h1, h2, h3⟩ := h
  have hsp := posF_split ms q 8193 hq
  rcases Nat.lt_trichotomy i (posF ms 0 q).length with h | h | h
  · exfalso
    have h4 := h3 i (Nat.le_refl _) (by rw [hsp, List.length_append]; omega)
    rw [hsp, gi_app_lt h] at h4
    have := (posF_ge h).2
    omega
  · exact h
  · exfalso
    have h4 := h2 _ h
    have hl : (posF ms 0 q).length < (posF ms 0 8193).length := by omega
    rw [hsp, gi_app_ge (Nat.le_refl _), Nat.sub_self] at h4
    rw [hsp, List.length_append] at hl
    by_cases hm : gi ms q = 1
    · rw [if_pos hm] at h4
      simp [gi] at h4
    · rw [if_neg hm, List.nil_append] at h4 hl
      have := (posF_ge (ms := ms) (a := q + 1) (n := 8193 - (q + 1)) (k := 0) (by omega)).1
      omega
theorem fnd_at (hq : q < 8193) : fnd (posF ms 0 8193).length (posF ms 0 8193) q (posF ms 0 q).length = decide (gi ms q = 1) := by
  have hsp := posF_split ms q 8193 hq
  unfold fnd
  by_cases hm : gi ms q = 1
  · rw [if_pos hm] at hsp
    have h1 : (posF ms 0 q).length < (posF ms 0 8193).length := by rw [hsp]; simp
    have h2 : gi (posF ms 0 8193) (posF ms 0 q).length = q := by
      rw [hsp, gi_app_ge (Nat.le_refl _), Nat.sub_self]; rfl
    simp [h1, h2, hm]
  · rw [if_neg hm, List.nil_append] at hsp
    simp only [hm, decide_false, decide_eq_false_iff_not]
    rintro ⟨h1, h2⟩
    rw [hsp, gi_app_ge (Nat.le_refl _), Nat.sub_self] at h2
    rw [hsp, List.length_append] at h1
    have := (posF_ge (ms := ms) (a := q + 1) (n := 8193 - (q + 1)) (k := 0) (by omega)).1
    omega
theorem posF_del (hq : q < 8193) (hl : ms.length = 8193) (hm : gi ms q = 1) :
    (posF ms 0 8193).take (posF ms 0 q).length ++ (posF ms 0 8193).drop ((posF ms 0 q).length + 1) = posF (togM ms q) 0 8193 := by
  rw [posF_tog hq (by omega) (.inr hm), if_pos hm, posF_split ms q 8193 hq, if_pos hm, List.take_left]
  congr 1
  rw [List.drop_append, List.drop_of_length_le (by omega), List.nil_append, Nat.add_sub_cancel_left]
  rfl
theorem posF_ins (hq : q < 8193) (hl : ms.length = 8193) (hm : gi ms q = 0) :
    (posF ms 0 8193).take (posF ms 0 q).length ++ [(q : Int)] ++ (posF ms 0 8193).drop (posF ms 0 q).length = posF (togM ms q) 0 8193 := by
  have h1 : gi ms q ≠ 1 := by omega
  rw [posF_tog hq (by omega) (.inl hm), if_neg h1, posF_split ms q 8193 hq, if_neg h1, List.nil_append, List.take_left, List.drop_left, List.append_assoc]
end

theorem lies_new (w : World) (X : Obj) (t : TypeId) (z : Int) : Lies ((w.alloc X).alloc (.cells #[.int .i64 z] t)) (w.heap.size + 1) 0 1 [z] := by
  have h := new_heap (w.alloc X) (.cells #[.int .i64 z] t)
  rw [isz_alloc] at h
  refine ⟨rfl, ⟨_, _, h⟩, fun j hj => ?_⟩
  obtain rfl : j = 0 := by omega
  unfold World.cell?
  rw [show (⟨w.heap.size + 1, 0 + 0, none⟩ : Addr).block = w.heap.size + 1 from rfl, h]
  rfl
namespace FlipsOf
theorem isScript_parts {fs : List Flt} (h : isScript fs = true) : fs.length ≤ 30 ∧ allF fs = true := by
  unfold isScript at h; simpa only [Bool.and_eq_true, decide_eq_true_eq] using h
theorem pos_parts {fs : List Flt} (h : allF fs = true) {k : Nat} (hk : k < fs.length) : ∃ q : Nat, (ge fs k).pos = q ∧ q < 8193 := by
  have := allF_ge h hk
  unfold isFault at this
  simp only [Bool.and_eq_true] at this
  have h2 := inR_iff.1 this.2.1
  exact ⟨(ge fs k).pos.toNat, by omega, by omega⟩

set_option maxRecDepth 20000 in
set_option maxHeartbeats 8000000 in
theorem impl_any (A : Option Addr) (m c : Nat) (fs : List Flt) (w : World) (h : RE encF 4 w w.heap.size A m fs) (hm : m ≤ 1099511627776) :
    Calls Try.prog 66 #[.slice A m c] w (RetIC 2 w (res fs) (cod fs)) := by
  have L := Lib.hid h.len
  rcases bool_cases (isScript fs) with hz | hz
  case inr =>
    have E1 := Lib.hid (show res fs = [] from by simp [res, hz])
    have E2 := Lib.hid (show cod fs = 2 from by simp [cod, hz])
    go_enter Try.func66, Try.ntmps66
    go_wp2_with fail
    refine (iIsScript_any A m c fs w h hm).mono ?_
    rw [hz]
    rintro e w1 ⟨rfl, hb1⟩
    go_wp2
    go_ret2
    rw [E1.out, E2.out]
    exact ⟨none, 0, 0, rfl, OwnI.nil _ _ _, hb1⟩
  have HSP := Lib.hid (isScript_parts hz)
  have HZ := Lib.hid hz
  clear hz
  go_enter Try.func66, Try.ntmps66
  go_wp2_with fail
  refine (iIsScript_any A m c fs w h hm).mono ?_
  rw [HZ.out]
  rintro e w1 ⟨rfl, hb1⟩
  have hown0 : OwnI 2 (w1.alloc (.cells #[] 2)) w.heap.size (some ⟨w1.heap.size, 0, none⟩) 0 0 [] := OwnI.empty w1 hb1.size
  have hb0 : Below w.heap.size w (w1.alloc (.cells #[] 2)) := hb1.alloc hb1.size _
  go_wp2_with fail
  go_loopw [4, 15] (fun o i wr => ∃ (k n' : Nat) (A' : Option Addr) (c' : Nat), k ≤ m ∧ i = .int .i64 k ∧ o = .slice A' n' c' ∧ OwnI 2 wr w.heap.size A' n' c' (posF (marksOf (fs.take k)) 0 8193) ∧ allFl (fs.take k) = true ∧ Below w.heap.size w wr) (fun _ i _ => m - (intOf i).toNat)
  case atStart =>
    refine ⟨0, 0, _, 0, Nat.zero_le _, rfl, rfl, ?_, rfl, hb0⟩
    have : posF (marksOf (fs.take 0)) 0 8193 = [] := by
      have h0 : ∀ n, n ≤ 8193 → posF (List.replicate 8193 0) 0 n = [] := by
        intro n
        induction n with
        | zero => intro _; exact posF_zero _ _
        | succ n ih =>
          intro hn
          rw [posF_succ, ih (by omega), Nat.zero_add]
          have : gi (List.replicate 8193 (0 : Int)) n = 0 := by
            unfold gi
            rw [List.getD_eq_getElem?_getD, List.getElem?_replicate, if_pos (by omega)]; rfl
          rw [this]; rfl
      exact h0 8193 (Nat.le_refl _)
    rw [this]; exact hown0
  case round =>
    obtain ⟨k, n', A', c', hk, rfl, rfl, hown, hfl, hb⟩ := hrel
    have HO := Lib.hid hown
    have HFL := Lib.hid hfl
    have hn8 : n' ≤ 8193 := by rw [← hown.len]; exact posF_len _ _ _
    clear hown hfl
    by_cases hlt : k < m
    · obtain ⟨b, o, rfl, hbl, hc⟩ := (h.below hb (Nat.le_refl _)).get (by omega)
      have hc0 := hc k hlt 0 _ rfl
      have hc1 := hc k hlt 1 _ rfl
      have hc2 := hc k hlt 2 _ rfl
      have hc3 := hc k hlt 3 _ rfl
      clear hc
      rw [Nat.add_zero] at hc0
      obtain ⟨kd, hkd⟩ : ∃ x, (ge fs k).kd = x := ⟨_, rfl⟩
      rw [hkd] at hc0
      have HK := Lib.hid hkd
      clear hkd
      by_cases h1 : kd = 1
      case neg =>
        have hb1 : (kd != 1) = true := by simp [h1]
        have HN := Lib.hid (show allFl fs = false from allFl_no (by rw [L.out]; exact hlt) (by rw [HK.out]; exact h1))
        have E1 := Lib.hid (show res fs = [] from by simp [res, HN.out])
        have E2 := Lib.hid (show cod fs = 5 from by simp [cod, HN.out, HZ.out])
        clear h1
        go_wp2
        go_ret2
        rw [E1.out, E2.out]
        exact ⟨none, 0, 0, rfl, OwnI.nil _ _ _, below_alloc hb (Nat.le_refl _) _⟩
      subst h1
      have HF1 := Lib.hid (show allFl (fs.take (k + 1)) = true from by rw [allFl_take (by rw [L.out]; exact hlt), HFL.out, HK.out]; rfl)
      obtain ⟨q, hq, hq3⟩ := pos_parts HSP.out.2 (k := k) (by rw [L.out]; exact hlt)
      rw [hq] at hc1
      have ST := Lib.hid (show marksOf (fs.take (k + 1)) = togM (marksOf (fs.take k)) q from by rw [marksOf_take (by rw [L.out]; exact hlt), hq]; rfl)
      clear hq
      obtain ⟨ms, hms⟩ : ∃ ms, marksOf (fs.take k) = ms := ⟨_, rfl⟩
      have hml : ms.length = 8193 := by rw [← hms]; exact marksOf_len _
      have hmb : gi ms q = 0 ∨ gi ms q = 1 := by rw [← hms]; exact marksOf_bit _ hq3
      rw [hms] at HO ST
      have HML := Lib.hid hml
      clear hms hml
      have HB := Lib.hid hb
      clear hb
      go_wp2_with fail
      refine (search_any A' n' c' (posF ms 0 8193) q _ (by exact (HO.out.alloc _).reads) (by omega) (by intro i j h1 h2; exact posF_rise ms 8193 i j h1 (by rw [HO.out.len]; exact h2))).mono ?_
      rintro e w2 ⟨i, hfd, rfl, rfl⟩
      have hi := found_at hq3 hfd
      have hln := HO.out.len
      have hi2 : i ≤ n' := by rw [← hln]; exact hfd.1
      have HI := Lib.hid hi
      rcases hmb with hm0 | hm1
      · have HV := Lib.hid (show fnd n' (posF ms 0 8193) q i = false from by rw [← hln, hi, fnd_at hq3, hm0]; rfl)
        have HM := Lib.hid hm0
        clear hm0 hi hln hfd
        rw [HV.out]
        go_wp2_with fail
        refine (insert_any A' n' c' i (wr.heap.size + 1) 0 1 1 w.heap.size (posF ms 0 8193) [(q : Int)] _ (by exact (HO.out.alloc _).alloc _) (by exact lies_new _ _ _ _) (by intro g e; have := (own_row HO.out g e).2; omega) hi2 (by omega) (by simp only [isz_alloc]; have := HB.out.size; omega)).mono ?_
        rintro e w3 ⟨A3, c3, rfl, hown3, hg3⟩
        have HO3 := Lib.hid hown3
        have HG3 := Lib.hid hg3
        clear hown3 hg3
        obtain ⟨n3, hn3⟩ : ∃ n3, n' + 1 = n3 := ⟨_, rfl⟩
        rw [hn3] at HO3 ⊢
        clear hn3
        go_wp2
        go_roundw
        case rel =>
          have e3 := HO3.out
          rw [HI.out, posF_ins hq3 HML.out HM.out] at e3
          exact ⟨k + 1, n3, A3, c3, by omega, by go_num, rfl, by rw [ST.out]; exact e3, HF1.out, (below_alloc (below_alloc HB.out (Nat.le_refl _) _) (Nat.le_refl _) _).grown HG3.out (Nat.le_trans HB.out.size (by rw [isz_alloc, isz_alloc]; omega)) (fun g e => (own_row HO.out g e).1)⟩
        case measure => simp [intOf]; omega
      · have HV := Lib.hid (show fnd n' (posF ms 0 8193) q i = true from by rw [← hln, hi, fnd_at hq3, hm1]; rfl)
        have HM := Lib.hid hm1
        have hi3 : i + 1 ≤ n' := by
          have := HV.out
          unfold fnd at this
          have := of_decide_eq_true this
          omega
        clear hm1 hi hln hfd
        rw [HV.out]
        go_wp2_with fail
        refine (delete_any A' n' c' i (i + 1) w.heap.size (posF ms 0 8193) _ (by exact HO.out.alloc _) (by omega) hi3 (by omega)).mono ?_
        rintro e w3 ⟨rfl, hown3, hg3⟩
        have HO3 := Lib.hid hown3
        have HG3 := Lib.hid hg3
        clear hown3 hg3
        obtain ⟨n3, hn3⟩ : ∃ n3, n' - (i + 1 - i) = n3 := ⟨_, rfl⟩
        rw [hn3] at HO3 ⊢
        clear hn3
        go_wp2
        go_roundw
        case rel =>
          have e3 := HO3.out
          rw [HI.out, posF_del hq3 HML.out HM.out] at e3
          exact ⟨k + 1, n3, A', c', by omega, by go_num, rfl, by rw [ST.out]; exact e3, HF1.out, (below_alloc HB.out (Nat.le_refl _) _).grown HG3.out (Nat.le_trans HB.out.size (by rw [isz_alloc]; omega)) (fun g e => (own_row HO.out g e).1)⟩
        case measure => simp [intOf]; omega
    · have hkm : k = m := by omega
      have HK := Lib.hid (show fs.take k = fs by rw [List.take_of_length_le (by rw [L.out]; omega)])
      have HA := Lib.hid (show allFl fs = true from by have := HFL.out; rwa [HK.out] at this)
      have E1 := Lib.hid (show res fs = posF (marksOf fs) 0 8193 from by simp [res, HZ.out, HA.out])
      have E2 := Lib.hid (show cod fs = 0 from by simp [cod, HZ.out, HA.out])
      clear hkm
      go_wp2
      go_ret2
      rw [E1.out, E2.out]
      have := HO.out
      rw [HK.out] at this
      exact ⟨_, _, _, rfl, this, hb⟩

set_option maxRecDepth 200000 in
set_option maxHeartbeats 8000000 in
theorem spec_any (A : Option Addr) (m c : Nat) (fs : List Flt) (w : World) (h : RE encF 4 w w.heap.size A m fs) (hm : m ≤ 1099511627776) :
    Calls Try.prog 67 #[.slice A m c] w (RetIC 2 w (res fs) (cod fs)) := by
  have L := Lib.hid h.len
  rcases bool_cases (isScript fs) with hz | hz
  case inr =>
    have E1 := Lib.hid (show res fs = [] from by simp [res, hz])
    have E2 := Lib.hid (show cod fs = 2 from by simp [cod, hz])
    go_enter Try.func67, Try.ntmps67
    go_wp2_with fail
    refine (sIsScript_any A m c fs w h hm).mono ?_
    rw [hz]
    rintro e w1 ⟨rfl, hb1⟩
    go_wp2
    go_ret2
    rw [E1.out, E2.out]
    exact ⟨none, 0, 0, rfl, OwnI.nil _ _ _, hb1⟩
  have HSP := Lib.hid (isScript_parts hz)
  have HZ := Lib.hid hz
  clear hz
  go_enter Try.func67, Try.ntmps67
  go_wp2_with fail
  refine (sIsScript_any A m c fs w h hm).mono ?_
  rw [HZ.out]
  rintro e w1 ⟨rfl, hb1⟩
  go_wp2_with (at_make; refine wpl_make _ Try.underlying24 infoInt rfl _ _ rfl 8193 (by rfl) (by rfl) (by omega) ?_; intro w2 hown2 hg2)
  obtain ⟨g, hg⟩ : ∃ g, w1.heap.size = g := ⟨_, rfl⟩
  rw [hg] at hown2 ⊢
  have hgb : w.heap.size ≤ g := by rw [← hg]; exact hb1.size
  have hb2 : Below w.heap.size w w2 := hb1.grown hg2 hb1.size (fun g e => by cases e)
  clear hg hg2 hb1
  go_loopw [5] (fun i wr => ∃ k : Nat, k ≤ m ∧ i = .int .i64 k ∧ Hid (OwnI 2 wr w.heap.size (some ⟨g, 0, none⟩) 8193 8193 (marksOf (fs.take k))) ∧ allFl (fs.take k) = true ∧ Below w.heap.size w wr) (fun i _ => m - (intOf i).toNat)
  case atStart => exact ⟨0, Nat.zero_le _, rfl, hown2.weaken hgb, rfl, hb2⟩
  case round =>
    obtain ⟨k, hk, rfl, HO, hfl, hb⟩ := hrel
    have HFL := Lib.hid hfl
    clear hfl
    by_cases hlt : k < m
    · obtain ⟨b, o, rfl, hbl, hc⟩ := (h.below hb (Nat.le_refl _)).get (by omega)
      have hc0 := hc k hlt 0 _ rfl
      have hc1 := hc k hlt 1 _ rfl
      clear hc
      rw [Nat.add_zero] at hc0
      obtain ⟨kd, hkd⟩ : ∃ x, (ge fs k).kd = x := ⟨_, rfl⟩
      rw [hkd] at hc0
      have HK := Lib.hid hkd
      clear hkd
      by_cases h1 : kd = 1
      case neg =>
        have hb1 : (kd != 1) = true := by simp [h1]
        have HN := Lib.hid (show allFl fs = false from allFl_no (by rw [L.out]; exact hlt) (by rw [HK.out]; exact h1))
        have E1 := Lib.hid (show res fs = [] from by simp [res, HN.out])
        have E2 := Lib.hid (show cod fs = 5 from by simp [cod, HN.out, HZ.out])
        clear h1
        go_wp2
        go_ret2
        rw [E1.out, E2.out]
        exact ⟨none, 0, 0, rfl, OwnI.nil _ _ _, hb⟩
      subst h1
      have HF1 := Lib.hid (show allFl (fs.take (k + 1)) = true from by rw [allFl_take (by rw [L.out]; exact hlt), HFL.out, HK.out]; rfl)
      obtain ⟨q, hq, hq3⟩ := pos_parts HSP.out.2 (k := k) (by rw [L.out]; exact hlt)
      rw [hq] at hc1
      have ST := Lib.hid (show marksOf (fs.take (k + 1)) = togM (marksOf (fs.take k)) q from by rw [marksOf_take (by rw [L.out]; exact hlt), hq]; rfl)
      clear hq
      obtain ⟨ms, hms⟩ : ∃ ms, marksOf (fs.take k) = ms := ⟨_, rfl⟩
      have hmb : gi ms q = 0 ∨ gi ms q = 1 := by rw [← hms]; exact marksOf_bit _ hq3
      rw [hms] at HO ST
      clear hms
      have hcell := HO.out.cell hq3
      have hfr := HO.out.frozen q
      obtain ⟨x, hx⟩ : ∃ x, gi ms q = x := ⟨_, rfl⟩
      rw [hx] at hcell hmb
      have hx0 : 0 ≤ x := by omega
      have hx1 : x ≤ 1 := by omega
      have HX := Lib.hid hx
      have HB := Lib.hid hb
      have hgq : g < wr.heap.size := (HO.out.block g 0 rfl).2.2
      have hqi : (q : Int) < 8193 := by omega
      have hw1 : IntKind.i64.wrap (1 - x) = 1 - x := IntWalk.i64_in _ (by omega)
      clear hx hmb hb
      go_wp2_with fail
      go_region
      all_goals
        clear hw1
        go_wp2_with fail
        go_roundw
        case rel =>
          have st := HO.out.stored q (1 - x)
          rw [← HX.out] at st
          exact ⟨k + 1, by omega, by go_num, by rw [ST.out]; rw [← HX.out]; exact st.1, HF1.out, by first | exact HB.out.drew.setCell (p := ⟨g, q, none⟩) hgb _ | exact HB.out.setCell (p := ⟨g, q, none⟩) hgb _⟩
        case measure => simp [intOf]; omega
    · have hkm : k = m := by omega
      have HK := Lib.hid (show fs.take k = fs by rw [List.take_of_length_le (by rw [L.out]; omega)])
      have HA := Lib.hid (show allFl fs = true from by have := HFL.out; rwa [HK.out] at this)
      have E1 := Lib.hid (show res fs = posF (marksOf fs) 0 8193 from by simp [res, HZ.out, HA.out])
      have E2 := Lib.hid (show cod fs = 0 from by simp [cod, HZ.out, HA.out])
      rw [HK.out] at HO
      obtain ⟨ms, hms⟩ : ∃ ms, marksOf fs = ms := ⟨_, rfl⟩
      rw [hms] at HO E1
      clear hkm hms
      go_wp2_with fail
      go_loopw [6, 7] (fun o i wr' => ∃ (k n' : Nat) (A' : Option Addr) (c' : Nat), k ≤ 8193 ∧ i = .int .i64 k ∧ o = .slice A' n' c' ∧ OwnI 2 wr' wr.heap.size A' n' c' (posF ms 0 k) ∧ Below wr.heap.size wr wr') (fun _ i _ => 8193 - (intOf i).toNat)
      case atStart => exact ⟨0, 0, some ⟨wr.heap.size, 0, none⟩, 0, Nat.zero_le _, rfl, rfl, by rw [posF_zero]; exact OwnI.empty _ (Nat.le_refl _), (Below.refl _ _).alloc (Nat.le_refl _) _⟩
      case round =>
        obtain ⟨j, n', A', c', hj, rfl, rfl, hown', hb'⟩ := hrel
        have hn8 : n' ≤ j := by rw [← hown'.len]; exact posF_len _ _ _
        by_cases hlt2 : j < 8193
        · have hji : (j : Int) < 8193 := by omega
          have hcell := (HO.out.below hb').cell hlt2
          have HS := Lib.hid (posF_succ ms 0 j)
          obtain ⟨x, hx⟩ : ∃ x, gi ms j = x := ⟨_, rfl⟩
          rw [hx] at hcell
          have HX := Lib.hid hx
          clear hx
          by_cases hx1 : x = 1
          · have hb1 : (x == 1) = true := by simp [hx1]
            have HS2 := Lib.hid (show posF ms 0 (j + 1) = posF ms 0 j ++ [(j : Int)] from by rw [HS.out, Nat.zero_add, HX.out, if_pos hx1])
            clear hx1
            go_wp2_with (at_builtin; refine wpl_appI _ _ Try.underlying24 infoInt rfl _ _ rfl _ _ n' _ _ rfl hown' (j : Int) rfl (by omega) hb'.size ?_; intro A2 c2 w2 hown2 hB2 hg2)
            go_roundw
            case rel => exact ⟨j + 1, n' + 1, A2, c2, by omega, by go_num, rfl, by rw [HS2.out]; exact hown2, hb'.trans (hB2 _ (Nat.le_refl _))⟩
            case measure => simp [intOf]; omega
          · have hb1 : (x == 1) = false := by simp [hx1]
            have HS2 := Lib.hid (show posF ms 0 (j + 1) = posF ms 0 j from by rw [HS.out, Nat.zero_add, HX.out, if_neg hx1, List.append_nil])
            clear hx1
            go_wp2
            go_roundw
            case rel => exact ⟨j + 1, n', A', c', by omega, by go_num, rfl, by rw [HS2.out]; exact hown', hb'⟩
            case measure => simp [intOf]; omega
        · have hji : ¬ ((j : Int) < 8193) := by omega
          have HJ := Lib.hid (show posF ms 0 j = posF ms 0 8193 by rw [show j = 8193 by omega])
          go_wp2
          go_ret2
          rw [E1.out, E2.out]
          rw [HJ.out] at hown'
          exact ⟨_, _, _, rfl, hown'.weaken hb.size, below_next hb' hb (Nat.le_refl _)⟩
end FlipsOf
end Go.Proofs.Ytjehkjdehkdjcaa

namespace Go.Proofs.Ytjehkjdehkdjcaa
open Go.RowKit
namespace JoinScripts

set_option maxHeartbeats 2000000 in
theorem grow_any (n : Nat) (w : World) (hn : n ≤ 1099511627776) :
    Calls Try.prog 209 #[.slice none 0 0, .int .i64 n] w fun e w' => ∃ A c, e = .returned (.slice A 0 c) ∧ OwnE encF 4 82 w' w.heap.size A 0 c [] ∧ Below w.heap.size w w' := by
  by_cases h0 : n = 0
  · subst h0
    go_enter Try.func209, Try.ntmps209
    go_wp2
    go_ret
    exact ⟨none, 0, rfl, OwnE.nil _ _ _ _ _, Below.refl _ _⟩
  · obtain ⟨i, hi, hz, hs1, hb1⟩ := info_split infoFault
    have hpos : (n : Int) > 0 := by omega
    have hrun := fun ty => Lib.run_append_nil_zeros (P := Try.prog) w 60 3 ty 82 i _ .i64 .i64 Try.underlying60 Try.underlying3 hi hz n (by omega) (by omega) (by omega) (by rw [hb1]; omega)
    obtain ⟨G, hG⟩ : ∃ G, grownCap w n 0 82 = G := ⟨_, rfl⟩
    have hGn : n ≤ G := by rw [← hG]; exact grownCap_ge w _ _ _
    have hGm : G ≤ maxLen := by rw [← hG]; exact grownCap_le_maxLen w _ _ _ (by unfold maxLen; omega)
    rw [hG] at hrun
    obtain ⟨ROW, hROW⟩ : ∃ R : Array Value, Builtin.zeroCells (Value.agg #[.int .i64 0, .int .i64 0, .int .i64 0, .int .i64 0]).cells n ++ Builtin.zeroCells (Value.agg #[.int .i64 0, .int .i64 0, .int .i64 0, .int .i64 0]).cells (G - n) = R := ⟨_, rfl⟩
    have hRs : ROW.size = G * 4 := by
      rw [← hROW, Array.size_append, size_zeroCells, size_zeroCells]
      show n * 4 + (G - n) * 4 = G * 4
      omega
    rw [hROW] at hrun
    have HRUN := Lib.hid hrun
    have HRS := Lib.hid hRs
    have hGc : (0 : Nat) ≤ G := Nat.zero_le _
    clear hrun hG hROW hRs hi hz hs1 hb1
    go_enter Try.func209, Try.ntmps209
    go_wp2_with (at_builtin; refine Lib.wpList_append_run _ rfl _ _ _ _ rfl _ _ rfl rfl _ _ (HRUN.out _) ?_)
    go_ret
    refine ⟨some ⟨w.heap.size, 0, none⟩, G, rfl, ?_, ?_⟩
    · exact OwnE.room w.drew (Nat.le_refl _) hGm HRS.out
    · exact ((Below.refl w.heap.size w).drew).alloc (Nat.le_refl _) _

set_option maxRecDepth 20000 in
set_option maxHeartbeats 4000000 in
theorem concat_any (g : Nat) (A1 A2 : Option Addr) (n1 c1 n2 c2 : Nat) (xs ys : List Flt) (w : World) (e0 : w.cell? ⟨g, 0, none⟩ = some (.slice A1 n1 c1)) (e1 : w.cell? ⟨g, 1, none⟩ = some (.slice A2 n2 c2)) (hg : g < w.heap.size)
    (hx : RE encF 4 w w.heap.size A1 n1 xs) (hy : RE encF 4 w w.heap.size A2 n2 ys) (hA1 : A1 = none → c1 = 0) (hA2 : A2 = none → c2 = 0) (hn1 : n1 ≤ 1000000) (hn2 : n2 ≤ 1000000) :
    Calls Try.prog 152 #[.slice (some ⟨g, 0, none⟩) 2 2] w fun e w' => ∃ A n c, e = .returned (.slice A n c) ∧ OwnE encF 4 82 w' w.heap.size A n c (xs ++ ys) ∧ Below w.heap.size w w' := by
  go_enter Try.func152, Try.ntmps152
  go_wp2
  go_loop [3, 11] (fun s i => (i = .int .i64 0 ∧ s = .int .i64 0) ∨ (i = .int .i64 1 ∧ s = .int .i64 n1) ∨ (i = .int .i64 2 ∧ s = .int .i64 ((n1 + n2 : Nat) : Int))) (fun _ i => 2 - (intOf i).toNat)
  case atStart => exact .inl ⟨rfl, rfl⟩
  case round =>
    rcases hrel with ⟨rfl, rfl⟩ | ⟨rfl, rfl⟩ | ⟨rfl, rfl⟩
    · go_wp2
      go_round
      case rel => exact .inr (.inl ⟨rfl, by simp⟩)
      case measure => simp [intOf]
    · go_wp2
      go_round
      case rel => exact .inr (.inr ⟨rfl, by rw [Int.natCast_add]⟩)
      case measure => simp [intOf]
    · go_wp2_with fail
      refine (grow_any (n1 + n2) w (by omega)).mono ?_
      rintro e w1 ⟨A, c, rfl, hown, hb⟩
      go_wp2_with fail
      go_loopw [6, 27] (fun o i wr => ((i = .int .i64 0 ∧ ∃ A c, o = .slice A 0 c ∧ OwnE encF 4 82 wr w.heap.size A 0 c []) ∨ (i = .int .i64 1 ∧ ∃ A n c, n = n1 ∧ o = .slice A n c ∧ OwnE encF 4 82 wr w.heap.size A n c xs) ∨ (i = .int .i64 2 ∧ ∃ A n c, o = .slice A n c ∧ OwnE encF 4 82 wr w.heap.size A n c (xs ++ ys))) ∧ Below w.heap.size w wr) (fun _ i _ => 2 - (intOf i).toNat)
      case atStart => exact ⟨.inl ⟨rfl, A, c, rfl, hown⟩, hb⟩
      case round =>
        obtain ⟨hcase, hbr⟩ := hrel
        obtain ⟨hcr, hfr⟩ := bcell hbr
        have hx2 := hx.below hbr (Nat.le_refl _)
        have hy2 := hy.below hbr (Nat.le_refl _)
        rcases hcase with ⟨rfl, A', c', rfl, hown'⟩ | ⟨rfl, A', n', c', hn', rfl, hown'⟩ | ⟨rfl, A', n', c', rfl, hown'⟩
        · go_wp2_with (at_builtin; refine wpl_appRE encF 4 encF_len encF_one _ Try.underlying60 infoFault rfl (by omega) (by omega) rfl _ _ rfl w.heap.size _ _ _ _ rfl hown' A1 n1 c1 _ xs rfl hx2 hA1 (by omega) hbr.size ?_; intro A3 c3 w3 hown3 hB3 hg3)
          go_roundw
          case rel => exact ⟨.inr (.inl ⟨rfl, A3, n1, c3, rfl, rfl, by rw [Nat.zero_add, List.nil_append] at hown3; exact hown3⟩), hbr.trans (hB3 _ (Nat.le_refl _))⟩
          case measure => simp [intOf]
        · have hn9 : n' ≤ 1000000 := by omega
          clear hn'
          go_wp2_with (at_builtin; refine wpl_appRE encF 4 encF_len encF_one _ Try.underlying60 infoFault rfl (by omega) (by omega) rfl _ _ rfl w.heap.size _ _ _ _ rfl hown' A2 n2 c2 _ ys rfl hy2 hA2 (by omega) hbr.size ?_; intro A3 c3 w3 hown3 hB3 hg3)
          go_roundw
          case rel => exact ⟨.inr (.inr ⟨rfl, A3, _, c3, rfl, hown3⟩), hbr.trans (hB3 _ (Nat.le_refl _))⟩
          case measure => simp [intOf]
        · go_wp2
          go_ret
          exact ⟨A', n', c', rfl, hown', hbr⟩

def res (xs ys : List Flt) : List Flt := if isScript xs = true ∧ isScript ys = true ∧ xs.length + ys.length ≤ 30 then xs ++ ys else []
def cod (xs ys : List Flt) : Int := if isScript xs = true ∧ isScript ys = true then (if xs.length + ys.length ≤ 30 then 0 else 3) else 2
theorem slen {fs : List Flt} (h : isScript fs = true) : fs.length ≤ 30 := by
  unfold isScript at h; simp only [Bool.and_eq_true, decide_eq_true_eq] at h; exact h.1
theorem res_len (xs ys : List Flt) : (res xs ys).length ≤ 30 := by
  unfold res
  split
  · rename_i h; rw [List.length_append]; exact h.2.2
  · simp

set_option maxRecDepth 20000 in
set_option maxHeartbeats 4000000 in
theorem spec_any (A : Option Addr) (n c : Nat) (xs : List Flt) (B : Option Addr) (m d : Nat) (ys : List Flt) (w : World) (hx : RE encF 4 w w.heap.size A n xs) (hn : n ≤ 1099511627776) (hA : A = none → c = 0) (hy : RE encF 4 w w.heap.size B m ys) (hm : m ≤ 1099511627776) (hB : B = none → d = 0) :
    Calls Try.prog 61 #[.slice A n c, .slice B m d] w (RetEC encF 4 82 w (res xs ys) (cod xs ys)) := by
  have LX := Lib.hid hx.len
  have LY := Lib.hid hy.len
  rcases bool_cases (isScript xs) with h1 | h1
  case inr =>
    have E1 := Lib.hid (show res xs ys = [] from by simp [res, h1])
    have E2 := Lib.hid (show cod xs ys = 2 from by simp [cod, h1])
    go_enter Try.func61, Try.ntmps61
    go_wp2_with fail
    refine (sIsScript_any A n c xs _ hx hn).mono ?_
    rw [h1]
    rintro e w1 ⟨rfl, hb1⟩
    go_wp2
    go_ret2
    rw [E1.out, E2.out]
    exact ⟨none, 0, 0, rfl, OwnE.nil _ _ _ _ _, hb1⟩
  rcases bool_cases (isScript ys) with h2 | h2
  case inr =>
    have E1 := Lib.hid (show res xs ys = [] from by simp [res, h2])
    have E2 := Lib.hid (show cod xs ys = 2 from by simp [cod, h2])
    go_enter Try.func61, Try.ntmps61
    go_wp2_with fail
    refine (sIsScript_any A n c xs _ hx hn).mono ?_
    rw [h1]
    rintro e w1 ⟨rfl, hb1⟩
    go_wp2_with fail
    refine (sIsScript_any B m d ys _ (hy.up hb1) hm).mono ?_
    rw [h2]
    rintro e w2 ⟨rfl, hb2⟩
    go_wp2
    go_ret2
    rw [E1.out, E2.out]
    exact ⟨none, 0, 0, rfl, OwnE.nil _ _ _ _ _, below_next hb2 hb1 (Nat.le_refl _)⟩
  have hn30 : n ≤ 30 := by rw [← hx.len]; exact slen h1
  have hm30 : m ≤ 30 := by rw [← hy.len]; exact slen h2
  by_cases hs : n + m ≤ 30
  case neg =>
    have E1 := Lib.hid (show res xs ys = [] from by simp [res, LX.out, LY.out, hs])
    have E2 := Lib.hid (show cod xs ys = 3 from by simp [cod, h1, h2, LX.out, LY.out, hs])
    have hsi : (n : Int) + (m : Int) > 30 := by omega
    go_enter Try.func61, Try.ntmps61
    go_wp2_with fail
    refine (sIsScript_any A n c xs _ hx hn).mono ?_
    rw [h1]
    rintro e w1 ⟨rfl, hb1⟩
    go_wp2_with fail
    refine (sIsScript_any B m d ys _ (hy.up hb1) hm).mono ?_
    rw [h2]
    rintro e w2 ⟨rfl, hb2⟩
    go_wp2
    go_ret2
    rw [E1.out, E2.out]
    exact ⟨none, 0, 0, rfl, OwnE.nil _ _ _ _ _, below_next hb2 hb1 (Nat.le_refl _)⟩
  have E1 := Lib.hid (show res xs ys = xs ++ ys from by simp [res, h1, h2, LX.out, LY.out, hs])
  have E2 := Lib.hid (show cod xs ys = 0 from by simp [cod, h1, h2, LX.out, LY.out, hs])
  have hsi : ¬ ((n : Int) + (m : Int) > 30) := by omega
  go_enter Try.func61, Try.ntmps61
  go_wp2_with fail
  refine (sIsScript_any A n c xs _ hx hn).mono ?_
  rw [h1]
  rintro e w1 ⟨rfl, hb1⟩
  go_wp2_with fail
  refine (sIsScript_any B m d ys _ (hy.up hb1) hm).mono ?_
  rw [h2]
  rintro e w2 ⟨rfl, hb2⟩
  have hbb := below_next hb2 hb1 (Nat.le_refl _)
  have gx := hx.up hbb
  have gy := hy.up hbb
  have hb0 : Below w2.heap.size w2 (w2.alloc (.cells #[] 82)) := (Below.refl _ _).alloc (Nat.le_refl _) _
  have hown0 : OwnE encF 4 82 (w2.alloc (.cells #[] 82)) w2.heap.size (some ⟨w2.heap.size, 0, none⟩) 0 0 ([] : List Flt) := OwnE.empty w2 (Nat.le_refl _)
  go_wp2_with (first
    | (at_builtin; refine wpl_appRE encF 4 encF_len encF_one _ Try.underlying60 infoFault rfl (by omega) (by omega) rfl (.tmp 20) (.tmp 21) rfl w2.heap.size _ 0 0 _ rfl hown0 A n c _ xs rfl (gx.up hb0) hA (by omega) hb0.size ?_; intro A3 c3 w3 hown3 hB3 hg3; rw [Nat.zero_add, List.nil_append] at hown3; have hb3 := hb0.trans (hB3 _ (Nat.le_refl _)); have HO3 := Lib.hid hown3)
    | (at_builtin; refine wpl_appRE encF 4 encF_len encF_one _ Try.underlying60 infoFault rfl (by omega) (by omega) rfl (.tmp 22) (.tmp 23) rfl w2.heap.size _ _ _ _ rfl HO3.out B m d _ ys rfl (gy.up hb3) hB (by omega) hb3.size ?_; intro A4 c4 w4 hown4 hB4 hg4; have HO4 := Lib.hid hown4; have hb4 := hb3.trans (hB4 _ (Nat.le_refl _))))
  go_ret2
  rw [E1.out, E2.out]
  exact ⟨_, _, _, rfl, HO4.out.weaken hbb.size, hbb.trans (hb4.mono hbb.size)⟩

set_option maxRecDepth 20000 in
set_option maxHeartbeats 4000000 in
theorem impl_any (A : Option Addr) (n c : Nat) (xs : List Flt) (B : Option Addr) (m d : Nat) (ys : List Flt) (w : World) (hx : RE encF 4 w w.heap.size A n xs) (hn : n ≤ 1099511627776) (hA : A = none → c = 0) (hy : RE encF 4 w w.heap.size B m ys) (hm : m ≤ 1099511627776) (hB : B = none → d = 0) :
    Calls Try.prog 60 #[.slice A n c, .slice B m d] w (RetEC encF 4 82 w (res xs ys) (cod xs ys)) := by
  have LX := Lib.hid hx.len
  have LY := Lib.hid hy.len
  rcases bool_cases (isScript xs) with h1 | h1
  case inr =>
    have E1 := Lib.hid (show res xs ys = [] from by simp [res, h1])
    have E2 := Lib.hid (show cod xs ys = 2 from by simp [cod, h1])
    go_enter Try.func60, Try.ntmps60
    go_wp2_with fail
    refine (iIsScript_any A n c xs _ hx hn).mono ?_
    rw [h1]
    rintro e w1 ⟨rfl, hb1⟩
    go_wp2
    go_ret2
    rw [E1.out, E2.out]
    exact ⟨none, 0, 0, rfl, OwnE.nil _ _ _ _ _, hb1⟩
  rcases bool_cases (isScript ys) with h2 | h2
  case inr =>
    have E1 := Lib.hid (show res xs ys = [] from by simp [res, h2])
    have E2 := Lib.hid (show cod xs ys = 2 from by simp [cod, h2])
    go_enter Try.func60, Try.ntmps60
    go_wp2_with fail
    refine (iIsScript_any A n c xs _ hx hn).mono ?_
    rw [h1]
    rintro e w1 ⟨rfl, hb1⟩
    go_wp2_with fail
    refine (iIsScript_any B m d ys _ (hy.up hb1) hm).mono ?_
    rw [h2]
    rintro e w2 ⟨rfl, hb2⟩
    go_wp2
    go_ret2
    rw [E1.out, E2.out]
    exact ⟨none, 0, 0, rfl, OwnE.nil _ _ _ _ _, below_next hb2 hb1 (Nat.le_refl _)⟩
  have hn30 : n ≤ 30 := by rw [← hx.len]; exact slen h1
  have hm30 : m ≤ 30 := by rw [← hy.len]; exact slen h2
  by_cases hs : n + m ≤ 30
  case neg =>
    have E1 := Lib.hid (show res xs ys = [] from by simp [res, LX.out, LY.out, hs])
    have E2 := Lib.hid (show cod xs ys = 3 from by simp [cod, h1, h2, LX.out, LY.out, hs])
    have hsi : (n : Int) + (m : Int) > 30 := by omega
    go_enter Try.func60, Try.ntmps60
    go_wp2_with fail
    refine (iIsScript_any A n c xs _ hx hn).mono ?_
    rw [h1]
    rintro e w1 ⟨rfl, hb1⟩
    go_wp2_with fail
    refine (iIsScript_any B m d ys _ (hy.up hb1) hm).mono ?_
    rw [h2]
    rintro e w2 ⟨rfl, hb2⟩
    go_wp2
    go_ret2
    rw [E1.out, E2.out]
    exact ⟨none, 0, 0, rfl, OwnE.nil _ _ _ _ _, below_next hb2 hb1 (Nat.le_refl _)⟩
  have E1 := Lib.hid (show res xs ys = xs ++ ys from by simp [res, h1, h2, LX.out, LY.out, hs])
  have E2 := Lib.hid (show cod xs ys = 0 from by simp [cod, h1, h2, LX.out, LY.out, hs])
  have hsi : ¬ ((n : Int) + (m : Int) > 30) := by omega
  go_enter Try.func60, Try.ntmps60
  go_wp2_with fail
  refine (iIsScript_any A n c xs _ hx hn).mono ?_
  rw [h1]
  rintro e w1 ⟨rfl, hb1⟩
  go_wp2_with fail
  refine (iIsScript_any B m d ys _ (hy.up hb1) hm).mono ?_
  rw [h2]
  rintro e w2 ⟨rfl, hb2⟩
  have hbb := below_next hb2 hb1 (Nat.le_refl _)
  have gx := hx.up hbb
  have gy := hy.up hbb
  have hb0 : ∀ t, Below w2.heap.size w2 (w2.alloc (.cells #[.slice A n c, .slice B m d] t)) := fun t => (Below.refl _ _).alloc (Nat.le_refl _) _
  go_wp2_with fail
  refine (concat_any w2.heap.size A B n c m d xs ys _ ?_ ?_ (by simp) (gx.up (hb0 _)) (gy.up (hb0 _)) hA hB (by omega) (by omega)).mono ?_
  · simp [go_sem]
  · simp [go_sem]
  rintro e w3 ⟨A3, n3, c3, rfl, hown3, hb3⟩
  have hb4 := hbb.trans (((hb0 _).trans (hb3.mono (hb0 _).size)).mono hbb.size)
  go_wp2
  go_ret2
  rw [E1.out, E2.out]
  exact ⟨_, _, _, rfl, hown3.weaken (Nat.le_trans hbb.size (hb0 _).size), hb4⟩
end JoinScripts
end Go.Proofs.Ytjehkjdehkdjcaa

namespace Go.Proofs.Ytjehkjdehkdjcaa
open Go.RowKit
namespace LengthAfter
def val (a : Int) (fs : List Flt) : Int := if inR a 0 8192 = true ∧ isScript fs = true then (lenS a.toNat fs : Int) else 0
def cod (a : Int) (fs : List Flt) : Int := if inR a 0 8192 then (if isScript fs then 0 else 2) else 1

theorem lenF3 (n q l : Nat) {f : Flt} (h : f.kd = 3) (hq : f.pos = q) (hl : f.len = l) : lenF n f = n - (min n (q + l) - min n q) := by
  unfold lenF; rw [if_pos h, hq, hl]; rfl
theorem lenF4 (n q l : Nat) {f : Flt} (h : f.kd = 4) (hq : f.pos = q) (hl : f.len = l) : lenF n f = if q ≤ n then min 8192 (n + l) else n := by
  unfold lenF; rw [if_neg (by omega), if_pos h, hq, hl]; rfl
theorem lenFo (n : Nat) {f : Flt} (h3 : f.kd ≠ 3) (h4 : f.kd ≠ 4) : lenF n f = n := by
  unfold lenF; rw [if_neg h3, if_neg h4]


theorem zeros_bits {N : Nat} (h : N ≤ 8192) : isBits (List.replicate N 0) = true := by
  refine isBits_iff.2 ⟨by simpa using h, fun z hz => ?_⟩
  have := List.eq_of_mem_replicate hz
  omega

set_option maxHeartbeats 4000000 in
theorem impl_any (a : Int) (A : Option Addr) (n c : Nat) (fs : List Flt) (w : World) (h : RE encF 4 w w.heap.size A n fs) (hn : n ≤ 1099511627776) :
    Calls Try.prog 64 #[.int .i64 a, .slice A n c] w (RetV w (.tuple #[.int .i64 (val a fs), .int .i64 (cod a fs)])) := by
  have L := Lib.hid h.len
  rcases bool_cases (inR a 0 8192) with hr | hr
  case inr =>
    have E1 := Lib.hid (show val a fs = 0 from by simp [val, hr])
    have E2 := Lib.hid (show cod a fs = 1 from by simp [cod, hr])
    go_enter Try.func64, Try.ntmps64
    go_wp2_with fail
    refine (within_any a 0 8192 _).mono ?_
    rw [show inR a 0 8192 = false from hr]
    rintro e w' ⟨rfl, rfl⟩
    go_wp2
    go_ret2
    rw [E1.out, E2.out]
    exact ⟨rfl, Below.refl _ _⟩
  rcases bool_cases (isScript fs) with hz | hz
  case inr =>
    have E1 := Lib.hid (show val a fs = 0 from by simp [val, hz])
    have E2 := Lib.hid (show cod a fs = 2 from by simp [cod, hr, hz])
    go_enter Try.func64, Try.ntmps64
    go_wp2_with fail
    refine (within_any a 0 8192 _).mono ?_
    rw [show inR a 0 8192 = true from hr]
    rintro e w' ⟨rfl, rfl⟩
    go_wp2_with fail
    refine (iIsScript_any A n c fs _ h hn).mono ?_
    rw [hz]
    rintro e w1 ⟨rfl, hb1⟩
    go_wp2
    go_ret2
    rw [E1.out, E2.out]
    exact ⟨rfl, hb1⟩
  have hr' := inR_iff.1 hr
  obtain ⟨N, rfl⟩ : ∃ N : Nat, a = N := ⟨a.toNat, by omega⟩
  have hN : N ≤ 8192 := by omega
  have E1 := Lib.hid (show val N fs = (lenS N fs : Int) from by simp [val, hr, hz])
  have E2 := Lib.hid (show cod N fs = 0 from by simp [cod, hr, hz])
  have HA := Lib.hid (isScript_all hz)
  clear hr'
  go_enter Try.func64, Try.ntmps64
  go_wp2_with fail
  refine (within_any N 0 8192 _).mono ?_
  rw [show inR N 0 8192 = true from hr]
  rintro e w' ⟨rfl, rfl⟩
  go_wp2_with fail
  refine (iIsScript_any A n c fs _ h hn).mono ?_
  rw [hz]
  clear hz hr
  rintro e w1 ⟨rfl, hb1⟩
  go_wp2_with (with_reducible refine wpl_make _ Try.underlying24 infoInt rfl _ _ rfl N rfl rfl (by omega) ?_; intro w2 hown2 hg2)
  have hb2 : Below w.heap.size w w2 := hb1.grown hg2 hb1.size (fun g e => by cases e)
  refine (ApplyScript.applyScript_any _ N N _ A n c fs _ hown2.reads (zeros_bits hN) (fun e => by cases e) (h.up hb2) HA.out hn).mono ?_
  rintro e w3 ⟨A3, c3, rfl, hown3, hb3⟩
  have HL := Lib.hid (show (List.replicate N (0 : Int)).length = N by simp)
  go_wp2
  go_ret2
  rw [E1.out, E2.out]
  exact ⟨rfl, below_next hb3 hb2 (Nat.le_refl _)⟩
end LengthAfter
end Go.Proofs.Ytjehkjdehkdjcaa

namespace Go.Proofs.Ytjehkjdehkdjcaa
open Go.RowKit
namespace CellErrors
theorem ne_cases (x : Int) : x = 0 ∨ (x ≠ 0 ∧ (x != 0) = true ∧ (x == 0) = false) := by
  by_cases h : x = 0
  · exact .inl h
  · exact .inr ⟨h, by simp [h], by simp [h]⟩
theorem ne_cases2 (x y : Int) : ((x != y) = false ∧ x = y) ∨ ((x != y) = true ∧ x ≠ y) := by
  by_cases h : x = y
  · exact .inl ⟨by simp [h], h⟩
  · exact .inr ⟨by simp [h], h⟩
theorem isFault_pos' {f : Flt} (h : isFault f = true) : 0 ≤ f.pos ∧ f.pos ≤ 8192 := by
  unfold isFault at h; simp only [Bool.and_eq_true] at h; exact inR_iff.1 h.2.1
theorem isFault_len' {f : Flt} (h : isFault f = true) : 0 ≤ f.len ∧ f.len ≤ 8192 := by
  unfold isFault at h
  simp only [Bool.and_eq_true] at h
  have h3 := h.2.2.1
  split at h3
  · have := inR_iff.1 h3; omega
  · simp at h3; omega
theorem tmod8 {p : Int} (h : 0 ≤ p) : p.tmod 8 = p % 8 := Int.tmod_eq_emod_of_nonneg h
theorem allF_of {fs : List Flt} (h : isScript fs = true) : allF fs = true := by
  unfold isScript at h; simp only [Bool.and_eq_true] at h; exact h.2
theorem len_of {fs : List Flt} (h : isScript fs = true) : fs.length ≤ 30 := by
  unfold isScript at h; simp only [Bool.and_eq_true, decide_eq_true_eq] at h; exact h.1
theorem code_ok {zs : List Int} {fs : List Flt} (h : bsCode zs fs = 0) : isBits zs = true ∧ isScript fs = true := by
  unfold bsCode at h
  split at h
  · split at h
    · exact ⟨by assumption, by assumption⟩
    · cases h
  · cases h

set_option maxRecDepth 20000 in
set_option maxHeartbeats 8000000 in
theorem spec_any (A : Option Addr) (n c : Nat) (zs : List Int) (B : Option Addr) (m d : Nat) (fs : List Flt) (w : World) (h : RI w w.heap.size A n zs) (hn' : n ≤ 1099511627776) (hn : n ≤ 1048576) (hf : RE encF 4 w w.heap.size B m fs) (hm' : m ≤ 1099511627776) (hm : m ≤ 1048576) :
    Calls Try.prog 45 #[.slice A n c, .slice B m d] w (RetIC 2 w (res zs fs) (cod zs fs)) := by
  have L := Lib.hid h.len
  have LF := Lib.hid hf.len
  obtain ⟨q, hq⟩ : ∃ q, bsCode zs fs = q := ⟨_, rfl⟩
  have HQ := Lib.hid hq
  rcases ne_cases q with rfl | ⟨h1, h2, h3⟩
  case inr =>
    have E1 := Lib.hid (show res zs fs = [] from by unfold res; rw [hq, if_neg (by simp [h1])])
    have E2 := Lib.hid (show cod zs fs = q from by unfold cod; rw [hq, if_neg h1])
    clear hq
    go_enter Try.func45, Try.ntmps45
    go_wp2_with fail
    refine (l26Code_any A B n c m d zs fs w h hn' hf hm').mono ?_
    rw [HQ.out]
    rintro e w1 ⟨rfl, hb1⟩
    go_wp2
    go_ret2
    rw [E1.out, E2.out]
    exact ⟨none, 0, 0, rfl, OwnI.nil _ _ _, hb1⟩
  obtain ⟨hbits, hscr⟩ := code_ok hq
  have HALL := Lib.hid (allF_of hscr)
  have hm30 : m ≤ 30 := by have := len_of hscr; rw [LF.out] at this; exact this
  have hn8 : n ≤ 8192 := by
    unfold isBits at hbits
    simp only [Bool.and_eq_true, decide_eq_true_eq] at hbits
    rw [L.out] at hbits
    exact hbits.1
  have ER := Lib.hid (show res zs fs = if allC fs = true then wrongTo fs (n / 8) else [] from by unfold res; rw [hq, L.out]; simp)
  have EC := Lib.hid (show cod zs fs = if allC fs then 0 else 5 from by unfold cod; rw [hq]; rfl)
  clear hbits hscr hq
  go_enter Try.func45, Try.ntmps45
  go_wp2_with fail
  refine (l26Code_any A B n c m d zs fs w h hn' hf hm').mono ?_
  rw [HQ.out]
  rintro e w1 ⟨rfl, hb1⟩
  go_wp2
  go_loopw [7] (fun i wr => ∃ k : Nat, k ≤ m ∧ i = .int .i64 k ∧ allC (fs.take k) = true ∧ Below w.heap.size w wr) (fun i _ => m - (intOf i).toNat)
  case atStart => exact ⟨0, Nat.zero_le _, rfl, rfl, hb1⟩
  case round =>
    obtain ⟨k, hk, rfl, hall, hb⟩ := hrel
    have Hall := Lib.hid hall
    clear hall
    by_cases hlt : k < m
    · obtain ⟨b, o, rfl, hbl, hc⟩ := (hf.below hb (Nat.le_refl _)).get (by omega)
      have hc0 := hc k hlt 0 _ rfl
      have hc1 := hc k hlt 1 _ rfl
      have hc2 := hc k hlt 2 _ rfl
      clear hc
      rw [Nat.add_zero] at hc0
      have hfl := allF_ge HALL.out (k := k) (by rw [LF.out]; exact hlt)
      have hpos := isFault_pos' hfl
      have hln := isFault_len' hfl
      obtain ⟨kd, hkd⟩ : ∃ x, (ge fs k).kd = x := ⟨_, rfl⟩
      obtain ⟨p, hp⟩ : ∃ x, (ge fs k).pos = x := ⟨_, rfl⟩
      obtain ⟨l, hl⟩ : ∃ x, (ge fs k).len = x := ⟨_, rfl⟩
      rw [hkd] at hc0
      rw [hp] at hc1 hpos
      rw [hl] at hc2 hln
      have HCF := Lib.hid (show cellF (ge fs k) = (decide (kd = 2) && (decide (p.tmod 8 = 0) && decide (l.tmod 8 = 0))) from by unfold cellF; rw [hkd, hp, hl, tmod8 hpos.1, tmod8 hln.1])
      clear hkd hp hl hfl
      obtain ⟨u, hu⟩ : ∃ u, p.tmod 8 = u := ⟨_, rfl⟩
      obtain ⟨v, hv⟩ : ∃ v, l.tmod 8 = v := ⟨_, rfl⟩
      rcases ne_cases2 kd 2 with ⟨e1, f1⟩ | ⟨e1, f1⟩ <;> rcases ne_cases2 u 0 with ⟨e2, f2⟩ | ⟨e2, f2⟩ <;> rcases ne_cases2 v 0 with ⟨e3, f3⟩ | ⟨e3, f3⟩
      all_goals
        have HX := Lib.hid (show cellF (ge fs k) = _ from by rw [HCF.out, hu, hv])
        have F1 := Lib.hid f1
        have F2 := Lib.hid f2
        have F3 := Lib.hid f3
        clear f1 f2 f3
        go_wp2
        first
        | (go_ret2
           have hno : cellF (ge fs k) = false := by rw [HX.out]; simp [F1.out, F2.out, F3.out]
           have hno2 := allC_no (by rw [LF.out]; exact hlt) hno
           rw [ER.out, EC.out, hno2]
           exact ⟨none, 0, 0, rfl, OwnI.nil _ _ _, hb⟩)
        | (go_roundw
           case rel => exact ⟨k + 1, by omega, by go_num, by rw [allC_take (by rw [LF.out]; exact hlt), Hall.out, HX.out]; simp [F1.out, F2.out, F3.out], hb⟩
           case measure => simp [intOf]; omega)
    · have hkm : k = m := by omega
      have hz : allC fs = true := by have := Hall.out; rwa [List.take_of_length_le (by rw [hf.len]; omega)] at this
      have Hz := Lib.hid hz
      clear hz hkm
      have E1 := Lib.hid (show res zs fs = wrongTo fs (n / 8) from by rw [ER.out, Hz.out]; rfl)
      have E2 := Lib.hid (show cod zs fs = 0 from by rw [EC.out, Hz.out]; rfl)
      go_wp2_with fail
      go_loopw [8, 9, 10, 11] (fun o y _ _ wr' => ∃ (k y' : Nat) (A' : Option Addr) (c' : Nat), k ≤ n / 8 ∧ y' ≤ k ∧ y = .int .i64 k ∧ o = .slice A' y' c' ∧ OwnI 2 wr' wr.heap.size A' y' c' (wrongTo fs k) ∧ Below wr.heap.size wr wr') (fun _ y _ _ _ => n / 8 + 1 - (intOf y).toNat)
      case atStart => exact ⟨0, 0, some ⟨wr.heap.size, 0, none⟩, 0, Nat.zero_le _, Nat.le_refl _, rfl, rfl, OwnI.empty _ (Nat.le_refl _), (Below.refl _ _).alloc (Nat.le_refl _) _⟩
      case round =>
        obtain ⟨y, y', A', c', hy, hy', rfl, rfl, hown, hb'⟩ := hrel
        by_cases hlt2 : y < n / 8
        · have hle8 : ((y : Int) + 1) * 8 ≤ (n : Int) := by omega
          have hbW := below_next hb' hb (Nat.le_refl _)
          go_wp2_with fail
          go_loopw [10, 11] (fun v i wz => ∃ (j cnt : Nat), j ≤ m ∧ i = .int .i64 j ∧ v = .int .i64 cnt ∧ cnt = hits (fs.take j) y ∧ cnt ≤ j ∧ Below wr.heap.size wr wz) (fun _ i _ => m - (intOf i).toNat)
          case atStart => exact ⟨0, 0, Nat.zero_le _, rfl, rfl, rfl, Nat.le_refl _, Below.refl _ _⟩
          case round =>
            obtain ⟨j, cnt, hj, rfl, rfl, hcnt, hcj, hbz⟩ := hrel
            have HC := Lib.hid hcnt
            clear hcnt
            have hbT := below_next hbz hbW (Nat.le_refl _)
            by_cases hjm : j < m
            · obtain ⟨b, o, rfl, hbl, hc⟩ := (hf.below hbT (Nat.le_refl _)).get (by omega)
              have hc1 := hc j hjm 1 _ rfl
              have hc2 := hc j hjm 2 _ rfl
              clear hc
              have hfl := allF_ge HALL.out (k := j) (by rw [LF.out]; exact hjm)
              have hpos := isFault_pos' hfl
              have hln := isFault_len' hfl
              obtain ⟨p, hp⟩ : ∃ x, (ge fs j).pos = x := ⟨_, rfl⟩
              obtain ⟨l, hl⟩ : ∃ x, (ge fs j).len = x := ⟨_, rfl⟩
              have HH := Lib.hid (show hit (ge fs j) y = inR ((y : Int) * 8) p (p + l - 1) from by unfold hit; rw [hp, hl, Int.mul_comm])
              rw [hp] at hc1 hpos
              rw [hl] at hc2 hln
              obtain ⟨hp1, hp2⟩ := hpos
              obtain ⟨hl1, hl2⟩ := hln
              clear hp hl hfl
              rcases bool_cases (inR ((y : Int) * 8) p (p + l - 1)) with hr | hr
              · go_wp2_with fail
                go_quiet (first | (go_at_call 116; exact quiet_same (l01In_yes hr _)))
                go_wp2
                go_roundw
                case rel => exact ⟨j + 1, cnt + 1, by omega, by go_num, by go_num, by rw [hits_take (by rw [LF.out]; exact hjm), HH.out, hr, HC.out]; rfl, by omega, below_drewN hbz _⟩
                case measure => simp [intOf]; omega
              · go_wp2_with fail
                go_quiet (first | (go_at_call 116; exact quiet_same (l01In_no hr _)))
                go_wp2
                go_roundw
                case rel => exact ⟨j + 1, cnt, by omega, by go_num, rfl, by rw [hits_take (by rw [LF.out]; exact hjm), HH.out, hr, HC.out]; rfl, by omega, below_drewN hbz _⟩
                case measure => simp [intOf]; omega
            · have hjm' : j = m := by omega
              have HO := Lib.hid (show odd fs y = decide (cnt % 2 = 1) from by
                unfold odd; rw [HC.out, hjm', List.take_of_length_le (by rw [LF.out]; exact Nat.le_refl _)])
              clear hjm'
              have hown2 := hown.below hbz
              have hb2 := below_next hbz hb' (Nat.le_refl _)
              by_cases hodd : cnt % 2 = 1
              · have HY := Lib.hid (show odd fs y = true from by rw [HO.out]; simp [hodd])
                have hbe : ((cnt : Int) % 2 == 1) = true := by simp; omega
                clear hodd
                go_wp2_with (at_builtin; refine wpl_appI _ _ Try.underlying24 infoInt rfl _ _ rfl _ _ y' _ _ rfl hown2 (y : Int) rfl (by omega) hb2.size ?_; intro A2 c2 w2 hown3 hB3 hg3)
                go_roundw
                case rel => exact ⟨y + 1, y' + 1, A2, c2, by omega, by omega, by go_num, rfl, by rw [wrongTo_yes HY.out]; exact hown3, hb2.trans (hB3 _ (Nat.le_refl _))⟩
                case measure => simp [intOf]; omega
              · have HY := Lib.hid (show odd fs y = false from by rw [HO.out]; simp [hodd])
                have hbe : ((cnt : Int) % 2 == 1) = false := by simp; omega
                clear hodd
                go_wp2
                go_roundw
                case rel => exact ⟨y + 1, y', A', c', by omega, by omega, by go_num, rfl, by rw [wrongTo_no HY.out]; exact hown2, hb2⟩
                case measure => simp [intOf]; omega
        · have hle8 : ¬ ((y : Int) + 1) * 8 ≤ (n : Int) := by omega
          have hyn : y = n / 8 := by omega
          have HY := Lib.hid hyn
          clear hyn
          go_wp2
          go_ret2
          rw [E1.out, E2.out]
          rw [HY.out] at hown
          exact ⟨_, _, _, rfl, hown.weaken hb.size, below_next hb' hb (Nat.le_refl _)⟩
end CellErrors
end Go.Proofs.Ytjehkjdehkdjcaa

namespace Go.Proofs.Ytjehkjdehkdjcaa
open Go.RowKit
namespace CellErrors
def bE (b : Bool) : List Value := [.bool b]
theorem bE_len (b : Bool) : (bE b).length = 1 := rfl
theorem infoBool : (Try.prog.info? 4).map (fun i => (i.zero, i.size, i.bytes)) = some (some (.bool false), 1, 1) := by kernel_rfl
/-- a row of bools with those from a on, below y, turned -/
def tog (g : Nat → Bool) (a y M : Nat) : List Bool := (List.range M).map fun i => if a ≤ i ∧ i < y then !g i else g i
theorem tog_len (g : Nat → Bool) (a y M : Nat) : (tog g a y M).length = M := by simp [tog]
theorem tog_ge {g : Nat → Bool} {a y M i : Nat} (h : i < M) : ge (tog g a y M) i = if a ≤ i ∧ i < y then !g i else g i := by simp [ge, tog, h]
theorem tog_none {g : Nat → Bool} {a y M : Nat} (h : y ≤ a) : tog g a y M = tog g 0 0 M := by
  refine ext_ge (by rw [tog_len, tog_len]) fun i hi => ?_
  rw [tog_len] at hi
  rw [tog_ge hi, tog_ge hi, if_neg (by omega), if_neg (by omega)]
theorem tog_set {g : Nat → Bool} {a y M : Nat} (hy : a ≤ y) (_ : y < M) : (tog g a y M).set y (!g y) = tog g a (y + 1) M := by
  refine ext_ge (by rw [List.length_set, tog_len, tog_len]) fun i hi => ?_
  rw [List.length_set, tog_len] at hi
  rw [tog_ge hi]
  by_cases hik : y = i
  · subst hik
    rw [ge_set_self (by rw [tog_len]; exact hi), if_pos (by omega)]
  · have : ge ((tog g a y M).set y (!g y)) i = ge (tog g a y M) i := by
      unfold ge
      rw [List.getD_eq_getElem?_getD, List.getElem?_set, List.getD_eq_getElem?_getD, if_neg hik]
    rw [this, tog_ge hi]
    by_cases h2 : a ≤ i ∧ i < y
    · rw [if_pos h2, if_pos (by omega)]
    · rw [if_neg h2, if_neg (by omega)]
theorem tog_rep (fs : List Flt) (M : Nat) : List.replicate M false = tog (odd (fs.take 0)) 0 0 M := by
  refine ext_ge (by rw [tog_len]; simp) fun i hi => ?_
  rw [List.length_replicate] at hi
  rw [tog_ge hi, if_neg (by omega)]
  simp [ge, hi, odd, hits]
theorem tog_end {fs : List Flt} {k a e M : Nat} (hk : k < fs.length) (hp : (ge fs k).pos = 8 * (a : Int)) (hl : (ge fs k).len = 8 * ((e - a : Nat) : Int)) (hae : a ≤ e) {y : Nat} (hy : y = max a (min M e)) :
    tog (odd (fs.take k)) a y M = tog (odd (fs.take (k + 1))) 0 0 M := by
  refine ext_ge (by rw [tog_len, tog_len]) fun i hi => ?_
  rw [tog_len] at hi
  rw [tog_ge hi, tog_ge hi, if_neg (show ¬ (0 ≤ i ∧ i < 0) by omega)]
  have hh : hit (ge fs k) i = decide (a ≤ i ∧ i < e) := by
    unfold hit inR
    rw [hp, hl]
    by_cases h : a ≤ i ∧ i < e
    · have h1 : 8 * (a : Int) ≤ 8 * (i : Int) := by omega
      have h2 : 8 * (i : Int) ≤ 8 * (a : Int) + 8 * ((e - a : Nat) : Int) - 1 := by omega
      rw [decide_eq_true h, decide_eq_true h1, decide_eq_true h2]; rfl
    · have : ¬ (8 * (a : Int) ≤ 8 * (i : Int) ∧ 8 * (i : Int) ≤ 8 * (a : Int) + 8 * ((e - a : Nat) : Int) - 1) := by omega
      rw [decide_eq_false h]
      simp only [Bool.and_eq_false_iff, decide_eq_false_iff_not]
      by_cases h1 : 8 * (a : Int) ≤ 8 * (i : Int)
      · exact .inr fun h2 => this ⟨h1, h2⟩
      · exact .inl h1
  have ho : odd (fs.take (k + 1)) i = if a ≤ i ∧ i < e then !odd (fs.take k) i else odd (fs.take k) i := by
    unfold odd
    rw [hits_take hk, hh]
    by_cases h : a ≤ i ∧ i < e
    · rw [if_pos h]
      simp only [h]
      rcases Nat.mod_two_eq_zero_or_one (hits (fs.take k) i) with h0 | h0 <;> simp [h0] <;> omega
    · rw [if_neg h]
      simp [h]
  rw [ho]
  by_cases h : a ≤ i ∧ i < e
  · rw [if_pos h, if_pos (by omega)]
  · rw [if_neg h, if_neg (by omega)]
theorem Blk4.kept {w w' : World} {g : Nat} {t : TypeId} {u0 u1 u2 u3 : Value} {ro : Option Nat} (h : Blk4 w g t u0 u1 u2 u3) (hg : w.grownBy w' ro) (hne : some g ≠ ro) : Blk4 w' g t u0 u1 u2 u3 := (hg.block g h.lt hne).trans h
theorem cell_split {f : Flt} (h : cellF f = true) (hf : isFault f = true) : ∃ a e : Nat, f.kd = 2 ∧ f.pos = 8 * (a : Int) ∧ f.len = 8 * ((e - a : Nat) : Int) ∧ a ≤ e ∧ e ≤ 2048 := by
  unfold cellF at h
  simp only [Bool.and_eq_true, decide_eq_true_eq] at h
  have hp := isFault_pos' hf
  have hl := isFault_len' hf
  refine ⟨(f.pos / 8).toNat, (f.pos / 8).toNat + (f.len / 8).toNat, h.1, by omega, by omega, by omega, by omega⟩

set_option maxRecDepth 20000 in
set_option maxHeartbeats 20000000 in
theorem impl_any (A : Option Addr) (n c : Nat) (zs : List Int) (B : Option Addr) (m d : Nat) (fs : List Flt) (w : World) (h : RI w w.heap.size A n zs) (hn' : n ≤ 1099511627776) (hn : n ≤ 1048576) (hf : RE encF 4 w w.heap.size B m fs) (hm' : m ≤ 1099511627776) (hm : m ≤ 1048576) :
    Calls Try.prog 44 #[.slice A n c, .slice B m d] w (RetIC 2 w (res zs fs) (cod zs fs)) := by
  have L := Lib.hid h.len
  have LF := Lib.hid hf.len
  obtain ⟨q, hq⟩ : ∃ q, bsCode zs fs = q := ⟨_, rfl⟩
  have HQ := Lib.hid hq
  rcases ne_cases q with rfl | ⟨h1, h2, h3⟩
  case inr =>
    have E1 := Lib.hid (show res zs fs = [] from by unfold res; rw [hq, if_neg (by simp [h1])])
    have E2 := Lib.hid (show cod zs fs = q from by unfold cod; rw [hq, if_neg h1])
    clear hq
    go_enter Try.func44, Try.ntmps44
    go_wp2_with fail
    refine (scriptCode_any A B n c m d zs fs w h hn' hf hm').mono ?_
    rw [HQ.out]
    rintro e w1 ⟨rfl, hb1⟩
    go_wp2
    go_ret2
    rw [E1.out, E2.out]
    exact ⟨none, 0, 0, rfl, OwnI.nil _ _ _, hb1⟩
  obtain ⟨hbits, hscr⟩ := code_ok hq
  have HALL := Lib.hid (allF_of hscr)
  have hm30 : m ≤ 30 := by have := len_of hscr; rw [LF.out] at this; exact this
  have hn8 : n ≤ 8192 := by
    unfold isBits at hbits
    simp only [Bool.and_eq_true, decide_eq_true_eq] at hbits
    rw [L.out] at hbits
    exact hbits.1
  have ER := Lib.hid (show res zs fs = if allC fs = true then wrongTo fs (n / 8) else [] from by unfold res; rw [hq, L.out]; simp)
  have EC := Lib.hid (show cod zs fs = if allC fs then 0 else 5 from by unfold cod; rw [hq]; rfl)
  clear hbits hscr hq
  obtain ⟨M, hM⟩ : ∃ M, n / 8 = M := ⟨_, rfl⟩
  have hM1 : M ≤ 1024 := by omega
  have hMI : (n : Int) / 8 = (M : Int) := by omega
  have hMT : (n : Int).tdiv 8 = (M : Int) := by rw [Int.tdiv_eq_ediv_of_nonneg (by omega)]; exact hMI
  rw [hM] at ER
  have HM := Lib.hid hM
  clear hM
  go_enter Try.func44, Try.ntmps44
  go_wp2_with fail
  refine (scriptCode_any A B n c m d zs fs w h hn' hf hm').mono ?_
  rw [HQ.out]
  rintro e w1 ⟨rfl, hb1⟩
  go_wp2_with (at_make; refine wpl_makeE bE 1 _ false Try.underlying125 infoBool rfl rfl (by omega) (by omega) rfl _ _ rfl M (by simp [Act.eval]) (by simp [Act.eval]) (by omega) ?_; intro w2 hown2 hg2)
  have hb2 : Below w1.heap.size w1 w2 := (Below.refl _ _).grown hg2 (Nat.le_refl _) (fun _ e => by cases e)
  have hz2 : w1.heap.size < w2.heap.size := (hown2.row w1.heap.size rfl).2
  clear hg2
  rw [tog_rep fs M] at hown2
  obtain ⟨G, hG⟩ : ∃ G, w1.heap.size = G := ⟨_, rfl⟩
  rw [hG] at hown2 hb2 hz2 ⊢
  have hwG : w.heap.size ≤ G := by rw [← hG]; exact hb1.size
  have hbw2 : Below w.heap.size w w2 := hb1.trans (hb2.mono hwG)
  have HBW2 := Lib.hid hbw2
  have HO2 := Lib.hid hown2
  clear hG hbw2 hb2 hown2
  go_wp2_with fail
  go_loopw [26] (fun i wr => ∃ k : Nat, k ≤ m ∧ i = .int .i64 k ∧ allC (fs.take k) = true ∧ OwnE bE 1 4 wr G (some ⟨G, 0, none⟩) M M (tog (odd (fs.take k)) 0 0 M) ∧ Below w.heap.size w wr ∧ G < wr.heap.size) (fun i _ => m - (intOf i).toNat)
  case atStart => exact ⟨0, Nat.zero_le _, rfl, rfl, HO2.out, HBW2.out, hz2⟩
  case round =>
    obtain ⟨k, hk, rfl, hall, hown, hb, hGw⟩ := hrel
    have Hall := Lib.hid hall
    clear hall
    by_cases hlt : k < m
    · obtain ⟨b, o, rfl, hbl, hc⟩ := (hf.below hb (Nat.le_refl _)).get (by omega)
      have hc0 := hc k hlt 0 _ rfl
      have hc1 := hc k hlt 1 _ rfl
      have hc2 := hc k hlt 2 _ rfl
      have hc3 := hc k hlt 3 _ rfl
      clear hc
      rw [Nat.add_zero] at hc0
      have hfl := allF_ge HALL.out (k := k) (by rw [LF.out]; exact hlt)
      have hpos := isFault_pos' hfl
      have hln := isFault_len' hfl
      obtain ⟨kd, hkd⟩ : ∃ x, (ge fs k).kd = x := ⟨_, rfl⟩
      obtain ⟨p, hp⟩ : ∃ x, (ge fs k).pos = x := ⟨_, rfl⟩
      obtain ⟨l, hl⟩ : ∃ x, (ge fs k).len = x := ⟨_, rfl⟩
      obtain ⟨vv, hvv⟩ : ∃ x, (ge fs k).val = x := ⟨_, rfl⟩
      rw [hkd] at hc0
      rw [hp] at hc1 hpos
      rw [hl] at hc2 hln
      rw [hvv] at hc3
      obtain ⟨hp1, hp2⟩ := hpos
      obtain ⟨hl1, hl2⟩ := hln
      have HCF := Lib.hid (show cellF (ge fs k) = (decide (kd = 2) && (decide (p.tmod 8 = 0) && decide (l.tmod 8 = 0))) from by unfold cellF; rw [hkd, hp, hl, tmod8 hp1, tmod8 hl1])
      have HP := Lib.hid hp
      have HL := Lib.hid hl
      clear hkd hp hl hfl hvv
      obtain ⟨a, ha⟩ : ∃ a : Nat, p / 8 = (a : Int) := ⟨(p / 8).toNat, by omega⟩
      obtain ⟨e, he⟩ : ∃ e : Nat, (p + l) / 8 = (e : Int) := ⟨((p + l) / 8).toNat, by omega⟩
      have hae : a ≤ e := by omega
      have he2 : e ≤ 2048 := by omega
      have hat : p.tdiv 8 = (a : Int) := by rw [Int.tdiv_eq_ediv_of_nonneg hp1]; exact ha
      have het : (p + l).tdiv 8 = (e : Int) := by rw [Int.tdiv_eq_ediv_of_nonneg (by omega)]; exact he
      have HA := Lib.hid ha
      have HE := Lib.hid he
      obtain ⟨u, hu⟩ : ∃ u, p.tmod 8 = u := ⟨_, rfl⟩
      obtain ⟨v, hv⟩ : ∃ v, l.tmod 8 = v := ⟨_, rfl⟩
      rcases ne_cases2 kd 2 with ⟨e1, f1⟩ | ⟨e1, f1⟩ <;> rcases ne_cases2 u 0 with ⟨e2, f2⟩ | ⟨e2, f2⟩ <;> rcases ne_cases2 v 0 with ⟨e3, f3⟩ | ⟨e3, f3⟩
      all_goals
        have HX := Lib.hid (show cellF (ge fs k) = _ from by rw [HCF.out, hu, hv])
        have HU := Lib.hid hu
        have HV := Lib.hid hv
        have F1 := Lib.hid f1
        have F2 := Lib.hid f2
        have F3 := Lib.hid f3
        clear f1 f2 f3
        go_wp2_with fail
      all_goals
        first
        | (go_ret2
           have hno : cellF (ge fs k) = false := by rw [HX.out]; simp [F1.out, F2.out, F3.out]
           have hno2 := allC_no (by rw [LF.out]; exact hlt) hno
           rw [ER.out, EC.out, hno2]
           exact ⟨none, 0, 0, rfl, OwnI.nil _ _ _, below_alloc hb (Nat.le_refl _) _⟩)
        | skip
      have hbox := Blk4.new wr 82 (.int .i64 kd) (.int .i64 p) (.int .i64 l) (.int .i64 vv)
      have hcellT : cellF (ge fs k) = true := by rw [HX.out]; simp [F1.out, F2.out, F3.out]
      have HCT := Lib.hid hcellT
      have hp8 : (ge fs k).pos = 8 * (a : Int) := by
        have h1 := HP.out; have h2 := HA.out; have h3 := HU.out; have h4 := F2.out
        rw [tmod8 hp1] at h3
        omega
      have hl8 : (ge fs k).len = 8 * ((e - a : Nat) : Int) := by
        have h1 := HP.out; have h2 := HA.out; have h3 := HU.out; have h4 := F2.out
        have h5 := HL.out; have h6 := HE.out; have h7 := HV.out; have h8 := F3.out
        rw [tmod8 hp1] at h3
        rw [tmod8 hl1] at h7
        omega
      have HP8 := Lib.hid hp8
      have HL8 := Lib.hid hl8
      clear hcellT hp8 hl8 hc0 hc1 hc2 hc3 e1 e2 e3 hu hv
      obtain ⟨g, hg⟩ : ∃ g, odd (fs.take k) = g := ⟨_, rfl⟩
      rw [hg] at hown
      have HG := Lib.hid hg
      clear hg
      obtain ⟨W, hW⟩ : ∃ W, wr.alloc (.cells #[.int .i64 kd, .int .i64 p, .int .i64 l, .int .i64 vv] 82) = W := ⟨_, rfl⟩
      have hownW : OwnE bE 1 4 W G (some ⟨G, 0, none⟩) M M (tog g 0 0 M) := by rw [← hW]; exact hown.alloc _
      have hbW : Below w.heap.size w W := by rw [← hW]; exact below_alloc hb (Nat.le_refl _) _
      rw [hW] at hbox
      have hsW : G < W.heap.size := by have := hbox.lt; omega
      go_loopw [10] (fun x wz => ∃ y : Nat, a ≤ y ∧ y ≤ max a (min M e) ∧ x = .int .i64 y ∧ OwnE bE 1 4 wz G (some ⟨G, 0, none⟩) M M (tog g a y M) ∧ W.grownBy wz (some G)) (fun x _ => min M e - (intOf x).toNat)
      case atStart => exact ⟨a, Nat.le_refl _, by omega, by first | rfl | go_num, by rw [tog_none (Nat.le_refl _)]; first | exact hownW | exact hown.alloc _, by first | exact World.grownBy.refl _ _ | (rw [← hW]; exact World.grownBy.refl _ _)⟩
      case round =>
        obtain ⟨y, hya, hym, rfl, hown', hg'⟩ := hrel
        have HYM := Lib.hid hym
        clear hym
        have hbk := Blk4.kept hbox hg' (by simp; omega)
        have k1 := hbk.c1
        have k2 := hbk.c2
        by_cases hy2 : y < M ∧ y < e
        · obtain ⟨hyM, hye⟩ := hy2
          have hcellb := hown'.cell bE_len hyM (j := 0) (by omega)
          rw [tog_ge hyM, if_neg (by omega)] at hcellb
          simp only [bE, Nat.mul_one, Nat.add_zero, List.getElem?_cons_zero] at hcellb
          have hfr := hown'.frozen y
          have st := hown'.stored bE_len y 0 (.bool (!g y)) (!g y) hyM (by omega) rfl
          rw [tog_set hya hyM, Nat.mul_one, Nat.add_zero] at st
          have ST := Lib.hid st
          clear st
          by_cases hme : M ≤ e
          all_goals
            go_wp2
          all_goals
            go_roundw
            case rel => exact ⟨y + 1, by omega, by omega, by go_num, ST.out.1, grown_tr hg' ST.out.2⟩
            case measure => simp [intOf]; omega
        · have hyE : y = max a (min M e) := by have := HYM.out; omega
          have HYE := Lib.hid hyE
          clear hyE
          by_cases hme : M ≤ e
          all_goals
            go_wp2
          all_goals
            go_roundw
            case rel => exact ⟨k + 1, by omega, by go_num, by rw [allC_take (by rw [LF.out]; exact hlt), Hall.out, HCT.out]; rfl, by rw [← tog_end (by rw [LF.out]; exact hlt) HP8.out HL8.out hae HYE.out, HG.out]; exact hown', hbW.grown hg' hbW.size (fun g e => by cases e; exact hwG), Nat.lt_of_lt_of_le hsW hg'.size⟩
            case measure => simp [intOf]; omega
    · have hkm : k = m := by omega
      have hz : allC fs = true := by have := Hall.out; rwa [List.take_of_length_le (by rw [hf.len]; omega)] at this
      have hown3 : OwnE bE 1 4 wr G (some ⟨G, 0, none⟩) M M (tog (odd fs) 0 0 M) := by
        rw [hkm, List.take_of_length_le (by rw [LF.out]; exact Nat.le_refl _)] at hown; exact hown
      have Hz := Lib.hid hz
      clear hz hkm hown
      have E1 := Lib.hid (show res zs fs = wrongTo fs M from by rw [ER.out, Hz.out]; rfl)
      have E2 := Lib.hid (show cod zs fs = 0 from by rw [EC.out, Hz.out]; rfl)
      go_wp2_with fail
      go_loopw [11, 73] (fun o x wz => ∃ (y y' : Nat) (A' : Option Addr) (c' : Nat), y ≤ M ∧ y' ≤ y ∧ x = .int .i64 y ∧ o = .slice A' y' c' ∧ OwnI 2 wz wr.heap.size A' y' c' (wrongTo fs y) ∧ Below wr.heap.size wr wz) (fun _ x _ => M - (intOf x).toNat)
      case atStart => exact ⟨0, 0, some ⟨wr.heap.size, 0, none⟩, 0, Nat.zero_le _, Nat.le_refl _, rfl, rfl, OwnI.empty _ (Nat.le_refl _), (Below.refl _ _).alloc (Nat.le_refl _) _⟩
      case round =>
        obtain ⟨y, y', A', c', hy, hy', rfl, rfl, hownI, hbz⟩ := hrel
        by_cases hyM : y < M
        · have hcellb := (hown3.below hbz).cell bE_len hyM (j := 0) (by omega)
          rw [tog_ge hyM, if_neg (by omega)] at hcellb
          simp only [bE, Nat.mul_one, Nat.add_zero, List.getElem?_cons_zero] at hcellb
          rcases bool_cases (odd fs y) with ho | ho
          · rw [ho] at hcellb
            have HY := Lib.hid ho
            clear ho
            go_wp2_with (at_builtin; refine wpl_appI _ _ Try.underlying24 infoInt rfl _ _ rfl _ _ y' _ _ rfl hownI (y : Int) rfl (by omega) hbz.size ?_; intro A2 c2 w2 hown4 hB3 hg3)
            go_roundw
            case rel => exact ⟨y + 1, y' + 1, A2, c2, by omega, by omega, by go_num, rfl, by rw [wrongTo_yes HY.out]; exact hown4, hbz.trans (hB3 _ (Nat.le_refl _))⟩
            case measure => simp [intOf]; omega
          · rw [ho] at hcellb
            have HY := Lib.hid ho
            clear ho
            go_wp2
            go_roundw
            case rel => exact ⟨y + 1, y', A', c', by omega, by omega, by go_num, rfl, by rw [wrongTo_no HY.out]; exact hownI, hbz⟩
            case measure => simp [intOf]; omega
        · have hyE : y = M := by omega
          have HYE := Lib.hid hyE
          clear hyE
          go_wp2
          go_ret2
          rw [E1.out, E2.out]
          rw [HYE.out] at hownI
          exact ⟨_, _, _, rfl, hownI.weaken hb.size, below_next hbz hb (Nat.le_refl _)⟩
end CellErrors
end Go.Proofs.Ytjehkjdehkdjcaa
