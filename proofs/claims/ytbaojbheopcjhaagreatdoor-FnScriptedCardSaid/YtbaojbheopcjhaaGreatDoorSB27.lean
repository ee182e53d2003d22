/- Walks, laws and small notions for the claims of this seat, several texts as one (CellA, As). Conditions: as each theorem states them. -/
import Derived.Test.YtbaojbheopcjhaaGreatDoorSB24
import Derived.Test.YtbaojbheopcjhaaGreatDoorSB26
namespace Go.Proofs.YtbaojbheopcjhaaGreatDoor
open Go.RowKit

/-- the code of a list and a script -/
def bsCode (zs : List Int) (fs : List Flt) : Int := if isBits zs then (if isScript fs then 0 else 2) else 1

set_option maxHeartbeats 1000000 in
theorem scriptCode_any (A B : Option Addr) (n c m d : Nat) (zs : List Int) (fs : List Flt) (w : World) (h : RI w w.heap.size A n zs) (hn : n ≤ 1099511627776) (hf : RE encF 4 w w.heap.size B m fs) (hm : m ≤ 1099511627776) :
    Calls Tryz.prog 31 #[.slice A n c, .slice B m d] w (RetV w (.int .i64 (bsCode zs fs))) := by
  rcases bool_cases (isBits zs) with hz | hz
  case inr =>
    have E := Lib.hid (show bsCode zs fs = 1 from by simp [bsCode, hz])
    go_enter Tryz.func31, Tryz.ntmps31
    go_wp2_with (go_at_call 46; refine (iIsBits_any _ _ _ _ _ h hn).mono ?_; rintro e w' ⟨rfl, rfl⟩)
    go_ret
    exact ⟨ret_int E.out.symm, by go_grown⟩
  rcases bool_cases (isScript fs) with hs | hs
  all_goals
    go_enter Tryz.func31, Tryz.ntmps31
    go_wp2_with (go_at_call 46; refine (iIsBits_any _ _ _ _ _ h hn).mono ?_; rintro e w' ⟨rfl, rfl⟩)
    refine (iIsScript_any B m d fs w hf hm).mono ?_
    rw [hs]
    rintro e w1 ⟨rfl, hb1⟩
    go_wp2
    go_ret
    exact ⟨ret_int (by simp [bsCode, hz, hs]), hb1⟩

namespace CellErrors
end CellErrors
end Go.Proofs.YtbaojbheopcjhaaGreatDoor

namespace Go.Proofs.YtbaojbheopcjhaaGreatDoor
open Go.RowKit
theorem isScript_all {fs : List Flt} (h : isScript fs = true) : allF fs = true := by
  unfold isScript at h; simp only [Bool.and_eq_true, decide_eq_true_eq] at h; exact h.2
/-- a slice of the call's own is handed back, of whatever length the list has -/
def RetL (T : TypeId) (w0 : World) (zs : List Int) (e : Ending) (w' : World) : Prop :=
  ∃ A n c, e = .returned (.slice A n c) ∧ OwnI T w' w0.heap.size A n c zs ∧ Below w0.heap.size w0 w'
theorem RetI.toL {T : TypeId} {w0 : World} {n : Nat} {zs : List Int} {e : Ending} {w' : World} (h : RetI T w0 n zs e w') : RetL T w0 zs e w' :=
  let ⟨A, c, h1, h2, h3⟩ := h; ⟨A, n, c, h1, h2, h3⟩
namespace ApplyScript
theorem l24L (A : Option Addr) (n c : Nat) (zs : List Int) (f : Flt) (w : World) (hri : RI w w.heap.size A n zs) (hz : isBits zs = true) (hf : isFault f = true) (hA : Pl A c) (hnc : n ≤ c) (hcm : c ≤ maxLen) :
    Calls Tryz.prog 64 #[.slice A n c, .agg #[.int .i64 f.kd, .int .i64 f.pos, .int .i64 f.len, .int .i64 f.val]] w (RetL 2 w (appF zs f)) :=
  (ApplyFault.l24Apply_any A n c zs f.kd f.pos f.len f.val w hri hz hf hA hnc hcm).mono fun _ _ h => RetI.toL h
theorem apfL (A : Option Addr) (n c : Nat) (zs : List Int) (f : Flt) (w : World) (hri : RI w w.heap.size A n zs) (hz : isBits zs = true) (hf : isFault f = true) (hA : A = none → c = 0) :
    Calls Tryz.prog 59 #[.slice A n c, .agg #[.int .i64 f.kd, .int .i64 f.pos, .int .i64 f.len, .int .i64 f.val]] w (RetL 2 w (appF zs f)) :=
  (ApplyFault.applyFault_any A n c zs f.kd f.pos f.len f.val w hri hz hf hA).mono fun _ _ h => RetI.toL h

set_option maxHeartbeats 2000000 in
theorem l25Apply_any (A : Option Addr) (n c : Nat) (zs : List Int) (B : Option Addr) (m d : Nat) (fs : List Flt) (w : World) (h : RI w w.heap.size A n zs) (hz : isBits zs = true) (hA : A = none → c = 0) (hf : RE encF 4 w w.heap.size B m fs) (hall : allF fs = true) (hm : m ≤ 1099511627776) :
    Calls Tryz.prog 28 #[.slice A n c, .slice B m d] w (RetI 2 w (lenS n fs) (appS zs fs)) := by
  have L := Lib.hid h.len
  have LF := Lib.hid hf.len
  have HZ := Lib.hid hz
  have HA := Lib.hid hall
  have hn : n ≤ 8192 := by rw [← h.len]; exact isBits_len hz
  clear hz hall
  go_enter Tryz.func28, Tryz.ntmps28
  go_wp2_with fail
  refine (l01Own_any A n c zs w h (by omega) hA).mono ?_
  rintro e w1 ⟨A1, c1, rfl, hown1, hb1⟩
  go_wp2_with fail
  go_loopw [5, 6] (fun o i wr => ∃ (k n' : Nat) (A' : Option Addr) (c' : Nat), k ≤ m ∧ i = .int .i64 k ∧ o = .slice A' n' c' ∧ OwnI 2 wr w.heap.size A' n' c' (appS zs (fs.take k)) ∧ Below w.heap.size w wr) (fun _ i _ => m - (intOf i).toNat)
  case atStart => exact ⟨0, n, A1, c1, Nat.zero_le _, rfl, rfl, hown1, hb1⟩
  case round =>
    obtain ⟨k, n', A', c', hk, rfl, rfl, hown, hb⟩ := hrel
    by_cases hlt : k < m
    · obtain ⟨b, o, rfl, hbl, hc⟩ := (hf.below hb (Nat.le_refl _)).get (by omega)
      have hc0 := hc k hlt 0 _ rfl
      have hc1 := hc k hlt 1 _ rfl
      have hc2 := hc k hlt 2 _ rfl
      have hc3 := hc k hlt 3 _ rfl
      clear hc
      rw [Nat.add_zero] at hc0
      have hfl := allF_ge HA.out (k := k) (by rw [LF.out]; exact hlt)
      have hbits : isBits (appS zs (fs.take k)) = true := appS_bits HZ.out (allF_take' k HA.out)
      have ST := Lib.hid (appS_take (zs := zs) (fs := fs) (k := k) (by rw [LF.out]; exact hlt))
      have HFL := Lib.hid hfl
      have HBT := Lib.hid hbits
      clear hfl hbits
      have hcap := hown.cap
      go_wp2_with fail
      refine (l24L A' n' c' _ (ge fs k) _ hown.reads HBT.out HFL.out hown.pl hcap.1 hcap.2).mono ?_
      rintro e w2 ⟨A2, n2, c2, rfl, hown2, hb2⟩
      have HO2 := Lib.hid hown2
      clear hown2
      go_wp2_with fail
      go_roundw
      case rel =>
        have := HO2.out
        exact ⟨k + 1, n2, A2, c2, by omega, by go_num, rfl, by rw [ST.out]; exact this.weaken hb.size, below_next hb2 hb (Nat.le_refl _)⟩
      case measure => simp [intOf]; omega
    · have hkm : k = m := by omega
      have HK := Lib.hid (show fs.take k = fs by rw [List.take_of_length_le (by rw [LF.out]; omega)])
      clear hkm
      have hl := hown.len
      rw [HK.out, appS_len, L.out] at hl
      rw [HK.out] at hown
      have HL := Lib.hid hl
      clear hl
      go_wp2
      go_ret
      rw [HL.out]
      exact ⟨A', c', rfl, hown, hb⟩

set_option maxHeartbeats 2000000 in
theorem applyScript_any (A : Option Addr) (n c : Nat) (zs : List Int) (B : Option Addr) (m d : Nat) (fs : List Flt) (w : World) (h : RI w w.heap.size A n zs) (hz : isBits zs = true) (hA : A = none → c = 0) (hf : RE encF 4 w w.heap.size B m fs) (hall : allF fs = true) (hm : m ≤ 1099511627776) :
    Calls Tryz.prog 25 #[.slice A n c, .slice B m d] w (RetI 2 w (lenS n fs) (appS zs fs)) := by
  have L := Lib.hid h.len
  have LF := Lib.hid hf.len
  have HZ := Lib.hid hz
  have HA := Lib.hid hall
  have hn : n ≤ 8192 := by rw [← h.len]; exact isBits_len hz
  clear hz hall
  go_enter Tryz.func25, Tryz.ntmps25
  go_wp2_with fail
  refine (SilenceFrom.clone_any A n c zs w h (by omega) hA).mono ?_
  rintro e w1 ⟨A1, c1, rfl, hown1, hb1⟩
  go_wp2_with fail
  go_loopw [5, 12] (fun o i wr => ∃ (k n' : Nat) (A' : Option Addr) (c' : Nat), k ≤ m ∧ i = .int .i64 k ∧ o = .slice A' n' c' ∧ OwnI 2 wr w.heap.size A' n' c' (appS zs (fs.take k)) ∧ Below w.heap.size w wr) (fun _ i _ => m - (intOf i).toNat)
  case atStart => exact ⟨0, n, A1, c1, Nat.zero_le _, rfl, rfl, hown1, hb1⟩
  case round =>
    obtain ⟨k, n', A', c', hk, rfl, rfl, hown, hb⟩ := hrel
    by_cases hlt : k < m
    · obtain ⟨b, o, rfl, hbl, hc⟩ := (hf.below hb (Nat.le_refl _)).get (by omega)
      have hc0 := hc k hlt 0 _ rfl
      have hc1 := hc k hlt 1 _ rfl
      have hc2 := hc k hlt 2 _ rfl
      have hc3 := hc k hlt 3 _ rfl
      clear hc
      rw [Nat.add_zero] at hc0
      have hfl := allF_ge HA.out (k := k) (by rw [LF.out]; exact hlt)
      have hbits : isBits (appS zs (fs.take k)) = true := appS_bits HZ.out (allF_take' k HA.out)
      have ST := Lib.hid (appS_take (zs := zs) (fs := fs) (k := k) (by rw [LF.out]; exact hlt))
      have HFL := Lib.hid hfl
      have HBT := Lib.hid hbits
      have HO := Lib.hid hown
      have HB := Lib.hid hb
      clear hfl hbits hown hb
      go_wp2_with fail
      refine (apfL A' n' c' _ (ge fs k) _ (by exact (HO.out.alloc _).reads) HBT.out HFL.out (own_none HO.out)).mono ?_
      rintro e w2 ⟨A2, n2, c2, rfl, hown2, hb2⟩
      have HO2 := Lib.hid hown2
      have HB2 := Lib.hid hb2
      clear hown2 hb2
      go_wp2_with fail
      go_roundw
      case rel =>
        have hb' := HB.out
        have := HO2.out
        refine ⟨k + 1, n2, A2, c2, by omega, by go_num, rfl, ?_, below_next HB2.out (below_alloc hb' (Nat.le_refl _) _) (Nat.le_refl _)⟩
        rw [ST.out]
        exact this.weaken (Nat.le_trans hb'.size (by rw [isz_alloc]; omega))
      case measure => simp [intOf]; omega
    · have hkm : k = m := by omega
      have HK := Lib.hid (show fs.take k = fs by rw [List.take_of_length_le (by rw [LF.out]; omega)])
      clear hkm
      have hl := hown.len
      rw [HK.out, appS_len, L.out] at hl
      rw [HK.out] at hown
      have HL := Lib.hid hl
      clear hl
      go_wp2
      go_ret
      rw [HL.out]
      exact ⟨A', c', rfl, hown, hb⟩

def res (zs : List Int) (fs : List Flt) : List Int := if bsCode zs fs = 0 then appS zs fs else []
theorem bs_ok {zs : List Int} {fs : List Flt} (h : bsCode zs fs = 0) : isBits zs = true ∧ isScript fs = true := by
  unfold bsCode at h
  split at h
  · split at h
    · exact ⟨by assumption, by assumption⟩
    · cases h
  · cases h
theorem bs_of {zs : List Int} {fs : List Flt} (h1 : isBits zs = true) (h2 : isScript fs = true) : bsCode zs fs = 0 := by simp [bsCode, h1, h2]
set_option maxHeartbeats 2000000 in
theorem impl_any (A : Option Addr) (n c : Nat) (zs : List Int) (B : Option Addr) (m d : Nat) (fs : List Flt) (w : World) (h : RI w w.heap.size A n zs) (hn' : n ≤ 1099511627776) (hA : A = none → c = 0) (hf : RE encF 4 w w.heap.size B m fs) (hm' : m ≤ 1099511627776) :
    Calls Tryz.prog 11 #[.slice A n c, .slice B m d] w (RetIC 2 w (res zs fs) (bsCode zs fs)) := by
  obtain ⟨q, hq⟩ : ∃ q, bsCode zs fs = q := ⟨_, rfl⟩
  have HQ := Lib.hid hq
  by_cases h1 : q = 0
  case neg =>
    have h2 : (q != 0) = true := by simp [h1]
    have E1 := Lib.hid (show res zs fs = [] from by unfold res; rw [hq, if_neg h1])
    have H1 := Lib.hid h1
    clear hq h1
    go_enter Tryz.func11, Tryz.ntmps11
    go_wp2_with fail
    refine (scriptCode_any A B n c m d zs fs w h hn' hf hm').mono ?_
    rw [HQ.out]
    rintro e w1 ⟨rfl, hb1⟩
    go_wp2
    go_ret2
    rw [E1.out, HQ.out]
    exact ⟨none, 0, 0, rfl, OwnI.nil _ _ _, hb1⟩
  subst h1
  obtain ⟨hbits, hscr⟩ := bs_ok hq
  have HZ := Lib.hid hbits
  have HS := Lib.hid hscr
  have E1 := Lib.hid (show res zs fs = appS zs fs from by unfold res; rw [hq, if_pos rfl])
  clear hq hbits hscr
  go_enter Tryz.func11, Tryz.ntmps11
  go_wp2_with fail
  refine (scriptCode_any A B n c m d zs fs w h hn' hf hm').mono ?_
  rw [HQ.out]
  rintro e w1 ⟨rfl, hb1⟩
  go_wp2_with fail
  refine (applyScript_any A n c zs B m d fs _ (h.up hb1) HZ.out hA (hf.up hb1) (isScript_all HS.out) hm').mono ?_
  rintro e w2 ⟨A2, c2, rfl, hown2, hb2⟩
  go_wp2
  go_ret2
  rw [E1.out, HQ.out]
  exact ⟨_, _, _, rfl, hown2.weaken hb1.size, below_next hb2 hb1 (Nat.le_refl _)⟩
end ApplyScript
end Go.Proofs.YtbaojbheopcjhaaGreatDoor
