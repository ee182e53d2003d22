/- l24Apply and applyFault at every valid fault; ApplyFault of both sides. Conditions: none. -/
import Derived.Test.YtlfbmedgkkfalaaApA
import Derived.Test.YtlfbmedgkkfalaaApE
namespace Go.Proofs.Ytlfbmedgkkfalaa
open Go.RowKit

theorem isFault_parts {f : Flt} (h : isFault f = true) : ∃ q l : Nat, f.pos = q ∧ f.len = l ∧ q ≤ 8192 ∧ l ≤ 8192 ∧ (f.kd = 1 ∧ l = 0 ∧ f.val = 0 ∨ f.kd = 2 ∧ 1 ≤ l ∧ f.val = 0 ∨ f.kd = 3 ∧ 1 ≤ l ∧ f.val = 0 ∨ f.kd = 4 ∧ 1 ≤ l ∨ f.kd = 5 ∧ l = 0 ∧ f.val = 0 ∨ f.kd = 6 ∧ 1 ≤ l) := by
  have h1 := isFault_kd h
  have h2 := isFault_pos h
  have h3 := isFault_len h
  refine ⟨f.pos.toNat, f.len.toNat, by omega, by omega, by omega, by omega, ?_⟩
  unfold isFault at h
  simp only [Bool.and_eq_true] at h
  obtain ⟨_, _, ha, hb⟩ := h
  have hk : f.kd = 1 ∨ f.kd = 2 ∨ f.kd = 3 ∨ f.kd = 4 ∨ f.kd = 5 ∨ f.kd = 6 := by omega
  rcases hk with e | e | e | e | e | e <;> rw [e] at ha hb ⊢ <;> simp [hasLen, hasVal, inR] at ha hb ⊢ <;> omega

theorem isBits_len {zs : List Int} (h : isBits zs = true) : zs.length ≤ 8192 := (isBits_iff.1 h).1

namespace ApplyFault

theorem l24Apply_any (A : Option Addr) (n c : Nat) (zs : List Int) (k p l v : Int) (w : World) (hri : RI w w.heap.size A n zs) (hz : isBits zs = true) (hf : isFault ⟨k, p, l, v⟩ = true) (hA : Pl A c) (hnc : n ≤ c) (hcm : c ≤ maxLen) :
    Calls Try.prog 164 #[.slice A n c, .agg #[.int .i64 k, .int .i64 p, .int .i64 l, .int .i64 v]] w (RetI 2 w (lenF n ⟨k, p, l, v⟩) (appF zs ⟨k, p, l, v⟩)) := by
  have hL := hri.len
  have hn : n ≤ 8192 := by rw [← hL]; exact isBits_len hz
  obtain ⟨q, m, hq, hm, hq8, hm8, hk⟩ := isFault_parts hf
  simp only at hq hm hk
  subst hq hm
  rcases hk with ⟨rfl, hm0, rfl⟩ | ⟨rfl, hm1, rfl⟩ | ⟨rfl, hm1, rfl⟩ | ⟨rfl, hm1⟩ | ⟨rfl, hm0, rfl⟩ | ⟨rfl, hm1⟩
  · obtain rfl := hm0
    have := l24Apply_flip A n c zs q w hri hn hq8 hA.cap hz
    simpa [lenF, appF, hL] using this
  · have := l24Apply_inv A n c zs q m w hri hn hq8 hm8 hm1 hA.cap hz
    simpa [lenF, appF, hL] using this
  · have := l24Apply_drop A n c zs q m w hri hn hq8 hm8 hm1 hA hnc hcm
    simpa [lenF, appF, hL] using this
  · by_cases hqn : q ≤ n
    · have := l24Apply_ins A n c zs q m v w hri hn hq8 hm8 hm1 hA hnc hcm hqn
      simpa [lenF, appF, hL, hqn] using this
    · have := l24Apply_far A n c zs q m v w hri hn hq8 hm8 hA (by omega)
      simpa [lenF, appF, hL, hqn] using this
  · obtain rfl := hm0
    have := SilenceFrom.l24Apply_sil A n c zs q w hri hn hq8 hA.cap
    simpa [lenF, appF, hL] using this
  · have := l24Apply_set A n c zs q m v w hri hn hq8 hm8 hm1 hA.cap hz
    simpa [lenF, appF, hL] using this

theorem applyFault_any (A : Option Addr) (n c : Nat) (zs : List Int) (k p l v : Int) (w : World) (hri : RI w w.heap.size A n zs) (hz : isBits zs = true) (hf : isFault ⟨k, p, l, v⟩ = true) (hA : A = none → c = 0) :
    Calls Try.prog 166 #[.slice A n c, .agg #[.int .i64 k, .int .i64 p, .int .i64 l, .int .i64 v]] w (RetI 2 w (lenF n ⟨k, p, l, v⟩) (appF zs ⟨k, p, l, v⟩)) := by
  have hL := hri.len
  have hn : n ≤ 8192 := by rw [← hL]; exact isBits_len hz
  obtain ⟨q, m, hq, hm, hq8, hm8, hk⟩ := isFault_parts hf
  simp only at hq hm hk
  subst hq hm
  rcases hk with ⟨rfl, hm0, rfl⟩ | ⟨rfl, hm1, rfl⟩ | ⟨rfl, hm1, rfl⟩ | ⟨rfl, hm1⟩ | ⟨rfl, hm0, rfl⟩ | ⟨rfl, hm1⟩
  · obtain rfl := hm0
    have := applyFault_flip A n c zs q w hri hn hq8 hz hA
    simpa [lenF, appF, hL] using this
  · have := applyFault_inv A n c zs q m w hri hn hq8 hm8 hz hA
    simpa [lenF, appF, hL] using this
  · have := applyFault_drop A n c zs q m w hri hn hq8 hm8 hm1 hA
    simpa [lenF, appF, hL] using this
  · by_cases hqn : q ≤ n
    · have := applyFault_ins A n c zs q m v w hri hn hq8 hm8 hm1 hA hqn
      simpa [lenF, appF, hL, hqn] using this
    · have := applyFault_far A n c zs q m v w hri hn hq8 hm8 (by omega) hA
      simpa [lenF, appF, hL, hqn] using this
  · obtain rfl := hm0
    have := SilenceFrom.applyFault_sil A n c zs q w hri hn hq8 hA
    simpa [lenF, appF, hL] using this
  · have := applyFault_set A n c zs q m v w hri hn hq8 hm8 hA
    simpa [lenF, appF, hL] using this

def res (zs : List Int) (f : Flt) : List Int := if isBits zs = true ∧ isFault f = true then appF zs f else []
def cod (zs : List Int) (f : Flt) : Int := if isBits zs then (if isFault f then 0 else 2) else 1
theorem res_len (zs : List Int) (f : Flt) : (res zs f).length ≤ 8192 := by
  unfold res
  split
  · rename_i h
    exact isBits_len (appF_bits h.1 h.2)
  · simp

set_option maxRecDepth 20000 in
set_option maxHeartbeats 4000000 in
theorem spec_any (A : Option Addr) (n c : Nat) (zs : List Int) (k p l v : Int) (w : World) (h : RI w w.heap.size A n zs) (hn' : n ≤ 1099511627776) (hA : Pl A c) (hnc : n ≤ c) (hcm : c ≤ maxLen) :
    Calls Try.prog 61 #[.slice A n c, .agg #[.int .i64 k, .int .i64 p, .int .i64 l, .int .i64 v]] w (RetIC 2 w (res zs ⟨k, p, l, v⟩) (cod zs ⟨k, p, l, v⟩)) := by
  have hb0 : Below w.heap.size w (w.alloc (.cells #[.int .i64 k, .int .i64 p, .int .i64 l, .int .i64 v] 76)) := (Below.refl _ _).alloc (Nat.le_refl _) _
  have hbx := Blk4.new w 76 (.int .i64 k) (.int .i64 p) (.int .i64 l) (.int .i64 v)
  have hr0 := h.up hb0
  obtain ⟨w0, hw0⟩ : ∃ x, w.alloc (.cells #[.int .i64 k, .int .i64 p, .int .i64 l, .int .i64 v] 76) = x := ⟨_, rfl⟩
  rw [hw0] at hb0 hr0 hbx
  have HB := Lib.hid hb0
  clear hb0
  have f0 := hbx.c0
  have f1 := hbx.c1
  have f2 := hbx.c2
  have f3 := hbx.c3
  rcases bool_cases (isBits zs) with hz | hz
  case inr =>
    have E1 := Lib.hid (show res zs ⟨k, p, l, v⟩ = [] from by simp [res, hz])
    have E2 := Lib.hid (show cod zs ⟨k, p, l, v⟩ = 1 from by simp [cod, hz])
    go_enter Try.func61, Try.ntmps61
    go_wp2_with fail
    refine (sIsBits_any _ _ _ _ _ hr0 hn').mono ?_
    rw [hz]
    rintro e w' ⟨rfl, rfl⟩
    go_wp2
    go_ret2
    rw [E1.out, E2.out]
    exact ⟨none, 0, 0, rfl, OwnI.nil _ _ _, HB.out⟩
  rcases bool_cases (isFault ⟨k, p, l, v⟩) with hr | hr
  case inr =>
    have E1 := Lib.hid (show res zs ⟨k, p, l, v⟩ = [] from by simp [res, hr])
    have E2 := Lib.hid (show cod zs ⟨k, p, l, v⟩ = 2 from by simp [cod, hz, hr])
    go_enter Try.func61, Try.ntmps61
    go_wp2_with fail
    refine (sIsBits_any _ _ _ _ _ hr0 hn').mono ?_
    rw [hz]
    rintro e w' ⟨rfl, rfl⟩
    go_wp2_with fail
    refine (sIsFault_any _ _ _ _ _).mono ?_
    rw [hr]
    rintro e w1 ⟨rfl, hb1⟩
    go_wp2
    go_ret2
    rw [E1.out, E2.out]
    exact ⟨none, 0, 0, rfl, OwnI.nil _ _ _, below_next hb1 HB.out (Nat.le_refl _)⟩
  have E1 := Lib.hid (show res zs ⟨k, p, l, v⟩ = appF zs ⟨k, p, l, v⟩ from by simp [res, hz, hr])
  have E2 := Lib.hid (show cod zs ⟨k, p, l, v⟩ = 0 from by simp [cod, hz, hr])
  have HZ := Lib.hid hz
  have HR := Lib.hid hr
  clear hz hr
  go_enter Try.func61, Try.ntmps61
  go_wp2_with fail
  refine (sIsBits_any _ _ _ _ _ hr0 hn').mono ?_
  rw [HZ.out]
  rintro e w' ⟨rfl, rfl⟩
  go_wp2_with fail
  refine (sIsFault_any _ _ _ _ _).mono ?_
  rw [HR.out]
  rintro e w1 ⟨rfl, hb1⟩
  have hbk := hbx.next hb1
  have e0 := hbk.c0
  have e1 := hbk.c1
  have e2 := hbk.c2
  have e3 := hbk.c3
  clear f0 f1 f2 f3
  go_wp2_with fail
  refine (l24Apply_any A n c zs k p l v _ (hr0.up hb1) HZ.out HR.out hA hnc hcm).mono ?_
  rintro e w2 ⟨A2, c2, rfl, hown2, hb2⟩
  go_wp2
  go_ret2
  rw [E1.out, E2.out]
  exact ⟨_, _, _, rfl, hown2.weaken (Nat.le_trans HB.out.size hb1.size), below_next hb2 (below_next hb1 HB.out (Nat.le_refl _)) (Nat.le_refl _)⟩
set_option maxRecDepth 20000 in
set_option maxHeartbeats 4000000 in
theorem impl_any (A : Option Addr) (n c : Nat) (zs : List Int) (k p l v : Int) (w : World) (h : RI w w.heap.size A n zs) (hn' : n ≤ 1099511627776) (hA : A = none → c = 0) :
    Calls Try.prog 64 #[.slice A n c, .agg #[.int .i64 k, .int .i64 p, .int .i64 l, .int .i64 v]] w (RetIC 2 w (res zs ⟨k, p, l, v⟩) (cod zs ⟨k, p, l, v⟩)) := by
  have hb0 : Below w.heap.size w (w.alloc (.cells #[.int .i64 k, .int .i64 p, .int .i64 l, .int .i64 v] 76)) := (Below.refl _ _).alloc (Nat.le_refl _) _
  have hbx := Blk4.new w 76 (.int .i64 k) (.int .i64 p) (.int .i64 l) (.int .i64 v)
  have hr0 := h.up hb0
  obtain ⟨w0, hw0⟩ : ∃ x, w.alloc (.cells #[.int .i64 k, .int .i64 p, .int .i64 l, .int .i64 v] 76) = x := ⟨_, rfl⟩
  rw [hw0] at hb0 hr0 hbx
  have HB := Lib.hid hb0
  clear hb0
  have f0 := hbx.c0
  have f1 := hbx.c1
  have f2 := hbx.c2
  have f3 := hbx.c3
  rcases bool_cases (isBits zs) with hz | hz
  case inr =>
    have E1 := Lib.hid (show res zs ⟨k, p, l, v⟩ = [] from by simp [res, hz])
    have E2 := Lib.hid (show cod zs ⟨k, p, l, v⟩ = 1 from by simp [cod, hz])
    go_enter Try.func64, Try.ntmps64
    go_wp2_with fail
    refine (iIsBits_any _ _ _ _ _ hr0 hn').mono ?_
    rw [hz]
    rintro e w' ⟨rfl, rfl⟩
    go_wp2
    go_ret2
    rw [E1.out, E2.out]
    exact ⟨none, 0, 0, rfl, OwnI.nil _ _ _, HB.out⟩
  rcases bool_cases (isFault ⟨k, p, l, v⟩) with hr | hr
  case inr =>
    have E1 := Lib.hid (show res zs ⟨k, p, l, v⟩ = [] from by simp [res, hr])
    have E2 := Lib.hid (show cod zs ⟨k, p, l, v⟩ = 2 from by simp [cod, hz, hr])
    go_enter Try.func64, Try.ntmps64
    go_wp2_with fail
    refine (iIsBits_any _ _ _ _ _ hr0 hn').mono ?_
    rw [hz]
    rintro e w' ⟨rfl, rfl⟩
    go_wp2_with fail
    refine (iIsFault_any _ _ _ _ _).mono ?_
    rw [hr]
    rintro e w1 ⟨rfl, hb1⟩
    go_wp2
    go_ret2
    rw [E1.out, E2.out]
    exact ⟨none, 0, 0, rfl, OwnI.nil _ _ _, below_next hb1 HB.out (Nat.le_refl _)⟩
  have E1 := Lib.hid (show res zs ⟨k, p, l, v⟩ = appF zs ⟨k, p, l, v⟩ from by simp [res, hz, hr])
  have E2 := Lib.hid (show cod zs ⟨k, p, l, v⟩ = 0 from by simp [cod, hz, hr])
  have HZ := Lib.hid hz
  have HR := Lib.hid hr
  clear hz hr
  go_enter Try.func64, Try.ntmps64
  go_wp2_with fail
  refine (iIsBits_any _ _ _ _ _ hr0 hn').mono ?_
  rw [HZ.out]
  rintro e w' ⟨rfl, rfl⟩
  go_wp2_with fail
  refine (iIsFault_any _ _ _ _ _).mono ?_
  rw [HR.out]
  rintro e w1 ⟨rfl, hb1⟩
  have hbk := hbx.next hb1
  have e0 := hbk.c0
  have e1 := hbk.c1
  have e2 := hbk.c2
  have e3 := hbk.c3
  clear f0 f1 f2 f3
  go_wp2_with fail
  refine (applyFault_any A n c zs k p l v _ (hr0.up hb1) HZ.out HR.out hA).mono ?_
  rintro e w2 ⟨A2, c2, rfl, hown2, hb2⟩
  go_wp2
  go_ret2
  rw [E1.out, E2.out]
  exact ⟨_, _, _, rfl, hown2.weaken (Nat.le_trans HB.out.size hb1.size), below_next hb2 (below_next hb1 HB.out (Nat.le_refl _)) (Nat.le_refl _)⟩
end ApplyFault
end Go.Proofs.Ytlfbmedgkkfalaa
