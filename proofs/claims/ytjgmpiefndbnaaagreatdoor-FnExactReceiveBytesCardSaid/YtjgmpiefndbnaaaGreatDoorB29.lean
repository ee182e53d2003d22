/- Walks, laws and small notions for the claims of this seat, several texts as one (Op, Nw, Rb, Mv). Conditions: as each theorem states them. -/
import Derived.Test.YtjgmpiefndbnaaaGreatDoorB18
import Derived.Test.YtjgmpiefndbnaaaGreatDoorB3
import Derived.Test.YtjgmpiefndbnaaaGreatDoorB17
import Derived.Test.YtjgmpiefndbnaaaGreatDoorB16
import Derived.Test.YtjgmpiefndbnaaaGreatDoorB19
import Derived.Test.YtjgmpiefndbnaaaGreatDoorB21
import Derived.Test.YtjgmpiefndbnaaaGreatDoorB22
import Derived.Test.YtjgmpiefndbnaaaGreatDoorB11
namespace Go.Proofs.YtjgmpiefndbnaaaGreatDoor
open Go.RowKit

/-- kind, request, a number of the state, and the data of a body of bytes -/
def bk (zs : List Int) : Nat := (gi zs 0).toNat / 64
def br (zs : List Int) : Nat := (gi zs 0).toNat / 8 % 8
def bq (zs : List Int) (a w : Nat) : Nat := if bk zs = 0 then 0 else (numB (((((zs.drop 1).take 8).flatMap bits8).drop a).take w)).toNat
def bdt (zs : List Int) : List Int := if bk zs = 0 then zs.drop 2 else if bk zs = 2 then zs.drop 10 else []
/-- a body of a frame -/
def bok (zs : List Int) : Bool := decide (1 ≤ zs.length) && (decide (bk zs = 0 ∨ 9 ≤ zs.length) &&
  (isFrame (bk zs) (br zs) (bq zs 0 16) (bq zs 16 4) (bq zs 20 4) (bq zs 24 8) (bq zs 32 32) (bdt zs) && decide (bodyP (bk zs) (br zs) (bq zs 0 16) (bq zs 16 4) (bq zs 20 4) (bq zs 24 8) (bq zs 32 32) (bdt zs) = zs)))
theorem bok_rest {zs : List Int} (h : bok zs = true) : (bk zs = 0 → 2 ≤ zs.length) ∧ (bk zs = 2 → 10 ≤ zs.length) := by
  unfold bok at h
  simp only [Bool.and_eq_true] at h
  have he := congrArg List.length (of_decide_eq_true h.2.2.2)
  unfold bodyP at he
  simp only [List.length_append, List.length_cons, List.length_nil] at he
  constructor
  · intro hk
    rw [if_pos hk, if_pos (.inl hk)] at he
    simp only [List.length_append, List.length_cons, List.length_nil] at he
    omega
  · intro hk
    rw [if_neg (by omega), if_pos (.inr hk), bytesB_len] at he
    simp only [List.length_append, List.length_cons, List.length_nil] at he
    omega
theorem bq_lt {zs : List Int} (hz : allR zs 0 255 = true) (a w : Nat) : bq zs a w < 2 ^ w := by
  unfold bq
  split
  · exact Nat.pos_of_ne_zero (by simp)
  · have h1 : allR (((zs.drop 1).take 8).flatMap bits8) 0 1 = true := by
      refine List.all_eq_true.2 fun z hz' => ?_
      obtain ⟨b, hb, hz'⟩ := List.mem_flatMap.1 hz'
      have h1 := inR_iff.1 (List.all_eq_true.1 (allR_part hz 1 8) b hb)
      obtain ⟨B, rfl⟩ : ∃ B : Nat, b = (B : Int) := ⟨b.toNat, by omega⟩
      rw [bits8_W] at hz'
      exact List.all_eq_true.1 (bitsW_01 B 8) z hz'
    have h2 := allR_part h1 a w
    have h3 := numB_lt h2 (((((zs.drop 1).take 8).flatMap bits8).drop a).take w).length (Nat.le_refl _)
    rw [List.take_length] at h3
    have h4 : (2 : Int) ^ (((((zs.drop 1).take 8).flatMap bits8).drop a).take w).length ≤ 2 ^ w := by
      have h5 : (((((zs.drop 1).take 8).flatMap bits8).drop a).take w).length ≤ w := by rw [List.length_take]; exact Nat.min_le_left _ _
      have h6 := Nat.pow_le_pow_right (n := 2) (by omega) h5
      exact_mod_cast h6
    have h7 : numB (((((zs.drop 1).take 8).flatMap bits8).drop a).take w) < (2 : Int) ^ w := by omega
    have h8 : ((2 ^ w : Nat) : Int) = (2 : Int) ^ w := by norm_cast
    omega
/-- three bytes and a number -/
theorem three_iff {a b c : Int} {N : Nat} (ha : 0 ≤ a ∧ a ≤ 255) (hb : 0 ≤ b ∧ b ≤ 255) (hc : 0 ≤ c ∧ c ≤ 255) :
    ([((N / 65536 : Nat) : Int), ((N / 256 % 256 : Nat) : Int), ((N % 256 : Nat) : Int)] = [a, b, c]) ↔ a * 65536 + b * 256 + c = (N : Int) := by
  constructor
  · intro h
    simp only [List.cons.injEq] at h
    omega
  · intro h
    obtain ⟨a, rfl⟩ : ∃ x : Nat, a = (x : Int) := ⟨a.toNat, by omega⟩
    obtain ⟨b, rfl⟩ : ∃ x : Nat, b = (x : Int) := ⟨b.toNat, by omega⟩
    obtain ⟨c, rfl⟩ : ∃ x : Nat, c = (x : Int) := ⟨c.toNat, by omega⟩
    have h1 : a = N / 65536 := by omega
    have h2 : c = N % 256 := by omega
    have h3 : N / 256 = a * 256 + b := by omega
    have h4 : N / 256 % 256 = b := by omega
    rw [h4, ← h1, ← h2]
/-- the code of a sealed list -/
def opC (zs : List Int) (id t md rn sl mb : Nat) : Int :=
  if zs.length < 4 then 6 else
    if gi zs (zs.length - 3) * 65536 + gi zs (zs.length - 3 + 1) * 256 + gi zs (zs.length - 3 + 2) = ((chkN (bk zs) (zs.take (zs.length - 3)) id t md rn sl mb : Nat) : Int) then
      (if bok (zs.take (zs.length - 3)) = true then
        (if bk zs = 0 ∨ (bq (zs.take (zs.length - 3)) 0 16 = t ∧ bq (zs.take (zs.length - 3)) 16 4 = md ∧ bq (zs.take (zs.length - 3)) 20 4 = rn ∧ bq (zs.take (zs.length - 3)) 24 8 = sl ∧ bq (zs.take (zs.length - 3)) 32 32 = mb) then 0 else 5)
      else 6)
    else 7
theorem bk_take {zs : List Int} {n : Nat} (h : 1 ≤ n) : bk (zs.take n) = bk zs := by
  unfold bk
  rw [gi_take (by omega)]
end Go.Proofs.YtjgmpiefndbnaaaGreatDoor

namespace Go.Proofs.YtjgmpiefndbnaaaGreatDoor
open Go.RowKit

set_option maxHeartbeats 1000000 in
theorem numOfW_any (A : Option Addr) (n c : Nat) (zs : List Int) (w : World) (h : RI w w.heap.size A n zs) (hn : 1 ≤ n ∧ n ≤ 40) (hz : allR zs 0 1 = true) :
    Calls Tryz.prog 269 #[.slice A n c] w fun e w' => e = .returned (.int .i64 (numB zs)) ∧ w' = w := by
  have L := Lib.hid h.len
  obtain ⟨b, o, rfl, hbl, hc⟩ := h.get (by omega)
  have HB := Lib.hid (numB_lt hz)
  have HZ := Lib.hid hz
  have HC := Lib.hid hc
  clear hz hc
  go_enter Tryz.func269, Tryz.ntmps269
  go_wp2
  go_loop [3, 8] (fun v i => ∃ k : Nat, k ≤ n ∧ i = .int .i64 k ∧ v = .int .i64 (numB (zs.take k))) (fun _ i => n - (intOf i).toNat)
  case atStart => exact ⟨0, Nat.zero_le _, rfl, by rw [List.take_zero]; rfl⟩
  case round =>
    obtain ⟨k, hk, rfl, rfl⟩ := hrel
    by_cases hlt : k < n
    · have hcell := HC.out k hlt
      have h1 := HB.out k (by rw [L.out]; omega)
      have h2 := allR_gi HZ.out (k := k) (by rw [L.out]; omega)
      have hs := numB_take (zs := zs) (k := k) (by rw [L.out]; exact hlt)
      obtain ⟨x, hx⟩ : ∃ x, numB (zs.take k) = x := ⟨_, rfl⟩
      obtain ⟨y, hy⟩ : ∃ y, gi zs k = y := ⟨_, rfl⟩
      rw [hx] at h1 hs ⊢
      rw [hy] at h2 hs hcell
      have hp : (2 : Int) ^ k ≤ 2 ^ 40 := by
        have := Nat.pow_le_pow_right (n := 2) (by omega) (show k ≤ 40 by omega)
        exact_mod_cast this
      have hx1 : 0 ≤ x := h1.1
      have hx2 : x ≤ 1099511627776 := by have := h1.2; omega
      have HS := Lib.hid hs
      clear h1 hs hx hy hp
      go_wp2
      go_round
      case rel => exact ⟨k + 1, by omega, by go_num, by rw [HS.out]⟩
      case measure => simp [intOf]; omega
    · have hkn : k = n := by omega
      have HK := Lib.hid hkn
      clear hkn
      go_wp2
      go_ret
      exact ⟨ret_int (by rw [HK.out, List.take_of_length_le (by rw [L.out]; exact Nat.le_refl _)]), rfl⟩


set_option maxHeartbeats 1000000 in
theorem l01NumW_any (A : Option Addr) (n c at0 wd : Nat) (zs : List Int) (w : World) (h : RI w w.heap.size A n zs) (hn : n ≤ 1048576) (hq : at0 + wd ≤ n) (hw : 1 ≤ wd ∧ wd ≤ 40) (hz : allR zs 0 1 = true) :
    Calls Tryz.prog 276 #[.slice A n c, .int .i64 at0, .int .i64 wd] w fun e w' => e = .returned (.int .i64 (numB ((zs.drop at0).take wd))) ∧ w = w' := by
  have L := Lib.hid h.len
  obtain ⟨b, o, rfl, hbl, hc⟩ := h.get (by omega)
  have hpl : ((zs.drop at0).take wd).length = wd := by rw [List.length_take, List.length_drop, L.out]; omega
  have HB := Lib.hid (numB_lt (allR_part hz at0 wd))
  have HPL := Lib.hid hpl
  have HZ := Lib.hid hz
  have HC := Lib.hid hc
  clear hz hpl hc
  go_enter Tryz.func276, Tryz.ntmps276
  go_wp2
  go_loop [7, 8] (fun v i => ∃ k : Nat, k ≤ wd ∧ i = .int .i64 k ∧ v = .int .i64 (numB (((zs.drop at0).take wd).take k))) (fun _ i => wd - (intOf i).toNat)
  case atStart => exact ⟨0, Nat.zero_le _, rfl, by rw [List.take_zero]; rfl⟩
  case round =>
    obtain ⟨k, hk, rfl, rfl⟩ := hrel
    by_cases hlt : k < wd
    · have hcell := HC.out (at0 + k) (by omega)
      have h1 := HB.out k (by rw [HPL.out]; omega)
      have hg : gi ((zs.drop at0).take wd) k = gi zs (at0 + k) := by rw [gi_take hlt, gi_drop]
      have h2 := allR_gi HZ.out (k := at0 + k) (by rw [L.out]; omega)
      have hs := numB_take (zs := (zs.drop at0).take wd) (k := k) (by rw [HPL.out]; exact hlt)
      rw [hg] at hs
      obtain ⟨x, hx⟩ : ∃ x, numB (((zs.drop at0).take wd).take k) = x := ⟨_, rfl⟩
      obtain ⟨y, hy⟩ : ∃ y, gi zs (at0 + k) = y := ⟨_, rfl⟩
      rw [hx] at h1 hs ⊢
      rw [hy] at h2 hs hcell
      have hp : (2 : Int) ^ k ≤ 2 ^ 40 := by
        have := Nat.pow_le_pow_right (n := 2) (by omega) (show k ≤ 40 by omega)
        exact_mod_cast this
      have hx1 : 0 ≤ x := h1.1
      have hx2 : x ≤ 1099511627776 := by have := h1.2; omega
      have HS := Lib.hid hs
      clear h1 hg hs hx hy hp
      go_wp2
      go_round
      case rel => exact ⟨k + 1, by omega, by go_num, by rw [HS.out]⟩
      case measure => simp [intOf]; omega
    · have hkn : k = wd := by omega
      have HK := Lib.hid hkn
      clear hkn
      go_wp2
      go_ret
      exact ⟨ret_int (by rw [HK.out, List.take_of_length_le (by rw [HPL.out]; exact Nat.le_refl _)]), rfl⟩
theorem l01NumW_at (A : Option Addr) (n c at0 wd : Nat) (a' w' : Int) (ha : (at0 : Int) = a') (hw' : (wd : Int) = w') (zs : List Int) (w : World) (h : RI w w.heap.size A n zs) (hn : n ≤ 1048576) (hq : at0 + wd ≤ n) (hw : 1 ≤ wd ∧ wd ≤ 40) (hz : allR zs 0 1 = true) :
    Calls Tryz.prog 276 #[.slice A n c, .int .i64 a', .int .i64 w'] w fun e w' => e = .returned (.int .i64 (numB ((zs.drop at0).take wd))) ∧ w = w' := by
  subst ha; subst hw'
  exact l01NumW_any A n c at0 wd zs w h hn hq hw hz
end Go.Proofs.YtjgmpiefndbnaaaGreatDoor

namespace Go.Proofs.YtjgmpiefndbnaaaGreatDoor
open Go.RowKit

/-- the body of a sealed list -/
def bdy (zs : List Int) : List Int := zs.take (zs.length - 3)
/-- a frame of the call's own, and whether it is one -/
def RetFB (w0 : World) (zs : List Int) (e : Ending) (w' : World) : Prop :=
  ∃ (A : Option Addr) (n c : Nat) (k r t m d s b : Int), e = .returned (.tuple #[.agg #[.int .i64 k, .int .i64 r, .int .i64 t, .int .i64 m, .int .i64 d, .int .i64 s, .int .i64 b, .slice A n c], .bool (bok zs)]) ∧ Below w0.heap.size w0 w' ∧
    (bok zs = true → k = bk zs ∧ r = br zs ∧ t = bq zs 0 16 ∧ m = bq zs 16 4 ∧ d = bq zs 20 4 ∧ s = bq zs 24 8 ∧ b = bq zs 32 32 ∧ OwnI 2 w' w0.heap.size A n c (bdt zs))
/-- what the opening of a sealed list hands back -/
def OF (zs : List Int) (C : Int) (w : World) : Ending → World → Prop :=
  RetFC w (ifz C (bk (bdy zs))) (ifz C (br (bdy zs))) (ifz C (bq (bdy zs) 0 16)) (ifz C (bq (bdy zs) 16 4)) (ifz C (bq (bdy zs) 20 4)) (ifz C (bq (bdy zs) 24 8)) (ifz C (bq (bdy zs) 32 32)) (if C = 0 then bdt (bdy zs) else []) C
theorem OF_zero {zs : List Int} {C : Int} {w w' : World} (hC : C ≠ 0) (hb : Below w.heap.size w w') (e : Ending) (he : e = .returned (.tuple #[.agg #[.int .i64 0, .int .i64 0, .int .i64 0, .int .i64 0, .int .i64 0, .int .i64 0, .int .i64 0, .slice none 0 0], .int .i64 C])) : OF zs C w e w' := by
  unfold OF ifz
  rw [if_neg hC, if_neg hC, if_neg hC, if_neg hC, if_neg hC, if_neg hC, if_neg hC, if_neg hC]
  exact ⟨none, 0, 0, he, OwnI.nil _ _ _, hb⟩
/-- a frame fits a slot -/
def fitX (x : Sl) (zs : List Int) : Bool := fitD x.nd x.kd x.sz x.du x.ch (bk zs) (br zs) (bq zs 0 16) (bq zs 16 4) (bq zs 20 4) (bq zs 24 8) (bq zs 32 32) (bdt zs)
/-- why bytes are not correct -/
def causeB (M : Mdl) (t md rn sl mb : Int) (zs : List Int) : Int :=
  if opC zs M.id.toNat t.toNat md.toNat rn.toNat sl.toNat mb.toNat = 0 then (if fitX (ge M.ss (findI M.ss md rn sl)) (bdy zs) = true then 0 else 5) else opC zs M.id.toNat t.toNat md.toNat rn.toNat sl.toNat mb.toNat
/-- a verdict of the call's own and a code are handed back -/
def RetVC (w0 : World) (st k r ft fm fd fs fb : Int) (zs : List Int) (code : Int) (e : Ending) (w' : World) : Prop :=
  ∃ A n c, e = .returned (.tuple #[.agg #[.int .i64 st, .int .i64 k, .int .i64 r, .int .i64 ft, .int .i64 fm, .int .i64 fd, .int .i64 fs, .int .i64 fb, .slice A n c], .int .i64 code]) ∧ OwnI 2 w' w0.heap.size A n c zs ∧ Below w0.heap.size w0 w'
/-- the verdict on bytes, with its cause; P: whether the cause is the bytes' own -/
def VB (zs : List Int) (S C R : Int) (w : World) : Ending → World → Prop :=
  RetVC w S (ifz C (bk (bdy zs))) (ifz C (br (bdy zs))) (ifz C (bq (bdy zs) 0 16)) (ifz C (bq (bdy zs) 16 4)) (ifz C (bq (bdy zs) 20 4)) (ifz C (bq (bdy zs) 24 8)) (ifz C (bq (bdy zs) 32 32)) (if C = 0 then bdt (bdy zs) else []) R
theorem VB_zero {zs : List Int} {S C R : Int} {w w' : World} (hC : C ≠ 0) (hb : Below w.heap.size w w') (e : Ending) (he : e = .returned (.tuple #[.agg #[.int .i64 S, .int .i64 0, .int .i64 0, .int .i64 0, .int .i64 0, .int .i64 0, .int .i64 0, .int .i64 0, .slice none 0 0], .int .i64 R])) : VB zs S C R w e w' := by
  unfold VB ifz
  rw [if_neg hC, if_neg hC, if_neg hC, if_neg hC, if_neg hC, if_neg hC, if_neg hC, if_neg hC]
  exact ⟨none, 0, 0, he, OwnI.nil _ _ _, hb⟩
/-- the code of ReceiveBytes -/
def codeRB (M : Mdl) (t md rn sl mb : Int) (zs : List Int) : Int := if codeM M t md rn sl mb = 0 then (if isBytes zs = true then 0 else 2) else codeM M t md rn sl mb
/-- the cause, where the code is zero -/
def causeR (M : Mdl) (t md rn sl mb : Int) (zs : List Int) : Int := if codeRB M t md rn sl mb zs = 0 then causeB M t md rn sl mb zs else 1
def statR (M : Mdl) (t md rn sl mb : Int) (zs : List Int) : Int := if codeRB M t md rn sl mb zs = 0 then (if causeB M t md rn sl mb zs = 0 then 3 else 2) else 0
/-- the code of samples -/
def codeCS (M : Mdl) (t md rn sl mb : Int) (zs : List Int) : Int := if codeM M t md rn sl mb = 0 then (if isBits zs = true then 0 else 2) else codeM M t md rn sl mb
theorem isBytes_len {zs : List Int} (h : isBytes zs = true) : zs.length ≤ 1024 := by
  unfold isBytes at h
  rw [Bool.and_eq_true] at h
  exact of_decide_eq_true h.1
theorem isBytes_all {zs : List Int} (h : isBytes zs = true) : allR zs 0 255 = true := by
  unfold isBytes at h
  rw [Bool.and_eq_true] at h
  exact h.2
theorem allR_pre {zs : List Int} {lo hi : Int} (h : allR zs lo hi = true) (k : Nat) : allR (zs.take k) lo hi = true := List.all_eq_true.2 fun z hz => List.all_eq_true.1 h z (List.mem_of_mem_take hz)
theorem bdt_len {zs : List Int} : (bdt zs).length ≤ zs.length := by
  unfold bdt
  split
  · simp
  · split <;> simp
theorem bok_nil {zs : List Int} (h : zs.length = 0) : bok zs = false := by
  unfold bok
  rw [decide_eq_false (by omega)]; rfl
theorem bok_short {zs : List Int} (h : bk zs ≠ 0) (h2 : zs.length < 9) : bok zs = false := by
  unfold bok
  rw [decide_eq_false (p := bk zs = 0 ∨ 9 ≤ zs.length) (by omega)]; simp
theorem bok_no0 {zs : List Int} (h : bk zs = 0) (h2 : zs.length < 2) : bok zs = false :=
  Bool.eq_false_iff.2 fun hb => by have := (bok_rest hb).1 h; omega
theorem bok_no2 {zs : List Int} (h : bk zs = 2) (h2 : zs.length < 10) : bok zs = false :=
  Bool.eq_false_iff.2 fun hb => by have := (bok_rest hb).2 h; omega
/-- the frame of a body that is not too short -/
def bfr (zs : List Int) : Bool := isFrame (bk zs) (br zs) (bq zs 0 16) (bq zs 16 4) (bq zs 20 4) (bq zs 24 8) (bq zs 32 32) (bdt zs)
def bbd (zs : List Int) : List Int := bodyP (bk zs) (br zs) (bq zs 0 16) (bq zs 16 4) (bq zs 20 4) (bq zs 24 8) (bq zs 32 32) (bdt zs)
theorem bok_eq {zs : List Int} (h : 1 ≤ zs.length) (h2 : bk zs = 0 ∨ 9 ≤ zs.length) : bok zs = (bfr zs && decide (bbd zs = zs)) := by
  unfold bok bfr bbd
  rw [decide_eq_true h, decide_eq_true h2, Bool.true_and, Bool.true_and]
theorem vbL_len {C : Int} {zs : List Int} {n : Nat} (h : zs.length = n) : (if C = 0 then bdt (bdy zs) else []).length ≤ n := by
  split
  · have h1 := bdt_len (zs := bdy zs)
    have h2 : (bdy zs).length ≤ zs.length := by unfold bdy; rw [List.length_take]; omega
    omega
  · simp
end Go.Proofs.YtjgmpiefndbnaaaGreatDoor

namespace Go.Proofs.YtjgmpiefndbnaaaGreatDoor
open Go.RowKit
set_option maxHeartbeats 4000000 in
theorem markVr_any (st k r t m d s b : Int) (A : Option Addr) (n c base : Nat) (zs : List Int) (q : Int) (w : World) (h : OwnI 2 w base A n c zs) (hn : n ≤ 1099511627776) (hq : 0 ≤ q) (hq2 : q ≤ 1099511627776) :
    Calls Tryz.prog 38 #[.agg #[.int .i64 st, .int .i64 k, .int .i64 r, .int .i64 t, .int .i64 m, .int .i64 d, .int .i64 s, .int .i64 b, .slice A n c], .int .i64 q] w fun e w' => e = .returned (.int .i64 (q + n)) ∧ OwnI 2 w' base A n c (marks q n) ∧ w.grownBy w' (Value.slice A n c).ownBlock := by
  obtain ⟨w0, hw0⟩ : ∃ v, v = w.alloc (.cells #[.int .i64 st, .int .i64 k, .int .i64 r, .int .i64 t, .int .i64 m, .int .i64 d, .int .i64 s, .int .i64 b, .slice A n c] 72) := ⟨_, rfl⟩
  have k0 : BlkL w0 w.heap.size 72 [.int .i64 st, .int .i64 k, .int .i64 r, .int .i64 t, .int .i64 m, .int .i64 d, .int .i64 s, .int .i64 b, .slice A n c] := by rw [hw0]; exact BlkL.new _ _ _ rfl
  have G0 := Lib.hid (show w.grownBy w0 (Value.slice A n c).ownBlock by rw [hw0]; exact World.grownBy_alloc w _ _)
  have H0 := Lib.hid (show OwnI 2 w0 base A n c zs by rw [hw0]; exact h.alloc _)
  have c0 := k0.c 0 rfl
  have c1 := k0.c 1 rfl
  have c2 := k0.c 2 rfl
  have c3 := k0.c 3 rfl
  have c4 := k0.c 4 rfl
  have c5 := k0.c 5 rfl
  have c6 := k0.c 6 rfl
  have c7 := k0.c 7 rfl
  have c8 := k0.c 8 rfl
  clear k0 h
  go_enter Tryz.func38, Tryz.ntmps38
  go_wp2_with fail
  rw [← hw0]
  clear hw0
  refine (markFrO_any k r t m d s b A n c base zs q _ H0.out hn hq hq2).mono ?_
  rintro e w1 ⟨rfl, ho, hg⟩
  have HO := Lib.hid ho
  have HG := Lib.hid (G0.out.trans hg)
  clear ho hg
  go_wp2
  go_ret
  exact ⟨rfl, HO.out, HG.out⟩

set_option maxHeartbeats 4000000 in
theorem heldVr_any (st k r t m d s b : Int) (A : Option Addr) (n c : Nat) (q : Int) (w : World) (h : RI w w.heap.size A n (marks q n)) (hn : n ≤ 1099511627776) (hq : 0 ≤ q) (hq2 : q ≤ 1099511627776) :
    Calls Tryz.prog 39 #[.agg #[.int .i64 st, .int .i64 k, .int .i64 r, .int .i64 t, .int .i64 m, .int .i64 d, .int .i64 s, .int .i64 b, .slice A n c], .int .i64 q] w (RetV w (.int .i64 (q + n))) := by
  obtain ⟨w0, hw0⟩ : ∃ v, v = w.alloc (.cells #[.int .i64 st, .int .i64 k, .int .i64 r, .int .i64 t, .int .i64 m, .int .i64 d, .int .i64 s, .int .i64 b, .slice A n c] 72) := ⟨_, rfl⟩
  have k0 : BlkL w0 w.heap.size 72 [.int .i64 st, .int .i64 k, .int .i64 r, .int .i64 t, .int .i64 m, .int .i64 d, .int .i64 s, .int .i64 b, .slice A n c] := by rw [hw0]; exact BlkL.new _ _ _ rfl
  have gb : Below w.heap.size w w0 := by rw [hw0]; go_grown
  have H0 := Lib.hid (h.up gb)
  have c0 := k0.c 0 rfl
  have c1 := k0.c 1 rfl
  have c2 := k0.c 2 rfl
  have c3 := k0.c 3 rfl
  have c4 := k0.c 4 rfl
  have c5 := k0.c 5 rfl
  have c6 := k0.c 6 rfl
  have c7 := k0.c 7 rfl
  have c8 := k0.c 8 rfl
  clear k0 h
  have hpos : ¬ (q + (n : Int)) < 0 := by omega
  go_enter Tryz.func39, Tryz.ntmps39
  go_wp2_with fail
  rw [← hw0]
  clear hw0
  refine (heldFr_any k r t m d s b A n c q _ H0.out hn hq hq2).mono ?_
  rintro e w1 ⟨rfl, hb1⟩
  have gb1 := below_next hb1 gb (Nat.le_refl _)
  clear gb hb1
  go_wp2
  go_ret
  exact ⟨rfl, gb1⟩
theorem eqVr_self (st k r t m d s b : Int) (A A' : Option Addr) (n c c' : Nat) (zs : List Int) (w : World) (h : RI w w.heap.size A n zs) (h' : RI w w.heap.size A' n zs) (hn : n ≤ 1099511627776) :
    Calls Tryz.prog 37 #[.agg #[.int .i64 st, .int .i64 k, .int .i64 r, .int .i64 t, .int .i64 m, .int .i64 d, .int .i64 s, .int .i64 b, .slice A n c], .agg #[.int .i64 st, .int .i64 k, .int .i64 r, .int .i64 t, .int .i64 m, .int .i64 d, .int .i64 s, .int .i64 b, .slice A' n c']] w (RetV w (.bool true)) := eqVerdict_self ⟨st, k, r, t, m, d, s, b⟩ A A' n c c' zs w h h' hn
end Go.Proofs.YtjgmpiefndbnaaaGreatDoor
