/- Walks, laws and small notions for the claims of this seat, several texts as one (Cel, Stc, NomI). Conditions: as each theorem states them. -/
import Derived.Test.YtjehkjdehkdjcaaB8
import Derived.Test.YtjehkjdehkdjcaaB10
import Derived.Test.YtjehkjdehkdjcaaB1
import Derived.Test.YtjehkjdehkdjcaaB5
import Derived.Test.YtjehkjdehkdjcaaB9
namespace Go.Proofs.Ytjehkjdehkdjcaa
open Go.RowKit

def bitsTo (d : Int) (m : Nat) : List Int := (List.range m).map (bitAt d)
theorem bitsTo_succ (d : Int) (m : Nat) : bitsTo d (m + 1) = bitsTo d m ++ [bitAt d m] := by simp [bitsTo, List.range_succ]
theorem bitsTo_8 (d : Int) : bitsTo d 8 = bits8 d := rfl
theorem bit_val (B k : Nat) (hB : B ≤ 255) : bits .and .i64 ((B : Int) / 2 ^ (7 - k)) 1 = bitAt B k := by
  have e : ((B : Int) / 2 ^ (7 - k)) = ((B / 2 ^ (7 - k) : Nat) : Int) := by simp
  rw [e, show (1 : Int) = ((1 : Nat) : Int) from rfl, bits_and_i64_nat _ _ (by have := Nat.div_le_self B (2 ^ (7 - k)); omega) (by omega), Nat.and_one_is_mod]
  unfold bitAt
  simp

theorem flat8_take {zs : List Int} {k : Nat} (h : k < zs.length) : (zs.take (k + 1)).flatMap bits8 = (zs.take k).flatMap bits8 ++ bits8 (gi zs k) := by rw [take_gi h]; simp

set_option maxRecDepth 20000 in
set_option maxHeartbeats 4000000 in
theorem l01Bits_any (A : Option Addr) (n c : Nat) (zs : List Int) (w : World) (h : RI w w.heap.size A n zs) (hn : n ≤ 1048576) (hz : allR zs 0 255 = true) :
    Calls Try.prog 201 #[.slice A n c] w (RetI 2 w (8 * n) (zs.flatMap bits8)) := by
  have L := Lib.hid h.len
  have HZ := Lib.hid hz
  clear hz
  go_enter Try.func201, Try.ntmps201
  go_wp2
  go_loopw [3, 4, 5] (fun o i _ wr => ∃ (k m : Nat) (A' : Option Addr) (c' : Nat), k ≤ n ∧ m = 8 * k ∧ i = .int .i64 k ∧ o = .slice A' m c' ∧ OwnI 2 wr w.heap.size A' m c' ((zs.take k).flatMap bits8) ∧ Below w.heap.size w wr) (fun _ i _ _ => n - (intOf i).toNat)
  case atStart => exact ⟨0, 0, some ⟨w.heap.size, 0, none⟩, 0, Nat.zero_le _, rfl, rfl, rfl, OwnI.empty _ (Nat.le_refl _), (Below.refl _ _).alloc (Nat.le_refl _) _⟩
  case round =>
    obtain ⟨k, m, A', c', hk, hmk, rfl, rfl, hown, hb⟩ := hrel
    have HMK := Lib.hid hmk
    have hm9 : m ≤ 8388608 := by omega
    clear hmk
    by_cases hlt : k < n
    · have hbk := allR_gi HZ.out (k := k) (by rw [L.out]; exact hlt)
      obtain ⟨B, hq⟩ : ∃ B : Nat, gi zs k = (B : Int) := ⟨(gi zs k).toNat, by omega⟩
      have hB : B ≤ 255 := by omega
      have HQ := Lib.hid hq
      clear hq hbk
      go_wp2
      go_loopw [3, 5] (fun o i wr => ∃ (j m2 : Nat) (q : Int) (A' : Option Addr) (c' : Nat), j ≤ 8 ∧ m2 = m + j ∧ q = 7 - (j : Int) ∧ i = .int .i64 q ∧ o = .slice A' m2 c' ∧ OwnI 2 wr w.heap.size A' m2 c' ((zs.take k).flatMap bits8 ++ bitsTo B j) ∧ Below w.heap.size w wr) (fun _ i _ => (intOf i + 1).toNat)
      case atStart => exact ⟨0, m, 7, _, _, by omega, rfl, by omega, rfl, rfl, by simpa [bitsTo] using hown, hb⟩
      case round =>
        obtain ⟨j, m2, q, A2, c2, hj, hmj, hq, rfl, rfl, hown, hb⟩ := hrel
        have HM := Lib.hid hmj
        have hm8 : m2 ≤ 8388616 := by omega
        obtain ⟨b, o, rfl, hbl, hc⟩ := (h.below hb (Nat.le_refl _)).get (by omega)
        have hcell := hc k hlt
        rw [HQ.out] at hcell
        clear hmj hc
        by_cases hj8 : j < 8
        · obtain ⟨Q, rfl⟩ : ∃ Q : Nat, q = (Q : Int) := ⟨q.toNat, by omega⟩
          have hQ : Q = 7 - j := by omega
          have HQ2 := Lib.hid hQ
          have hQ7 : Q ≤ 7 := by omega
          clear hQ hq
          go_wp2_with (at_builtin; refine wpl_appI _ _ Try.underlying24 infoInt rfl _ _ rfl w.heap.size _ m2 _ _ rfl hown (bits .and .i64 ((B : Int) / 2 ^ Q) 1) rfl (by omega) hb.size ?_; intro A3 c3 w3 hown3 hB3 hg3)
          go_roundw
          case rel => exact ⟨j + 1, m2 + 1, (Q : Int) - 1, A3, c3, by omega, by rw [HM.out]; rfl, by have := HQ2.out; omega, rfl, rfl, by rw [bitsTo_succ, ← bit_val B j hB, ← HQ2.out, ← List.append_assoc]; exact hown3, hb.trans (hB3 _ (Nat.le_refl _))⟩
          case measure => simp [intOf]
        · have hq1 : q < 0 := by omega
          have hj9 : j = 8 := by omega
          have HJ := Lib.hid hj9
          clear hj9 hq
          go_wp2
          go_roundw
          case rel => exact ⟨k + 1, m2, A2, c2, by omega, by rw [HM.out, HJ.out, HMK.out]; omega, by go_num, rfl, by rw [flat8_take (by rw [L.out]; exact hlt), HQ.out, ← bitsTo_8, ← HJ.out]; exact hown, hb⟩
          case measure => simp [intOf]; omega
    · have hkn : k = n := by omega
      have HK := Lib.hid hkn
      clear hkn
      go_wp2
      go_ret
      have e1 := HMK.out
      have e2 := HK.out
      subst e2
      subst e1
      rw [List.take_of_length_le (by rw [L.out]; exact Nat.le_refl _)] at hown
      exact ⟨A', c', rfl, hown, hb⟩

/-- a row of written numbers that has just been made -/
theorem RI.lit (w : World) (L : List Int) (T : TypeId) : RI (w.alloc (.cells (L.map (Value.int .i64)).toArray T)) (w.heap.size + 1) (some ⟨w.heap.size, 0, none⟩) L.length L := by
  refine ⟨rfl, fun _ => ⟨w.heap.size, 0, rfl, Nat.lt_succ_self _, fun k hk => ?_⟩⟩
  have hx' := new_heap w (.cells (L.map (Value.int .i64)).toArray T)
  rw [Nat.zero_add]
  unfold World.cell?
  rw [hx']
  simp [hk, gi]
theorem take_drop_one {zs : List Int} {k : Nat} (h : k < zs.length) : (zs.drop k).take 1 = [gi zs k] := by
  rw [List.drop_eq_getElem_cons h, gi_lt h]; rfl
theorem flat10_take {zs : List Int} {k : Nat} (h : k < zs.length) : (zs.take (k + 1)).flatMap cell10 = (zs.take k).flatMap cell10 ++ [1, 0] ++ bits8 (gi zs k) := by rw [take_gi h]; simp [cell10]

set_option maxRecDepth 20000 in
set_option maxHeartbeats 4000000 in
theorem l18Cells_any (A : Option Addr) (n c p : Nat) (zs : List Int) (w : World) (h : RI w w.heap.size A n zs) (hn : n ≤ 1048576) (hnc : n ≤ c) (hcm : c ≤ maxLen) (hp : p ≤ 15) (hz : allR zs 0 255 = true) :
    Calls Try.prog 129 #[.slice A n c, .int .i64 p] w (RetI 2 w (p + 3 + 10 * n) (cellsP zs p)) := by
  unfold maxLen at hcm
  have L := Lib.hid h.len
  have HZ := Lib.hid hz
  clear hz
  go_enter Try.func129, Try.ntmps129
  go_wp2_with (first
    | (at_make; refine wpl_make _ Try.underlying24 infoInt rfl _ _ rfl p rfl rfl (by omega) ?_; intro w1 hown1 hg1; have d1 : Below w.heap.size w w1 := (Below.refl _ _).grown hg1 (Nat.le_refl _) (fun j e => by cases e))
    | (at_builtin; refine wpl_appI _ _ Try.underlying24 infoInt rfl _ _ rfl w.heap.size _ p _ _ rfl hown1 1 rfl (by omega) d1.size ?_; intro w2A w2c w2 hown2 hB2 hg2; have d2 := d1.trans (hB2 _ (Nat.le_refl _))))
  clear hown1 d1 hB2 hg2 hg1
  go_loopw [5, 6] (fun o i wr => ∃ (k m : Nat) (A' : Option Addr) (c' : Nat), k ≤ n ∧ m = p + 1 + 10 * k ∧ i = .int .i64 k ∧ o = .slice A' m c' ∧ OwnI 2 wr w.heap.size A' m c' (List.replicate p 0 ++ [1] ++ (zs.take k).flatMap cell10) ∧ Below w.heap.size w wr) (fun _ i _ => n - (intOf i).toNat)
  case atStart => exact ⟨0, p + 1, _, _, Nat.zero_le _, by omega, rfl, rfl, by simpa using hown2, d2⟩
  case round =>
    obtain ⟨k, m, A', c', hk, hmk, rfl, rfl, hown, hb⟩ := hrel
    have HM := Lib.hid hmk
    have hm9 : m ≤ 10485776 := by omega
    clear hmk
    by_cases hlt : k < n
    · obtain ⟨b, o, rfl, _⟩ := h.get (by omega)
      have hsub := ((h.below hb (Nat.le_refl _)).suf (k := k) (by omega)).pre (k := 1) (by omega)
      rw [take_drop_one (by rw [L.out]; exact hlt)] at hsub
      have hbk : allR [gi zs k] 0 255 = true := by
        have := allR_gi HZ.out (k := k) (by rw [L.out]; exact hlt)
        simpa [allR] using inR_iff.2 this
      have HBK := Lib.hid hbk
      have HSUB := Lib.hid hsub
      have hs0 := hb.size
      clear hbk hsub
      go_wp2_with (at_builtin; refine wpl_appR _ Try.underlying24 infoInt rfl _ _ rfl w.heap.size _ m _ _ rfl (hown.alloc _) (some ⟨wr.heap.size, 0, none⟩) 2 2 (wr.heap.size + 1) [1, 0] rfl (RI.lit wr [1, 0] _) (fun e => by cases e) (by omega) (by rw [isz_alloc]; omega) ?_; intro A3 c3 w3 hown3 hB3 hg3; have d3w : Below w.heap.size wr w3 := (below_alloc (Below.refl _ _) hs0 _).trans (hB3 _ (Nat.le_refl _)))
      have d3 := hb.trans d3w
      refine (l01Bits_any _ 1 _ [gi zs k] _ ((HSUB.out.below d3w (Nat.le_refl _)).more d3.size) (by omega) HBK.out).mono ?_
      rintro e w4 ⟨A4, c4, rfl, hown4, hb4⟩
      have hown34 := hown3.below hb4
      have d4 := below_next hb4 d3 (Nat.le_refl _)
      clear hb4 hown3 hg3 d3w hB3
      go_wp2_with (at_builtin; refine wpl_appR _ Try.underlying24 infoInt rfl _ _ rfl w.heap.size _ (m + 2) _ _ rfl hown34 A4 (8 * 1) c4 _ _ rfl hown4.reads (own_none hown4) (by omega) d4.size ?_; intro A5 c5 w5 hown5 hB5 hg5; have d5 := d4.trans (hB5 _ (Nat.le_refl _)))
      go_roundw
      case rel => exact ⟨k + 1, m + 2 + 8 * 1, A5, c5, by omega, by rw [HM.out]; omega, by go_num, rfl, by rw [flat10_take (by rw [L.out]; exact hlt)]; simpa using hown5, d5⟩
      case measure => simp [intOf]; omega
    · have hkn : k = n := by omega
      have HK := Lib.hid hkn
      clear hkn
      go_wp2_with (at_builtin; refine wpl_appR _ Try.underlying24 infoInt rfl _ _ rfl w.heap.size _ m _ _ rfl (hown.alloc _) (some ⟨wr.heap.size, 0, none⟩) 2 2 (wr.heap.size + 1) [0, 1] rfl (RI.lit wr [0, 1] _) (fun e => by cases e) (by omega) (by rw [isz_alloc]; have := hb.size; omega) ?_; intro A3 c3 w3 hown3 hB3 hg3; have d3w : Below w.heap.size wr w3 := (below_alloc (Below.refl _ _) hb.size _).trans (hB3 _ (Nat.le_refl _)))
      go_ret
      have e1 := HM.out
      have e2 := HK.out
      subst e2
      subst e1
      rw [List.take_of_length_le (by rw [L.out]; exact Nat.le_refl _)] at hown3
      rw [show p + 1 + 10 * k + 2 = p + 3 + 10 * k by omega] at hown3
      exact ⟨A3, c3, by rw [show p + 3 + 10 * k = p + 1 + 10 * k + 2 by omega]; rfl, hown3, hb.trans d3w⟩

namespace CellsOf
def cod (ds : List Int) (p : Int) : Int := if isBytes ds then (if inR p 3 15 then (if p + 3 + 10 * (ds.length : Int) ≤ 8192 then 0 else 3) else 2) else 1
def res (ds : List Int) (p : Int) : List Int := if cod ds p = 0 then cellsP ds p.toNat else []
theorem ok {ds : List Int} {p : Int} (h : cod ds p = 0) : isBytes ds = true ∧ 3 ≤ p ∧ p ≤ 15 ∧ p + 3 + 10 * (ds.length : Int) ≤ 8192 := by
  unfold cod at h
  split at h
  · rename_i h1
    split at h
    · rename_i h2
      split at h
      · rename_i h3
        have := inR_iff.1 h2
        exact ⟨h1, this.1, this.2, h3⟩
      · omega
    · omega
  · omega
theorem allR_of_bytes {zs : List Int} (h : isBytes zs = true) : allR zs 0 255 = true := by
  unfold isBytes at h
  simp only [Bool.and_eq_true] at h
  exact h.2

set_option maxRecDepth 20000 in
set_option maxHeartbeats 4000000 in
theorem spec_any (A : Option Addr) (n c p : Nat) (zs : List Int) (w : World) (h : RI w w.heap.size A n zs) (hn : n ≤ 1048576) (hnc : n ≤ c) (hcm : c ≤ maxLen) (hp : p ≤ 1048576) :
    Calls Try.prog 23 #[.slice A n c, .int .i64 p] w (RetIC 2 w (res zs p) (cod zs p)) := by
  have L := Lib.hid h.len
  rcases bool_cases (isBytes zs) with hz | hz
  case inr =>
    have E2 := Lib.hid (show cod zs p = 1 by simp [cod, hz])
    have E1 := Lib.hid (show res zs p = [] by unfold res; rw [E2.out, if_neg (by omega)])
    go_enter Try.func23, Try.ntmps23
    go_wp2_with (go_at_call 127; refine (sIsBytes_any _ _ _ zs _ h (by omega)).mono ?_; rw [hz]; rintro e w' ⟨rfl, rfl⟩)
    go_ret2
    rw [E1.out, E2.out]
    exact ⟨none, 0, 0, rfl, OwnI.nil _ _ _, Below.refl _ _⟩
  rcases bool_cases (inR p 3 15) with hi | hi
  case inr =>
    have E2 := Lib.hid (show cod zs p = 2 by simp [cod, hz, hi])
    have E1 := Lib.hid (show res zs p = [] by unfold res; rw [E2.out, if_neg (by omega)])
    go_enter Try.func23, Try.ntmps23
    go_wp2_with (first | (go_at_call 127; refine (sIsBytes_any _ _ _ zs _ h (by omega)).mono ?_; rw [hz]; rintro e w' ⟨rfl, rfl⟩) | (go_at_call 128; refine (l18Preamble_any _ _).mono ?_; rw [hi]; rintro e w' ⟨rfl, rfl⟩))
    go_ret2
    rw [E1.out, E2.out]
    exact ⟨none, 0, 0, rfl, OwnI.nil _ _ _, Below.refl _ _⟩
  by_cases hs : p + 3 + 10 * n ≤ 8192
  case neg =>
    have E2 := Lib.hid (show cod zs p = 3 by simp [cod, hz, hi, L.out]; omega)
    have E1 := Lib.hid (show res zs p = [] by unfold res; rw [E2.out, if_neg (by omega)])
    go_enter Try.func23, Try.ntmps23
    go_wp2_with (first | (go_at_call 127; refine (sIsBytes_any _ _ _ zs _ h (by omega)).mono ?_; rw [hz]; rintro e w' ⟨rfl, rfl⟩) | (go_at_call 128; refine (l18Preamble_any _ _).mono ?_; rw [hi]; rintro e w' ⟨rfl, rfl⟩))
    go_ret2
    rw [E1.out, E2.out]
    exact ⟨none, 0, 0, rfl, OwnI.nil _ _ _, Below.refl _ _⟩
  have E2 := Lib.hid (show cod zs p = 0 by simp [cod, hz, hi, L.out]; omega)
  have E1 := Lib.hid (show res zs p = cellsP zs p by unfold res; rw [E2.out, if_pos rfl]; rfl)
  have hp15 : p ≤ 15 := by have := inR_iff.1 hi; omega
  have HR := Lib.hid (allR_of_bytes hz)
  go_enter Try.func23, Try.ntmps23
  go_wp2_with (first | (go_at_call 127; refine (sIsBytes_any _ _ _ zs _ h (by omega)).mono ?_; rw [hz]; rintro e w' ⟨rfl, rfl⟩) | (go_at_call 128; refine (l18Preamble_any _ _).mono ?_; rw [hi]; rintro e w' ⟨rfl, rfl⟩))
  refine (l18Cells_any A n c p zs _ h hn hnc hcm hp15 HR.out).mono ?_
  rintro e w1 ⟨A1, c1, rfl, hown1, hb1⟩
  go_wp2
  go_ret2
  rw [E1.out, E2.out]
  exact ⟨A1, _, c1, rfl, hown1, hb1⟩
end CellsOf

namespace PadLine
def cod (zs : List Int) (a b : Nat) : Int := if isBits zs then (if a ≤ 8192 ∧ b ≤ 8192 then (if zs.length + a + b ≤ 8192 then 0 else 3) else 2) else 1
def res (zs : List Int) (a b : Nat) : List Int := if cod zs a b = 0 then lineP a zs b else []

set_option maxRecDepth 20000 in
set_option maxHeartbeats 4000000 in
/-- (a, b small) -/
theorem spec_any (A : Option Addr) (n c a b : Nat) (zs : List Int) (w : World) (h : RI w w.heap.size A n zs) (hn : n ≤ 1048576) (hA : A = none → c = 0) (ha : a ≤ 8192) (hb : b ≤ 8192) :
    Calls Try.prog 25 #[.slice A n c, .int .i64 a, .int .i64 b] w (RetIC 2 w (res zs a b) (cod zs a b)) := by
  have L := Lib.hid h.len
  have i1 : inR (a : Int) 0 8192 = true := inR_iff.2 (by omega)
  have i2 : inR (b : Int) 0 8192 = true := inR_iff.2 (by omega)
  rcases bool_cases (isBits zs) with hz | hz
  case inr =>
    have E2 := Lib.hid (show cod zs a b = 1 by simp [cod, hz])
    have E1 := Lib.hid (show res zs a b = [] by unfold res; rw [E2.out, if_neg (by omega)])
    go_enter Try.func25, Try.ntmps25
    go_wp2_with (go_at_call 130; refine (sIsBits_any _ _ _ zs _ h (by omega)).mono ?_; rw [hz]; rintro e w' ⟨rfl, rfl⟩)
    go_ret2
    rw [E1.out, E2.out]
    exact ⟨none, 0, 0, rfl, OwnI.nil _ _ _, Below.refl _ _⟩
  by_cases hs : n + a + b ≤ 8192
  case neg =>
    have E2 := Lib.hid (show cod zs a b = 3 by simp [cod, hz, L.out, ha, hb]; omega)
    have E1 := Lib.hid (show res zs a b = [] by unfold res; rw [E2.out, if_neg (by omega)])
    go_enter Try.func25, Try.ntmps25
    go_wp2_with (first | (go_at_call 130; refine (sIsBits_any _ _ _ zs _ h (by omega)).mono ?_; rw [hz]; rintro e w' ⟨rfl, rfl⟩) | (go_at_call 116; refine (l01In_any _ _ _ _).mono ?_; (first | rw [i1] | rw [i2]); rintro e w' ⟨rfl, rfl⟩))
    go_ret2
    rw [E1.out, E2.out]
    exact ⟨none, 0, 0, rfl, OwnI.nil _ _ _, Below.refl _ _⟩
  have E2 := Lib.hid (show cod zs a b = 0 by simp [cod, hz, L.out, ha, hb]; omega)
  have E1 := Lib.hid (show res zs a b = lineP a zs b by unfold res; rw [E2.out, if_pos rfl])
  go_enter Try.func25, Try.ntmps25
  go_wp2_with (first | (go_at_call 130; refine (sIsBits_any _ _ _ zs _ h (by omega)).mono ?_; rw [hz]; rintro e w' ⟨rfl, rfl⟩) | (go_at_call 116; refine (l01In_any _ _ _ _).mono ?_; (first | rw [i1] | rw [i2]); rintro e w' ⟨rfl, rfl⟩))
  go_loopw [8, 9] (fun o i wr => ∃ (k m : Nat) (A' : Option Addr) (c' : Nat), k ≤ a ∧ m = k ∧ i = .int .i64 k ∧ o = .slice A' m c' ∧ OwnI 2 wr w.heap.size A' m c' (List.replicate k 1) ∧ Below w.heap.size w wr) (fun _ i _ => a - (intOf i).toNat)
  case atStart => exact ⟨0, 0, some ⟨w.heap.size, 0, none⟩, 0, Nat.zero_le _, rfl, rfl, rfl, OwnI.empty _ (Nat.le_refl _), (Below.refl _ _).alloc (Nat.le_refl _) _⟩
  case round =>
    obtain ⟨k, m, A', c', hk, hmk, rfl, rfl, hown, hbw⟩ := hrel
    have HM := Lib.hid hmk
    have hm9 : m ≤ 8192 := by omega
    clear hmk
    by_cases hlt : k < a
    · go_wp2_with (at_builtin; refine wpl_appI _ _ Try.underlying24 infoInt rfl _ _ rfl w.heap.size _ m _ _ rfl hown 1 rfl (by omega) hbw.size ?_; intro A3 c3 w3 hown3 hB3 hg3)
      go_roundw
      case rel => exact ⟨k + 1, m + 1, A3, c3, by omega, by rw [HM.out], by go_num, rfl, by rw [rep_succ]; exact hown3, hbw.trans (hB3 _ (Nat.le_refl _))⟩
      case measure => simp [intOf]; omega
    · have hkn : k = a := by omega
      have HK := Lib.hid hkn
      clear hkn
      have hr := h.up hbw
      have HR := Lib.hid hr
      clear hr
      go_wp2_with (at_builtin; refine wpl_appR _ Try.underlying24 infoInt rfl _ _ rfl w.heap.size _ m _ _ rfl hown A n c _ zs rfl HR.out hA (by omega) hbw.size ?_; intro A3 c3 w3 hown3 hB3 hg3; have d3 := hbw.trans (hB3 _ (Nat.le_refl _)))
      clear hB3 hg3
      go_loopw [8, 10] (fun o i wr => ∃ (k2 m2 : Nat) (A' : Option Addr) (c' : Nat), k2 ≤ b ∧ m2 = m + n + k2 ∧ i = .int .i64 k2 ∧ o = .slice A' m2 c' ∧ OwnI 2 wr w.heap.size A' m2 c' (List.replicate k 1 ++ zs ++ List.replicate k2 1) ∧ Below w.heap.size w wr) (fun _ i _ => b - (intOf i).toNat)
      case atStart => exact ⟨0, m + n, _, _, Nat.zero_le _, rfl, rfl, rfl, by simpa using hown3, d3⟩
      case round =>
        obtain ⟨k2, m2, A4, c4, hk2, hmk2, rfl, rfl, hown, hbw⟩ := hrel
        have HM2 := Lib.hid hmk2
        have hm92 : m2 ≤ 8192 := by (have := HM.out; have := HK.out; omega)
        clear hmk2
        by_cases hlt2 : k2 < b
        · go_wp2_with (at_builtin; refine wpl_appI _ _ Try.underlying24 infoInt rfl _ _ rfl w.heap.size _ m2 _ _ rfl hown 1 rfl (by omega) hbw.size ?_; intro A3 c3 w3 hown3 hB3 hg3)
          go_roundw
          case rel => exact ⟨k2 + 1, m2 + 1, A3, c3, by omega, by rw [HM2.out]; rfl, by go_num, rfl, by rw [rep_succ, ← List.append_assoc]; exact hown3, hbw.trans (hB3 _ (Nat.le_refl _))⟩
          case measure => simp [intOf]; omega
        · have hkn2 : k2 = b := by omega
          have HK2 := Lib.hid hkn2
          clear hkn2
          go_wp2
          go_ret2
          rw [E1.out, E2.out]
          refine ⟨A4, m2, c4, rfl, ?_, hbw⟩
          rw [HK.out, HK2.out] at hown
          exact hown
end PadLine
end Go.Proofs.Ytjehkjdehkdjcaa

namespace Go.Proofs.Ytjehkjdehkdjcaa
open Go.RowKit

/-- a slice of the call's own is handed back, of whatever length -/
def RetS (T : TypeId) (w0 : World) (zs : List Int) (e : Ending) (w' : World) : Prop :=
  ∃ A n c, e = .returned (.slice A n c) ∧ OwnI T w' w0.heap.size A n c zs ∧ Below w0.heap.size w0 w'
/-- a slice and a code, whatever they hold -/
def RetW (T : TypeId) (w0 : World) (N : Nat) (e : Ending) (w' : World) : Prop :=
  ∃ A n c zs q, e = .returned (.tuple #[.slice A n c, .int .i64 q]) ∧ OwnI T w' w0.heap.size A n c zs ∧ n ≤ N ∧ Below w0.heap.size w0 w'

/-- the first k cells, stretched -/
def sTo (cs ws : List Int) (k : Nat) : List Int := (List.range k).flatMap fun i => List.replicate (gi ws i).toNat (gi cs i)
theorem sTo_succ (cs ws : List Int) (k : Nat) : sTo cs ws (k + 1) = sTo cs ws k ++ List.replicate (gi ws k).toNat (gi cs k) := by simp [sTo, List.range_succ]
theorem sTo_len {cs ws : List Int} {M k : Nat} (h : ∀ i, i < k → (gi ws i).toNat ≤ M) : (sTo cs ws k).length ≤ M * k := by
  induction k with
  | zero => simp [sTo]
  | succ k ih =>
    rw [sTo_succ, List.length_append, List.length_replicate, Nat.mul_add]
    have := ih (fun i hi => h i (by omega))
    have := h k (by omega)
    omega
theorem sTo_nom (cs : List Int) : ∀ n k, k ≤ n → k ≤ cs.length → sTo cs (List.replicate n 8) k = nom (cs.take k) := by
  intro n k
  induction k with
  | zero => intro _ _; simp [sTo, nom]
  | succ k ih =>
    intro h1 h2
    rw [sTo_succ, ih (by omega) (by omega), take_gi (by omega)]
    have : gi (List.replicate n (8 : Int)) k = 8 := gi_rep 8 (by omega)
    rw [this]
    simp [nom]

set_option maxRecDepth 20000 in
set_option maxHeartbeats 4000000 in
theorem l20Stretch_any (A A1 : Option Addr) (n c c1 : Nat) (cs ws : List Int) (w : World) (h : RI w w.heap.size A n cs) (hn : n ≤ 1048576) (h1 : RI w w.heap.size A1 n ws) (hw : ∀ i, i < n → 0 ≤ gi ws i ∧ gi ws i ≤ 16) :
    Calls Try.prog 219 #[.slice A n c, .slice A1 n c1] w (RetS 2 w (sTo cs ws n)) := by
  have HW := Lib.hid hw
  clear hw
  go_enter Try.func219, Try.ntmps219
  go_wp2
  go_loopw [5, 6, 7] (fun o i _ wr => ∃ (k m : Nat) (A' : Option Addr) (c' : Nat), k ≤ n ∧ m ≤ 16 * k ∧ i = .int .i64 k ∧ o = .slice A' m c' ∧ OwnI 2 wr w.heap.size A' m c' (sTo cs ws k) ∧ Below w.heap.size w wr) (fun _ i _ _ => n - (intOf i).toNat)
  case atStart => exact ⟨0, 0, some ⟨w.heap.size, 0, none⟩, 0, Nat.zero_le _, Nat.zero_le _, rfl, rfl, OwnI.empty _ (Nat.le_refl _), (Below.refl _ _).alloc (Nat.le_refl _) _⟩
  case round =>
    obtain ⟨k, m, A', c', hk, hmk, rfl, rfl, hown, hb⟩ := hrel
    by_cases hlt : k < n
    · have hwk := HW.out k hlt
      obtain ⟨q, hq⟩ : ∃ q : Nat, gi ws k = (q : Int) := ⟨(gi ws k).toNat, by omega⟩
      have hq16 : q ≤ 16 := by omega
      have HQ := Lib.hid hq
      clear hq hwk
      go_wp2
      go_loopw [5, 7] (fun o i wr => ∃ (j m2 : Nat) (A' : Option Addr) (c' : Nat), j ≤ q ∧ m2 = m + j ∧ i = .int .i64 j ∧ o = .slice A' m2 c' ∧ OwnI 2 wr w.heap.size A' m2 c' (sTo cs ws k ++ List.replicate j (gi cs k)) ∧ Below w.heap.size w wr) (fun _ i _ => q - (intOf i).toNat)
      case atStart => exact ⟨0, m, _, _, Nat.zero_le _, rfl, rfl, rfl, by simpa using hown, hb⟩
      case round =>
        obtain ⟨j, m2, A2, c2, hj, hmj, rfl, rfl, hown, hb⟩ := hrel
        have HM := Lib.hid hmj
        have hm8 : m2 ≤ 16777232 := by omega
        obtain ⟨b, o, rfl, hbl, hc⟩ := (h.below hb (Nat.le_refl _)).get (by omega)
        obtain ⟨b1, o1, rfl, hbl1, hc1⟩ := (h1.below hb (Nat.le_refl _)).get (by omega)
        have hcell := hc k hlt
        have hcell1 := hc1 k hlt
        rw [HQ.out] at hcell1
        clear hmj hc hc1
        by_cases hjq : j < q
        · go_wp2_with (at_builtin; refine wpl_appI _ _ Try.underlying24 infoInt rfl _ _ rfl w.heap.size _ m2 _ _ rfl hown (gi cs k) rfl (by omega) hb.size ?_; intro A3 c3 w3 hown3 hB3 hg3)
          go_roundw
          case rel => exact ⟨j + 1, m2 + 1, A3, c3, by omega, by rw [HM.out]; rfl, by go_num, rfl, by rw [rep_succ, ← List.append_assoc]; exact hown3, hb.trans (hB3 _ (Nat.le_refl _))⟩
          case measure => simp [intOf]; omega
        · have hj9 : j = q := by omega
          have HJ := Lib.hid hj9
          clear hj9
          go_wp2
          go_roundw
          case rel => exact ⟨k + 1, m2, A2, c2, by omega, by have := HM.out; omega, by go_num, rfl, by rw [sTo_succ, HQ.out, Int.toNat_natCast, ← HJ.out]; exact hown, hb⟩
          case measure => simp [intOf]; omega
    · have hkn : k = n := by omega
      have HK := Lib.hid hkn
      clear hkn
      go_wp2
      go_ret
      exact ⟨A', m, c', rfl, by rw [← HK.out]; exact hown, hb⟩

set_option maxHeartbeats 4000000 in
theorem l20Nominal_any (A : Option Addr) (n c : Nat) (cs : List Int) (w : World) (h : RI w w.heap.size A n cs) (hn : n ≤ 1048576) :
    Calls Try.prog 172 #[.slice A n c] w (RetS 2 w (nom cs)) := by
  have L := Lib.hid h.len
  go_enter Try.func172, Try.ntmps172
  go_wp2_with fail
  refine (l20Equal_any n 8 _ hn).mono ?_
  rintro e w1 ⟨A1, c1, rfl, hown1, hb1⟩
  go_wp2_with fail
  refine (l20Stretch_any A A1 n c c1 cs (List.replicate n 8) _ (h.up hb1) hn hown1.reads (fun i hi => by rw [gi_rep 8 hi]; omega)).mono ?_
  rintro e w2 ⟨A2, n2, c2, rfl, hown2, hb2⟩
  go_wp2
  go_ret
  refine ⟨A2, n2, c2, rfl, ?_, below_next hb2 hb1 (Nat.le_refl _)⟩
  have e := sTo_nom cs n n (Nat.le_refl _) (by rw [L.out]; exact Nat.le_refl _)
  rw [List.take_of_length_le (by rw [L.out]; exact Nat.le_refl _)] at e
  rw [← e]
  exact hown2.weaken hb1.size

namespace NominalSamples
def cod (cs : List Int) : Int := if isBits cs then (if cs.length * 8 ≤ 8192 then 0 else 3) else 1
def res (cs : List Int) : List Int := if cod cs = 0 then nom cs else []

set_option maxHeartbeats 4000000 in
theorem spec_any (A : Option Addr) (n c : Nat) (cs : List Int) (w : World) (h : RI w w.heap.size A n cs) (hn : n ≤ 1048576) :
    Calls Try.prog 94 #[.slice A n c] w (RetIC 2 w (res cs) (cod cs)) := by
  have L := Lib.hid h.len
  rcases bool_cases (isBits cs) with hz | hz
  case inr =>
    have E2 := Lib.hid (show cod cs = 1 by simp [cod, hz])
    have E1 := Lib.hid (show res cs = [] by unfold res; rw [E2.out, if_neg (by omega)])
    go_enter Try.func94, Try.ntmps94
    go_wp2_with (go_at_call 130; refine (sIsBits_any _ _ _ cs _ h (by omega)).mono ?_; rw [hz]; rintro e w' ⟨rfl, rfl⟩)
    go_ret2
    rw [E1.out, E2.out]
    exact ⟨none, 0, 0, rfl, OwnI.nil _ _ _, Below.refl _ _⟩
  by_cases hs : n * 8 ≤ 8192
  case neg =>
    have E2 := Lib.hid (show cod cs = 3 by simp [cod, hz, L.out]; omega)
    have E1 := Lib.hid (show res cs = [] by unfold res; rw [E2.out, if_neg (by omega)])
    go_enter Try.func94, Try.ntmps94
    go_wp2_with (go_at_call 130; refine (sIsBits_any _ _ _ cs _ h (by omega)).mono ?_; rw [hz]; rintro e w' ⟨rfl, rfl⟩)
    go_ret2
    rw [E1.out, E2.out]
    exact ⟨none, 0, 0, rfl, OwnI.nil _ _ _, Below.refl _ _⟩
  have E2 := Lib.hid (show cod cs = 0 by simp [cod, hz, L.out]; omega)
  have E1 := Lib.hid (show res cs = nom cs by unfold res; rw [E2.out, if_pos rfl])
  go_enter Try.func94, Try.ntmps94
  go_wp2_with (go_at_call 130; refine (sIsBits_any _ _ _ cs _ h (by omega)).mono ?_; rw [hz]; rintro e w' ⟨rfl, rfl⟩)
  refine (l20Nominal_any A n c cs _ h hn).mono ?_
  rintro e w1 ⟨A1, n1, c1, rfl, hown1, hb1⟩
  go_wp2
  go_ret2
  rw [E1.out, E2.out]
  exact ⟨A1, n1, c1, rfl, hown1, hb1⟩
end NominalSamples

set_option maxRecDepth 20000 in
set_option maxHeartbeats 8000000 in
theorem l01Flip_any (A A1 : Option Addr) (n c n1 c1 : Nat) (zs fs : List Int) (w : World) (h : RI w w.heap.size A n zs) (hn : n ≤ 1048576) (hA : A = none → c = 0) (h1 : RI w w.heap.size A1 n1 fs) (hn1 : n1 ≤ 1048576) (hf : rises fs n = true) :
    Calls Try.prog 252 #[.slice A n c, .slice A1 n1 c1] w fun e w' => ∃ A' c' zs', e = .returned (.slice A' n c') ∧ OwnI 2 w' w.heap.size A' n c' zs' ∧ Below w.heap.size w w' := by
  have L1 := Lib.hid h1.len
  have HF := Lib.hid hf
  clear hf
  go_enter Try.func252, Try.ntmps252
  go_wp2_with (at_builtin; refine wpl_appR _ Try.underlying24 infoInt rfl _ _ rfl w.heap.size _ 0 _ _ rfl (OwnI.empty w (Nat.le_refl _)) A n c _ zs rfl (h.alloc' _) hA (by omega) (by simp) ?_; intro A3 c3 w3 hown3 hB3 hg3; have d3 := (below_alloc (Below.refl _ w) (Nat.le_refl _) _).trans (hB3 _ (Nat.le_refl _)))
  rw [Nat.zero_add] at hown3
  try rw [Nat.zero_add]
  clear hB3 hg3
  go_loopw [6] (fun i wr => ∃ (k : Nat) (zs' : List Int), k ≤ n1 ∧ i = .int .i64 k ∧ OwnI 2 wr w.heap.size A3 n c3 zs' ∧ Below w.heap.size w wr) (fun i _ => n1 - (intOf i).toNat)
  case atStart => exact ⟨0, _, Nat.zero_le _, rfl, hown3, d3⟩
  case round =>
    obtain ⟨k, zs', hk, rfl, hown, hb⟩ := hrel
    by_cases hlt : k < n1
    · obtain ⟨b1, o1, rfl, hbl1, hc1⟩ := (h1.below hb (Nat.le_refl _)).get (by omega)
      have hq0 := rises_gi HF.out (k := k) (by rw [L1.out]; exact hlt)
      have hcell1 := hc1 k hlt
      clear hc1
      obtain ⟨q, hq⟩ : ∃ q : Nat, gi fs k = (q : Int) := ⟨(gi fs k).toNat, by omega⟩
      have hqn : q < n := by omega
      rw [hq] at hcell1
      clear hq hq0
      obtain ⟨g3, rfl, hg3⟩ := hown.form (by omega)
      have hcell := hown.cell hqn
      have hfr := hown.frozen q
      have hne : ¬ b1 = g3 := by omega
      obtain ⟨z, hz⟩ : ∃ z, gi zs' q = z := ⟨_, rfl⟩
      rw [hz] at hcell
      clear hz
      go_wp2
      go_region
      all_goals
        go_wp2
        go_roundw
        case rel => exact ⟨k + 1, _, by omega, by go_num, by first | exact (hown.stored q _).1.drew | exact (hown.stored q _).1, by first | exact (hb.setCell (p := ⟨g3, q, none⟩) hg3.1 _).drew | exact hb.setCell (p := ⟨g3, q, none⟩) hg3.1 _⟩
        case measure => simp [intOf]; omega
    · go_wp2
      go_ret
      exact ⟨A3, c3, zs', rfl, hown, hb⟩

set_option maxHeartbeats 4000000 in
theorem flipBits_any (A A1 : Option Addr) (n c n1 c1 : Nat) (zs fs : List Int) (w : World) (h : RI w w.heap.size A n zs) (hn : n ≤ 1048576) (hA : A = none → c = 0) (h1 : RI w w.heap.size A1 n1 fs) (hn1 : n1 ≤ 1048576) :
    Calls Try.prog 220 #[.slice A n c, .slice A1 n1 c1] w (RetW 2 w n) := by
  rcases bool_cases (isBits zs) with hz | hz
  case inr =>
    go_enter Try.func220, Try.ntmps220
    go_wp2_with (go_at_call 130; refine (sIsBits_any _ _ _ zs _ h (by omega)).mono ?_; rw [hz]; rintro e w' ⟨rfl, rfl⟩)
    go_ret2
    exact ⟨none, 0, 0, [], 1, rfl, OwnI.nil _ _ _, Nat.zero_le _, Below.refl _ _⟩
  rcases bool_cases (rises fs n) with hr | hr
  case inr =>
    go_enter Try.func220, Try.ntmps220
    go_wp2_with (go_at_call 130; refine (sIsBits_any _ _ _ zs _ h (by omega)).mono ?_; rw [hz]; rintro e w' ⟨rfl, rfl⟩)
    refine (l01Rises_any A1 n1 c1 fs n _ h1 (by omega) (by omega) (by omega)).mono ?_
    rw [hr]
    rintro e w1 ⟨rfl, hb1⟩
    go_wp2
    go_ret2
    exact ⟨none, 0, 0, [], 2, rfl, OwnI.nil _ _ _, Nat.zero_le _, hb1⟩
  go_enter Try.func220, Try.ntmps220
  go_wp2_with (go_at_call 130; refine (sIsBits_any _ _ _ zs _ h (by omega)).mono ?_; rw [hz]; rintro e w' ⟨rfl, rfl⟩)
  refine (l01Rises_any A1 n1 c1 fs n _ h1 (by omega) (by omega) (by omega)).mono ?_
  have HR := Lib.hid hr
  rw [hr]
  clear hr
  rintro e w1 ⟨rfl, hb1⟩
  go_wp2_with fail
  refine (l01Flip_any A A1 n c n1 c1 zs fs _ (h.up hb1) hn hA (h1.up hb1) hn1 HR.out).mono ?_
  rintro e w2 ⟨A2, c2, zs2, rfl, hown2, hb2⟩
  go_wp2
  go_ret2
  exact ⟨A2, n, c2, zs2, 0, rfl, hown2.weaken hb1.size, Nat.le_refl _, below_next hb2 hb1 (Nat.le_refl _)⟩

def sumK (zs : List Int) (k : Nat) : Int := (zs.take k).sum
theorem sumK_succ {zs : List Int} {k : Nat} (h : k < zs.length) : sumK zs (k + 1) = sumK zs k + gi zs k := by
  unfold sumK
  rw [take_gi h, List.sum_append]; simp

theorem sumK_mono {zs : List Int} (h : allR zs 1 8192 = true) : ∀ {k j : Nat}, j ≤ k → k ≤ zs.length → sumK zs j ≤ sumK zs k := by
  intro k
  induction k with
  | zero =>
    intro j hj _
    have e : j = 0 := by omega
    subst e
    exact Int.le_refl _
  | succ k ih =>
    intro j hj hk
    by_cases e : j = k + 1
    · subst e; exact Int.le_refl _
    · have h1 := ih (j := j) (by omega) (by omega)
      have h2 := allR_gi h (k := k) (by omega)
      rw [sumK_succ (by omega)]
      omega

set_option maxRecDepth 20000 in
set_option maxHeartbeats 8000000 in
theorem fromRuns_any (A : Option Addr) (n c : Nat) (f : Int) (zs : List Int) (w : World) (h : RI w w.heap.size A n zs) (hn : n ≤ 4096) :
    Calls Try.prog 227 #[.int .i64 f, .slice A n c] w (RetW 2 w 8192) := by
  have L := Lib.hid h.len
  rcases bool_cases (inR f 0 1) with hf | hf
  case inr =>
    go_enter Try.func227, Try.ntmps227
    go_wp2_with (go_at_call 116; refine (l01In_any _ _ _ _).mono ?_; rw [hf]; rintro e w' ⟨rfl, rfl⟩)
    go_ret2
    exact ⟨none, 0, 0, [], 2, rfl, OwnI.nil _ _ _, Nat.zero_le _, Below.refl _ _⟩
  have hf01 := inR_iff.1 hf
  go_enter Try.func227, Try.ntmps227
  go_wp2_with (go_at_call 116; refine (l01In_any _ _ _ _).mono ?_; rw [hf]; rintro e w' ⟨rfl, rfl⟩)
  clear hf
  go_loop [6, 7] (fun t i => ∃ (k : Nat) (u : Int), k ≤ n ∧ i = .int .i64 k ∧ t = .int .i64 u ∧ u = sumK zs k ∧ 0 ≤ u ∧ u ≤ 8192 * (k : Int) ∧ allR (zs.take k) 1 8192 = true) (fun _ i => n - (intOf i).toNat)
  case atStart => exact ⟨0, 0, Nat.zero_le _, rfl, rfl, rfl, by omega, by omega, rfl⟩
  case round =>
    obtain ⟨k, u, hk, rfl, rfl, hu, hu0, hu1, hall⟩ := hrel
    have HU := Lib.hid hu
    have HALL := Lib.hid hall
    clear hu hall
    by_cases hlt : k < n
    · obtain ⟨b, o, rfl, hbl, hc⟩ := h.get (by omega)
      have hcell := hc k hlt
      clear hc
      rcases bool_cases (inR (gi zs k) 1 8192) with hr | hr
      · have hr' := inR_iff.1 hr
        go_wp2_with (go_at_call 116; refine (l01In_any _ _ _ _).mono ?_; rw [hr]; rintro e w' ⟨rfl, rfl⟩)
        go_round
        case rel => exact ⟨k + 1, u + gi zs k, by omega, by go_num, rfl, by rw [sumK_succ (by rw [L.out]; exact hlt), HU.out], by omega, by omega, by rw [allR_take (by rw [L.out]; exact hlt), HALL.out, hr]; rfl⟩
        case measure => simp [intOf]; omega
      · go_wp2_with (go_at_call 116; refine (l01In_any _ _ _ _).mono ?_; rw [hr]; rintro e w' ⟨rfl, rfl⟩)
        go_ret2
        exact ⟨none, 0, 0, [], 2, rfl, OwnI.nil _ _ _, Nat.zero_le _, Below.refl _ _⟩
    · have hkn : k = n := by omega
      have HK := Lib.hid hkn
      clear hkn
      by_cases hbig : 8192 < u
      · go_wp2
        go_ret2
        exact ⟨none, 0, 0, [], 3, rfl, OwnI.nil _ _ _, Nat.zero_le _, Below.refl _ _⟩
      · have hA2 : allR zs 1 8192 = true := by
          have := HALL.out
          rwa [HK.out, List.take_of_length_le (by rw [L.out]; exact Nat.le_refl _)] at this
        have HA2 := Lib.hid hA2
        clear hA2
        go_wp2
        go_loopw [0, 8, 9] (fun x o i wr => ∃ (j m : Nat) (y : Int) (A' : Option Addr) (c' : Nat) (zs' : List Int), j ≤ n ∧ i = .int .i64 j ∧ x = .int .i64 y ∧ 0 ≤ y ∧ y ≤ 1 ∧ o = .slice A' m c' ∧ (m : Int) = sumK zs j ∧ OwnI 2 wr w.heap.size A' m c' zs' ∧ Below w.heap.size w wr) (fun _ _ i _ => n - (intOf i).toNat)
        case atStart => exact ⟨0, 0, f, some ⟨w.heap.size, 0, none⟩, 0, [], Nat.zero_le _, rfl, rfl, hf01.1, hf01.2, rfl, rfl, OwnI.empty _ (Nat.le_refl _), (Below.refl _ _).alloc (Nat.le_refl _) _⟩
        case round =>
          obtain ⟨j, m, y, A', c', zs', hj, rfl, rfl, hy0, hy1, rfl, hm, hown, hb⟩ := hrel
          have HM := Lib.hid hm
          by_cases hlt2 : j < n
          · have hmn : sumK zs (j + 1) ≤ u := by
              rw [HU.out, HK.out]
              exact sumK_mono HA2.out (by omega) (by rw [L.out]; exact Nat.le_refl _)
            have hs := sumK_succ (zs := zs) (k := j) (by rw [L.out]; exact hlt2)
            have hq0 := allR_gi HA2.out (k := j) (by rw [L.out]; exact hlt2)
            obtain ⟨b, o, rfl, hbl, hc⟩ := (h.below hb (Nat.le_refl _)).get (by omega)
            have hcell := hc j hlt2
            obtain ⟨q, hq⟩ : ∃ q : Nat, gi zs j = (q : Int) := ⟨(gi zs j).toNat, by omega⟩
            have hq16 : m + q ≤ 8192 := by omega
            rw [hq] at hcell
            have HS := Lib.hid hs
            have HQ := Lib.hid hq
            clear hs hq hm hmn hq0 hc
            go_wp2_with fail
            refine (l20Equal_any q y _ (by omega)).mono ?_
            rintro e w1 ⟨A1, c1, rfl, hown1, hb1⟩
            have hown' := hown.below hb1
            have d1 := below_next hb1 hb (Nat.le_refl _)
            clear hb1
            go_wp2_with (at_builtin; refine wpl_appR _ Try.underlying24 infoInt rfl _ _ rfl w.heap.size _ m _ _ rfl hown' A1 q c1 _ _ rfl hown1.reads (own_none hown1) (by omega) d1.size ?_; intro A3 c3 w3 hown3 hB3 hg3; have d3 := d1.trans (hB3 _ (Nat.le_refl _)))
            go_roundw
            case rel => exact ⟨j + 1, m + q, 1 - y, A3, c3, _, by omega, by go_num, rfl, by omega, by omega, rfl, by rw [HS.out, HQ.out, ← HM.out]; omega, hown3, d3⟩
            case measure => simp [intOf]; omega
          · have hm2 : (m : Int) ≤ 8192 := by
              have e : sumK zs j ≤ u := by
                rw [HU.out, HK.out]
                exact sumK_mono HA2.out hj (by rw [L.out]; exact Nat.le_refl _)
              omega
            clear hm
            go_wp2
            go_ret2
            exact ⟨A', m, c', zs', 0, rfl, hown, by omega, hb⟩
end Go.Proofs.Ytjehkjdehkdjcaa

namespace Go.Proofs.Ytjehkjdehkdjcaa
open Go.RowKit

set_option maxHeartbeats 1000000 in
theorem repeatOn_any (A : Option Addr) (m0 c base n : Nat) (v : Int) (zs : List Int) (w : World) (h : OwnI 2 w base A m0 c zs) (hbase : base ≤ w.heap.size) (hm : m0 ≤ 1048576) (hn : n ≤ 1048576) :
    Calls Try.prog 132 #[.slice A m0 c, .int .i64 v, .int .i64 n] w fun e w' => ∃ A' c', e = .returned (.slice A' (m0 + n) c') ∧ OwnI 2 w' base A' (m0 + n) c' (zs ++ List.replicate n v) ∧ Below base w w' := by
  go_enter Try.func132, Try.ntmps132
  go_wp2
  go_loopw [0, 8] (fun o i wr => ∃ (k m : Nat) (A' : Option Addr) (c' : Nat), k ≤ n ∧ m = m0 + k ∧ i = .int .i64 k ∧ o = .slice A' m c' ∧ OwnI 2 wr base A' m c' (zs ++ List.replicate k v) ∧ Below base w wr) (fun _ i _ => n - (intOf i).toNat)
  case atStart => exact ⟨0, m0, A, c, by omega, rfl, rfl, rfl, by simpa using h, Below.refl _ _⟩
  case round =>
    obtain ⟨k, m, A', c', hk, hmk, rfl, rfl, hown, hb⟩ := hrel
    have HM := Lib.hid hmk
    have hm9 : m ≤ 2097152 := by omega
    have hs := Nat.le_trans hbase hb.size
    clear hmk
    by_cases hlt : k < n
    · go_wp2_with (at_builtin; refine wpl_appI _ _ Try.underlying24 infoInt rfl _ _ rfl base _ m _ _ rfl hown v rfl (by omega) hs ?_; intro A2 c2 w2 hown2 hB2 hg2)
      go_roundw
      case rel => exact ⟨k + 1, m + 1, A2, c2, by omega, by rw [HM.out]; rfl, by go_num, rfl, by rw [rep_succ, ← List.append_assoc]; exact hown2, hb.trans (hB2 _ (Nat.le_refl _))⟩
      case measure => simp [intOf]; omega
    · have hkn : k = n := by omega
      have HK := Lib.hid hkn
      clear hkn
      go_wp2
      go_ret
      have e1 := HM.out
      have e2 := HK.out
      subst e2
      subst e1
      exact ⟨A', c', rfl, hown, hb⟩

namespace NominalSamples
theorem nom_take {cs : List Int} {k : Nat} (h : k < cs.length) : nom (cs.take (k + 1)) = nom (cs.take k) ++ List.replicate 8 (gi cs k) := by rw [take_gi h]; simp [nom]

set_option maxHeartbeats 4000000 in
theorem impl_any (A : Option Addr) (n c : Nat) (cs : List Int) (w : World) (h : RI w w.heap.size A n cs) (hn : n ≤ 1048576) :
    Calls Try.prog 27 #[.slice A n c] w (RetIC 2 w (res cs) (cod cs)) := by
  have L := Lib.hid h.len
  rcases bool_cases (isBits cs) with hz | hz
  case inr =>
    have E2 := Lib.hid (show cod cs = 1 by simp [cod, hz])
    have E1 := Lib.hid (show res cs = [] by unfold res; rw [E2.out, if_neg (by omega)])
    go_enter Try.func27, Try.ntmps27
    go_wp2_with (go_at_call 131; refine (iIsBits_any _ _ _ cs _ h (by omega)).mono ?_; rw [hz]; rintro e w' ⟨rfl, rfl⟩)
    go_ret2
    rw [E1.out, E2.out]
    exact ⟨none, 0, 0, rfl, OwnI.nil _ _ _, Below.refl _ _⟩
  by_cases hs : (n : Int) * 8 ≤ 8192
  case neg =>
    have E2 := Lib.hid (show cod cs = 3 by simp [cod, hz, L.out]; omega)
    have E1 := Lib.hid (show res cs = [] by unfold res; rw [E2.out, if_neg (by omega)])
    go_enter Try.func27, Try.ntmps27
    go_wp2_with (go_at_call 131; refine (iIsBits_any _ _ _ cs _ h (by omega)).mono ?_; rw [hz]; rintro e w' ⟨rfl, rfl⟩)
    go_ret2
    rw [E1.out, E2.out]
    exact ⟨none, 0, 0, rfl, OwnI.nil _ _ _, Below.refl _ _⟩
  have E2 := Lib.hid (show cod cs = 0 by simp [cod, hz, L.out]; omega)
  have E1 := Lib.hid (show res cs = nom cs by unfold res; rw [E2.out, if_pos rfl])
  go_enter Try.func27, Try.ntmps27
  go_wp2_with (go_at_call 131; refine (iIsBits_any _ _ _ cs _ h (by omega)).mono ?_; rw [hz]; rintro e w' ⟨rfl, rfl⟩)
  go_loopw [4, 6, 17] (fun o _ i wr => ∃ (k m : Nat) (A' : Option Addr) (c' : Nat), k ≤ n ∧ m = 8 * k ∧ i = .int .i64 k ∧ o = .slice A' m c' ∧ OwnI 2 wr w.heap.size A' m c' (nom (cs.take k)) ∧ Below w.heap.size w wr) (fun _ _ i _ => n - (intOf i).toNat)
  case atStart => exact ⟨0, 0, some ⟨w.heap.size, 0, none⟩, 0, Nat.zero_le _, rfl, rfl, rfl, OwnI.empty _ (Nat.le_refl _), (Below.refl _ _).alloc (Nat.le_refl _) _⟩
  case round =>
    obtain ⟨k, m, A', c', hk, hmk, rfl, rfl, hown, hb⟩ := hrel
    have HM := Lib.hid hmk
    have hm9 : m ≤ 1048576 := by omega
    clear hmk
    by_cases hlt : k < n
    · obtain ⟨b, o, rfl, hbl, hc⟩ := (h.below hb (Nat.le_refl _)).get (by omega)
      have hcell := hc k hlt
      clear hc
      go_wp2_with fail
      refine (repeatOn_any A' m c' w.heap.size 8 (gi cs k) _ _ hown hb.size hm9 (by omega)).mono ?_
      rintro e w1 ⟨A2, c2, rfl, hown2, hb2⟩
      go_wp2
      go_roundw
      case rel => exact ⟨k + 1, m + 8, A2, c2, by omega, by rw [HM.out]; omega, by go_num, rfl, by rw [nom_take (by rw [L.out]; exact hlt)]; exact hown2, hb.trans hb2⟩
      case measure => simp [intOf]; omega
    · have hkn : k = n := by omega
      have HK := Lib.hid hkn
      clear hkn
      go_wp2
      go_ret2
      rw [E1.out, E2.out]
      rw [HK.out, List.take_of_length_le (by rw [L.out]; exact Nat.le_refl _)] at hown
      exact ⟨A', m, c', rfl, hown, hb⟩
end NominalSamples
end Go.Proofs.Ytjehkjdehkdjcaa
