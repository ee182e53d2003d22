/- Walks, laws and small notions for the claims of this seat, several texts as one (Req, Bt, Bc, Bn, Bo, Bp). Conditions: as each theorem states them. -/
import Derived.Test.YtbaojbheopcjhaaGreatDoorB2
import Derived.Test.YtbaojbheopcjhaaGreatDoorB1
import Derived.Test.YtbaojbheopcjhaaGreatDoorB3
import Derived.Deep.DeepCutAuto
import Derived.IntWalk
import Derived.Test.YtbaojbheopcjhaaGreatDoorB4
import Derived.Deep.RegionHeldLaw
namespace Go.Proofs.YtbaojbheopcjhaaGreatDoor
open Go.RowKit
theorem req_succ (v : Int) (k : Nat) : List.replicate (k + 1) v = List.replicate k v ++ [v] := List.replicate_succ'

set_option maxHeartbeats 1000000 in
theorem l20EqualQ_any (n : Nat) (v : Int) (w : World) (hn : n ≤ 1048576) :
    Calls Tryz.prog 43 #[.int .i64 n, .int .i64 v] w (RetI 2 w n (List.replicate n v)) := by
  go_enter Tryz.func43, Tryz.ntmps43
  go_wp2
  go_loopw [0, 5] (fun i o wr => ∃ (j k : Nat) (A' : Option Addr) (c' : Nat), j + k = n ∧ i = .int .i64 j ∧ o = .slice A' k c' ∧ OwnI 2 wr w.heap.size A' k c' (List.replicate k v) ∧ Below w.heap.size w wr) (fun i _ _ => (intOf i).toNat)
  case atStart => exact ⟨n, 0, some ⟨w.heap.size, 0, none⟩, 0, by omega, rfl, rfl, OwnI.empty _ (Nat.le_refl _), (Below.refl _ _).alloc (Nat.le_refl _) _⟩
  case round =>
    obtain ⟨j, k, A', c', hjk, rfl, rfl, hown, hb⟩ := hrel
    by_cases hlt : 0 < j
    · go_wp2_with (at_builtin; refine wpl_appI _ _ Tryz.underlying31 infoInt rfl _ _ rfl w.heap.size _ k _ _ rfl hown v rfl (by omega) hb.size ?_; intro A2 c2 w2 hown2 hB2 hg2)
      go_roundw
      case rel => exact ⟨j - 1, k + 1, A2, c2, by omega, by congr 1; omega, rfl, by rw [req_succ]; exact hown2, hb.trans (hB2 _ (Nat.le_refl _))⟩
      case measure => simp [intOf]; omega
    · obtain rfl : j = 0 := by omega
      obtain rfl : k = n := by omega
      go_wp2
      go_ret
      exact ⟨A', c', rfl, hown, hb⟩
end Go.Proofs.YtbaojbheopcjhaaGreatDoor

namespace Go.Proofs.YtbaojbheopcjhaaGreatDoor

theorem len_blocks {g : Int → List Int} {m : Nat} (hg : ∀ x, (g x).length = m) (ds : List Int) : (ds.flatMap g).length = m * ds.length := by
  induction ds with
  | nil => simp
  | cons d ds ih => rw [List.flatMap_cons, List.length_append, hg, ih, List.length_cons, Nat.mul_add]; omega
theorem gi_rep {n i : Nat} (v : Int) (h : i < n) : gi (List.replicate n v) i = v := by simp [gi, h]
def bitAt (d : Int) (k : Nat) : Int := d / (2 ^ (7 - k) : Nat) % 2
/-- the bits of a byte -/
def bits8 (d : Int) : List Int := [bitAt d 0, bitAt d 1, bitAt d 2, bitAt d 3, bitAt d 4, bitAt d 5, bitAt d 6, bitAt d 7]
/-- the cells of a byte -/
def cell10 (d : Int) : List Int := [1, 0] ++ bits8 d
theorem cell10_len (d : Int) : (cell10 d).length = 10 := rfl
/-- the cells of a transmission -/
def cellsP (ds : List Int) (p : Nat) : List Int := List.replicate p 0 ++ [1] ++ ds.flatMap cell10 ++ [0, 1]
theorem cellsP_len (ds : List Int) (p : Nat) : (cellsP ds p).length = p + 3 + 10 * ds.length := by
  unfold cellsP
  simp only [List.length_append, List.length_replicate, len_blocks cell10_len, List.length_cons, List.length_nil]
  omega
def nom (cs : List Int) : List Int := cs.flatMap fun c => List.replicate 8 c
end Go.Proofs.YtbaojbheopcjhaaGreatDoor

namespace Go.Proofs.YtbaojbheopcjhaaGreatDoor
open Go.RowKit

theorem ownI_zero {T : TypeId} {w : World} {base n c : Nat} {A : Option Addr} {zs : List Int} (h : OwnI T w base A n c zs) : A = none → c = 0 := by
  rintro rfl
  rcases h.2 with ⟨h1, h2⟩ | ⟨g, cap, cur, hv, _⟩
  · injection h1
  · injection hv with h1; cases h1


def bitsTo (d : Int) (m : Nat) : List Int := (List.range m).map (bitAt d)
theorem bitsTo_succ (d : Int) (m : Nat) : bitsTo d (m + 1) = bitsTo d m ++ [bitAt d m] := by simp [bitsTo, List.range_succ]
theorem bitsTo_8 (d : Int) : bitsTo d 8 = bits8 d := rfl
theorem bit_val (B k : Nat) (hB : B ≤ 255) : bits .and .i64 ((B : Int) / 2 ^ (7 - k)) 1 = bitAt B k := by
  have e : ((B : Int) / 2 ^ (7 - k)) = ((B / 2 ^ (7 - k) : Nat) : Int) := by simp
  rw [e, show (1 : Int) = ((1 : Nat) : Int) from rfl, bits_and_i64_nat _ _ (by have := Nat.div_le_self B (2 ^ (7 - k)); omega) (by omega), Nat.and_one_is_mod]
  unfold bitAt
  simp

theorem flat8_take {zs : List Int} {k : Nat} (h : k < zs.length) : (zs.take (k + 1)).flatMap bits8 = (zs.take k).flatMap bits8 ++ bits8 (gi zs k) := by rw [take_gi h]; simp

set_option maxRecDepth 20000 in
set_option maxHeartbeats 4000000 in
theorem l01Bits_any (A : Option Addr) (n c : Nat) (zs : List Int) (w : World) (h : RI w w.heap.size A n zs) (hn : n ≤ 1048576) (hz : allR zs 0 255 = true) :
    Calls Tryz.prog 133 #[.slice A n c] w (RetI 2 w (8 * n) (zs.flatMap bits8)) := by
  have L := Lib.hid h.len
  have HZ := Lib.hid hz
  clear hz
  go_enter Tryz.func133, Tryz.ntmps133
  go_wp2
  go_loopw [3, 4, 5] (fun o i _ wr => ∃ (k m : Nat) (A' : Option Addr) (c' : Nat), k ≤ n ∧ m = 8 * k ∧ i = .int .i64 k ∧ o = .slice A' m c' ∧ OwnI 2 wr w.heap.size A' m c' ((zs.take k).flatMap bits8) ∧ Below w.heap.size w wr) (fun _ i _ _ => n - (intOf i).toNat)
  case atStart => exact ⟨0, 0, some ⟨w.heap.size, 0, none⟩, 0, Nat.zero_le _, rfl, rfl, rfl, OwnI.empty _ (Nat.le_refl _), (Below.refl _ _).alloc (Nat.le_refl _) _⟩
  case round =>
    obtain ⟨k, m, A', c', hk, hmk, rfl, rfl, hown, hb⟩ := hrel
    have HMK := Lib.hid hmk
    have hm9 : m ≤ 8388608 := by omega
    clear hmk
    by_cases hlt : k < n
    · have hbk := allR_gi HZ.out (k := k) (by rw [L.out]; exact hlt)
      obtain ⟨B, hq⟩ : ∃ B : Nat, gi zs k = (B : Int) := ⟨(gi zs k).toNat, by omega⟩
      have hB : B ≤ 255 := by omega
      have HQ := Lib.hid hq
      clear hq hbk
      go_wp2
      go_loopw [3, 5] (fun o i wr => ∃ (j m2 : Nat) (q : Int) (A' : Option Addr) (c' : Nat), j ≤ 8 ∧ m2 = m + j ∧ q = 7 - (j : Int) ∧ i = .int .i64 q ∧ o = .slice A' m2 c' ∧ OwnI 2 wr w.heap.size A' m2 c' ((zs.take k).flatMap bits8 ++ bitsTo B j) ∧ Below w.heap.size w wr) (fun _ i _ => (intOf i + 1).toNat)
      case atStart => exact ⟨0, m, 7, _, _, by omega, rfl, by omega, rfl, rfl, by simpa [bitsTo] using hown, hb⟩
      case round =>
        obtain ⟨j, m2, q, A2, c2, hj, hmj, hq, rfl, rfl, hown, hb⟩ := hrel
        have HM := Lib.hid hmj
        have hm8 : m2 ≤ 8388616 := by omega
        obtain ⟨b, o, rfl, hbl, hc⟩ := (h.below hb (Nat.le_refl _)).get (by omega)
        have hcell := hc k hlt
        rw [HQ.out] at hcell
        clear hmj hc
        by_cases hj8 : j < 8
        · obtain ⟨Q, rfl⟩ : ∃ Q : Nat, q = (Q : Int) := ⟨q.toNat, by omega⟩
          have hQ : Q = 7 - j := by omega
          have HQ2 := Lib.hid hQ
          have hQ7 : Q ≤ 7 := by omega
          clear hQ hq
          go_wp2_with (at_builtin; refine wpl_appI _ _ Tryz.underlying31 infoInt rfl _ _ rfl w.heap.size _ m2 _ _ rfl hown (bits .and .i64 ((B : Int) / 2 ^ Q) 1) rfl (by omega) hb.size ?_; intro A3 c3 w3 hown3 hB3 hg3)
          go_roundw
          case rel => exact ⟨j + 1, m2 + 1, (Q : Int) - 1, A3, c3, by omega, by rw [HM.out]; rfl, by have := HQ2.out; omega, rfl, rfl, by rw [bitsTo_succ, ← bit_val B j hB, ← HQ2.out, ← List.append_assoc]; exact hown3, hb.trans (hB3 _ (Nat.le_refl _))⟩
          case measure => simp [intOf]
        · have hq1 : q < 0 := by omega
          have hj9 : j = 8 := by omega
          have HJ := Lib.hid hj9
          clear hj9 hq
          go_wp2
          go_roundw
          case rel => exact ⟨k + 1, m2, A2, c2, by omega, by rw [HM.out, HJ.out, HMK.out]; omega, by go_num, rfl, by rw [flat8_take (by rw [L.out]; exact hlt), HQ.out, ← bitsTo_8, ← HJ.out]; exact hown, hb⟩
          case measure => simp [intOf]; omega
    · have hkn : k = n := by omega
      have HK := Lib.hid hkn
      clear hkn
      go_wp2
      go_ret
      have e1 := HMK.out
      have e2 := HK.out
      subst e2
      subst e1
      rw [List.take_of_length_le (by rw [L.out]; exact Nat.le_refl _)] at hown
      exact ⟨A', c', rfl, hown, hb⟩

/-- a row of written numbers that has just been made -/
theorem RI.lit (w : World) (L : List Int) (T : TypeId) : RI (w.alloc (.cells (L.map (Value.int .i64)).toArray T)) (w.heap.size + 1) (some ⟨w.heap.size, 0, none⟩) L.length L := by
  refine ⟨rfl, fun _ => ⟨w.heap.size, 0, rfl, Nat.lt_succ_self _, fun k hk => ?_⟩⟩
  have hx' := new_heap w (.cells (L.map (Value.int .i64)).toArray T)
  rw [Nat.zero_add]
  unfold World.cell?
  rw [hx']
  simp [hk, gi]
theorem take_drop_one {zs : List Int} {k : Nat} (h : k < zs.length) : (zs.drop k).take 1 = [gi zs k] := by
  rw [List.drop_eq_getElem_cons h, gi_lt h]; rfl
theorem flat10_take {zs : List Int} {k : Nat} (h : k < zs.length) : (zs.take (k + 1)).flatMap cell10 = (zs.take k).flatMap cell10 ++ [1, 0] ++ bits8 (gi zs k) := by rw [take_gi h]; simp [cell10]

set_option maxRecDepth 20000 in
set_option maxHeartbeats 4000000 in
theorem l18Cells_any (A : Option Addr) (n c p : Nat) (zs : List Int) (w : World) (h : RI w w.heap.size A n zs) (hn : n ≤ 1048576) (hnc : n ≤ c) (hcm : c ≤ maxLen) (hp : p ≤ 15) (hz : allR zs 0 255 = true) :
    Calls Tryz.prog 101 #[.slice A n c, .int .i64 p] w (RetI 2 w (p + 3 + 10 * n) (cellsP zs p)) := by
  unfold maxLen at hcm
  have L := Lib.hid h.len
  have HZ := Lib.hid hz
  clear hz
  go_enter Tryz.func101, Tryz.ntmps101
  go_wp2_with (first
    | (at_make; refine wpl_make _ Tryz.underlying31 infoInt rfl _ _ rfl p rfl rfl (by omega) ?_; intro w1 hown1 hg1; have d1 : Below w.heap.size w w1 := (Below.refl _ _).grown hg1 (Nat.le_refl _) (fun j e => by cases e))
    | (at_builtin; refine wpl_appI _ _ Tryz.underlying31 infoInt rfl _ _ rfl w.heap.size _ p _ _ rfl hown1 1 rfl (by omega) d1.size ?_; intro w2A w2c w2 hown2 hB2 hg2; have d2 := d1.trans (hB2 _ (Nat.le_refl _))))
  clear hown1 d1 hB2 hg2 hg1
  go_loopw [5, 6] (fun o i wr => ∃ (k m : Nat) (A' : Option Addr) (c' : Nat), k ≤ n ∧ m = p + 1 + 10 * k ∧ i = .int .i64 k ∧ o = .slice A' m c' ∧ OwnI 2 wr w.heap.size A' m c' (List.replicate p 0 ++ [1] ++ (zs.take k).flatMap cell10) ∧ Below w.heap.size w wr) (fun _ i _ => n - (intOf i).toNat)
  case atStart => exact ⟨0, p + 1, _, _, Nat.zero_le _, by omega, rfl, rfl, by simpa using hown2, d2⟩
  case round =>
    obtain ⟨k, m, A', c', hk, hmk, rfl, rfl, hown, hb⟩ := hrel
    have HM := Lib.hid hmk
    have hm9 : m ≤ 10485776 := by omega
    clear hmk
    by_cases hlt : k < n
    · obtain ⟨b, o, rfl, _⟩ := h.get (by omega)
      have hsub := ((h.below hb (Nat.le_refl _)).suf (k := k) (by omega)).pre (k := 1) (by omega)
      rw [take_drop_one (by rw [L.out]; exact hlt)] at hsub
      have hbk : allR [gi zs k] 0 255 = true := by
        have := allR_gi HZ.out (k := k) (by rw [L.out]; exact hlt)
        simpa [allR] using inR_iff.2 this
      have HBK := Lib.hid hbk
      have HSUB := Lib.hid hsub
      have hs0 := hb.size
      clear hbk hsub
      go_wp2_with (at_builtin; refine wpl_appR _ Tryz.underlying31 infoInt rfl _ _ rfl w.heap.size _ m _ _ rfl (hown.alloc _) (some ⟨wr.heap.size, 0, none⟩) 2 2 (wr.heap.size + 1) [1, 0] rfl (RI.lit wr [1, 0] _) (fun e => by cases e) (by omega) (by rw [isz_alloc]; omega) ?_; intro A3 c3 w3 hown3 hB3 hg3; have d3w : Below w.heap.size wr w3 := (below_alloc (Below.refl _ _) hs0 _).trans (hB3 _ (Nat.le_refl _)))
      have d3 := hb.trans d3w
      refine (l01Bits_any _ 1 _ [gi zs k] _ ((HSUB.out.below d3w (Nat.le_refl _)).more d3.size) (by omega) HBK.out).mono ?_
      rintro e w4 ⟨A4, c4, rfl, hown4, hb4⟩
      have hown34 := hown3.below hb4
      have d4 := below_next hb4 d3 (Nat.le_refl _)
      clear hb4 hown3 hg3 d3w hB3
      go_wp2_with (at_builtin; refine wpl_appR _ Tryz.underlying31 infoInt rfl _ _ rfl w.heap.size _ (m + 2) _ _ rfl hown34 A4 (8 * 1) c4 _ _ rfl hown4.reads (ownI_zero hown4) (by omega) d4.size ?_; intro A5 c5 w5 hown5 hB5 hg5; have d5 := d4.trans (hB5 _ (Nat.le_refl _)))
      go_roundw
      case rel => exact ⟨k + 1, m + 2 + 8 * 1, A5, c5, by omega, by rw [HM.out]; omega, by go_num, rfl, by rw [flat10_take (by rw [L.out]; exact hlt)]; simpa using hown5, d5⟩
      case measure => simp [intOf]; omega
    · have hkn : k = n := by omega
      have HK := Lib.hid hkn
      clear hkn
      go_wp2_with (at_builtin; refine wpl_appR _ Tryz.underlying31 infoInt rfl _ _ rfl w.heap.size _ m _ _ rfl (hown.alloc _) (some ⟨wr.heap.size, 0, none⟩) 2 2 (wr.heap.size + 1) [0, 1] rfl (RI.lit wr [0, 1] _) (fun e => by cases e) (by omega) (by rw [isz_alloc]; have := hb.size; omega) ?_; intro A3 c3 w3 hown3 hB3 hg3; have d3w : Below w.heap.size wr w3 := (below_alloc (Below.refl _ _) hb.size _).trans (hB3 _ (Nat.le_refl _)))
      go_ret
      have e1 := HM.out
      have e2 := HK.out
      subst e2
      subst e1
      rw [List.take_of_length_le (by rw [L.out]; exact Nat.le_refl _)] at hown3
      rw [show p + 1 + 10 * k + 2 = p + 3 + 10 * k by omega] at hown3
      exact ⟨A3, c3, by rw [show p + 3 + 10 * k = p + 1 + 10 * k + 2 by omega]; rfl, hown3, hb.trans d3w⟩



/-- a slice of the call's own is handed back, of whatever length -/
def RetS (T : TypeId) (w0 : World) (zs : List Int) (e : Ending) (w' : World) : Prop :=
  ∃ A n c, e = .returned (.slice A n c) ∧ OwnI T w' w0.heap.size A n c zs ∧ Below w0.heap.size w0 w'
/-- a slice and a code, whatever they hold -/
def RetW (T : TypeId) (w0 : World) (N : Nat) (e : Ending) (w' : World) : Prop :=
  ∃ A n c zs q, e = .returned (.tuple #[.slice A n c, .int .i64 q]) ∧ OwnI T w' w0.heap.size A n c zs ∧ n ≤ N ∧ Below w0.heap.size w0 w'

/-- the first k cells, stretched -/
def sTo (cs ws : List Int) (k : Nat) : List Int := (List.range k).flatMap fun i => List.replicate (gi ws i).toNat (gi cs i)
theorem sTo_succ (cs ws : List Int) (k : Nat) : sTo cs ws (k + 1) = sTo cs ws k ++ List.replicate (gi ws k).toNat (gi cs k) := by simp [sTo, List.range_succ]
theorem sTo_len {cs ws : List Int} {M k : Nat} (h : ∀ i, i < k → (gi ws i).toNat ≤ M) : (sTo cs ws k).length ≤ M * k := by
  induction k with
  | zero => simp [sTo]
  | succ k ih =>
    rw [sTo_succ, List.length_append, List.length_replicate, Nat.mul_add]
    have := ih (fun i hi => h i (by omega))
    have := h k (by omega)
    omega
theorem sTo_nom (cs : List Int) : ∀ n k, k ≤ n → k ≤ cs.length → sTo cs (List.replicate n 8) k = nom (cs.take k) := by
  intro n k
  induction k with
  | zero => intro _ _; simp [sTo, nom]
  | succ k ih =>
    intro h1 h2
    rw [sTo_succ, ih (by omega) (by omega), take_gi (by omega)]
    have : gi (List.replicate n (8 : Int)) k = 8 := gi_rep 8 (by omega)
    rw [this]
    simp [nom]

set_option maxRecDepth 20000 in
set_option maxHeartbeats 4000000 in
theorem l20Stretch_any (A A1 : Option Addr) (n c c1 : Nat) (cs ws : List Int) (w : World) (h : RI w w.heap.size A n cs) (hn : n ≤ 1048576) (h1 : RI w w.heap.size A1 n ws) (hw : ∀ i, i < n → 0 ≤ gi ws i ∧ gi ws i ≤ 16) :
    Calls Tryz.prog 100 #[.slice A n c, .slice A1 n c1] w (RetS 2 w (sTo cs ws n)) := by
  have HW := Lib.hid hw
  clear hw
  go_enter Tryz.func100, Tryz.ntmps100
  go_wp2
  go_loopw [5, 6, 7] (fun o i _ wr => ∃ (k m : Nat) (A' : Option Addr) (c' : Nat), k ≤ n ∧ m ≤ 16 * k ∧ i = .int .i64 k ∧ o = .slice A' m c' ∧ OwnI 2 wr w.heap.size A' m c' (sTo cs ws k) ∧ Below w.heap.size w wr) (fun _ i _ _ => n - (intOf i).toNat)
  case atStart => exact ⟨0, 0, some ⟨w.heap.size, 0, none⟩, 0, Nat.zero_le _, Nat.zero_le _, rfl, rfl, OwnI.empty _ (Nat.le_refl _), (Below.refl _ _).alloc (Nat.le_refl _) _⟩
  case round =>
    obtain ⟨k, m, A', c', hk, hmk, rfl, rfl, hown, hb⟩ := hrel
    by_cases hlt : k < n
    · have hwk := HW.out k hlt
      obtain ⟨q, hq⟩ : ∃ q : Nat, gi ws k = (q : Int) := ⟨(gi ws k).toNat, by omega⟩
      have hq16 : q ≤ 16 := by omega
      have HQ := Lib.hid hq
      clear hq hwk
      go_wp2
      go_loopw [5, 7] (fun o i wr => ∃ (j m2 : Nat) (A' : Option Addr) (c' : Nat), j ≤ q ∧ m2 = m + j ∧ i = .int .i64 j ∧ o = .slice A' m2 c' ∧ OwnI 2 wr w.heap.size A' m2 c' (sTo cs ws k ++ List.replicate j (gi cs k)) ∧ Below w.heap.size w wr) (fun _ i _ => q - (intOf i).toNat)
      case atStart => exact ⟨0, m, _, _, Nat.zero_le _, rfl, rfl, rfl, by simpa using hown, hb⟩
      case round =>
        obtain ⟨j, m2, A2, c2, hj, hmj, rfl, rfl, hown, hb⟩ := hrel
        have HM := Lib.hid hmj
        have hm8 : m2 ≤ 16777232 := by omega
        obtain ⟨b, o, rfl, hbl, hc⟩ := (h.below hb (Nat.le_refl _)).get (by omega)
        obtain ⟨b1, o1, rfl, hbl1, hc1⟩ := (h1.below hb (Nat.le_refl _)).get (by omega)
        have hcell := hc k hlt
        have hcell1 := hc1 k hlt
        rw [HQ.out] at hcell1
        clear hmj hc hc1
        by_cases hjq : j < q
        · go_wp2_with (at_builtin; refine wpl_appI _ _ Tryz.underlying31 infoInt rfl _ _ rfl w.heap.size _ m2 _ _ rfl hown (gi cs k) rfl (by omega) hb.size ?_; intro A3 c3 w3 hown3 hB3 hg3)
          go_roundw
          case rel => exact ⟨j + 1, m2 + 1, A3, c3, by omega, by rw [HM.out]; rfl, by go_num, rfl, by rw [req_succ, ← List.append_assoc]; exact hown3, hb.trans (hB3 _ (Nat.le_refl _))⟩
          case measure => simp [intOf]; omega
        · have hj9 : j = q := by omega
          have HJ := Lib.hid hj9
          clear hj9
          go_wp2
          go_roundw
          case rel => exact ⟨k + 1, m2, A2, c2, by omega, by have := HM.out; omega, by go_num, rfl, by rw [sTo_succ, HQ.out, Int.toNat_natCast, ← HJ.out]; exact hown, hb⟩
          case measure => simp [intOf]; omega
    · have hkn : k = n := by omega
      have HK := Lib.hid hkn
      clear hkn
      go_wp2
      go_ret
      exact ⟨A', m, c', rfl, by rw [← HK.out]; exact hown, hb⟩

set_option maxHeartbeats 4000000 in
theorem l20Nominal_any (A : Option Addr) (n c : Nat) (cs : List Int) (w : World) (h : RI w w.heap.size A n cs) (hn : n ≤ 1048576) :
    Calls Tryz.prog 61 #[.slice A n c] w (RetS 2 w (nom cs)) := by
  have L := Lib.hid h.len
  go_enter Tryz.func61, Tryz.ntmps61
  go_wp2_with fail
  refine (l20EqualQ_any n 8 _ hn).mono ?_
  rintro e w1 ⟨A1, c1, rfl, hown1, hb1⟩
  go_wp2_with fail
  refine (l20Stretch_any A A1 n c c1 cs (List.replicate n 8) _ (h.up hb1) hn hown1.reads (fun i hi => by rw [gi_rep 8 hi]; omega)).mono ?_
  rintro e w2 ⟨A2, n2, c2, rfl, hown2, hb2⟩
  go_wp2
  go_ret
  refine ⟨A2, n2, c2, rfl, ?_, below_next hb2 hb1 (Nat.le_refl _)⟩
  have e := sTo_nom cs n n (Nat.le_refl _) (by rw [L.out]; exact Nat.le_refl _)
  rw [List.take_of_length_le (by rw [L.out]; exact Nat.le_refl _)] at e
  rw [← e]
  exact hown2.weaken hb1.size

namespace NominalSamples
def cod (cs : List Int) : Int := if isBits cs then (if cs.length * 8 ≤ 8192 then 0 else 3) else 1
def res (cs : List Int) : List Int := if cod cs = 0 then nom cs else []

end NominalSamples


set_option maxHeartbeats 1000000 in
theorem repeatOn_any (A : Option Addr) (m0 c base n : Nat) (v : Int) (zs : List Int) (w : World) (h : OwnI 2 w base A m0 c zs) (hbase : base ≤ w.heap.size) (hm : m0 ≤ 1048576) (hn : n ≤ 1048576) :
    Calls Tryz.prog 69 #[.slice A m0 c, .int .i64 v, .int .i64 n] w fun e w' => ∃ A' c', e = .returned (.slice A' (m0 + n) c') ∧ OwnI 2 w' base A' (m0 + n) c' (zs ++ List.replicate n v) ∧ Below base w w' := by
  go_enter Tryz.func69, Tryz.ntmps69
  go_wp2
  go_loopw [0, 8] (fun o i wr => ∃ (k m : Nat) (A' : Option Addr) (c' : Nat), k ≤ n ∧ m = m0 + k ∧ i = .int .i64 k ∧ o = .slice A' m c' ∧ OwnI 2 wr base A' m c' (zs ++ List.replicate k v) ∧ Below base w wr) (fun _ i _ => n - (intOf i).toNat)
  case atStart => exact ⟨0, m0, A, c, by omega, rfl, rfl, rfl, by simpa using h, Below.refl _ _⟩
  case round =>
    obtain ⟨k, m, A', c', hk, hmk, rfl, rfl, hown, hb⟩ := hrel
    have HM := Lib.hid hmk
    have hm9 : m ≤ 2097152 := by omega
    have hs := Nat.le_trans hbase hb.size
    clear hmk
    by_cases hlt : k < n
    · go_wp2_with (at_builtin; refine wpl_appI _ _ Tryz.underlying31 infoInt rfl _ _ rfl base _ m _ _ rfl hown v rfl (by omega) hs ?_; intro A2 c2 w2 hown2 hB2 hg2)
      go_roundw
      case rel => exact ⟨k + 1, m + 1, A2, c2, by omega, by rw [HM.out]; rfl, by go_num, rfl, by rw [req_succ, ← List.append_assoc]; exact hown2, hb.trans (hB2 _ (Nat.le_refl _))⟩
      case measure => simp [intOf]; omega
    · have hkn : k = n := by omega
      have HK := Lib.hid hkn
      clear hkn
      go_wp2
      go_ret
      have e1 := HM.out
      have e2 := HK.out
      subst e2
      subst e1
      exact ⟨A', c', rfl, hown, hb⟩

namespace NominalSamples
theorem nom_take {cs : List Int} {k : Nat} (h : k < cs.length) : nom (cs.take (k + 1)) = nom (cs.take k) ++ List.replicate 8 (gi cs k) := by rw [take_gi h]; simp [nom]

set_option maxHeartbeats 4000000 in
theorem impl_any (A : Option Addr) (n c : Nat) (cs : List Int) (w : World) (h : RI w w.heap.size A n cs) (hn : n ≤ 1048576) :
    Calls Tryz.prog 30 #[.slice A n c] w (RetIC 2 w (res cs) (cod cs)) := by
  have L := Lib.hid h.len
  rcases bool_cases (isBits cs) with hz | hz
  case inr =>
    have E2 := Lib.hid (show cod cs = 1 by simp [cod, hz])
    have E1 := Lib.hid (show res cs = [] by unfold res; rw [E2.out, if_neg (by omega)])
    go_enter Tryz.func30, Tryz.ntmps30
    go_wp2_with (go_at_call 46; refine (iIsBits_any _ _ _ cs _ h (by omega)).mono ?_; rw [hz]; rintro e w' ⟨rfl, rfl⟩)
    go_ret2
    rw [E1.out, E2.out]
    exact ⟨none, 0, 0, rfl, OwnI.nil _ _ _, Below.refl _ _⟩
  by_cases hs : (n : Int) * 8 ≤ 8192
  case neg =>
    have E2 := Lib.hid (show cod cs = 3 by simp [cod, hz, L.out]; omega)
    have E1 := Lib.hid (show res cs = [] by unfold res; rw [E2.out, if_neg (by omega)])
    go_enter Tryz.func30, Tryz.ntmps30
    go_wp2_with (go_at_call 46; refine (iIsBits_any _ _ _ cs _ h (by omega)).mono ?_; rw [hz]; rintro e w' ⟨rfl, rfl⟩)
    go_ret2
    rw [E1.out, E2.out]
    exact ⟨none, 0, 0, rfl, OwnI.nil _ _ _, Below.refl _ _⟩
  have E2 := Lib.hid (show cod cs = 0 by simp [cod, hz, L.out]; omega)
  have E1 := Lib.hid (show res cs = nom cs by unfold res; rw [E2.out, if_pos rfl])
  go_enter Tryz.func30, Tryz.ntmps30
  go_wp2_with (go_at_call 46; refine (iIsBits_any _ _ _ cs _ h (by omega)).mono ?_; rw [hz]; rintro e w' ⟨rfl, rfl⟩)
  go_loopw [4, 6, 17] (fun o _ i wr => ∃ (k m : Nat) (A' : Option Addr) (c' : Nat), k ≤ n ∧ m = 8 * k ∧ i = .int .i64 k ∧ o = .slice A' m c' ∧ OwnI 2 wr w.heap.size A' m c' (nom (cs.take k)) ∧ Below w.heap.size w wr) (fun _ _ i _ => n - (intOf i).toNat)
  case atStart => exact ⟨0, 0, some ⟨w.heap.size, 0, none⟩, 0, Nat.zero_le _, rfl, rfl, rfl, OwnI.empty _ (Nat.le_refl _), (Below.refl _ _).alloc (Nat.le_refl _) _⟩
  case round =>
    obtain ⟨k, m, A', c', hk, hmk, rfl, rfl, hown, hb⟩ := hrel
    have HM := Lib.hid hmk
    have hm9 : m ≤ 1048576 := by omega
    clear hmk
    by_cases hlt : k < n
    · obtain ⟨b, o, rfl, hbl, hc⟩ := (h.below hb (Nat.le_refl _)).get (by omega)
      have hcell := hc k hlt
      clear hc
      go_wp2_with fail
      refine (repeatOn_any A' m c' w.heap.size 8 (gi cs k) _ _ hown hb.size hm9 (by omega)).mono ?_
      rintro e w1 ⟨A2, c2, rfl, hown2, hb2⟩
      go_wp2
      go_roundw
      case rel => exact ⟨k + 1, m + 8, A2, c2, by omega, by rw [HM.out]; omega, by go_num, rfl, by rw [nom_take (by rw [L.out]; exact hlt)]; exact hown2, hb.trans hb2⟩
      case measure => simp [intOf]; omega
    · have hkn : k = n := by omega
      have HK := Lib.hid hkn
      clear hkn
      go_wp2
      go_ret2
      rw [E1.out, E2.out]
      rw [HK.out, List.take_of_length_le (by rw [L.out]; exact Nat.le_refl _)] at hown
      exact ⟨A', m, c', rfl, hown, hb⟩
end NominalSamples
end Go.Proofs.YtbaojbheopcjhaaGreatDoor

namespace Go.Proofs.YtbaojbheopcjhaaGreatDoor
open Go.RowKit

/-- bit i of a number -/
def bitW (v i : Nat) : Int := ((v / 2 ^ i % 2 : Nat) : Int)
/-- the first j of so many bits, from the top -/
def bitsD (v width j : Nat) : List Int := (List.range j).map fun i => bitW v (width - 1 - i)
def bitsW (v width : Nat) : List Int := bitsD v width width
theorem bitsD_succ (v width j : Nat) : bitsD v width (j + 1) = bitsD v width j ++ [bitW v (width - 1 - j)] := by simp [bitsD, List.range_succ]
theorem bitsD_zero (v width : Nat) : bitsD v width 0 = [] := rfl
theorem bitsW_len (v width : Nat) : (bitsW v width).length = width := by simp [bitsW, bitsD]
theorem bitW_val (v i : Nat) (hv : v < 4611686018427387904) : bits .and .i64 ((v : Int) / 2 ^ i) 1 = bitW v i := by
  have e : ((v : Int) / 2 ^ i) = ((v / 2 ^ i : Nat) : Int) := by simp
  rw [e, show (1 : Int) = ((1 : Nat) : Int) from rfl, bits_and_i64_nat _ _ (by have := Nat.div_le_self v (2 ^ i); omega) (by omega), Nat.and_one_is_mod]
  rfl
theorem bitW_01 (v i : Nat) : 0 ≤ bitW v i ∧ bitW v i ≤ 1 := by unfold bitW; omega
theorem bitsW_01 (v width : Nat) : allR (bitsW v width) 0 1 = true := by
  refine List.all_eq_true.2 fun z hz => ?_
  obtain ⟨i, _, rfl⟩ := List.mem_map.1 hz
  exact inR_iff.2 (bitW_01 _ _)
theorem bits8_W (B : Nat) : bits8 (B : Int) = bitsW B 8 := by
  have h : ∀ k, bitAt (B : Int) k = bitW B (7 - k) := by
    intro k
    unfold bitAt bitW
    simp
  simp [bits8, bitsW, bitsD, List.range_succ, h]
theorem allR_app {xs ys : List Int} {lo hi : Int} (h1 : allR xs lo hi = true) (h2 : allR ys lo hi = true) : allR (xs ++ ys) lo hi = true := by
  unfold allR at *; rw [List.all_append, h1, h2]; rfl
/-- the number of bits -/
def numB (zs : List Int) : Int := zs.foldl (fun n b => 2 * n + b) 0
theorem numB_take {zs : List Int} {k : Nat} (h : k < zs.length) : numB (zs.take (k + 1)) = 2 * numB (zs.take k) + gi zs k := by
  rw [take_gi h]; unfold numB; rw [List.foldl_append]; rfl
theorem numB_lt {zs : List Int} (h : allR zs 0 1 = true) : ∀ k, k ≤ zs.length → 0 ≤ numB (zs.take k) ∧ numB (zs.take k) < 2 ^ k := by
  intro k
  induction k with
  | zero => intro _; rw [List.take_zero]; decide
  | succ k ih =>
    intro hk
    have h1 := ih (by omega)
    have h2 := allR_gi h (k := k) (by omega)
    rw [numB_take (by omega), Int.pow_succ]
    omega
/-- the bytes of so many times eight bits -/
def bytesB (zs : List Int) (q : Nat) : List Int := (List.range q).map fun i => numB ((zs.drop (8 * i)).take 8)
theorem bytesB_succ (zs : List Int) (q : Nat) : bytesB zs (q + 1) = bytesB zs q ++ [numB ((zs.drop (8 * q)).take 8)] := by simp [bytesB, List.range_succ]
theorem allR_part {zs : List Int} {lo hi : Int} (h : allR zs lo hi = true) (a b : Nat) : allR ((zs.drop a).take b) lo hi = true :=
  List.all_eq_true.2 fun z hz => List.all_eq_true.1 h z (List.mem_of_mem_drop (List.mem_of_mem_take hz))
theorem bytesB_255 {zs : List Int} (h : allR zs 0 1 = true) (q : Nat) : allR (bytesB zs q) 0 255 = true := by
  refine List.all_eq_true.2 fun z hz => ?_
  obtain ⟨i, _, rfl⟩ := List.mem_map.1 hz
  have hp := allR_part h (8 * i) 8
  have h1 := numB_lt hp _ (Nat.le_refl _)
  rw [List.take_length] at h1
  have h2 : ((zs.drop (8 * i)).take 8).length ≤ 8 := by rw [List.length_take]; omega
  have h3 : (2 : Int) ^ ((zs.drop (8 * i)).take 8).length ≤ 2 ^ 8 := by
    have := Nat.pow_le_pow_right (n := 2) (by omega) h2
    exact_mod_cast this
  exact inR_iff.2 ⟨h1.1, by omega⟩
theorem bytesB_len (zs : List Int) (q : Nat) : (bytesB zs q).length = q := by simp [bytesB]
/-- the bits of a state -/
def stB (t md rn sl mb : Nat) : List Int := bitsW t 16 ++ bitsW md 4 ++ bitsW rn 4 ++ bitsW sl 8 ++ bitsW mb 32
theorem stB_len (t md rn sl mb : Nat) : (stB t md rn sl mb).length = 64 := by simp [stB, bitsW_len]
theorem stB_01 (t md rn sl mb : Nat) : allR (stB t md rn sl mb) 0 1 = true :=
  allR_app (allR_app (allR_app (allR_app (bitsW_01 _ _) (bitsW_01 _ _)) (bitsW_01 _ _)) (bitsW_01 _ _)) (bitsW_01 _ _)

set_option maxHeartbeats 1000000 in
theorem appNum_any (A : Option Addr) (m0 c base v width : Nat) (zs : List Int) (w : World) (h : OwnI 2 w base A m0 c zs) (hbase : base ≤ w.heap.size) (hm : m0 ≤ 16777216) (hn : width ≤ 32) (hv : v < 4611686018427387904) :
    Calls Tryz.prog 104 #[.slice A m0 c, .int .i64 v, .int .i64 width] w fun e w' => ∃ A' c', e = .returned (.slice A' (m0 + width) c') ∧ OwnI 2 w' base A' (m0 + width) c' (zs ++ bitsW v width) ∧ Below base w w' := by
  go_enter Tryz.func104, Tryz.ntmps104
  go_wp2
  go_loopw [0, 7] (fun o i wr => ∃ (k m : Nat) (q : Int) (A' : Option Addr) (c' : Nat), k ≤ width ∧ m = m0 + k ∧ q = (width : Int) - 1 - k ∧ i = .int .i64 q ∧ o = .slice A' m c' ∧ OwnI 2 wr base A' m c' (zs ++ bitsD v width k) ∧ Below base w wr) (fun _ i _ => (intOf i + 1).toNat)
  case atStart => exact ⟨0, m0, (width : Int) - 1, A, c, by omega, rfl, by omega, by go_num, rfl, by rw [bitsD_zero, List.append_nil]; exact h, Below.refl _ _⟩
  case round =>
    obtain ⟨k, m, q, A', c', hk, hmk, hq, rfl, rfl, hown, hb⟩ := hrel
    have HM := Lib.hid hmk
    have hm9 : m ≤ 16777248 := by omega
    have hs := Nat.le_trans hbase hb.size
    clear hmk
    by_cases hlt : k < width
    · obtain ⟨Q, rfl⟩ : ∃ Q : Nat, q = (Q : Int) := ⟨q.toNat, by omega⟩
      have hQ : Q = width - 1 - k := by omega
      have HQ := Lib.hid hQ
      have hQ9 : Q ≤ 31 := by omega
      clear hQ hq
      go_wp2_with (at_builtin; refine wpl_appI _ _ Tryz.underlying31 infoInt rfl _ _ rfl base _ m _ _ rfl hown (bits .and .i64 ((v : Int) / 2 ^ Q) 1) rfl (by omega) hs ?_; intro A2 c2 w2 hown2 hB2 hg2)
      go_roundw
      case rel => exact ⟨k + 1, m + 1, (Q : Int) - 1, A2, c2, by omega, by rw [HM.out]; rfl, by have := HQ.out; omega, rfl, rfl, by rw [bitsD_succ, ← HQ.out, ← bitW_val v Q hv, ← List.append_assoc]; exact hown2, hb.trans (hB2 _ (Nat.le_refl _))⟩
      case measure => simp [intOf]
    · have hkn : k = width := by omega
      have hq1 : q < 0 := by omega
      have HK := Lib.hid hkn
      clear hkn hq
      go_wp2
      go_ret
      have e1 := HM.out
      have e2 := HK.out
      subst e2
      subst e1
      exact ⟨A', c', rfl, hown, hb⟩

set_option maxHeartbeats 1000000 in
theorem l01App_any (A : Option Addr) (n c v width : Nat) (zs : List Int) (w : World) (h : RI w w.heap.size A n zs) (hA : A = none → c = 0) (hm : n ≤ 1048576) (hn : width ≤ 32) (hv : v < 4611686018427387904) :
    Calls Tryz.prog 219 #[.slice A n c, .int .i64 v, .int .i64 width] w (RetI 2 w (n + width) (zs ++ bitsW v width)) := by
  go_enter Tryz.func219, Tryz.ntmps219
  go_wp2_with (at_builtin; refine wpl_appR _ Tryz.underlying31 infoInt rfl _ _ rfl w.heap.size _ 0 _ _ rfl (OwnI.empty _ (Nat.le_refl _)) A n c _ _ rfl (h.below (below_alloc (Below.refl _ _) (Nat.le_refl _) _) (Nat.le_refl _)) hA (by omega) (by simp) ?_; intro A1 c1 w1 hown1 hB1 hg1; have d1 : Below w.heap.size w w1 := (below_alloc (Below.refl _ _) (Nat.le_refl _) _).trans (hB1 _ (Nat.le_refl _)))
  rw [List.nil_append, Nat.zero_add] at hown1
  go_loopw [7, 8] (fun o i wr => ∃ (k m : Nat) (q : Int) (A' : Option Addr) (c' : Nat), k ≤ width ∧ m = n + k ∧ q = (width : Int) - 1 - k ∧ i = .int .i64 q ∧ o = .slice A' m c' ∧ OwnI 2 wr w.heap.size A' m c' (zs ++ bitsD v width k) ∧ Below w.heap.size w wr) (fun _ i _ => (intOf i + 1).toNat)
  case atStart => exact ⟨0, n, (width : Int) - 1, _, _, by omega, rfl, by omega, by go_num, by first | rfl | simp, by rw [bitsD_zero, List.append_nil]; exact hown1, d1⟩
  case round =>
    obtain ⟨k, m, q, A', c', hk, hmk, hq, rfl, rfl, hown, hb⟩ := hrel
    have HM := Lib.hid hmk
    have hm9 : m ≤ 16777248 := by omega
    have hs := hb.size
    clear hmk
    by_cases hlt : k < width
    · obtain ⟨Q, rfl⟩ : ∃ Q : Nat, q = (Q : Int) := ⟨q.toNat, by omega⟩
      have hQ : Q = width - 1 - k := by omega
      have HQ := Lib.hid hQ
      have hQ9 : Q ≤ 31 := by omega
      clear hQ hq
      go_wp2_with (at_builtin; refine wpl_appI _ _ Tryz.underlying31 infoInt rfl _ _ rfl w.heap.size _ m _ _ rfl hown (bits .and .i64 ((v : Int) / 2 ^ Q) 1) rfl (by omega) hs ?_; intro A2 c2 w2 hown2 hB2 hg2)
      go_roundw
      case rel => exact ⟨k + 1, m + 1, (Q : Int) - 1, A2, c2, by omega, by rw [HM.out]; rfl, by have := HQ.out; omega, rfl, rfl, by rw [bitsD_succ, ← HQ.out, ← bitW_val v Q hv, ← List.append_assoc]; exact hown2, hb.trans (hB2 _ (Nat.le_refl _))⟩
      case measure => simp [intOf]
    · have hkn : k = width := by omega
      have hq1 : q < 0 := by omega
      have HK := Lib.hid hkn
      clear hkn hq
      go_wp2
      go_ret
      have e1 := HM.out
      have e2 := HK.out
      subst e2
      subst e1
      exact ⟨A', c', rfl, hown, hb⟩

set_option maxHeartbeats 1000000 in
theorem toBits_any (A : Option Addr) (n c : Nat) (zs : List Int) (w : World) (h : RI w w.heap.size A n zs) (hn : n ≤ 1048576) (hz : allR zs 0 255 = true) :
    Calls Tryz.prog 141 #[.slice A n c] w (RetI 2 w (8 * n) (zs.flatMap bits8)) := by
  have L := Lib.hid h.len
  have HZ := Lib.hid hz
  clear hz
  go_enter Tryz.func141, Tryz.ntmps141
  go_wp2
  go_loopw [3, 9] (fun o i wr => ∃ (k m : Nat) (A' : Option Addr) (c' : Nat), k ≤ n ∧ m = 8 * k ∧ i = .int .i64 k ∧ o = .slice A' m c' ∧ OwnI 2 wr w.heap.size A' m c' ((zs.take k).flatMap bits8) ∧ Below w.heap.size w wr) (fun _ i _ => n - (intOf i).toNat)
  case atStart => exact ⟨0, 0, some ⟨w.heap.size, 0, none⟩, 0, Nat.zero_le _, rfl, rfl, rfl, OwnI.empty _ (Nat.le_refl _), (Below.refl _ _).alloc (Nat.le_refl _) _⟩
  case round =>
    obtain ⟨k, m, A', c', hk, hmk, rfl, rfl, hown, hb⟩ := hrel
    have HMK := Lib.hid hmk
    have hm9 : m ≤ 8388608 := by omega
    clear hmk
    by_cases hlt : k < n
    · have hbk := allR_gi HZ.out (k := k) (by rw [L.out]; exact hlt)
      obtain ⟨B, hq⟩ : ∃ B : Nat, gi zs k = (B : Int) := ⟨(gi zs k).toNat, by omega⟩
      have hB : B ≤ 255 := by omega
      have HQ := Lib.hid hq
      obtain ⟨b, o, rfl, hbl, hc⟩ := (h.below hb (Nat.le_refl _)).get (by omega)
      have hcell := hc k hlt
      rw [HQ.out] at hcell
      clear hq hbk hc
      go_wp2_with fail
      refine (appNum_any A' m c' w.heap.size B 8 _ _ hown hb.size (by omega) (by omega) (by omega)).mono ?_
      rintro e w2 ⟨A2, c2, rfl, hown2, hb2⟩
      clear hcell
      go_wp2
      go_roundw
      case rel => exact ⟨k + 1, m + 8, A2, c2, by omega, by rw [HMK.out]; omega, by go_num, rfl, by rw [flat8_take (by rw [L.out]; exact hlt), HQ.out, bits8_W]; exact hown2, hb.trans hb2⟩
      case measure => simp [intOf]; omega
    · have hkn : k = n := by omega
      have HK := Lib.hid hkn
      clear hkn
      go_wp2
      go_ret
      have e1 := HMK.out
      have e2 := HK.out
      subst e2
      subst e1
      rw [List.take_of_length_le (by rw [L.out]; exact Nat.le_refl _)] at hown
      exact ⟨A', c', rfl, hown, hb⟩

set_option maxHeartbeats 1000000 in
theorem stBits_any (t md rn sl mb : Nat) (w : World) (h1 : t < 4611686018427387904) (h2 : md < 4611686018427387904) (h3 : rn < 4611686018427387904) (h4 : sl < 4611686018427387904) (h5 : mb < 4611686018427387904) :
    Calls Tryz.prog 137 #[.agg #[.int .i64 t, .int .i64 md, .int .i64 rn, .int .i64 sl, .int .i64 mb]] w (RetI 2 w 64 (stB t md rn sl mb)) := by
  obtain ⟨w0, hw0⟩ : ∃ v, v = w.alloc (.cells #[.int .i64 t, .int .i64 md, .int .i64 rn, .int .i64 sl, .int .i64 mb] 30) := ⟨_, rfl⟩
  have k0 : BlkL w0 w.heap.size 30 [.int .i64 t, .int .i64 md, .int .i64 rn, .int .i64 sl, .int .i64 mb] := by rw [hw0]; exact BlkL.new _ _ _ rfl
  have gb : Below w.heap.size w w0 := by rw [hw0]; go_grown
  have hlt := k0.lt
  have c0 := k0.c 0 rfl
  go_enter Tryz.func137, Tryz.ntmps137
  go_wp2_with fail
  rw [← hw0]
  clear hw0
  refine (appNum_any none 0 0 w0.heap.size t 16 [] _ (OwnI.nil _ _ _) (Nat.le_refl _) (by omega) (by omega) h1).mono ?_
  rintro e w1 ⟨A1, d1, rfl, own1, hb1⟩
  have k1 := k0.next hb1
  have s1 := hb1.size
  have gb1 := below_next hb1 gb (Nat.le_refl _)
  have c1 := k1.c 1 rfl
  clear c0 k0 gb hb1
  go_wp2_with fail
  refine (appNum_any A1 (0 + 16) d1 w0.heap.size md 4 _ _ own1 s1 (by omega) (by omega) h2).mono ?_
  rintro e w2 ⟨A2, d2, rfl, own2, hb2⟩
  have hk2 := hb2.block w.heap.size hlt
  have k2 : BlkL w2 w.heap.size 30 [.int .i64 t, .int .i64 md, .int .i64 rn, .int .i64 sl, .int .i64 mb] := hk2.trans k1
  have s2 := Nat.le_trans s1 hb2.size
  have gb2 : Below w.heap.size w w2 := gb1.trans (hb2.mono (Nat.le_of_lt hlt))
  have c2 := k2.c 2 rfl
  clear c1 k1 gb1 hb2 hk2 own1
  go_wp2_with fail
  refine (appNum_any A2 (0 + 16 + 4) d2 w0.heap.size rn 4 _ _ own2 s2 (by omega) (by omega) h3).mono ?_
  rintro e w3 ⟨A3, d3, rfl, own3, hb3⟩
  have hk3 := hb3.block w.heap.size hlt
  have k3 : BlkL w3 w.heap.size 30 [.int .i64 t, .int .i64 md, .int .i64 rn, .int .i64 sl, .int .i64 mb] := hk3.trans k2
  have s3 := Nat.le_trans s2 hb3.size
  have gb3 : Below w.heap.size w w3 := gb2.trans (hb3.mono (Nat.le_of_lt hlt))
  have c3 := k3.c 3 rfl
  clear c2 k2 gb2 hb3 hk3 own2
  go_wp2_with fail
  refine (appNum_any A3 (0 + 16 + 4 + 4) d3 w0.heap.size sl 8 _ _ own3 s3 (by omega) (by omega) h4).mono ?_
  rintro e w4 ⟨A4, d4, rfl, own4, hb4⟩
  have hk4 := hb4.block w.heap.size hlt
  have k4 : BlkL w4 w.heap.size 30 [.int .i64 t, .int .i64 md, .int .i64 rn, .int .i64 sl, .int .i64 mb] := hk4.trans k3
  have s4 := Nat.le_trans s3 hb4.size
  have gb4 : Below w.heap.size w w4 := gb3.trans (hb4.mono (Nat.le_of_lt hlt))
  have c4 := k4.c 4 rfl
  clear c3 k3 gb3 hb4 hk4 own3
  go_wp2_with fail
  refine (appNum_any A4 (0 + 16 + 4 + 4 + 8) d4 w0.heap.size mb 32 _ _ own4 s4 (by omega) (by omega) h5).mono ?_
  rintro e w5 ⟨A5, d5, rfl, own5, hb5⟩
  have gb5 : Below w.heap.size w w5 := gb4.trans (hb5.mono (Nat.le_of_lt hlt))
  have own6 := own5.weaken (Nat.le_of_lt hlt)
  clear c4 k4 gb4 hb5 own4 own5
  go_wp2_with fail
  go_ret
  exact ⟨A5, d5, rfl, own6, gb5⟩
end Go.Proofs.YtbaojbheopcjhaaGreatDoor

namespace Go.Proofs.YtbaojbheopcjhaaGreatDoor
open Go.RowKit

set_option maxHeartbeats 1000000 in
theorem l01Num_any (A : Option Addr) (n c q : Nat) (zs : List Int) (w : World) (h : RI w w.heap.size A n zs) (hn : n ≤ 1048576) (hq : 8 * q + 8 ≤ n) (hz : allR zs 0 1 = true) :
    Calls Tryz.prog 218 #[.slice A n c, .int .i64 (8 * q : Nat), .int .i64 8] w fun e w' => e = .returned (.int .i64 (numB ((zs.drop (8 * q)).take 8))) ∧ w = w' := by
  have L := Lib.hid h.len
  obtain ⟨at0, ha⟩ : ∃ a : Nat, 8 * q = a := ⟨_, rfl⟩
  rw [ha] at hq ⊢
  obtain ⟨b, o, rfl, hbl, hc⟩ := h.get (by omega)
  have hpl : ((zs.drop at0).take 8).length = 8 := by rw [List.length_take, List.length_drop, L.out]; omega
  have HB := Lib.hid (numB_lt (allR_part hz at0 8))
  have HPL := Lib.hid hpl
  have HZ := Lib.hid hz
  have HC := Lib.hid hc
  clear hz hpl ha hc
  go_enter Tryz.func218, Tryz.ntmps218
  go_wp2
  go_loop [7, 8] (fun v i => ∃ k : Nat, k ≤ 8 ∧ i = .int .i64 k ∧ v = .int .i64 (numB (((zs.drop at0).take 8).take k))) (fun _ i => 8 - (intOf i).toNat)
  case atStart => exact ⟨0, Nat.zero_le _, rfl, by rw [List.take_zero]; rfl⟩
  case round =>
    obtain ⟨k, hk, rfl, rfl⟩ := hrel
    by_cases hlt : k < 8
    · have hcell := HC.out (at0 + k) (by omega)
      have h1 := HB.out k (by rw [HPL.out]; omega)
      have hg : gi ((zs.drop at0).take 8) k = gi zs (at0 + k) := by rw [gi_take hlt, gi_drop]
      have h2 := allR_gi HZ.out (k := at0 + k) (by rw [L.out]; omega)
      have hs := numB_take (zs := (zs.drop at0).take 8) (k := k) (by rw [HPL.out]; exact hlt)
      rw [hg] at hs
      obtain ⟨x, hx⟩ : ∃ x, numB (((zs.drop at0).take 8).take k) = x := ⟨_, rfl⟩
      obtain ⟨y, hy⟩ : ∃ y, gi zs (at0 + k) = y := ⟨_, rfl⟩
      rw [hx] at h1 hs ⊢
      rw [hy] at h2 hs hcell
      have hp : (2 : Int) ^ k ≤ 2 ^ 8 := by
        have := Nat.pow_le_pow_right (n := 2) (by omega) (Nat.le_of_lt hlt)
        exact_mod_cast this
      have hx1 : 0 ≤ x := h1.1
      have hx2 : x ≤ 256 := by have := h1.2; omega
      have HS := Lib.hid hs
      clear h1 hg hs hx hy hp
      go_wp2
      go_round
      case rel => exact ⟨k + 1, by omega, by go_num, by rw [HS.out]⟩
      case measure => simp [intOf]; omega
    · have hkn : k = 8 := by omega
      have HK := Lib.hid hkn
      clear hkn
      go_wp2
      go_ret
      exact ⟨ret_int (by rw [HK.out, List.take_of_length_le (by rw [HPL.out]; exact Nat.le_refl _)]), rfl⟩

set_option maxHeartbeats 1000000 in
theorem l01Byt_any (A : Option Addr) (c : Nat) (zs : List Int) (w : World) (h : RI w w.heap.size A 64 zs) (hz : allR zs 0 1 = true) :
    Calls Tryz.prog 188 #[.slice A 64 c] w (RetI 2 w 8 (bytesB zs 8)) := by
  have HZ := Lib.hid hz
  clear hz
  go_enter Tryz.func188, Tryz.ntmps188
  go_wp2
  go_loopw [3, 4] (fun o i wr => ∃ (k m : Nat) (A' : Option Addr) (c' : Nat), k ≤ 8 ∧ m = k ∧ i = .int .i64 (8 * k : Nat) ∧ o = .slice A' m c' ∧ OwnI 2 wr w.heap.size A' m c' (bytesB zs k) ∧ Below w.heap.size w wr) (fun _ i _ => 64 - (intOf i).toNat)
  case atStart => exact ⟨0, 0, some ⟨w.heap.size, 0, none⟩, 0, Nat.zero_le _, rfl, rfl, rfl, OwnI.empty _ (Nat.le_refl _), (Below.refl _ _).alloc (Nat.le_refl _) _⟩
  case round =>
    obtain ⟨k, m, A', c', hk, hmk, rfl, rfl, hown, hb⟩ := hrel
    have HMK := Lib.hid hmk
    have hm9 : m ≤ 8 := by omega
    clear hmk
    obtain ⟨at0, ha⟩ : ∃ a : Nat, 8 * k = a := ⟨_, rfl⟩
    have HA := Lib.hid ha
    have ha2 : at0 ≤ 64 := by omega
    by_cases hlt : k < 8
    · have ha1 : at0 + 8 ≤ 64 := by omega
      have hcn := l01Num_any A 64 c k zs wr (h.up hb) (by omega) (by omega) HZ.out
      rw [ha] at hcn ⊢
      have HCN := Lib.hid hcn
      clear ha hcn
      go_wp2_with (first | (go_at_call 218; refine HCN.out.mono ?_; rintro e w' ⟨rfl, rfl⟩) | (at_builtin; refine wpl_appI _ _ Tryz.underlying31 infoInt rfl _ _ rfl w.heap.size _ m _ _ rfl hown (numB ((zs.drop at0).take 8)) rfl (by omega) hb.size ?_; intro A2 c2 w2 hown2 hB2 hg2))
      go_roundw
      case rel => exact ⟨k + 1, m + 1, A2, c2, by omega, by rw [HMK.out], by have := HA.out; first | rfl | (congr 1; omega), rfl, by rw [bytesB_succ, HA.out]; exact hown2, hb.trans (hB2 _ (Nat.le_refl _))⟩
      case measure => simp [intOf]; omega
    · have hkn : k = 8 := by omega
      have ha1 : 64 < at0 + 8 := by omega
      have HK := Lib.hid hkn
      rw [ha]
      clear hkn ha
      go_wp2
      go_ret
      have e1 := HMK.out
      have e2 := HK.out
      subst e2
      subst e1
      exact ⟨A', c', rfl, hown, hb⟩

/- the cyclic code -/
def crc1 (r b : Nat) : Nat := if r / 8388608 = b then r % 8388608 * 2 else (r % 8388608 * 2) ^^^ 6122955
def crcL (r : Nat) (l : List Int) : Nat := l.foldl (fun r b => crc1 r b.toNat) r
theorem crc1_lt (r b : Nat) : crc1 r b < 16777216 := by
  unfold crc1
  split
  · omega
  · exact Nat.xor_lt_two_pow (n := 24) (by omega) (by omega)
theorem crcL_take {zs : List Int} {k : Nat} (r : Nat) (h : k < zs.length) : crcL r (zs.take (k + 1)) = crc1 (crcL r (zs.take k)) (gi zs k).toNat := by
  rw [take_gi h]; unfold crcL; rw [List.foldl_append]; rfl
theorem crcL_lt {r : Nat} (hr : r < 16777216) (l : List Int) : crcL r l < 16777216 := by
  unfold crcL
  induction l generalizing r with
  | nil => exact hr
  | cons b l ih => exact ih (crc1_lt _ _)
set_option maxHeartbeats 1000000 in
theorem sCrc_any (w : World) : Calls Tryz.prog 191 #[] w (RetV w (.agg #[.int .i64 24, .int .i64 6122955])) := by
  go_enter Tryz.func191, Tryz.ntmps191
  go_wp2
  exact bodyPost_ret (v := .agg #[.int .i64 24, .int .i64 6122955]) (by simp [results, Tryz.results191, go_sem]) rfl ⟨rfl, by go_grown⟩
set_option maxHeartbeats 1000000 in
theorem iCrc_any (w : World) : Calls Tryz.prog 139 #[] w (RetV w (.agg #[.int .i64 24, .int .i64 6122955])) := by
  go_enter Tryz.func139, Tryz.ntmps139
  go_wp2
  exact bodyPost_ret (v := .agg #[.int .i64 24, .int .i64 6122955]) (by simp [results, Tryz.results139, go_sem]) rfl ⟨rfl, by go_grown⟩

theorem bit_cases {b : Int} (h : 0 ≤ b ∧ b ≤ 1) : b = 0 ∨ b = 1 := by omega

set_option maxHeartbeats 2000000 in
theorem sFeed_any (r : Nat) (A : Option Addr) (n c : Nat) (zs : List Int) (w : World) (h : RI w w.heap.size A n zs) (hn : n ≤ 8388608) (hz : allR zs 0 1 = true) (hr : r < 16777216) :
    Calls Tryz.prog 190 #[.agg #[.int .i64 24, .int .i64 6122955], .int .i64 r, .slice A n c] w (RetV w (.int .i64 (crcL r zs : Nat))) := by
  have L := Lib.hid h.len
  have HZ := Lib.hid hz
  clear hz
  obtain ⟨w0, hw0⟩ : ∃ v, v = w.alloc (.cells #[.int .i64 24, .int .i64 6122955] 141) := ⟨_, rfl⟩
  have k0 : BlkL w0 w.heap.size 141 [.int .i64 24, .int .i64 6122955] := by rw [hw0]; exact BlkL.new _ _ _ rfl
  have gb : Below w.heap.size w w0 := by rw [hw0]; go_grown
  have c0 := k0.c 0 rfl
  have c1 := k0.c 1 rfl
  have h0 := h.up gb
  go_enter Tryz.func190, Tryz.ntmps190
  go_upto_region 1 with fail
  rw [← hw0]
  clear hw0 h
  go_wp2_with fail
  clear c0 c1
  go_loopw [1, 8] (fun v i wr => ∃ k : Nat, k ≤ n ∧ i = .int .i64 k ∧ v = .int .i64 (crcL r (zs.take k) : Nat) ∧ Below w0.heap.size w0 wr) (fun _ i _ => n - (intOf i).toNat)
  case atStart => exact ⟨0, Nat.zero_le _, rfl, by rw [List.take_zero]; rfl, Below.refl _ _⟩
  case round =>
    obtain ⟨k, hk, rfl, rfl, hbw⟩ := hrel
    have c1 := (k0.next hbw).c 1 rfl
    have c0 := (k0.next hbw).c 0 rfl
    by_cases hlt : k < n
    · obtain ⟨b, o, rfl, hbl, hc⟩ := (h0.up hbw).get (by omega)
      have hcell := hc k hlt
      have hb := allR_gi HZ.out (k := k) (by rw [L.out]; exact hlt)
      have hs := crcL_take (zs := zs) (k := k) r (by rw [L.out]; exact hlt)
      have hx := crcL_lt hr (zs.take k)
      obtain ⟨x, hxe⟩ : ∃ x, crcL r (zs.take k) = x := ⟨_, rfl⟩
      rw [hxe] at hs hx ⊢
      have HS := Lib.hid hs
      clear hs hxe hc
      have hq : (((x : Int)) / 8388608 = 0 ∧ x / 8388608 = 0) ∨ (((x : Int)) / 8388608 = 1 ∧ x / 8388608 = 1) := by omega
      have e1 : bits .xor .i64 0 0 = 0 := rfl
      have e2 : bits .xor .i64 0 1 = 1 := rfl
      have e3 : bits .xor .i64 1 0 = 1 := rfl
      have e4 : bits .xor .i64 1 1 = 0 := rfl
      obtain ⟨y, hy⟩ : ∃ y, gi zs k = y := ⟨_, rfl⟩
      rw [hy] at hb hcell HS
      clear hy
      have hxm : bits .xor .i64 (((x % 8388608 * 2 : Nat)) : Int) 6122955 = (((x % 8388608 * 2) ^^^ 6122955 : Nat) : Int) := bits_xor_i64_nat _ 6122955 (by omega) (by omega)
      obtain ⟨z, hz⟩ : ∃ z : Nat, x % 8388608 * 2 = z := ⟨_, rfl⟩
      have hz2 : ((x : Int)) % 8388608 * 2 = (z : Int) := by omega
      have hz3 : ((x : Int)).tmod 8388608 = ((x % 8388608 : Nat) : Int) := by rw [Int.tmod_eq_emod_of_nonneg (by omega)]; omega
      rw [hz] at hxm
      rcases bit_cases hb with rfl | rfl <;> rcases hq with ⟨hq2, hq⟩ | ⟨hq2, hq⟩
      all_goals
        have HQ := Lib.hid hq
        have HZ3 := Lib.hid hz
        clear hq hz
        go_upto_region 5 with fail
        go_region
        all_goals
          go_wp2
          go_roundw
          case rel => exact ⟨k + 1, by omega, by go_num, by rw [HS.out]; unfold crc1; rw [HQ.out, HZ3.out]; first | rfl | (congr 1; omega), by first | exact hbw | exact hbw.drew⟩
          case measure => simp [intOf]; omega
    · have hkn : k = n := by omega
      have HK := Lib.hid hkn
      clear hkn
      go_wp2
      go_ret
      exact ⟨ret_int (by rw [HK.out, List.take_of_length_le (by rw [L.out]; exact Nat.le_refl _)]), below_next hbw gb (Nat.le_refl _)⟩
set_option maxHeartbeats 2000000 in
theorem iFeed_any (r : Nat) (A : Option Addr) (n c : Nat) (zs : List Int) (w : World) (h : RI w w.heap.size A n zs) (hn : n ≤ 8388608) (hz : allR zs 0 1 = true) (hr : r < 16777216) :
    Calls Tryz.prog 140 #[.agg #[.int .i64 24, .int .i64 6122955], .int .i64 r, .slice A n c] w (RetV w (.int .i64 (crcL r zs : Nat))) := by
  have L := Lib.hid h.len
  have HZ := Lib.hid hz
  clear hz
  obtain ⟨w0, hw0⟩ : ∃ v, v = w.alloc (.cells #[.int .i64 24, .int .i64 6122955] 141) := ⟨_, rfl⟩
  have k0 : BlkL w0 w.heap.size 141 [.int .i64 24, .int .i64 6122955] := by rw [hw0]; exact BlkL.new _ _ _ rfl
  have gb : Below w.heap.size w w0 := by rw [hw0]; go_grown
  have c0 := k0.c 0 rfl
  have c1 := k0.c 1 rfl
  have h0 := h.up gb
  go_enter Tryz.func140, Tryz.ntmps140
  go_upto_region 1 with fail
  rw [← hw0]
  clear hw0 h
  go_wp2_with fail
  clear c0 c1
  go_loopw [1, 12] (fun v i wr => ∃ k : Nat, k ≤ n ∧ i = .int .i64 k ∧ v = .int .i64 (crcL r (zs.take k) : Nat) ∧ Below w0.heap.size w0 wr) (fun _ i _ => n - (intOf i).toNat)
  case atStart => exact ⟨0, Nat.zero_le _, rfl, by rw [List.take_zero]; rfl, Below.refl _ _⟩
  case round =>
    obtain ⟨k, hk, rfl, rfl, hbw⟩ := hrel
    have c1 := (k0.next hbw).c 1 rfl
    have c0 := (k0.next hbw).c 0 rfl
    by_cases hlt : k < n
    · obtain ⟨b, o, rfl, hbl, hc⟩ := (h0.up hbw).get (by omega)
      have hcell := hc k hlt
      have hb := allR_gi HZ.out (k := k) (by rw [L.out]; exact hlt)
      have hs := crcL_take (zs := zs) (k := k) r (by rw [L.out]; exact hlt)
      have hx := crcL_lt hr (zs.take k)
      obtain ⟨x, hxe⟩ : ∃ x, crcL r (zs.take k) = x := ⟨_, rfl⟩
      rw [hxe] at hs hx ⊢
      have HS := Lib.hid hs
      clear hs hxe hc
      have hq : (((x : Int)) / 8388608 = 0 ∧ x / 8388608 = 0) ∨ (((x : Int)) / 8388608 = 1 ∧ x / 8388608 = 1) := by omega
      have e1 : bits .xor .i64 0 0 = 0 := rfl
      have e2 : bits .xor .i64 0 1 = 1 := rfl
      have e3 : bits .xor .i64 1 0 = 1 := rfl
      have e4 : bits .xor .i64 1 1 = 0 := rfl
      obtain ⟨y, hy⟩ : ∃ y, gi zs k = y := ⟨_, rfl⟩
      rw [hy] at hb hcell HS
      clear hy
      have hxm : bits .xor .i64 (((x % 8388608 * 2 : Nat)) : Int) 6122955 = (((x % 8388608 * 2) ^^^ 6122955 : Nat) : Int) := bits_xor_i64_nat _ 6122955 (by omega) (by omega)
      obtain ⟨z, hz⟩ : ∃ z : Nat, x % 8388608 * 2 = z := ⟨_, rfl⟩
      have hz2 : ((x : Int)) % 8388608 * 2 = (z : Int) := by omega
      have hla : bits .and .i64 ((x : Int) * 2) 16777215 = (z : Int) := by
        have h1 := bits_and_i64_nat (x * 2) 16777215 (by omega) (by omega)
        rw [show (16777215 : Nat) = 2 ^ 24 - 1 from rfl, Nat.and_two_pow_sub_one_eq_mod, show x * 2 % 2 ^ 24 = z from by rw [← hz]; omega] at h1
        rw [← h1]
        congr 1
      have hz3 : ((x : Int)).tmod 8388608 = ((x % 8388608 : Nat) : Int) := by rw [Int.tmod_eq_emod_of_nonneg (by omega)]; omega
      rw [hz] at hxm
      rcases bit_cases hb with rfl | rfl <;> rcases hq with ⟨hq2, hq⟩ | ⟨hq2, hq⟩
      all_goals
        have HQ := Lib.hid hq
        have HZ3 := Lib.hid hz
        clear hq hz
        have hq3 : ((x : Int)) / 2 ^ 23 = _ := hq2
        go_wp2
        · go_roundw
          case rel => exact ⟨k + 1, by omega, by go_num, by rw [HS.out]; unfold crc1; rw [HQ.out, HZ3.out]; first | rfl | (congr 1; omega), by first | exact hbw | exact hbw.drew⟩
          case measure => simp [intOf]; omega
    · have hkn : k = n := by omega
      have HK := Lib.hid hkn
      clear hkn
      go_wp2
      go_ret
      exact ⟨ret_int (by rw [HK.out, List.take_of_length_le (by rw [L.out]; exact Nat.le_refl _)]), below_next hbw gb (Nat.le_refl _)⟩
end Go.Proofs.YtbaojbheopcjhaaGreatDoor

namespace Go.Proofs.YtbaojbheopcjhaaGreatDoor
open Go.RowKit

theorem l01App_at (A : Option Addr) (n c v width N : Nat) (W : Int) (hN : n + width = N) (hW : (width : Int) = W) (zs : List Int) (w : World) (h : RI w w.heap.size A n zs) (hA : A = none → c = 0) (hm : n ≤ 1048576) (hn : width ≤ 32) (hv : v < 4611686018427387904) :
    Calls Tryz.prog 219 #[.slice A n c, .int .i64 v, .int .i64 W] w (RetI 2 w N (zs ++ bitsW v width)) := by
  subst hN; subst hW
  exact l01App_any A n c v width zs w h hA hm hn hv

set_option maxRecDepth 200000 in
set_option maxHeartbeats 8000000 in
theorem l04Bits_any (t md rn sl mb : Nat) (w : World) (h1 : t < 4611686018427387904) (h2 : md < 4611686018427387904) (h3 : rn < 4611686018427387904) (h4 : sl < 4611686018427387904) (h5 : mb < 4611686018427387904) :
    Calls Tryz.prog 189 #[.agg #[.int .i64 t, .int .i64 md, .int .i64 rn, .int .i64 sl, .int .i64 mb]] w (RetI 2 w 64 (stB t md rn sl mb)) := by
  obtain ⟨w0, hw0⟩ : ∃ v, v = w.alloc (.cells #[.int .i64 t, .int .i64 md, .int .i64 rn, .int .i64 sl, .int .i64 mb] 30) := ⟨_, rfl⟩
  have k0 : BlkL w0 w.heap.size 30 [.int .i64 t, .int .i64 md, .int .i64 rn, .int .i64 sl, .int .i64 mb] := by rw [hw0]; exact BlkL.new _ _ _ rfl
  have gb : Below w.heap.size w w0 := by rw [hw0]; go_grown
  go_enter Tryz.func189, Tryz.ntmps189
  go_upto_region 1 with fail
  rw [← hw0]
  clear hw0
  have hV : Below w0.heap.size w0 w0.drew := (Below.refl _ _).drew
  have hcells : ∀ u, Below w0.heap.size w0 u → (Below w0.heap.size w0 u ∧ u.cell? ⟨w.heap.size, 0, none⟩ = some (.int .i64 t) ∧ u.cell? ⟨w.heap.size, 1, none⟩ = some (.int .i64 md)) := fun u hu => ⟨hu, (k0.next hu).c 0 rfl, (k0.next hu).c 1 rfl⟩
  have HC := Lib.hid hcells
  have F1 := Lib.hid trivial
  clear hcells
  go_cut [3] (fun v wc => ∃ A c, v = .slice A 20 c ∧ OwnI 2 wc w0.heap.size A 20 c (bitsW t 16 ++ bitsW md 4) ∧ Below w0.heap.size w0 wc)
  case first =>
    go_region_held_law (fun u => Below w0.heap.size w0 u ∧ u.cell? ⟨w.heap.size, 0, none⟩ = some (.int .i64 t) ∧ u.cell? ⟨w.heap.size, 1, none⟩ = some (.int .i64 md)) (first | (with_reducible exact HC.out _ hV) | (with_reducible refine HC.out _ ?_; with_reducible assumption) | (with_reducible refine HC.out _ ?_; go_grown)) (first
      | (go_at_call 219; (have hgv : Below w0.heap.size w0 _ := And.left (‹Below w0.heap.size w0 _ ∧ _›)); (have hF1 := F1.out); (with_reducible refine (l01App_at none 0 0 t 16 16 16 rfl rfl [] _ (RI.nil _ _ _) (fun _ => rfl) (by omega) (by omega) h1).mono ?_); rintro e cc ⟨A1, c1, rfl, hown, hb⟩; (have hv := below_next hb hgv (Nat.le_refl _)); have HO1 := Lib.hid hown; clear hown hgv hb hF1 F1)
      | (go_at_call 219; (have hgv : Below w0.heap.size w0 _ := And.left (‹Below w0.heap.size w0 _ ∧ _›)); (with_reducible refine (l01App_at A1 16 c1 md 4 20 4 rfl rfl _ _ HO1.out.reads (ownI_zero HO1.out) (by omega) (by omega) h2).mono ?_); rintro e cc ⟨A2, c2, rfl, hown, hb⟩; (have hv := below_next hb hgv (Nat.le_refl _)); have HO2 := Lib.hid (hown.weaken hgv.size); have HV9 := Lib.hid hv; clear hown hgv hb))
    all_goals
      go_wp2_with fail
      go_meet
      exact ⟨_, _, rfl, HO2.out, HV9.out⟩
  case rest =>
    obtain ⟨A1, c1, rfl, hown, hbc⟩ := hcut
    obtain ⟨w1, hw1⟩ : ∃ v, v = wc := ⟨_, rfl⟩
    rw [← hw1] at hown hbc ⊢
    clear hw1 HC hV
    have k1 := k0.next hbc
    have gb1 := below_next hbc gb (Nat.le_refl _)
    have HO0 := Lib.hid hown
    clear hown k0 gb hbc
    go_upto_region 2 with fail
    have hV : Below w1.heap.size w1 w1.drew := (Below.refl _ _).drew
    have hcells : ∀ u, Below w1.heap.size w1 u → (Below w1.heap.size w1 u ∧ u.cell? ⟨w.heap.size, 2, none⟩ = some (.int .i64 rn) ∧ u.cell? ⟨w.heap.size, 3, none⟩ = some (.int .i64 sl) ∧ u.cell? ⟨w.heap.size, 4, none⟩ = some (.int .i64 mb)) := fun u hu => ⟨hu, (k1.next hu).c 2 rfl, (k1.next hu).c 3 rfl, (k1.next hu).c 4 rfl⟩
    have HC := Lib.hid hcells
    have F1 := Lib.hid trivial
    clear hcells
    go_cut [2] (fun v wc => ∃ A c, v = .slice A 64 c ∧ OwnI 2 wc w1.heap.size A 64 c (stB t md rn sl mb) ∧ Below w1.heap.size w1 wc)
    case first =>
      go_region_held_law (fun u => Below w1.heap.size w1 u ∧ u.cell? ⟨w.heap.size, 2, none⟩ = some (.int .i64 rn) ∧ u.cell? ⟨w.heap.size, 3, none⟩ = some (.int .i64 sl) ∧ u.cell? ⟨w.heap.size, 4, none⟩ = some (.int .i64 mb)) (first | (with_reducible exact HC.out _ hV) | (with_reducible refine HC.out _ ?_; with_reducible assumption) | (with_reducible refine HC.out _ ?_; go_grown)) (first
        | (go_at_call 219; (have hgv : Below w1.heap.size w1 _ := And.left (‹Below w1.heap.size w1 _ ∧ _›)); (have hF1 := F1.out); (with_reducible refine (l01App_at A1 20 c1 rn 4 24 4 rfl rfl _ _ (HO0.out.reads.up hgv) (ownI_zero HO0.out) (by omega) (by omega) h3).mono ?_); rintro e cc ⟨A2, c2, rfl, hown, hb⟩; (have hv := below_next hb hgv (Nat.le_refl _)); have HO1 := Lib.hid hown; clear hown hgv hb hF1 F1)
        | (go_at_call 219; (have hgv : Below w1.heap.size w1 _ := And.left (‹Below w1.heap.size w1 _ ∧ _›)); (with_reducible refine (l01App_at A2 24 c2 sl 8 32 8 rfl rfl _ _ HO1.out.reads (ownI_zero HO1.out) (by omega) (by omega) h4).mono ?_); rintro e cc ⟨A3, c3, rfl, hown, hb⟩; (have hv := below_next hb hgv (Nat.le_refl _)); have HO2 := Lib.hid hown; clear hown hgv hb HO1)
        | (go_at_call 219; (have hgv : Below w1.heap.size w1 _ := And.left (‹Below w1.heap.size w1 _ ∧ _›)); (with_reducible refine (l01App_at A3 32 c3 mb 32 64 32 rfl rfl _ _ HO2.out.reads (ownI_zero HO2.out) (by omega) (by omega) h5).mono ?_); rintro e cc ⟨A4, c4, rfl, hown, hb⟩; (have hv := below_next hb hgv (Nat.le_refl _)); have HO3 := Lib.hid (hown.weaken hgv.size); have HV9 := Lib.hid hv; clear hown hgv hb))
      all_goals
        go_wp2_with fail
        go_meet
        exact ⟨_, _, rfl, HO3.out, HV9.out⟩
    case rest =>
      obtain ⟨A2, c2, rfl, hown, hbc⟩ := hcut
      have own2 := hown.weaken gb1.size
      have gb2 := below_next hbc gb1 (Nat.le_refl _)
      go_wp2
      go_ret
      exact ⟨A2, c2, rfl, own2, gb2⟩

/-- the check number of a body -/
def chkN (k : Nat) (body : List Int) (r t md rn sl mb : Nat) : Nat := if k = 0 then crcL (crcL r (stB t md rn sl mb)) (body.flatMap bits8) else crcL r (body.flatMap bits8)
theorem chkN_lt {k : Nat} {body : List Int} {r t md rn sl mb : Nat} (hr : r < 16777216) : chkN k body r t md rn sl mb < 16777216 := by
  unfold chkN
  split
  · exact crcL_lt (crcL_lt hr _) _
  · exact crcL_lt hr _
theorem flat8_01 {zs : List Int} (h : allR zs 0 255 = true) : allR (zs.flatMap bits8) 0 1 = true := by
  refine List.all_eq_true.2 fun z hz => ?_
  obtain ⟨b, hb, hz⟩ := List.mem_flatMap.1 hz
  have h1 := inR_iff.1 (List.all_eq_true.1 h b hb)
  obtain ⟨B, rfl⟩ : ∃ B : Nat, b = (B : Int) := ⟨b.toNat, by omega⟩
  rw [bits8_W] at hz
  exact List.all_eq_true.1 (bitsW_01 B 8) z hz

set_option maxRecDepth 200000 in
set_option maxHeartbeats 8000000 in
theorem sCheck_any (k r t md rn sl mb : Nat) (A : Option Addr) (n c : Nat) (zs : List Int) (w : World) (h : RI w w.heap.size A n zs) (hn : n ≤ 1048576) (hz : allR zs 0 255 = true) (hr : r < 16777216) (h1 : t < 4611686018427387904) (h2 : md < 4611686018427387904) (h3 : rn < 4611686018427387904) (h4 : sl < 4611686018427387904) (h5 : mb < 4611686018427387904) :
    Calls Tryz.prog 135 #[.int .i64 k, .slice A n c, .int .i64 r, .agg #[.int .i64 t, .int .i64 md, .int .i64 rn, .int .i64 sl, .int .i64 mb]] w (RetV w (.int .i64 (chkN k zs r t md rn sl mb : Nat))) := by
  obtain ⟨w0, hw0⟩ : ∃ v, v = w.alloc (.cells #[.int .i64 t, .int .i64 md, .int .i64 rn, .int .i64 sl, .int .i64 mb] 30) := ⟨_, rfl⟩
  have k0 : BlkL w0 w.heap.size 30 [.int .i64 t, .int .i64 md, .int .i64 rn, .int .i64 sl, .int .i64 mb] := by rw [hw0]; exact BlkL.new _ _ _ rfl
  have gb : Below w.heap.size w w0 := by rw [hw0]; go_grown
  have h0 := h.up gb
  have hfb : allR (zs.flatMap bits8) 0 1 = true := flat8_01 hz
  by_cases hk : k = 0
  case pos =>
    have E := Lib.hid (show chkN k zs r t md rn sl mb = crcL (crcL r (stB t md rn sl mb)) (zs.flatMap bits8) by unfold chkN; rw [if_pos hk])
    subst hk
    go_enter Tryz.func135, Tryz.ntmps135
    go_upto_region 3 with fail
    rw [← hw0]
    clear hw0
    have hV : Below w0.heap.size w0 w0.drew := (Below.refl _ _).drew
    have hcells : ∀ u, Below w0.heap.size w0 u → (Below w0.heap.size w0 u ∧ u.cell? ⟨w.heap.size, 0, none⟩ = some (.int .i64 t) ∧ u.cell? ⟨w.heap.size, 1, none⟩ = some (.int .i64 md) ∧ u.cell? ⟨w.heap.size, 2, none⟩ = some (.int .i64 rn) ∧ u.cell? ⟨w.heap.size, 3, none⟩ = some (.int .i64 sl) ∧ u.cell? ⟨w.heap.size, 4, none⟩ = some (.int .i64 mb)) := fun u hu => ⟨hu, (k0.next hu).c 0 rfl, (k0.next hu).c 1 rfl, (k0.next hu).c 2 rfl, (k0.next hu).c 3 rfl, (k0.next hu).c 4 rfl⟩
    have HC := Lib.hid hcells
    clear hcells
    go_cut [9] (fun v wc => v = .int .i64 (crcL r (stB t md rn sl mb) : Nat) ∧ Below w0.heap.size w0 wc)
    case first =>
      go_region_held_law (fun u => Below w0.heap.size w0 u ∧ u.cell? ⟨w.heap.size, 0, none⟩ = some (.int .i64 t) ∧ u.cell? ⟨w.heap.size, 1, none⟩ = some (.int .i64 md) ∧ u.cell? ⟨w.heap.size, 2, none⟩ = some (.int .i64 rn) ∧ u.cell? ⟨w.heap.size, 3, none⟩ = some (.int .i64 sl) ∧ u.cell? ⟨w.heap.size, 4, none⟩ = some (.int .i64 mb)) (first | (with_reducible exact HC.out _ hV) | (with_reducible refine HC.out _ ?_; with_reducible assumption) | (with_reducible refine HC.out _ ?_; go_grown)) (first
        | (go_at_call 191; (have hgv : Below w0.heap.size w0 _ := And.left (‹Below w0.heap.size w0 _ ∧ _›)); (refine (sCrc_any _).mono ?_); rintro e cc ⟨rfl, hb⟩; (have hv := below_next hb hgv (Nat.le_refl _)); (try (replace HRI := Lib.hid (HRI.out.up hb))); clear hgv hb)
        | (go_at_call 189; (have hgv : Below w0.heap.size w0 _ := And.left (‹Below w0.heap.size w0 _ ∧ _›)); (refine (l04Bits_any t md rn sl mb _ h1 h2 h3 h4 h5).mono ?_); rintro e cc ⟨As, cs, rfl, hown, hb⟩; (have hv := below_next hb hgv (Nat.le_refl _)); have HRI := Lib.hid hown.reads; clear hown hgv hb)
        | (go_at_call 190; (have hgv : Below w0.heap.size w0 _ := And.left (‹Below w0.heap.size w0 _ ∧ _›)); (refine (sFeed_any r As 64 cs _ _ HRI.out (by omega) (stB_01 t md rn sl mb) hr).mono ?_); rintro e cc ⟨rfl, hb⟩; (have hv := below_next hb hgv (Nat.le_refl _)); have HV9 := Lib.hid hv; clear hgv hb))
      all_goals
        go_wp2_with fail
        go_meet
        exact ⟨rfl, HV9.out⟩
    case rest =>
      obtain ⟨rfl, hbc⟩ := hcut
      have gb2 := below_next hbc gb (Nat.le_refl _)
      have h9 := h0.up hbc
      have hq := crcL_lt hr (stB t md rn sl mb)
      obtain ⟨q, hqe⟩ : ∃ q, crcL r (stB t md rn sl mb) = q := ⟨_, rfl⟩
      have E2 := E.out
      rw [hqe] at hq E2 ⊢
      clear hqe HC hV hbc E
      have E := Lib.hid E2
      clear E2
      go_wp2_with fail
      refine (sCrc_any _).mono ?_
      rintro e w3 ⟨rfl, hb3⟩
      have gb3 := below_next hb3 gb2 (Nat.le_refl _)
      have h10 := h9.up hb3
      clear hb3 gb2 h9
      go_wp2_with fail
      refine (l01Bits_any A n c zs _ h10 hn hz).mono ?_
      rintro e w4 ⟨Ab, cb, rfl, hown, hb4⟩
      have gb4 := below_next hb4 gb3 (Nat.le_refl _)
      have hob := Lib.hid hown.reads
      clear hb4 gb3 h10 hown
      go_wp2_with fail
      refine (sFeed_any q Ab (8 * n) cb _ _ hob.out (by omega) hfb hq).mono ?_
      rintro e w5 ⟨rfl, hb5⟩
      have gb5 := below_next hb5 gb4 (Nat.le_refl _)
      go_wp2
      go_ret
      exact ⟨ret_int (by rw [E.out]), gb5⟩
  case neg =>
    have E := Lib.hid (show chkN k zs r t md rn sl mb = crcL r (zs.flatMap bits8) by unfold chkN; rw [if_neg hk])
    have hk2 : ¬ (k : Int) = 0 := by omega
    have hk3 : ((k : Int) == 0) = false := by simpa using hk2
    go_enter Tryz.func135, Tryz.ntmps135
    go_wp2_with fail
    rw [← hw0]
    clear hw0
    refine (sCrc_any _).mono ?_
    rintro e w3 ⟨rfl, hb3⟩
    have gb3 := below_next hb3 gb (Nat.le_refl _)
    have h10 := h0.up hb3
    clear hb3 gb h0 k0
    go_wp2_with fail
    refine (l01Bits_any A n c zs _ h10 hn hz).mono ?_
    rintro e w4 ⟨Ab, cb, rfl, hown, hb4⟩
    have gb4 := below_next hb4 gb3 (Nat.le_refl _)
    have hob := Lib.hid hown.reads
    clear hb4 gb3 h10 hown
    go_wp2_with fail
    refine (sFeed_any r Ab (8 * n) cb _ _ hob.out (by omega) hfb hr).mono ?_
    rintro e w5 ⟨rfl, hb5⟩
    have gb5 := below_next hb5 gb4 (Nat.le_refl _)
    go_wp2
    go_ret
    exact ⟨ret_int (by rw [E.out]), gb5⟩

set_option maxRecDepth 200000 in
set_option maxHeartbeats 8000000 in
theorem iCheck_any (k r t md rn sl mb : Nat) (A : Option Addr) (n c : Nat) (zs : List Int) (w : World) (h : RI w w.heap.size A n zs) (hn : n ≤ 1048576) (hz : allR zs 0 255 = true) (hr : r < 16777216) (h1 : t < 4611686018427387904) (h2 : md < 4611686018427387904) (h3 : rn < 4611686018427387904) (h4 : sl < 4611686018427387904) (h5 : mb < 4611686018427387904) :
    Calls Tryz.prog 107 #[.int .i64 k, .slice A n c, .int .i64 r, .agg #[.int .i64 t, .int .i64 md, .int .i64 rn, .int .i64 sl, .int .i64 mb]] w (RetV w (.int .i64 (chkN k zs r t md rn sl mb : Nat))) := by
  obtain ⟨w0, hw0⟩ : ∃ v, v = w.alloc (.cells #[.int .i64 t, .int .i64 md, .int .i64 rn, .int .i64 sl, .int .i64 mb] 30) := ⟨_, rfl⟩
  have k0 : BlkL w0 w.heap.size 30 [.int .i64 t, .int .i64 md, .int .i64 rn, .int .i64 sl, .int .i64 mb] := by rw [hw0]; exact BlkL.new _ _ _ rfl
  have gb : Below w.heap.size w w0 := by rw [hw0]; go_grown
  have h0 := h.up gb
  have hfb : allR (zs.flatMap bits8) 0 1 = true := flat8_01 hz
  by_cases hk : k = 0
  case pos =>
    have E := Lib.hid (show chkN k zs r t md rn sl mb = crcL (crcL r (stB t md rn sl mb)) (zs.flatMap bits8) by unfold chkN; rw [if_pos hk])
    subst hk
    go_enter Tryz.func107, Tryz.ntmps107
    go_upto_region 3 with fail
    rw [← hw0]
    clear hw0
    have hV : Below w0.heap.size w0 w0.drew := (Below.refl _ _).drew
    have hcells : ∀ u, Below w0.heap.size w0 u → (Below w0.heap.size w0 u ∧ u.cell? ⟨w.heap.size, 0, none⟩ = some (.int .i64 t) ∧ u.cell? ⟨w.heap.size, 1, none⟩ = some (.int .i64 md) ∧ u.cell? ⟨w.heap.size, 2, none⟩ = some (.int .i64 rn) ∧ u.cell? ⟨w.heap.size, 3, none⟩ = some (.int .i64 sl) ∧ u.cell? ⟨w.heap.size, 4, none⟩ = some (.int .i64 mb)) := fun u hu => ⟨hu, (k0.next hu).c 0 rfl, (k0.next hu).c 1 rfl, (k0.next hu).c 2 rfl, (k0.next hu).c 3 rfl, (k0.next hu).c 4 rfl⟩
    have HC := Lib.hid hcells
    clear hcells
    go_cut [9] (fun v wc => v = .int .i64 (crcL r (stB t md rn sl mb) : Nat) ∧ Below w0.heap.size w0 wc)
    case first =>
      go_region_held_law (fun u => Below w0.heap.size w0 u ∧ u.cell? ⟨w.heap.size, 0, none⟩ = some (.int .i64 t) ∧ u.cell? ⟨w.heap.size, 1, none⟩ = some (.int .i64 md) ∧ u.cell? ⟨w.heap.size, 2, none⟩ = some (.int .i64 rn) ∧ u.cell? ⟨w.heap.size, 3, none⟩ = some (.int .i64 sl) ∧ u.cell? ⟨w.heap.size, 4, none⟩ = some (.int .i64 mb)) (first | (with_reducible exact HC.out _ hV) | (with_reducible refine HC.out _ ?_; with_reducible assumption) | (with_reducible refine HC.out _ ?_; go_grown)) (first
        | (go_at_call 139; (have hgv : Below w0.heap.size w0 _ := And.left (‹Below w0.heap.size w0 _ ∧ _›)); (refine (iCrc_any _).mono ?_); rintro e cc ⟨rfl, hb⟩; (have hv := below_next hb hgv (Nat.le_refl _)); (try (replace HRI := Lib.hid (HRI.out.up hb))); clear hgv hb)
        | (go_at_call 137; (have hgv : Below w0.heap.size w0 _ := And.left (‹Below w0.heap.size w0 _ ∧ _›)); (refine (stBits_any t md rn sl mb _ h1 h2 h3 h4 h5).mono ?_); rintro e cc ⟨As, cs, rfl, hown, hb⟩; (have hv := below_next hb hgv (Nat.le_refl _)); have HRI := Lib.hid hown.reads; clear hown hgv hb)
        | (go_at_call 140; (have hgv : Below w0.heap.size w0 _ := And.left (‹Below w0.heap.size w0 _ ∧ _›)); (refine (iFeed_any r As 64 cs _ _ HRI.out (by omega) (stB_01 t md rn sl mb) hr).mono ?_); rintro e cc ⟨rfl, hb⟩; (have hv := below_next hb hgv (Nat.le_refl _)); have HV9 := Lib.hid hv; clear hgv hb))
      all_goals
        go_wp2_with fail
        go_meet
        exact ⟨rfl, HV9.out⟩
    case rest =>
      obtain ⟨rfl, hbc⟩ := hcut
      have gb2 := below_next hbc gb (Nat.le_refl _)
      have h9 := h0.up hbc
      have hq := crcL_lt hr (stB t md rn sl mb)
      obtain ⟨q, hqe⟩ : ∃ q, crcL r (stB t md rn sl mb) = q := ⟨_, rfl⟩
      have E2 := E.out
      rw [hqe] at hq E2 ⊢
      clear hqe HC hV hbc E
      have E := Lib.hid E2
      clear E2
      go_wp2_with fail
      refine (iCrc_any _).mono ?_
      rintro e w3 ⟨rfl, hb3⟩
      have gb3 := below_next hb3 gb2 (Nat.le_refl _)
      have h10 := h9.up hb3
      clear hb3 gb2 h9
      go_wp2_with fail
      refine (toBits_any A n c zs _ h10 hn hz).mono ?_
      rintro e w4 ⟨Ab, cb, rfl, hown, hb4⟩
      have gb4 := below_next hb4 gb3 (Nat.le_refl _)
      have hob := Lib.hid hown.reads
      clear hb4 gb3 h10 hown
      go_wp2_with fail
      refine (iFeed_any q Ab (8 * n) cb _ _ hob.out (by omega) hfb hq).mono ?_
      rintro e w5 ⟨rfl, hb5⟩
      have gb5 := below_next hb5 gb4 (Nat.le_refl _)
      go_wp2
      go_ret
      exact ⟨ret_int (by rw [E.out]), gb5⟩
  case neg =>
    have E := Lib.hid (show chkN k zs r t md rn sl mb = crcL r (zs.flatMap bits8) by unfold chkN; rw [if_neg hk])
    have hk2 : ¬ (k : Int) = 0 := by omega
    have hk3 : ((k : Int) == 0) = false := by simpa using hk2
    go_enter Tryz.func107, Tryz.ntmps107
    go_wp2_with fail
    rw [← hw0]
    clear hw0
    refine (iCrc_any _).mono ?_
    rintro e w3 ⟨rfl, hb3⟩
    have gb3 := below_next hb3 gb (Nat.le_refl _)
    have h10 := h0.up hb3
    clear hb3 gb h0 k0
    go_wp2_with fail
    refine (toBits_any A n c zs _ h10 hn hz).mono ?_
    rintro e w4 ⟨Ab, cb, rfl, hown, hb4⟩
    have gb4 := below_next hb4 gb3 (Nat.le_refl _)
    have hob := Lib.hid hown.reads
    clear hb4 gb3 h10 hown
    go_wp2_with fail
    refine (iFeed_any r Ab (8 * n) cb _ _ hob.out (by omega) hfb hr).mono ?_
    rintro e w5 ⟨rfl, hb5⟩
    have gb5 := below_next hb5 gb4 (Nat.le_refl _)
    go_wp2
    go_ret
    exact ⟨ret_int (by rw [E.out]), gb5⟩
end Go.Proofs.YtbaojbheopcjhaaGreatDoor
