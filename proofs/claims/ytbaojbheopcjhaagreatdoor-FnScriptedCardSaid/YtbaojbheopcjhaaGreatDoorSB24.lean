/- Walks, laws and small notions for the claims of this seat, several texts as one (Sil, Chg, FaultS, Script, ApF). Conditions: as each theorem states them. -/
import Derived.Test.YtbaojbheopcjhaaGreatDoorSB23
import Derived.Test.YtbaojbheopcjhaaGreatDoorB1
import Derived.Test.YtbaojbheopcjhaaGreatDoorB2
import Derived.Deep.RegionHeld3
import Derived.Lib.SliceRun
namespace Go.Proofs.YtbaojbheopcjhaaGreatDoor
open Go.RowKit

/-- a list whose numbers from p on, below k, are 1 -/
def silF (zs : List Int) (p k : Nat) : List Int := (List.range zs.length).map fun i => if p ≤ i ∧ i < k then 1 else gi zs i
theorem silF_len (zs : List Int) (p k : Nat) : (silF zs p k).length = zs.length := by simp [silF]
theorem silF_gi {zs : List Int} {p k i : Nat} (h : i < zs.length) : gi (silF zs p k) i = if p ≤ i ∧ i < k then 1 else gi zs i := by simp [gi, silF, h]
theorem silF_none {zs : List Int} {p k : Nat} (h : k ≤ p) : silF zs p k = zs := by
  refine ext_gi (silF_len _ _ _) fun i hi => ?_
  rw [silF_len] at hi
  rw [silF_gi hi, if_neg (by omega)]
theorem silF_set {zs : List Int} {p k : Nat} (hk : p ≤ k) (hn : k < zs.length) : (silF zs p k).set k 1 = silF zs p (k + 1) := by
  refine ext_gi (by rw [List.length_set, silF_len, silF_len]) fun i hi => ?_
  rw [List.length_set, silF_len] at hi
  rw [silF_gi hi]
  have : gi ((silF zs p k).set k 1) i = if k = i then 1 else gi (silF zs p k) i := by
    unfold gi
    rw [List.getD_eq_getElem?_getD, List.getElem?_set, List.getD_eq_getElem?_getD]
    by_cases hik : k = i
    · rw [if_pos hik, if_pos hik, if_pos (by rw [silF_len]; omega)]; rfl
    · rw [if_neg hik, if_neg hik]
  rw [this, silF_gi hi]
  by_cases hik : k = i
  · rw [if_pos hik, if_pos (by omega)]
  · rw [if_neg hik]
    by_cases h2 : p ≤ i ∧ i < k
    · rw [if_pos h2, if_pos (by omega)]
    · rw [if_neg h2, if_neg (by omega)]
theorem silF_more {zs : List Int} {p k : Nat} (h : zs.length ≤ k) : silF zs p k = silF zs p zs.length := by
  refine ext_gi (by rw [silF_len, silF_len]) fun i hi => ?_
  rw [silF_len] at hi
  rw [silF_gi hi, silF_gi hi]
  by_cases h2 : p ≤ i
  · rw [if_pos (by omega), if_pos (by omega)]
  · rw [if_neg (by omega), if_neg (by omega)]

namespace SilenceFrom
set_option maxRecDepth 20000 in
set_option maxHeartbeats 8000000 in
theorem l24Apply_sil (A : Option Addr) (n c : Nat) (zs : List Int) (q : Nat) (w : World) (hri : RI w w.heap.size A n zs) (hn : n ≤ 8192) (hq : q ≤ 8192) (hA : A = none → c = 0) :
    Calls Tryz.prog 64 #[.slice A n c, .agg #[.int .i64 5, .int .i64 q, .int .i64 0, .int .i64 0]] w (RetI 2 w n (silF zs q n)) := by
  have L := Lib.hid hri.len
  have hb0 : Below w.heap.size w (w.alloc (.cells #[.int .i64 5, .int .i64 q, .int .i64 0, .int .i64 0] 87)) := (Below.refl _ _).alloc (Nat.le_refl _) _
  have hr0 := hri.up hb0
  have hbx := Blk4.new w 87 (.int .i64 5) (.int .i64 q) (.int .i64 0) (.int .i64 0)
  obtain ⟨w0, hw0⟩ : ∃ x, w.alloc (.cells #[.int .i64 5, .int .i64 q, .int .i64 0, .int .i64 0] 87) = x := ⟨_, rfl⟩
  rw [hw0] at hb0 hr0 hbx
  have hk0 := hbx.c0
  have hk1 := hbx.c1
  have hk2 := hbx.c2
  have hgl := hbx.lt
  have HB := Lib.hid hb0
  clear hb0
  by_cases hlt : q < n
  case pos =>
    go_enter Tryz.func64, Tryz.ntmps64
    go_wp2_with fail
    go_region
    all_goals
      go_wp2_with fail
      refine (l01Own_any A n c zs w0.drew hr0 (by omega) hA).mono ?_
      rintro e w1 ⟨A1, c1, rfl, hown1, hb1⟩
      have hown1' : OwnI 2 w1 w0.heap.size A1 n c1 zs := hown1
      have hb1' : Below w0.heap.size w0 w1 := below_next_drew hb1 (Below.refl _ _) (Nat.le_refl _)
      clear hown1 hb1
      have hb1k := hbx.next hb1'
      have hl0 := hb1k.c0
      go_wp2_with fail
      clear hl0
      go_loopw [10] (fun i wr => ∃ k : Nat, q ≤ k ∧ k ≤ n ∧ i = .int .i64 k ∧ OwnI 2 wr w0.heap.size A1 n c1 (silF zs q k) ∧ Below w0.heap.size w0 wr) (fun i _ => n - (intOf i).toNat)
      case atStart => exact ⟨q, Nat.le_refl _, by omega, rfl, by rw [silF_none (by omega)]; exact hown1', hb1'⟩
      case round =>
        obtain ⟨k, hk0', hk, rfl, hown, hb⟩ := hrel
        have hbk := hbx.next hb
        have hl0 := hbk.c0
        by_cases hlt2 : k < n
        · obtain ⟨g, rfl, hg1, hg2⟩ := hown.form (by omega)
          have hold := hown.cell hlt2
          have hfr := hown.frozen k
          go_wp2
          go_roundw
          case rel =>
            have := hown.stored k 1
            rw [silF_set (by omega) (by rw [L.out]; exact hlt2)] at this
            exact ⟨k + 1, by omega, by omega, by go_num, this.1, hb.setCell (by simpa using hg1) _⟩
          case measure => simp [intOf]; omega
        · have hkn : k = n := by omega
          have HK := Lib.hid hkn
          clear hkn
          go_wp2
          go_ret
          rw [HK.out] at hown
          exact ⟨A1, c1, rfl, hown.weaken HB.out.size, below_next hb HB.out (Nat.le_refl _)⟩
  case neg =>
    go_enter Tryz.func64, Tryz.ntmps64
    go_wp2_with fail
    go_region
    all_goals
      go_wp2_with fail
      refine (l01Own_any A n c zs w0.drew hr0 (by omega) hA).mono ?_
      rintro e w1 ⟨A1, c1, rfl, hown1, hb1⟩
      have hown1' : OwnI 2 w1 w0.heap.size A1 n c1 zs := hown1
      have hb1' : Below w0.heap.size w0 w1 := below_next_drew hb1 (Below.refl _ _) (Nat.le_refl _)
      clear hown1 hb1
      have hb1k := hbx.next hb1'
      have hl0 := hb1k.c0
      go_wp2_with fail
      clear hl0
      go_loopw [10] (fun i wr => ∃ k : Nat, n ≤ k ∧ k ≤ n ∧ i = .int .i64 k ∧ OwnI 2 wr w0.heap.size A1 n c1 (silF zs q k) ∧ Below w0.heap.size w0 wr) (fun i _ => n - (intOf i).toNat)
      case atStart => exact ⟨n, Nat.le_refl _, by omega, rfl, by rw [silF_none (by omega)]; exact hown1', hb1'⟩
      case round =>
        obtain ⟨k, hk0', hk, rfl, hown, hb⟩ := hrel
        have hbk := hbx.next hb
        have hl0 := hbk.c0
        by_cases hlt2 : k < n
        · exfalso; omega
        · have hkn : k = n := by omega
          have HK := Lib.hid hkn
          clear hkn
          go_wp2
          go_ret
          rw [HK.out] at hown
          exact ⟨A1, c1, rfl, hown.weaken HB.out.size, below_next hb HB.out (Nat.le_refl _)⟩

set_option maxRecDepth 20000 in
set_option maxHeartbeats 2000000 in
theorem clone_any (A : Option Addr) (n c : Nat) (zs : List Int) (w : World) (h : RI w w.heap.size A n zs) (hn : n ≤ 1099511627776) (hA : A = none → c = 0) :
    Calls Tryz.prog 58 #[.slice A n c] w (RetI 2 w n zs) := by
  have hb0 : Below w.heap.size w (w.alloc (.cells #[] 2)) := (Below.refl _ _).alloc (Nat.le_refl _) _
  have hown0 : OwnI 2 (w.alloc (.cells #[] 2)) w.heap.size (some ⟨w.heap.size, 0, none⟩) 0 0 [] := OwnI.empty w (Nat.le_refl _)
  have hr0 := h.up hb0
  have q22 : ∀ (w : World) (a : Option Addr) (n c n' c' : Nat), (binOp .eql 31 (.slice a n c) (.slice none n' c')).run Tryz.prog w = .ok (.bool a.isNone) w := fun w a n c n' c' => Lib.run_eql_slice_nil w _ _ a n c n' c' Tryz.underlying31
  rcases A with _ | ad
  · obtain rfl := hA rfl
    have h0 : n = 0 := by
      rcases Nat.eq_zero_or_pos n with hh | hh
      · exact hh
      · obtain ⟨b, o', e, _⟩ := h.get hh; cases e
    subst h0
    obtain rfl : zs = [] := List.length_eq_zero_iff.1 h.len
    go_enter Tryz.func58, Tryz.ntmps58
    go_wp2
    go_ret
    exact ⟨none, 0, rfl, OwnI.nil _ _ _, Below.refl _ _⟩
  · go_enter Tryz.func58, Tryz.ntmps58
    go_wp2_with (at_builtin; refine wpl_appR _ Tryz.underlying31 infoInt rfl _ _ rfl w.heap.size _ 0 _ _ rfl hown0 (some ad) n c _ zs rfl hr0 (fun e => by cases e) (by omega) hb0.size ?_; intro A2 c2 w2 hown2 hB2 hg2)
    rw [Nat.zero_add] at hown2
    go_wp2
    go_ret
    exact ⟨A2, c2, by simp, hown2, hb0.trans (hB2 _ (Nat.le_refl _))⟩

theorem one_any (z : Int) (w : World) :
    Calls Tryz.prog 98 #[.int .i64 z] w fun e w' => e = .returned (.int .i64 1) ∧ w = w' := by
  go_enter Tryz.func98, Tryz.ntmps98
  go_wp2
  go_ret
  exact ⟨rfl, rfl⟩

set_option maxHeartbeats 4000000 in
theorem change_any (A1 : Option Addr) (n c1 base q : Nat) (zs : List Int) (w : World) (hown : OwnI 2 w base A1 n c1 zs) (hn : n ≤ 8192) (_ : q ≤ 8192) :
    Calls Tryz.prog 95 #[.slice A1 n c1, .int .i64 q, .int .i64 n, .func (.func 98) #[] #[]] w fun e w' => e = .returned (.tuple #[]) ∧ OwnI 2 w' base A1 n c1 (silF zs q n) ∧ w.grownBy w' (Value.slice A1 n c1).ownBlock := by
  have L := Lib.hid hown.len
  go_enter Tryz.func95, Tryz.ntmps95
  go_wp2
  go_loopw [8] (fun i wr => ∃ k : Nat, q ≤ k ∧ k ≤ max q n ∧ i = .int .i64 k ∧ OwnI 2 wr base A1 n c1 (silF zs q k) ∧ w.grownBy wr (Value.slice A1 n c1).ownBlock) (fun i _ => n - (intOf i).toNat)
  case atStart => exact ⟨q, Nat.le_refl _, by omega, rfl, by rw [silF_none (by omega)]; exact hown, World.grownBy.refl _ _⟩
  case round =>
    obtain ⟨k, hk0', hk, rfl, hown', hg⟩ := hrel
    have HK' := Lib.hid hk
    clear hk
    by_cases hlt2 : k < n
    · obtain ⟨g, rfl, hg1, hg2⟩ := hown'.form (by omega)
      have hold := hown'.cell hlt2
      have hfr := hown'.frozen k
      go_wp2_with fail
      refine (one_any _ _).mono ?_
      rintro e w' ⟨rfl, rfl⟩
      go_wp2
      go_roundw
      case rel =>
        have := hown'.stored k 1
        rw [silF_set (by omega) (by rw [L.out]; exact hlt2)] at this
        exact ⟨k + 1, by omega, by omega, by go_num, this.1, grown_tr hg this.2⟩
      case measure => simp [intOf]; omega
    · have HK := Lib.hid (show k = max q n from by have := HK'.out; omega)
      go_wp2
      go_end0
      refine ⟨rfl, ?_, hg⟩
      rw [HK.out] at hown'
      by_cases hqn : q ≤ n
      · rwa [Nat.max_eq_right hqn] at hown'
      · rw [Nat.max_eq_left (by omega), silF_more (by rw [L.out]; omega), L.out] at hown'
        exact hown'

set_option maxRecDepth 20000 in
set_option maxHeartbeats 4000000 in
theorem applyFault_sil (A : Option Addr) (n c : Nat) (zs : List Int) (q : Nat) (w : World) (hri : RI w w.heap.size A n zs) (hn : n ≤ 8192) (hq : q ≤ 8192) (hA : A = none → c = 0) :
    Calls Tryz.prog 59 #[.slice A n c, .agg #[.int .i64 5, .int .i64 q, .int .i64 0, .int .i64 0]] w (RetI 2 w n (silF zs q n)) := by
  have hb0 : Below w.heap.size w (w.alloc (.cells #[.int .i64 5, .int .i64 q, .int .i64 0, .int .i64 0] 87)) := (Below.refl _ _).alloc (Nat.le_refl _) _
  have hr0 := hri.up hb0
  have hbx := Blk4.new w 87 (.int .i64 5) (.int .i64 q) (.int .i64 0) (.int .i64 0)
  obtain ⟨w0, hw0⟩ : ∃ x, w.alloc (.cells #[.int .i64 5, .int .i64 q, .int .i64 0, .int .i64 0] 87) = x := ⟨_, rfl⟩
  rw [hw0] at hb0 hr0 hbx
  have HB := Lib.hid hb0
  clear hb0
  go_enter Tryz.func59, Tryz.ntmps59
  go_wp2_with fail
  refine (clone_any A n c zs w0 hr0 (by omega) hA).mono ?_
  rintro e w1 ⟨A1, c1, rfl, hown1, hb1⟩
  have hbk := hbx.next hb1
  have e0 := hbk.c0
  have e1 := hbk.c1
  go_wp2_with fail
  refine (change_any A1 n c1 w0.heap.size q zs w1 hown1 hn hq).mono ?_
  rintro e w2 ⟨rfl, hown2, hg2⟩
  go_wp2
  go_ret
  exact ⟨A1, c1, rfl, hown2.weaken HB.out.size, (below_next hb1 HB.out (Nat.le_refl _)).grown hg2 (Nat.le_trans HB.out.size hb1.size) (fun g e => Nat.le_trans HB.out.size (own_row hown1 g e).1)⟩

end SilenceFrom
end Go.Proofs.YtbaojbheopcjhaaGreatDoor

namespace Go.Proofs.YtbaojbheopcjhaaGreatDoor
open Go.RowKit

/-- a list whose numbers from p on, below k, are changed -/
def chg (φ : Int → Int) (zs : List Int) (p k : Nat) : List Int := (List.range zs.length).map fun i => if p ≤ i ∧ i < k then φ (gi zs i) else gi zs i
section
variable {φ : Int → Int}
theorem chg_len (zs : List Int) (p k : Nat) : (chg φ zs p k).length = zs.length := by simp [chg]
theorem chg_gi {zs : List Int} {p k i : Nat} (h : i < zs.length) : gi (chg φ zs p k) i = if p ≤ i ∧ i < k then φ (gi zs i) else gi zs i := by simp [gi, chg, h]
theorem chg_none {zs : List Int} {p k : Nat} (h : k ≤ p) : chg φ zs p k = zs := by
  refine ext_gi (chg_len _ _ _) fun i hi => ?_
  rw [chg_len] at hi
  rw [chg_gi hi, if_neg (by omega)]
theorem chg_set {zs : List Int} {p k : Nat} (hk : p ≤ k) (hn : k < zs.length) : (chg φ zs p k).set k (φ (gi zs k)) = chg φ zs p (k + 1) := by
  refine ext_gi (by rw [List.length_set, chg_len, chg_len]) fun i hi => ?_
  rw [List.length_set, chg_len] at hi
  rw [chg_gi hi]
  have : gi ((chg φ zs p k).set k (φ (gi zs k))) i = if k = i then φ (gi zs k) else gi (chg φ zs p k) i := by
    unfold gi
    rw [List.getD_eq_getElem?_getD, List.getElem?_set, List.getD_eq_getElem?_getD]
    by_cases hik : k = i
    · rw [if_pos hik, if_pos hik, if_pos (by rw [chg_len]; omega)]; rfl
    · rw [if_neg hik, if_neg hik, List.getD_eq_getElem?_getD]
  rw [this, chg_gi hi]
  by_cases hik : k = i
  · subst hik
    rw [if_pos rfl, if_pos (by omega)]
  · rw [if_neg hik]
    by_cases h2 : p ≤ i ∧ i < k
    · rw [if_pos h2, if_pos (by omega)]
    · rw [if_neg h2, if_neg (by omega)]
end
def inv (z : Int) : Int := 1 - z

namespace ApplyFault
theorem inv_any (z : Int) (w : World) (h1 : 0 ≤ z) (h2 : z ≤ 1) :
    Calls Tryz.prog 94 #[.int .i64 z] w fun e w' => e = .returned (.int .i64 (inv z)) ∧ w = w' := by
  go_enter Tryz.func94, Tryz.ntmps94
  go_wp2
  go_ret
  exact ⟨rfl, rfl⟩

theorem bit_at {zs : List Int} (h : isBits zs = true) {k : Nat} (hk : k < zs.length) : 0 ≤ gi zs k ∧ gi zs k ≤ 1 := by
  unfold isBits at h
  simp only [Bool.and_eq_true] at h
  exact allR_gi h.2 hk

set_option maxHeartbeats 4000000 in
theorem change_inv (A1 : Option Addr) (n c1 base q t : Nat) (zs : List Int) (w : World) (hown : OwnI 2 w base A1 n c1 zs) (hn : n ≤ 8192) (_ : q ≤ 8192) (ht : t ≤ 16384) (hz : isBits zs = true) :
    Calls Tryz.prog 95 #[.slice A1 n c1, .int .i64 q, .int .i64 t, .func (.func 94) #[] #[]] w fun e w' => e = .returned (.tuple #[]) ∧ OwnI 2 w' base A1 n c1 (chg inv zs q (min t n)) ∧ w.grownBy w' (Value.slice A1 n c1).ownBlock := by
  have L := Lib.hid hown.len
  have HZ := Lib.hid hz
  clear hz
  by_cases htn : t ≤ n
  all_goals
    go_enter Tryz.func95, Tryz.ntmps95
    go_wp2
    go_loopw [8] (fun i wr => ∃ k : Nat, q ≤ k ∧ k ≤ max q (min t n) ∧ i = .int .i64 k ∧ OwnI 2 wr base A1 n c1 (chg inv zs q k) ∧ w.grownBy wr (Value.slice A1 n c1).ownBlock) (fun i _ => min t n - (intOf i).toNat)
    case atStart => exact ⟨q, Nat.le_refl _, by omega, rfl, by rw [chg_none (by omega)]; exact hown, World.grownBy.refl _ _⟩
    case round =>
      obtain ⟨k, hk0', hk, rfl, hown', hg⟩ := hrel
      have HK' := Lib.hid hk
      clear hk
      by_cases hlt2 : k < min t n
      · have hkn : k < n := by omega
        have hkt : k < t := by omega
        obtain ⟨g, rfl, hg1, hg2⟩ := hown'.form (by omega)
        have hold := hown'.cell hkn
        rw [chg_gi (by rw [L.out]; exact hkn), if_neg (by omega)] at hold
        have hfr := hown'.frozen k
        have hbit := bit_at HZ.out (k := k) (by rw [L.out]; exact hkn)
        go_wp2_with fail
        refine (inv_any _ _ hbit.1 hbit.2).mono ?_
        rintro e w' ⟨rfl, rfl⟩
        go_wp2
        go_roundw
        case rel =>
          have := hown'.stored k (inv (gi zs k))
          rw [chg_set (by omega) (by rw [L.out]; exact hkn)] at this
          exact ⟨k + 1, by omega, by omega, by go_num, this.1, grown_tr hg this.2⟩
        case measure => simp [intOf]; omega
      · have HK := Lib.hid (show k = max q (min t n) from by have := HK'.out; omega)
        have hkn : t ≤ k ∨ n ≤ k := by omega
        go_wp2
        go_end0
        refine ⟨rfl, ?_, hg⟩
        rw [HK.out] at hown'
        by_cases hqn : q ≤ min t n
        · rwa [Nat.max_eq_right hqn] at hown'
        · rw [Nat.max_eq_left (by omega), chg_none (Nat.le_refl _)] at hown'
          rw [chg_none (by omega)]
          exact hown'
end ApplyFault
end Go.Proofs.YtbaojbheopcjhaaGreatDoor

namespace Go.Proofs.YtbaojbheopcjhaaGreatDoor
open Go.RowKit

theorem infoFault : (Tryz.prog.info? 87).map (fun i => (i.zero, i.size, i.bytes)) = some (some (.agg #[.int .i64 0, .int .i64 0, .int .i64 0, .int .i64 0]), 4, 32) := by kernel_rfl

end Go.Proofs.YtbaojbheopcjhaaGreatDoor

namespace Go.Proofs.YtbaojbheopcjhaaGreatDoor
open Go.RowKit

def allF (fs : List Flt) : Bool := fs.all isFault
def isScript (fs : List Flt) : Bool := decide (fs.length ≤ 30) && allF fs
theorem allF_take {fs : List Flt} {k : Nat} (hk : k < fs.length) : allF (fs.take (k + 1)) = (allF (fs.take k) && isFault (ge fs k)) := by
  rw [take_ge hk]; simp [allF]
theorem allF_no {fs : List Flt} {k : Nat} (hk : k < fs.length) (h : isFault (ge fs k) = false) : allF fs = false := by
  refine Bool.eq_false_iff.2 fun ht => ?_
  have := List.all_eq_true.1 ht (ge fs k) (mem_ge hk)
  rw [h] at this; cases this
theorem allF_ge {fs : List Flt} (h : allF fs = true) {k : Nat} (hk : k < fs.length) : isFault (ge fs k) = true := List.all_eq_true.1 h (ge fs k) (mem_ge hk)

set_option maxHeartbeats 1000000 in
theorem sIsScript_any (A : Option Addr) (n c : Nat) (fs : List Flt) (w : World) (h : RE encF 4 w w.heap.size A n fs) (hn : n ≤ 1099511627776) :
    Calls Tryz.prog 27 #[.slice A n c] w (RetV w (.bool (isScript fs))) := by
  have L := Lib.hid h.len
  go_enter Tryz.func27, Tryz.ntmps27
  go_wp2
  go_loopw [3] (fun i wr => ∃ k : Nat, k ≤ n ∧ i = .int .i64 k ∧ allF (fs.take k) = true ∧ Below w.heap.size w wr) (fun i _ => n - (intOf i).toNat)
  case atStart => exact ⟨0, Nat.zero_le _, rfl, rfl, Below.refl _ _⟩
  case round =>
    obtain ⟨k, hk, rfl, hall, hb⟩ := hrel
    have Hall := Lib.hid hall
    clear hall
    by_cases hlt : k < n
    · obtain ⟨b, o, rfl, hbl, hc⟩ := (h.below hb (Nat.le_refl _)).get (by omega)
      have hc0 := hc k hlt 0 _ rfl
      have hc1 := hc k hlt 1 _ rfl
      have hc2 := hc k hlt 2 _ rfl
      have hc3 := hc k hlt 3 _ rfl
      clear hc
      rw [Nat.add_zero] at hc0
      rcases bool_cases (isFault (ge fs k)) with hf | hf
      all_goals
        have HF := Lib.hid hf
        go_wp2_with fail
        refine (sIsFault_any _ _ _ _ _).mono ?_
        rw [show isFault ⟨(ge fs k).kd, (ge fs k).pos, (ge fs k).len, (ge fs k).val⟩ = _ from hf]
        clear hf
        rintro e w1 ⟨rfl, hb1⟩
        have hb1' := below_next hb1 hb (Nat.le_refl _)
      · go_wp2
        go_roundw
        case rel => exact ⟨k + 1, by omega, by go_num, by rw [allF_take (by rw [L.out]; exact hlt), Hall.out, HF.out]; rfl, hb1'⟩
        case measure => simp [intOf]; omega
      · go_wp2
        go_ret
        exact ⟨ret_bool (by unfold isScript; rw [allF_no (by rw [L.out]; exact hlt) HF.out]; simp), hb1'⟩
    · have hkn : k = n := by omega
      have hz : allF fs = true := by have := Hall.out; rwa [List.take_of_length_le (by rw [h.len]; omega)] at this
      have Hz := Lib.hid hz
      clear hz hkn
      by_cases hl : n ≤ 30
      all_goals
        go_wp2
        go_ret
        exact ⟨ret_bool (by unfold isScript; rw [Hz.out, L.out]; simp; omega), hb⟩

set_option maxHeartbeats 1000000 in
theorem notFault_any (k p l v : Int) (w : World) :
    Calls Tryz.prog 56 #[.agg #[.int .i64 k, .int .i64 p, .int .i64 l, .int .i64 v]] w (RetV w (.bool (!isFault ⟨k, p, l, v⟩))) := by
  go_enter Tryz.func56, Tryz.ntmps56
  go_wp2_with fail
  refine (iIsFault_any _ _ _ _ _).mono ?_
  rintro e w1 ⟨rfl, hb1⟩
  go_wp2
  go_ret
  exact ⟨rfl, below_next hb1 (below_alloc (Below.refl _ _) (Nat.le_refl _) _) (Nat.le_refl _)⟩

set_option maxHeartbeats 1000000 in
theorem indexNot_any (A : Option Addr) (n c : Nat) (fs : List Flt) (w : World) (h : RE encF 4 w w.heap.size A n fs) (hn : n ≤ 1099511627776) :
    Calls Tryz.prog 91 #[.slice A n c, .func (.func 56) #[] #[]] w fun e w' => ∃ z : Int, e = .returned (.int .i64 z) ∧ decide (0 ≤ z) = (!allF fs) ∧ Below w.heap.size w w' := by
  have L := Lib.hid h.len
  go_enter Tryz.func91, Tryz.ntmps91
  go_wp2
  go_loopw [5, 8] (fun _ i wr => ∃ k : Nat, k ≤ n ∧ i = .int .i64 k ∧ allF (fs.take k) = true ∧ Below w.heap.size w wr) (fun _ i _ => n - (intOf i).toNat)
  case atStart => exact ⟨0, Nat.zero_le _, rfl, rfl, Below.refl _ _⟩
  case round =>
    obtain ⟨k, hk, rfl, hall, hb⟩ := hrel
    have Hall := Lib.hid hall
    clear hall
    by_cases hlt : k < n
    · obtain ⟨b, o, rfl, hbl, hc⟩ := (h.below hb (Nat.le_refl _)).get (by omega)
      have hc0 := hc k hlt 0 _ rfl
      have hc1 := hc k hlt 1 _ rfl
      have hc2 := hc k hlt 2 _ rfl
      have hc3 := hc k hlt 3 _ rfl
      clear hc
      rw [Nat.add_zero] at hc0
      rcases bool_cases (isFault (ge fs k)) with hf | hf
      all_goals
        have HF := Lib.hid hf
        go_wp2_with fail
        refine (notFault_any _ _ _ _ _).mono ?_
        rw [show isFault ⟨(ge fs k).kd, (ge fs k).pos, (ge fs k).len, (ge fs k).val⟩ = _ from hf]
        clear hf
        rintro e w1 ⟨rfl, hb1⟩
        have hb1' := below_next hb1 hb (Nat.le_refl _)
      · go_wp2
        go_roundw
        case rel => exact ⟨k + 1, by omega, by go_num, by rw [allF_take (by rw [L.out]; exact hlt), Hall.out, HF.out]; rfl, hb1'⟩
        case measure => simp [intOf]; omega
      · go_wp2
        go_ret
        exact ⟨(k : Int), rfl, by rw [allF_no (by rw [L.out]; exact hlt) HF.out]; simp, hb1'⟩
    · have hkn : k = n := by omega
      have hz : allF fs = true := by have := Hall.out; rwa [List.take_of_length_le (by rw [h.len]; omega)] at this
      have Hz := Lib.hid hz
      clear hz hkn
      go_wp2
      go_ret
      exact ⟨-1, rfl, by rw [Hz.out]; rfl, hb⟩

set_option maxHeartbeats 1000000 in
theorem containsNot_any (A : Option Addr) (n c : Nat) (fs : List Flt) (w : World) (h : RE encF 4 w w.heap.size A n fs) (hn : n ≤ 1099511627776) :
    Calls Tryz.prog 55 #[.slice A n c, .func (.func 56) #[] #[]] w (RetV w (.bool (!allF fs))) := by
  go_enter Tryz.func55, Tryz.ntmps55
  go_wp2_with fail
  refine (indexNot_any A n c fs w h hn).mono ?_
  rintro e w1 ⟨z, rfl, hz, hb1⟩
  have HZ := Lib.hid hz
  clear hz
  go_wp2
  go_ret
  exact ⟨ret_bool HZ.out, hb1⟩

set_option maxHeartbeats 1000000 in
theorem iIsScript_any (A : Option Addr) (n c : Nat) (fs : List Flt) (w : World) (h : RE encF 4 w w.heap.size A n fs) (hn : n ≤ 1099511627776) :
    Calls Tryz.prog 24 #[.slice A n c] w (RetV w (.bool (isScript fs))) := by
  have L := Lib.hid h.len
  by_cases hl : n ≤ 30
  · go_enter Tryz.func24, Tryz.ntmps24
    go_wp2_with fail
    refine (containsNot_any A n c fs w h hn).mono ?_
    rintro e w1 ⟨rfl, hb1⟩
    go_wp2
    go_ret
    exact ⟨ret_bool (by unfold isScript; rw [L.out]; simp [hl]), hb1⟩
  · have hd : decide ((n : Int) ≤ 30) = false := by simp; omega
    go_enter Tryz.func24, Tryz.ntmps24
    go_wp2
    go_ret
    exact ⟨ret_bool (by unfold isScript; rw [L.out]; simp [hl]), Below.refl _ _⟩

/-- what CountSlips answers -/
def slipOf (f : Flt) : Int := if f.kd = 4 then f.len else if f.kd = 3 then - f.len else 0
def sumTo (fs : List Flt) : Int := (fs.map slipOf).sum
namespace CountSlips
def val (fs : List Flt) : Int := if isScript fs then sumTo fs else 0
end CountSlips
end Go.Proofs.YtbaojbheopcjhaaGreatDoor

namespace Go.Proofs.YtbaojbheopcjhaaGreatDoor
open Go.RowKit

/-- the samples after a valid fault -/
def appF (zs : List Int) (f : Flt) : List Int :=
  if f.kd = 1 then chg inv zs f.pos.toNat (min (f.pos.toNat + 1) zs.length)
  else if f.kd = 2 then chg inv zs f.pos.toNat (min (f.pos.toNat + f.len.toNat) zs.length)
  else if f.kd = 3 then zs.take f.pos.toNat ++ zs.drop (f.pos.toNat + f.len.toNat)
  else if f.kd = 4 then (if f.pos.toNat ≤ zs.length then (zs.take f.pos.toNat ++ List.replicate f.len.toNat f.val ++ zs.drop f.pos.toNat).take 8192 else zs)
  else if f.kd = 5 then silF zs f.pos.toNat zs.length
  else chg (fun _ => f.val) zs f.pos.toNat (min (f.pos.toNat + f.len.toNat) zs.length)
/-- how many they are -/
def lenF (n : Nat) (f : Flt) : Nat :=
  if f.kd = 3 then n - (min n (f.pos.toNat + f.len.toNat) - min n f.pos.toNat)
  else if f.kd = 4 then (if f.pos.toNat ≤ n then min 8192 (n + f.len.toNat) else n)
  else n

theorem appF_len (zs : List Int) (f : Flt) : (appF zs f).length = lenF zs.length f := by
  unfold appF lenF
  by_cases h1 : f.kd = 1
  · rw [if_pos h1, if_neg (by omega), if_neg (by omega), chg_len]
  by_cases h2 : f.kd = 2
  · rw [if_neg h1, if_pos h2, if_neg (by omega), if_neg (by omega), chg_len]
  by_cases h3 : f.kd = 3
  · rw [if_neg h1, if_neg h2, if_pos h3, if_pos h3, List.length_append, List.length_take, List.length_drop]; omega
  by_cases h4 : f.kd = 4
  · rw [if_neg h1, if_neg h2, if_neg h3, if_pos h4, if_neg h3, if_pos h4]
    by_cases h : f.pos.toNat ≤ zs.length
    · rw [if_pos h, if_pos h]
      simp only [List.length_take, List.length_append, List.length_replicate, List.length_drop]
      omega
    · rw [if_neg h, if_neg h]
  by_cases h5 : f.kd = 5
  · rw [if_neg h1, if_neg h2, if_neg h3, if_neg h4, if_pos h5, if_neg h3, if_neg h4, silF_len]
  · rw [if_neg h1, if_neg h2, if_neg h3, if_neg h4, if_neg h5, if_neg h3, if_neg h4, chg_len]

theorem isBits_iff {zs : List Int} : isBits zs = true ↔ zs.length ≤ 8192 ∧ ∀ z ∈ zs, 0 ≤ z ∧ z ≤ 1 := by
  unfold isBits allR
  rw [Bool.and_eq_true, decide_eq_true_eq, List.all_eq_true]
  constructor
  · exact fun ⟨a, b⟩ => ⟨a, fun z hz => inR_iff.1 (b z hz)⟩
  · exact fun ⟨a, b⟩ => ⟨a, fun z hz => inR_iff.2 (b z hz)⟩

theorem lenF_le {n : Nat} (f : Flt) (h : n ≤ 8192) : lenF n f ≤ 8192 := by
  unfold lenF
  split
  · omega
  · split
    · split <;> omega
    · omega

theorem chg_mem {φ : Int → Int} {zs : List Int} {p k : Nat} {z : Int} (h : z ∈ chg φ zs p k) : (∃ y ∈ zs, z = φ y) ∨ z ∈ zs := by
  unfold chg at h
  obtain ⟨i, hi, rfl⟩ := List.mem_map.1 h
  have hi' : i < zs.length := by simpa using hi
  split
  · exact .inl ⟨_, mem_gi hi', rfl⟩
  · exact .inr (mem_gi hi')

theorem isFault_val {f : Flt} (h : isFault f = true) : 0 ≤ f.val ∧ f.val ≤ 1 := by
  unfold isFault at h
  simp only [Bool.and_eq_true] at h
  have h4 := h.2.2.2
  split at h4
  · exact inR_iff.1 h4
  · have := of_decide_eq_true h4; omega
theorem isFault_pos {f : Flt} (h : isFault f = true) : 0 ≤ f.pos ∧ f.pos ≤ 8192 := by
  unfold isFault at h
  simp only [Bool.and_eq_true] at h
  exact inR_iff.1 h.2.1
theorem isFault_len {f : Flt} (h : isFault f = true) : 0 ≤ f.len ∧ f.len ≤ 8192 := by
  unfold isFault at h
  simp only [Bool.and_eq_true] at h
  have h3 := h.2.2.1
  split at h3
  · have := inR_iff.1 h3; omega
  · have := of_decide_eq_true h3; omega
theorem isFault_kd {f : Flt} (h : isFault f = true) : 1 ≤ f.kd ∧ f.kd ≤ 6 := by
  unfold isFault at h
  simp only [Bool.and_eq_true] at h
  exact inR_iff.1 h.1

theorem appF_bits {zs : List Int} {f : Flt} (hz : isBits zs = true) (hf : isFault f = true) : isBits (appF zs f) = true := by
  obtain ⟨hl, hb⟩ := isBits_iff.1 hz
  have hv := isFault_val hf
  refine isBits_iff.2 ⟨by rw [appF_len]; exact lenF_le f hl, fun z hm => ?_⟩
  unfold appF at hm
  have hinv : ∀ {p k : Nat}, z ∈ chg inv zs p k → 0 ≤ z ∧ z ≤ 1 := by
    intro p k hm
    rcases chg_mem hm with ⟨y, hy, rfl⟩ | hy
    · have := hb y hy; unfold inv; omega
    · exact hb z hy
  split at hm
  · exact hinv hm
  split at hm
  · exact hinv hm
  split at hm
  · rcases List.mem_append.1 hm with h | h
    · exact hb z (List.mem_of_mem_take h)
    · exact hb z (List.mem_of_mem_drop h)
  split at hm
  · split at hm
    · have hm := List.mem_of_mem_take hm
      rcases List.mem_append.1 hm with h | h
      · rcases List.mem_append.1 h with h | h
        · exact hb z (List.mem_of_mem_take h)
        · have := List.eq_of_mem_replicate h; omega
      · exact hb z (List.mem_of_mem_drop h)
    · exact hb z hm
  split at hm
  · have hm : z ∈ chg (fun _ => 1) zs f.pos.toNat zs.length := hm
    rcases chg_mem hm with ⟨y, hy, rfl⟩ | hy
    · omega
    · exact hb z hy
  · rcases chg_mem hm with ⟨y, hy, rfl⟩ | hy
    · omega
    · exact hb z hy

/-- the samples after a script -/
def appS (zs : List Int) (fs : List Flt) : List Int := fs.foldl appF zs
def lenS (n : Nat) (fs : List Flt) : Nat := fs.foldl lenF n
theorem appS_take {zs : List Int} {fs : List Flt} {k : Nat} (h : k < fs.length) : appS zs (fs.take (k + 1)) = appF (appS zs (fs.take k)) (ge fs k) := by
  unfold appS
  rw [take_ge h, List.foldl_append]
  rfl
theorem appS_len (fs : List Flt) : ∀ zs : List Int, (appS zs fs).length = lenS zs.length fs := by
  induction fs with
  | nil => intro zs; rfl
  | cons f fs ih =>
    intro zs
    show (appS (appF zs f) fs).length = lenS (lenF zs.length f) fs
    rw [ih, appF_len]
theorem appS_bits {fs : List Flt} : ∀ {zs : List Int}, isBits zs = true → allF fs = true → isBits (appS zs fs) = true := by
  induction fs with
  | nil => intro zs h _; exact h
  | cons f fs ih =>
    intro zs h ha
    simp only [allF, List.all_cons, Bool.and_eq_true] at ha
    exact ih (appF_bits h ha.1) ha.2
theorem allF_take' {fs : List Flt} (k : Nat) (h : allF fs = true) : allF (fs.take k) = true := by
  unfold allF at h ⊢
  rw [List.all_eq_true] at h ⊢
  exact fun x hx => h x (List.mem_of_mem_take hx)
end Go.Proofs.YtbaojbheopcjhaaGreatDoor
