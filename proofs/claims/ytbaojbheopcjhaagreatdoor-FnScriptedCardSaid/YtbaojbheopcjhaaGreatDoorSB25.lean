/- Walks, laws and small notions for the claims of this seat, several texts as one (ApA, ApB). Conditions: as each theorem states them. -/
import Derived.Test.YtbaojbheopcjhaaGreatDoorSB24
import Derived.Deep.DeepCutAuto
import Derived.Test.YtbaojbheopcjhaaGreatDoorB1
namespace Go.Proofs.YtbaojbheopcjhaaGreatDoor
open Go.RowKit
namespace ApplyFault

set_option maxRecDepth 20000 in
set_option maxHeartbeats 8000000 in
theorem l24Apply_flip (A : Option Addr) (n c : Nat) (zs : List Int) (q : Nat) (w : World) (hri : RI w w.heap.size A n zs) (hn : n ≤ 8192) (hq : q ≤ 8192) (hA : A = none → c = 0) (hz : isBits zs = true) :
    Calls Tryz.prog 64 #[.slice A n c, .agg #[.int .i64 1, .int .i64 q, .int .i64 0, .int .i64 0]] w (RetI 2 w n (chg inv zs q (min (q + 1) n))) := by
  have L := Lib.hid hri.len
  have HZ := Lib.hid hz
  clear hz
  have hb0 : Below w.heap.size w (w.alloc (.cells #[.int .i64 1, .int .i64 q, .int .i64 0, .int .i64 0] 87)) := (Below.refl _ _).alloc (Nat.le_refl _) _
  have hr0 := hri.up hb0
  have hbx := Blk4.new w 87 (.int .i64 1) (.int .i64 q) (.int .i64 0) (.int .i64 0)
  obtain ⟨w0, hw0⟩ : ∃ x, w.alloc (.cells #[.int .i64 1, .int .i64 q, .int .i64 0, .int .i64 0] 87) = x := ⟨_, rfl⟩
  rw [hw0] at hb0 hr0 hbx
  have hk0 := hbx.c0
  have hk1 := hbx.c1
  have hk2 := hbx.c2
  have hk3 := hbx.c3
  have hgl := hbx.lt
  have HB := Lib.hid hb0
  clear hb0
  by_cases hlt : q < n
  case neg =>
    have hE := Lib.hid (show chg inv zs q (min (q + 1) n) = zs from chg_none (by omega))
    have hle : n ≤ q := by omega
    have hle2 : (n : Int) ≤ (q : Int) + 1 := by omega
    go_enter Tryz.func64, Tryz.ntmps64
    go_wp2_with fail
    go_region
    all_goals
      go_wp2_with fail
      refine (l01Own_any A n c zs w0.drew hr0 (by omega) hA).mono ?_
      rintro e w1 ⟨A1, c1, rfl, hown1, hb1⟩
      have hown1' : OwnI 2 w1 w0.heap.size A1 n c1 zs := hown1
      have hb1' : Below w0.heap.size w0 w1 := below_next_drew hb1 (Below.refl _ _) (Nat.le_refl _)
      clear hown1 hb1
      have hb1k := hbx.next hb1'
      have hl0 := hb1k.c0
      go_wp2_with fail
      clear hl0
      go_loopw [10] (fun i wr => ∃ k : Nat, n ≤ k ∧ k ≤ n ∧ i = .int .i64 k ∧ OwnI 2 wr w0.heap.size A1 n c1 (zs) ∧ Below w0.heap.size w0 wr) (fun i _ => n - (intOf i).toNat)
      case atStart => exact ⟨n, Nat.le_refl _, by omega, rfl, by exact hown1', hb1'⟩
      case round =>
        obtain ⟨k, hk0', hk, rfl, hown, hb⟩ := hrel
        have hbk := hbx.next hb
        have hl0 := hbk.c0
        have hl3 := hbk.c3
        by_cases hlt2 : k < n
        · exfalso; omega
        · have hkn : k = n := by omega
          have HK := Lib.hid hkn
          clear hkn
          go_wp2
          go_ret
          rw [hE.out]
          exact ⟨A1, c1, rfl, hown.weaken HB.out.size, below_next hb HB.out (Nat.le_refl _)⟩
  case pos =>
    have hle : q ≤ n := by omega
    by_cases htn : q + 1 < n
    case pos =>
      have hle2 : (q : Int) + 1 < (n : Int) := by omega
      have hle3 : ¬ ((n : Int) ≤ (q : Int) + 1) := by omega
      have hm1 := Lib.hid (show min (q + 1) n = q + 1 by omega)
      go_enter Tryz.func64, Tryz.ntmps64
      go_wp2_with fail
      go_region
      all_goals
        go_wp2_with fail
        refine (l01Own_any A n c zs w0.drew hr0 (by omega) hA).mono ?_
        rintro e w1 ⟨A1, c1, rfl, hown1, hb1⟩
        have hown1' : OwnI 2 w1 w0.heap.size A1 n c1 zs := hown1
        have hb1' : Below w0.heap.size w0 w1 := below_next_drew hb1 (Below.refl _ _) (Nat.le_refl _)
        clear hown1 hb1
        have hb1k := hbx.next hb1'
        have hl0 := hb1k.c0
        go_wp2_with fail
        clear hl0
        go_loopw [10] (fun i wr => ∃ k : Nat, q ≤ k ∧ k ≤ q + 1 ∧ i = .int .i64 k ∧ OwnI 2 wr w0.heap.size A1 n c1 (chg inv zs q k) ∧ Below w0.heap.size w0 wr) (fun i _ => n - (intOf i).toNat)
        case atStart => exact ⟨q, Nat.le_refl _, by omega, rfl, by rw [chg_none (by omega)]; exact hown1', hb1'⟩
        case round =>
          obtain ⟨k, hk0', hk, rfl, hown, hb⟩ := hrel
          have hbk := hbx.next hb
          have hl0 := hbk.c0
          have hl3 := hbk.c3
          by_cases hlt2 : k < q + 1
          · have hkn : k < n := by omega
            obtain ⟨g, rfl, hg1, hg2⟩ := hown.form (by omega)
            have hold := hown.cell hkn
            rw [chg_gi (by rw [L.out]; exact hkn), if_neg (by omega)] at hold
            have hfr := hown.frozen k
            obtain ⟨hbit1, hbit2⟩ := bit_at HZ.out (k := k) (by rw [L.out]; exact hkn)
            have st := hown.stored k (inv (gi zs k))
            rw [chg_set (by omega) (by rw [L.out]; exact hkn)] at st
            have ST := Lib.hid st
            clear st
            go_wp2
            go_roundw
            case rel => exact ⟨k + 1, by omega, by omega, by go_num, ST.out.1, hb.setCell (by simpa using hg1) _⟩
            case measure => simp [intOf]; omega
          · have hkn : k = q + 1 := by omega
            have HK := Lib.hid hkn
            clear hkn
            go_wp2
            go_ret
            rw [HK.out] at hown; rw [hm1.out]
            exact ⟨A1, c1, rfl, hown.weaken HB.out.size, below_next hb HB.out (Nat.le_refl _)⟩
    case neg =>
      have hle2 : (n : Int) ≤ (q : Int) + 1 := by omega
      have hm1 := Lib.hid (show min (q + 1) n = n by omega)
      go_enter Tryz.func64, Tryz.ntmps64
      go_wp2_with fail
      go_region
      all_goals
        go_wp2_with fail
        refine (l01Own_any A n c zs w0.drew hr0 (by omega) hA).mono ?_
        rintro e w1 ⟨A1, c1, rfl, hown1, hb1⟩
        have hown1' : OwnI 2 w1 w0.heap.size A1 n c1 zs := hown1
        have hb1' : Below w0.heap.size w0 w1 := below_next_drew hb1 (Below.refl _ _) (Nat.le_refl _)
        clear hown1 hb1
        have hb1k := hbx.next hb1'
        have hl0 := hb1k.c0
        go_wp2_with fail
        clear hl0
        go_loopw [10] (fun i wr => ∃ k : Nat, q ≤ k ∧ k ≤ n ∧ i = .int .i64 k ∧ OwnI 2 wr w0.heap.size A1 n c1 (chg inv zs q k) ∧ Below w0.heap.size w0 wr) (fun i _ => n - (intOf i).toNat)
        case atStart => exact ⟨q, Nat.le_refl _, by omega, rfl, by rw [chg_none (by omega)]; exact hown1', hb1'⟩
        case round =>
          obtain ⟨k, hk0', hk, rfl, hown, hb⟩ := hrel
          have hbk := hbx.next hb
          have hl0 := hbk.c0
          have hl3 := hbk.c3
          by_cases hlt2 : k < n
          · have hkn : k < n := by omega
            obtain ⟨g, rfl, hg1, hg2⟩ := hown.form (by omega)
            have hold := hown.cell hkn
            rw [chg_gi (by rw [L.out]; exact hkn), if_neg (by omega)] at hold
            have hfr := hown.frozen k
            obtain ⟨hbit1, hbit2⟩ := bit_at HZ.out (k := k) (by rw [L.out]; exact hkn)
            have st := hown.stored k (inv (gi zs k))
            rw [chg_set (by omega) (by rw [L.out]; exact hkn)] at st
            have ST := Lib.hid st
            clear st
            go_wp2
            go_roundw
            case rel => exact ⟨k + 1, by omega, by omega, by go_num, ST.out.1, hb.setCell (by simpa using hg1) _⟩
            case measure => simp [intOf]; omega
          · have hkn : k = n := by omega
            have HK := Lib.hid hkn
            clear hkn
            go_wp2
            go_ret
            rw [HK.out] at hown; rw [hm1.out]
            exact ⟨A1, c1, rfl, hown.weaken HB.out.size, below_next hb HB.out (Nat.le_refl _)⟩

set_option maxRecDepth 20000 in
set_option maxHeartbeats 8000000 in
theorem l24Apply_inv (A : Option Addr) (n c : Nat) (zs : List Int) (q : Nat) (l : Nat) (w : World) (hri : RI w w.heap.size A n zs) (hn : n ≤ 8192) (hq : q ≤ 8192) (hl : l ≤ 8192) (hl1 : 1 ≤ l) (hA : A = none → c = 0) (hz : isBits zs = true) :
    Calls Tryz.prog 64 #[.slice A n c, .agg #[.int .i64 2, .int .i64 q, .int .i64 l, .int .i64 0]] w (RetI 2 w n (chg inv zs q (min (q + l) n))) := by
  have L := Lib.hid hri.len
  have HZ := Lib.hid hz
  clear hz
  have hb0 : Below w.heap.size w (w.alloc (.cells #[.int .i64 2, .int .i64 q, .int .i64 l, .int .i64 0] 87)) := (Below.refl _ _).alloc (Nat.le_refl _) _
  have hr0 := hri.up hb0
  have hbx := Blk4.new w 87 (.int .i64 2) (.int .i64 q) (.int .i64 l) (.int .i64 0)
  obtain ⟨w0, hw0⟩ : ∃ x, w.alloc (.cells #[.int .i64 2, .int .i64 q, .int .i64 l, .int .i64 0] 87) = x := ⟨_, rfl⟩
  rw [hw0] at hb0 hr0 hbx
  have hk0 := hbx.c0
  have hk1 := hbx.c1
  have hk2 := hbx.c2
  have hk3 := hbx.c3
  have hgl := hbx.lt
  have HB := Lib.hid hb0
  clear hb0
  by_cases hlt : q < n
  case neg =>
    have hE := Lib.hid (show chg inv zs q (min (q + l) n) = zs from chg_none (by omega))
    have hle : n ≤ q := by omega
    have hle2 : (n : Int) ≤ (q : Int) + (l : Int) := by omega
    go_enter Tryz.func64, Tryz.ntmps64
    go_wp2_with fail
    go_region
    all_goals
      go_wp2_with fail
      refine (l01Own_any A n c zs w0.drew hr0 (by omega) hA).mono ?_
      rintro e w1 ⟨A1, c1, rfl, hown1, hb1⟩
      have hown1' : OwnI 2 w1 w0.heap.size A1 n c1 zs := hown1
      have hb1' : Below w0.heap.size w0 w1 := below_next_drew hb1 (Below.refl _ _) (Nat.le_refl _)
      clear hown1 hb1
      have hb1k := hbx.next hb1'
      have hl0 := hb1k.c0
      go_wp2_with fail
      clear hl0
      go_loopw [10] (fun i wr => ∃ k : Nat, n ≤ k ∧ k ≤ n ∧ i = .int .i64 k ∧ OwnI 2 wr w0.heap.size A1 n c1 (zs) ∧ Below w0.heap.size w0 wr) (fun i _ => n - (intOf i).toNat)
      case atStart => exact ⟨n, Nat.le_refl _, by omega, rfl, by exact hown1', hb1'⟩
      case round =>
        obtain ⟨k, hk0', hk, rfl, hown, hb⟩ := hrel
        have hbk := hbx.next hb
        have hl0 := hbk.c0
        have hl3 := hbk.c3
        by_cases hlt2 : k < n
        · exfalso; omega
        · have hkn : k = n := by omega
          have HK := Lib.hid hkn
          clear hkn
          go_wp2
          go_ret
          rw [hE.out]
          exact ⟨A1, c1, rfl, hown.weaken HB.out.size, below_next hb HB.out (Nat.le_refl _)⟩
  case pos =>
    have hle : q ≤ n := by omega
    by_cases htn : q + l < n
    case pos =>
      have hle2 : (q : Int) + (l : Int) < (n : Int) := by omega
      have hle3 : ¬ ((n : Int) ≤ (q : Int) + (l : Int)) := by omega
      have hm1 := Lib.hid (show min (q + l) n = q + l by omega)
      go_enter Tryz.func64, Tryz.ntmps64
      go_wp2_with fail
      go_region
      all_goals
        go_wp2_with fail
        refine (l01Own_any A n c zs w0.drew hr0 (by omega) hA).mono ?_
        rintro e w1 ⟨A1, c1, rfl, hown1, hb1⟩
        have hown1' : OwnI 2 w1 w0.heap.size A1 n c1 zs := hown1
        have hb1' : Below w0.heap.size w0 w1 := below_next_drew hb1 (Below.refl _ _) (Nat.le_refl _)
        clear hown1 hb1
        have hb1k := hbx.next hb1'
        have hl0 := hb1k.c0
        go_wp2_with fail
        clear hl0
        go_loopw [10] (fun i wr => ∃ k : Nat, q ≤ k ∧ k ≤ q + l ∧ i = .int .i64 k ∧ OwnI 2 wr w0.heap.size A1 n c1 (chg inv zs q k) ∧ Below w0.heap.size w0 wr) (fun i _ => n - (intOf i).toNat)
        case atStart => exact ⟨q, Nat.le_refl _, by omega, rfl, by rw [chg_none (by omega)]; exact hown1', hb1'⟩
        case round =>
          obtain ⟨k, hk0', hk, rfl, hown, hb⟩ := hrel
          have hbk := hbx.next hb
          have hl0 := hbk.c0
          have hl3 := hbk.c3
          by_cases hlt2 : k < q + l
          · have hkn : k < n := by omega
            obtain ⟨g, rfl, hg1, hg2⟩ := hown.form (by omega)
            have hold := hown.cell hkn
            rw [chg_gi (by rw [L.out]; exact hkn), if_neg (by omega)] at hold
            have hfr := hown.frozen k
            obtain ⟨hbit1, hbit2⟩ := bit_at HZ.out (k := k) (by rw [L.out]; exact hkn)
            have st := hown.stored k (inv (gi zs k))
            rw [chg_set (by omega) (by rw [L.out]; exact hkn)] at st
            have ST := Lib.hid st
            clear st
            go_wp2
            go_roundw
            case rel => exact ⟨k + 1, by omega, by omega, by go_num, ST.out.1, hb.setCell (by simpa using hg1) _⟩
            case measure => simp [intOf]; omega
          · have hkn : k = q + l := by omega
            have HK := Lib.hid hkn
            clear hkn
            go_wp2
            go_ret
            rw [HK.out] at hown; rw [hm1.out]
            exact ⟨A1, c1, rfl, hown.weaken HB.out.size, below_next hb HB.out (Nat.le_refl _)⟩
    case neg =>
      have hle2 : (n : Int) ≤ (q : Int) + (l : Int) := by omega
      have hm1 := Lib.hid (show min (q + l) n = n by omega)
      go_enter Tryz.func64, Tryz.ntmps64
      go_wp2_with fail
      go_region
      all_goals
        go_wp2_with fail
        refine (l01Own_any A n c zs w0.drew hr0 (by omega) hA).mono ?_
        rintro e w1 ⟨A1, c1, rfl, hown1, hb1⟩
        have hown1' : OwnI 2 w1 w0.heap.size A1 n c1 zs := hown1
        have hb1' : Below w0.heap.size w0 w1 := below_next_drew hb1 (Below.refl _ _) (Nat.le_refl _)
        clear hown1 hb1
        have hb1k := hbx.next hb1'
        have hl0 := hb1k.c0
        go_wp2_with fail
        clear hl0
        go_loopw [10] (fun i wr => ∃ k : Nat, q ≤ k ∧ k ≤ n ∧ i = .int .i64 k ∧ OwnI 2 wr w0.heap.size A1 n c1 (chg inv zs q k) ∧ Below w0.heap.size w0 wr) (fun i _ => n - (intOf i).toNat)
        case atStart => exact ⟨q, Nat.le_refl _, by omega, rfl, by rw [chg_none (by omega)]; exact hown1', hb1'⟩
        case round =>
          obtain ⟨k, hk0', hk, rfl, hown, hb⟩ := hrel
          have hbk := hbx.next hb
          have hl0 := hbk.c0
          have hl3 := hbk.c3
          by_cases hlt2 : k < n
          · have hkn : k < n := by omega
            obtain ⟨g, rfl, hg1, hg2⟩ := hown.form (by omega)
            have hold := hown.cell hkn
            rw [chg_gi (by rw [L.out]; exact hkn), if_neg (by omega)] at hold
            have hfr := hown.frozen k
            obtain ⟨hbit1, hbit2⟩ := bit_at HZ.out (k := k) (by rw [L.out]; exact hkn)
            have st := hown.stored k (inv (gi zs k))
            rw [chg_set (by omega) (by rw [L.out]; exact hkn)] at st
            have ST := Lib.hid st
            clear st
            go_wp2
            go_roundw
            case rel => exact ⟨k + 1, by omega, by omega, by go_num, ST.out.1, hb.setCell (by simpa using hg1) _⟩
            case measure => simp [intOf]; omega
          · have hkn : k = n := by omega
            have HK := Lib.hid hkn
            clear hkn
            go_wp2
            go_ret
            rw [HK.out] at hown; rw [hm1.out]
            exact ⟨A1, c1, rfl, hown.weaken HB.out.size, below_next hb HB.out (Nat.le_refl _)⟩

set_option maxRecDepth 20000 in
set_option maxHeartbeats 8000000 in
theorem l24Apply_set (A : Option Addr) (n c : Nat) (zs : List Int) (q : Nat) (l : Nat) (v : Int) (w : World) (hri : RI w w.heap.size A n zs) (hn : n ≤ 8192) (hq : q ≤ 8192) (hl : l ≤ 8192) (hl1 : 1 ≤ l) (hA : A = none → c = 0) (hz : isBits zs = true) :
    Calls Tryz.prog 64 #[.slice A n c, .agg #[.int .i64 6, .int .i64 q, .int .i64 l, .int .i64 v]] w (RetI 2 w n (chg (fun _ => v) zs q (min (q + l) n))) := by
  have L := Lib.hid hri.len
  have HZ := Lib.hid hz
  clear hz
  have hb0 : Below w.heap.size w (w.alloc (.cells #[.int .i64 6, .int .i64 q, .int .i64 l, .int .i64 v] 87)) := (Below.refl _ _).alloc (Nat.le_refl _) _
  have hr0 := hri.up hb0
  have hbx := Blk4.new w 87 (.int .i64 6) (.int .i64 q) (.int .i64 l) (.int .i64 v)
  obtain ⟨w0, hw0⟩ : ∃ x, w.alloc (.cells #[.int .i64 6, .int .i64 q, .int .i64 l, .int .i64 v] 87) = x := ⟨_, rfl⟩
  rw [hw0] at hb0 hr0 hbx
  have hk0 := hbx.c0
  have hk1 := hbx.c1
  have hk2 := hbx.c2
  have hk3 := hbx.c3
  have hgl := hbx.lt
  have HB := Lib.hid hb0
  clear hb0
  by_cases hlt : q < n
  case neg =>
    have hE := Lib.hid (show chg (fun _ => v) zs q (min (q + l) n) = zs from chg_none (by omega))
    have hle : n ≤ q := by omega
    have hle2 : (n : Int) ≤ (q : Int) + (l : Int) := by omega
    go_enter Tryz.func64, Tryz.ntmps64
    go_wp2_with fail
    go_region
    all_goals
      go_wp2_with fail
      refine (l01Own_any A n c zs w0.drew hr0 (by omega) hA).mono ?_
      rintro e w1 ⟨A1, c1, rfl, hown1, hb1⟩
      have hown1' : OwnI 2 w1 w0.heap.size A1 n c1 zs := hown1
      have hb1' : Below w0.heap.size w0 w1 := below_next_drew hb1 (Below.refl _ _) (Nat.le_refl _)
      clear hown1 hb1
      have hb1k := hbx.next hb1'
      have hl0 := hb1k.c0
      go_wp2_with fail
      clear hl0
      go_loopw [10] (fun i wr => ∃ k : Nat, n ≤ k ∧ k ≤ n ∧ i = .int .i64 k ∧ OwnI 2 wr w0.heap.size A1 n c1 (zs) ∧ Below w0.heap.size w0 wr) (fun i _ => n - (intOf i).toNat)
      case atStart => exact ⟨n, Nat.le_refl _, by omega, rfl, by exact hown1', hb1'⟩
      case round =>
        obtain ⟨k, hk0', hk, rfl, hown, hb⟩ := hrel
        have hbk := hbx.next hb
        have hl0 := hbk.c0
        have hl3 := hbk.c3
        by_cases hlt2 : k < n
        · exfalso; omega
        · have hkn : k = n := by omega
          have HK := Lib.hid hkn
          clear hkn
          go_wp2
          go_ret
          rw [hE.out]
          exact ⟨A1, c1, rfl, hown.weaken HB.out.size, below_next hb HB.out (Nat.le_refl _)⟩
  case pos =>
    have hle : q ≤ n := by omega
    by_cases htn : q + l < n
    case pos =>
      have hle2 : (q : Int) + (l : Int) < (n : Int) := by omega
      have hle3 : ¬ ((n : Int) ≤ (q : Int) + (l : Int)) := by omega
      have hm1 := Lib.hid (show min (q + l) n = q + l by omega)
      go_enter Tryz.func64, Tryz.ntmps64
      go_wp2_with fail
      go_region
      all_goals
        go_wp2_with fail
        refine (l01Own_any A n c zs w0.drew hr0 (by omega) hA).mono ?_
        rintro e w1 ⟨A1, c1, rfl, hown1, hb1⟩
        have hown1' : OwnI 2 w1 w0.heap.size A1 n c1 zs := hown1
        have hb1' : Below w0.heap.size w0 w1 := below_next_drew hb1 (Below.refl _ _) (Nat.le_refl _)
        clear hown1 hb1
        have hb1k := hbx.next hb1'
        have hl0 := hb1k.c0
        go_wp2_with fail
        clear hl0
        go_loopw [10] (fun i wr => ∃ k : Nat, q ≤ k ∧ k ≤ q + l ∧ i = .int .i64 k ∧ OwnI 2 wr w0.heap.size A1 n c1 (chg (fun _ => v) zs q k) ∧ Below w0.heap.size w0 wr) (fun i _ => n - (intOf i).toNat)
        case atStart => exact ⟨q, Nat.le_refl _, by omega, rfl, by rw [chg_none (by omega)]; exact hown1', hb1'⟩
        case round =>
          obtain ⟨k, hk0', hk, rfl, hown, hb⟩ := hrel
          have hbk := hbx.next hb
          have hl0 := hbk.c0
          have hl3 := hbk.c3
          by_cases hlt2 : k < q + l
          · have hkn : k < n := by omega
            obtain ⟨g, rfl, hg1, hg2⟩ := hown.form (by omega)
            have hold := hown.cell hkn
            rw [chg_gi (by rw [L.out]; exact hkn), if_neg (by omega)] at hold
            have hfr := hown.frozen k
            obtain ⟨hbit1, hbit2⟩ := bit_at HZ.out (k := k) (by rw [L.out]; exact hkn)
            have st := hown.stored k ((fun _ => v) (gi zs k))
            rw [chg_set (by omega) (by rw [L.out]; exact hkn)] at st
            have ST := Lib.hid st
            clear st
            go_wp2
            go_roundw
            case rel => exact ⟨k + 1, by omega, by omega, by go_num, ST.out.1, hb.setCell (by simpa using hg1) _⟩
            case measure => simp [intOf]; omega
          · have hkn : k = q + l := by omega
            have HK := Lib.hid hkn
            clear hkn
            go_wp2
            go_ret
            rw [HK.out] at hown; rw [hm1.out]
            exact ⟨A1, c1, rfl, hown.weaken HB.out.size, below_next hb HB.out (Nat.le_refl _)⟩
    case neg =>
      have hle2 : (n : Int) ≤ (q : Int) + (l : Int) := by omega
      have hm1 := Lib.hid (show min (q + l) n = n by omega)
      go_enter Tryz.func64, Tryz.ntmps64
      go_wp2_with fail
      go_region
      all_goals
        go_wp2_with fail
        refine (l01Own_any A n c zs w0.drew hr0 (by omega) hA).mono ?_
        rintro e w1 ⟨A1, c1, rfl, hown1, hb1⟩
        have hown1' : OwnI 2 w1 w0.heap.size A1 n c1 zs := hown1
        have hb1' : Below w0.heap.size w0 w1 := below_next_drew hb1 (Below.refl _ _) (Nat.le_refl _)
        clear hown1 hb1
        have hb1k := hbx.next hb1'
        have hl0 := hb1k.c0
        go_wp2_with fail
        clear hl0
        go_loopw [10] (fun i wr => ∃ k : Nat, q ≤ k ∧ k ≤ n ∧ i = .int .i64 k ∧ OwnI 2 wr w0.heap.size A1 n c1 (chg (fun _ => v) zs q k) ∧ Below w0.heap.size w0 wr) (fun i _ => n - (intOf i).toNat)
        case atStart => exact ⟨q, Nat.le_refl _, by omega, rfl, by rw [chg_none (by omega)]; exact hown1', hb1'⟩
        case round =>
          obtain ⟨k, hk0', hk, rfl, hown, hb⟩ := hrel
          have hbk := hbx.next hb
          have hl0 := hbk.c0
          have hl3 := hbk.c3
          by_cases hlt2 : k < n
          · have hkn : k < n := by omega
            obtain ⟨g, rfl, hg1, hg2⟩ := hown.form (by omega)
            have hold := hown.cell hkn
            rw [chg_gi (by rw [L.out]; exact hkn), if_neg (by omega)] at hold
            have hfr := hown.frozen k
            obtain ⟨hbit1, hbit2⟩ := bit_at HZ.out (k := k) (by rw [L.out]; exact hkn)
            have st := hown.stored k ((fun _ => v) (gi zs k))
            rw [chg_set (by omega) (by rw [L.out]; exact hkn)] at st
            have ST := Lib.hid st
            clear st
            go_wp2
            go_roundw
            case rel => exact ⟨k + 1, by omega, by omega, by go_num, ST.out.1, hb.setCell (by simpa using hg1) _⟩
            case measure => simp [intOf]; omega
          · have hkn : k = n := by omega
            have HK := Lib.hid hkn
            clear hkn
            go_wp2
            go_ret
            rw [HK.out] at hown; rw [hm1.out]
            exact ⟨A1, c1, rfl, hown.weaken HB.out.size, below_next hb HB.out (Nat.le_refl _)⟩
end ApplyFault
end Go.Proofs.YtbaojbheopcjhaaGreatDoor

namespace Go.Proofs.YtbaojbheopcjhaaGreatDoor
open Go.RowKit

/-- a slice's address is a plain one -/
def Pl (A : Option Addr) (c : Nat) : Prop := (A = none ∧ c = 0) ∨ ∃ b o, A = some ⟨b, o, none⟩
theorem below_dd {w w1 : World} (h : Below w.drew.drew.heap.size w.drew.drew w1) : Below w.heap.size w w1 := ⟨h.os, h.tape, h.output, h.size, h.block⟩
theorem take_min (zs : List Int) (q : Nat) : zs.take q = zs.take (min zs.length q) := by
  rcases Nat.le_total zs.length q with h | h
  · rw [Nat.min_eq_left h, List.take_of_length_le h, List.take_of_length_le (Nat.le_refl _)]
  · rw [Nat.min_eq_right h]
theorem drop_min (zs : List Int) (q : Nat) : zs.drop q = zs.drop (min zs.length q) := by
  rcases Nat.le_total zs.length q with h | h
  · rw [Nat.min_eq_left h, List.drop_of_length_le h, List.drop_of_length_le (Nat.le_refl _)]
  · rw [Nat.min_eq_right h]
theorem Pl.cap {A : Option Addr} {c : Nat} (h : Pl A c) : A = none → c = 0 := by
  rcases h with ⟨_, h⟩ | ⟨b, o, h⟩
  · exact fun _ => h
  · intro e; rw [h] at e; cases e
theorem OwnI.pl {T : TypeId} {w : World} {base n c : Nat} {A : Option Addr} {zs : List Int} (h : OwnI T w base A n c zs) : Pl A c := by
  rcases h.2 with ⟨h1, _⟩ | ⟨g, cap, cur, hv, _⟩
  · injection h1 with h1 _ h3
    exact .inl ⟨h1, h3⟩
  · injection hv with h1
    exact .inr ⟨g, 0, h1⟩
namespace ApplyFault
theorem own_fn : (Tryz.f63.name == "runtime.NumGoroutine") = false ∧ Tryz.f63.body.isSome = true := ⟨by kernel_rfl, by kernel_rfl⟩

set_option maxRecDepth 20000 in
set_option maxHeartbeats 16000000 in
theorem l24Apply_drop (A : Option Addr) (n c : Nat) (zs : List Int) (q l : Nat) (w : World) (hri : RI w w.heap.size A n zs) (hn : n ≤ 8192) (hq : q ≤ 8192) (hl : l ≤ 8192) (hl1 : 1 ≤ l) (hA : Pl A c) (hnc : n ≤ c) (hcm : c ≤ maxLen) :
    Calls Tryz.prog 64 #[.slice A n c, .agg #[.int .i64 3, .int .i64 q, .int .i64 l, .int .i64 0]] w (RetI 2 w (n - (min n (q + l) - min n q)) (zs.take q ++ zs.drop (q + l))) := by
  have L := Lib.hid hri.len
  have hb0 : Below w.heap.size w (w.alloc (.cells #[.int .i64 3, .int .i64 q, .int .i64 l, .int .i64 0] 87)) := (Below.refl _ _).alloc (Nat.le_refl _) _
  have hr0 := hri.up hb0
  have hbx := Blk4.new w 87 (.int .i64 3) (.int .i64 q) (.int .i64 l) (.int .i64 0)
  obtain ⟨w0, hw0⟩ : ∃ x, w.alloc (.cells #[.int .i64 3, .int .i64 q, .int .i64 l, .int .i64 0] 87) = x := ⟨_, rfl⟩
  rw [hw0] at hb0 hr0 hbx
  have hk0 := hbx.c0
  have hk1 := hbx.c1
  have hk2 := hbx.c2
  have HB := Lib.hid hb0
  unfold maxLen at hcm
  clear hb0 hbx
  rcases hA with ⟨rfl, rfl⟩ | ⟨b, o, rfl⟩
  · obtain rfl : n = 0 := by omega
    have hq0 : ¬ ((q : Int) < 0) := by omega
    have hq1 : (0 : Int) ≤ (q : Int) + (l : Int) := by omega
    have HF := Lib.hid (show min 0 q = 0 by omega)
    have HT := Lib.hid (show min 0 (q + l) = 0 by omega)
    have hrp := Lib.hid (hr0.pre (k := 0) (by omega))
    have hrs := Lib.hid (hr0)
    have hF := Lib.hid (show zs.take q ++ zs.drop (q + l) = zs.take 0 ++ zs.drop 0 from
      congr (congrArg _ ((take_min zs q).trans (by rw [L.out, HF.out]))) ((drop_min zs (q + l)).trans (by rw [L.out, HT.out])))
    go_enter Tryz.func64, Tryz.ntmps64
    go_wp2_with fail
    go_region
    all_goals
      go_wp2_with fail
      go_region_law (first
        | ((refine step_call 63 Tryz.func63 own_fn.1 own_fn.2 rfl rfl #[.slice (none) (0) 0] ?_ ?_); (simp [Act.eval, Act.put]); (refine (l01Own_any (none) (0) 0 (zs.take (0)) _ (by exact hrp.out) (by omega) (fun _ => rfl)).mono ?_); rintro e w1 ⟨A1, c1, rfl, hown1, hb1⟩; (refine ⟨_, rfl, ?_⟩); have HO := Lib.hid hown1; have HB1 := Lib.hid (below_dd hb1); clear hown1 hb1)
        | (refine step_appR _ Tryz.underlying31 infoInt rfl (.tmp 41) (.tmp 44) rfl w0.heap.size A1 (0) c1 _ (by simp [Act.eval]) HO.out (none) (0) (0) w0.heap.size (zs.drop (0)) (by simp [Act.eval]) (hrs.out.below HB1.out (Nat.le_refl _)) (fun _ => rfl) (by omega) HB1.out.size ?_; intro A2 c2 w2 hown2 hB2 hg2; have HO2 := Lib.hid hown2; have HB2 := Lib.hid (hB2 w0.heap.size (Nat.le_refl _)); clear hown2 hB2 hg2))
      all_goals
        go_wp2
        go_ret
        have e1 := HF.out
        have e2 := HT.out
        have e3 := HO2.out
        (try rw [hF.out])
        rw [e1, e2]
        have e4 : 0 + (0) = 0 - (0 - 0) := by omega
        refine ⟨A2, c2, by rw [← e4]; rfl, ?_, ?_⟩
        · rw [← e4]; exact e3.weaken HB.out.size
        · exact (below_next HB1.out HB.out (Nat.le_refl _)).trans (HB2.out.mono HB.out.size)
  · by_cases hlt : q < n
    · by_cases htn : q + l < n
      · skip
        have hle2 : (q : Int) + (l : Int) < (n : Int) := by omega
        have hle : q ≤ n := by omega
        have hle3 : ¬ ((n : Int) ≤ (q : Int) + (l : Int)) := by omega
        have hcq : q ≤ c := by omega
        have hct : q + l ≤ n := by omega
        have htN : ((q : Int) + (l : Int)).toNat = q + l := by omega
        have hc1 : ¬ (c = q + l) := by omega
        have hx0 : (0 : Int) ≤ (q : Int) + (l : Int) := by omega
        have hx1 : (q : Int) + (l : Int) ≤ (n : Int) := by omega
        have HF := Lib.hid (show min n q = q by omega)
        have HT := Lib.hid (show min n (q + l) = q + l by omega)
        have hrp := Lib.hid (hr0.pre (k := q) (by omega))
        have hrs := Lib.hid (hr0.suf (k := q + l) (by omega))
        have hF := Lib.hid (show zs.take q ++ zs.drop (q + l) = zs.take q ++ zs.drop (q + l) from
          congr (congrArg _ ((take_min zs q).trans (by rw [L.out, HF.out]))) ((drop_min zs (q + l)).trans (by rw [L.out, HT.out])))
        go_enter Tryz.func64, Tryz.ntmps64
        go_wp2_with fail
        go_region
        all_goals
          go_wp2_with fail
          go_region_law (first
            | ((refine step_call 63 Tryz.func63 own_fn.1 own_fn.2 rfl rfl #[.slice (some ⟨b, o, none⟩) (q) c] ?_ ?_); (simp [Act.eval, Act.put]); (refine (l01Own_any (some ⟨b, o, none⟩) (q) c (zs.take (q)) _ (by exact hrp.out) (by omega) (fun e => by cases e)).mono ?_); rintro e w1 ⟨A1, c1, rfl, hown1, hb1⟩; (refine ⟨_, rfl, ?_⟩); have HO := Lib.hid hown1; have HB1 := Lib.hid (below_dd hb1); clear hown1 hb1)
            | (refine step_appR _ Tryz.underlying31 infoInt rfl (.tmp 41) (.tmp 44) rfl w0.heap.size A1 (q) c1 _ (by simp [Act.eval]) HO.out (some ⟨b, o + (q + l), none⟩) (n - (q + l)) (c - (q + l)) w0.heap.size (zs.drop (q + l)) (by simp [Act.eval]) (hrs.out.below HB1.out (Nat.le_refl _)) (fun e => by cases e) (by omega) HB1.out.size ?_; intro A2 c2 w2 hown2 hB2 hg2; have HO2 := Lib.hid hown2; have HB2 := Lib.hid (hB2 w0.heap.size (Nat.le_refl _)); clear hown2 hB2 hg2))
          all_goals
            go_wp2
            go_ret
            have e1 := HF.out
            have e2 := HT.out
            have e3 := HO2.out
            (try rw [hF.out])
            rw [e1, e2]
            have e4 : q + (n - (q + l)) = n - (q + l - q) := by omega
            refine ⟨A2, c2, by rw [← e4]; rfl, ?_, ?_⟩
            · rw [← e4]; exact e3.weaken HB.out.size
            · exact (below_next HB1.out HB.out (Nat.le_refl _)).trans (HB2.out.mono HB.out.size)
      · by_cases hcn : n = c
        · subst hcn
          have hle2 : (n : Int) ≤ (q : Int) + (l : Int) := by omega
          have hle : q ≤ n := by omega
          have hcq : q ≤ n := by omega
          have HF := Lib.hid (show min n q = q by omega)
          have HT := Lib.hid (show min n (q + l) = n by omega)
          have hrp := Lib.hid (hr0.pre (k := q) (by omega))
          have hrs := Lib.hid ((show RI w0 w0.heap.size (some ⟨b, o, none⟩) 0 (zs.drop n) from by rw [List.drop_of_length_le (by rw [L.out]; exact Nat.le_refl _)]; exact RI.nil _ _ _))
          have hF := Lib.hid (show zs.take q ++ zs.drop (q + l) = zs.take q ++ zs.drop n from
            congr (congrArg _ ((take_min zs q).trans (by rw [L.out, HF.out]))) ((drop_min zs (q + l)).trans (by rw [L.out, HT.out])))
          go_enter Tryz.func64, Tryz.ntmps64
          go_wp2_with fail
          go_region
          all_goals
            go_wp2_with fail
            go_region_law (first
              | ((refine step_call 63 Tryz.func63 own_fn.1 own_fn.2 rfl rfl #[.slice (some ⟨b, o, none⟩) (q) n] ?_ ?_); (simp [Act.eval, Act.put]); (refine (l01Own_any (some ⟨b, o, none⟩) (q) n (zs.take (q)) _ (by exact hrp.out) (by omega) (fun e => by cases e)).mono ?_); rintro e w1 ⟨A1, c1, rfl, hown1, hb1⟩; (refine ⟨_, rfl, ?_⟩); have HO := Lib.hid hown1; have HB1 := Lib.hid (below_dd hb1); clear hown1 hb1)
              | (refine step_appR _ Tryz.underlying31 infoInt rfl (.tmp 41) (.tmp 44) rfl w0.heap.size A1 (q) c1 _ (by simp [Act.eval]) HO.out (some ⟨b, o, none⟩) (0) (0) w0.heap.size (zs.drop (n)) (by simp [Act.eval]) (hrs.out.below HB1.out (Nat.le_refl _)) (fun e => by cases e) (by omega) HB1.out.size ?_; intro A2 c2 w2 hown2 hB2 hg2; have HO2 := Lib.hid hown2; have HB2 := Lib.hid (hB2 w0.heap.size (Nat.le_refl _)); clear hown2 hB2 hg2))
            all_goals
              go_wp2
              go_ret
              have e1 := HF.out
              have e2 := HT.out
              have e3 := HO2.out
              (try rw [hF.out])
              rw [e1, e2]
              have e4 : q + (0) = n - (n - q) := by omega
              refine ⟨A2, c2, by rw [← e4]; rfl, ?_, ?_⟩
              · rw [← e4]; exact e3.weaken HB.out.size
              · exact (below_next HB1.out HB.out (Nat.le_refl _)).trans (HB2.out.mono HB.out.size)
        · skip
          have hle2 : (n : Int) ≤ (q : Int) + (l : Int) := by omega
          have hle : q ≤ n := by omega
          have hcq : q ≤ c := by omega
          have hc1 : ¬ (c = n) := by omega
          have HF := Lib.hid (show min n q = q by omega)
          have HT := Lib.hid (show min n (q + l) = n by omega)
          have hrp := Lib.hid (hr0.pre (k := q) (by omega))
          have hrs := Lib.hid ((show RI w0 w0.heap.size (some ⟨b, o + n, none⟩) 0 (zs.drop n) from by have := hr0.suf (k := n) (by omega); rwa [Nat.sub_self] at this))
          have hF := Lib.hid (show zs.take q ++ zs.drop (q + l) = zs.take q ++ zs.drop n from
            congr (congrArg _ ((take_min zs q).trans (by rw [L.out, HF.out]))) ((drop_min zs (q + l)).trans (by rw [L.out, HT.out])))
          go_enter Tryz.func64, Tryz.ntmps64
          go_wp2_with fail
          go_region
          all_goals
            go_wp2_with fail
            go_region_law (first
              | ((refine step_call 63 Tryz.func63 own_fn.1 own_fn.2 rfl rfl #[.slice (some ⟨b, o, none⟩) (q) c] ?_ ?_); (simp [Act.eval, Act.put]); (refine (l01Own_any (some ⟨b, o, none⟩) (q) c (zs.take (q)) _ (by exact hrp.out) (by omega) (fun e => by cases e)).mono ?_); rintro e w1 ⟨A1, c1, rfl, hown1, hb1⟩; (refine ⟨_, rfl, ?_⟩); have HO := Lib.hid hown1; have HB1 := Lib.hid (below_dd hb1); clear hown1 hb1)
              | (refine step_appR _ Tryz.underlying31 infoInt rfl (.tmp 41) (.tmp 44) rfl w0.heap.size A1 (q) c1 _ (by simp [Act.eval]) HO.out (some ⟨b, o + n, none⟩) (0) (c - n) w0.heap.size (zs.drop (n)) (by simp [Act.eval]) (hrs.out.below HB1.out (Nat.le_refl _)) (fun e => by cases e) (by omega) HB1.out.size ?_; intro A2 c2 w2 hown2 hB2 hg2; have HO2 := Lib.hid hown2; have HB2 := Lib.hid (hB2 w0.heap.size (Nat.le_refl _)); clear hown2 hB2 hg2))
            all_goals
              go_wp2
              go_ret
              have e1 := HF.out
              have e2 := HT.out
              have e3 := HO2.out
              (try rw [hF.out])
              rw [e1, e2]
              have e4 : q + (0) = n - (n - q) := by omega
              refine ⟨A2, c2, by rw [← e4]; rfl, ?_, ?_⟩
              · rw [← e4]; exact e3.weaken HB.out.size
              · exact (below_next HB1.out HB.out (Nat.le_refl _)).trans (HB2.out.mono HB.out.size)
    · have hlen : (n : Int) ≤ (q : Int) := by omega
      by_cases hcn : n = c
      · subst hcn
        have hle2 : (n : Int) ≤ (q : Int) + (l : Int) := by omega
        have HF := Lib.hid (show min n q = n by omega)
        have HT := Lib.hid (show min n (q + l) = n by omega)
        have hrp := Lib.hid (hr0.pre (k := n) (by omega))
        have hrs := Lib.hid ((show RI w0 w0.heap.size (some ⟨b, o, none⟩) 0 (zs.drop n) from by rw [List.drop_of_length_le (by rw [L.out]; exact Nat.le_refl _)]; exact RI.nil _ _ _))
        have hF := Lib.hid (show zs.take q ++ zs.drop (q + l) = zs.take n ++ zs.drop n from
          congr (congrArg _ ((take_min zs q).trans (by rw [L.out, HF.out]))) ((drop_min zs (q + l)).trans (by rw [L.out, HT.out])))
        go_enter Tryz.func64, Tryz.ntmps64
        go_wp2_with fail
        go_region
        all_goals
          go_wp2_with fail
          go_region_law (first
            | ((refine step_call 63 Tryz.func63 own_fn.1 own_fn.2 rfl rfl #[.slice (some ⟨b, o, none⟩) (n) n] ?_ ?_); (simp [Act.eval, Act.put]); (refine (l01Own_any (some ⟨b, o, none⟩) (n) n (zs.take (n)) _ (by exact hrp.out) (by omega) (fun e => by cases e)).mono ?_); rintro e w1 ⟨A1, c1, rfl, hown1, hb1⟩; (refine ⟨_, rfl, ?_⟩); have HO := Lib.hid hown1; have HB1 := Lib.hid (below_dd hb1); clear hown1 hb1)
            | (refine step_appR _ Tryz.underlying31 infoInt rfl (.tmp 41) (.tmp 44) rfl w0.heap.size A1 (n) c1 _ (by simp [Act.eval]) HO.out (some ⟨b, o, none⟩) (0) (0) w0.heap.size (zs.drop (n)) (by simp [Act.eval]) (hrs.out.below HB1.out (Nat.le_refl _)) (fun e => by cases e) (by omega) HB1.out.size ?_; intro A2 c2 w2 hown2 hB2 hg2; have HO2 := Lib.hid hown2; have HB2 := Lib.hid (hB2 w0.heap.size (Nat.le_refl _)); clear hown2 hB2 hg2))
          all_goals
            go_wp2
            go_ret
            have e1 := HF.out
            have e2 := HT.out
            have e3 := HO2.out
            (try rw [hF.out])
            rw [e1, e2]
            have e4 : n + (0) = n - (n - n) := by omega
            refine ⟨A2, c2, by rw [← e4]; rfl, ?_, ?_⟩
            · rw [← e4]; exact e3.weaken HB.out.size
            · exact (below_next HB1.out HB.out (Nat.le_refl _)).trans (HB2.out.mono HB.out.size)
      · skip
        have hle2 : (n : Int) ≤ (q : Int) + (l : Int) := by omega
        have hc1 : ¬ (c = n) := by omega
        have HF := Lib.hid (show min n q = n by omega)
        have HT := Lib.hid (show min n (q + l) = n by omega)
        have hrp := Lib.hid (hr0.pre (k := n) (by omega))
        have hrs := Lib.hid ((show RI w0 w0.heap.size (some ⟨b, o + n, none⟩) 0 (zs.drop n) from by have := hr0.suf (k := n) (by omega); rwa [Nat.sub_self] at this))
        have hF := Lib.hid (show zs.take q ++ zs.drop (q + l) = zs.take n ++ zs.drop n from
          congr (congrArg _ ((take_min zs q).trans (by rw [L.out, HF.out]))) ((drop_min zs (q + l)).trans (by rw [L.out, HT.out])))
        go_enter Tryz.func64, Tryz.ntmps64
        go_wp2_with fail
        go_region
        all_goals
          go_wp2_with fail
          go_region_law (first
            | ((refine step_call 63 Tryz.func63 own_fn.1 own_fn.2 rfl rfl #[.slice (some ⟨b, o, none⟩) (n) c] ?_ ?_); (simp [Act.eval, Act.put]); (refine (l01Own_any (some ⟨b, o, none⟩) (n) c (zs.take (n)) _ (by exact hrp.out) (by omega) (fun e => by cases e)).mono ?_); rintro e w1 ⟨A1, c1, rfl, hown1, hb1⟩; (refine ⟨_, rfl, ?_⟩); have HO := Lib.hid hown1; have HB1 := Lib.hid (below_dd hb1); clear hown1 hb1)
            | (refine step_appR _ Tryz.underlying31 infoInt rfl (.tmp 41) (.tmp 44) rfl w0.heap.size A1 (n) c1 _ (by simp [Act.eval]) HO.out (some ⟨b, o + n, none⟩) (0) (c - n) w0.heap.size (zs.drop (n)) (by simp [Act.eval]) (hrs.out.below HB1.out (Nat.le_refl _)) (fun e => by cases e) (by omega) HB1.out.size ?_; intro A2 c2 w2 hown2 hB2 hg2; have HO2 := Lib.hid hown2; have HB2 := Lib.hid (hB2 w0.heap.size (Nat.le_refl _)); clear hown2 hB2 hg2))
          all_goals
            go_wp2
            go_ret
            have e1 := HF.out
            have e2 := HT.out
            have e3 := HO2.out
            (try rw [hF.out])
            rw [e1, e2]
            have e4 : n + (0) = n - (n - n) := by omega
            refine ⟨A2, c2, by rw [← e4]; rfl, ?_, ?_⟩
            · rw [← e4]; exact e3.weaken HB.out.size
            · exact (below_next HB1.out HB.out (Nat.le_refl _)).trans (HB2.out.mono HB.out.size)
end ApplyFault
end Go.Proofs.YtbaojbheopcjhaaGreatDoor
