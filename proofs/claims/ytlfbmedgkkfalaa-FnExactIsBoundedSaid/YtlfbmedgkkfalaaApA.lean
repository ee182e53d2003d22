/- The walks of the reference's l24Apply at the kinds that change samples in place. Conditions: lists of at most 8192 bits. -/
import Derived.Test.YtlfbmedgkkfalaaApF
import Derived.Deep.DeepCutAuto
namespace Go.Proofs.Ytlfbmedgkkfalaa
open Go.RowKit
namespace ApplyFault

set_option maxRecDepth 20000 in
set_option maxHeartbeats 8000000 in
theorem l24Apply_flip (A : Option Addr) (n c : Nat) (zs : List Int) (q : Nat) (w : World) (hri : RI w w.heap.size A n zs) (hn : n ≤ 8192) (hq : q ≤ 8192) (hA : A = none → c = 0) (hz : isBits zs = true) :
    Calls Try.prog 164 #[.slice A n c, .agg #[.int .i64 1, .int .i64 q, .int .i64 0, .int .i64 0]] w (RetI 2 w n (chg inv zs q (min (q + 1) n))) := by
  have L := Lib.hid hri.len
  have HZ := Lib.hid hz
  clear hz
  have hb0 : Below w.heap.size w (w.alloc (.cells #[.int .i64 1, .int .i64 q, .int .i64 0, .int .i64 0] 76)) := (Below.refl _ _).alloc (Nat.le_refl _) _
  have hr0 := hri.up hb0
  have hbx := Blk4.new w 76 (.int .i64 1) (.int .i64 q) (.int .i64 0) (.int .i64 0)
  obtain ⟨w0, hw0⟩ : ∃ x, w.alloc (.cells #[.int .i64 1, .int .i64 q, .int .i64 0, .int .i64 0] 76) = x := ⟨_, rfl⟩
  rw [hw0] at hb0 hr0 hbx
  have hk0 := hbx.c0
  have hk1 := hbx.c1
  have hk2 := hbx.c2
  have hk3 := hbx.c3
  have hgl := hbx.lt
  have HB := Lib.hid hb0
  clear hb0
  by_cases hlt : q < n
  case neg =>
    have hE := Lib.hid (show chg inv zs q (min (q + 1) n) = zs from chg_none (by omega))
    have hle : n ≤ q := by omega
    have hle2 : (n : Int) ≤ (q : Int) + 1 := by omega
    go_enter Try.func164, Try.ntmps164
    go_wp2_with fail
    go_region
    all_goals
      go_wp2_with fail
      refine (l01Own_any A n c zs w0.drew hr0 (by omega) hA).mono ?_
      rintro e w1 ⟨A1, c1, rfl, hown1, hb1⟩
      have hown1' : OwnI 2 w1 w0.heap.size A1 n c1 zs := hown1
      have hb1' : Below w0.heap.size w0 w1 := below_next_drew hb1 (Below.refl _ _) (Nat.le_refl _)
      clear hown1 hb1
      have hb1k := hbx.next hb1'
      have hl0 := hb1k.c0
      go_wp2_with fail
      clear hl0
      go_loopw [10] (fun i wr => ∃ k : Nat, n ≤ k ∧ k ≤ n ∧ i = .int .i64 k ∧ OwnI 2 wr w0.heap.size A1 n c1 (zs) ∧ Below w0.heap.size w0 wr) (fun i _ => n - (intOf i).toNat)
      case atStart => exact ⟨n, Nat.le_refl _, by omega, rfl, by exact hown1', hb1'⟩
      case round =>
        obtain ⟨k, hk0', hk, rfl, hown, hb⟩ := hrel
        have hbk := hbx.next hb
        have hl0 := hbk.c0
        have hl3 := hbk.c3
        by_cases hlt2 : k < n
        · exfalso; omega
        · have hkn : k = n := by omega
          have HK := Lib.hid hkn
          clear hkn
          go_wp2
          go_ret
          rw [hE.out]
          exact ⟨A1, c1, rfl, hown.weaken HB.out.size, below_next hb HB.out (Nat.le_refl _)⟩
  case pos =>
    have hle : q ≤ n := by omega
    by_cases htn : q + 1 < n
    case pos =>
      have hle2 : (q : Int) + 1 < (n : Int) := by omega
      have hle3 : ¬ ((n : Int) ≤ (q : Int) + 1) := by omega
      have hm1 := Lib.hid (show min (q + 1) n = q + 1 by omega)
      go_enter Try.func164, Try.ntmps164
      go_wp2_with fail
      go_region
      all_goals
        go_wp2_with fail
        refine (l01Own_any A n c zs w0.drew hr0 (by omega) hA).mono ?_
        rintro e w1 ⟨A1, c1, rfl, hown1, hb1⟩
        have hown1' : OwnI 2 w1 w0.heap.size A1 n c1 zs := hown1
        have hb1' : Below w0.heap.size w0 w1 := below_next_drew hb1 (Below.refl _ _) (Nat.le_refl _)
        clear hown1 hb1
        have hb1k := hbx.next hb1'
        have hl0 := hb1k.c0
        go_wp2_with fail
        clear hl0
        go_loopw [10] (fun i wr => ∃ k : Nat, q ≤ k ∧ k ≤ q + 1 ∧ i = .int .i64 k ∧ OwnI 2 wr w0.heap.size A1 n c1 (chg inv zs q k) ∧ Below w0.heap.size w0 wr) (fun i _ => n - (intOf i).toNat)
        case atStart => exact ⟨q, Nat.le_refl _, by omega, rfl, by rw [chg_none (by omega)]; exact hown1', hb1'⟩
        case round =>
          obtain ⟨k, hk0', hk, rfl, hown, hb⟩ := hrel
          have hbk := hbx.next hb
          have hl0 := hbk.c0
          have hl3 := hbk.c3
          by_cases hlt2 : k < q + 1
          · have hkn : k < n := by omega
            obtain ⟨g, rfl, hg1, hg2⟩ := hown.form (by omega)
            have hold := hown.cell hkn
            rw [chg_gi (by rw [L.out]; exact hkn), if_neg (by omega)] at hold
            have hfr := hown.frozen k
            obtain ⟨hbit1, hbit2⟩ := bit_at HZ.out (k := k) (by rw [L.out]; exact hkn)
            have st := hown.stored k (inv (gi zs k))
            rw [chg_set (by omega) (by rw [L.out]; exact hkn)] at st
            have ST := Lib.hid st
            clear st
            go_wp2
            go_roundw
            case rel => exact ⟨k + 1, by omega, by omega, by go_num, ST.out.1, hb.setCell (by simpa using hg1) _⟩
            case measure => simp [intOf]; omega
          · have hkn : k = q + 1 := by omega
            have HK := Lib.hid hkn
            clear hkn
            go_wp2
            go_ret
            rw [HK.out] at hown; rw [hm1.out]
            exact ⟨A1, c1, rfl, hown.weaken HB.out.size, below_next hb HB.out (Nat.le_refl _)⟩
    case neg =>
      have hle2 : (n : Int) ≤ (q : Int) + 1 := by omega
      have hm1 := Lib.hid (show min (q + 1) n = n by omega)
      go_enter Try.func164, Try.ntmps164
      go_wp2_with fail
      go_region
      all_goals
        go_wp2_with fail
        refine (l01Own_any A n c zs w0.drew hr0 (by omega) hA).mono ?_
        rintro e w1 ⟨A1, c1, rfl, hown1, hb1⟩
        have hown1' : OwnI 2 w1 w0.heap.size A1 n c1 zs := hown1
        have hb1' : Below w0.heap.size w0 w1 := below_next_drew hb1 (Below.refl _ _) (Nat.le_refl _)
        clear hown1 hb1
        have hb1k := hbx.next hb1'
        have hl0 := hb1k.c0
        go_wp2_with fail
        clear hl0
        go_loopw [10] (fun i wr => ∃ k : Nat, q ≤ k ∧ k ≤ n ∧ i = .int .i64 k ∧ OwnI 2 wr w0.heap.size A1 n c1 (chg inv zs q k) ∧ Below w0.heap.size w0 wr) (fun i _ => n - (intOf i).toNat)
        case atStart => exact ⟨q, Nat.le_refl _, by omega, rfl, by rw [chg_none (by omega)]; exact hown1', hb1'⟩
        case round =>
          obtain ⟨k, hk0', hk, rfl, hown, hb⟩ := hrel
          have hbk := hbx.next hb
          have hl0 := hbk.c0
          have hl3 := hbk.c3
          by_cases hlt2 : k < n
          · have hkn : k < n := by omega
            obtain ⟨g, rfl, hg1, hg2⟩ := hown.form (by omega)
            have hold := hown.cell hkn
            rw [chg_gi (by rw [L.out]; exact hkn), if_neg (by omega)] at hold
            have hfr := hown.frozen k
            obtain ⟨hbit1, hbit2⟩ := bit_at HZ.out (k := k) (by rw [L.out]; exact hkn)
            have st := hown.stored k (inv (gi zs k))
            rw [chg_set (by omega) (by rw [L.out]; exact hkn)] at st
            have ST := Lib.hid st
            clear st
            go_wp2
            go_roundw
            case rel => exact ⟨k + 1, by omega, by omega, by go_num, ST.out.1, hb.setCell (by simpa using hg1) _⟩
            case measure => simp [intOf]; omega
          · have hkn : k = n := by omega
            have HK := Lib.hid hkn
            clear hkn
            go_wp2
            go_ret
            rw [HK.out] at hown; rw [hm1.out]
            exact ⟨A1, c1, rfl, hown.weaken HB.out.size, below_next hb HB.out (Nat.le_refl _)⟩

set_option maxRecDepth 20000 in
set_option maxHeartbeats 8000000 in
theorem l24Apply_inv (A : Option Addr) (n c : Nat) (zs : List Int) (q : Nat) (l : Nat) (w : World) (hri : RI w w.heap.size A n zs) (hn : n ≤ 8192) (hq : q ≤ 8192) (hl : l ≤ 8192) (hl1 : 1 ≤ l) (hA : A = none → c = 0) (hz : isBits zs = true) :
    Calls Try.prog 164 #[.slice A n c, .agg #[.int .i64 2, .int .i64 q, .int .i64 l, .int .i64 0]] w (RetI 2 w n (chg inv zs q (min (q + l) n))) := by
  have L := Lib.hid hri.len
  have HZ := Lib.hid hz
  clear hz
  have hb0 : Below w.heap.size w (w.alloc (.cells #[.int .i64 2, .int .i64 q, .int .i64 l, .int .i64 0] 76)) := (Below.refl _ _).alloc (Nat.le_refl _) _
  have hr0 := hri.up hb0
  have hbx := Blk4.new w 76 (.int .i64 2) (.int .i64 q) (.int .i64 l) (.int .i64 0)
  obtain ⟨w0, hw0⟩ : ∃ x, w.alloc (.cells #[.int .i64 2, .int .i64 q, .int .i64 l, .int .i64 0] 76) = x := ⟨_, rfl⟩
  rw [hw0] at hb0 hr0 hbx
  have hk0 := hbx.c0
  have hk1 := hbx.c1
  have hk2 := hbx.c2
  have hk3 := hbx.c3
  have hgl := hbx.lt
  have HB := Lib.hid hb0
  clear hb0
  by_cases hlt : q < n
  case neg =>
    have hE := Lib.hid (show chg inv zs q (min (q + l) n) = zs from chg_none (by omega))
    have hle : n ≤ q := by omega
    have hle2 : (n : Int) ≤ (q : Int) + (l : Int) := by omega
    go_enter Try.func164, Try.ntmps164
    go_wp2_with fail
    go_region
    all_goals
      go_wp2_with fail
      refine (l01Own_any A n c zs w0.drew hr0 (by omega) hA).mono ?_
      rintro e w1 ⟨A1, c1, rfl, hown1, hb1⟩
      have hown1' : OwnI 2 w1 w0.heap.size A1 n c1 zs := hown1
      have hb1' : Below w0.heap.size w0 w1 := below_next_drew hb1 (Below.refl _ _) (Nat.le_refl _)
      clear hown1 hb1
      have hb1k := hbx.next hb1'
      have hl0 := hb1k.c0
      go_wp2_with fail
      clear hl0
      go_loopw [10] (fun i wr => ∃ k : Nat, n ≤ k ∧ k ≤ n ∧ i = .int .i64 k ∧ OwnI 2 wr w0.heap.size A1 n c1 (zs) ∧ Below w0.heap.size w0 wr) (fun i _ => n - (intOf i).toNat)
      case atStart => exact ⟨n, Nat.le_refl _, by omega, rfl, by exact hown1', hb1'⟩
      case round =>
        obtain ⟨k, hk0', hk, rfl, hown, hb⟩ := hrel
        have hbk := hbx.next hb
        have hl0 := hbk.c0
        have hl3 := hbk.c3
        by_cases hlt2 : k < n
        · exfalso; omega
        · have hkn : k = n := by omega
          have HK := Lib.hid hkn
          clear hkn
          go_wp2
          go_ret
          rw [hE.out]
          exact ⟨A1, c1, rfl, hown.weaken HB.out.size, below_next hb HB.out (Nat.le_refl _)⟩
  case pos =>
    have hle : q ≤ n := by omega
    by_cases htn : q + l < n
    case pos =>
      have hle2 : (q : Int) + (l : Int) < (n : Int) := by omega
      have hle3 : ¬ ((n : Int) ≤ (q : Int) + (l : Int)) := by omega
      have hm1 := Lib.hid (show min (q + l) n = q + l by omega)
      go_enter Try.func164, Try.ntmps164
      go_wp2_with fail
      go_region
      all_goals
        go_wp2_with fail
        refine (l01Own_any A n c zs w0.drew hr0 (by omega) hA).mono ?_
        rintro e w1 ⟨A1, c1, rfl, hown1, hb1⟩
        have hown1' : OwnI 2 w1 w0.heap.size A1 n c1 zs := hown1
        have hb1' : Below w0.heap.size w0 w1 := below_next_drew hb1 (Below.refl _ _) (Nat.le_refl _)
        clear hown1 hb1
        have hb1k := hbx.next hb1'
        have hl0 := hb1k.c0
        go_wp2_with fail
        clear hl0
        go_loopw [10] (fun i wr => ∃ k : Nat, q ≤ k ∧ k ≤ q + l ∧ i = .int .i64 k ∧ OwnI 2 wr w0.heap.size A1 n c1 (chg inv zs q k) ∧ Below w0.heap.size w0 wr) (fun i _ => n - (intOf i).toNat)
        case atStart => exact ⟨q, Nat.le_refl _, by omega, rfl, by rw [chg_none (by omega)]; exact hown1', hb1'⟩
        case round =>
          obtain ⟨k, hk0', hk, rfl, hown, hb⟩ := hrel
          have hbk := hbx.next hb
          have hl0 := hbk.c0
          have hl3 := hbk.c3
          by_cases hlt2 : k < q + l
          · have hkn : k < n := by omega
            obtain ⟨g, rfl, hg1, hg2⟩ := hown.form (by omega)
            have hold := hown.cell hkn
            rw [chg_gi (by rw [L.out]; exact hkn), if_neg (by omega)] at hold
            have hfr := hown.frozen k
            obtain ⟨hbit1, hbit2⟩ := bit_at HZ.out (k := k) (by rw [L.out]; exact hkn)
            have st := hown.stored k (inv (gi zs k))
            rw [chg_set (by omega) (by rw [L.out]; exact hkn)] at st
            have ST := Lib.hid st
            clear st
            go_wp2
            go_roundw
            case rel => exact ⟨k + 1, by omega, by omega, by go_num, ST.out.1, hb.setCell (by simpa using hg1) _⟩
            case measure => simp [intOf]; omega
          · have hkn : k = q + l := by omega
            have HK := Lib.hid hkn
            clear hkn
            go_wp2
            go_ret
            rw [HK.out] at hown; rw [hm1.out]
            exact ⟨A1, c1, rfl, hown.weaken HB.out.size, below_next hb HB.out (Nat.le_refl _)⟩
    case neg =>
      have hle2 : (n : Int) ≤ (q : Int) + (l : Int) := by omega
      have hm1 := Lib.hid (show min (q + l) n = n by omega)
      go_enter Try.func164, Try.ntmps164
      go_wp2_with fail
      go_region
      all_goals
        go_wp2_with fail
        refine (l01Own_any A n c zs w0.drew hr0 (by omega) hA).mono ?_
        rintro e w1 ⟨A1, c1, rfl, hown1, hb1⟩
        have hown1' : OwnI 2 w1 w0.heap.size A1 n c1 zs := hown1
        have hb1' : Below w0.heap.size w0 w1 := below_next_drew hb1 (Below.refl _ _) (Nat.le_refl _)
        clear hown1 hb1
        have hb1k := hbx.next hb1'
        have hl0 := hb1k.c0
        go_wp2_with fail
        clear hl0
        go_loopw [10] (fun i wr => ∃ k : Nat, q ≤ k ∧ k ≤ n ∧ i = .int .i64 k ∧ OwnI 2 wr w0.heap.size A1 n c1 (chg inv zs q k) ∧ Below w0.heap.size w0 wr) (fun i _ => n - (intOf i).toNat)
        case atStart => exact ⟨q, Nat.le_refl _, by omega, rfl, by rw [chg_none (by omega)]; exact hown1', hb1'⟩
        case round =>
          obtain ⟨k, hk0', hk, rfl, hown, hb⟩ := hrel
          have hbk := hbx.next hb
          have hl0 := hbk.c0
          have hl3 := hbk.c3
          by_cases hlt2 : k < n
          · have hkn : k < n := by omega
            obtain ⟨g, rfl, hg1, hg2⟩ := hown.form (by omega)
            have hold := hown.cell hkn
            rw [chg_gi (by rw [L.out]; exact hkn), if_neg (by omega)] at hold
            have hfr := hown.frozen k
            obtain ⟨hbit1, hbit2⟩ := bit_at HZ.out (k := k) (by rw [L.out]; exact hkn)
            have st := hown.stored k (inv (gi zs k))
            rw [chg_set (by omega) (by rw [L.out]; exact hkn)] at st
            have ST := Lib.hid st
            clear st
            go_wp2
            go_roundw
            case rel => exact ⟨k + 1, by omega, by omega, by go_num, ST.out.1, hb.setCell (by simpa using hg1) _⟩
            case measure => simp [intOf]; omega
          · have hkn : k = n := by omega
            have HK := Lib.hid hkn
            clear hkn
            go_wp2
            go_ret
            rw [HK.out] at hown; rw [hm1.out]
            exact ⟨A1, c1, rfl, hown.weaken HB.out.size, below_next hb HB.out (Nat.le_refl _)⟩

set_option maxRecDepth 20000 in
set_option maxHeartbeats 8000000 in
theorem l24Apply_set (A : Option Addr) (n c : Nat) (zs : List Int) (q : Nat) (l : Nat) (v : Int) (w : World) (hri : RI w w.heap.size A n zs) (hn : n ≤ 8192) (hq : q ≤ 8192) (hl : l ≤ 8192) (hl1 : 1 ≤ l) (hA : A = none → c = 0) (hz : isBits zs = true) :
    Calls Try.prog 164 #[.slice A n c, .agg #[.int .i64 6, .int .i64 q, .int .i64 l, .int .i64 v]] w (RetI 2 w n (chg (fun _ => v) zs q (min (q + l) n))) := by
  have L := Lib.hid hri.len
  have HZ := Lib.hid hz
  clear hz
  have hb0 : Below w.heap.size w (w.alloc (.cells #[.int .i64 6, .int .i64 q, .int .i64 l, .int .i64 v] 76)) := (Below.refl _ _).alloc (Nat.le_refl _) _
  have hr0 := hri.up hb0
  have hbx := Blk4.new w 76 (.int .i64 6) (.int .i64 q) (.int .i64 l) (.int .i64 v)
  obtain ⟨w0, hw0⟩ : ∃ x, w.alloc (.cells #[.int .i64 6, .int .i64 q, .int .i64 l, .int .i64 v] 76) = x := ⟨_, rfl⟩
  rw [hw0] at hb0 hr0 hbx
  have hk0 := hbx.c0
  have hk1 := hbx.c1
  have hk2 := hbx.c2
  have hk3 := hbx.c3
  have hgl := hbx.lt
  have HB := Lib.hid hb0
  clear hb0
  by_cases hlt : q < n
  case neg =>
    have hE := Lib.hid (show chg (fun _ => v) zs q (min (q + l) n) = zs from chg_none (by omega))
    have hle : n ≤ q := by omega
    have hle2 : (n : Int) ≤ (q : Int) + (l : Int) := by omega
    go_enter Try.func164, Try.ntmps164
    go_wp2_with fail
    go_region
    all_goals
      go_wp2_with fail
      refine (l01Own_any A n c zs w0.drew hr0 (by omega) hA).mono ?_
      rintro e w1 ⟨A1, c1, rfl, hown1, hb1⟩
      have hown1' : OwnI 2 w1 w0.heap.size A1 n c1 zs := hown1
      have hb1' : Below w0.heap.size w0 w1 := below_next_drew hb1 (Below.refl _ _) (Nat.le_refl _)
      clear hown1 hb1
      have hb1k := hbx.next hb1'
      have hl0 := hb1k.c0
      go_wp2_with fail
      clear hl0
      go_loopw [10] (fun i wr => ∃ k : Nat, n ≤ k ∧ k ≤ n ∧ i = .int .i64 k ∧ OwnI 2 wr w0.heap.size A1 n c1 (zs) ∧ Below w0.heap.size w0 wr) (fun i _ => n - (intOf i).toNat)
      case atStart => exact ⟨n, Nat.le_refl _, by omega, rfl, by exact hown1', hb1'⟩
      case round =>
        obtain ⟨k, hk0', hk, rfl, hown, hb⟩ := hrel
        have hbk := hbx.next hb
        have hl0 := hbk.c0
        have hl3 := hbk.c3
        by_cases hlt2 : k < n
        · exfalso; omega
        · have hkn : k = n := by omega
          have HK := Lib.hid hkn
          clear hkn
          go_wp2
          go_ret
          rw [hE.out]
          exact ⟨A1, c1, rfl, hown.weaken HB.out.size, below_next hb HB.out (Nat.le_refl _)⟩
  case pos =>
    have hle : q ≤ n := by omega
    by_cases htn : q + l < n
    case pos =>
      have hle2 : (q : Int) + (l : Int) < (n : Int) := by omega
      have hle3 : ¬ ((n : Int) ≤ (q : Int) + (l : Int)) := by omega
      have hm1 := Lib.hid (show min (q + l) n = q + l by omega)
      go_enter Try.func164, Try.ntmps164
      go_wp2_with fail
      go_region
      all_goals
        go_wp2_with fail
        refine (l01Own_any A n c zs w0.drew hr0 (by omega) hA).mono ?_
        rintro e w1 ⟨A1, c1, rfl, hown1, hb1⟩
        have hown1' : OwnI 2 w1 w0.heap.size A1 n c1 zs := hown1
        have hb1' : Below w0.heap.size w0 w1 := below_next_drew hb1 (Below.refl _ _) (Nat.le_refl _)
        clear hown1 hb1
        have hb1k := hbx.next hb1'
        have hl0 := hb1k.c0
        go_wp2_with fail
        clear hl0
        go_loopw [10] (fun i wr => ∃ k : Nat, q ≤ k ∧ k ≤ q + l ∧ i = .int .i64 k ∧ OwnI 2 wr w0.heap.size A1 n c1 (chg (fun _ => v) zs q k) ∧ Below w0.heap.size w0 wr) (fun i _ => n - (intOf i).toNat)
        case atStart => exact ⟨q, Nat.le_refl _, by omega, rfl, by rw [chg_none (by omega)]; exact hown1', hb1'⟩
        case round =>
          obtain ⟨k, hk0', hk, rfl, hown, hb⟩ := hrel
          have hbk := hbx.next hb
          have hl0 := hbk.c0
          have hl3 := hbk.c3
          by_cases hlt2 : k < q + l
          · have hkn : k < n := by omega
            obtain ⟨g, rfl, hg1, hg2⟩ := hown.form (by omega)
            have hold := hown.cell hkn
            rw [chg_gi (by rw [L.out]; exact hkn), if_neg (by omega)] at hold
            have hfr := hown.frozen k
            obtain ⟨hbit1, hbit2⟩ := bit_at HZ.out (k := k) (by rw [L.out]; exact hkn)
            have st := hown.stored k ((fun _ => v) (gi zs k))
            rw [chg_set (by omega) (by rw [L.out]; exact hkn)] at st
            have ST := Lib.hid st
            clear st
            go_wp2
            go_roundw
            case rel => exact ⟨k + 1, by omega, by omega, by go_num, ST.out.1, hb.setCell (by simpa using hg1) _⟩
            case measure => simp [intOf]; omega
          · have hkn : k = q + l := by omega
            have HK := Lib.hid hkn
            clear hkn
            go_wp2
            go_ret
            rw [HK.out] at hown; rw [hm1.out]
            exact ⟨A1, c1, rfl, hown.weaken HB.out.size, below_next hb HB.out (Nat.le_refl _)⟩
    case neg =>
      have hle2 : (n : Int) ≤ (q : Int) + (l : Int) := by omega
      have hm1 := Lib.hid (show min (q + l) n = n by omega)
      go_enter Try.func164, Try.ntmps164
      go_wp2_with fail
      go_region
      all_goals
        go_wp2_with fail
        refine (l01Own_any A n c zs w0.drew hr0 (by omega) hA).mono ?_
        rintro e w1 ⟨A1, c1, rfl, hown1, hb1⟩
        have hown1' : OwnI 2 w1 w0.heap.size A1 n c1 zs := hown1
        have hb1' : Below w0.heap.size w0 w1 := below_next_drew hb1 (Below.refl _ _) (Nat.le_refl _)
        clear hown1 hb1
        have hb1k := hbx.next hb1'
        have hl0 := hb1k.c0
        go_wp2_with fail
        clear hl0
        go_loopw [10] (fun i wr => ∃ k : Nat, q ≤ k ∧ k ≤ n ∧ i = .int .i64 k ∧ OwnI 2 wr w0.heap.size A1 n c1 (chg (fun _ => v) zs q k) ∧ Below w0.heap.size w0 wr) (fun i _ => n - (intOf i).toNat)
        case atStart => exact ⟨q, Nat.le_refl _, by omega, rfl, by rw [chg_none (by omega)]; exact hown1', hb1'⟩
        case round =>
          obtain ⟨k, hk0', hk, rfl, hown, hb⟩ := hrel
          have hbk := hbx.next hb
          have hl0 := hbk.c0
          have hl3 := hbk.c3
          by_cases hlt2 : k < n
          · have hkn : k < n := by omega
            obtain ⟨g, rfl, hg1, hg2⟩ := hown.form (by omega)
            have hold := hown.cell hkn
            rw [chg_gi (by rw [L.out]; exact hkn), if_neg (by omega)] at hold
            have hfr := hown.frozen k
            obtain ⟨hbit1, hbit2⟩ := bit_at HZ.out (k := k) (by rw [L.out]; exact hkn)
            have st := hown.stored k ((fun _ => v) (gi zs k))
            rw [chg_set (by omega) (by rw [L.out]; exact hkn)] at st
            have ST := Lib.hid st
            clear st
            go_wp2
            go_roundw
            case rel => exact ⟨k + 1, by omega, by omega, by go_num, ST.out.1, hb.setCell (by simpa using hg1) _⟩
            case measure => simp [intOf]; omega
          · have hkn : k = n := by omega
            have HK := Lib.hid hkn
            clear hkn
            go_wp2
            go_ret
            rw [HK.out] at hown; rw [hm1.out]
            exact ⟨A1, c1, rfl, hown.weaken HB.out.size, below_next hb HB.out (Nat.le_refl _)⟩
end ApplyFault
end Go.Proofs.Ytlfbmedgkkfalaa
