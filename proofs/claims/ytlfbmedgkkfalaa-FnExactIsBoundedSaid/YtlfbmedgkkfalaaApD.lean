/- The walks of the program's applyFault. Conditions: lists of at most 8192 bits. -/
import Derived.Test.YtlfbmedgkkfalaaApC
import Derived.Test.YtlfbmedgkkfalaaIns
import Derived.BigQuiet
namespace Go.Proofs.Ytlfbmedgkkfalaa
open Go.RowKit
namespace ApplyFault

theorem set_any (g : Nat) (k p l v z : Int) (w : World) (hb : Blk4 w g 76 (.int .i64 k) (.int .i64 p) (.int .i64 l) (.int .i64 v)) :
    Calls Try.prog 235 #[.int .i64 z, .pointer (some ⟨g, 0, none⟩)] w fun e w' => e = .returned (.int .i64 v) ∧ w = w' := by
  have h3 := hb.c3
  go_enter Try.func235, Try.ntmps235
  go_wp2
  go_ret
  exact ⟨rfl, rfl⟩

set_option maxHeartbeats 4000000 in
theorem change_set (A1 : Option Addr) (n c1 base q t g0 : Nat) (zs : List Int) (k0 p l v : Int) (w : World) (hb4 : Blk4 w g0 76 (.int .i64 k0) (.int .i64 p) (.int .i64 l) (.int .i64 v)) (hgb : g0 < base) (hown : OwnI 2 w base A1 n c1 zs) (hn : n ≤ 8192) (_ : q ≤ 8192) (ht : t ≤ 16384) :
    Calls Try.prog 233 #[.slice A1 n c1, .int .i64 q, .int .i64 t, .func (.func 235) #[] #[.pointer (some ⟨g0, 0, none⟩)]] w fun e w' => e = .returned (.tuple #[]) ∧ OwnI 2 w' base A1 n c1 (chg (fun _ => v) zs q (min t n)) ∧ w.grownBy w' (Value.slice A1 n c1).ownBlock := by
  have L := Lib.hid hown.len
  by_cases htn : t ≤ n
  all_goals
    go_enter Try.func233, Try.ntmps233
    go_wp2
    go_loopw [8] (fun i wr => ∃ k : Nat, q ≤ k ∧ k ≤ max q (min t n) ∧ i = .int .i64 k ∧ OwnI 2 wr base A1 n c1 (chg (fun _ => v) zs q k) ∧ w.grownBy wr (Value.slice A1 n c1).ownBlock) (fun i _ => min t n - (intOf i).toNat)
    case atStart => exact ⟨q, Nat.le_refl _, by omega, rfl, by rw [chg_none (by omega)]; exact hown, World.grownBy.refl _ _⟩
    case round =>
      obtain ⟨k, hk0', hk, rfl, hown', hg⟩ := hrel
      have HK' := Lib.hid hk
      clear hk
      by_cases hlt2 : k < min t n
      · have hkn : k < n := by omega
        have hkt : k < t := by omega
        obtain ⟨g, rfl, hg1, hg2⟩ := hown'.form (by omega)
        have hold := hown'.cell hkn
        rw [chg_gi (by rw [L.out]; exact hkn), if_neg (by omega)] at hold
        have hfr := hown'.frozen k
        have hb5 : Blk4 wr g0 76 (.int .i64 k0) (.int .i64 p) (.int .i64 l) (.int .i64 v) := (hg.block g0 hb4.lt (by intro e; have he : g0 = g := Option.some.inj e; omega)).trans hb4
        go_wp2_with fail
        refine (set_any g0 k0 p l v _ _ hb5).mono ?_
        rintro e w' ⟨rfl, rfl⟩
        go_wp2
        go_roundw
        case rel =>
          have := hown'.stored k v
          rw [chg_set (by omega) (by rw [L.out]; exact hkn)] at this
          exact ⟨k + 1, by omega, by omega, by go_num, this.1, grown_tr hg this.2⟩
        case measure => simp [intOf]; omega
      · have HK := Lib.hid (show k = max q (min t n) from by have := HK'.out; omega)
        have hkn : t ≤ k ∨ n ≤ k := by omega
        go_wp2
        go_end0
        refine ⟨rfl, ?_, hg⟩
        rw [HK.out] at hown'
        by_cases hqn : q ≤ min t n
        · rwa [Nat.max_eq_right hqn] at hown'
        · rw [Nat.max_eq_left (by omega), chg_none (Nat.le_refl _)] at hown'
          rw [chg_none (by omega)]
          exact hown'
set_option maxRecDepth 20000 in
set_option maxHeartbeats 4000000 in
theorem applyFault_set (A : Option Addr) (n c : Nat) (zs : List Int) (q l : Nat) (v : Int) (w : World) (hri : RI w w.heap.size A n zs) (hn : n ≤ 8192) (hq : q ≤ 8192) (hl : l ≤ 8192) (hA : A = none → c = 0) :
    Calls Try.prog 166 #[.slice A n c, .agg #[.int .i64 6, .int .i64 q, .int .i64 l, .int .i64 v]] w (RetI 2 w n (chg (fun _ => v) zs q (min (q + l) n))) := by
  have hb0 : Below w.heap.size w (w.alloc (.cells #[.int .i64 6, .int .i64 q, .int .i64 l, .int .i64 v] 76)) := (Below.refl _ _).alloc (Nat.le_refl _) _
  have hr0 := hri.up hb0
  have hbx := Blk4.new w 76 (.int .i64 6) (.int .i64 q) (.int .i64 l) (.int .i64 v)
  obtain ⟨w0, hw0⟩ : ∃ x, w.alloc (.cells #[.int .i64 6, .int .i64 q, .int .i64 l, .int .i64 v] 76) = x := ⟨_, rfl⟩
  rw [hw0] at hb0 hr0 hbx
  have HB := Lib.hid hb0
  clear hb0
  go_enter Try.func166, Try.ntmps166
  go_wp2_with fail
  refine (SilenceFrom.clone_any A n c zs w0 hr0 (by omega) hA).mono ?_
  rintro e w1 ⟨A1, c1, rfl, hown1, hb1⟩
  have hbk := hbx.next hb1
  have e0 := hbk.c0
  have e1 := hbk.c1
  have e2 := hbk.c2
  go_wp2_with fail
  refine (change_set A1 n c1 w0.heap.size q (q + l) w.heap.size zs 6 q l v w1 hbk hbx.lt hown1 hn hq (by omega)).mono ?_
  rintro e w2 ⟨rfl, hown2, hg2⟩
  have hm : min (q + l) n = min (q + l) n := rfl
  clear hm
  go_wp2
  go_ret
  exact ⟨A1, c1, rfl, hown2.weaken HB.out.size, (below_next hb1 HB.out (Nat.le_refl _)).grown hg2 (Nat.le_trans HB.out.size hb1.size) (fun g e => Nat.le_trans HB.out.size (own_row hown1 g e).1)⟩
set_option maxRecDepth 20000 in
set_option maxHeartbeats 8000000 in
theorem applyFault_flip (A : Option Addr) (n c : Nat) (zs : List Int) (q : Nat) (w : World) (hri : RI w w.heap.size A n zs) (hn : n ≤ 8192) (hq : q ≤ 8192) (hz : isBits zs = true) (hA : A = none → c = 0) :
    Calls Try.prog 166 #[.slice A n c, .agg #[.int .i64 1, .int .i64 q, .int .i64 0, .int .i64 0]] w (RetI 2 w n (chg inv zs q (min (q + 1) n))) := by
  have hb0 : Below w.heap.size w (w.alloc (.cells #[.int .i64 1, .int .i64 q, .int .i64 0, .int .i64 0] 76)) := (Below.refl _ _).alloc (Nat.le_refl _) _
  have hr0 := hri.up hb0
  have hbx := Blk4.new w 76 (.int .i64 1) (.int .i64 q) (.int .i64 0) (.int .i64 0)
  obtain ⟨w0, hw0⟩ : ∃ x, w.alloc (.cells #[.int .i64 1, .int .i64 q, .int .i64 0, .int .i64 0] 76) = x := ⟨_, rfl⟩
  rw [hw0] at hb0 hr0 hbx
  have HB := Lib.hid hb0
  clear hb0
  go_enter Try.func166, Try.ntmps166
  go_wp2_with fail
  refine (SilenceFrom.clone_any A n c zs w0 hr0 (by omega) hA).mono ?_
  rintro e w1 ⟨A1, c1, rfl, hown1, hb1⟩
  have hbk := hbx.next hb1
  have e0 := hbk.c0
  have e1 := hbk.c1
  have e2 := hbk.c2
  have e3 := hbk.c3
  go_wp2_with fail
  refine (change_inv A1 n c1 w0.heap.size q (q + 1) zs w1 hown1 hn hq (by omega) hz).mono ?_
  rintro e w2 ⟨rfl, hown2, hg2⟩
  go_wp2
  go_ret
  exact ⟨A1, c1, rfl, hown2.weaken HB.out.size, (below_next hb1 HB.out (Nat.le_refl _)).grown hg2 (Nat.le_trans HB.out.size hb1.size) (fun g e => Nat.le_trans HB.out.size (own_row hown1 g e).1)⟩

set_option maxRecDepth 20000 in
set_option maxHeartbeats 8000000 in
theorem applyFault_inv (A : Option Addr) (n c : Nat) (zs : List Int) (q l : Nat) (w : World) (hri : RI w w.heap.size A n zs) (hn : n ≤ 8192) (hq : q ≤ 8192) (hl : l ≤ 8192) (hz : isBits zs = true) (hA : A = none → c = 0) :
    Calls Try.prog 166 #[.slice A n c, .agg #[.int .i64 2, .int .i64 q, .int .i64 l, .int .i64 0]] w (RetI 2 w n (chg inv zs q (min (q + l) n))) := by
  have hb0 : Below w.heap.size w (w.alloc (.cells #[.int .i64 2, .int .i64 q, .int .i64 l, .int .i64 0] 76)) := (Below.refl _ _).alloc (Nat.le_refl _) _
  have hr0 := hri.up hb0
  have hbx := Blk4.new w 76 (.int .i64 2) (.int .i64 q) (.int .i64 l) (.int .i64 0)
  obtain ⟨w0, hw0⟩ : ∃ x, w.alloc (.cells #[.int .i64 2, .int .i64 q, .int .i64 l, .int .i64 0] 76) = x := ⟨_, rfl⟩
  rw [hw0] at hb0 hr0 hbx
  have HB := Lib.hid hb0
  clear hb0
  go_enter Try.func166, Try.ntmps166
  go_wp2_with fail
  refine (SilenceFrom.clone_any A n c zs w0 hr0 (by omega) hA).mono ?_
  rintro e w1 ⟨A1, c1, rfl, hown1, hb1⟩
  have hbk := hbx.next hb1
  have e0 := hbk.c0
  have e1 := hbk.c1
  have e2 := hbk.c2
  have e3 := hbk.c3
  go_wp2_with fail
  refine (change_inv A1 n c1 w0.heap.size q (q + l) zs w1 hown1 hn hq (by omega) hz).mono ?_
  rintro e w2 ⟨rfl, hown2, hg2⟩
  go_wp2
  go_ret
  exact ⟨A1, c1, rfl, hown2.weaken HB.out.size, (below_next hb1 HB.out (Nat.le_refl _)).grown hg2 (Nat.le_trans HB.out.size hb1.size) (fun g e => Nat.le_trans HB.out.size (own_row hown1 g e).1)⟩

set_option maxRecDepth 20000 in
set_option maxHeartbeats 8000000 in
theorem applyFault_drop (A : Option Addr) (n c : Nat) (zs : List Int) (q l : Nat) (w : World) (hri : RI w w.heap.size A n zs) (hn : n ≤ 8192) (hq : q ≤ 8192) (hl : l ≤ 8192) (hl1 : 1 ≤ l) (hA : A = none → c = 0) :
    Calls Try.prog 166 #[.slice A n c, .agg #[.int .i64 3, .int .i64 q, .int .i64 l, .int .i64 0]] w (RetI 2 w (n - (min n (q + l) - min n q)) (zs.take q ++ zs.drop (q + l))) := by
  have hb0 : Below w.heap.size w (w.alloc (.cells #[.int .i64 3, .int .i64 q, .int .i64 l, .int .i64 0] 76)) := (Below.refl _ _).alloc (Nat.le_refl _) _
  have hr0 := hri.up hb0
  have hbx := Blk4.new w 76 (.int .i64 3) (.int .i64 q) (.int .i64 l) (.int .i64 0)
  obtain ⟨w0, hw0⟩ : ∃ x, w.alloc (.cells #[.int .i64 3, .int .i64 q, .int .i64 l, .int .i64 0] 76) = x := ⟨_, rfl⟩
  rw [hw0] at hb0 hr0 hbx
  have HB := Lib.hid hb0
  clear hb0
  have L := Lib.hid hri.len
  obtain ⟨F, hF⟩ : ∃ x, min n q = x := ⟨_, rfl⟩
  obtain ⟨T, hT⟩ : ∃ x, min n (q + l) = x := ⟨_, rfl⟩
  have HR := Lib.hid (show zs.take q ++ zs.drop (q + l) = zs.take F ++ zs.drop T from
    congr (congrArg _ ((take_min zs q).trans (by rw [L.out, hF]))) ((drop_min zs (q + l)).trans (by rw [L.out, hT])))
  rw [HR.out, hF, hT]
  by_cases hlt : q < n
  · by_cases htn : q + l < n
    · skip
      have hle : ¬ (n ≤ q) := by omega
      have hle3 : ¬ ((n : Int) ≤ (q : Int) + (l : Int)) := by omega
      have hFF : F = q := by omega
      have hTT : T = q + l := by omega
      have HFF := Lib.hid hFF
      have HTT := Lib.hid hTT
      clear hF hT hFF hTT
      go_enter Try.func166, Try.ntmps166
      go_wp2_with fail
      refine (SilenceFrom.clone_any A n c zs w0 hr0 (by omega) hA).mono ?_
      rintro e w1 ⟨A1, c1, rfl, hown1, hb1⟩
      have hbk := hbx.next hb1
      have e0 := hbk.c0
      have e1 := hbk.c1
      have e2 := hbk.c2
      have e3 := hbk.c3
      go_wp2_with fail
      refine (delete_any A1 n c1 (q) (q + l) w0.heap.size zs w1 hown1 (by omega) (by omega) (by omega)).mono ?_
      rintro e w2 ⟨he, hown2, hg2⟩
      obtain ⟨K, hK⟩ : ∃ K, n - ((q + l) - (q)) = K := ⟨_, rfl⟩
      rw [hK] at he hown2
      subst he
      have HK := Lib.hid hK
      clear hK
      go_wp2
      go_ret
      rw [HFF.out, HTT.out, HK.out]
      exact ⟨A1, c1, rfl, hown2.weaken HB.out.size, (below_next hb1 HB.out (Nat.le_refl _)).grown hg2 (Nat.le_trans HB.out.size hb1.size) (fun g e => Nat.le_trans HB.out.size (own_row hown1 g e).1)⟩
    · skip
      have hle : ¬ (n ≤ q) := by omega
      have hle3 : (n : Int) ≤ (q : Int) + (l : Int) := by omega
      have hFF : F = q := by omega
      have hTT : T = n := by omega
      have HFF := Lib.hid hFF
      have HTT := Lib.hid hTT
      clear hF hT hFF hTT
      go_enter Try.func166, Try.ntmps166
      go_wp2_with fail
      refine (SilenceFrom.clone_any A n c zs w0 hr0 (by omega) hA).mono ?_
      rintro e w1 ⟨A1, c1, rfl, hown1, hb1⟩
      have hbk := hbx.next hb1
      have e0 := hbk.c0
      have e1 := hbk.c1
      have e2 := hbk.c2
      have e3 := hbk.c3
      go_wp2_with fail
      refine (delete_any A1 n c1 (q) (n) w0.heap.size zs w1 hown1 (by omega) (by omega) (by omega)).mono ?_
      rintro e w2 ⟨he, hown2, hg2⟩
      obtain ⟨K, hK⟩ : ∃ K, n - ((n) - (q)) = K := ⟨_, rfl⟩
      rw [hK] at he hown2
      subst he
      have HK := Lib.hid hK
      clear hK
      go_wp2
      go_ret
      rw [HFF.out, HTT.out, HK.out]
      exact ⟨A1, c1, rfl, hown2.weaken HB.out.size, (below_next hb1 HB.out (Nat.le_refl _)).grown hg2 (Nat.le_trans HB.out.size hb1.size) (fun g e => Nat.le_trans HB.out.size (own_row hown1 g e).1)⟩
  · skip
    have hle : n ≤ q := by omega
    have hle3 : (n : Int) ≤ (q : Int) + (l : Int) := by omega
    have hFF : F = n := by omega
    have hTT : T = n := by omega
    have HFF := Lib.hid hFF
    have HTT := Lib.hid hTT
    clear hF hT hFF hTT
    go_enter Try.func166, Try.ntmps166
    go_wp2_with fail
    refine (SilenceFrom.clone_any A n c zs w0 hr0 (by omega) hA).mono ?_
    rintro e w1 ⟨A1, c1, rfl, hown1, hb1⟩
    have hbk := hbx.next hb1
    have e0 := hbk.c0
    have e1 := hbk.c1
    have e2 := hbk.c2
    have e3 := hbk.c3
    go_wp2_with fail
    refine (delete_any A1 n c1 (n) (n) w0.heap.size zs w1 hown1 (by omega) (by omega) (by omega)).mono ?_
    rintro e w2 ⟨he, hown2, hg2⟩
    obtain ⟨K, hK⟩ : ∃ K, n - ((n) - (n)) = K := ⟨_, rfl⟩
    rw [hK] at he hown2
    subst he
    have HK := Lib.hid hK
    clear hK
    go_wp2
    go_ret
    rw [HFF.out, HTT.out, HK.out]
    exact ⟨A1, c1, rfl, hown2.weaken HB.out.size, (below_next hb1 HB.out (Nat.le_refl _)).grown hg2 (Nat.le_trans HB.out.size hb1.size) (fun g e => Nat.le_trans HB.out.size (own_row hown1 g e).1)⟩

set_option maxRecDepth 20000 in
set_option maxHeartbeats 8000000 in
theorem applyFault_far (A : Option Addr) (n c : Nat) (zs : List Int) (q l : Nat) (v : Int) (w : World) (hri : RI w w.heap.size A n zs) (hn : n ≤ 8192) (hq : q ≤ 8192) (_ : l ≤ 8192) (hqn : n < q) (hA : A = none → c = 0) :
    Calls Try.prog 166 #[.slice A n c, .agg #[.int .i64 4, .int .i64 q, .int .i64 l, .int .i64 v]] w (RetI 2 w n zs) := by
  have hb0 : Below w.heap.size w (w.alloc (.cells #[.int .i64 4, .int .i64 q, .int .i64 l, .int .i64 v] 76)) := (Below.refl _ _).alloc (Nat.le_refl _) _
  have hr0 := hri.up hb0
  have hbx := Blk4.new w 76 (.int .i64 4) (.int .i64 q) (.int .i64 l) (.int .i64 v)
  obtain ⟨w0, hw0⟩ : ∃ x, w.alloc (.cells #[.int .i64 4, .int .i64 q, .int .i64 l, .int .i64 v] 76) = x := ⟨_, rfl⟩
  rw [hw0] at hb0 hr0 hbx
  have HB := Lib.hid hb0
  clear hb0
  have hgt : ¬ ((q : Int) ≤ (n : Int)) := by omega
  have hnn : (n : Int) ≤ 8192 := by omega
  go_enter Try.func166, Try.ntmps166
  go_wp2_with fail
  refine (SilenceFrom.clone_any A n c zs w0 hr0 (by omega) hA).mono ?_
  rintro e w1 ⟨A1, c1, rfl, hown1, hb1⟩
  have hbk := hbx.next hb1
  have e0 := hbk.c0
  have e1 := hbk.c1
  have e2 := hbk.c2
  have e3 := hbk.c3
  have hnc := hown1.cap.1
  go_wp2
  go_ret
  exact ⟨A1, c1, rfl, hown1.weaken HB.out.size, below_next hb1 HB.out (Nat.le_refl _)⟩

end ApplyFault
end Go.Proofs.Ytlfbmedgkkfalaa
