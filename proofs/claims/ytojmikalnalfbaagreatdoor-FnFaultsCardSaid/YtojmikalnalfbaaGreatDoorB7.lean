/- Walks, laws and small notions for the claims of this seat, several texts as one (ApD, ApE, Ap). Conditions: as each theorem states them. -/
import Derived.Test.YtojmikalnalfbaaGreatDoorB6
import Derived.BigQuiet
import Derived.Deep.DeepCutAuto
import Derived.Test.YtojmikalnalfbaaGreatDoorB4
namespace Go.Proofs.YtojmikalnalfbaaGreatDoor
open Go.RowKit
namespace ApplyFault

theorem set_any (g : Nat) (k p l v z : Int) (w : World) (hb : Blk4 w g 26 (.int .i64 k) (.int .i64 p) (.int .i64 l) (.int .i64 v)) :
    Calls Tryz.prog 65 #[.int .i64 z, .pointer (some ⟨g, 0, none⟩)] w fun e w' => e = .returned (.int .i64 v) ∧ w = w' := by
  have h3 := hb.c3
  go_enter Tryz.func65, Tryz.ntmps65
  go_wp2
  go_ret
  exact ⟨rfl, rfl⟩

set_option maxHeartbeats 4000000 in
theorem change_set (A1 : Option Addr) (n c1 base q t g0 : Nat) (zs : List Int) (k0 p l v : Int) (w : World) (hb4 : Blk4 w g0 26 (.int .i64 k0) (.int .i64 p) (.int .i64 l) (.int .i64 v)) (hgb : g0 < base) (hown : OwnI 2 w base A1 n c1 zs) (hn : n ≤ 8192) (_ : q ≤ 8192) (ht : t ≤ 16384) :
    Calls Tryz.prog 60 #[.slice A1 n c1, .int .i64 q, .int .i64 t, .func (.func 65) #[] #[.pointer (some ⟨g0, 0, none⟩)]] w fun e w' => e = .returned (.tuple #[]) ∧ OwnI 2 w' base A1 n c1 (chg (fun _ => v) zs q (min t n)) ∧ w.grownBy w' (Value.slice A1 n c1).ownBlock := by
  have L := Lib.hid hown.len
  by_cases htn : t ≤ n
  all_goals
    go_enter Tryz.func60, Tryz.ntmps60
    go_wp2
    go_loopw [8] (fun i wr => ∃ k : Nat, q ≤ k ∧ k ≤ max q (min t n) ∧ i = .int .i64 k ∧ OwnI 2 wr base A1 n c1 (chg (fun _ => v) zs q k) ∧ w.grownBy wr (Value.slice A1 n c1).ownBlock) (fun i _ => min t n - (intOf i).toNat)
    case atStart => exact ⟨q, Nat.le_refl _, by omega, rfl, by rw [chg_none (by omega)]; exact hown, World.grownBy.refl _ _⟩
    case round =>
      obtain ⟨k, hk0', hk, rfl, hown', hg⟩ := hrel
      have HK' := Lib.hid hk
      clear hk
      by_cases hlt2 : k < min t n
      · have hkn : k < n := by omega
        have hkt : k < t := by omega
        obtain ⟨g, rfl, hg1, hg2⟩ := hown'.form (by omega)
        have hold := hown'.cell hkn
        rw [chg_gi (by rw [L.out]; exact hkn), if_neg (by omega)] at hold
        have hfr := hown'.frozen k
        have hb5 : Blk4 wr g0 26 (.int .i64 k0) (.int .i64 p) (.int .i64 l) (.int .i64 v) := (hg.block g0 hb4.lt (by intro e; have he : g0 = g := Option.some.inj e; omega)).trans hb4
        go_wp2_with fail
        refine (set_any g0 k0 p l v _ _ hb5).mono ?_
        rintro e w' ⟨rfl, rfl⟩
        go_wp2
        go_roundw
        case rel =>
          have := hown'.stored k v
          rw [chg_set (by omega) (by rw [L.out]; exact hkn)] at this
          exact ⟨k + 1, by omega, by omega, by go_num, this.1, grown_tr hg this.2⟩
        case measure => simp [intOf]; omega
      · have HK := Lib.hid (show k = max q (min t n) from by have := HK'.out; omega)
        have hkn : t ≤ k ∨ n ≤ k := by omega
        go_wp2
        go_end0
        refine ⟨rfl, ?_, hg⟩
        rw [HK.out] at hown'
        by_cases hqn : q ≤ min t n
        · rwa [Nat.max_eq_right hqn] at hown'
        · rw [Nat.max_eq_left (by omega), chg_none (Nat.le_refl _)] at hown'
          rw [chg_none (by omega)]
          exact hown'
set_option maxRecDepth 20000 in
set_option maxHeartbeats 4000000 in
theorem applyFault_set (A : Option Addr) (n c : Nat) (zs : List Int) (q l : Nat) (v : Int) (w : World) (hri : RI w w.heap.size A n zs) (hn : n ≤ 8192) (hq : q ≤ 8192) (hl : l ≤ 8192) (hA : A = none → c = 0) :
    Calls Tryz.prog 34 #[.slice A n c, .agg #[.int .i64 6, .int .i64 q, .int .i64 l, .int .i64 v]] w (RetI 2 w n (chg (fun _ => v) zs q (min (q + l) n))) := by
  have hb0 : Below w.heap.size w (w.alloc (.cells #[.int .i64 6, .int .i64 q, .int .i64 l, .int .i64 v] 26)) := (Below.refl _ _).alloc (Nat.le_refl _) _
  have hr0 := hri.up hb0
  have hbx := Blk4.new w 26 (.int .i64 6) (.int .i64 q) (.int .i64 l) (.int .i64 v)
  obtain ⟨w0, hw0⟩ : ∃ x, w.alloc (.cells #[.int .i64 6, .int .i64 q, .int .i64 l, .int .i64 v] 26) = x := ⟨_, rfl⟩
  rw [hw0] at hb0 hr0 hbx
  have HB := Lib.hid hb0
  clear hb0
  go_enter Tryz.func34, Tryz.ntmps34
  go_wp2_with fail
  refine (SilenceFrom.clone_any A n c zs w0 hr0 (by omega) hA).mono ?_
  rintro e w1 ⟨A1, c1, rfl, hown1, hb1⟩
  have hbk := hbx.next hb1
  have e0 := hbk.c0
  have e1 := hbk.c1
  have e2 := hbk.c2
  go_wp2_with fail
  refine (change_set A1 n c1 w0.heap.size q (q + l) w.heap.size zs 6 q l v w1 hbk hbx.lt hown1 hn hq (by omega)).mono ?_
  rintro e w2 ⟨rfl, hown2, hg2⟩
  have hm : min (q + l) n = min (q + l) n := rfl
  clear hm
  go_wp2
  go_ret
  exact ⟨A1, c1, rfl, hown2.weaken HB.out.size, (below_next hb1 HB.out (Nat.le_refl _)).grown hg2 (Nat.le_trans HB.out.size hb1.size) (fun g e => Nat.le_trans HB.out.size (own_row hown1 g e).1)⟩
set_option maxRecDepth 20000 in
set_option maxHeartbeats 8000000 in
theorem applyFault_flip (A : Option Addr) (n c : Nat) (zs : List Int) (q : Nat) (w : World) (hri : RI w w.heap.size A n zs) (hn : n ≤ 8192) (hq : q ≤ 8192) (hz : isBits zs = true) (hA : A = none → c = 0) :
    Calls Tryz.prog 34 #[.slice A n c, .agg #[.int .i64 1, .int .i64 q, .int .i64 0, .int .i64 0]] w (RetI 2 w n (chg inv zs q (min (q + 1) n))) := by
  have hb0 : Below w.heap.size w (w.alloc (.cells #[.int .i64 1, .int .i64 q, .int .i64 0, .int .i64 0] 26)) := (Below.refl _ _).alloc (Nat.le_refl _) _
  have hr0 := hri.up hb0
  have hbx := Blk4.new w 26 (.int .i64 1) (.int .i64 q) (.int .i64 0) (.int .i64 0)
  obtain ⟨w0, hw0⟩ : ∃ x, w.alloc (.cells #[.int .i64 1, .int .i64 q, .int .i64 0, .int .i64 0] 26) = x := ⟨_, rfl⟩
  rw [hw0] at hb0 hr0 hbx
  have HB := Lib.hid hb0
  clear hb0
  go_enter Tryz.func34, Tryz.ntmps34
  go_wp2_with fail
  refine (SilenceFrom.clone_any A n c zs w0 hr0 (by omega) hA).mono ?_
  rintro e w1 ⟨A1, c1, rfl, hown1, hb1⟩
  have hbk := hbx.next hb1
  have e0 := hbk.c0
  have e1 := hbk.c1
  have e2 := hbk.c2
  have e3 := hbk.c3
  go_wp2_with fail
  refine (change_inv A1 n c1 w0.heap.size q (q + 1) zs w1 hown1 hn hq (by omega) hz).mono ?_
  rintro e w2 ⟨rfl, hown2, hg2⟩
  go_wp2
  go_ret
  exact ⟨A1, c1, rfl, hown2.weaken HB.out.size, (below_next hb1 HB.out (Nat.le_refl _)).grown hg2 (Nat.le_trans HB.out.size hb1.size) (fun g e => Nat.le_trans HB.out.size (own_row hown1 g e).1)⟩

set_option maxRecDepth 20000 in
set_option maxHeartbeats 8000000 in
theorem applyFault_inv (A : Option Addr) (n c : Nat) (zs : List Int) (q l : Nat) (w : World) (hri : RI w w.heap.size A n zs) (hn : n ≤ 8192) (hq : q ≤ 8192) (hl : l ≤ 8192) (hz : isBits zs = true) (hA : A = none → c = 0) :
    Calls Tryz.prog 34 #[.slice A n c, .agg #[.int .i64 2, .int .i64 q, .int .i64 l, .int .i64 0]] w (RetI 2 w n (chg inv zs q (min (q + l) n))) := by
  have hb0 : Below w.heap.size w (w.alloc (.cells #[.int .i64 2, .int .i64 q, .int .i64 l, .int .i64 0] 26)) := (Below.refl _ _).alloc (Nat.le_refl _) _
  have hr0 := hri.up hb0
  have hbx := Blk4.new w 26 (.int .i64 2) (.int .i64 q) (.int .i64 l) (.int .i64 0)
  obtain ⟨w0, hw0⟩ : ∃ x, w.alloc (.cells #[.int .i64 2, .int .i64 q, .int .i64 l, .int .i64 0] 26) = x := ⟨_, rfl⟩
  rw [hw0] at hb0 hr0 hbx
  have HB := Lib.hid hb0
  clear hb0
  go_enter Tryz.func34, Tryz.ntmps34
  go_wp2_with fail
  refine (SilenceFrom.clone_any A n c zs w0 hr0 (by omega) hA).mono ?_
  rintro e w1 ⟨A1, c1, rfl, hown1, hb1⟩
  have hbk := hbx.next hb1
  have e0 := hbk.c0
  have e1 := hbk.c1
  have e2 := hbk.c2
  have e3 := hbk.c3
  go_wp2_with fail
  refine (change_inv A1 n c1 w0.heap.size q (q + l) zs w1 hown1 hn hq (by omega) hz).mono ?_
  rintro e w2 ⟨rfl, hown2, hg2⟩
  go_wp2
  go_ret
  exact ⟨A1, c1, rfl, hown2.weaken HB.out.size, (below_next hb1 HB.out (Nat.le_refl _)).grown hg2 (Nat.le_trans HB.out.size hb1.size) (fun g e => Nat.le_trans HB.out.size (own_row hown1 g e).1)⟩

set_option maxRecDepth 20000 in
set_option maxHeartbeats 8000000 in
theorem applyFault_drop (A : Option Addr) (n c : Nat) (zs : List Int) (q l : Nat) (w : World) (hri : RI w w.heap.size A n zs) (hn : n ≤ 8192) (hq : q ≤ 8192) (hl : l ≤ 8192) (hl1 : 1 ≤ l) (hA : A = none → c = 0) :
    Calls Tryz.prog 34 #[.slice A n c, .agg #[.int .i64 3, .int .i64 q, .int .i64 l, .int .i64 0]] w (RetI 2 w (n - (min n (q + l) - min n q)) (zs.take q ++ zs.drop (q + l))) := by
  have hb0 : Below w.heap.size w (w.alloc (.cells #[.int .i64 3, .int .i64 q, .int .i64 l, .int .i64 0] 26)) := (Below.refl _ _).alloc (Nat.le_refl _) _
  have hr0 := hri.up hb0
  have hbx := Blk4.new w 26 (.int .i64 3) (.int .i64 q) (.int .i64 l) (.int .i64 0)
  obtain ⟨w0, hw0⟩ : ∃ x, w.alloc (.cells #[.int .i64 3, .int .i64 q, .int .i64 l, .int .i64 0] 26) = x := ⟨_, rfl⟩
  rw [hw0] at hb0 hr0 hbx
  have HB := Lib.hid hb0
  clear hb0
  have L := Lib.hid hri.len
  obtain ⟨F, hF⟩ : ∃ x, min n q = x := ⟨_, rfl⟩
  obtain ⟨T, hT⟩ : ∃ x, min n (q + l) = x := ⟨_, rfl⟩
  have HR := Lib.hid (show zs.take q ++ zs.drop (q + l) = zs.take F ++ zs.drop T from
    congr (congrArg _ ((take_min zs q).trans (by rw [L.out, hF]))) ((drop_min zs (q + l)).trans (by rw [L.out, hT])))
  rw [HR.out, hF, hT]
  by_cases hlt : q < n
  · by_cases htn : q + l < n
    · skip
      have hle : ¬ (n ≤ q) := by omega
      have hle3 : ¬ ((n : Int) ≤ (q : Int) + (l : Int)) := by omega
      have hFF : F = q := by omega
      have hTT : T = q + l := by omega
      have HFF := Lib.hid hFF
      have HTT := Lib.hid hTT
      clear hF hT hFF hTT
      go_enter Tryz.func34, Tryz.ntmps34
      go_wp2_with fail
      refine (SilenceFrom.clone_any A n c zs w0 hr0 (by omega) hA).mono ?_
      rintro e w1 ⟨A1, c1, rfl, hown1, hb1⟩
      have hbk := hbx.next hb1
      have e0 := hbk.c0
      have e1 := hbk.c1
      have e2 := hbk.c2
      have e3 := hbk.c3
      go_wp2_with fail
      refine (delete_any A1 n c1 (q) (q + l) w0.heap.size zs w1 hown1 (by omega) (by omega) (by omega)).mono ?_
      rintro e w2 ⟨he, hown2, hg2⟩
      obtain ⟨K, hK⟩ : ∃ K, n - ((q + l) - (q)) = K := ⟨_, rfl⟩
      rw [hK] at he hown2
      subst he
      have HK := Lib.hid hK
      clear hK
      go_wp2
      go_ret
      rw [HFF.out, HTT.out, HK.out]
      exact ⟨A1, c1, rfl, hown2.weaken HB.out.size, (below_next hb1 HB.out (Nat.le_refl _)).grown hg2 (Nat.le_trans HB.out.size hb1.size) (fun g e => Nat.le_trans HB.out.size (own_row hown1 g e).1)⟩
    · skip
      have hle : ¬ (n ≤ q) := by omega
      have hle3 : (n : Int) ≤ (q : Int) + (l : Int) := by omega
      have hFF : F = q := by omega
      have hTT : T = n := by omega
      have HFF := Lib.hid hFF
      have HTT := Lib.hid hTT
      clear hF hT hFF hTT
      go_enter Tryz.func34, Tryz.ntmps34
      go_wp2_with fail
      refine (SilenceFrom.clone_any A n c zs w0 hr0 (by omega) hA).mono ?_
      rintro e w1 ⟨A1, c1, rfl, hown1, hb1⟩
      have hbk := hbx.next hb1
      have e0 := hbk.c0
      have e1 := hbk.c1
      have e2 := hbk.c2
      have e3 := hbk.c3
      go_wp2_with fail
      refine (delete_any A1 n c1 (q) (n) w0.heap.size zs w1 hown1 (by omega) (by omega) (by omega)).mono ?_
      rintro e w2 ⟨he, hown2, hg2⟩
      obtain ⟨K, hK⟩ : ∃ K, n - ((n) - (q)) = K := ⟨_, rfl⟩
      rw [hK] at he hown2
      subst he
      have HK := Lib.hid hK
      clear hK
      go_wp2
      go_ret
      rw [HFF.out, HTT.out, HK.out]
      exact ⟨A1, c1, rfl, hown2.weaken HB.out.size, (below_next hb1 HB.out (Nat.le_refl _)).grown hg2 (Nat.le_trans HB.out.size hb1.size) (fun g e => Nat.le_trans HB.out.size (own_row hown1 g e).1)⟩
  · skip
    have hle : n ≤ q := by omega
    have hle3 : (n : Int) ≤ (q : Int) + (l : Int) := by omega
    have hFF : F = n := by omega
    have hTT : T = n := by omega
    have HFF := Lib.hid hFF
    have HTT := Lib.hid hTT
    clear hF hT hFF hTT
    go_enter Tryz.func34, Tryz.ntmps34
    go_wp2_with fail
    refine (SilenceFrom.clone_any A n c zs w0 hr0 (by omega) hA).mono ?_
    rintro e w1 ⟨A1, c1, rfl, hown1, hb1⟩
    have hbk := hbx.next hb1
    have e0 := hbk.c0
    have e1 := hbk.c1
    have e2 := hbk.c2
    have e3 := hbk.c3
    go_wp2_with fail
    refine (delete_any A1 n c1 (n) (n) w0.heap.size zs w1 hown1 (by omega) (by omega) (by omega)).mono ?_
    rintro e w2 ⟨he, hown2, hg2⟩
    obtain ⟨K, hK⟩ : ∃ K, n - ((n) - (n)) = K := ⟨_, rfl⟩
    rw [hK] at he hown2
    subst he
    have HK := Lib.hid hK
    clear hK
    go_wp2
    go_ret
    rw [HFF.out, HTT.out, HK.out]
    exact ⟨A1, c1, rfl, hown2.weaken HB.out.size, (below_next hb1 HB.out (Nat.le_refl _)).grown hg2 (Nat.le_trans HB.out.size hb1.size) (fun g e => Nat.le_trans HB.out.size (own_row hown1 g e).1)⟩

set_option maxRecDepth 20000 in
set_option maxHeartbeats 8000000 in
theorem applyFault_far (A : Option Addr) (n c : Nat) (zs : List Int) (q l : Nat) (v : Int) (w : World) (hri : RI w w.heap.size A n zs) (hn : n ≤ 8192) (hq : q ≤ 8192) (_ : l ≤ 8192) (hqn : n < q) (hA : A = none → c = 0) :
    Calls Tryz.prog 34 #[.slice A n c, .agg #[.int .i64 4, .int .i64 q, .int .i64 l, .int .i64 v]] w (RetI 2 w n zs) := by
  have hb0 : Below w.heap.size w (w.alloc (.cells #[.int .i64 4, .int .i64 q, .int .i64 l, .int .i64 v] 26)) := (Below.refl _ _).alloc (Nat.le_refl _) _
  have hr0 := hri.up hb0
  have hbx := Blk4.new w 26 (.int .i64 4) (.int .i64 q) (.int .i64 l) (.int .i64 v)
  obtain ⟨w0, hw0⟩ : ∃ x, w.alloc (.cells #[.int .i64 4, .int .i64 q, .int .i64 l, .int .i64 v] 26) = x := ⟨_, rfl⟩
  rw [hw0] at hb0 hr0 hbx
  have HB := Lib.hid hb0
  clear hb0
  have hgt : ¬ ((q : Int) ≤ (n : Int)) := by omega
  have hnn : (n : Int) ≤ 8192 := by omega
  go_enter Tryz.func34, Tryz.ntmps34
  go_wp2_with fail
  refine (SilenceFrom.clone_any A n c zs w0 hr0 (by omega) hA).mono ?_
  rintro e w1 ⟨A1, c1, rfl, hown1, hb1⟩
  have hbk := hbx.next hb1
  have e0 := hbk.c0
  have e1 := hbk.c1
  have e2 := hbk.c2
  have e3 := hbk.c3
  have hnc := hown1.cap.1
  go_wp2
  go_ret
  exact ⟨A1, c1, rfl, hown1.weaken HB.out.size, below_next hb1 HB.out (Nat.le_refl _)⟩

end ApplyFault
end Go.Proofs.YtojmikalnalfbaaGreatDoor

namespace Go.Proofs.YtojmikalnalfbaaGreatDoor
open Go.RowKit
theorem OwnI.lies {T : TypeId} {w : World} {base n c : Nat} {A : Option Addr} {zs : List Int} (h : OwnI T w base A n c zs) (hn : 0 < n) : ∃ g, A = some ⟨g, 0, none⟩ ∧ base ≤ g ∧ Lies w g 0 n zs := by
  obtain ⟨g, rfl, hb, _⟩ := h.form hn
  obtain ⟨cur, hh, _⟩ := h.open
  exact ⟨g, rfl, hb, h.len, ⟨_, _, hh⟩, fun j hj => by rw [Nat.zero_add]; exact h.cell hj⟩
namespace ApplyFault
theorem repeat_fn : (Tryz.f63.name == "runtime.NumGoroutine") = false ∧ Tryz.f63.body.isSome = true := ⟨by kernel_rfl, by kernel_rfl⟩
theorem insert_fn : (Tryz.f62.name == "runtime.NumGoroutine") = false ∧ Tryz.f62.body.isSome = true := ⟨by kernel_rfl, by kernel_rfl⟩

set_option maxRecDepth 200000 in
set_option maxHeartbeats 8000000 in
theorem applyFault_ins (A : Option Addr) (n c : Nat) (zs : List Int) (q l : Nat) (v : Int) (w : World) (hri : RI w w.heap.size A n zs) (hn : n ≤ 8192) (hq : q ≤ 8192) (hl : l ≤ 8192) (hl1 : 1 ≤ l) (hA : A = none → c = 0) (hqn : q ≤ n) :
    Calls Tryz.prog 34 #[.slice A n c, .agg #[.int .i64 4, .int .i64 q, .int .i64 l, .int .i64 v]] w (RetI 2 w (min 8192 (n + l)) ((zs.take q ++ List.replicate l v ++ zs.drop q).take 8192)) := by
  have L := Lib.hid hri.len
  obtain ⟨N0, hN0⟩ : ∃ x, min 8192 (n + l) = x := ⟨_, rfl⟩
  obtain ⟨R0, hR0⟩ : ∃ x, zs.take q ++ List.replicate l v ++ zs.drop q = x := ⟨_, rfl⟩
  rw [hN0, hR0]
  have HN0 := Lib.hid hN0
  have HR0 := Lib.hid hR0
  clear hN0 hR0
  have hb0 : Below w.heap.size w (w.alloc (.cells #[.int .i64 4, .int .i64 q, .int .i64 l, .int .i64 v] 26)) := (Below.refl _ _).alloc (Nat.le_refl _) _
  have hr0 := hri.up hb0
  have hbx := Blk4.new w 26 (.int .i64 4) (.int .i64 q) (.int .i64 l) (.int .i64 v)
  obtain ⟨w0, hw0⟩ : ∃ x, w.alloc (.cells #[.int .i64 4, .int .i64 q, .int .i64 l, .int .i64 v] 26) = x := ⟨_, rfl⟩
  rw [hw0] at hb0 hr0 hbx
  have HB := Lib.hid hb0
  clear hb0
  have hle : (q : Int) ≤ (n : Int) := by omega
  go_enter Tryz.func34, Tryz.ntmps34
  go_wp2_with fail
  refine (SilenceFrom.clone_any A n c zs w0 hr0 (by omega) hA).mono ?_
  rintro e w1 ⟨A1, c1, rfl, hown1, hb1⟩
  have hbk := hbx.next hb1
  have e0 := hbk.c0
  have e1 := hbk.c1
  have e2 := hbk.c2
  have e3 := hbk.c3
  have HO1 := Lib.hid hown1
  have HB1 := Lib.hid hb1
  clear hown1 hb1
  go_upto_region 12 with fail
  go_cut [5] (fun v5 wc => ∃ A2 c2, v5 = .slice A2 (n + l) c2 ∧ OwnI 2 wc w0.heap.size A2 (n + l) c2 R0 ∧ Below w0.heap.size w0 wc)
  case first =>
    go_region_law (first
      | ((refine step_call 63 Tryz.func63 repeat_fn.1 repeat_fn.2 rfl rfl #[.slice none 0 0, .int .i64 v, .int .i64 l] ?_ ?_); (simp [Act.eval]); (refine (repeat_any l v _ (by omega)).mono ?_); rintro e w5 ⟨A5, c5, rfl, hown5, hb5⟩; (refine ⟨_, rfl, ?_⟩); (have hbx5 : Blk4 w5 w.heap.size 26 (.int .i64 4) (.int .i64 q) (.int .i64 l) (.int .i64 v) := Blk4.next_drew hb5 hbk); have hx51 := hbx5.c1; (obtain ⟨g5, rfl, hg5, hl5⟩ := hown5.lies (by omega)); have HL5 := Lib.hid hl5; have HB5 := Lib.hid (below_next_drew hb5 (Below.refl w1.heap.size w1) (Nat.le_refl _)); clear hown5 hb5 hl5)
      | ((refine step_call 62 Tryz.func62 insert_fn.1 insert_fn.2 rfl rfl #[.slice A1 n c1, .int .i64 q, .slice (some ⟨g5, 0, none⟩) l c5] ?_ ?_); (simp [Act.eval]); (refine (insert_any A1 n c1 q g5 0 l c5 w0.heap.size zs (List.replicate l v) _ (by exact HO1.out.below HB5.out) (by exact HL5.out) (by intro g6 h6; have := (own_row HO1.out g6 h6).2; simp at hg5; omega) hqn (by omega) (by exact Nat.le_trans HB1.out.size HB5.out.size)).mono ?_); rintro e w6 ⟨A6, c6, rfl, hown6, hg6⟩; (refine ⟨_, rfl, ?_⟩); have HO6 := Lib.hid hown6; have HG6 := Lib.hid hg6; clear hown6 hg6))
    all_goals
      go_wp2_with fail
      go_meet
      refine ⟨A6, c6, rfl, ?_, ?_⟩
      · have := HO6.out
        rwa [HR0.out] at this
      · exact (below_next HB5.out HB1.out (Nat.le_refl _)).grown HG6.out (Nat.le_trans HB1.out.size HB5.out.size) (fun g e => (own_row HO1.out g e).1)
  case rest =>
    obtain ⟨A2, c2, rfl, hown2, hbb⟩ := hcut
    have HO2 := Lib.hid hown2
    have HBB := Lib.hid hbb
    have hcap := hown2.cap.1
    clear hown2 hbb
    by_cases hbig : n + l < 8192
    case pos =>
      have hbj : ¬ (8192 ≤ (n : Int) + (l : Int)) := by omega
      have hcap2 : (n : Int) + (l : Int) ≤ (c2 : Int) := by omega
      go_wp2
      go_ret
      have e1 := HO2.out
      have e2 : N0 = n + l := by have := HN0.out; omega
      rw [e2, List.take_of_length_le (by rw [e1.len]; omega)]
      exact ⟨A2, c2, rfl, e1.weaken HB.out.size, HB.out.trans (HBB.out.mono HB.out.size)⟩
    case neg =>
      have hbj : (8192 : Int) ≤ (n : Int) + (l : Int) := by omega
      have hcap2 : 8192 ≤ c2 := by omega
      go_wp2
      go_ret
      have e1 := HO2.out.cut (k := 8192) (by omega)
      have e2 : N0 = 8192 := by have := HN0.out; omega
      rw [e2]
      exact ⟨A2, c2, rfl, e1.weaken HB.out.size, HB.out.trans (HBB.out.mono HB.out.size)⟩
end ApplyFault
end Go.Proofs.YtojmikalnalfbaaGreatDoor

namespace Go.Proofs.YtojmikalnalfbaaGreatDoor
open Go.RowKit

theorem isFault_parts {f : Flt} (h : isFault f = true) : ∃ q l : Nat, f.pos = q ∧ f.len = l ∧ q ≤ 8192 ∧ l ≤ 8192 ∧ (f.kd = 1 ∧ l = 0 ∧ f.val = 0 ∨ f.kd = 2 ∧ 1 ≤ l ∧ f.val = 0 ∨ f.kd = 3 ∧ 1 ≤ l ∧ f.val = 0 ∨ f.kd = 4 ∧ 1 ≤ l ∨ f.kd = 5 ∧ l = 0 ∧ f.val = 0 ∨ f.kd = 6 ∧ 1 ≤ l) := by
  have h1 := isFault_kd h
  have h2 := isFault_pos h
  have h3 := isFault_len h
  refine ⟨f.pos.toNat, f.len.toNat, by omega, by omega, by omega, by omega, ?_⟩
  unfold isFault at h
  simp only [Bool.and_eq_true] at h
  obtain ⟨_, _, ha, hb⟩ := h
  have hk : f.kd = 1 ∨ f.kd = 2 ∨ f.kd = 3 ∨ f.kd = 4 ∨ f.kd = 5 ∨ f.kd = 6 := by omega
  rcases hk with e | e | e | e | e | e <;> rw [e] at ha hb ⊢ <;> simp [hasLen, hasVal, inR] at ha hb ⊢ <;> omega

theorem isBits_len {zs : List Int} (h : isBits zs = true) : zs.length ≤ 8192 := (isBits_iff.1 h).1

namespace ApplyFault

theorem l24Apply_any (A : Option Addr) (n c : Nat) (zs : List Int) (k p l v : Int) (w : World) (hri : RI w w.heap.size A n zs) (hz : isBits zs = true) (hf : isFault ⟨k, p, l, v⟩ = true) (hA : Pl A c) (hnc : n ≤ c) (hcm : c ≤ maxLen) :
    Calls Tryz.prog 36 #[.slice A n c, .agg #[.int .i64 k, .int .i64 p, .int .i64 l, .int .i64 v]] w (RetI 2 w (lenF n ⟨k, p, l, v⟩) (appF zs ⟨k, p, l, v⟩)) := by
  have hL := hri.len
  have hn : n ≤ 8192 := by rw [← hL]; exact isBits_len hz
  obtain ⟨q, m, hq, hm, hq8, hm8, hk⟩ := isFault_parts hf
  simp only at hq hm hk
  subst hq hm
  rcases hk with ⟨rfl, hm0, rfl⟩ | ⟨rfl, hm1, rfl⟩ | ⟨rfl, hm1, rfl⟩ | ⟨rfl, hm1⟩ | ⟨rfl, hm0, rfl⟩ | ⟨rfl, hm1⟩
  · obtain rfl := hm0
    have := l24Apply_flip A n c zs q w hri hn hq8 hA.cap hz
    simpa [lenF, appF, hL] using this
  · have := l24Apply_inv A n c zs q m w hri hn hq8 hm8 hm1 hA.cap hz
    simpa [lenF, appF, hL] using this
  · have := l24Apply_drop A n c zs q m w hri hn hq8 hm8 hm1 hA hnc hcm
    simpa [lenF, appF, hL] using this
  · by_cases hqn : q ≤ n
    · have := l24Apply_ins A n c zs q m v w hri hn hq8 hm8 hm1 hA hnc hcm hqn
      simpa [lenF, appF, hL, hqn] using this
    · have := l24Apply_far A n c zs q m v w hri hn hq8 hm8 hA (by omega)
      simpa [lenF, appF, hL, hqn] using this
  · obtain rfl := hm0
    have := SilenceFrom.l24Apply_sil A n c zs q w hri hn hq8 hA.cap
    simpa [lenF, appF, hL] using this
  · have := l24Apply_set A n c zs q m v w hri hn hq8 hm8 hm1 hA.cap hz
    simpa [lenF, appF, hL] using this

theorem applyFault_any (A : Option Addr) (n c : Nat) (zs : List Int) (k p l v : Int) (w : World) (hri : RI w w.heap.size A n zs) (hz : isBits zs = true) (hf : isFault ⟨k, p, l, v⟩ = true) (hA : A = none → c = 0) :
    Calls Tryz.prog 34 #[.slice A n c, .agg #[.int .i64 k, .int .i64 p, .int .i64 l, .int .i64 v]] w (RetI 2 w (lenF n ⟨k, p, l, v⟩) (appF zs ⟨k, p, l, v⟩)) := by
  have hL := hri.len
  have hn : n ≤ 8192 := by rw [← hL]; exact isBits_len hz
  obtain ⟨q, m, hq, hm, hq8, hm8, hk⟩ := isFault_parts hf
  simp only at hq hm hk
  subst hq hm
  rcases hk with ⟨rfl, hm0, rfl⟩ | ⟨rfl, hm1, rfl⟩ | ⟨rfl, hm1, rfl⟩ | ⟨rfl, hm1⟩ | ⟨rfl, hm0, rfl⟩ | ⟨rfl, hm1⟩
  · obtain rfl := hm0
    have := applyFault_flip A n c zs q w hri hn hq8 hz hA
    simpa [lenF, appF, hL] using this
  · have := applyFault_inv A n c zs q m w hri hn hq8 hm8 hz hA
    simpa [lenF, appF, hL] using this
  · have := applyFault_drop A n c zs q m w hri hn hq8 hm8 hm1 hA
    simpa [lenF, appF, hL] using this
  · by_cases hqn : q ≤ n
    · have := applyFault_ins A n c zs q m v w hri hn hq8 hm8 hm1 hA hqn
      simpa [lenF, appF, hL, hqn] using this
    · have := applyFault_far A n c zs q m v w hri hn hq8 hm8 (by omega) hA
      simpa [lenF, appF, hL, hqn] using this
  · obtain rfl := hm0
    have := SilenceFrom.applyFault_sil A n c zs q w hri hn hq8 hA
    simpa [lenF, appF, hL] using this
  · have := applyFault_set A n c zs q m v w hri hn hq8 hm8 hA
    simpa [lenF, appF, hL] using this

def res (zs : List Int) (f : Flt) : List Int := if isBits zs = true ∧ isFault f = true then appF zs f else []
def cod (zs : List Int) (f : Flt) : Int := if isBits zs then (if isFault f then 0 else 2) else 1
theorem res_len (zs : List Int) (f : Flt) : (res zs f).length ≤ 8192 := by
  unfold res
  split
  · rename_i h
    exact isBits_len (appF_bits h.1 h.2)
  · simp

set_option maxRecDepth 20000 in
set_option maxHeartbeats 4000000 in
theorem spec_any (A : Option Addr) (n c : Nat) (zs : List Int) (k p l v : Int) (w : World) (h : RI w w.heap.size A n zs) (hn' : n ≤ 1099511627776) (hA : Pl A c) (hnc : n ≤ c) (hcm : c ≤ maxLen) :
    Calls Tryz.prog 8 #[.slice A n c, .agg #[.int .i64 k, .int .i64 p, .int .i64 l, .int .i64 v]] w (RetIC 2 w (res zs ⟨k, p, l, v⟩) (cod zs ⟨k, p, l, v⟩)) := by
  have hb0 : Below w.heap.size w (w.alloc (.cells #[.int .i64 k, .int .i64 p, .int .i64 l, .int .i64 v] 26)) := (Below.refl _ _).alloc (Nat.le_refl _) _
  have hbx := Blk4.new w 26 (.int .i64 k) (.int .i64 p) (.int .i64 l) (.int .i64 v)
  have hr0 := h.up hb0
  obtain ⟨w0, hw0⟩ : ∃ x, w.alloc (.cells #[.int .i64 k, .int .i64 p, .int .i64 l, .int .i64 v] 26) = x := ⟨_, rfl⟩
  rw [hw0] at hb0 hr0 hbx
  have HB := Lib.hid hb0
  clear hb0
  have f0 := hbx.c0
  have f1 := hbx.c1
  have f2 := hbx.c2
  have f3 := hbx.c3
  rcases bool_cases (isBits zs) with hz | hz
  case inr =>
    have E1 := Lib.hid (show res zs ⟨k, p, l, v⟩ = [] from by simp [res, hz])
    have E2 := Lib.hid (show cod zs ⟨k, p, l, v⟩ = 1 from by simp [cod, hz])
    go_enter Tryz.func8, Tryz.ntmps8
    go_wp2_with fail
    refine (sIsBits_any _ _ _ _ _ hr0 hn').mono ?_
    rw [hz]
    rintro e w' ⟨rfl, rfl⟩
    go_wp2
    go_ret2
    rw [E1.out, E2.out]
    exact ⟨none, 0, 0, rfl, OwnI.nil _ _ _, HB.out⟩
  rcases bool_cases (isFault ⟨k, p, l, v⟩) with hr | hr
  case inr =>
    have E1 := Lib.hid (show res zs ⟨k, p, l, v⟩ = [] from by simp [res, hr])
    have E2 := Lib.hid (show cod zs ⟨k, p, l, v⟩ = 2 from by simp [cod, hz, hr])
    go_enter Tryz.func8, Tryz.ntmps8
    go_wp2_with fail
    refine (sIsBits_any _ _ _ _ _ hr0 hn').mono ?_
    rw [hz]
    rintro e w' ⟨rfl, rfl⟩
    go_wp2_with fail
    refine (sIsFault_any _ _ _ _ _).mono ?_
    rw [hr]
    rintro e w1 ⟨rfl, hb1⟩
    go_wp2
    go_ret2
    rw [E1.out, E2.out]
    exact ⟨none, 0, 0, rfl, OwnI.nil _ _ _, below_next hb1 HB.out (Nat.le_refl _)⟩
  have E1 := Lib.hid (show res zs ⟨k, p, l, v⟩ = appF zs ⟨k, p, l, v⟩ from by simp [res, hz, hr])
  have E2 := Lib.hid (show cod zs ⟨k, p, l, v⟩ = 0 from by simp [cod, hz, hr])
  have HZ := Lib.hid hz
  have HR := Lib.hid hr
  clear hz hr
  go_enter Tryz.func8, Tryz.ntmps8
  go_wp2_with fail
  refine (sIsBits_any _ _ _ _ _ hr0 hn').mono ?_
  rw [HZ.out]
  rintro e w' ⟨rfl, rfl⟩
  go_wp2_with fail
  refine (sIsFault_any _ _ _ _ _).mono ?_
  rw [HR.out]
  rintro e w1 ⟨rfl, hb1⟩
  have hbk := hbx.next hb1
  have e0 := hbk.c0
  have e1 := hbk.c1
  have e2 := hbk.c2
  have e3 := hbk.c3
  clear f0 f1 f2 f3
  go_wp2_with fail
  refine (l24Apply_any A n c zs k p l v _ (hr0.up hb1) HZ.out HR.out hA hnc hcm).mono ?_
  rintro e w2 ⟨A2, c2, rfl, hown2, hb2⟩
  go_wp2
  go_ret2
  rw [E1.out, E2.out]
  exact ⟨_, _, _, rfl, hown2.weaken (Nat.le_trans HB.out.size hb1.size), below_next hb2 (below_next hb1 HB.out (Nat.le_refl _)) (Nat.le_refl _)⟩
set_option maxRecDepth 20000 in
set_option maxHeartbeats 4000000 in
theorem impl_any (A : Option Addr) (n c : Nat) (zs : List Int) (k p l v : Int) (w : World) (h : RI w w.heap.size A n zs) (hn' : n ≤ 1099511627776) (hA : A = none → c = 0) :
    Calls Tryz.prog 7 #[.slice A n c, .agg #[.int .i64 k, .int .i64 p, .int .i64 l, .int .i64 v]] w (RetIC 2 w (res zs ⟨k, p, l, v⟩) (cod zs ⟨k, p, l, v⟩)) := by
  have hb0 : Below w.heap.size w (w.alloc (.cells #[.int .i64 k, .int .i64 p, .int .i64 l, .int .i64 v] 26)) := (Below.refl _ _).alloc (Nat.le_refl _) _
  have hbx := Blk4.new w 26 (.int .i64 k) (.int .i64 p) (.int .i64 l) (.int .i64 v)
  have hr0 := h.up hb0
  obtain ⟨w0, hw0⟩ : ∃ x, w.alloc (.cells #[.int .i64 k, .int .i64 p, .int .i64 l, .int .i64 v] 26) = x := ⟨_, rfl⟩
  rw [hw0] at hb0 hr0 hbx
  have HB := Lib.hid hb0
  clear hb0
  have f0 := hbx.c0
  have f1 := hbx.c1
  have f2 := hbx.c2
  have f3 := hbx.c3
  rcases bool_cases (isBits zs) with hz | hz
  case inr =>
    have E1 := Lib.hid (show res zs ⟨k, p, l, v⟩ = [] from by simp [res, hz])
    have E2 := Lib.hid (show cod zs ⟨k, p, l, v⟩ = 1 from by simp [cod, hz])
    go_enter Tryz.func7, Tryz.ntmps7
    go_wp2_with fail
    refine (iIsBits_any _ _ _ _ _ hr0 hn').mono ?_
    rw [hz]
    rintro e w' ⟨rfl, rfl⟩
    go_wp2
    go_ret2
    rw [E1.out, E2.out]
    exact ⟨none, 0, 0, rfl, OwnI.nil _ _ _, HB.out⟩
  rcases bool_cases (isFault ⟨k, p, l, v⟩) with hr | hr
  case inr =>
    have E1 := Lib.hid (show res zs ⟨k, p, l, v⟩ = [] from by simp [res, hr])
    have E2 := Lib.hid (show cod zs ⟨k, p, l, v⟩ = 2 from by simp [cod, hz, hr])
    go_enter Tryz.func7, Tryz.ntmps7
    go_wp2_with fail
    refine (iIsBits_any _ _ _ _ _ hr0 hn').mono ?_
    rw [hz]
    rintro e w' ⟨rfl, rfl⟩
    go_wp2_with fail
    refine (iIsFault_any _ _ _ _ _).mono ?_
    rw [hr]
    rintro e w1 ⟨rfl, hb1⟩
    go_wp2
    go_ret2
    rw [E1.out, E2.out]
    exact ⟨none, 0, 0, rfl, OwnI.nil _ _ _, below_next hb1 HB.out (Nat.le_refl _)⟩
  have E1 := Lib.hid (show res zs ⟨k, p, l, v⟩ = appF zs ⟨k, p, l, v⟩ from by simp [res, hz, hr])
  have E2 := Lib.hid (show cod zs ⟨k, p, l, v⟩ = 0 from by simp [cod, hz, hr])
  have HZ := Lib.hid hz
  have HR := Lib.hid hr
  clear hz hr
  go_enter Tryz.func7, Tryz.ntmps7
  go_wp2_with fail
  refine (iIsBits_any _ _ _ _ _ hr0 hn').mono ?_
  rw [HZ.out]
  rintro e w' ⟨rfl, rfl⟩
  go_wp2_with fail
  refine (iIsFault_any _ _ _ _ _).mono ?_
  rw [HR.out]
  rintro e w1 ⟨rfl, hb1⟩
  have hbk := hbx.next hb1
  have e0 := hbk.c0
  have e1 := hbk.c1
  have e2 := hbk.c2
  have e3 := hbk.c3
  clear f0 f1 f2 f3
  go_wp2_with fail
  refine (applyFault_any A n c zs k p l v _ (hr0.up hb1) HZ.out HR.out hA).mono ?_
  rintro e w2 ⟨A2, c2, rfl, hown2, hb2⟩
  go_wp2
  go_ret2
  rw [E1.out, E2.out]
  exact ⟨_, _, _, rfl, hown2.weaken (Nat.le_trans HB.out.size hb1.size), below_next hb2 (below_next hb1 HB.out (Nat.le_refl _)) (Nat.le_refl _)⟩
end ApplyFault
end Go.Proofs.YtojmikalnalfbaaGreatDoor
