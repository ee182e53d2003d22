/- Walks, laws and small notions for the claims of this seat, several texts as one (ApC, Del, Ins, ApD, ApE, Ap). Conditions: as each theorem states them. -/
import Derived.Test.YtbaojbheopcjhaaGreatDoorSB25
import Derived.Test.YtbaojbheopcjhaaGreatDoorB31
import Derived.Deep.DeepCutAuto
import Derived.Test.YtbaojbheopcjhaaGreatDoorB1
import Derived.Test.YtbaojbheopcjhaaGreatDoorB2
import Derived.Lib.AppendZerosOnto
import Derived.Lib.Overlaps
import Derived.BigQuiet
namespace Go.Proofs.YtbaojbheopcjhaaGreatDoor
open Go.RowKit
section
variable {P : Program} {ops : Array Oper} {rest : List Oper} {o : Oper} {a : Act} {Q : Exit → Act → World → Prop}
/-- 'out = append(out, ys...)', the new length named -/
theorem wpl_appRN (W : World) {TS T : TypeId} (ht : P.underlying TS = some (.slice T)) (hinfo : (P.info? T).map (fun i => (i.zero, i.size, i.bytes)) = some (some (.int .i64 0), 1, 8))
    (hgd : o.guard = none) (s x : Operand) (ho : o.op = .call { callee := .builtin .append, args := #[s, x], argTypes := #[TS, TS] })
    (base : Nat) (A : Option Addr) (n c : Nat) (zs : List Int) (hs : a.eval s = .slice A n c) (hown : OwnI T W base A n c zs)
    (A2 : Option Addr) (n2 c2 B : Nat) (ys : List Int) (hx : a.eval x = .slice A2 n2 c2) (hr : RI W B A2 n2 ys) (hA2 : A2 = none → c2 = 0)
    (N : Nat) (hN : n + n2 = N) (hn : N ≤ 1099511627776) (hbase : base ≤ W.heap.size)
    (h : ∀ A' c' w', OwnI T w' base A' N c' (zs ++ ys) → (∀ B, B ≤ base → Below B W w') → W.grownBy w' (Value.slice A n c).ownBlock → wpList P ops Q rest (a.put o.dst (.slice A' N c')) w') :
    wpList P ops Q (o :: rest) a W := by
  subst hN
  exact wpl_appR W ht hinfo hgd s x ho base A n c zs hs hown A2 n2 c2 B ys hx hr hA2 hn hbase h
end
namespace ApplyFault
theorem equal_fn : (Tryz.f43.name == "runtime.NumGoroutine") = false ∧ Tryz.f43.body.isSome = true := ⟨by kernel_rfl, by kernel_rfl⟩

set_option maxRecDepth 20000 in
set_option maxHeartbeats 16000000 in
theorem l24Apply_ins (A : Option Addr) (n c : Nat) (zs : List Int) (q l : Nat) (v : Int) (w : World) (hri : RI w w.heap.size A n zs) (hn : n ≤ 8192) (hq : q ≤ 8192) (hl : l ≤ 8192) (hl1 : 1 ≤ l) (hA : Pl A c) (hnc : n ≤ c) (hcm : c ≤ maxLen) (hqn : q ≤ n) :
    Calls Tryz.prog 64 #[.slice A n c, .agg #[.int .i64 4, .int .i64 q, .int .i64 l, .int .i64 v]] w (RetI 2 w (min 8192 (n + l)) ((zs.take q ++ List.replicate l v ++ zs.drop q).take 8192)) := by
  have L := Lib.hid hri.len
  obtain ⟨N0, hN0⟩ : ∃ x, min 8192 (n + l) = x := ⟨_, rfl⟩
  obtain ⟨R0, hR0⟩ : ∃ x, (zs.take q ++ List.replicate l v ++ zs.drop q).take 8192 = x := ⟨_, rfl⟩
  rw [hN0, hR0]
  have HN0 := Lib.hid hN0
  have HR0 := Lib.hid hR0
  clear hN0 hR0
  have hb0 : Below w.heap.size w (w.alloc (.cells #[.int .i64 4, .int .i64 q, .int .i64 l, .int .i64 v] 87)) := (Below.refl _ _).alloc (Nat.le_refl _) _
  have hr0 := hri.up hb0
  have hbx := Blk4.new w 87 (.int .i64 4) (.int .i64 q) (.int .i64 l) (.int .i64 v)
  obtain ⟨w0, hw0⟩ : ∃ x, w.alloc (.cells #[.int .i64 4, .int .i64 q, .int .i64 l, .int .i64 v] 87) = x := ⟨_, rfl⟩
  rw [hw0] at hb0 hr0 hbx
  have hk0 := hbx.c0
  have hk1 := hbx.c1
  have hk2 := hbx.c2
  have hk3 := hbx.c3
  have hgl := hbx.lt
  have HB := Lib.hid hb0
  unfold maxLen at hcm
  clear hb0
  rcases hA with ⟨rfl, rfl⟩ | ⟨b, o, rfl⟩
  · obtain rfl : n = 0 := by omega
    obtain rfl : zs = [] := List.length_eq_zero_iff.1 L.out
    have hqg : ¬ ((q : Int) > 0) := by omega
    have hq1 : (0 : Int) ≤ (q : Int) + (l : Int) := by omega
    have hq2 : ¬ ((q : Int) + (l : Int) < 0) := by omega
    have hrp := Lib.hid (hr0.pre (k := 0) (by omega))
    have hrs := Lib.hid (hr0)
    go_enter Tryz.func64, Tryz.ntmps64
    go_wp2_with fail
    go_region
    all_goals
      go_upto_region 13 with fail
      go_cut [8] (fun v8 wc => ∃ A2 c2, v8 = .slice A2 (l) c2 ∧ OwnI 2 wc w0.heap.size A2 (l) c2 ([].take (0) ++ List.replicate l v) ∧ Below w0.heap.size w0 wc)
      case first =>
        go_region_law (first
          | ((refine step_call 63 Tryz.func63 own_fn.1 own_fn.2 rfl rfl #[.slice (none) (0) 0] ?_ ?_); (simp [Act.eval, Act.put]); (refine (l01Own_any (none) (0) 0 ([].take (0)) _ (by first | exact hrp.out | exact hrp.out.up (below_dd HB5.out)) (by omega) (fun _ => rfl)).mono ?_); rintro e w1 ⟨A1, c1, rfl, hown1, hb1⟩; (refine ⟨_, rfl, ?_⟩); have HO := Lib.hid hown1; have HB1 := Lib.hid hb1; have hbx1 : Blk4 w1 w.heap.size 87 (.int .i64 4) (.int .i64 q) (.int .i64 l) (.int .i64 v) := (by first | exact Blk4.next (w := w0.drew.drew) hb1 hbx | exact Blk4.next hb1 hbx5); have hx12 := hbx1.c2; have hx13 := hbx1.c3; clear hown1 hb1)
          | ((refine step_call 43 Tryz.func43 equal_fn.1 equal_fn.2 rfl rfl #[.int .i64 l, .int .i64 v] ?_ ?_); (simp [Act.eval]); (refine (l20Equal_any l v _ (by omega)).mono ?_); rintro e w5 ⟨A5, c5, rfl, hown5, hb5⟩; (refine ⟨_, rfl, ?_⟩); have HE := Lib.hid hown5; have HB5 := Lib.hid hb5; have hbx5 : Blk4 w5 w.heap.size 87 (.int .i64 4) (.int .i64 q) (.int .i64 l) (.int .i64 v) := (by first | exact Blk4.next (w := w0.drew.drew) hb5 hbx | exact Blk4.next hb5 hbx1); have hx52 := hbx5.c2; have hx53 := hbx5.c3; clear hown5 hb5)
          | (refine step_appRN _ Tryz.underlying31 infoInt rfl (.tmp 57) (.tmp 62) rfl w0.heap.size A1 (0) c1 ([].take (0)) (by simp [Act.eval]) (by first | exact (HO.out.below HB5.out).weaken (Nat.le_refl _) | exact HO.out.weaken HB5.out.size) A5 l c5 _ (List.replicate l v) (by simp [Act.eval]) (by first | exact HE.out.reads | exact HE.out.reads.up HB1.out) (own_none HE.out) (l) (by omega) (by omega) (by first | exact Nat.le_trans HB1.out.size HB5.out.size | exact Nat.le_trans HB5.out.size HB1.out.size) ?_; intro A2 c2 w2 hown2 hB2 hg2; have HO2 := Lib.hid hown2; have hbb : Below w0.heap.size w0 w2 := (by first | exact (below_next HB5.out (below_dd HB1.out) (Nat.le_refl _)).trans (hB2 _ (Nat.le_refl _)) | exact (below_next HB1.out (below_dd HB5.out) (Nat.le_refl _)).trans (hB2 _ (Nat.le_refl _))); have HBB := Lib.hid hbb; clear hown2 hB2 hg2 hbb))
        all_goals
          go_wp2_with fail
          go_meet
          exact ⟨A2, c2, rfl, HO2.out, HBB.out⟩
      case rest =>
        obtain ⟨A2, c2, rfl, hown2, hbb⟩ := hcut
        have HO2 := Lib.hid hown2
        have HBB := Lib.hid hbb
        clear hown2 hbb
        by_cases hbig : l ≤ 8192
        case pos =>
          have hbi : ((l : Nat) : Int) ≤ 8192 := by omega
          have hbj : (l : Int) ≤ 8192 := by omega
          go_wp2_with (at_builtin; refine wpl_appRN _ Tryz.underlying31 infoInt rfl _ _ rfl w0.heap.size _ _ _ _ rfl HO2.out (none) (0) (0) w0.heap.size ([].drop (0)) rfl (hrs.out.below HBB.out (Nat.le_refl _)) (fun _ => rfl) (l) (by omega) (by omega) HBB.out.size ?_; intro A3 c3 w3 hown3 hB3 hg3; have hcap := hown3.cap.1; have hcap2 : (l : Int) ≤ (c3 : Int) := (by omega); have HO3 := Lib.hid hown3; have HB3 := Lib.hid (hB3 _ (Nat.le_refl _)); clear hown3 hB3 hg3)
          go_ret
          have e1 := HO3.out
          have e2 : N0 = l := by have := HN0.out; omega
          have e4 : R0 = [].take 0 ++ List.replicate l v ++ [].drop 0 := by
            rw [← e1.len] at hbig
            rw [← HR0.out]; simp; omega
          rw [e2, e4]
          exact ⟨A3, c3, rfl, e1.weaken HB.out.size, HB.out.trans ((HBB.out.trans (HB3.out.mono (Nat.le_refl _))).mono HB.out.size)⟩
        case neg =>
          have hbi : ¬ ((l : Int) ≤ 8192) := by omega
          have hbj : (8192 : Int) < (l : Int) := by omega
          go_wp2_with (at_builtin; refine wpl_appRN _ Tryz.underlying31 infoInt rfl _ _ rfl w0.heap.size _ _ _ _ rfl HO2.out (none) (0) (0) w0.heap.size ([].drop (0)) rfl (hrs.out.below HBB.out (Nat.le_refl _)) (fun _ => rfl) (l) (by omega) (by omega) HBB.out.size ?_; intro A3 c3 w3 hown3 hB3 hg3; have hcap := hown3.cap.1; have hcap2 : 8192 ≤ c3 := (by omega); have HO3 := Lib.hid hown3; have HB3 := Lib.hid (hB3 _ (Nat.le_refl _)); clear hown3 hB3 hg3)
          go_ret
          have e1 := HO3.out.cut (k := 8192) (by omega)
          have e2 : N0 = 8192 := by have := HN0.out; omega
          have e4 : R0 = ([].take 0 ++ List.replicate l v ++ [].drop 0).take 8192 := by
            rw [← HR0.out]; simp
          rw [e2, e4]
          exact ⟨A3, c3, rfl, e1.weaken HB.out.size, HB.out.trans ((HBB.out.trans (HB3.out.mono (Nat.le_refl _))).mono HB.out.size)⟩
  · by_cases htn : q + l < n
    · skip
      have hle2 : (q : Int) + (l : Int) < (n : Int) := by omega
      have hle3 : ¬ ((n : Int) ≤ (q : Int) + (l : Int)) := by omega
      have hcq : q ≤ c := by omega
      have hc1 : ¬ (c = q) := by omega
      have hgt : ¬ ((q : Int) > (n : Int)) := by omega
      have hnq : ¬ (n < q) := by omega
      have hrp := Lib.hid (hr0.pre (k := q) (by omega))
      have hrs := Lib.hid (hr0.suf (k := q) (by omega))
      go_enter Tryz.func64, Tryz.ntmps64
      go_wp2_with fail
      go_region
      all_goals
        go_upto_region 13 with fail
        go_cut [8] (fun v8 wc => ∃ A2 c2, v8 = .slice A2 (q + l) c2 ∧ OwnI 2 wc w0.heap.size A2 (q + l) c2 (zs.take (q) ++ List.replicate l v) ∧ Below w0.heap.size w0 wc)
        case first =>
          go_region_law (first
            | ((refine step_call 63 Tryz.func63 own_fn.1 own_fn.2 rfl rfl #[.slice (some ⟨b, o, none⟩) (q) c] ?_ ?_); (simp [Act.eval, Act.put]); (refine (l01Own_any (some ⟨b, o, none⟩) (q) c (zs.take (q)) _ (by first | exact hrp.out | exact hrp.out.up (below_dd HB5.out)) (by omega) (fun e => by cases e)).mono ?_); rintro e w1 ⟨A1, c1, rfl, hown1, hb1⟩; (refine ⟨_, rfl, ?_⟩); have HO := Lib.hid hown1; have HB1 := Lib.hid hb1; have hbx1 : Blk4 w1 w.heap.size 87 (.int .i64 4) (.int .i64 q) (.int .i64 l) (.int .i64 v) := (by first | exact Blk4.next (w := w0.drew.drew) hb1 hbx | exact Blk4.next hb1 hbx5); have hx12 := hbx1.c2; have hx13 := hbx1.c3; clear hown1 hb1)
            | ((refine step_call 43 Tryz.func43 equal_fn.1 equal_fn.2 rfl rfl #[.int .i64 l, .int .i64 v] ?_ ?_); (simp [Act.eval]); (refine (l20Equal_any l v _ (by omega)).mono ?_); rintro e w5 ⟨A5, c5, rfl, hown5, hb5⟩; (refine ⟨_, rfl, ?_⟩); have HE := Lib.hid hown5; have HB5 := Lib.hid hb5; have hbx5 : Blk4 w5 w.heap.size 87 (.int .i64 4) (.int .i64 q) (.int .i64 l) (.int .i64 v) := (by first | exact Blk4.next (w := w0.drew.drew) hb5 hbx | exact Blk4.next hb5 hbx1); have hx52 := hbx5.c2; have hx53 := hbx5.c3; clear hown5 hb5)
            | (refine step_appRN _ Tryz.underlying31 infoInt rfl (.tmp 57) (.tmp 62) rfl w0.heap.size A1 (q) c1 (zs.take (q)) (by simp [Act.eval]) (by first | exact (HO.out.below HB5.out).weaken (Nat.le_refl _) | exact HO.out.weaken HB5.out.size) A5 l c5 _ (List.replicate l v) (by simp [Act.eval]) (by first | exact HE.out.reads | exact HE.out.reads.up HB1.out) (own_none HE.out) (q + l) (by omega) (by omega) (by first | exact Nat.le_trans HB1.out.size HB5.out.size | exact Nat.le_trans HB5.out.size HB1.out.size) ?_; intro A2 c2 w2 hown2 hB2 hg2; have HO2 := Lib.hid hown2; have hbb : Below w0.heap.size w0 w2 := (by first | exact (below_next HB5.out (below_dd HB1.out) (Nat.le_refl _)).trans (hB2 _ (Nat.le_refl _)) | exact (below_next HB1.out (below_dd HB5.out) (Nat.le_refl _)).trans (hB2 _ (Nat.le_refl _))); have HBB := Lib.hid hbb; clear hown2 hB2 hg2 hbb))
          all_goals
            go_wp2_with fail
            go_meet
            exact ⟨A2, c2, rfl, HO2.out, HBB.out⟩
        case rest =>
          obtain ⟨A2, c2, rfl, hown2, hbb⟩ := hcut
          have HO2 := Lib.hid hown2
          have HBB := Lib.hid hbb
          clear hown2 hbb
          by_cases hbig : n + l ≤ 8192
          case pos =>
            have hbi : ((n + l : Nat) : Int) ≤ 8192 := by omega
            have hbj : (n : Int) + (l : Int) ≤ 8192 := by omega
            go_wp2_with (at_builtin; refine wpl_appRN _ Tryz.underlying31 infoInt rfl _ _ rfl w0.heap.size _ _ _ _ rfl HO2.out (some ⟨b, o + q, none⟩) (n - q) (c - q) w0.heap.size (zs.drop (q)) rfl (hrs.out.below HBB.out (Nat.le_refl _)) (fun e => by cases e) (n + l) (by omega) (by omega) HBB.out.size ?_; intro A3 c3 w3 hown3 hB3 hg3; have hcap := hown3.cap.1; have hcap2 : (n : Int) + (l : Int) ≤ (c3 : Int) := (by omega); have HO3 := Lib.hid hown3; have HB3 := Lib.hid (hB3 _ (Nat.le_refl _)); clear hown3 hB3 hg3)
            go_ret
            have e1 := HO3.out
            have e2 : N0 = n + l := by have := HN0.out; omega
            have e4 : R0 = zs.take q ++ List.replicate l v ++ zs.drop q := by
              rw [← e1.len] at hbig
              rw [← HR0.out]
              exact List.take_of_length_le hbig
            rw [e2, e4]
            exact ⟨A3, c3, rfl, e1.weaken HB.out.size, HB.out.trans ((HBB.out.trans (HB3.out.mono (Nat.le_refl _))).mono HB.out.size)⟩
          case neg =>
            have hbi : ¬ ((n : Int) + (l : Int) ≤ 8192) := by omega
            have hbj : (8192 : Int) < (n : Int) + (l : Int) := by omega
            go_wp2_with (at_builtin; refine wpl_appRN _ Tryz.underlying31 infoInt rfl _ _ rfl w0.heap.size _ _ _ _ rfl HO2.out (some ⟨b, o + q, none⟩) (n - q) (c - q) w0.heap.size (zs.drop (q)) rfl (hrs.out.below HBB.out (Nat.le_refl _)) (fun e => by cases e) (n + l) (by omega) (by omega) HBB.out.size ?_; intro A3 c3 w3 hown3 hB3 hg3; have hcap := hown3.cap.1; have hcap2 : 8192 ≤ c3 := (by omega); have HO3 := Lib.hid hown3; have HB3 := Lib.hid (hB3 _ (Nat.le_refl _)); clear hown3 hB3 hg3)
            go_ret
            have e1 := HO3.out.cut (k := 8192) (by omega)
            have e2 : N0 = 8192 := by have := HN0.out; omega
            have e4 : R0 = (zs.take q ++ List.replicate l v ++ zs.drop q).take 8192 := by
              rw [← HR0.out]
            rw [e2, e4]
            exact ⟨A3, c3, rfl, e1.weaken HB.out.size, HB.out.trans ((HBB.out.trans (HB3.out.mono (Nat.le_refl _))).mono HB.out.size)⟩
    · by_cases hqc : c = q
      · obtain rfl : q = n := by omega
        subst hqc
        have hle2 : (c : Int) ≤ (c : Int) + (l : Int) := by omega
        have hrp := Lib.hid (hr0.pre (k := c) (by omega))
        have hrs := Lib.hid ((show RI w0 w0.heap.size (some ⟨b, o, none⟩) 0 (zs.drop c) from by rw [List.drop_of_length_le (by rw [L.out]; exact Nat.le_refl _)]; exact RI.nil _ _ _))
        go_enter Tryz.func64, Tryz.ntmps64
        go_wp2_with fail
        go_region
        all_goals
          go_upto_region 13 with fail
          go_cut [8] (fun v8 wc => ∃ A2 c2, v8 = .slice A2 (c + l) c2 ∧ OwnI 2 wc w0.heap.size A2 (c + l) c2 (zs.take (c) ++ List.replicate l v) ∧ Below w0.heap.size w0 wc)
          case first =>
            go_region_law (first
              | ((refine step_call 63 Tryz.func63 own_fn.1 own_fn.2 rfl rfl #[.slice (some ⟨b, o, none⟩) (c) c] ?_ ?_); (simp [Act.eval, Act.put]); (refine (l01Own_any (some ⟨b, o, none⟩) (c) c (zs.take (c)) _ (by first | exact hrp.out | exact hrp.out.up (below_dd HB5.out)) (by omega) (fun e => by cases e)).mono ?_); rintro e w1 ⟨A1, c1, rfl, hown1, hb1⟩; (refine ⟨_, rfl, ?_⟩); have HO := Lib.hid hown1; have HB1 := Lib.hid hb1; have hbx1 : Blk4 w1 w.heap.size 87 (.int .i64 4) (.int .i64 c) (.int .i64 l) (.int .i64 v) := (by first | exact Blk4.next (w := w0.drew.drew) hb1 hbx | exact Blk4.next hb1 hbx5); have hx12 := hbx1.c2; have hx13 := hbx1.c3; clear hown1 hb1)
              | ((refine step_call 43 Tryz.func43 equal_fn.1 equal_fn.2 rfl rfl #[.int .i64 l, .int .i64 v] ?_ ?_); (simp [Act.eval]); (refine (l20Equal_any l v _ (by omega)).mono ?_); rintro e w5 ⟨A5, c5, rfl, hown5, hb5⟩; (refine ⟨_, rfl, ?_⟩); have HE := Lib.hid hown5; have HB5 := Lib.hid hb5; have hbx5 : Blk4 w5 w.heap.size 87 (.int .i64 4) (.int .i64 c) (.int .i64 l) (.int .i64 v) := (by first | exact Blk4.next (w := w0.drew.drew) hb5 hbx | exact Blk4.next hb5 hbx1); have hx52 := hbx5.c2; have hx53 := hbx5.c3; clear hown5 hb5)
              | (refine step_appRN _ Tryz.underlying31 infoInt rfl (.tmp 57) (.tmp 62) rfl w0.heap.size A1 (c) c1 (zs.take (c)) (by simp [Act.eval]) (by first | exact (HO.out.below HB5.out).weaken (Nat.le_refl _) | exact HO.out.weaken HB5.out.size) A5 l c5 _ (List.replicate l v) (by simp [Act.eval]) (by first | exact HE.out.reads | exact HE.out.reads.up HB1.out) (own_none HE.out) (c + l) (by omega) (by omega) (by first | exact Nat.le_trans HB1.out.size HB5.out.size | exact Nat.le_trans HB5.out.size HB1.out.size) ?_; intro A2 c2 w2 hown2 hB2 hg2; have HO2 := Lib.hid hown2; have hbb : Below w0.heap.size w0 w2 := (by first | exact (below_next HB5.out (below_dd HB1.out) (Nat.le_refl _)).trans (hB2 _ (Nat.le_refl _)) | exact (below_next HB1.out (below_dd HB5.out) (Nat.le_refl _)).trans (hB2 _ (Nat.le_refl _))); have HBB := Lib.hid hbb; clear hown2 hB2 hg2 hbb))
            all_goals
              go_wp2_with fail
              go_meet
              exact ⟨A2, c2, rfl, HO2.out, HBB.out⟩
          case rest =>
            obtain ⟨A2, c2, rfl, hown2, hbb⟩ := hcut
            have HO2 := Lib.hid hown2
            have HBB := Lib.hid hbb
            clear hown2 hbb
            by_cases hbig : c + l ≤ 8192
            case pos =>
              have hbi : ((c + l : Nat) : Int) ≤ 8192 := by omega
              have hbj : (c : Int) + (l : Int) ≤ 8192 := by omega
              go_wp2_with (at_builtin; refine wpl_appRN _ Tryz.underlying31 infoInt rfl _ _ rfl w0.heap.size _ _ _ _ rfl HO2.out (some ⟨b, o, none⟩) (0) (0) w0.heap.size (zs.drop (c)) rfl (hrs.out.below HBB.out (Nat.le_refl _)) (fun e => by cases e) (c + l) (by omega) (by omega) HBB.out.size ?_; intro A3 c3 w3 hown3 hB3 hg3; have hcap := hown3.cap.1; have hcap2 : (c : Int) + (l : Int) ≤ (c3 : Int) := (by omega); have HO3 := Lib.hid hown3; have HB3 := Lib.hid (hB3 _ (Nat.le_refl _)); clear hown3 hB3 hg3)
              go_ret
              have e1 := HO3.out
              have e2 : N0 = c + l := by have := HN0.out; omega
              have e4 : R0 = zs.take c ++ List.replicate l v ++ zs.drop c := by
                rw [← e1.len] at hbig
                rw [← HR0.out]
                exact List.take_of_length_le hbig
              rw [e2, e4]
              exact ⟨A3, c3, rfl, e1.weaken HB.out.size, HB.out.trans ((HBB.out.trans (HB3.out.mono (Nat.le_refl _))).mono HB.out.size)⟩
            case neg =>
              have hbi : ¬ ((c : Int) + (l : Int) ≤ 8192) := by omega
              have hbj : (8192 : Int) < (c : Int) + (l : Int) := by omega
              go_wp2_with (at_builtin; refine wpl_appRN _ Tryz.underlying31 infoInt rfl _ _ rfl w0.heap.size _ _ _ _ rfl HO2.out (some ⟨b, o, none⟩) (0) (0) w0.heap.size (zs.drop (c)) rfl (hrs.out.below HBB.out (Nat.le_refl _)) (fun e => by cases e) (c + l) (by omega) (by omega) HBB.out.size ?_; intro A3 c3 w3 hown3 hB3 hg3; have hcap := hown3.cap.1; have hcap2 : 8192 ≤ c3 := (by omega); have HO3 := Lib.hid hown3; have HB3 := Lib.hid (hB3 _ (Nat.le_refl _)); clear hown3 hB3 hg3)
              go_ret
              have e1 := HO3.out.cut (k := 8192) (by omega)
              have e2 : N0 = 8192 := by have := HN0.out; omega
              have e4 : R0 = (zs.take c ++ List.replicate l v ++ zs.drop c).take 8192 := by
                rw [← HR0.out]
              rw [e2, e4]
              exact ⟨A3, c3, rfl, e1.weaken HB.out.size, HB.out.trans ((HBB.out.trans (HB3.out.mono (Nat.le_refl _))).mono HB.out.size)⟩
      · by_cases hqe : q = n
        · subst hqe
          have hle2 : (q : Int) ≤ (q : Int) + (l : Int) := by omega
          have hcq : q ≤ c := by omega
          have hrp := Lib.hid (hr0.pre (k := q) (by omega))
          have hrs := Lib.hid ((show RI w0 w0.heap.size (some ⟨b, o + q, none⟩) 0 (zs.drop q) from by have := hr0.suf (k := q) (by omega); rwa [Nat.sub_self] at this))
          go_enter Tryz.func64, Tryz.ntmps64
          go_wp2_with fail
          go_region
          all_goals
            go_upto_region 13 with fail
            go_cut [8] (fun v8 wc => ∃ A2 c2, v8 = .slice A2 (q + l) c2 ∧ OwnI 2 wc w0.heap.size A2 (q + l) c2 (zs.take (q) ++ List.replicate l v) ∧ Below w0.heap.size w0 wc)
            case first =>
              go_region_law (first
                | ((refine step_call 63 Tryz.func63 own_fn.1 own_fn.2 rfl rfl #[.slice (some ⟨b, o, none⟩) (q) c] ?_ ?_); (simp [Act.eval, Act.put]); (refine (l01Own_any (some ⟨b, o, none⟩) (q) c (zs.take (q)) _ (by first | exact hrp.out | exact hrp.out.up (below_dd HB5.out)) (by omega) (fun e => by cases e)).mono ?_); rintro e w1 ⟨A1, c1, rfl, hown1, hb1⟩; (refine ⟨_, rfl, ?_⟩); have HO := Lib.hid hown1; have HB1 := Lib.hid hb1; have hbx1 : Blk4 w1 w.heap.size 87 (.int .i64 4) (.int .i64 q) (.int .i64 l) (.int .i64 v) := (by first | exact Blk4.next (w := w0.drew.drew) hb1 hbx | exact Blk4.next hb1 hbx5); have hx12 := hbx1.c2; have hx13 := hbx1.c3; clear hown1 hb1)
                | ((refine step_call 43 Tryz.func43 equal_fn.1 equal_fn.2 rfl rfl #[.int .i64 l, .int .i64 v] ?_ ?_); (simp [Act.eval]); (refine (l20Equal_any l v _ (by omega)).mono ?_); rintro e w5 ⟨A5, c5, rfl, hown5, hb5⟩; (refine ⟨_, rfl, ?_⟩); have HE := Lib.hid hown5; have HB5 := Lib.hid hb5; have hbx5 : Blk4 w5 w.heap.size 87 (.int .i64 4) (.int .i64 q) (.int .i64 l) (.int .i64 v) := (by first | exact Blk4.next (w := w0.drew.drew) hb5 hbx | exact Blk4.next hb5 hbx1); have hx52 := hbx5.c2; have hx53 := hbx5.c3; clear hown5 hb5)
                | (refine step_appRN _ Tryz.underlying31 infoInt rfl (.tmp 57) (.tmp 62) rfl w0.heap.size A1 (q) c1 (zs.take (q)) (by simp [Act.eval]) (by first | exact (HO.out.below HB5.out).weaken (Nat.le_refl _) | exact HO.out.weaken HB5.out.size) A5 l c5 _ (List.replicate l v) (by simp [Act.eval]) (by first | exact HE.out.reads | exact HE.out.reads.up HB1.out) (own_none HE.out) (q + l) (by omega) (by omega) (by first | exact Nat.le_trans HB1.out.size HB5.out.size | exact Nat.le_trans HB5.out.size HB1.out.size) ?_; intro A2 c2 w2 hown2 hB2 hg2; have HO2 := Lib.hid hown2; have hbb : Below w0.heap.size w0 w2 := (by first | exact (below_next HB5.out (below_dd HB1.out) (Nat.le_refl _)).trans (hB2 _ (Nat.le_refl _)) | exact (below_next HB1.out (below_dd HB5.out) (Nat.le_refl _)).trans (hB2 _ (Nat.le_refl _))); have HBB := Lib.hid hbb; clear hown2 hB2 hg2 hbb))
              all_goals
                go_wp2_with fail
                go_meet
                exact ⟨A2, c2, rfl, HO2.out, HBB.out⟩
            case rest =>
              obtain ⟨A2, c2, rfl, hown2, hbb⟩ := hcut
              have HO2 := Lib.hid hown2
              have HBB := Lib.hid hbb
              clear hown2 hbb
              by_cases hbig : q + l ≤ 8192
              case pos =>
                have hbi : ((q + l : Nat) : Int) ≤ 8192 := by omega
                have hbj : (q : Int) + (l : Int) ≤ 8192 := by omega
                go_wp2_with (at_builtin; refine wpl_appRN _ Tryz.underlying31 infoInt rfl _ _ rfl w0.heap.size _ _ _ _ rfl HO2.out (some ⟨b, o + q, none⟩) (0) (c - q) w0.heap.size (zs.drop (q)) rfl (hrs.out.below HBB.out (Nat.le_refl _)) (fun e => by cases e) (q + l) (by omega) (by omega) HBB.out.size ?_; intro A3 c3 w3 hown3 hB3 hg3; have hcap := hown3.cap.1; have hcap2 : (q : Int) + (l : Int) ≤ (c3 : Int) := (by omega); have HO3 := Lib.hid hown3; have HB3 := Lib.hid (hB3 _ (Nat.le_refl _)); clear hown3 hB3 hg3)
                go_ret
                have e1 := HO3.out
                have e2 : N0 = q + l := by have := HN0.out; omega
                have e4 : R0 = zs.take q ++ List.replicate l v ++ zs.drop q := by
                  rw [← e1.len] at hbig
                  rw [← HR0.out]
                  exact List.take_of_length_le hbig
                rw [e2, e4]
                exact ⟨A3, c3, rfl, e1.weaken HB.out.size, HB.out.trans ((HBB.out.trans (HB3.out.mono (Nat.le_refl _))).mono HB.out.size)⟩
              case neg =>
                have hbi : ¬ ((q : Int) + (l : Int) ≤ 8192) := by omega
                have hbj : (8192 : Int) < (q : Int) + (l : Int) := by omega
                go_wp2_with (at_builtin; refine wpl_appRN _ Tryz.underlying31 infoInt rfl _ _ rfl w0.heap.size _ _ _ _ rfl HO2.out (some ⟨b, o + q, none⟩) (0) (c - q) w0.heap.size (zs.drop (q)) rfl (hrs.out.below HBB.out (Nat.le_refl _)) (fun e => by cases e) (q + l) (by omega) (by omega) HBB.out.size ?_; intro A3 c3 w3 hown3 hB3 hg3; have hcap := hown3.cap.1; have hcap2 : 8192 ≤ c3 := (by omega); have HO3 := Lib.hid hown3; have HB3 := Lib.hid (hB3 _ (Nat.le_refl _)); clear hown3 hB3 hg3)
                go_ret
                have e1 := HO3.out.cut (k := 8192) (by omega)
                have e2 : N0 = 8192 := by have := HN0.out; omega
                have e4 : R0 = (zs.take q ++ List.replicate l v ++ zs.drop q).take 8192 := by
                  rw [← HR0.out]
                rw [e2, e4]
                exact ⟨A3, c3, rfl, e1.weaken HB.out.size, HB.out.trans ((HBB.out.trans (HB3.out.mono (Nat.le_refl _))).mono HB.out.size)⟩
        · skip
          have hqlt : q < n := by omega
          have hle2 : (n : Int) ≤ (q : Int) + (l : Int) := by omega
          have hcq : q ≤ c := by omega
          have hgt : ¬ ((q : Int) > (n : Int)) := by omega
          have hnq : ¬ (n < q) := by omega
          have hrp := Lib.hid (hr0.pre (k := q) (by omega))
          have hrs := Lib.hid (hr0.suf (k := q) (by omega))
          go_enter Tryz.func64, Tryz.ntmps64
          go_wp2_with fail
          go_region
          all_goals
            go_upto_region 13 with fail
            go_cut [8] (fun v8 wc => ∃ A2 c2, v8 = .slice A2 (q + l) c2 ∧ OwnI 2 wc w0.heap.size A2 (q + l) c2 (zs.take (q) ++ List.replicate l v) ∧ Below w0.heap.size w0 wc)
            case first =>
              go_region_law (first
                | ((refine step_call 63 Tryz.func63 own_fn.1 own_fn.2 rfl rfl #[.slice (some ⟨b, o, none⟩) (q) c] ?_ ?_); (simp [Act.eval, Act.put]); (refine (l01Own_any (some ⟨b, o, none⟩) (q) c (zs.take (q)) _ (by first | exact hrp.out | exact hrp.out.up (below_dd HB5.out)) (by omega) (fun e => by cases e)).mono ?_); rintro e w1 ⟨A1, c1, rfl, hown1, hb1⟩; (refine ⟨_, rfl, ?_⟩); have HO := Lib.hid hown1; have HB1 := Lib.hid hb1; have hbx1 : Blk4 w1 w.heap.size 87 (.int .i64 4) (.int .i64 q) (.int .i64 l) (.int .i64 v) := (by first | exact Blk4.next (w := w0.drew.drew) hb1 hbx | exact Blk4.next hb1 hbx5); have hx12 := hbx1.c2; have hx13 := hbx1.c3; clear hown1 hb1)
                | ((refine step_call 43 Tryz.func43 equal_fn.1 equal_fn.2 rfl rfl #[.int .i64 l, .int .i64 v] ?_ ?_); (simp [Act.eval]); (refine (l20Equal_any l v _ (by omega)).mono ?_); rintro e w5 ⟨A5, c5, rfl, hown5, hb5⟩; (refine ⟨_, rfl, ?_⟩); have HE := Lib.hid hown5; have HB5 := Lib.hid hb5; have hbx5 : Blk4 w5 w.heap.size 87 (.int .i64 4) (.int .i64 q) (.int .i64 l) (.int .i64 v) := (by first | exact Blk4.next (w := w0.drew.drew) hb5 hbx | exact Blk4.next hb5 hbx1); have hx52 := hbx5.c2; have hx53 := hbx5.c3; clear hown5 hb5)
                | (refine step_appRN _ Tryz.underlying31 infoInt rfl (.tmp 57) (.tmp 62) rfl w0.heap.size A1 (q) c1 (zs.take (q)) (by simp [Act.eval]) (by first | exact (HO.out.below HB5.out).weaken (Nat.le_refl _) | exact HO.out.weaken HB5.out.size) A5 l c5 _ (List.replicate l v) (by simp [Act.eval]) (by first | exact HE.out.reads | exact HE.out.reads.up HB1.out) (own_none HE.out) (q + l) (by omega) (by omega) (by first | exact Nat.le_trans HB1.out.size HB5.out.size | exact Nat.le_trans HB5.out.size HB1.out.size) ?_; intro A2 c2 w2 hown2 hB2 hg2; have HO2 := Lib.hid hown2; have hbb : Below w0.heap.size w0 w2 := (by first | exact (below_next HB5.out (below_dd HB1.out) (Nat.le_refl _)).trans (hB2 _ (Nat.le_refl _)) | exact (below_next HB1.out (below_dd HB5.out) (Nat.le_refl _)).trans (hB2 _ (Nat.le_refl _))); have HBB := Lib.hid hbb; clear hown2 hB2 hg2 hbb))
              all_goals
                go_wp2_with fail
                go_meet
                exact ⟨A2, c2, rfl, HO2.out, HBB.out⟩
            case rest =>
              obtain ⟨A2, c2, rfl, hown2, hbb⟩ := hcut
              have HO2 := Lib.hid hown2
              have HBB := Lib.hid hbb
              clear hown2 hbb
              by_cases hbig : n + l ≤ 8192
              case pos =>
                have hbi : ((n + l : Nat) : Int) ≤ 8192 := by omega
                have hbj : (n : Int) + (l : Int) ≤ 8192 := by omega
                go_wp2_with (at_builtin; refine wpl_appRN _ Tryz.underlying31 infoInt rfl _ _ rfl w0.heap.size _ _ _ _ rfl HO2.out (some ⟨b, o + q, none⟩) (n - q) (c - q) w0.heap.size (zs.drop (q)) rfl (hrs.out.below HBB.out (Nat.le_refl _)) (fun e => by cases e) (n + l) (by omega) (by omega) HBB.out.size ?_; intro A3 c3 w3 hown3 hB3 hg3; have hcap := hown3.cap.1; have hcap2 : (n : Int) + (l : Int) ≤ (c3 : Int) := (by omega); have HO3 := Lib.hid hown3; have HB3 := Lib.hid (hB3 _ (Nat.le_refl _)); clear hown3 hB3 hg3)
                go_ret
                have e1 := HO3.out
                have e2 : N0 = n + l := by have := HN0.out; omega
                have e4 : R0 = zs.take q ++ List.replicate l v ++ zs.drop q := by
                  rw [← e1.len] at hbig
                  rw [← HR0.out]
                  exact List.take_of_length_le hbig
                rw [e2, e4]
                exact ⟨A3, c3, rfl, e1.weaken HB.out.size, HB.out.trans ((HBB.out.trans (HB3.out.mono (Nat.le_refl _))).mono HB.out.size)⟩
              case neg =>
                have hbi : ¬ ((n : Int) + (l : Int) ≤ 8192) := by omega
                have hbj : (8192 : Int) < (n : Int) + (l : Int) := by omega
                go_wp2_with (at_builtin; refine wpl_appRN _ Tryz.underlying31 infoInt rfl _ _ rfl w0.heap.size _ _ _ _ rfl HO2.out (some ⟨b, o + q, none⟩) (n - q) (c - q) w0.heap.size (zs.drop (q)) rfl (hrs.out.below HBB.out (Nat.le_refl _)) (fun e => by cases e) (n + l) (by omega) (by omega) HBB.out.size ?_; intro A3 c3 w3 hown3 hB3 hg3; have hcap := hown3.cap.1; have hcap2 : 8192 ≤ c3 := (by omega); have HO3 := Lib.hid hown3; have HB3 := Lib.hid (hB3 _ (Nat.le_refl _)); clear hown3 hB3 hg3)
                go_ret
                have e1 := HO3.out.cut (k := 8192) (by omega)
                have e2 : N0 = 8192 := by have := HN0.out; omega
                have e4 : R0 = (zs.take q ++ List.replicate l v ++ zs.drop q).take 8192 := by
                  rw [← HR0.out]
                rw [e2, e4]
                exact ⟨A3, c3, rfl, e1.weaken HB.out.size, HB.out.trans ((HBB.out.trans (HB3.out.mono (Nat.le_refl _))).mono HB.out.size)⟩

set_option maxRecDepth 20000 in
set_option maxHeartbeats 8000000 in
theorem l24Apply_far (A : Option Addr) (n c : Nat) (zs : List Int) (q l : Nat) (v : Int) (w : World) (hri : RI w w.heap.size A n zs) (hn : n ≤ 8192) (hq : q ≤ 8192) (hl : l ≤ 8192) (hA : Pl A c) (hqn : n < q) :
    Calls Tryz.prog 64 #[.slice A n c, .agg #[.int .i64 4, .int .i64 q, .int .i64 l, .int .i64 v]] w (RetI 2 w n zs) := by
  have hb0 : Below w.heap.size w (w.alloc (.cells #[.int .i64 4, .int .i64 q, .int .i64 l, .int .i64 v] 87)) := (Below.refl _ _).alloc (Nat.le_refl _) _
  have hr0 := hri.up hb0
  have hbx := Blk4.new w 87 (.int .i64 4) (.int .i64 q) (.int .i64 l) (.int .i64 v)
  obtain ⟨w0, hw0⟩ : ∃ x, w.alloc (.cells #[.int .i64 4, .int .i64 q, .int .i64 l, .int .i64 v] 87) = x := ⟨_, rfl⟩
  rw [hw0] at hb0 hr0 hbx
  have hk0 := hbx.c0
  have hk1 := hbx.c1
  have hk2 := hbx.c2
  have HB := Lib.hid hb0
  have hle : n ≤ q := by omega
  have hle2 : (n : Int) ≤ (q : Int) + (l : Int) := by omega
  have hgt : (q : Int) > (n : Int) := by omega
  clear hb0 hbx
  go_enter Tryz.func64, Tryz.ntmps64
  go_wp2_with fail
  go_region
  all_goals
    go_wp2_with fail
    refine (l01Own_any A n c zs _ (by exact hr0) (by omega) hA.cap).mono ?_
    rintro e w1 ⟨A1, c1, rfl, hown1, hb1⟩
    have HO := Lib.hid hown1
    have HB1 := Lib.hid hb1
    clear hown1 hb1
    go_wp2
    go_ret
    exact ⟨A1, c1, rfl, HO.out.weaken HB.out.size, below_next_drew HB1.out HB.out (Nat.le_refl _)⟩
end ApplyFault
end Go.Proofs.YtbaojbheopcjhaaGreatDoor

namespace Go.Proofs.YtbaojbheopcjhaaGreatDoor
open Go.RowKit

section
variable {P : Program} {ops : Array Oper} {o : Oper} {a : Act} {K : Act → World → Prop} {Q : Exit → Act → World → Prop} {E : Prop} {rest : List Oper}
/-- 'append(s[:i], x...)' where there is room, s an own row that is known whole, as a step of a region that draws -/
theorem step_append_row (w : World) (hgd : o.guard = none) (s x : Operand) {TS T : TypeId} (ho : o.op = .call { callee := .builtin .append, args := #[s, x], argTypes := #[TS, TS] })
    (ht : P.underlying TS = some (.slice T)) (hinfo : (P.info? T).map (fun i => (i.zero, i.size, i.bytes)) = some (some (.int .i64 0), 1, 8))
    (g i c : Nat) (cur : List Value) (hg : w.heap[g]? = some (.cells cur.toArray T (0, 0))) (hs : a.eval s = .slice (some ⟨g, 0, none⟩) i c)
    (ad : Addr) (m cx : Nat) (hx : a.eval x = .slice (some ad) m cx) (news : List Value) (hl : news.length = m) (hsrc : ∀ j u, news[j]? = some u → w.cell? (ad.add j) = some u) (h1 : ∀ u ∈ news, u.oneCell' = true)
    (hroom : i + m ≤ c) (hfit : i + m ≤ cur.length)
    (hK : ∀ w', Hid (w'.heap[g]? = some (.cells (splice cur i news).toArray T (0, 0))) → w.grownBy w' (some g) → K (a.put o.dst (.slice (some ⟨g, 0, none⟩) (i + m) c)) w') :
    if Region.wanted o (yielded ops a.tmps) = true then Oper.wp P o a w K Q else E := by
  have hw : Region.wanted o (yielded ops a.tmps) = true := by simp [Region.wanted, hgd]
  rw [if_pos hw]
  obtain ⟨inf, hi, hz, hs1, hb1⟩ := info_split hinfo
  have hrun := run_append_room (P := P) w TS o.type T inf ht hi g i c cur.toArray hg ad m cx news (by rw [hs1, Nat.mul_one]; exact hl) hsrc h1 hroom (by rw [hs1, Nat.mul_one, hl]; simpa using hfit)
  rw [hs1, Nat.mul_one] at hrun
  unfold Oper.wp
  simp [execOp, ho, resolve, invoke, builtin, hs, hx, hrun, Result.andThen]
  refine hK _ ?_ (grown_setRow _ _ _)
  show _ = _
  rw [setRow_heap w g _ _ T _ hg]
  simp [splice]
/-- 'clear(s)' on an own row that is known whole -/
theorem wpl_clear (w : World) (hgd : o.guard = none) (s : Operand) {TS T : TypeId} (ho : o.op = .call { callee := .builtin .clear, args := #[s], argTypes := #[TS] })
    (ht : P.underlying TS = some (.slice T)) (hinfo : (P.info? T).map (fun i => (i.zero, i.size, i.bytes)) = some (some (.int .i64 0), 1, 8))
    (g off m c : Nat) (cur : List Value) (hg : w.heap[g]? = some (.cells cur.toArray T (0, 0))) (hs : a.eval s = .slice (some ⟨g, off, none⟩) m c) (hm : 0 < m) (hfit : off + m ≤ cur.length)
    (h : ∀ w', Hid (w'.heap[g]? = some (.cells (splice cur off (List.replicate m (.int .i64 0))).toArray T (0, 0))) → w.grownBy w' (some g) → wpList P ops Q rest (a.put o.dst (.tuple #[])) w') :
    wpList P ops Q (o :: rest) a w := by
  obtain ⟨inf, hi, hz, hs1, hb1⟩ := info_split hinfo
  refine wpList_plain hgd fun K hK => ?_
  have hv : ∀ w, (zeroValue T).run P w = .ok (.int .i64 0) w := fun w => by simp [zeroValue, typeInfo, hi, hz]
  have hzc : (Builtin.zeroCells (Value.int .i64 0).cells m).toList = List.replicate m (.int .i64 0) := by
    simp [Builtin.zeroCells, Value.cells]
    apply List.ext_getElem
    · simp
    · intro i h1 h2
      simp [Nat.mod_one]
  have hst := run_storeCells_at P g off T (List.replicate m (.int .i64 0)) 0 cur.toArray w hg (by simpa using hfit) (by intro v hv'; rw [List.eq_of_mem_replicate hv']; rfl)
  simp only [Nat.add_zero] at hst
  obtain ⟨Z, hZ⟩ : ∃ Z, List.replicate m (Value.int .i64 0) = Z := ⟨_, rfl⟩
  rw [hZ] at hst hzc h
  have hst' : (storeCells ⟨g, off, none⟩ Z).run P w = .ok () (w.setRow g (splice cur off Z).toArray) := by rw [hst]; simp [splice]
  clear hst hZ
  obtain ⟨m', rfl⟩ : ∃ m', m = m' + 1 := ⟨m - 1, by omega⟩
  have hrun : (Builtin.clear_ #[TS] o.type #[.slice (some ⟨g, off, none⟩) (m' + 1) c]).run P w = .ok (.tuple #[]) (w.setRow g (splice cur off Z).toArray) := by
    simp [Builtin.clear_, run_underlying ht, hv, hzc, hst']
  unfold Oper.wp
  simp [execOp, ho, resolve, invoke, builtin, hs, hrun, Result.andThen]
  refine hK _ _ (h _ ?_ (grown_setRow _ _ _))
  show _ = _
  rw [setRow_heap w g _ _ T _ hg]
end

set_option maxRecDepth 20000 in
set_option maxHeartbeats 4000000 in
theorem delete_same (A : Option Addr) (n c i : Nat) (w : World) (hi : i ≤ n) (hc : n ≤ c) :
    Calls Tryz.prog 96 #[.slice A n c, .int .i64 i, .int .i64 i] w fun e w' => e = .returned (.slice A n c) ∧ w = w' := by
  go_enter Tryz.func96, Tryz.ntmps96
  go_wp2
  all_goals
    go_ret
    exact ⟨rfl, rfl⟩

set_option maxRecDepth 20000 in
set_option maxHeartbeats 8000000 in
theorem delete_row (g n c i j base : Nat) (zs : List Int) (w : World) (hown : OwnI 2 w base (some ⟨g, 0, none⟩) n c zs) (hij : i < j) (hj : j ≤ n) (hn : n ≤ 1099511627776) :
    Calls Tryz.prog 96 #[.slice (some ⟨g, 0, none⟩) n c, .int .i64 i, .int .i64 j] w fun e w' => e = .returned (.slice (some ⟨g, 0, none⟩) (n - (j - i)) c) ∧ OwnI 2 w' base (some ⟨g, 0, none⟩) (n - (j - i)) c (zs.take i ++ zs.drop j) ∧ w.grownBy w' (some g) := by
  have L := Lib.hid hown.len
  obtain ⟨cur, hh, hbg, hnc, hcm, hcl, htk⟩ := hown.open
  have HH := Lib.hid hh
  have HCL := Lib.hid hcl
  have HTK := Lib.hid htk
  have hcm2 := hcm
  unfold maxLen at hcm2
  have hX : (cur.take n).drop j = ci (zs.drop j) := by rw [htk, ci_drop]
  have HX := Lib.hid hX
  have hXl : ((cur.take n).drop j).length = n - j := by rw [List.length_drop, List.length_take]; omega
  obtain ⟨X, hXe⟩ : ∃ X, (cur.take n).drop j = X := ⟨_, rfl⟩
  rw [hXe] at hXl
  have HXL := Lib.hid hXl
  have HXE := Lib.hid hXe
  have hX1 : ∀ u ∈ X, u.oneCell' = true := by rw [← hXe, hX]; exact ci_one _
  have HX1 := Lib.hid hX1
  have hsrc : ∀ (k : Nat) (u : Value), X[k]? = some u → w.drew.cell? ⟨g, j + k, none⟩ = some u := by
    intro k u hu
    rw [← hXe, List.getElem?_drop, List.getElem?_take] at hu
    split at hu
    · exact cells_of_row hh hu
    · cases hu
  have HSRC := Lib.hid hsrc
  have hsum : i + (n - j) = n - (j - i) := by omega
  have HSUM := Lib.hid hsum
  clear hsum hsrc hX1 hXe hXl hX htk hcl hh hown
  by_cases hjc : c = j
  · obtain rfl : n = j := by omega
    obtain rfl := hjc
    have hic : i ≤ c := by omega
    have hX0 : X = [] := List.length_eq_zero_iff.1 (by rw [HXL.out]; omega)
    have HX0 := Lib.hid hX0
    clear hX0
    go_enter Tryz.func96, Tryz.ntmps96
    go_wp2_with fail
    go_region_law (refine step_append_row _ rfl (.tmp 22) (.tmp 25) rfl Tryz.underlying31 infoInt g i c cur HH.out (by simp [Act.eval, Act.put]) ⟨g, 0, none⟩ 0 0 (by simp [Act.eval, Act.put]) X (by rw [HX0.out]; rfl) (by intro k u hu; rw [HX0.out] at hu; cases hu) HX1.out (by omega) (by have := HCL.out; omega) ?_; intro w2 hh2 hg2)
    have HH2 := hh2
    clear hh2
    go_wp2_with (with_reducible refine wpl_clear _ rfl (.tmp 31) rfl Tryz.underlying31 infoInt g i (c - i) (c - i) (splice cur i X) HH2.out (by simp [Act.eval]) (by omega) ?_ ?_; (rw [length_splice _ _ _ (by have := HXL.out; have := HCL.out; omega)]; have := HCL.out; omega); intro w3 hh3 hg3)
    go_ret
    have e1 := HSUM.out
    have e2 := HCL.out
    have e3 := HXL.out
    refine ⟨?_, OwnI.shut hh3.out hbg (by omega) hcm ?_ ?_, grown_tr (grown_drew hg2) hg3⟩
    · rw [← e1, Nat.sub_self]; rfl
    · have l1 : (splice cur i X).length = c := by rw [length_splice cur i X (by omega)]; exact e2
      exact (length_splice (splice cur i X) i (List.replicate (c - i) (Value.int .i64 0)) (by rw [l1, List.length_replicate]; omega)).trans l1
    · rw [← e1, Nat.sub_self, Nat.add_zero, splice_take (L := splice cur i X) (k := i) (by rw [length_splice cur i X (by omega)]; omega)]
      have := splice_cut (cur := cur) (i := i) e3 hj (by omega) (by omega)
      rw [show c - (c - i) = i from by omega] at this
      rw [this, ← HXE.out, HX.out, ci_app, ci_take, ← HTK.out, List.take_take, Nat.min_eq_left (by omega)]
  · have hne : ¬ (c = j) := hjc
    have hic : i ≤ c := by omega
    have hjc2 : j ≤ c := by omega
    go_enter Tryz.func96, Tryz.ntmps96
    go_wp2_with fail
    go_region_law (refine step_append_row _ rfl (.tmp 22) (.tmp 25) rfl Tryz.underlying31 infoInt g i c cur HH.out (by simp [Act.eval, Act.put]) ⟨g, j, none⟩ (n - j) (c - j) (by simp [Act.eval, Act.put]) X HXL.out (by intro k u hu; rw [Go.WideShapes.add_plain]; exact HSRC.out k u hu) HX1.out (by omega) (by have := HCL.out; omega) ?_; intro w2 hh2 hg2)
    have HH2 := hh2
    clear hh2
    have hfit2 : i + (n - j) + (j - i) = n := by omega
    have HF2 := Lib.hid hfit2
    clear hfit2
    go_wp2_with (with_reducible refine wpl_clear _ rfl (.tmp 31) rfl Tryz.underlying31 infoInt g (i + (n - j)) (n - (i + (n - j))) (c - (i + (n - j))) (splice cur i X) HH2.out (by simp [Act.eval]) (by omega) ?_ ?_; (rw [length_splice _ _ _ (by have := HXL.out; have := HCL.out; omega)]; have := HCL.out; omega); intro w3 hh3 hg3)
    go_ret
    have e1 := HSUM.out
    have e2 := HCL.out
    have e3 := HXL.out
    refine ⟨?_, OwnI.shut hh3.out hbg (by omega) hcm ?_ ?_, grown_tr (grown_drew hg2) hg3⟩
    · rw [← e1]; rfl
    · have l1 : (splice cur i X).length = c := by rw [length_splice cur i X (by omega)]; exact e2
      exact (length_splice (splice cur i X) (i + (n - j)) (List.replicate (n - (i + (n - j))) (Value.int .i64 0)) (by rw [l1, List.length_replicate]; omega)).trans l1
    · rw [← e1, splice_take (L := splice cur i X) (k := i + (n - j)) (by rw [length_splice cur i X (by omega)]; omega), e1, splice_cut e3 hj (by omega) (by omega), ← HXE.out, HX.out, ci_app, ci_take, ← HTK.out, List.take_take, Nat.min_eq_left (by omega)]
theorem delete_any (A : Option Addr) (n c i j base : Nat) (zs : List Int) (w : World) (hown : OwnI 2 w base A n c zs) (hij : i ≤ j) (hj : j ≤ n) (hn : n ≤ 1099511627776) :
    Calls Tryz.prog 96 #[.slice A n c, .int .i64 i, .int .i64 j] w fun e w' => e = .returned (.slice A (n - (j - i)) c) ∧ OwnI 2 w' base A (n - (j - i)) c (zs.take i ++ zs.drop j) ∧ w.grownBy w' (Value.slice A n c).ownBlock := by
  rcases Nat.lt_or_ge i j with h | h
  · obtain ⟨g, rfl, _, _⟩ := hown.form (by omega)
    exact delete_row g n c i j base zs w hown h hj hn
  · obtain rfl : i = j := by omega
    refine (delete_same A n c i w hj hown.cap.1).mono ?_
    rintro e w' ⟨rfl, rfl⟩
    rw [Nat.sub_self, Nat.sub_zero, List.take_append_drop]
    exact ⟨rfl, hown, World.grownBy.refl _ _⟩
end Go.Proofs.YtbaojbheopcjhaaGreatDoor

namespace Go.Proofs.YtbaojbheopcjhaaGreatDoor
open Go.RowKit

section
variable {P : Program} {ops : Array Oper} {o : Oper} {a : Act} {K : Act → World → Prop} {Q : Exit → Act → World → Prop} {E : Prop} {rest : List Oper}
theorem run_copy_ci (w : World) {TS T ty : TypeId} (ht : P.underlying TS = some (.slice T)) (hinfo : (P.info? T).map (fun i => (i.zero, i.size, i.bytes)) = some (some (.int .i64 0), 1, 8))
    (g off dLen dCap : Nat) (ad : Addr) (sLen sCap : Nat) (cur : List Value) (hg : w.heap[g]? = some (.cells cur.toArray T (0, 0))) (cs : List Value) (hn : cs.length = Nat.min sLen dLen)
    (hsrc : ∀ j u, cs[j]? = some u → w.cell? (ad.add j) = some u) (hfit : off + cs.length ≤ cur.length) (h1 : ∀ u ∈ cs, u.oneCell' = true) :
    ∃ w', (Builtin.copy_ #[TS, TS] ty #[.slice (some ⟨g, off, none⟩) dLen dCap, .slice (some ad) sLen sCap]).run P w = .ok (goInt cs.length) w' ∧ Hid (w'.heap[g]? = some (.cells (splice cur off cs).toArray T (0, 0))) ∧ w.grownBy w' (some g) := by
  obtain ⟨i, hi, hz, hs1, hb1⟩ := info_split hinfo
  have hrun := run_copy_row (P := P) w TS TS ty T g off dLen dCap ad sLen sCap cur.toArray T cs ht (by rw [hi]; simp [hs1]) hg hn hsrc (by simpa using hfit) h1
  refine ⟨_, hrun, ?_, grown_setRow _ _ _⟩
  show _ = _
  rw [setRow_heap w g _ _ T _ hg]
  simp [splice]
/-- 'copy(d, s)' onto an own row that is known whole -/
theorem wpl_copy (w : World) (hgd : o.guard = none) (d s : Operand) {TS T : TypeId} (ho : o.op = .call { callee := .builtin .copy, args := #[d, s], argTypes := #[TS, TS] })
    (ht : P.underlying TS = some (.slice T)) (hinfo : (P.info? T).map (fun i => (i.zero, i.size, i.bytes)) = some (some (.int .i64 0), 1, 8))
    (g off dLen dCap : Nat) (ad : Addr) (sLen sCap : Nat) (hd : a.eval d = .slice (some ⟨g, off, none⟩) dLen dCap) (hs : a.eval s = .slice (some ad) sLen sCap)
    (cur : List Value) (hg : w.heap[g]? = some (.cells cur.toArray T (0, 0))) (cs : List Value) (hn : cs.length = Nat.min sLen dLen)
    (hsrc : ∀ j u, cs[j]? = some u → w.cell? (ad.add j) = some u) (hfit : off + cs.length ≤ cur.length) (h1 : ∀ u ∈ cs, u.oneCell' = true)
    (h : ∀ w', Hid (w'.heap[g]? = some (.cells (splice cur off cs).toArray T (0, 0))) → w.grownBy w' (some g) → wpList P ops Q rest (a.put o.dst (goInt cs.length)) w') :
    wpList P ops Q (o :: rest) a w := by
  obtain ⟨w', hrun, h2, h3⟩ := run_copy_ci (P := P) (ty := o.type) w ht hinfo g off dLen dCap ad sLen sCap cur hg cs hn hsrc hfit h1
  refine wpList_plain hgd fun K hK => ?_
  unfold Oper.wp
  simp [execOp, ho, resolve, invoke, builtin, hd, hs, hrun, Result.andThen]
  exact hK _ _ (h w' h2 h3)
theorem step_copy (w : World) (hgd : o.guard = none) (d s : Operand) {TS T : TypeId} (ho : o.op = .call { callee := .builtin .copy, args := #[d, s], argTypes := #[TS, TS] })
    (ht : P.underlying TS = some (.slice T)) (hinfo : (P.info? T).map (fun i => (i.zero, i.size, i.bytes)) = some (some (.int .i64 0), 1, 8))
    (g off dLen dCap : Nat) (ad : Addr) (sLen sCap : Nat) (hd : a.eval d = .slice (some ⟨g, off, none⟩) dLen dCap) (hs : a.eval s = .slice (some ad) sLen sCap)
    (cur : List Value) (hg : w.heap[g]? = some (.cells cur.toArray T (0, 0))) (cs : List Value) (hn : cs.length = Nat.min sLen dLen)
    (hsrc : ∀ j u, cs[j]? = some u → w.cell? (ad.add j) = some u) (hfit : off + cs.length ≤ cur.length) (h1 : ∀ u ∈ cs, u.oneCell' = true)
    (h : ∀ w', Hid (w'.heap[g]? = some (.cells (splice cur off cs).toArray T (0, 0))) → w.grownBy w' (some g) → K (a.put o.dst (goInt cs.length)) w') :
    if Region.wanted o (yielded ops a.tmps) = true then Oper.wp P o a w K Q else E := by
  have hw : Region.wanted o (yielded ops a.tmps) = true := by simp [Region.wanted, hgd]
  rw [if_pos hw]
  obtain ⟨w', hrun, h2, h3⟩ := run_copy_ci (P := P) (ty := o.type) w ht hinfo g off dLen dCap ad sLen sCap cur hg cs hn hsrc hfit h1
  unfold Oper.wp
  simp [execOp, ho, resolve, invoke, builtin, hd, hs, hrun, Result.andThen]
  exact h w' h2 h3
/-- 'append(s[:i], make([]int64, k)...)' where there is no room: a new row -/
theorem wpl_app_zeros (w : World) (hgd : o.guard = none) (s x : Operand) {TS TI T : TypeId} {kn : IntKind} (ho : o.op = .call { callee := .builtin .append, args := #[s, x], argTypes := #[TS, TI] })
    (ht : P.underlying TS = some (.slice T)) (hti : P.underlying TI = some (.int kn)) (hinfo : (P.info? T).map (fun i => (i.zero, i.size, i.bytes)) = some (some (.int .i64 0), 1, 8))
    (base : Nat) (A : Option Addr) (n c : Nat) (zs : List Int) (hs : a.eval s = .slice A n c) (hown : OwnI T w base A n c zs) (k : Nat) (hx : a.eval x = .int .i64 k) (hk : 0 < k) (N : Nat) (hN : n + k = N) (hc : c < N) (hn : N ≤ 1099511627776) (hbase : base ≤ w.heap.size)
    (h : ∀ g' c' w', g' = w.heap.size → OwnI T w' base (some ⟨g', 0, none⟩) N c' (zs ++ List.replicate k 0) → w.grownBy w' none → wpList P ops Q rest (a.put o.dst (.slice (some ⟨g', 0, none⟩) N c')) w') :
    wpList P ops Q (o :: rest) a w := by
  subst hN
  obtain ⟨i, hi, hz, hs1, hb1⟩ := info_split hinfo
  have hL := hown.len
  have hold : (Builtin.firstCells i.size n (.slice A n c)).run P w.drew = .ok (ci zs).toArray w.drew := by
    rw [hs1]
    rcases A with _ | ad
    · have h0 : n = 0 := by
        rcases Nat.eq_zero_or_pos n with hh | hh
        · exact hh
        · obtain ⟨g, e, _⟩ := hown.form hh; cases e
      subst h0
      obtain rfl : zs = [] := List.length_eq_zero_iff.1 hL
      exact run_firstCells_none w.drew 1 0 0 c
    · refine run_firstCells_some w.drew 1 n ad n c (ci zs) (by rw [ci_len, hL, Nat.mul_one]) (fun j u hj => ?_)
      obtain ⟨hj1, rfl⟩ := ci_get hj
      obtain ⟨g, e, _⟩ := hown.form (by omega)
      obtain rfl := Option.some.inj e
      rw [Go.WideShapes.add_plain, Nat.zero_add]
      exact hown.cell (by omega)
  have hrun := Lib.run_append_grow_zeros (P := P) w TS TI o.type T i (.int .i64 0) .i64 kn ht hti hi hz A n c (ci zs) hold k hk (by omega) hc (by omega) (by rw [hb1]; omega) (by rw [hb1]; exact growslice_fits hc (by omega))
  refine Lib.wpList_append_run w hgd s x TS TI ho _ _ hs hx _ _ hrun (h w.heap.size (grownCap w (n + k) c T) _ rfl ?_ (grown_drew (World.grownBy_alloc w.drew _ none)))
  have hz1 : ∀ q, (Builtin.zeroCells (Value.int .i64 0).cells q).toList = List.replicate q (.int .i64 0) := by
    intro q
    simp [Builtin.zeroCells, Value.cells]
    apply List.ext_getElem
    · simp
    · intro i h1 h2
      simp [Nat.mod_one]
  have hge := grownCap_ge w (n + k) c T
  refine OwnI.shut (cur := ci zs ++ List.replicate k (.int .i64 0) ++ List.replicate (grownCap w (n + k) c T - (n + k)) (.int .i64 0)) ?_ hbase hge (grownCap_le_maxLen w _ _ _ (by unfold maxLen; omega)) ?_ ?_
  · have := new_heap w.drew (.cells ((ci zs).toArray ++ Builtin.zeroCells (Value.int .i64 0).cells k ++ Builtin.zeroCells (Value.int .i64 0).cells (grownCap w (n + k) c T - (n + k))) T)
    refine Eq.trans this ?_
    congr 2
    apply Array.toList_inj.1
    rw [Array.toList_append, Array.toList_append, hz1, hz1]
  · simp only [List.length_append, ci_len, hL, List.length_replicate]; omega
  · rw [List.take_append_of_le_length (by simp only [List.length_append, ci_len, hL, List.length_replicate]; omega), List.take_of_length_le (by simp only [List.length_append, ci_len, hL, List.length_replicate]; omega), ci_app]
    simp [ci]
end

theorem ownBlock_cap (A : Option Addr) (n c n' c' : Nat) : (Value.slice A n c).ownBlock = (Value.slice A n' c').ownBlock := by cases A <;> rfl
/-- the numbers to be inserted lie in plain memory -/
def Lies (w : World) (vb vo m : Nat) (ys : List Int) : Prop :=
  ys.length = m ∧ (∃ cur t, w.heap[vb]? = some (.cells cur t (0, 0))) ∧ ∀ j, j < m → w.cell? ⟨vb, vo + j, none⟩ = some (.int .i64 (gi ys j))

set_option maxRecDepth 20000 in
set_option maxHeartbeats 4000000 in
theorem insert_zero (A A2 : Option Addr) (n c i c2 : Nat) (w : World) (hi : i ≤ n) (_ : n ≤ c) :
    Calls Tryz.prog 97 #[.slice A n c, .int .i64 i, .slice A2 0 c2] w fun e w' => e = .returned (.slice A n c) ∧ w = w' := by
  go_enter Tryz.func97, Tryz.ntmps97
  go_wp2
  all_goals
    go_ret
    exact ⟨rfl, rfl⟩

set_option maxRecDepth 20000 in
set_option maxHeartbeats 4000000 in
theorem insert_end (A : Option Addr) (n c vb vo m c2 base : Nat) (zs ys : List Int) (w : World) (hown : OwnI 2 w base A n c zs) (hL : Lies w vb vo m ys) (hm : 0 < m) (hn : n + m ≤ 1099511627776) (hbase : base ≤ w.heap.size) :
    Calls Tryz.prog 97 #[.slice A n c, .int .i64 n, .slice (some ⟨vb, vo, none⟩) m c2] w fun e w' => ∃ A' c', e = .returned (.slice A' (n + m) c') ∧ OwnI 2 w' base A' (n + m) c' (zs ++ ys) ∧ w.grownBy w' (Value.slice A n c).ownBlock := by
  have hnc := hown.cap.1
  have hri : RI w (vb + 1) (some ⟨vb, vo, none⟩) m ys := ⟨hL.1, fun _ => ⟨vb, vo, rfl, Nat.lt_succ_self _, hL.2.2⟩⟩
  have HR := Lib.hid hri
  have HO := Lib.hid hown
  clear hri hL hown
  go_enter Tryz.func97, Tryz.ntmps97
  go_wp2_with (at_builtin; refine wpl_appR _ Tryz.underlying31 infoInt rfl _ _ rfl base _ _ _ _ rfl HO.out (some ⟨vb, vo, none⟩) m c2 (vb + 1) ys rfl HR.out (fun e => by cases e) (by omega) hbase ?_; intro A2 c2 w2 hown2 hB2 hg2)
  all_goals
    go_ret
    exact ⟨_, _, rfl, hown2, by rw [ownBlock_cap A n _ n c]; exact hg2⟩

set_option maxRecDepth 20000 in
set_option maxHeartbeats 8000000 in
theorem insert_shift (g n c i vb vo m c2 base : Nat) (zs ys : List Int) (w : World) (hown : OwnI 2 w base (some ⟨g, 0, none⟩) n c zs) (hL : Lies w vb vo m ys) (hne : vb ≠ g) (hi : i < n) (hm : 0 < m) (hroom : n + m ≤ c) (hn : n + m ≤ 1099511627776) :
    Calls Tryz.prog 97 #[.slice (some ⟨g, 0, none⟩) n c, .int .i64 i, .slice (some ⟨vb, vo, none⟩) m c2] w fun e w' => e = .returned (.slice (some ⟨g, 0, none⟩) (n + m) c) ∧ OwnI 2 w' base (some ⟨g, 0, none⟩) (n + m) c (zs.take i ++ ys ++ zs.drop i) ∧ w.grownBy w' (some g) := by
  have L := Lib.hid hown.len
  obtain ⟨cur, hh, hbg, hnc, hcm, hcl, htk⟩ := hown.open
  have hcm2 := hcm
  unfold maxLen at hcm2
  have HH := Lib.hid hh
  have HCL := Lib.hid hcl
  have HTK := Lib.hid htk
  have hz1 : ¬ ((m : Int) = 0) := by omega
  have hz2 : ¬ ((i : Int) = (n : Int)) := by omega
  obtain ⟨hyl, ⟨cur2, t2, hh2⟩, hyc⟩ := hL
  have hov : ∀ lb cb, (callFunc 131 #[.slice (some ⟨vb, vo, none⟩) m c2, .slice (some ⟨g, i + m, none⟩) lb cb]).run Tryz.prog w = .ok (.value (.bool false)) w := fun lb cb => by
    rw [run_callFunc_extern Tryz.func131 (by kernel_rfl) (by kernel_rfl) (by kernel_rfl) (e := Extern.SlicesOverlaps.overlaps #[31, 31] #[4]) (by kernel_rfl),
      Lib.run_overlaps_apart w 31 4 2 Tryz.underlying31 1 (by obtain ⟨inf, hi, _, hs1, _⟩ := info_split infoInt; intro w; simp [sizeOf, typeInfo, hi, hs1]) ⟨vb, vo, none⟩ ⟨g, i + m, none⟩ m c2 lb cb hne t2 2 cur2.size c
        (by simp [World.shape?, hh2]) (by simp [World.shape?, hh, hcl]) (by omega) (by simp [World.frozen?, hh2]) (by simp [World.frozen?, hh2])]
    rfl
  obtain ⟨X, hXe⟩ : ∃ X, (cur.take n).drop i = X := ⟨_, rfl⟩
  have hX : X = ci (zs.drop i) := by rw [← hXe, htk, ci_drop]
  have hXl : X.length = n - i := by rw [← hXe, List.length_drop, List.length_take]; omega
  have hX1 : ∀ u ∈ X, u.oneCell' = true := by rw [hX]; exact ci_one _
  have hsrc : ∀ (k : Nat) (u : Value), X[k]? = some u → w.drew.cell? ⟨g, i + k, none⟩ = some u := by
    intro k u hu
    rw [← hXe, List.getElem?_drop, List.getElem?_take] at hu
    split at hu
    · exact cells_of_row hh hu
    · cases hu
  obtain ⟨Y, hYe⟩ : ∃ Y, ci ys = Y := ⟨_, rfl⟩
  have hYl : Y.length = m := by rw [← hYe, ci_len]; exact hyl
  have hY1 : ∀ u ∈ Y, u.oneCell' = true := by rw [← hYe]; exact ci_one _
  have hysrc : ∀ (k : Nat) (u : Value), Y[k]? = some u → w.cell? ⟨vb, vo + k, none⟩ = some u := by
    intro k u hu
    rw [← hYe] at hu
    obtain ⟨hk, rfl⟩ := ci_get hu
    exact hyc k (by omega)
  have hvw : vb < w.heap.size := (Array.getElem?_eq_some_iff.1 hh2).1
  have HX := Lib.hid hX
  have HXL := Lib.hid hXl
  have HX1 := Lib.hid hX1
  have HSRC := Lib.hid hsrc
  have HYE := Lib.hid hYe
  have HYL := Lib.hid hYl
  have HY1 := Lib.hid hY1
  have HYS := Lib.hid hysrc
  have hin : i ≤ n := by omega
  have hic : i ≤ c := by omega
  have himc : i + m ≤ c := by omega
  have hb2 : ¬ (c = i + m) := by omega
  have hb4 : ¬ (c = i) := by omega
  have hbi : (0 : Int) ≤ (i : Int) + (m : Int) := by omega
  have hw1 : IntKind.i64.wrap ((i : Int) + (m : Int)) = (i : Int) + (m : Int) := by rw [IntKind.wrap_i64]; omega
  have hbx : (i : Int) + (m : Int) ≤ (n : Int) + (m : Int) := by omega
  have hby : (i : Int) ≤ (n : Int) + (m : Int) := by omega
  have htn : ((i : Int) + (m : Int)).toNat = i + m := by omega
  have hb5 : ¬ ((n : Int) + (m : Int) > (c : Int)) := by omega
  clear hX hXl hX1 hsrc hYe hYl hY1 hysrc hXe hh2 hyc hh htk hcl hown hyl
  go_enter Tryz.func97, Tryz.ntmps97
  go_wp2_with (simp only [hov])
  go_region_law (refine step_copy _ rfl (.tmp 73) (.tmp 76) rfl Tryz.underlying31 infoInt g (i + m) (n + m - (i + m)) (c - (i + m)) ⟨g, i, none⟩ (n + m - i) (c - i) (by simp [Act.eval, Act.put]) (by simp [Act.eval, Act.put]) cur HH.out X (by have := HXL.out; simp only [Nat.min_def]; split <;> omega) (by intro k u hu; rw [Go.WideShapes.add_plain]; exact HSRC.out k u hu) (by have := HXL.out; have := HCL.out; omega) HX1.out ?_; intro w2 hh2 hg2)
  have HH2 := hh2
  have hg2' := grown_drew hg2
  clear hh2 hg2 hov
  have l1 : (splice cur (i + m) X).length = c := by rw [length_splice cur (i + m) X (by have := HXL.out; have := HCL.out; omega)]; exact HCL.out
  have HL1 := Lib.hid l1
  have HY2 := Lib.hid (show ∀ (k : Nat) (u : Value), Y[k]? = some u → w2.cell? ⟨vb, vo + k, none⟩ = some u from fun k u hu => hg2'.cell (HYS.out k u hu) (fun e => hne (Option.some.inj e)))
  clear l1 hw1
  go_wp2_with (with_reducible refine wpl_copy _ rfl (.tmp 80) (.tmp 81) rfl Tryz.underlying31 infoInt g i (n + m - i) (c - i) ⟨vb, vo, none⟩ m c2 (by simp [Act.eval]) (by simp [Act.eval]) (splice cur (i + m) X) HH2.out Y (by have := HYL.out; simp only [Nat.min_def]; split <;> omega) (by intro k u hu; rw [Go.WideShapes.add_plain]; exact HY2.out k u hu) (by have := HYL.out; have := HL1.out; omega) HY1.out ?_; intro w3 hh3 hg3)
  go_ret
  have e1 := HXL.out
  have e2 := HYL.out
  have e3 := HL1.out
  have e4 := HCL.out
  refine ⟨rfl, OwnI.shut hh3.out hbg hroom hcm ?_ ?_, grown_tr hg2' hg3⟩
  · exact (length_splice (splice cur (i + m) X) i Y (by omega)).trans e3
  · rw [splice_ins e2 e1 hin (by omega), ci_app, ci_app, HX.out, HYE.out, ci_take, ← HTK.out, List.take_take, Nat.min_eq_left hin]

set_option maxRecDepth 20000 in
set_option maxHeartbeats 8000000 in
theorem insert_grow (g n c i vb vo m c2 base : Nat) (zs ys : List Int) (w : World) (hown : OwnI 2 w base (some ⟨g, 0, none⟩) n c zs) (hL : Lies w vb vo m ys) (hi : i < n) (hm : 0 < m) (hroom : c < n + m) (hn : n + m ≤ 1099511627776) (hbase : base ≤ w.heap.size) :
    Calls Tryz.prog 97 #[.slice (some ⟨g, 0, none⟩) n c, .int .i64 i, .slice (some ⟨vb, vo, none⟩) m c2] w fun e w' => ∃ A' c', e = .returned (.slice A' (n + m) c') ∧ OwnI 2 w' base A' (n + m) c' (zs.take i ++ ys ++ zs.drop i) ∧ w.grownBy w' none := by
  have L := Lib.hid hown.len
  have hcut := Lib.hid (hown.cut (k := i) (by omega))
  obtain ⟨cur, hh, hbg, hnc, hcm, hcl, htk⟩ := hown.open
  have hcm2 := hcm
  unfold maxLen at hcm2
  obtain ⟨hyl, ⟨cur2, t2, hh2⟩, hyc⟩ := hL
  have hgw : g < w.heap.size := (Array.getElem?_eq_some_iff.1 hh).1
  have hvw : vb < w.heap.size := (Array.getElem?_eq_some_iff.1 hh2).1
  have hz1 : ¬ ((m : Int) = 0) := by omega
  have hz2 : ¬ ((i : Int) = (n : Int)) := by omega
  obtain ⟨X, hXe⟩ : ∃ X, (cur.take n).drop i = X := ⟨_, rfl⟩
  have hX : X = ci (zs.drop i) := by rw [← hXe, htk, ci_drop]
  have hXl : X.length = n - i := by rw [← hXe, List.length_drop, List.length_take]; omega
  have hX1 : ∀ u ∈ X, u.oneCell' = true := by rw [hX]; exact ci_one _
  have hsrc : ∀ (k : Nat) (u : Value), X[k]? = some u → w.cell? ⟨g, i + k, none⟩ = some u := by
    intro k u hu
    rw [← hXe, List.getElem?_drop, List.getElem?_take] at hu
    split at hu
    · exact cells_of_row hh hu
    · cases hu
  obtain ⟨Y, hYe⟩ : ∃ Y, ci ys = Y := ⟨_, rfl⟩
  have hYl : Y.length = m := by rw [← hYe, ci_len]; exact hyl
  have hY1 : ∀ u ∈ Y, u.oneCell' = true := by rw [← hYe]; exact ci_one _
  have hysrc : ∀ (k : Nat) (u : Value), Y[k]? = some u → w.cell? ⟨vb, vo + k, none⟩ = some u := by
    intro k u hu
    rw [← hYe] at hu
    obtain ⟨hk, rfl⟩ := ci_get hu
    exact hyc k (by omega)
  have HX := Lib.hid hX
  have HXL := Lib.hid hXl
  have HX1 := Lib.hid hX1
  have HSRC := Lib.hid hsrc
  have HYE := Lib.hid hYe
  have HYL := Lib.hid hYl
  have HY1 := Lib.hid hY1
  have HYS := Lib.hid hysrc
  have hin : i ≤ n := by omega
  have hic : i ≤ c := by omega
  have hb4 : ¬ (c = i) := by omega
  have hbr : (n : Int) + (m : Int) > (c : Int) := by omega
  have hbx : (i : Int) + (m : Int) ≤ (n : Int) + (m : Int) := by omega
  have hby : (i : Int) ≤ (n : Int) + (m : Int) := by omega
  clear hX hXl hX1 hsrc hYe hYl hY1 hysrc hXe hh2 hyc hh htk hcl hown hyl
  go_enter Tryz.func97, Tryz.ntmps97
  go_wp2_with (first
    | (at_builtin; refine wpl_app_zeros _ rfl (.tmp 34) (.tmp 39) rfl Tryz.underlying31 Tryz.underlying3 infoInt base _ i c _ (by simp [Act.eval]) hcut.out (n + m - i) (by simp [Act.eval]; omega) (by omega) (n + m) (by omega) hroom hn hbase ?_; intro g2 c3 w2 hg2e hown2 hg2
       have HGE := Lib.hid hg2e
       have HY2 := Lib.hid (show ∀ (k : Nat) (u : Value), Y[k]? = some u → w2.cell? ⟨vb, vo + k, none⟩ = some u from fun k u hu => hg2.cell (HYS.out k u hu) (by simp))
       have HX2 := Lib.hid (show ∀ (k : Nat) (u : Value), X[k]? = some u → w2.cell? ⟨g, i + k, none⟩ = some u from fun k u hu => hg2.cell (HSRC.out k u hu) (by simp))
       obtain ⟨cu, hh, hbg2, hnc2, hcm3, hcl, htk⟩ := hown2.open
       have HH := Lib.hid hh
       have HCL := Lib.hid hcl
       have HTK := Lib.hid htk
       have HGN := Lib.hid (show g ≠ g2 by omega)
       have hq3 : ¬ (c3 = i) := by omega
       have hq4 : ¬ (c3 = i + m) := by omega
       have hq5 : i ≤ c3 := by omega
       have hq6 : c3 ≤ 2 ^ 63 - 1 := by unfold maxLen at hcm3; omega
       clear hg2e hown2 hh hcl htk)
    | (with_reducible refine wpl_copy _ rfl (.tmp 43) (.tmp 44) rfl Tryz.underlying31 infoInt g2 i (n + m - i) (c3 - i) ⟨vb, vo, none⟩ m c2 (by simp [Act.eval]) (by simp [Act.eval]) cu HH.out Y (by have := HYL.out; simp only [Nat.min_def]; split <;> omega) (by intro k u hu; rw [Go.WideShapes.add_plain]; exact HY2.out k u hu) (by have := HYL.out; have := HCL.out; omega) HY1.out ?_; intro w3 hh3 hg3))
  have HH3 := hh3
  clear hh3
  have HX3 := Lib.hid (show ∀ (k : Nat) (u : Value), X[k]? = some u → w3.drew.cell? ⟨g, i + k, none⟩ = some u from fun k u hu => hg3.cell (HX2.out k u hu) (fun e => HGN.out (Option.some.inj e)))
  have HL1 := Lib.hid (show (splice cu i Y).length = c3 from by rw [length_splice cu i Y (by have := HYL.out; have := HCL.out; omega)]; exact HCL.out)
  have hq7 : i + m ≤ c3 := by omega
  have htn : ((i : Int) + (m : Int)).toNat = i + m := by omega
  have hbi : (0 : Int) ≤ (i : Int) + (m : Int) := by omega
  have hbz : (i : Int) ≤ (n : Int) := by omega
  have hmn : i + m ≤ n + m := by omega
  have hw1 : IntKind.i64.wrap ((i : Int) + (m : Int)) = (i : Int) + (m : Int) := by rw [IntKind.wrap_i64]; omega
  go_region_law (refine step_copy _ rfl (.tmp 50) (.tmp 53) rfl Tryz.underlying31 infoInt g2 (i + m) (n + m - (i + m)) (c3 - (i + m)) ⟨g, i, none⟩ (n - i) (c - i) (by simp [Act.eval, Act.put]) (by simp [Act.eval, Act.put]) (splice cu i Y) HH3.out X (by have := HXL.out; clear hw1; simp only [Nat.min_def]; split <;> omega) (by intro k u hu; rw [Go.WideShapes.add_plain]; exact HX3.out k u hu) (by have := HXL.out; have := HL1.out; clear hw1; omega) HX1.out ?_; intro w4 hh4 hg4)
  have HH4 := hh4
  clear hh4 hw1
  go_wp2
  go_ret
  have e1 := HXL.out
  have e2 := HYL.out
  have e3 := HL1.out
  have e4 := HCL.out
  have hg4' := grown_drew hg4
  refine ⟨some ⟨g2, 0, none⟩, c3, rfl, OwnI.shut HH4.out hbg2 hnc2 hcm3 ?_ ?_, ?_⟩
  · exact (length_splice (splice cu i Y) (i + m) X (by omega)).trans e3
  · rw [splice_two e2 e1 hin (by omega), ci_app, ci_app, HX.out, HYE.out]
    have := congrArg (List.take i) HTK.out
    rw [List.take_take, Nat.min_eq_left (by omega), ← ci_take, List.take_append_of_le_length (by rw [List.length_take, L.out]; omega), List.take_take, Nat.min_self] at this
    rw [this]
  · have e5 := HGE.out
    exact ⟨hg4'.os.trans (hg3.os.trans hg2.os), hg4'.tape.trans (hg3.tape.trans hg2.tape), hg4'.output.trans (hg3.output.trans hg2.output), Nat.le_trans hg2.size (Nat.le_trans hg3.size hg4'.size), fun q hq _ => (hg4'.block q (Nat.lt_of_lt_of_le hq (Nat.le_trans hg2.size hg3.size)) (fun e => by have := Option.some.inj e; omega)).trans ((hg3.block q (Nat.lt_of_lt_of_le hq hg2.size) (fun e => by have := Option.some.inj e; omega)).trans (hg2.block q hq (by simp)))⟩

theorem grown_any {w w' : World} (row : Option Nat) (h : w.grownBy w' none) : w.grownBy w' row := ⟨h.os, h.tape, h.output, h.size, fun k hk _ => h.block k hk (by simp)⟩

theorem insert_any (A : Option Addr) (n c i vb vo m c2 base : Nat) (zs ys : List Int) (w : World) (hown : OwnI 2 w base A n c zs) (hL : Lies w vb vo m ys) (hne : ∀ g, (Value.slice A n c).ownBlock = some g → vb ≠ g) (hi : i ≤ n) (hn : n + m ≤ 1099511627776) (hbase : base ≤ w.heap.size) :
    Calls Tryz.prog 97 #[.slice A n c, .int .i64 i, .slice (some ⟨vb, vo, none⟩) m c2] w fun e w' => ∃ A' c', e = .returned (.slice A' (n + m) c') ∧ OwnI 2 w' base A' (n + m) c' (zs.take i ++ ys ++ zs.drop i) ∧ w.grownBy w' (Value.slice A n c).ownBlock := by
  have hz := hown.len
  rcases Nat.eq_zero_or_pos m with rfl | hm
  · obtain rfl : ys = [] := List.length_eq_zero_iff.1 hL.1
    refine (insert_zero A _ n c i c2 w hi hown.cap.1).mono ?_
    rintro e w' ⟨rfl, rfl⟩
    refine ⟨A, c, rfl, ?_, World.grownBy.refl _ _⟩
    rw [List.append_nil, List.take_append_drop]
    exact hown
  · rcases Nat.lt_or_ge i n with h | h
    · obtain ⟨g, rfl, _, _⟩ := hown.form (by omega)
      by_cases hroom : n + m ≤ c
      · refine (insert_shift g n c i vb vo m c2 base zs ys w hown hL (hne g rfl) h hm hroom hn).mono ?_
        rintro e w' ⟨rfl, h1, h2⟩
        exact ⟨_, _, rfl, h1, h2⟩
      · refine (insert_grow g n c i vb vo m c2 base zs ys w hown hL h hm (by omega) hn hbase).mono ?_
        rintro e w' ⟨A', c', rfl, h1, h2⟩
        exact ⟨_, _, rfl, h1, grown_any _ h2⟩
    · obtain rfl : i = n := by omega
      refine (insert_end A i c vb vo m c2 base zs ys w hown hL hm hn hbase).mono ?_
      rintro e w' ⟨A', c', rfl, h1, h2⟩
      refine ⟨_, _, rfl, ?_, h2⟩
      rw [List.take_of_length_le (by omega), List.drop_of_length_le (by omega), List.append_nil]
      exact h1
end Go.Proofs.YtbaojbheopcjhaaGreatDoor

namespace Go.Proofs.YtbaojbheopcjhaaGreatDoor
open Go.RowKit
namespace ApplyFault

theorem set_any (g : Nat) (k p l v z : Int) (w : World) (hb : Blk4 w g 87 (.int .i64 k) (.int .i64 p) (.int .i64 l) (.int .i64 v)) :
    Calls Tryz.prog 99 #[.int .i64 z, .pointer (some ⟨g, 0, none⟩)] w fun e w' => e = .returned (.int .i64 v) ∧ w = w' := by
  have h3 := hb.c3
  go_enter Tryz.func99, Tryz.ntmps99
  go_wp2
  go_ret
  exact ⟨rfl, rfl⟩

set_option maxHeartbeats 4000000 in
theorem change_set (A1 : Option Addr) (n c1 base q t g0 : Nat) (zs : List Int) (k0 p l v : Int) (w : World) (hb4 : Blk4 w g0 87 (.int .i64 k0) (.int .i64 p) (.int .i64 l) (.int .i64 v)) (hgb : g0 < base) (hown : OwnI 2 w base A1 n c1 zs) (hn : n ≤ 8192) (_ : q ≤ 8192) (ht : t ≤ 16384) :
    Calls Tryz.prog 95 #[.slice A1 n c1, .int .i64 q, .int .i64 t, .func (.func 99) #[] #[.pointer (some ⟨g0, 0, none⟩)]] w fun e w' => e = .returned (.tuple #[]) ∧ OwnI 2 w' base A1 n c1 (chg (fun _ => v) zs q (min t n)) ∧ w.grownBy w' (Value.slice A1 n c1).ownBlock := by
  have L := Lib.hid hown.len
  by_cases htn : t ≤ n
  all_goals
    go_enter Tryz.func95, Tryz.ntmps95
    go_wp2
    go_loopw [8] (fun i wr => ∃ k : Nat, q ≤ k ∧ k ≤ max q (min t n) ∧ i = .int .i64 k ∧ OwnI 2 wr base A1 n c1 (chg (fun _ => v) zs q k) ∧ w.grownBy wr (Value.slice A1 n c1).ownBlock) (fun i _ => min t n - (intOf i).toNat)
    case atStart => exact ⟨q, Nat.le_refl _, by omega, rfl, by rw [chg_none (by omega)]; exact hown, World.grownBy.refl _ _⟩
    case round =>
      obtain ⟨k, hk0', hk, rfl, hown', hg⟩ := hrel
      have HK' := Lib.hid hk
      clear hk
      by_cases hlt2 : k < min t n
      · have hkn : k < n := by omega
        have hkt : k < t := by omega
        obtain ⟨g, rfl, hg1, hg2⟩ := hown'.form (by omega)
        have hold := hown'.cell hkn
        rw [chg_gi (by rw [L.out]; exact hkn), if_neg (by omega)] at hold
        have hfr := hown'.frozen k
        have hb5 : Blk4 wr g0 87 (.int .i64 k0) (.int .i64 p) (.int .i64 l) (.int .i64 v) := (hg.block g0 hb4.lt (by intro e; have he : g0 = g := Option.some.inj e; omega)).trans hb4
        go_wp2_with fail
        refine (set_any g0 k0 p l v _ _ hb5).mono ?_
        rintro e w' ⟨rfl, rfl⟩
        go_wp2
        go_roundw
        case rel =>
          have := hown'.stored k v
          rw [chg_set (by omega) (by rw [L.out]; exact hkn)] at this
          exact ⟨k + 1, by omega, by omega, by go_num, this.1, grown_tr hg this.2⟩
        case measure => simp [intOf]; omega
      · have HK := Lib.hid (show k = max q (min t n) from by have := HK'.out; omega)
        have hkn : t ≤ k ∨ n ≤ k := by omega
        go_wp2
        go_end0
        refine ⟨rfl, ?_, hg⟩
        rw [HK.out] at hown'
        by_cases hqn : q ≤ min t n
        · rwa [Nat.max_eq_right hqn] at hown'
        · rw [Nat.max_eq_left (by omega), chg_none (Nat.le_refl _)] at hown'
          rw [chg_none (by omega)]
          exact hown'
set_option maxRecDepth 20000 in
set_option maxHeartbeats 4000000 in
theorem applyFault_set (A : Option Addr) (n c : Nat) (zs : List Int) (q l : Nat) (v : Int) (w : World) (hri : RI w w.heap.size A n zs) (hn : n ≤ 8192) (hq : q ≤ 8192) (hl : l ≤ 8192) (hA : A = none → c = 0) :
    Calls Tryz.prog 59 #[.slice A n c, .agg #[.int .i64 6, .int .i64 q, .int .i64 l, .int .i64 v]] w (RetI 2 w n (chg (fun _ => v) zs q (min (q + l) n))) := by
  have hb0 : Below w.heap.size w (w.alloc (.cells #[.int .i64 6, .int .i64 q, .int .i64 l, .int .i64 v] 87)) := (Below.refl _ _).alloc (Nat.le_refl _) _
  have hr0 := hri.up hb0
  have hbx := Blk4.new w 87 (.int .i64 6) (.int .i64 q) (.int .i64 l) (.int .i64 v)
  obtain ⟨w0, hw0⟩ : ∃ x, w.alloc (.cells #[.int .i64 6, .int .i64 q, .int .i64 l, .int .i64 v] 87) = x := ⟨_, rfl⟩
  rw [hw0] at hb0 hr0 hbx
  have HB := Lib.hid hb0
  clear hb0
  go_enter Tryz.func59, Tryz.ntmps59
  go_wp2_with fail
  refine (SilenceFrom.clone_any A n c zs w0 hr0 (by omega) hA).mono ?_
  rintro e w1 ⟨A1, c1, rfl, hown1, hb1⟩
  have hbk := hbx.next hb1
  have e0 := hbk.c0
  have e1 := hbk.c1
  have e2 := hbk.c2
  go_wp2_with fail
  refine (change_set A1 n c1 w0.heap.size q (q + l) w.heap.size zs 6 q l v w1 hbk hbx.lt hown1 hn hq (by omega)).mono ?_
  rintro e w2 ⟨rfl, hown2, hg2⟩
  have hm : min (q + l) n = min (q + l) n := rfl
  clear hm
  go_wp2
  go_ret
  exact ⟨A1, c1, rfl, hown2.weaken HB.out.size, (below_next hb1 HB.out (Nat.le_refl _)).grown hg2 (Nat.le_trans HB.out.size hb1.size) (fun g e => Nat.le_trans HB.out.size (own_row hown1 g e).1)⟩
set_option maxRecDepth 20000 in
set_option maxHeartbeats 8000000 in
theorem applyFault_flip (A : Option Addr) (n c : Nat) (zs : List Int) (q : Nat) (w : World) (hri : RI w w.heap.size A n zs) (hn : n ≤ 8192) (hq : q ≤ 8192) (hz : isBits zs = true) (hA : A = none → c = 0) :
    Calls Tryz.prog 59 #[.slice A n c, .agg #[.int .i64 1, .int .i64 q, .int .i64 0, .int .i64 0]] w (RetI 2 w n (chg inv zs q (min (q + 1) n))) := by
  have hb0 : Below w.heap.size w (w.alloc (.cells #[.int .i64 1, .int .i64 q, .int .i64 0, .int .i64 0] 87)) := (Below.refl _ _).alloc (Nat.le_refl _) _
  have hr0 := hri.up hb0
  have hbx := Blk4.new w 87 (.int .i64 1) (.int .i64 q) (.int .i64 0) (.int .i64 0)
  obtain ⟨w0, hw0⟩ : ∃ x, w.alloc (.cells #[.int .i64 1, .int .i64 q, .int .i64 0, .int .i64 0] 87) = x := ⟨_, rfl⟩
  rw [hw0] at hb0 hr0 hbx
  have HB := Lib.hid hb0
  clear hb0
  go_enter Tryz.func59, Tryz.ntmps59
  go_wp2_with fail
  refine (SilenceFrom.clone_any A n c zs w0 hr0 (by omega) hA).mono ?_
  rintro e w1 ⟨A1, c1, rfl, hown1, hb1⟩
  have hbk := hbx.next hb1
  have e0 := hbk.c0
  have e1 := hbk.c1
  have e2 := hbk.c2
  have e3 := hbk.c3
  go_wp2_with fail
  refine (change_inv A1 n c1 w0.heap.size q (q + 1) zs w1 hown1 hn hq (by omega) hz).mono ?_
  rintro e w2 ⟨rfl, hown2, hg2⟩
  go_wp2
  go_ret
  exact ⟨A1, c1, rfl, hown2.weaken HB.out.size, (below_next hb1 HB.out (Nat.le_refl _)).grown hg2 (Nat.le_trans HB.out.size hb1.size) (fun g e => Nat.le_trans HB.out.size (own_row hown1 g e).1)⟩

set_option maxRecDepth 20000 in
set_option maxHeartbeats 8000000 in
theorem applyFault_inv (A : Option Addr) (n c : Nat) (zs : List Int) (q l : Nat) (w : World) (hri : RI w w.heap.size A n zs) (hn : n ≤ 8192) (hq : q ≤ 8192) (hl : l ≤ 8192) (hz : isBits zs = true) (hA : A = none → c = 0) :
    Calls Tryz.prog 59 #[.slice A n c, .agg #[.int .i64 2, .int .i64 q, .int .i64 l, .int .i64 0]] w (RetI 2 w n (chg inv zs q (min (q + l) n))) := by
  have hb0 : Below w.heap.size w (w.alloc (.cells #[.int .i64 2, .int .i64 q, .int .i64 l, .int .i64 0] 87)) := (Below.refl _ _).alloc (Nat.le_refl _) _
  have hr0 := hri.up hb0
  have hbx := Blk4.new w 87 (.int .i64 2) (.int .i64 q) (.int .i64 l) (.int .i64 0)
  obtain ⟨w0, hw0⟩ : ∃ x, w.alloc (.cells #[.int .i64 2, .int .i64 q, .int .i64 l, .int .i64 0] 87) = x := ⟨_, rfl⟩
  rw [hw0] at hb0 hr0 hbx
  have HB := Lib.hid hb0
  clear hb0
  go_enter Tryz.func59, Tryz.ntmps59
  go_wp2_with fail
  refine (SilenceFrom.clone_any A n c zs w0 hr0 (by omega) hA).mono ?_
  rintro e w1 ⟨A1, c1, rfl, hown1, hb1⟩
  have hbk := hbx.next hb1
  have e0 := hbk.c0
  have e1 := hbk.c1
  have e2 := hbk.c2
  have e3 := hbk.c3
  go_wp2_with fail
  refine (change_inv A1 n c1 w0.heap.size q (q + l) zs w1 hown1 hn hq (by omega) hz).mono ?_
  rintro e w2 ⟨rfl, hown2, hg2⟩
  go_wp2
  go_ret
  exact ⟨A1, c1, rfl, hown2.weaken HB.out.size, (below_next hb1 HB.out (Nat.le_refl _)).grown hg2 (Nat.le_trans HB.out.size hb1.size) (fun g e => Nat.le_trans HB.out.size (own_row hown1 g e).1)⟩

set_option maxRecDepth 20000 in
set_option maxHeartbeats 8000000 in
theorem applyFault_drop (A : Option Addr) (n c : Nat) (zs : List Int) (q l : Nat) (w : World) (hri : RI w w.heap.size A n zs) (hn : n ≤ 8192) (hq : q ≤ 8192) (hl : l ≤ 8192) (hl1 : 1 ≤ l) (hA : A = none → c = 0) :
    Calls Tryz.prog 59 #[.slice A n c, .agg #[.int .i64 3, .int .i64 q, .int .i64 l, .int .i64 0]] w (RetI 2 w (n - (min n (q + l) - min n q)) (zs.take q ++ zs.drop (q + l))) := by
  have hb0 : Below w.heap.size w (w.alloc (.cells #[.int .i64 3, .int .i64 q, .int .i64 l, .int .i64 0] 87)) := (Below.refl _ _).alloc (Nat.le_refl _) _
  have hr0 := hri.up hb0
  have hbx := Blk4.new w 87 (.int .i64 3) (.int .i64 q) (.int .i64 l) (.int .i64 0)
  obtain ⟨w0, hw0⟩ : ∃ x, w.alloc (.cells #[.int .i64 3, .int .i64 q, .int .i64 l, .int .i64 0] 87) = x := ⟨_, rfl⟩
  rw [hw0] at hb0 hr0 hbx
  have HB := Lib.hid hb0
  clear hb0
  have L := Lib.hid hri.len
  obtain ⟨F, hF⟩ : ∃ x, min n q = x := ⟨_, rfl⟩
  obtain ⟨T, hT⟩ : ∃ x, min n (q + l) = x := ⟨_, rfl⟩
  have HR := Lib.hid (show zs.take q ++ zs.drop (q + l) = zs.take F ++ zs.drop T from
    congr (congrArg _ ((take_min zs q).trans (by rw [L.out, hF]))) ((drop_min zs (q + l)).trans (by rw [L.out, hT])))
  rw [HR.out, hF, hT]
  by_cases hlt : q < n
  · by_cases htn : q + l < n
    · skip
      have hle : ¬ (n ≤ q) := by omega
      have hle3 : ¬ ((n : Int) ≤ (q : Int) + (l : Int)) := by omega
      have hFF : F = q := by omega
      have hTT : T = q + l := by omega
      have HFF := Lib.hid hFF
      have HTT := Lib.hid hTT
      clear hF hT hFF hTT
      go_enter Tryz.func59, Tryz.ntmps59
      go_wp2_with fail
      refine (SilenceFrom.clone_any A n c zs w0 hr0 (by omega) hA).mono ?_
      rintro e w1 ⟨A1, c1, rfl, hown1, hb1⟩
      have hbk := hbx.next hb1
      have e0 := hbk.c0
      have e1 := hbk.c1
      have e2 := hbk.c2
      have e3 := hbk.c3
      go_wp2_with fail
      refine (delete_any A1 n c1 (q) (q + l) w0.heap.size zs w1 hown1 (by omega) (by omega) (by omega)).mono ?_
      rintro e w2 ⟨he, hown2, hg2⟩
      obtain ⟨K, hK⟩ : ∃ K, n - ((q + l) - (q)) = K := ⟨_, rfl⟩
      rw [hK] at he hown2
      subst he
      have HK := Lib.hid hK
      clear hK
      go_wp2
      go_ret
      rw [HFF.out, HTT.out, HK.out]
      exact ⟨A1, c1, rfl, hown2.weaken HB.out.size, (below_next hb1 HB.out (Nat.le_refl _)).grown hg2 (Nat.le_trans HB.out.size hb1.size) (fun g e => Nat.le_trans HB.out.size (own_row hown1 g e).1)⟩
    · skip
      have hle : ¬ (n ≤ q) := by omega
      have hle3 : (n : Int) ≤ (q : Int) + (l : Int) := by omega
      have hFF : F = q := by omega
      have hTT : T = n := by omega
      have HFF := Lib.hid hFF
      have HTT := Lib.hid hTT
      clear hF hT hFF hTT
      go_enter Tryz.func59, Tryz.ntmps59
      go_wp2_with fail
      refine (SilenceFrom.clone_any A n c zs w0 hr0 (by omega) hA).mono ?_
      rintro e w1 ⟨A1, c1, rfl, hown1, hb1⟩
      have hbk := hbx.next hb1
      have e0 := hbk.c0
      have e1 := hbk.c1
      have e2 := hbk.c2
      have e3 := hbk.c3
      go_wp2_with fail
      refine (delete_any A1 n c1 (q) (n) w0.heap.size zs w1 hown1 (by omega) (by omega) (by omega)).mono ?_
      rintro e w2 ⟨he, hown2, hg2⟩
      obtain ⟨K, hK⟩ : ∃ K, n - ((n) - (q)) = K := ⟨_, rfl⟩
      rw [hK] at he hown2
      subst he
      have HK := Lib.hid hK
      clear hK
      go_wp2
      go_ret
      rw [HFF.out, HTT.out, HK.out]
      exact ⟨A1, c1, rfl, hown2.weaken HB.out.size, (below_next hb1 HB.out (Nat.le_refl _)).grown hg2 (Nat.le_trans HB.out.size hb1.size) (fun g e => Nat.le_trans HB.out.size (own_row hown1 g e).1)⟩
  · skip
    have hle : n ≤ q := by omega
    have hle3 : (n : Int) ≤ (q : Int) + (l : Int) := by omega
    have hFF : F = n := by omega
    have hTT : T = n := by omega
    have HFF := Lib.hid hFF
    have HTT := Lib.hid hTT
    clear hF hT hFF hTT
    go_enter Tryz.func59, Tryz.ntmps59
    go_wp2_with fail
    refine (SilenceFrom.clone_any A n c zs w0 hr0 (by omega) hA).mono ?_
    rintro e w1 ⟨A1, c1, rfl, hown1, hb1⟩
    have hbk := hbx.next hb1
    have e0 := hbk.c0
    have e1 := hbk.c1
    have e2 := hbk.c2
    have e3 := hbk.c3
    go_wp2_with fail
    refine (delete_any A1 n c1 (n) (n) w0.heap.size zs w1 hown1 (by omega) (by omega) (by omega)).mono ?_
    rintro e w2 ⟨he, hown2, hg2⟩
    obtain ⟨K, hK⟩ : ∃ K, n - ((n) - (n)) = K := ⟨_, rfl⟩
    rw [hK] at he hown2
    subst he
    have HK := Lib.hid hK
    clear hK
    go_wp2
    go_ret
    rw [HFF.out, HTT.out, HK.out]
    exact ⟨A1, c1, rfl, hown2.weaken HB.out.size, (below_next hb1 HB.out (Nat.le_refl _)).grown hg2 (Nat.le_trans HB.out.size hb1.size) (fun g e => Nat.le_trans HB.out.size (own_row hown1 g e).1)⟩

set_option maxRecDepth 20000 in
set_option maxHeartbeats 8000000 in
theorem applyFault_far (A : Option Addr) (n c : Nat) (zs : List Int) (q l : Nat) (v : Int) (w : World) (hri : RI w w.heap.size A n zs) (hn : n ≤ 8192) (hq : q ≤ 8192) (_ : l ≤ 8192) (hqn : n < q) (hA : A = none → c = 0) :
    Calls Tryz.prog 59 #[.slice A n c, .agg #[.int .i64 4, .int .i64 q, .int .i64 l, .int .i64 v]] w (RetI 2 w n zs) := by
  have hb0 : Below w.heap.size w (w.alloc (.cells #[.int .i64 4, .int .i64 q, .int .i64 l, .int .i64 v] 87)) := (Below.refl _ _).alloc (Nat.le_refl _) _
  have hr0 := hri.up hb0
  have hbx := Blk4.new w 87 (.int .i64 4) (.int .i64 q) (.int .i64 l) (.int .i64 v)
  obtain ⟨w0, hw0⟩ : ∃ x, w.alloc (.cells #[.int .i64 4, .int .i64 q, .int .i64 l, .int .i64 v] 87) = x := ⟨_, rfl⟩
  rw [hw0] at hb0 hr0 hbx
  have HB := Lib.hid hb0
  clear hb0
  have hgt : ¬ ((q : Int) ≤ (n : Int)) := by omega
  have hnn : (n : Int) ≤ 8192 := by omega
  go_enter Tryz.func59, Tryz.ntmps59
  go_wp2_with fail
  refine (SilenceFrom.clone_any A n c zs w0 hr0 (by omega) hA).mono ?_
  rintro e w1 ⟨A1, c1, rfl, hown1, hb1⟩
  have hbk := hbx.next hb1
  have e0 := hbk.c0
  have e1 := hbk.c1
  have e2 := hbk.c2
  have e3 := hbk.c3
  have hnc := hown1.cap.1
  go_wp2
  go_ret
  exact ⟨A1, c1, rfl, hown1.weaken HB.out.size, below_next hb1 HB.out (Nat.le_refl _)⟩

end ApplyFault
end Go.Proofs.YtbaojbheopcjhaaGreatDoor

namespace Go.Proofs.YtbaojbheopcjhaaGreatDoor
open Go.RowKit
theorem OwnI.lies {T : TypeId} {w : World} {base n c : Nat} {A : Option Addr} {zs : List Int} (h : OwnI T w base A n c zs) (hn : 0 < n) : ∃ g, A = some ⟨g, 0, none⟩ ∧ base ≤ g ∧ Lies w g 0 n zs := by
  obtain ⟨g, rfl, hb, _⟩ := h.form hn
  obtain ⟨cur, hh, _⟩ := h.open
  exact ⟨g, rfl, hb, h.len, ⟨_, _, hh⟩, fun j hj => by rw [Nat.zero_add]; exact h.cell hj⟩
namespace ApplyFault
theorem repeat_fn : (Tryz.f69.name == "runtime.NumGoroutine") = false ∧ Tryz.f69.body.isSome = true := ⟨by kernel_rfl, by kernel_rfl⟩
theorem insert_fn : (Tryz.f97.name == "runtime.NumGoroutine") = false ∧ Tryz.f97.body.isSome = true := ⟨by kernel_rfl, by kernel_rfl⟩

set_option maxRecDepth 200000 in
set_option maxHeartbeats 8000000 in
theorem applyFault_ins (A : Option Addr) (n c : Nat) (zs : List Int) (q l : Nat) (v : Int) (w : World) (hri : RI w w.heap.size A n zs) (hn : n ≤ 8192) (hq : q ≤ 8192) (hl : l ≤ 8192) (hl1 : 1 ≤ l) (hA : A = none → c = 0) (hqn : q ≤ n) :
    Calls Tryz.prog 59 #[.slice A n c, .agg #[.int .i64 4, .int .i64 q, .int .i64 l, .int .i64 v]] w (RetI 2 w (min 8192 (n + l)) ((zs.take q ++ List.replicate l v ++ zs.drop q).take 8192)) := by
  have L := Lib.hid hri.len
  obtain ⟨N0, hN0⟩ : ∃ x, min 8192 (n + l) = x := ⟨_, rfl⟩
  obtain ⟨R0, hR0⟩ : ∃ x, zs.take q ++ List.replicate l v ++ zs.drop q = x := ⟨_, rfl⟩
  rw [hN0, hR0]
  have HN0 := Lib.hid hN0
  have HR0 := Lib.hid hR0
  clear hN0 hR0
  have hb0 : Below w.heap.size w (w.alloc (.cells #[.int .i64 4, .int .i64 q, .int .i64 l, .int .i64 v] 87)) := (Below.refl _ _).alloc (Nat.le_refl _) _
  have hr0 := hri.up hb0
  have hbx := Blk4.new w 87 (.int .i64 4) (.int .i64 q) (.int .i64 l) (.int .i64 v)
  obtain ⟨w0, hw0⟩ : ∃ x, w.alloc (.cells #[.int .i64 4, .int .i64 q, .int .i64 l, .int .i64 v] 87) = x := ⟨_, rfl⟩
  rw [hw0] at hb0 hr0 hbx
  have HB := Lib.hid hb0
  clear hb0
  have hle : (q : Int) ≤ (n : Int) := by omega
  go_enter Tryz.func59, Tryz.ntmps59
  go_wp2_with fail
  refine (SilenceFrom.clone_any A n c zs w0 hr0 (by omega) hA).mono ?_
  rintro e w1 ⟨A1, c1, rfl, hown1, hb1⟩
  have hbk := hbx.next hb1
  have e0 := hbk.c0
  have e1 := hbk.c1
  have e2 := hbk.c2
  have e3 := hbk.c3
  have HO1 := Lib.hid hown1
  have HB1 := Lib.hid hb1
  clear hown1 hb1
  go_upto_region 12 with fail
  go_cut [5] (fun v5 wc => ∃ A2 c2, v5 = .slice A2 (n + l) c2 ∧ OwnI 2 wc w0.heap.size A2 (n + l) c2 R0 ∧ Below w0.heap.size w0 wc)
  case first =>
    go_region_law (first
      | ((refine step_call 69 Tryz.func69 repeat_fn.1 repeat_fn.2 rfl rfl #[.slice none 0 0, .int .i64 v, .int .i64 l] ?_ ?_); (simp [Act.eval]); (refine (repeat_any l v _ (by omega)).mono ?_); rintro e w5 ⟨A5, c5, rfl, hown5, hb5⟩; (refine ⟨_, rfl, ?_⟩); (have hbx5 : Blk4 w5 w.heap.size 87 (.int .i64 4) (.int .i64 q) (.int .i64 l) (.int .i64 v) := Blk4.next_drew hb5 hbk); have hx51 := hbx5.c1; (obtain ⟨g5, rfl, hg5, hl5⟩ := hown5.lies (by omega)); have HL5 := Lib.hid hl5; have HB5 := Lib.hid (below_next_drew hb5 (Below.refl w1.heap.size w1) (Nat.le_refl _)); clear hown5 hb5 hl5)
      | ((refine step_call 97 Tryz.func97 insert_fn.1 insert_fn.2 rfl rfl #[.slice A1 n c1, .int .i64 q, .slice (some ⟨g5, 0, none⟩) l c5] ?_ ?_); (simp [Act.eval]); (refine (insert_any A1 n c1 q g5 0 l c5 w0.heap.size zs (List.replicate l v) _ (by exact HO1.out.below HB5.out) (by exact HL5.out) (by intro g6 h6; have := (own_row HO1.out g6 h6).2; simp at hg5; omega) hqn (by omega) (by exact Nat.le_trans HB1.out.size HB5.out.size)).mono ?_); rintro e w6 ⟨A6, c6, rfl, hown6, hg6⟩; (refine ⟨_, rfl, ?_⟩); have HO6 := Lib.hid hown6; have HG6 := Lib.hid hg6; clear hown6 hg6))
    all_goals
      go_wp2_with fail
      go_meet
      refine ⟨A6, c6, rfl, ?_, ?_⟩
      · have := HO6.out
        rwa [HR0.out] at this
      · exact (below_next HB5.out HB1.out (Nat.le_refl _)).grown HG6.out (Nat.le_trans HB1.out.size HB5.out.size) (fun g e => (own_row HO1.out g e).1)
  case rest =>
    obtain ⟨A2, c2, rfl, hown2, hbb⟩ := hcut
    have HO2 := Lib.hid hown2
    have HBB := Lib.hid hbb
    have hcap := hown2.cap.1
    clear hown2 hbb
    by_cases hbig : n + l < 8192
    case pos =>
      have hbj : ¬ (8192 ≤ (n : Int) + (l : Int)) := by omega
      have hcap2 : (n : Int) + (l : Int) ≤ (c2 : Int) := by omega
      go_wp2
      go_ret
      have e1 := HO2.out
      have e2 : N0 = n + l := by have := HN0.out; omega
      rw [e2, List.take_of_length_le (by rw [e1.len]; omega)]
      exact ⟨A2, c2, rfl, e1.weaken HB.out.size, HB.out.trans (HBB.out.mono HB.out.size)⟩
    case neg =>
      have hbj : (8192 : Int) ≤ (n : Int) + (l : Int) := by omega
      have hcap2 : 8192 ≤ c2 := by omega
      go_wp2
      go_ret
      have e1 := HO2.out.cut (k := 8192) (by omega)
      have e2 : N0 = 8192 := by have := HN0.out; omega
      rw [e2]
      exact ⟨A2, c2, rfl, e1.weaken HB.out.size, HB.out.trans (HBB.out.mono HB.out.size)⟩
end ApplyFault
end Go.Proofs.YtbaojbheopcjhaaGreatDoor

namespace Go.Proofs.YtbaojbheopcjhaaGreatDoor
open Go.RowKit

theorem isFault_parts {f : Flt} (h : isFault f = true) : ∃ q l : Nat, f.pos = q ∧ f.len = l ∧ q ≤ 8192 ∧ l ≤ 8192 ∧ (f.kd = 1 ∧ l = 0 ∧ f.val = 0 ∨ f.kd = 2 ∧ 1 ≤ l ∧ f.val = 0 ∨ f.kd = 3 ∧ 1 ≤ l ∧ f.val = 0 ∨ f.kd = 4 ∧ 1 ≤ l ∨ f.kd = 5 ∧ l = 0 ∧ f.val = 0 ∨ f.kd = 6 ∧ 1 ≤ l) := by
  have h1 := isFault_kd h
  have h2 := isFault_pos h
  have h3 := isFault_len h
  refine ⟨f.pos.toNat, f.len.toNat, by omega, by omega, by omega, by omega, ?_⟩
  unfold isFault at h
  simp only [Bool.and_eq_true] at h
  obtain ⟨_, _, ha, hb⟩ := h
  have hk : f.kd = 1 ∨ f.kd = 2 ∨ f.kd = 3 ∨ f.kd = 4 ∨ f.kd = 5 ∨ f.kd = 6 := by omega
  rcases hk with e | e | e | e | e | e <;> rw [e] at ha hb ⊢ <;> simp [hasLen, hasVal, inR] at ha hb ⊢ <;> omega

theorem isBits_len {zs : List Int} (h : isBits zs = true) : zs.length ≤ 8192 := (isBits_iff.1 h).1

namespace ApplyFault

theorem l24Apply_any (A : Option Addr) (n c : Nat) (zs : List Int) (k p l v : Int) (w : World) (hri : RI w w.heap.size A n zs) (hz : isBits zs = true) (hf : isFault ⟨k, p, l, v⟩ = true) (hA : Pl A c) (hnc : n ≤ c) (hcm : c ≤ maxLen) :
    Calls Tryz.prog 64 #[.slice A n c, .agg #[.int .i64 k, .int .i64 p, .int .i64 l, .int .i64 v]] w (RetI 2 w (lenF n ⟨k, p, l, v⟩) (appF zs ⟨k, p, l, v⟩)) := by
  have hL := hri.len
  have hn : n ≤ 8192 := by rw [← hL]; exact isBits_len hz
  obtain ⟨q, m, hq, hm, hq8, hm8, hk⟩ := isFault_parts hf
  simp only at hq hm hk
  subst hq hm
  rcases hk with ⟨rfl, hm0, rfl⟩ | ⟨rfl, hm1, rfl⟩ | ⟨rfl, hm1, rfl⟩ | ⟨rfl, hm1⟩ | ⟨rfl, hm0, rfl⟩ | ⟨rfl, hm1⟩
  · obtain rfl := hm0
    have := l24Apply_flip A n c zs q w hri hn hq8 hA.cap hz
    simpa [lenF, appF, hL] using this
  · have := l24Apply_inv A n c zs q m w hri hn hq8 hm8 hm1 hA.cap hz
    simpa [lenF, appF, hL] using this
  · have := l24Apply_drop A n c zs q m w hri hn hq8 hm8 hm1 hA hnc hcm
    simpa [lenF, appF, hL] using this
  · by_cases hqn : q ≤ n
    · have := l24Apply_ins A n c zs q m v w hri hn hq8 hm8 hm1 hA hnc hcm hqn
      simpa [lenF, appF, hL, hqn] using this
    · have := l24Apply_far A n c zs q m v w hri hn hq8 hm8 hA (by omega)
      simpa [lenF, appF, hL, hqn] using this
  · obtain rfl := hm0
    have := SilenceFrom.l24Apply_sil A n c zs q w hri hn hq8 hA.cap
    simpa [lenF, appF, hL] using this
  · have := l24Apply_set A n c zs q m v w hri hn hq8 hm8 hm1 hA.cap hz
    simpa [lenF, appF, hL] using this

theorem applyFault_any (A : Option Addr) (n c : Nat) (zs : List Int) (k p l v : Int) (w : World) (hri : RI w w.heap.size A n zs) (hz : isBits zs = true) (hf : isFault ⟨k, p, l, v⟩ = true) (hA : A = none → c = 0) :
    Calls Tryz.prog 59 #[.slice A n c, .agg #[.int .i64 k, .int .i64 p, .int .i64 l, .int .i64 v]] w (RetI 2 w (lenF n ⟨k, p, l, v⟩) (appF zs ⟨k, p, l, v⟩)) := by
  have hL := hri.len
  have hn : n ≤ 8192 := by rw [← hL]; exact isBits_len hz
  obtain ⟨q, m, hq, hm, hq8, hm8, hk⟩ := isFault_parts hf
  simp only at hq hm hk
  subst hq hm
  rcases hk with ⟨rfl, hm0, rfl⟩ | ⟨rfl, hm1, rfl⟩ | ⟨rfl, hm1, rfl⟩ | ⟨rfl, hm1⟩ | ⟨rfl, hm0, rfl⟩ | ⟨rfl, hm1⟩
  · obtain rfl := hm0
    have := applyFault_flip A n c zs q w hri hn hq8 hz hA
    simpa [lenF, appF, hL] using this
  · have := applyFault_inv A n c zs q m w hri hn hq8 hm8 hz hA
    simpa [lenF, appF, hL] using this
  · have := applyFault_drop A n c zs q m w hri hn hq8 hm8 hm1 hA
    simpa [lenF, appF, hL] using this
  · by_cases hqn : q ≤ n
    · have := applyFault_ins A n c zs q m v w hri hn hq8 hm8 hm1 hA hqn
      simpa [lenF, appF, hL, hqn] using this
    · have := applyFault_far A n c zs q m v w hri hn hq8 hm8 (by omega) hA
      simpa [lenF, appF, hL, hqn] using this
  · obtain rfl := hm0
    have := SilenceFrom.applyFault_sil A n c zs q w hri hn hq8 hA
    simpa [lenF, appF, hL] using this
  · have := applyFault_set A n c zs q m v w hri hn hq8 hm8 hA
    simpa [lenF, appF, hL] using this

end ApplyFault
end Go.Proofs.YtbaojbheopcjhaaGreatDoor
