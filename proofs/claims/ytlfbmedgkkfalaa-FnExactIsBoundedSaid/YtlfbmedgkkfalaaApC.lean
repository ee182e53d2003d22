/- The walks of the reference's l24Apply at the kind that inserts samples. Conditions: lists of at most 8192 bits. -/
import Derived.Test.YtlfbmedgkkfalaaApB
import Derived.Test.YtlfbmedgkkfalaaRep
import Derived.Deep.DeepCutAuto
namespace Go.Proofs.Ytlfbmedgkkfalaa
open Go.RowKit
section
variable {P : Program} {ops : Array Oper} {rest : List Oper} {o : Oper} {a : Act} {Q : Exit → Act → World → Prop}
/-- 'out = append(out, ys...)', the new length named -/
theorem wpl_appRN (W : World) {TS T : TypeId} (ht : P.underlying TS = some (.slice T)) (hinfo : (P.info? T).map (fun i => (i.zero, i.size, i.bytes)) = some (some (.int .i64 0), 1, 8))
    (hgd : o.guard = none) (s x : Operand) (ho : o.op = .call { callee := .builtin .append, args := #[s, x], argTypes := #[TS, TS] })
    (base : Nat) (A : Option Addr) (n c : Nat) (zs : List Int) (hs : a.eval s = .slice A n c) (hown : OwnI T W base A n c zs)
    (A2 : Option Addr) (n2 c2 B : Nat) (ys : List Int) (hx : a.eval x = .slice A2 n2 c2) (hr : RI W B A2 n2 ys) (hA2 : A2 = none → c2 = 0)
    (N : Nat) (hN : n + n2 = N) (hn : N ≤ 1099511627776) (hbase : base ≤ W.heap.size)
    (h : ∀ A' c' w', OwnI T w' base A' N c' (zs ++ ys) → (∀ B, B ≤ base → Below B W w') → W.grownBy w' (Value.slice A n c).ownBlock → wpList P ops Q rest (a.put o.dst (.slice A' N c')) w') :
    wpList P ops Q (o :: rest) a W := by
  subst hN
  exact wpl_appR W ht hinfo hgd s x ho base A n c zs hs hown A2 n2 c2 B ys hx hr hA2 hn hbase h
end
namespace ApplyFault
theorem equal_fn : (Try.f229.name == "runtime.NumGoroutine") = false ∧ Try.f229.body.isSome = true := ⟨by kernel_rfl, by kernel_rfl⟩

set_option maxRecDepth 20000 in
set_option maxHeartbeats 16000000 in
theorem l24Apply_ins (A : Option Addr) (n c : Nat) (zs : List Int) (q l : Nat) (v : Int) (w : World) (hri : RI w w.heap.size A n zs) (hn : n ≤ 8192) (hq : q ≤ 8192) (hl : l ≤ 8192) (hl1 : 1 ≤ l) (hA : Pl A c) (hnc : n ≤ c) (hcm : c ≤ maxLen) (hqn : q ≤ n) :
    Calls Try.prog 164 #[.slice A n c, .agg #[.int .i64 4, .int .i64 q, .int .i64 l, .int .i64 v]] w (RetI 2 w (min 8192 (n + l)) ((zs.take q ++ List.replicate l v ++ zs.drop q).take 8192)) := by
  have L := Lib.hid hri.len
  obtain ⟨N0, hN0⟩ : ∃ x, min 8192 (n + l) = x := ⟨_, rfl⟩
  obtain ⟨R0, hR0⟩ : ∃ x, (zs.take q ++ List.replicate l v ++ zs.drop q).take 8192 = x := ⟨_, rfl⟩
  rw [hN0, hR0]
  have HN0 := Lib.hid hN0
  have HR0 := Lib.hid hR0
  clear hN0 hR0
  have hb0 : Below w.heap.size w (w.alloc (.cells #[.int .i64 4, .int .i64 q, .int .i64 l, .int .i64 v] 76)) := (Below.refl _ _).alloc (Nat.le_refl _) _
  have hr0 := hri.up hb0
  have hbx := Blk4.new w 76 (.int .i64 4) (.int .i64 q) (.int .i64 l) (.int .i64 v)
  obtain ⟨w0, hw0⟩ : ∃ x, w.alloc (.cells #[.int .i64 4, .int .i64 q, .int .i64 l, .int .i64 v] 76) = x := ⟨_, rfl⟩
  rw [hw0] at hb0 hr0 hbx
  have hk0 := hbx.c0
  have hk1 := hbx.c1
  have hk2 := hbx.c2
  have hk3 := hbx.c3
  have hgl := hbx.lt
  have HB := Lib.hid hb0
  unfold maxLen at hcm
  clear hb0
  rcases hA with ⟨rfl, rfl⟩ | ⟨b, o, rfl⟩
  · obtain rfl : n = 0 := by omega
    obtain rfl : zs = [] := List.length_eq_zero_iff.1 L.out
    have hqg : ¬ ((q : Int) > 0) := by omega
    have hq1 : (0 : Int) ≤ (q : Int) + (l : Int) := by omega
    have hq2 : ¬ ((q : Int) + (l : Int) < 0) := by omega
    have hrp := Lib.hid (hr0.pre (k := 0) (by omega))
    have hrs := Lib.hid (hr0)
    go_enter Try.func164, Try.ntmps164
    go_wp2_with fail
    go_region
    all_goals
      go_upto_region 13 with fail
      go_cut [8] (fun v8 wc => ∃ A2 c2, v8 = .slice A2 (l) c2 ∧ OwnI 2 wc w0.heap.size A2 (l) c2 ([].take (0) ++ List.replicate l v) ∧ Below w0.heap.size w0 wc)
      case first =>
        go_region_law (first
          | ((refine step_call 190 Try.func190 own_fn.1 own_fn.2 rfl rfl #[.slice (none) (0) 0] ?_ ?_); (simp [Act.eval, Act.put]); (refine (l01Own_any (none) (0) 0 ([].take (0)) _ (by first | exact hrp.out | exact hrp.out.up (below_dd HB5.out)) (by omega) (fun _ => rfl)).mono ?_); rintro e w1 ⟨A1, c1, rfl, hown1, hb1⟩; (refine ⟨_, rfl, ?_⟩); have HO := Lib.hid hown1; have HB1 := Lib.hid hb1; have hbx1 : Blk4 w1 w.heap.size 76 (.int .i64 4) (.int .i64 q) (.int .i64 l) (.int .i64 v) := (by first | exact Blk4.next (w := w0.drew.drew) hb1 hbx | exact Blk4.next hb1 hbx5); have hx12 := hbx1.c2; have hx13 := hbx1.c3; clear hown1 hb1)
          | ((refine step_call 229 Try.func229 equal_fn.1 equal_fn.2 rfl rfl #[.int .i64 l, .int .i64 v] ?_ ?_); (simp [Act.eval]); (refine (l20Equal_any l v _ (by omega)).mono ?_); rintro e w5 ⟨A5, c5, rfl, hown5, hb5⟩; (refine ⟨_, rfl, ?_⟩); have HE := Lib.hid hown5; have HB5 := Lib.hid hb5; have hbx5 : Blk4 w5 w.heap.size 76 (.int .i64 4) (.int .i64 q) (.int .i64 l) (.int .i64 v) := (by first | exact Blk4.next (w := w0.drew.drew) hb5 hbx | exact Blk4.next hb5 hbx1); have hx52 := hbx5.c2; have hx53 := hbx5.c3; clear hown5 hb5)
          | (refine step_appRN _ Try.underlying24 infoInt rfl (.tmp 57) (.tmp 62) rfl w0.heap.size A1 (0) c1 ([].take (0)) (by simp [Act.eval]) (by first | exact (HO.out.below HB5.out).weaken (Nat.le_refl _) | exact HO.out.weaken HB5.out.size) A5 l c5 _ (List.replicate l v) (by simp [Act.eval]) (by first | exact HE.out.reads | exact HE.out.reads.up HB1.out) (own_none HE.out) (l) (by omega) (by omega) (by first | exact Nat.le_trans HB1.out.size HB5.out.size | exact Nat.le_trans HB5.out.size HB1.out.size) ?_; intro A2 c2 w2 hown2 hB2 hg2; have HO2 := Lib.hid hown2; have hbb : Below w0.heap.size w0 w2 := (by first | exact (below_next HB5.out (below_dd HB1.out) (Nat.le_refl _)).trans (hB2 _ (Nat.le_refl _)) | exact (below_next HB1.out (below_dd HB5.out) (Nat.le_refl _)).trans (hB2 _ (Nat.le_refl _))); have HBB := Lib.hid hbb; clear hown2 hB2 hg2 hbb))
        all_goals
          go_wp2_with fail
          go_meet
          exact ⟨A2, c2, rfl, HO2.out, HBB.out⟩
      case rest =>
        obtain ⟨A2, c2, rfl, hown2, hbb⟩ := hcut
        have HO2 := Lib.hid hown2
        have HBB := Lib.hid hbb
        clear hown2 hbb
        by_cases hbig : l ≤ 8192
        case pos =>
          have hbi : ((l : Nat) : Int) ≤ 8192 := by omega
          have hbj : (l : Int) ≤ 8192 := by omega
          go_wp2_with (at_builtin; refine wpl_appRN _ Try.underlying24 infoInt rfl _ _ rfl w0.heap.size _ _ _ _ rfl HO2.out (none) (0) (0) w0.heap.size ([].drop (0)) rfl (hrs.out.below HBB.out (Nat.le_refl _)) (fun _ => rfl) (l) (by omega) (by omega) HBB.out.size ?_; intro A3 c3 w3 hown3 hB3 hg3; have hcap := hown3.cap.1; have hcap2 : (l : Int) ≤ (c3 : Int) := (by omega); have HO3 := Lib.hid hown3; have HB3 := Lib.hid (hB3 _ (Nat.le_refl _)); clear hown3 hB3 hg3)
          go_ret
          have e1 := HO3.out
          have e2 : N0 = l := by have := HN0.out; omega
          have e4 : R0 = [].take 0 ++ List.replicate l v ++ [].drop 0 := by
            rw [← e1.len] at hbig
            rw [← HR0.out]; simp; omega
          rw [e2, e4]
          exact ⟨A3, c3, rfl, e1.weaken HB.out.size, HB.out.trans ((HBB.out.trans (HB3.out.mono (Nat.le_refl _))).mono HB.out.size)⟩
        case neg =>
          have hbi : ¬ ((l : Int) ≤ 8192) := by omega
          have hbj : (8192 : Int) < (l : Int) := by omega
          go_wp2_with (at_builtin; refine wpl_appRN _ Try.underlying24 infoInt rfl _ _ rfl w0.heap.size _ _ _ _ rfl HO2.out (none) (0) (0) w0.heap.size ([].drop (0)) rfl (hrs.out.below HBB.out (Nat.le_refl _)) (fun _ => rfl) (l) (by omega) (by omega) HBB.out.size ?_; intro A3 c3 w3 hown3 hB3 hg3; have hcap := hown3.cap.1; have hcap2 : 8192 ≤ c3 := (by omega); have HO3 := Lib.hid hown3; have HB3 := Lib.hid (hB3 _ (Nat.le_refl _)); clear hown3 hB3 hg3)
          go_ret
          have e1 := HO3.out.cut (k := 8192) (by omega)
          have e2 : N0 = 8192 := by have := HN0.out; omega
          have e4 : R0 = ([].take 0 ++ List.replicate l v ++ [].drop 0).take 8192 := by
            rw [← HR0.out]; simp
          rw [e2, e4]
          exact ⟨A3, c3, rfl, e1.weaken HB.out.size, HB.out.trans ((HBB.out.trans (HB3.out.mono (Nat.le_refl _))).mono HB.out.size)⟩
  · by_cases htn : q + l < n
    · skip
      have hle2 : (q : Int) + (l : Int) < (n : Int) := by omega
      have hle3 : ¬ ((n : Int) ≤ (q : Int) + (l : Int)) := by omega
      have hcq : q ≤ c := by omega
      have hc1 : ¬ (c = q) := by omega
      have hgt : ¬ ((q : Int) > (n : Int)) := by omega
      have hnq : ¬ (n < q) := by omega
      have hrp := Lib.hid (hr0.pre (k := q) (by omega))
      have hrs := Lib.hid (hr0.suf (k := q) (by omega))
      go_enter Try.func164, Try.ntmps164
      go_wp2_with fail
      go_region
      all_goals
        go_upto_region 13 with fail
        go_cut [8] (fun v8 wc => ∃ A2 c2, v8 = .slice A2 (q + l) c2 ∧ OwnI 2 wc w0.heap.size A2 (q + l) c2 (zs.take (q) ++ List.replicate l v) ∧ Below w0.heap.size w0 wc)
        case first =>
          go_region_law (first
            | ((refine step_call 190 Try.func190 own_fn.1 own_fn.2 rfl rfl #[.slice (some ⟨b, o, none⟩) (q) c] ?_ ?_); (simp [Act.eval, Act.put]); (refine (l01Own_any (some ⟨b, o, none⟩) (q) c (zs.take (q)) _ (by first | exact hrp.out | exact hrp.out.up (below_dd HB5.out)) (by omega) (fun e => by cases e)).mono ?_); rintro e w1 ⟨A1, c1, rfl, hown1, hb1⟩; (refine ⟨_, rfl, ?_⟩); have HO := Lib.hid hown1; have HB1 := Lib.hid hb1; have hbx1 : Blk4 w1 w.heap.size 76 (.int .i64 4) (.int .i64 q) (.int .i64 l) (.int .i64 v) := (by first | exact Blk4.next (w := w0.drew.drew) hb1 hbx | exact Blk4.next hb1 hbx5); have hx12 := hbx1.c2; have hx13 := hbx1.c3; clear hown1 hb1)
            | ((refine step_call 229 Try.func229 equal_fn.1 equal_fn.2 rfl rfl #[.int .i64 l, .int .i64 v] ?_ ?_); (simp [Act.eval]); (refine (l20Equal_any l v _ (by omega)).mono ?_); rintro e w5 ⟨A5, c5, rfl, hown5, hb5⟩; (refine ⟨_, rfl, ?_⟩); have HE := Lib.hid hown5; have HB5 := Lib.hid hb5; have hbx5 : Blk4 w5 w.heap.size 76 (.int .i64 4) (.int .i64 q) (.int .i64 l) (.int .i64 v) := (by first | exact Blk4.next (w := w0.drew.drew) hb5 hbx | exact Blk4.next hb5 hbx1); have hx52 := hbx5.c2; have hx53 := hbx5.c3; clear hown5 hb5)
            | (refine step_appRN _ Try.underlying24 infoInt rfl (.tmp 57) (.tmp 62) rfl w0.heap.size A1 (q) c1 (zs.take (q)) (by simp [Act.eval]) (by first | exact (HO.out.below HB5.out).weaken (Nat.le_refl _) | exact HO.out.weaken HB5.out.size) A5 l c5 _ (List.replicate l v) (by simp [Act.eval]) (by first | exact HE.out.reads | exact HE.out.reads.up HB1.out) (own_none HE.out) (q + l) (by omega) (by omega) (by first | exact Nat.le_trans HB1.out.size HB5.out.size | exact Nat.le_trans HB5.out.size HB1.out.size) ?_; intro A2 c2 w2 hown2 hB2 hg2; have HO2 := Lib.hid hown2; have hbb : Below w0.heap.size w0 w2 := (by first | exact (below_next HB5.out (below_dd HB1.out) (Nat.le_refl _)).trans (hB2 _ (Nat.le_refl _)) | exact (below_next HB1.out (below_dd HB5.out) (Nat.le_refl _)).trans (hB2 _ (Nat.le_refl _))); have HBB := Lib.hid hbb; clear hown2 hB2 hg2 hbb))
          all_goals
            go_wp2_with fail
            go_meet
            exact ⟨A2, c2, rfl, HO2.out, HBB.out⟩
        case rest =>
          obtain ⟨A2, c2, rfl, hown2, hbb⟩ := hcut
          have HO2 := Lib.hid hown2
          have HBB := Lib.hid hbb
          clear hown2 hbb
          by_cases hbig : n + l ≤ 8192
          case pos =>
            have hbi : ((n + l : Nat) : Int) ≤ 8192 := by omega
            have hbj : (n : Int) + (l : Int) ≤ 8192 := by omega
            go_wp2_with (at_builtin; refine wpl_appRN _ Try.underlying24 infoInt rfl _ _ rfl w0.heap.size _ _ _ _ rfl HO2.out (some ⟨b, o + q, none⟩) (n - q) (c - q) w0.heap.size (zs.drop (q)) rfl (hrs.out.below HBB.out (Nat.le_refl _)) (fun e => by cases e) (n + l) (by omega) (by omega) HBB.out.size ?_; intro A3 c3 w3 hown3 hB3 hg3; have hcap := hown3.cap.1; have hcap2 : (n : Int) + (l : Int) ≤ (c3 : Int) := (by omega); have HO3 := Lib.hid hown3; have HB3 := Lib.hid (hB3 _ (Nat.le_refl _)); clear hown3 hB3 hg3)
            go_ret
            have e1 := HO3.out
            have e2 : N0 = n + l := by have := HN0.out; omega
            have e4 : R0 = zs.take q ++ List.replicate l v ++ zs.drop q := by
              rw [← e1.len] at hbig
              rw [← HR0.out]
              exact List.take_of_length_le hbig
            rw [e2, e4]
            exact ⟨A3, c3, rfl, e1.weaken HB.out.size, HB.out.trans ((HBB.out.trans (HB3.out.mono (Nat.le_refl _))).mono HB.out.size)⟩
          case neg =>
            have hbi : ¬ ((n : Int) + (l : Int) ≤ 8192) := by omega
            have hbj : (8192 : Int) < (n : Int) + (l : Int) := by omega
            go_wp2_with (at_builtin; refine wpl_appRN _ Try.underlying24 infoInt rfl _ _ rfl w0.heap.size _ _ _ _ rfl HO2.out (some ⟨b, o + q, none⟩) (n - q) (c - q) w0.heap.size (zs.drop (q)) rfl (hrs.out.below HBB.out (Nat.le_refl _)) (fun e => by cases e) (n + l) (by omega) (by omega) HBB.out.size ?_; intro A3 c3 w3 hown3 hB3 hg3; have hcap := hown3.cap.1; have hcap2 : 8192 ≤ c3 := (by omega); have HO3 := Lib.hid hown3; have HB3 := Lib.hid (hB3 _ (Nat.le_refl _)); clear hown3 hB3 hg3)
            go_ret
            have e1 := HO3.out.cut (k := 8192) (by omega)
            have e2 : N0 = 8192 := by have := HN0.out; omega
            have e4 : R0 = (zs.take q ++ List.replicate l v ++ zs.drop q).take 8192 := by
              rw [← HR0.out]
            rw [e2, e4]
            exact ⟨A3, c3, rfl, e1.weaken HB.out.size, HB.out.trans ((HBB.out.trans (HB3.out.mono (Nat.le_refl _))).mono HB.out.size)⟩
    · by_cases hqc : c = q
      · obtain rfl : q = n := by omega
        subst hqc
        have hle2 : (c : Int) ≤ (c : Int) + (l : Int) := by omega
        have hrp := Lib.hid (hr0.pre (k := c) (by omega))
        have hrs := Lib.hid ((show RI w0 w0.heap.size (some ⟨b, o, none⟩) 0 (zs.drop c) from by rw [List.drop_of_length_le (by rw [L.out]; exact Nat.le_refl _)]; exact RI.nil _ _ _))
        go_enter Try.func164, Try.ntmps164
        go_wp2_with fail
        go_region
        all_goals
          go_upto_region 13 with fail
          go_cut [8] (fun v8 wc => ∃ A2 c2, v8 = .slice A2 (c + l) c2 ∧ OwnI 2 wc w0.heap.size A2 (c + l) c2 (zs.take (c) ++ List.replicate l v) ∧ Below w0.heap.size w0 wc)
          case first =>
            go_region_law (first
              | ((refine step_call 190 Try.func190 own_fn.1 own_fn.2 rfl rfl #[.slice (some ⟨b, o, none⟩) (c) c] ?_ ?_); (simp [Act.eval, Act.put]); (refine (l01Own_any (some ⟨b, o, none⟩) (c) c (zs.take (c)) _ (by first | exact hrp.out | exact hrp.out.up (below_dd HB5.out)) (by omega) (fun e => by cases e)).mono ?_); rintro e w1 ⟨A1, c1, rfl, hown1, hb1⟩; (refine ⟨_, rfl, ?_⟩); have HO := Lib.hid hown1; have HB1 := Lib.hid hb1; have hbx1 : Blk4 w1 w.heap.size 76 (.int .i64 4) (.int .i64 c) (.int .i64 l) (.int .i64 v) := (by first | exact Blk4.next (w := w0.drew.drew) hb1 hbx | exact Blk4.next hb1 hbx5); have hx12 := hbx1.c2; have hx13 := hbx1.c3; clear hown1 hb1)
              | ((refine step_call 229 Try.func229 equal_fn.1 equal_fn.2 rfl rfl #[.int .i64 l, .int .i64 v] ?_ ?_); (simp [Act.eval]); (refine (l20Equal_any l v _ (by omega)).mono ?_); rintro e w5 ⟨A5, c5, rfl, hown5, hb5⟩; (refine ⟨_, rfl, ?_⟩); have HE := Lib.hid hown5; have HB5 := Lib.hid hb5; have hbx5 : Blk4 w5 w.heap.size 76 (.int .i64 4) (.int .i64 c) (.int .i64 l) (.int .i64 v) := (by first | exact Blk4.next (w := w0.drew.drew) hb5 hbx | exact Blk4.next hb5 hbx1); have hx52 := hbx5.c2; have hx53 := hbx5.c3; clear hown5 hb5)
              | (refine step_appRN _ Try.underlying24 infoInt rfl (.tmp 57) (.tmp 62) rfl w0.heap.size A1 (c) c1 (zs.take (c)) (by simp [Act.eval]) (by first | exact (HO.out.below HB5.out).weaken (Nat.le_refl _) | exact HO.out.weaken HB5.out.size) A5 l c5 _ (List.replicate l v) (by simp [Act.eval]) (by first | exact HE.out.reads | exact HE.out.reads.up HB1.out) (own_none HE.out) (c + l) (by omega) (by omega) (by first | exact Nat.le_trans HB1.out.size HB5.out.size | exact Nat.le_trans HB5.out.size HB1.out.size) ?_; intro A2 c2 w2 hown2 hB2 hg2; have HO2 := Lib.hid hown2; have hbb : Below w0.heap.size w0 w2 := (by first | exact (below_next HB5.out (below_dd HB1.out) (Nat.le_refl _)).trans (hB2 _ (Nat.le_refl _)) | exact (below_next HB1.out (below_dd HB5.out) (Nat.le_refl _)).trans (hB2 _ (Nat.le_refl _))); have HBB := Lib.hid hbb; clear hown2 hB2 hg2 hbb))
            all_goals
              go_wp2_with fail
              go_meet
              exact ⟨A2, c2, rfl, HO2.out, HBB.out⟩
          case rest =>
            obtain ⟨A2, c2, rfl, hown2, hbb⟩ := hcut
            have HO2 := Lib.hid hown2
            have HBB := Lib.hid hbb
            clear hown2 hbb
            by_cases hbig : c + l ≤ 8192
            case pos =>
              have hbi : ((c + l : Nat) : Int) ≤ 8192 := by omega
              have hbj : (c : Int) + (l : Int) ≤ 8192 := by omega
              go_wp2_with (at_builtin; refine wpl_appRN _ Try.underlying24 infoInt rfl _ _ rfl w0.heap.size _ _ _ _ rfl HO2.out (some ⟨b, o, none⟩) (0) (0) w0.heap.size (zs.drop (c)) rfl (hrs.out.below HBB.out (Nat.le_refl _)) (fun e => by cases e) (c + l) (by omega) (by omega) HBB.out.size ?_; intro A3 c3 w3 hown3 hB3 hg3; have hcap := hown3.cap.1; have hcap2 : (c : Int) + (l : Int) ≤ (c3 : Int) := (by omega); have HO3 := Lib.hid hown3; have HB3 := Lib.hid (hB3 _ (Nat.le_refl _)); clear hown3 hB3 hg3)
              go_ret
              have e1 := HO3.out
              have e2 : N0 = c + l := by have := HN0.out; omega
              have e4 : R0 = zs.take c ++ List.replicate l v ++ zs.drop c := by
                rw [← e1.len] at hbig
                rw [← HR0.out]
                exact List.take_of_length_le hbig
              rw [e2, e4]
              exact ⟨A3, c3, rfl, e1.weaken HB.out.size, HB.out.trans ((HBB.out.trans (HB3.out.mono (Nat.le_refl _))).mono HB.out.size)⟩
            case neg =>
              have hbi : ¬ ((c : Int) + (l : Int) ≤ 8192) := by omega
              have hbj : (8192 : Int) < (c : Int) + (l : Int) := by omega
              go_wp2_with (at_builtin; refine wpl_appRN _ Try.underlying24 infoInt rfl _ _ rfl w0.heap.size _ _ _ _ rfl HO2.out (some ⟨b, o, none⟩) (0) (0) w0.heap.size (zs.drop (c)) rfl (hrs.out.below HBB.out (Nat.le_refl _)) (fun e => by cases e) (c + l) (by omega) (by omega) HBB.out.size ?_; intro A3 c3 w3 hown3 hB3 hg3; have hcap := hown3.cap.1; have hcap2 : 8192 ≤ c3 := (by omega); have HO3 := Lib.hid hown3; have HB3 := Lib.hid (hB3 _ (Nat.le_refl _)); clear hown3 hB3 hg3)
              go_ret
              have e1 := HO3.out.cut (k := 8192) (by omega)
              have e2 : N0 = 8192 := by have := HN0.out; omega
              have e4 : R0 = (zs.take c ++ List.replicate l v ++ zs.drop c).take 8192 := by
                rw [← HR0.out]
              rw [e2, e4]
              exact ⟨A3, c3, rfl, e1.weaken HB.out.size, HB.out.trans ((HBB.out.trans (HB3.out.mono (Nat.le_refl _))).mono HB.out.size)⟩
      · by_cases hqe : q = n
        · subst hqe
          have hle2 : (q : Int) ≤ (q : Int) + (l : Int) := by omega
          have hcq : q ≤ c := by omega
          have hrp := Lib.hid (hr0.pre (k := q) (by omega))
          have hrs := Lib.hid ((show RI w0 w0.heap.size (some ⟨b, o + q, none⟩) 0 (zs.drop q) from by have := hr0.suf (k := q) (by omega); rwa [Nat.sub_self] at this))
          go_enter Try.func164, Try.ntmps164
          go_wp2_with fail
          go_region
          all_goals
            go_upto_region 13 with fail
            go_cut [8] (fun v8 wc => ∃ A2 c2, v8 = .slice A2 (q + l) c2 ∧ OwnI 2 wc w0.heap.size A2 (q + l) c2 (zs.take (q) ++ List.replicate l v) ∧ Below w0.heap.size w0 wc)
            case first =>
              go_region_law (first
                | ((refine step_call 190 Try.func190 own_fn.1 own_fn.2 rfl rfl #[.slice (some ⟨b, o, none⟩) (q) c] ?_ ?_); (simp [Act.eval, Act.put]); (refine (l01Own_any (some ⟨b, o, none⟩) (q) c (zs.take (q)) _ (by first | exact hrp.out | exact hrp.out.up (below_dd HB5.out)) (by omega) (fun e => by cases e)).mono ?_); rintro e w1 ⟨A1, c1, rfl, hown1, hb1⟩; (refine ⟨_, rfl, ?_⟩); have HO := Lib.hid hown1; have HB1 := Lib.hid hb1; have hbx1 : Blk4 w1 w.heap.size 76 (.int .i64 4) (.int .i64 q) (.int .i64 l) (.int .i64 v) := (by first | exact Blk4.next (w := w0.drew.drew) hb1 hbx | exact Blk4.next hb1 hbx5); have hx12 := hbx1.c2; have hx13 := hbx1.c3; clear hown1 hb1)
                | ((refine step_call 229 Try.func229 equal_fn.1 equal_fn.2 rfl rfl #[.int .i64 l, .int .i64 v] ?_ ?_); (simp [Act.eval]); (refine (l20Equal_any l v _ (by omega)).mono ?_); rintro e w5 ⟨A5, c5, rfl, hown5, hb5⟩; (refine ⟨_, rfl, ?_⟩); have HE := Lib.hid hown5; have HB5 := Lib.hid hb5; have hbx5 : Blk4 w5 w.heap.size 76 (.int .i64 4) (.int .i64 q) (.int .i64 l) (.int .i64 v) := (by first | exact Blk4.next (w := w0.drew.drew) hb5 hbx | exact Blk4.next hb5 hbx1); have hx52 := hbx5.c2; have hx53 := hbx5.c3; clear hown5 hb5)
                | (refine step_appRN _ Try.underlying24 infoInt rfl (.tmp 57) (.tmp 62) rfl w0.heap.size A1 (q) c1 (zs.take (q)) (by simp [Act.eval]) (by first | exact (HO.out.below HB5.out).weaken (Nat.le_refl _) | exact HO.out.weaken HB5.out.size) A5 l c5 _ (List.replicate l v) (by simp [Act.eval]) (by first | exact HE.out.reads | exact HE.out.reads.up HB1.out) (own_none HE.out) (q + l) (by omega) (by omega) (by first | exact Nat.le_trans HB1.out.size HB5.out.size | exact Nat.le_trans HB5.out.size HB1.out.size) ?_; intro A2 c2 w2 hown2 hB2 hg2; have HO2 := Lib.hid hown2; have hbb : Below w0.heap.size w0 w2 := (by first | exact (below_next HB5.out (below_dd HB1.out) (Nat.le_refl _)).trans (hB2 _ (Nat.le_refl _)) | exact (below_next HB1.out (below_dd HB5.out) (Nat.le_refl _)).trans (hB2 _ (Nat.le_refl _))); have HBB := Lib.hid hbb; clear hown2 hB2 hg2 hbb))
              all_goals
                go_wp2_with fail
                go_meet
                exact ⟨A2, c2, rfl, HO2.out, HBB.out⟩
            case rest =>
              obtain ⟨A2, c2, rfl, hown2, hbb⟩ := hcut
              have HO2 := Lib.hid hown2
              have HBB := Lib.hid hbb
              clear hown2 hbb
              by_cases hbig : q + l ≤ 8192
              case pos =>
                have hbi : ((q + l : Nat) : Int) ≤ 8192 := by omega
                have hbj : (q : Int) + (l : Int) ≤ 8192 := by omega
                go_wp2_with (at_builtin; refine wpl_appRN _ Try.underlying24 infoInt rfl _ _ rfl w0.heap.size _ _ _ _ rfl HO2.out (some ⟨b, o + q, none⟩) (0) (c - q) w0.heap.size (zs.drop (q)) rfl (hrs.out.below HBB.out (Nat.le_refl _)) (fun e => by cases e) (q + l) (by omega) (by omega) HBB.out.size ?_; intro A3 c3 w3 hown3 hB3 hg3; have hcap := hown3.cap.1; have hcap2 : (q : Int) + (l : Int) ≤ (c3 : Int) := (by omega); have HO3 := Lib.hid hown3; have HB3 := Lib.hid (hB3 _ (Nat.le_refl _)); clear hown3 hB3 hg3)
                go_ret
                have e1 := HO3.out
                have e2 : N0 = q + l := by have := HN0.out; omega
                have e4 : R0 = zs.take q ++ List.replicate l v ++ zs.drop q := by
                  rw [← e1.len] at hbig
                  rw [← HR0.out]
                  exact List.take_of_length_le hbig
                rw [e2, e4]
                exact ⟨A3, c3, rfl, e1.weaken HB.out.size, HB.out.trans ((HBB.out.trans (HB3.out.mono (Nat.le_refl _))).mono HB.out.size)⟩
              case neg =>
                have hbi : ¬ ((q : Int) + (l : Int) ≤ 8192) := by omega
                have hbj : (8192 : Int) < (q : Int) + (l : Int) := by omega
                go_wp2_with (at_builtin; refine wpl_appRN _ Try.underlying24 infoInt rfl _ _ rfl w0.heap.size _ _ _ _ rfl HO2.out (some ⟨b, o + q, none⟩) (0) (c - q) w0.heap.size (zs.drop (q)) rfl (hrs.out.below HBB.out (Nat.le_refl _)) (fun e => by cases e) (q + l) (by omega) (by omega) HBB.out.size ?_; intro A3 c3 w3 hown3 hB3 hg3; have hcap := hown3.cap.1; have hcap2 : 8192 ≤ c3 := (by omega); have HO3 := Lib.hid hown3; have HB3 := Lib.hid (hB3 _ (Nat.le_refl _)); clear hown3 hB3 hg3)
                go_ret
                have e1 := HO3.out.cut (k := 8192) (by omega)
                have e2 : N0 = 8192 := by have := HN0.out; omega
                have e4 : R0 = (zs.take q ++ List.replicate l v ++ zs.drop q).take 8192 := by
                  rw [← HR0.out]
                rw [e2, e4]
                exact ⟨A3, c3, rfl, e1.weaken HB.out.size, HB.out.trans ((HBB.out.trans (HB3.out.mono (Nat.le_refl _))).mono HB.out.size)⟩
        · skip
          have hqlt : q < n := by omega
          have hle2 : (n : Int) ≤ (q : Int) + (l : Int) := by omega
          have hcq : q ≤ c := by omega
          have hgt : ¬ ((q : Int) > (n : Int)) := by omega
          have hnq : ¬ (n < q) := by omega
          have hrp := Lib.hid (hr0.pre (k := q) (by omega))
          have hrs := Lib.hid (hr0.suf (k := q) (by omega))
          go_enter Try.func164, Try.ntmps164
          go_wp2_with fail
          go_region
          all_goals
            go_upto_region 13 with fail
            go_cut [8] (fun v8 wc => ∃ A2 c2, v8 = .slice A2 (q + l) c2 ∧ OwnI 2 wc w0.heap.size A2 (q + l) c2 (zs.take (q) ++ List.replicate l v) ∧ Below w0.heap.size w0 wc)
            case first =>
              go_region_law (first
                | ((refine step_call 190 Try.func190 own_fn.1 own_fn.2 rfl rfl #[.slice (some ⟨b, o, none⟩) (q) c] ?_ ?_); (simp [Act.eval, Act.put]); (refine (l01Own_any (some ⟨b, o, none⟩) (q) c (zs.take (q)) _ (by first | exact hrp.out | exact hrp.out.up (below_dd HB5.out)) (by omega) (fun e => by cases e)).mono ?_); rintro e w1 ⟨A1, c1, rfl, hown1, hb1⟩; (refine ⟨_, rfl, ?_⟩); have HO := Lib.hid hown1; have HB1 := Lib.hid hb1; have hbx1 : Blk4 w1 w.heap.size 76 (.int .i64 4) (.int .i64 q) (.int .i64 l) (.int .i64 v) := (by first | exact Blk4.next (w := w0.drew.drew) hb1 hbx | exact Blk4.next hb1 hbx5); have hx12 := hbx1.c2; have hx13 := hbx1.c3; clear hown1 hb1)
                | ((refine step_call 229 Try.func229 equal_fn.1 equal_fn.2 rfl rfl #[.int .i64 l, .int .i64 v] ?_ ?_); (simp [Act.eval]); (refine (l20Equal_any l v _ (by omega)).mono ?_); rintro e w5 ⟨A5, c5, rfl, hown5, hb5⟩; (refine ⟨_, rfl, ?_⟩); have HE := Lib.hid hown5; have HB5 := Lib.hid hb5; have hbx5 : Blk4 w5 w.heap.size 76 (.int .i64 4) (.int .i64 q) (.int .i64 l) (.int .i64 v) := (by first | exact Blk4.next (w := w0.drew.drew) hb5 hbx | exact Blk4.next hb5 hbx1); have hx52 := hbx5.c2; have hx53 := hbx5.c3; clear hown5 hb5)
                | (refine step_appRN _ Try.underlying24 infoInt rfl (.tmp 57) (.tmp 62) rfl w0.heap.size A1 (q) c1 (zs.take (q)) (by simp [Act.eval]) (by first | exact (HO.out.below HB5.out).weaken (Nat.le_refl _) | exact HO.out.weaken HB5.out.size) A5 l c5 _ (List.replicate l v) (by simp [Act.eval]) (by first | exact HE.out.reads | exact HE.out.reads.up HB1.out) (own_none HE.out) (q + l) (by omega) (by omega) (by first | exact Nat.le_trans HB1.out.size HB5.out.size | exact Nat.le_trans HB5.out.size HB1.out.size) ?_; intro A2 c2 w2 hown2 hB2 hg2; have HO2 := Lib.hid hown2; have hbb : Below w0.heap.size w0 w2 := (by first | exact (below_next HB5.out (below_dd HB1.out) (Nat.le_refl _)).trans (hB2 _ (Nat.le_refl _)) | exact (below_next HB1.out (below_dd HB5.out) (Nat.le_refl _)).trans (hB2 _ (Nat.le_refl _))); have HBB := Lib.hid hbb; clear hown2 hB2 hg2 hbb))
              all_goals
                go_wp2_with fail
                go_meet
                exact ⟨A2, c2, rfl, HO2.out, HBB.out⟩
            case rest =>
              obtain ⟨A2, c2, rfl, hown2, hbb⟩ := hcut
              have HO2 := Lib.hid hown2
              have HBB := Lib.hid hbb
              clear hown2 hbb
              by_cases hbig : n + l ≤ 8192
              case pos =>
                have hbi : ((n + l : Nat) : Int) ≤ 8192 := by omega
                have hbj : (n : Int) + (l : Int) ≤ 8192 := by omega
                go_wp2_with (at_builtin; refine wpl_appRN _ Try.underlying24 infoInt rfl _ _ rfl w0.heap.size _ _ _ _ rfl HO2.out (some ⟨b, o + q, none⟩) (n - q) (c - q) w0.heap.size (zs.drop (q)) rfl (hrs.out.below HBB.out (Nat.le_refl _)) (fun e => by cases e) (n + l) (by omega) (by omega) HBB.out.size ?_; intro A3 c3 w3 hown3 hB3 hg3; have hcap := hown3.cap.1; have hcap2 : (n : Int) + (l : Int) ≤ (c3 : Int) := (by omega); have HO3 := Lib.hid hown3; have HB3 := Lib.hid (hB3 _ (Nat.le_refl _)); clear hown3 hB3 hg3)
                go_ret
                have e1 := HO3.out
                have e2 : N0 = n + l := by have := HN0.out; omega
                have e4 : R0 = zs.take q ++ List.replicate l v ++ zs.drop q := by
                  rw [← e1.len] at hbig
                  rw [← HR0.out]
                  exact List.take_of_length_le hbig
                rw [e2, e4]
                exact ⟨A3, c3, rfl, e1.weaken HB.out.size, HB.out.trans ((HBB.out.trans (HB3.out.mono (Nat.le_refl _))).mono HB.out.size)⟩
              case neg =>
                have hbi : ¬ ((n : Int) + (l : Int) ≤ 8192) := by omega
                have hbj : (8192 : Int) < (n : Int) + (l : Int) := by omega
                go_wp2_with (at_builtin; refine wpl_appRN _ Try.underlying24 infoInt rfl _ _ rfl w0.heap.size _ _ _ _ rfl HO2.out (some ⟨b, o + q, none⟩) (n - q) (c - q) w0.heap.size (zs.drop (q)) rfl (hrs.out.below HBB.out (Nat.le_refl _)) (fun e => by cases e) (n + l) (by omega) (by omega) HBB.out.size ?_; intro A3 c3 w3 hown3 hB3 hg3; have hcap := hown3.cap.1; have hcap2 : 8192 ≤ c3 := (by omega); have HO3 := Lib.hid hown3; have HB3 := Lib.hid (hB3 _ (Nat.le_refl _)); clear hown3 hB3 hg3)
                go_ret
                have e1 := HO3.out.cut (k := 8192) (by omega)
                have e2 : N0 = 8192 := by have := HN0.out; omega
                have e4 : R0 = (zs.take q ++ List.replicate l v ++ zs.drop q).take 8192 := by
                  rw [← HR0.out]
                rw [e2, e4]
                exact ⟨A3, c3, rfl, e1.weaken HB.out.size, HB.out.trans ((HBB.out.trans (HB3.out.mono (Nat.le_refl _))).mono HB.out.size)⟩

set_option maxRecDepth 20000 in
set_option maxHeartbeats 8000000 in
theorem l24Apply_far (A : Option Addr) (n c : Nat) (zs : List Int) (q l : Nat) (v : Int) (w : World) (hri : RI w w.heap.size A n zs) (hn : n ≤ 8192) (hq : q ≤ 8192) (hl : l ≤ 8192) (hA : Pl A c) (hqn : n < q) :
    Calls Try.prog 164 #[.slice A n c, .agg #[.int .i64 4, .int .i64 q, .int .i64 l, .int .i64 v]] w (RetI 2 w n zs) := by
  have hb0 : Below w.heap.size w (w.alloc (.cells #[.int .i64 4, .int .i64 q, .int .i64 l, .int .i64 v] 76)) := (Below.refl _ _).alloc (Nat.le_refl _) _
  have hr0 := hri.up hb0
  have hbx := Blk4.new w 76 (.int .i64 4) (.int .i64 q) (.int .i64 l) (.int .i64 v)
  obtain ⟨w0, hw0⟩ : ∃ x, w.alloc (.cells #[.int .i64 4, .int .i64 q, .int .i64 l, .int .i64 v] 76) = x := ⟨_, rfl⟩
  rw [hw0] at hb0 hr0 hbx
  have hk0 := hbx.c0
  have hk1 := hbx.c1
  have hk2 := hbx.c2
  have HB := Lib.hid hb0
  have hle : n ≤ q := by omega
  have hle2 : (n : Int) ≤ (q : Int) + (l : Int) := by omega
  have hgt : (q : Int) > (n : Int) := by omega
  clear hb0 hbx
  go_enter Try.func164, Try.ntmps164
  go_wp2_with fail
  go_region
  all_goals
    go_wp2_with fail
    refine (l01Own_any A n c zs _ (by exact hr0) (by omega) hA.cap).mono ?_
    rintro e w1 ⟨A1, c1, rfl, hown1, hb1⟩
    have HO := Lib.hid hown1
    have HB1 := Lib.hid hb1
    clear hown1 hb1
    go_wp2
    go_ret
    exact ⟨A1, c1, rfl, HO.out.weaken HB.out.size, below_next_drew HB1.out HB.out (Nat.le_refl _)⟩
end ApplyFault
end Go.Proofs.Ytlfbmedgkkfalaa
