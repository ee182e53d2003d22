/- slices.Insert on a row of numbers of the call's own. Conditions: the inserted numbers lie in another block, plain memory. -/
import Derived.Test.YtlfbmedgkkfalaaDel
import Derived.Lib.AppendZerosOnto
import Derived.Lib.Overlaps
namespace Go.Proofs.Ytlfbmedgkkfalaa
open Go.RowKit

section
variable {P : Program} {ops : Array Oper} {o : Oper} {a : Act} {K : Act → World → Prop} {Q : Exit → Act → World → Prop} {E : Prop} {rest : List Oper}
theorem run_copy_ci (w : World) {TS T ty : TypeId} (ht : P.underlying TS = some (.slice T)) (hinfo : (P.info? T).map (fun i => (i.zero, i.size, i.bytes)) = some (some (.int .i64 0), 1, 8))
    (g off dLen dCap : Nat) (ad : Addr) (sLen sCap : Nat) (cur : List Value) (hg : w.heap[g]? = some (.cells cur.toArray T (0, 0))) (cs : List Value) (hn : cs.length = Nat.min sLen dLen)
    (hsrc : ∀ j u, cs[j]? = some u → w.cell? (ad.add j) = some u) (hfit : off + cs.length ≤ cur.length) (h1 : ∀ u ∈ cs, u.oneCell' = true) :
    ∃ w', (Builtin.copy_ #[TS, TS] ty #[.slice (some ⟨g, off, none⟩) dLen dCap, .slice (some ad) sLen sCap]).run P w = .ok (goInt cs.length) w' ∧ Hid (w'.heap[g]? = some (.cells (splice cur off cs).toArray T (0, 0))) ∧ w.grownBy w' (some g) := by
  obtain ⟨i, hi, hz, hs1, hb1⟩ := info_split hinfo
  have hrun := run_copy_row (P := P) w TS TS ty T g off dLen dCap ad sLen sCap cur.toArray T cs ht (by rw [hi]; simp [hs1]) hg hn hsrc (by simpa using hfit) h1
  refine ⟨_, hrun, ?_, grown_setRow _ _ _⟩
  show _ = _
  rw [setRow_heap w g _ _ T _ hg]
  simp [splice]
/-- 'copy(d, s)' onto an own row that is known whole -/
theorem wpl_copy (w : World) (hgd : o.guard = none) (d s : Operand) {TS T : TypeId} (ho : o.op = .call { callee := .builtin .copy, args := #[d, s], argTypes := #[TS, TS] })
    (ht : P.underlying TS = some (.slice T)) (hinfo : (P.info? T).map (fun i => (i.zero, i.size, i.bytes)) = some (some (.int .i64 0), 1, 8))
    (g off dLen dCap : Nat) (ad : Addr) (sLen sCap : Nat) (hd : a.eval d = .slice (some ⟨g, off, none⟩) dLen dCap) (hs : a.eval s = .slice (some ad) sLen sCap)
    (cur : List Value) (hg : w.heap[g]? = some (.cells cur.toArray T (0, 0))) (cs : List Value) (hn : cs.length = Nat.min sLen dLen)
    (hsrc : ∀ j u, cs[j]? = some u → w.cell? (ad.add j) = some u) (hfit : off + cs.length ≤ cur.length) (h1 : ∀ u ∈ cs, u.oneCell' = true)
    (h : ∀ w', Hid (w'.heap[g]? = some (.cells (splice cur off cs).toArray T (0, 0))) → w.grownBy w' (some g) → wpList P ops Q rest (a.put o.dst (goInt cs.length)) w') :
    wpList P ops Q (o :: rest) a w := by
  obtain ⟨w', hrun, h2, h3⟩ := run_copy_ci (P := P) (ty := o.type) w ht hinfo g off dLen dCap ad sLen sCap cur hg cs hn hsrc hfit h1
  refine wpList_plain hgd fun K hK => ?_
  unfold Oper.wp
  simp [execOp, ho, resolve, invoke, builtin, hd, hs, hrun, Result.andThen]
  exact hK _ _ (h w' h2 h3)
theorem step_copy (w : World) (hgd : o.guard = none) (d s : Operand) {TS T : TypeId} (ho : o.op = .call { callee := .builtin .copy, args := #[d, s], argTypes := #[TS, TS] })
    (ht : P.underlying TS = some (.slice T)) (hinfo : (P.info? T).map (fun i => (i.zero, i.size, i.bytes)) = some (some (.int .i64 0), 1, 8))
    (g off dLen dCap : Nat) (ad : Addr) (sLen sCap : Nat) (hd : a.eval d = .slice (some ⟨g, off, none⟩) dLen dCap) (hs : a.eval s = .slice (some ad) sLen sCap)
    (cur : List Value) (hg : w.heap[g]? = some (.cells cur.toArray T (0, 0))) (cs : List Value) (hn : cs.length = Nat.min sLen dLen)
    (hsrc : ∀ j u, cs[j]? = some u → w.cell? (ad.add j) = some u) (hfit : off + cs.length ≤ cur.length) (h1 : ∀ u ∈ cs, u.oneCell' = true)
    (h : ∀ w', Hid (w'.heap[g]? = some (.cells (splice cur off cs).toArray T (0, 0))) → w.grownBy w' (some g) → K (a.put o.dst (goInt cs.length)) w') :
    if Region.wanted o (yielded ops a.tmps) = true then Oper.wp P o a w K Q else E := by
  have hw : Region.wanted o (yielded ops a.tmps) = true := by simp [Region.wanted, hgd]
  rw [if_pos hw]
  obtain ⟨w', hrun, h2, h3⟩ := run_copy_ci (P := P) (ty := o.type) w ht hinfo g off dLen dCap ad sLen sCap cur hg cs hn hsrc hfit h1
  unfold Oper.wp
  simp [execOp, ho, resolve, invoke, builtin, hd, hs, hrun, Result.andThen]
  exact h w' h2 h3
/-- 'append(s[:i], make([]int64, k)...)' where there is no room: a new row -/
theorem wpl_app_zeros (w : World) (hgd : o.guard = none) (s x : Operand) {TS TI T : TypeId} {kn : IntKind} (ho : o.op = .call { callee := .builtin .append, args := #[s, x], argTypes := #[TS, TI] })
    (ht : P.underlying TS = some (.slice T)) (hti : P.underlying TI = some (.int kn)) (hinfo : (P.info? T).map (fun i => (i.zero, i.size, i.bytes)) = some (some (.int .i64 0), 1, 8))
    (base : Nat) (A : Option Addr) (n c : Nat) (zs : List Int) (hs : a.eval s = .slice A n c) (hown : OwnI T w base A n c zs) (k : Nat) (hx : a.eval x = .int .i64 k) (hk : 0 < k) (N : Nat) (hN : n + k = N) (hc : c < N) (hn : N ≤ 1099511627776) (hbase : base ≤ w.heap.size)
    (h : ∀ g' c' w', g' = w.heap.size → OwnI T w' base (some ⟨g', 0, none⟩) N c' (zs ++ List.replicate k 0) → w.grownBy w' none → wpList P ops Q rest (a.put o.dst (.slice (some ⟨g', 0, none⟩) N c')) w') :
    wpList P ops Q (o :: rest) a w := by
  subst hN
  obtain ⟨i, hi, hz, hs1, hb1⟩ := info_split hinfo
  have hL := hown.len
  have hold : (Builtin.firstCells i.size n (.slice A n c)).run P w.drew = .ok (ci zs).toArray w.drew := by
    rw [hs1]
    rcases A with _ | ad
    · have h0 : n = 0 := by
        rcases Nat.eq_zero_or_pos n with hh | hh
        · exact hh
        · obtain ⟨g, e, _⟩ := hown.form hh; cases e
      subst h0
      obtain rfl : zs = [] := List.length_eq_zero_iff.1 hL
      exact run_firstCells_none w.drew 1 0 0 c
    · refine run_firstCells_some w.drew 1 n ad n c (ci zs) (by rw [ci_len, hL, Nat.mul_one]) (fun j u hj => ?_)
      obtain ⟨hj1, rfl⟩ := ci_get hj
      obtain ⟨g, e, _⟩ := hown.form (by omega)
      obtain rfl := Option.some.inj e
      rw [Go.WideShapes.add_plain, Nat.zero_add]
      exact hown.cell (by omega)
  have hrun := Lib.run_append_grow_zeros (P := P) w TS TI o.type T i (.int .i64 0) .i64 kn ht hti hi hz A n c (ci zs) hold k hk (by omega) hc (by omega) (by rw [hb1]; omega) (by rw [hb1]; exact growslice_fits hc (by omega))
  refine Lib.wpList_append_run w hgd s x TS TI ho _ _ hs hx _ _ hrun (h w.heap.size (grownCap w (n + k) c T) _ rfl ?_ (grown_drew (World.grownBy_alloc w.drew _ none)))
  have hz1 : ∀ q, (Builtin.zeroCells (Value.int .i64 0).cells q).toList = List.replicate q (.int .i64 0) := by
    intro q
    simp [Builtin.zeroCells, Value.cells]
    apply List.ext_getElem
    · simp
    · intro i h1 h2
      simp [Nat.mod_one]
  have hge := grownCap_ge w (n + k) c T
  refine OwnI.shut (cur := ci zs ++ List.replicate k (.int .i64 0) ++ List.replicate (grownCap w (n + k) c T - (n + k)) (.int .i64 0)) ?_ hbase hge (grownCap_le_maxLen w _ _ _ (by unfold maxLen; omega)) ?_ ?_
  · have := new_heap w.drew (.cells ((ci zs).toArray ++ Builtin.zeroCells (Value.int .i64 0).cells k ++ Builtin.zeroCells (Value.int .i64 0).cells (grownCap w (n + k) c T - (n + k))) T)
    refine Eq.trans this ?_
    congr 2
    apply Array.toList_inj.1
    rw [Array.toList_append, Array.toList_append, hz1, hz1]
  · simp only [List.length_append, ci_len, hL, List.length_replicate]; omega
  · rw [List.take_append_of_le_length (by simp only [List.length_append, ci_len, hL, List.length_replicate]; omega), List.take_of_length_le (by simp only [List.length_append, ci_len, hL, List.length_replicate]; omega), ci_app]
    simp [ci]
end

theorem ownBlock_cap (A : Option Addr) (n c n' c' : Nat) : (Value.slice A n c).ownBlock = (Value.slice A n' c').ownBlock := by cases A <;> rfl
/-- the numbers to be inserted lie in plain memory -/
def Lies (w : World) (vb vo m : Nat) (ys : List Int) : Prop :=
  ys.length = m ∧ (∃ cur t, w.heap[vb]? = some (.cells cur t (0, 0))) ∧ ∀ j, j < m → w.cell? ⟨vb, vo + j, none⟩ = some (.int .i64 (gi ys j))

set_option maxRecDepth 20000 in
set_option maxHeartbeats 4000000 in
theorem insert_zero (A A2 : Option Addr) (n c i c2 : Nat) (w : World) (hi : i ≤ n) (_ : n ≤ c) :
    Calls Try.prog 169 #[.slice A n c, .int .i64 i, .slice A2 0 c2] w fun e w' => e = .returned (.slice A n c) ∧ w = w' := by
  go_enter Try.func169, Try.ntmps169
  go_wp2
  all_goals
    go_ret
    exact ⟨rfl, rfl⟩

set_option maxRecDepth 20000 in
set_option maxHeartbeats 4000000 in
theorem insert_end (A : Option Addr) (n c vb vo m c2 base : Nat) (zs ys : List Int) (w : World) (hown : OwnI 2 w base A n c zs) (hL : Lies w vb vo m ys) (hm : 0 < m) (hn : n + m ≤ 1099511627776) (hbase : base ≤ w.heap.size) :
    Calls Try.prog 169 #[.slice A n c, .int .i64 n, .slice (some ⟨vb, vo, none⟩) m c2] w fun e w' => ∃ A' c', e = .returned (.slice A' (n + m) c') ∧ OwnI 2 w' base A' (n + m) c' (zs ++ ys) ∧ w.grownBy w' (Value.slice A n c).ownBlock := by
  have hnc := hown.cap.1
  have hri : RI w (vb + 1) (some ⟨vb, vo, none⟩) m ys := ⟨hL.1, fun _ => ⟨vb, vo, rfl, Nat.lt_succ_self _, hL.2.2⟩⟩
  have HR := Lib.hid hri
  have HO := Lib.hid hown
  clear hri hL hown
  go_enter Try.func169, Try.ntmps169
  go_wp2_with (at_builtin; refine wpl_appR _ Try.underlying24 infoInt rfl _ _ rfl base _ _ _ _ rfl HO.out (some ⟨vb, vo, none⟩) m c2 (vb + 1) ys rfl HR.out (fun e => by cases e) (by omega) hbase ?_; intro A2 c2 w2 hown2 hB2 hg2)
  all_goals
    go_ret
    exact ⟨_, _, rfl, hown2, by rw [ownBlock_cap A n _ n c]; exact hg2⟩

set_option maxRecDepth 20000 in
set_option maxHeartbeats 8000000 in
theorem insert_shift (g n c i vb vo m c2 base : Nat) (zs ys : List Int) (w : World) (hown : OwnI 2 w base (some ⟨g, 0, none⟩) n c zs) (hL : Lies w vb vo m ys) (hne : vb ≠ g) (hi : i < n) (hm : 0 < m) (hroom : n + m ≤ c) (hn : n + m ≤ 1099511627776) :
    Calls Try.prog 169 #[.slice (some ⟨g, 0, none⟩) n c, .int .i64 i, .slice (some ⟨vb, vo, none⟩) m c2] w fun e w' => e = .returned (.slice (some ⟨g, 0, none⟩) (n + m) c) ∧ OwnI 2 w' base (some ⟨g, 0, none⟩) (n + m) c (zs.take i ++ ys ++ zs.drop i) ∧ w.grownBy w' (some g) := by
  have L := Lib.hid hown.len
  obtain ⟨cur, hh, hbg, hnc, hcm, hcl, htk⟩ := hown.open
  have hcm2 := hcm
  unfold maxLen at hcm2
  have HH := Lib.hid hh
  have HCL := Lib.hid hcl
  have HTK := Lib.hid htk
  have hz1 : ¬ ((m : Int) = 0) := by omega
  have hz2 : ¬ ((i : Int) = (n : Int)) := by omega
  obtain ⟨hyl, ⟨cur2, t2, hh2⟩, hyc⟩ := hL
  have hov : ∀ lb cb, (callFunc 238 #[.slice (some ⟨vb, vo, none⟩) m c2, .slice (some ⟨g, i + m, none⟩) lb cb]).run Try.prog w = .ok (.value (.bool false)) w := fun lb cb => by
    rw [run_callFunc_extern Try.func238 (by kernel_rfl) (by kernel_rfl) (by kernel_rfl) (e := Extern.SlicesOverlaps.overlaps #[24, 24] #[4]) (by kernel_rfl),
      Lib.run_overlaps_apart w 24 4 2 Try.underlying24 1 (by obtain ⟨inf, hi, _, hs1, _⟩ := info_split infoInt; intro w; simp [sizeOf, typeInfo, hi, hs1]) ⟨vb, vo, none⟩ ⟨g, i + m, none⟩ m c2 lb cb hne t2 2 cur2.size c
        (by simp [World.shape?, hh2]) (by simp [World.shape?, hh, hcl]) (by omega) (by simp [World.frozen?, hh2]) (by simp [World.frozen?, hh2])]
    rfl
  obtain ⟨X, hXe⟩ : ∃ X, (cur.take n).drop i = X := ⟨_, rfl⟩
  have hX : X = ci (zs.drop i) := by rw [← hXe, htk, ci_drop]
  have hXl : X.length = n - i := by rw [← hXe, List.length_drop, List.length_take]; omega
  have hX1 : ∀ u ∈ X, u.oneCell' = true := by rw [hX]; exact ci_one _
  have hsrc : ∀ (k : Nat) (u : Value), X[k]? = some u → w.drew.cell? ⟨g, i + k, none⟩ = some u := by
    intro k u hu
    rw [← hXe, List.getElem?_drop, List.getElem?_take] at hu
    split at hu
    · exact cells_of_row hh hu
    · cases hu
  obtain ⟨Y, hYe⟩ : ∃ Y, ci ys = Y := ⟨_, rfl⟩
  have hYl : Y.length = m := by rw [← hYe, ci_len]; exact hyl
  have hY1 : ∀ u ∈ Y, u.oneCell' = true := by rw [← hYe]; exact ci_one _
  have hysrc : ∀ (k : Nat) (u : Value), Y[k]? = some u → w.cell? ⟨vb, vo + k, none⟩ = some u := by
    intro k u hu
    rw [← hYe] at hu
    obtain ⟨hk, rfl⟩ := ci_get hu
    exact hyc k (by omega)
  have hvw : vb < w.heap.size := (Array.getElem?_eq_some_iff.1 hh2).1
  have HX := Lib.hid hX
  have HXL := Lib.hid hXl
  have HX1 := Lib.hid hX1
  have HSRC := Lib.hid hsrc
  have HYE := Lib.hid hYe
  have HYL := Lib.hid hYl
  have HY1 := Lib.hid hY1
  have HYS := Lib.hid hysrc
  have hin : i ≤ n := by omega
  have hic : i ≤ c := by omega
  have himc : i + m ≤ c := by omega
  have hb2 : ¬ (c = i + m) := by omega
  have hb4 : ¬ (c = i) := by omega
  have hbi : (0 : Int) ≤ (i : Int) + (m : Int) := by omega
  have hw1 : IntKind.i64.wrap ((i : Int) + (m : Int)) = (i : Int) + (m : Int) := by rw [IntKind.wrap_i64]; omega
  have hbx : (i : Int) + (m : Int) ≤ (n : Int) + (m : Int) := by omega
  have hby : (i : Int) ≤ (n : Int) + (m : Int) := by omega
  have htn : ((i : Int) + (m : Int)).toNat = i + m := by omega
  have hb5 : ¬ ((n : Int) + (m : Int) > (c : Int)) := by omega
  clear hX hXl hX1 hsrc hYe hYl hY1 hysrc hXe hh2 hyc hh htk hcl hown hyl
  go_enter Try.func169, Try.ntmps169
  go_wp2_with (simp only [hov])
  go_region_law (refine step_copy _ rfl (.tmp 73) (.tmp 76) rfl Try.underlying24 infoInt g (i + m) (n + m - (i + m)) (c - (i + m)) ⟨g, i, none⟩ (n + m - i) (c - i) (by simp [Act.eval, Act.put]) (by simp [Act.eval, Act.put]) cur HH.out X (by have := HXL.out; simp only [Nat.min_def]; split <;> omega) (by intro k u hu; rw [Go.WideShapes.add_plain]; exact HSRC.out k u hu) (by have := HXL.out; have := HCL.out; omega) HX1.out ?_; intro w2 hh2 hg2)
  have HH2 := hh2
  have hg2' := grown_drew hg2
  clear hh2 hg2 hov
  have l1 : (splice cur (i + m) X).length = c := by rw [length_splice cur (i + m) X (by have := HXL.out; have := HCL.out; omega)]; exact HCL.out
  have HL1 := Lib.hid l1
  have HY2 := Lib.hid (show ∀ (k : Nat) (u : Value), Y[k]? = some u → w2.cell? ⟨vb, vo + k, none⟩ = some u from fun k u hu => hg2'.cell (HYS.out k u hu) (fun e => hne (Option.some.inj e)))
  clear l1 hw1
  go_wp2_with (with_reducible refine wpl_copy _ rfl (.tmp 80) (.tmp 81) rfl Try.underlying24 infoInt g i (n + m - i) (c - i) ⟨vb, vo, none⟩ m c2 (by simp [Act.eval]) (by simp [Act.eval]) (splice cur (i + m) X) HH2.out Y (by have := HYL.out; simp only [Nat.min_def]; split <;> omega) (by intro k u hu; rw [Go.WideShapes.add_plain]; exact HY2.out k u hu) (by have := HYL.out; have := HL1.out; omega) HY1.out ?_; intro w3 hh3 hg3)
  go_ret
  have e1 := HXL.out
  have e2 := HYL.out
  have e3 := HL1.out
  have e4 := HCL.out
  refine ⟨rfl, OwnI.shut hh3.out hbg hroom hcm ?_ ?_, grown_tr hg2' hg3⟩
  · exact (length_splice (splice cur (i + m) X) i Y (by omega)).trans e3
  · rw [splice_ins e2 e1 hin (by omega), ci_app, ci_app, HX.out, HYE.out, ci_take, ← HTK.out, List.take_take, Nat.min_eq_left hin]

set_option maxRecDepth 20000 in
set_option maxHeartbeats 8000000 in
theorem insert_grow (g n c i vb vo m c2 base : Nat) (zs ys : List Int) (w : World) (hown : OwnI 2 w base (some ⟨g, 0, none⟩) n c zs) (hL : Lies w vb vo m ys) (hi : i < n) (hm : 0 < m) (hroom : c < n + m) (hn : n + m ≤ 1099511627776) (hbase : base ≤ w.heap.size) :
    Calls Try.prog 169 #[.slice (some ⟨g, 0, none⟩) n c, .int .i64 i, .slice (some ⟨vb, vo, none⟩) m c2] w fun e w' => ∃ A' c', e = .returned (.slice A' (n + m) c') ∧ OwnI 2 w' base A' (n + m) c' (zs.take i ++ ys ++ zs.drop i) ∧ w.grownBy w' none := by
  have L := Lib.hid hown.len
  have hcut := Lib.hid (hown.cut (k := i) (by omega))
  obtain ⟨cur, hh, hbg, hnc, hcm, hcl, htk⟩ := hown.open
  have hcm2 := hcm
  unfold maxLen at hcm2
  obtain ⟨hyl, ⟨cur2, t2, hh2⟩, hyc⟩ := hL
  have hgw : g < w.heap.size := (Array.getElem?_eq_some_iff.1 hh).1
  have hvw : vb < w.heap.size := (Array.getElem?_eq_some_iff.1 hh2).1
  have hz1 : ¬ ((m : Int) = 0) := by omega
  have hz2 : ¬ ((i : Int) = (n : Int)) := by omega
  obtain ⟨X, hXe⟩ : ∃ X, (cur.take n).drop i = X := ⟨_, rfl⟩
  have hX : X = ci (zs.drop i) := by rw [← hXe, htk, ci_drop]
  have hXl : X.length = n - i := by rw [← hXe, List.length_drop, List.length_take]; omega
  have hX1 : ∀ u ∈ X, u.oneCell' = true := by rw [hX]; exact ci_one _
  have hsrc : ∀ (k : Nat) (u : Value), X[k]? = some u → w.cell? ⟨g, i + k, none⟩ = some u := by
    intro k u hu
    rw [← hXe, List.getElem?_drop, List.getElem?_take] at hu
    split at hu
    · exact cells_of_row hh hu
    · cases hu
  obtain ⟨Y, hYe⟩ : ∃ Y, ci ys = Y := ⟨_, rfl⟩
  have hYl : Y.length = m := by rw [← hYe, ci_len]; exact hyl
  have hY1 : ∀ u ∈ Y, u.oneCell' = true := by rw [← hYe]; exact ci_one _
  have hysrc : ∀ (k : Nat) (u : Value), Y[k]? = some u → w.cell? ⟨vb, vo + k, none⟩ = some u := by
    intro k u hu
    rw [← hYe] at hu
    obtain ⟨hk, rfl⟩ := ci_get hu
    exact hyc k (by omega)
  have HX := Lib.hid hX
  have HXL := Lib.hid hXl
  have HX1 := Lib.hid hX1
  have HSRC := Lib.hid hsrc
  have HYE := Lib.hid hYe
  have HYL := Lib.hid hYl
  have HY1 := Lib.hid hY1
  have HYS := Lib.hid hysrc
  have hin : i ≤ n := by omega
  have hic : i ≤ c := by omega
  have hb4 : ¬ (c = i) := by omega
  have hbr : (n : Int) + (m : Int) > (c : Int) := by omega
  have hbx : (i : Int) + (m : Int) ≤ (n : Int) + (m : Int) := by omega
  have hby : (i : Int) ≤ (n : Int) + (m : Int) := by omega
  clear hX hXl hX1 hsrc hYe hYl hY1 hysrc hXe hh2 hyc hh htk hcl hown hyl
  go_enter Try.func169, Try.ntmps169
  go_wp2_with (first
    | (at_builtin; refine wpl_app_zeros _ rfl (.tmp 34) (.tmp 39) rfl Try.underlying24 Try.underlying3 infoInt base _ i c _ (by simp [Act.eval]) hcut.out (n + m - i) (by simp [Act.eval]; omega) (by omega) (n + m) (by omega) hroom hn hbase ?_; intro g2 c3 w2 hg2e hown2 hg2
       have HGE := Lib.hid hg2e
       have HY2 := Lib.hid (show ∀ (k : Nat) (u : Value), Y[k]? = some u → w2.cell? ⟨vb, vo + k, none⟩ = some u from fun k u hu => hg2.cell (HYS.out k u hu) (by simp))
       have HX2 := Lib.hid (show ∀ (k : Nat) (u : Value), X[k]? = some u → w2.cell? ⟨g, i + k, none⟩ = some u from fun k u hu => hg2.cell (HSRC.out k u hu) (by simp))
       obtain ⟨cu, hh, hbg2, hnc2, hcm3, hcl, htk⟩ := hown2.open
       have HH := Lib.hid hh
       have HCL := Lib.hid hcl
       have HTK := Lib.hid htk
       have HGN := Lib.hid (show g ≠ g2 by omega)
       have hq3 : ¬ (c3 = i) := by omega
       have hq4 : ¬ (c3 = i + m) := by omega
       have hq5 : i ≤ c3 := by omega
       have hq6 : c3 ≤ 2 ^ 63 - 1 := by unfold maxLen at hcm3; omega
       clear hg2e hown2 hh hcl htk)
    | (with_reducible refine wpl_copy _ rfl (.tmp 43) (.tmp 44) rfl Try.underlying24 infoInt g2 i (n + m - i) (c3 - i) ⟨vb, vo, none⟩ m c2 (by simp [Act.eval]) (by simp [Act.eval]) cu HH.out Y (by have := HYL.out; simp only [Nat.min_def]; split <;> omega) (by intro k u hu; rw [Go.WideShapes.add_plain]; exact HY2.out k u hu) (by have := HYL.out; have := HCL.out; omega) HY1.out ?_; intro w3 hh3 hg3))
  have HH3 := hh3
  clear hh3
  have HX3 := Lib.hid (show ∀ (k : Nat) (u : Value), X[k]? = some u → w3.drew.cell? ⟨g, i + k, none⟩ = some u from fun k u hu => hg3.cell (HX2.out k u hu) (fun e => HGN.out (Option.some.inj e)))
  have HL1 := Lib.hid (show (splice cu i Y).length = c3 from by rw [length_splice cu i Y (by have := HYL.out; have := HCL.out; omega)]; exact HCL.out)
  have hq7 : i + m ≤ c3 := by omega
  have htn : ((i : Int) + (m : Int)).toNat = i + m := by omega
  have hbi : (0 : Int) ≤ (i : Int) + (m : Int) := by omega
  have hbz : (i : Int) ≤ (n : Int) := by omega
  have hmn : i + m ≤ n + m := by omega
  have hw1 : IntKind.i64.wrap ((i : Int) + (m : Int)) = (i : Int) + (m : Int) := by rw [IntKind.wrap_i64]; omega
  go_region_law (refine step_copy _ rfl (.tmp 50) (.tmp 53) rfl Try.underlying24 infoInt g2 (i + m) (n + m - (i + m)) (c3 - (i + m)) ⟨g, i, none⟩ (n - i) (c - i) (by simp [Act.eval, Act.put]) (by simp [Act.eval, Act.put]) (splice cu i Y) HH3.out X (by have := HXL.out; clear hw1; simp only [Nat.min_def]; split <;> omega) (by intro k u hu; rw [Go.WideShapes.add_plain]; exact HX3.out k u hu) (by have := HXL.out; have := HL1.out; clear hw1; omega) HX1.out ?_; intro w4 hh4 hg4)
  have HH4 := hh4
  clear hh4 hw1
  go_wp2
  go_ret
  have e1 := HXL.out
  have e2 := HYL.out
  have e3 := HL1.out
  have e4 := HCL.out
  have hg4' := grown_drew hg4
  refine ⟨some ⟨g2, 0, none⟩, c3, rfl, OwnI.shut HH4.out hbg2 hnc2 hcm3 ?_ ?_, ?_⟩
  · exact (length_splice (splice cu i Y) (i + m) X (by omega)).trans e3
  · rw [splice_two e2 e1 hin (by omega), ci_app, ci_app, HX.out, HYE.out]
    have := congrArg (List.take i) HTK.out
    rw [List.take_take, Nat.min_eq_left (by omega), ← ci_take, List.take_append_of_le_length (by rw [List.length_take, L.out]; omega), List.take_take, Nat.min_self] at this
    rw [this]
  · have e5 := HGE.out
    exact ⟨hg4'.os.trans (hg3.os.trans hg2.os), hg4'.tape.trans (hg3.tape.trans hg2.tape), hg4'.output.trans (hg3.output.trans hg2.output), Nat.le_trans hg2.size (Nat.le_trans hg3.size hg4'.size), fun q hq _ => (hg4'.block q (Nat.lt_of_lt_of_le hq (Nat.le_trans hg2.size hg3.size)) (fun e => by have := Option.some.inj e; omega)).trans ((hg3.block q (Nat.lt_of_lt_of_le hq hg2.size) (fun e => by have := Option.some.inj e; omega)).trans (hg2.block q hq (by simp)))⟩

theorem grown_any {w w' : World} (row : Option Nat) (h : w.grownBy w' none) : w.grownBy w' row := ⟨h.os, h.tape, h.output, h.size, fun k hk _ => h.block k hk (by simp)⟩

theorem insert_any (A : Option Addr) (n c i vb vo m c2 base : Nat) (zs ys : List Int) (w : World) (hown : OwnI 2 w base A n c zs) (hL : Lies w vb vo m ys) (hne : ∀ g, (Value.slice A n c).ownBlock = some g → vb ≠ g) (hi : i ≤ n) (hn : n + m ≤ 1099511627776) (hbase : base ≤ w.heap.size) :
    Calls Try.prog 169 #[.slice A n c, .int .i64 i, .slice (some ⟨vb, vo, none⟩) m c2] w fun e w' => ∃ A' c', e = .returned (.slice A' (n + m) c') ∧ OwnI 2 w' base A' (n + m) c' (zs.take i ++ ys ++ zs.drop i) ∧ w.grownBy w' (Value.slice A n c).ownBlock := by
  have hz := hown.len
  rcases Nat.eq_zero_or_pos m with rfl | hm
  · obtain rfl : ys = [] := List.length_eq_zero_iff.1 hL.1
    refine (insert_zero A _ n c i c2 w hi hown.cap.1).mono ?_
    rintro e w' ⟨rfl, rfl⟩
    refine ⟨A, c, rfl, ?_, World.grownBy.refl _ _⟩
    rw [List.append_nil, List.take_append_drop]
    exact hown
  · rcases Nat.lt_or_ge i n with h | h
    · obtain ⟨g, rfl, _, _⟩ := hown.form (by omega)
      by_cases hroom : n + m ≤ c
      · refine (insert_shift g n c i vb vo m c2 base zs ys w hown hL (hne g rfl) h hm hroom hn).mono ?_
        rintro e w' ⟨rfl, h1, h2⟩
        exact ⟨_, _, rfl, h1, h2⟩
      · refine (insert_grow g n c i vb vo m c2 base zs ys w hown hL h hm (by omega) hn hbase).mono ?_
        rintro e w' ⟨A', c', rfl, h1, h2⟩
        exact ⟨_, _, rfl, h1, grown_any _ h2⟩
    · obtain rfl : i = n := by omega
      refine (insert_end A i c vb vo m c2 base zs ys w hown hL hm hn hbase).mono ?_
      rintro e w' ⟨A', c', rfl, h1, h2⟩
      refine ⟨_, _, rfl, ?_, h2⟩
      rw [List.take_of_length_le (by omega), List.drop_of_length_le (by omega), List.append_nil]
      exact h1
end Go.Proofs.Ytlfbmedgkkfalaa
