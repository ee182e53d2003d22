/- Walks, laws and small notions for the claims of this seat, several texts as one (Cpy, Rpt, Lk). Conditions: as each theorem states them. -/
import Derived.Test.YtbaojbheopcjhaaGreatDoorB1
import Derived.Lib.AppendZeros
import Derived.Lib.Overlaps
import Derived.Test.YtbaojbheopcjhaaGreatDoorShU
import Derived.Test.YtbaojbheopcjhaaGreatDoorB2
import Derived.Deep.DeepCutAuto
import Derived.Test.YtbaojbheopcjhaaGreatDoorB10
import Derived.Test.YtbaojbheopcjhaaGreatDoorB31
namespace Go.Proofs.YtbaojbheopcjhaaGreatDoor
open Go.RowKit

section
variable {P : Program} {ops : Array Oper} {o : Oper} {a : Act} {K : Act → World → Prop} {Q : Exit → Act → World → Prop} {E : Prop} {rest : List Oper}
theorem run_copy_cj (w : World) {TS T ty : TypeId} (ht : P.underlying TS = some (.slice T)) (hinfo : (P.info? T).map (fun i => (i.zero, i.size, i.bytes)) = some (some (.int .i64 0), 1, 8))
    (g off dLen dCap : Nat) (ad : Addr) (sLen sCap : Nat) (cur : List Value) (hg : w.heap[g]? = some (.cells cur.toArray T (0, 0))) (cs : List Value) (hn : cs.length = Nat.min sLen dLen)
    (hsrc : ∀ j u, cs[j]? = some u → w.cell? (ad.add j) = some u) (hfit : off + cs.length ≤ cur.length) (h1 : ∀ u ∈ cs, u.oneCell' = true) :
    ∃ w', (Builtin.copy_ #[TS, TS] ty #[.slice (some ⟨g, off, none⟩) dLen dCap, .slice (some ad) sLen sCap]).run P w = .ok (goInt cs.length) w' ∧ Hid (w'.heap[g]? = some (.cells (splice cur off cs).toArray T (0, 0))) ∧ w.grownBy w' (some g) := by
  obtain ⟨i, hi, hz, hs1, hb1⟩ := info_split hinfo
  have hrun := run_copy_row (P := P) w TS TS ty T g off dLen dCap ad sLen sCap cur.toArray T cs ht (by rw [hi]; simp [hs1]) hg hn hsrc (by simpa using hfit) h1
  refine ⟨_, hrun, ?_, grown_setRow _ _ _⟩
  show _ = _
  rw [setRow_heap w g _ _ T _ hg]
  simp [splice]
/-- 'copy(d, s)' onto an own row that is known whole -/
theorem wpl_copyJ (w : World) (hgd : o.guard = none) (d s : Operand) {TS T : TypeId} (ho : o.op = .call { callee := .builtin .copy, args := #[d, s], argTypes := #[TS, TS] })
    (ht : P.underlying TS = some (.slice T)) (hinfo : (P.info? T).map (fun i => (i.zero, i.size, i.bytes)) = some (some (.int .i64 0), 1, 8))
    (g off dLen dCap : Nat) (ad : Addr) (sLen sCap : Nat) (hd : a.eval d = .slice (some ⟨g, off, none⟩) dLen dCap) (hs : a.eval s = .slice (some ad) sLen sCap)
    (cur : List Value) (hg : w.heap[g]? = some (.cells cur.toArray T (0, 0))) (cs : List Value) (hn : cs.length = Nat.min sLen dLen)
    (hsrc : ∀ j u, cs[j]? = some u → w.cell? (ad.add j) = some u) (hfit : off + cs.length ≤ cur.length) (h1 : ∀ u ∈ cs, u.oneCell' = true)
    (h : ∀ w', Hid (w'.heap[g]? = some (.cells (splice cur off cs).toArray T (0, 0))) → w.grownBy w' (some g) → wpList P ops Q rest (a.put o.dst (goInt cs.length)) w') :
    wpList P ops Q (o :: rest) a w := by
  obtain ⟨w', hrun, h2, h3⟩ := run_copy_cj (P := P) (ty := o.type) w ht hinfo g off dLen dCap ad sLen sCap cur hg cs hn hsrc hfit h1
  refine wpList_plain hgd fun K hK => ?_
  unfold Oper.wp
  simp [execOp, ho, resolve, invoke, builtin, hd, hs, hrun, Result.andThen]
  exact hK _ _ (h w' h2 h3)
theorem step_copyJ (w : World) (hgd : o.guard = none) (d s : Operand) {TS T : TypeId} (ho : o.op = .call { callee := .builtin .copy, args := #[d, s], argTypes := #[TS, TS] })
    (ht : P.underlying TS = some (.slice T)) (hinfo : (P.info? T).map (fun i => (i.zero, i.size, i.bytes)) = some (some (.int .i64 0), 1, 8))
    (g off dLen dCap : Nat) (ad : Addr) (sLen sCap : Nat) (hd : a.eval d = .slice (some ⟨g, off, none⟩) dLen dCap) (hs : a.eval s = .slice (some ad) sLen sCap)
    (cur : List Value) (hg : w.heap[g]? = some (.cells cur.toArray T (0, 0))) (cs : List Value) (hn : cs.length = Nat.min sLen dLen)
    (hsrc : ∀ j u, cs[j]? = some u → w.cell? (ad.add j) = some u) (hfit : off + cs.length ≤ cur.length) (h1 : ∀ u ∈ cs, u.oneCell' = true)
    (h : ∀ w', Hid (w'.heap[g]? = some (.cells (splice cur off cs).toArray T (0, 0))) → w.grownBy w' (some g) → K (a.put o.dst (goInt cs.length)) w') :
    if Region.wanted o (yielded ops a.tmps) = true then Oper.wp P o a w K Q else E := by
  have hw : Region.wanted o (yielded ops a.tmps) = true := by simp [Region.wanted, hgd]
  rw [if_pos hw]
  obtain ⟨w', hrun, h2, h3⟩ := run_copy_cj (P := P) (ty := o.type) w ht hinfo g off dLen dCap ad sLen sCap cur hg cs hn hsrc hfit h1
  unfold Oper.wp
  simp [execOp, ho, resolve, invoke, builtin, hd, hs, hrun, Result.andThen]
  exact h w' h2 h3
end
end Go.Proofs.YtbaojbheopcjhaaGreatDoor

namespace Go.Proofs.YtbaojbheopcjhaaGreatDoor
open Go.RowKit

theorem rep_fill (v : Int) {n k m : Nat} (h : k + m ≤ n) : splice (ci (List.replicate k v ++ List.replicate (n - k) 0)) k (ci (List.replicate m v)) = ci (List.replicate (k + m) v ++ List.replicate (n - (k + m)) 0) := by
  unfold splice
  rw [ci_app, ci_len, List.length_replicate]
  have h1 : (ci (List.replicate k v) ++ ci (List.replicate (n - k) 0)).take k = ci (List.replicate k v) := by
    rw [List.take_append_of_le_length (by rw [ci_len, List.length_replicate]; omega), List.take_of_length_le (by rw [ci_len, List.length_replicate]; omega)]
  have h2 : (ci (List.replicate k v) ++ ci (List.replicate (n - k) 0)).drop (k + m) = ci (List.replicate (n - (k + m)) 0) := by
    rw [List.drop_append, List.drop_of_length_le (by rw [ci_len, List.length_replicate]; omega), List.nil_append, ci_len, List.length_replicate, ← ci_drop, List.drop_replicate, show n - k - (k + m - k) = n - (k + m) from by omega]
  rw [h1, h2, ← List.append_assoc, ← ci_app, List.replicate_append_replicate, ← ci_app]
/-- the first k numbers of a row -/
theorem rep_cell {w : World} {g n k : Nat} {v : Int} {T : TypeId} (h : w.heap[g]? = some (.cells (ci (List.replicate k v ++ List.replicate (n - k) 0)).toArray T (0, 0))) {m : Nat} (hm : m ≤ k) :
    ∀ j u, (ci (List.replicate m v))[j]? = some u → w.cell? ⟨g, 0 + j, none⟩ = some u := by
  intro j u hu
  rw [Nat.zero_add]
  refine cells_of_row h ?_
  have hj : j < m := by
    rcases Nat.lt_or_ge j m with hh | hh
    · exact hh
    · rw [List.getElem?_eq_none (by rw [ci_len, List.length_replicate]; exact hh)] at hu; cases hu
  rw [ci_app, List.getElem?_append_left (by rw [ci_len, List.length_replicate]; omega)]
  unfold ci at hu ⊢
  rw [List.map_replicate, List.getElem?_replicate, if_pos (by omega)] at hu ⊢
  exact hu
theorem bitsMul_one (n : Nat) (w : World) (h : n ≤ 1048576) : Calls Tryz.prog 121 #[.int .u64 1, .int .u64 n] w fun e w' => e = .returned (.tuple #[.int .u64 0, .int .u64 n]) ∧ w = w' := by
  refine (Tryz.bits_Mul 1 n (by omega) (by omega) w).mono fun e w' ⟨he, hw⟩ => ⟨?_, hw.symm⟩
  rw [he, Nat.one_mul, Nat.div_eq_of_lt (by omega), Nat.mod_eq_of_lt (by omega)]
  rfl

/-- a made row laid open -/
theorem made_open {T : TypeId} {w : World} {base n g : Nat} (h : OwnI T w base (some ⟨g, 0, none⟩) n n (List.replicate n 0)) : w.heap[g]? = some (.cells (ci (List.replicate 0 0 ++ List.replicate (n - 0) 0)).toArray T (0, 0)) := by
  obtain ⟨cur, hc, _, _, _, hl, ht⟩ := h.open
  rw [List.take_of_length_le (by omega)] at ht
  rw [hc, ht]
  rfl
theorem rep_shut {T : TypeId} {w : World} {base n g : Nat} {v : Int} (hb : base ≤ g) (hn : n ≤ 1048576) (h : w.heap[g]? = some (.cells (ci (List.replicate n v ++ List.replicate (n - n) 0)).toArray T (0, 0))) : OwnI T w base (some ⟨g, 0, none⟩) n n (List.replicate n v) := by
  rw [Nat.sub_self, List.replicate_zero, List.append_nil] at h
  refine OwnI.shut h hb (Nat.le_refl _) (by simp only [maxLen]; omega) (by rw [ci_len, List.length_replicate]) ?_
  rw [List.take_of_length_le (by rw [ci_len, List.length_replicate]; exact Nat.le_refl _)]
theorem cir_len (m : Nat) (v : Int) : (ci (List.replicate m v)).length = m := by rw [ci_len, List.length_replicate]
theorem cir_full (k n : Nat) (v : Int) (h : k ≤ n) : (ci (List.replicate k v ++ List.replicate (n - k) 0)).length = n := by
  rw [ci_len, List.length_append, List.length_replicate, List.length_replicate]; omega

set_option maxRecDepth 20000 in
set_option maxHeartbeats 4000000 in
theorem repeat1_any (b o c n : Nat) (v : Int) (w : World) (hn : n ≤ 1048576) (hb : b < w.heap.size) (hv : w.cell? ⟨b, o, none⟩ = some (.int .i64 v)) :
    Calls Tryz.prog 79 #[.slice (some ⟨b, o, none⟩) 1 c, .int .i64 n] w (RetI 2 w n (List.replicate n v)) := by
  have hcu : (n : Int) ≤ 18446744073709551615 := by omega
  obtain ⟨m, hm1, hm2, hm3⟩ : ∃ m, m = Nat.min 1 n ∧ m ≤ n ∧ (0 < n → 1 ≤ m) := ⟨Nat.min 1 n, rfl, Nat.min_le_right _ _, fun h => by show 1 ≤ min 1 n; omega⟩
  have HM := Lib.hid hm1
  have HM3 := Lib.hid hm3
  clear hm1 hm3
  go_enter Tryz.func79, Tryz.ntmps79
  go_wp2_with fail
  refine (bitsMul_one n _ hn).mono ?_
  rintro e w1 ⟨rfl, rfl⟩
  go_upto_region 7 with (at_make; refine wpl_make _ Tryz.underlying31 infoInt rfl _ _ rfl n rfl rfl (by omega) ?_; intro w1 hown1 hg1)
  have hb1 : Below w.heap.size w w1 := (Below.refl _ _).grown hg1 (Nat.le_refl _) (fun _ e => by cases e)
  have hv1 : w1.cell? ⟨b, o, none⟩ = some (.int .i64 v) := (hb1.cell (p := ⟨b, o, none⟩) hb).trans hv
  have HO := Lib.hid (made_open hown1)
  have HF := Lib.hid (rep_fill v (n := n) (k := 0) (m := m) (by omega))
  have HL0 := Lib.hid (cir_full 0 n 0 (by omega))
  have hml := cir_len m v
  have HML := Lib.hid hml
  have HB1 := Lib.hid hb1
  have HV1 := Lib.hid hv1
  have HSRC := Lib.hid (show ∀ j u, (ci (List.replicate m v))[j]? = some u → w1.cell? ((⟨b, o, none⟩ : Addr).add j) = some u from by
    intro j u hu
    have hj : j < m := by
      rcases Nat.lt_or_ge j m with hh | hh
      · exact hh
      · rw [List.getElem?_eq_none (by rw [cir_len]; exact hh)] at hu; cases hu
    have h1 : m ≤ 1 := by have := HM.out; rw [this]; exact Nat.min_le_left _ _
    obtain rfl : j = 0 := by omega
    rw [Go.WideShapes.add_plain, Nat.add_zero, hv1]
    unfold ci at hu
    rw [List.map_replicate, List.getElem?_replicate, if_pos hj] at hu
    exact hu)
  clear hown1 hg1 hb1 hv hv1 hb
  go_wp2_with (with_reducible refine wpl_copyJ _ rfl (.tmp 31) (.tmp 32) rfl Tryz.underlying31 infoInt w.heap.size 0 n n ⟨b, o, none⟩ 1 c (by simp [Act.eval]) (by simp [Act.eval]) _ HO.out (ci (List.replicate m v)) (by rw [HML.out]; exact HM.out) HSRC.out (by rw [HL0.out, HML.out]; omega) (ci_one _) ?_; intro w2 hh2 hg2)
  have hb2 : Below w.heap.size w w2 := HB1.out.grown hg2 HB1.out.size (fun _ e => by injection e with e; omega)
  have hh3 : w2.heap[w.heap.size]? = some (.cells (ci (List.replicate m v ++ List.replicate (n - m) 0)).toArray 2 (0, 0)) := by
    have h1 := hh2.out
    have h2 := HF.out
    rw [Nat.zero_add] at h2
    rw [← h2]
    exact h1
  have HB2 := Lib.hid hb2
  have HH3 := Lib.hid hh3
  clear hh2 hg2 hb2 hh3 HO HF HL0 HB1 HV1 HSRC HM
  go_loopw [8] (fun i wr => ∃ k : Nat, k ≤ n ∧ (0 < n → 1 ≤ k) ∧ i = .int .i64 k ∧ wr.heap[w.heap.size]? = some (.cells (ci (List.replicate k v ++ List.replicate (n - k) 0)).toArray 2 (0, 0)) ∧ Below w.heap.size w wr) (fun i _ => n - (intOf i).toNat)
  case atStart => exact ⟨m, hm2, HM3.out, rfl, HH3.out, HB2.out⟩
  case round =>
    obtain ⟨k, hk, hk1, rfl, hh, hb⟩ := hrel
    by_cases hlt : k < n
    · have hk2 : 1 ≤ k := hk1 (by omega)
      obtain ⟨q, hq1, hq2, hq3⟩ : ∃ q, q = Nat.min k (n - k) ∧ k + q ≤ n ∧ 1 ≤ q := ⟨Nat.min k (n - k), rfl, by show k + min k (n - k) ≤ n; omega, by show 1 ≤ min k (n - k); omega⟩
      have HQ := Lib.hid hq1
      have HH := Lib.hid hh
      have HB := Lib.hid hb
      have HF := Lib.hid (rep_fill v hq2)
      have HL := Lib.hid (cir_full k n v hk)
      have hql := cir_len q v
      have HQL := Lib.hid hql
      have HS := Lib.hid (rep_cell hh (m := q) (by rw [hq1]; exact Nat.min_le_left _ _))
      clear hq1 hh hb hk1 hml HML HH3 HB2 HM3
      have hnk : ¬ n = k := by omega
      have hwr : IntKind.i64.wrap ((k : Int) + (q : Int)) = ((k + q : Nat) : Int) := by rw [IntWalk.i64_in _ (by omega)]; omega
      go_upto_region 9 with fail
      go_region_law (refine step_copyJ _ rfl (.tmp 41) (.tmp 44) rfl Tryz.underlying31 infoInt w.heap.size k (n - k) (n - k) ⟨w.heap.size, 0, none⟩ k n (by simp [Act.eval, Act.put]) (by simp [Act.eval, Act.put]) (ci (List.replicate k v ++ List.replicate (n - k) 0)) HH.out (ci (List.replicate q v)) (by rw [HQL.out]; exact HQ.out) (by intro j u hu; rw [Go.WideShapes.add_plain]; exact HS.out j u hu) (by rw [HL.out, HQL.out]; omega) (ci_one _) ?_; intro w4 hh4 hg4)
      have hg5 := grown_drew hg4
      have hh5 : w4.heap[w.heap.size]? = some (.cells (ci (List.replicate (k + q) v ++ List.replicate (n - (k + q)) 0)).toArray 2 (0, 0)) := by
        have h1 := hh4.out
        rw [HF.out] at h1
        exact h1
      have hb5 : Below w.heap.size w w4 := HB.out.grown hg5 HB.out.size (fun _ e => by injection e with e; omega)
      have HH5 := Lib.hid hh5
      have HB5 := Lib.hid hb5
      clear hh4 hg4 hg5 hh5 hb5 HF HS HH HB HL HQ
      clear hwr hql HQL
      simp [Act.put]
      go_wp2
      go_roundw
      case rel => exact ⟨k + q, hq2, fun _ => by omega, by first | rfl | (congr 1; omega), HH5.out, HB5.out⟩
      case measure => simp [intOf]; omega
    · have hkn : k = n := by omega
      have HK := Lib.hid hkn
      clear hkn hk1
      go_wp2
      go_ret
      have hk9 := HK.out
      subst hk9
      exact ⟨_, _, rfl, rep_shut (Nat.le_refl _) hn hh, hb⟩

set_option maxHeartbeats 1000000 in
theorem highs_any (n : Nat) (w : World) (hn : n ≤ 1048576) :
    Calls Tryz.prog 42 #[.int .i64 n] w (RetI 2 w n (List.replicate n 1)) := by
  go_enter Tryz.func42, Tryz.ntmps42
  go_wp2_with fail
  refine (repeat1_any w.heap.size 0 1 n 1 _ hn (by simp) (BlkL.c (BlkL.new w 2 #[.int .i64 1] rfl) 0 rfl)).mono ?_
  rintro e w1 ⟨A, c, rfl, hown, hb⟩
  have hown2 : OwnI 2 w1 w.heap.size A n c (List.replicate n 1) := hown.weaken (by simp)
  have hb2 : Below w.heap.size w w1 := ((Below.refl w.heap.size w).alloc (Nat.le_refl _) _).trans (hb.mono (by simp))
  clear hown hb
  go_wp2_with fail
  go_ret
  exact ⟨_, _, rfl, hown2, hb2⟩
end Go.Proofs.YtbaojbheopcjhaaGreatDoor

namespace Go.Proofs.YtbaojbheopcjhaaGreatDoor
open Go.RowKit

/- the fields of a descriptor that a call has handed back -/
theorem ds_f1 (w : World) (a b c d : Int) (ch : Bool) : Sem.run Tryz.prog (Instr.field 69 (.agg #[.int .i64 a, .int .i64 b, .int .i64 c, .int .i64 d, .bool ch]) 1) w = .ok (.int .i64 b) w := by kernel_rfl
theorem ds_f2 (w : World) (a b c d : Int) (ch : Bool) : Sem.run Tryz.prog (Instr.field 69 (.agg #[.int .i64 a, .int .i64 b, .int .i64 c, .int .i64 d, .bool ch]) 2) w = .ok (.int .i64 c) w := by kernel_rfl
theorem ds_f3 (w : World) (a b c d : Int) (ch : Bool) : Sem.run Tryz.prog (Instr.field 69 (.agg #[.int .i64 a, .int .i64 b, .int .i64 c, .int .i64 d, .bool ch]) 3) w = .ok (.int .i64 d) w := by kernel_rfl
/-- the code of a schedule and a state -/
def codeM (M : Mdl) (t md rn sl mb : Int) : Int := if isMedl M = false then 1 else if bel M t md rn sl mb = false then 2 else 0
theorem codeM_cases (M : Mdl) (t md rn sl mb : Int) : codeM M t md rn sl mb = 1 ∨ codeM M t md rn sl mb = 2 ∨ (codeM M t md rn sl mb = 0 ∧ isMedl M = true ∧ bel M t md rn sl mb = true) := by
  unfold codeM
  cases isMedl M <;> cases bel M t md rn sl mb <;> simp
/-- the samples of a silent slot -/
def silL (M : Mdl) (t md rn sl mb : Int) : List Int := if codeM M t md rn sl mb = 0 then List.replicate (8 * (ge M.ss (findI M.ss md rn sl)).du).toNat 1 else []
theorem silL_len (M : Mdl) (t md rn sl mb : Int) : (silL M t md rn sl mb).length ≤ 8000 := by
  unfold silL
  split
  case isTrue h =>
    rcases codeM_cases M t md rn sl mb with h1 | h1 | ⟨_, hi1, hi2⟩
    · omega
    · omega
    have hbd := isSl_bd (isST_sl (isMedl_nt hi1).2.2.1 (bel_find hi1 hi2))
    rw [List.length_replicate]
    omega
  case isFalse h => simp

set_option maxRecDepth 100000 in
set_option maxHeartbeats 4000000 in
theorem sCode_any (m : Mdv) (M : Mdl) (t md rn sl mb : Int) (w : World) (h : RD w w.heap.size m M) (hx : RX m M) :
    Calls Tryz.prog 38 #[.agg #[.int .i64 m.id, .slice m.An m.nn m.cn, .slice m.Am m.nm m.cm, .slice m.As m.ns m.cs], .agg #[.int .i64 t, .int .i64 md, .int .i64 rn, .int .i64 sl, .int .i64 mb]] w (RetV w (.int .i64 (codeM M t md rn sl mb))) := by
  obtain ⟨w0, hw0⟩ : ∃ v, v = (w.alloc (.cells #[.int .i64 m.id, .slice m.An m.nn m.cn, .slice m.Am m.nm m.cm, .slice m.As m.ns m.cs] 28)).alloc (.cells #[.int .i64 t, .int .i64 md, .int .i64 rn, .int .i64 sl, .int .i64 mb] 30) := ⟨_, rfl⟩
  have hB : BM w w.heap.size m M w0 := by rw [hw0]; exact (BM.box h).next (by go_grown)
  have hS : BlkL w0 (w.heap.size + 1) 30 [.int .i64 t, .int .i64 md, .int .i64 rn, .int .i64 sl, .int .i64 mb] := by rw [hw0]; exact BlkL.new _ _ _ (by simp)
  have E := Lib.hid (show codeM M t md rn sl mb = (if isMedl M = false then 1 else if bel M t md rn sl mb = false then 2 else 0) from rfl)
  obtain ⟨b1, h1⟩ : ∃ b, isMedl M = b := ⟨_, rfl⟩
  go_enter Tryz.func38, Tryz.ntmps38
  go_wp2_with fail
  rw [← hw0]
  clear hw0
  refine (sIsMedl_any m M _ hB.rd hx).mono ?_
  rw [h1]
  have H1 := Lib.hid h1
  clear h1
  rintro e w1 ⟨rfl, hb1⟩
  have hB1 := hB.next hb1
  have hS1 := hS.next hb1
  clear hB hS hb1
  cases b1
  case false =>
    go_wp2
    go_ret
    exact ⟨ret_int (by rw [E.out, if_pos H1.out]), hB1.bel⟩
  have c0 := hB1.k.c 0 rfl
  have c1 := hB1.k.c 1 rfl
  have c2 := hB1.k.c 2 rfl
  have c3 := hB1.k.c 3 rfl
  have s0 := hS1.c 0 rfl
  have s1 := hS1.c 1 rfl
  have s2 := hS1.c 2 rfl
  have s3 := hS1.c 3 rfl
  have s4 := hS1.c 4 rfl
  obtain ⟨b2, h2⟩ : ∃ b, bel M t md rn sl mb = b := ⟨_, rfl⟩
  go_wp2_with fail
  refine (sBelongs_any m M t md rn sl mb _ hB1.rd H1.out).mono ?_
  rw [h2]
  have H2 := Lib.hid h2
  clear h2
  rintro e w2 ⟨rfl, hb2⟩
  have H9 := (hB1.next hb2).bel
  cases b2
  all_goals
    go_wp2
    go_ret
    exact ⟨ret_int (by rw [E.out, if_neg (by rw [H1.out]; exact Bool.noConfusion), H2.out]; rfl), H9⟩

set_option maxRecDepth 100000 in
set_option maxHeartbeats 4000000 in
theorem iCode_any (m : Mdv) (M : Mdl) (t md rn sl mb : Int) (w : World) (h : RD w w.heap.size m M) (hx : RX m M) :
    Calls Tryz.prog 34 #[.agg #[.int .i64 m.id, .slice m.An m.nn m.cn, .slice m.Am m.nm m.cm, .slice m.As m.ns m.cs], .agg #[.int .i64 t, .int .i64 md, .int .i64 rn, .int .i64 sl, .int .i64 mb]] w (RetV w (.int .i64 (codeM M t md rn sl mb))) := by
  obtain ⟨w0, hw0⟩ : ∃ v, v = (w.alloc (.cells #[.int .i64 m.id, .slice m.An m.nn m.cn, .slice m.Am m.nm m.cm, .slice m.As m.ns m.cs] 28)).alloc (.cells #[.int .i64 t, .int .i64 md, .int .i64 rn, .int .i64 sl, .int .i64 mb] 30) := ⟨_, rfl⟩
  have hB : BM w w.heap.size m M w0 := by rw [hw0]; exact (BM.box h).next (by go_grown)
  have hS : BlkL w0 (w.heap.size + 1) 30 [.int .i64 t, .int .i64 md, .int .i64 rn, .int .i64 sl, .int .i64 mb] := by rw [hw0]; exact BlkL.new _ _ _ (by simp)
  have E := Lib.hid (show codeM M t md rn sl mb = (if isMedl M = false then 1 else if bel M t md rn sl mb = false then 2 else 0) from rfl)
  obtain ⟨b1, h1⟩ : ∃ b, isMedl M = b := ⟨_, rfl⟩
  go_enter Tryz.func34, Tryz.ntmps34
  go_wp2_with fail
  rw [← hw0]
  clear hw0
  refine (iIsMedl_any m M _ hB.rd hx).mono ?_
  rw [h1]
  have H1 := Lib.hid h1
  clear h1
  rintro e w1 ⟨rfl, hb1⟩
  have hB1 := hB.next hb1
  have hS1 := hS.next hb1
  clear hB hS hb1
  cases b1
  case false =>
    go_wp2
    go_ret
    exact ⟨ret_int (by rw [E.out, if_pos H1.out]), hB1.bel⟩
  have c0 := hB1.k.c 0 rfl
  have c1 := hB1.k.c 1 rfl
  have c2 := hB1.k.c 2 rfl
  have c3 := hB1.k.c 3 rfl
  have s0 := hS1.c 0 rfl
  have s1 := hS1.c 1 rfl
  have s2 := hS1.c 2 rfl
  have s3 := hS1.c 3 rfl
  have s4 := hS1.c 4 rfl
  obtain ⟨b2, h2⟩ : ∃ b, bel M t md rn sl mb = b := ⟨_, rfl⟩
  go_wp2_with fail
  refine (iBelongs_any m M t md rn sl mb _ hB1.rd H1.out).mono ?_
  rw [h2]
  have H2 := Lib.hid h2
  clear h2
  rintro e w2 ⟨rfl, hb2⟩
  have H9 := (hB1.next hb2).bel
  cases b2
  all_goals
    go_wp2
    go_ret
    exact ⟨ret_int (by rw [E.out, if_neg (by rw [H1.out]; exact Bool.noConfusion), H2.out]; rfl), H9⟩

set_option maxRecDepth 100000 in
set_option maxHeartbeats 4000000 in
theorem sSilent_any (m : Mdv) (M : Mdl) (t md rn sl mb : Int) (w : World) (h : RD w w.heap.size m M) (hx : RX m M) :
    Calls Tryz.prog 17 #[.agg #[.int .i64 m.id, .slice m.An m.nn m.cn, .slice m.Am m.nm m.cm, .slice m.As m.ns m.cs], .agg #[.int .i64 t, .int .i64 md, .int .i64 rn, .int .i64 sl, .int .i64 mb]] w (RetIC 2 w (silL M t md rn sl mb) (codeM M t md rn sl mb)) := by
  have LS := h.rs.len
  obtain ⟨w0, hw0⟩ : ∃ v, v = (w.alloc (.cells #[.int .i64 m.id, .slice m.An m.nn m.cn, .slice m.Am m.nm m.cm, .slice m.As m.ns m.cs] 28)).alloc (.cells #[.int .i64 t, .int .i64 md, .int .i64 rn, .int .i64 sl, .int .i64 mb] 30) := ⟨_, rfl⟩
  have hB : BM w w.heap.size m M w0 := by rw [hw0]; exact (BM.box h).next (by go_grown)
  have hS : BlkL w0 (w.heap.size + 1) 30 [.int .i64 t, .int .i64 md, .int .i64 rn, .int .i64 sl, .int .i64 mb] := by rw [hw0]; exact BlkL.new _ _ _ (by simp)
  have hc := codeM_cases M t md rn sl mb
  have E := Lib.hid (show silL M t md rn sl mb = (if codeM M t md rn sl mb = 0 then List.replicate (8 * (ge M.ss (findI M.ss md rn sl)).du).toNat 1 else []) from rfl)
  obtain ⟨cd, h1⟩ : ∃ b, codeM M t md rn sl mb = b := ⟨_, rfl⟩
  rw [h1] at hc
  go_enter Tryz.func17, Tryz.ntmps17
  go_wp2_with fail
  rw [← hw0]
  clear hw0
  refine (sCode_any m M t md rn sl mb _ hB.rd hx).mono ?_
  rw [h1]
  have H1 := Lib.hid h1
  clear h1
  rintro e w1 ⟨rfl, hb1⟩
  have hB1 := hB.next hb1
  have hS1 := hS.next hb1
  have hsz := hB1.bel.size
  clear hB hS hb1
  rcases hc with rfl | rfl | ⟨rfl, hi1, hi2⟩
  case inr.inr =>
    have c0 := hB1.k.c 0 rfl
    have c1 := hB1.k.c 1 rfl
    have c2 := hB1.k.c 2 rfl
    have c3 := hB1.k.c 3 rfl
    have s0 := hS1.c 0 rfl
    have s1 := hS1.c 1 rfl
    have s2 := hS1.c 2 rfl
    have s3 := hS1.c 3 rfl
    have s4 := hS1.c 4 rfl
    have hfl := bel_find hi1 hi2
    obtain ⟨f, hfe⟩ : ∃ f, findI M.ss md rn sl = f := ⟨_, rfl⟩
    have hfi := find_idx hfl
    rw [hfe] at hfl hfi E
    have hst := (isMedl_nt hi1).2.2.1
    have hbd := isSl_bd (isST_sl hst hfl)
    obtain ⟨d, hd⟩ : ∃ d : Nat, (ge M.ss f).du = (d : Int) := ⟨(ge M.ss f).du.toNat, by omega⟩
    have hd1 : d ≤ 1000 := by omega
    have E2 := E.out
    rw [hd] at E2
    replace E := Lib.hid E2
    clear E2 hbd hst
    go_wp2_with fail
    refine (sDesc_any m M t md rn sl mb f _ hB1.rd hfi (by rw [← LS]; exact hfl)).mono ?_
    rw [hd]
    rintro e w2 ⟨rfl, hb2⟩
    have hB2 := hB1.next hb2
    clear hB1 hS1 hb2 c0 c1 c2 c3 s0 s1 s2 s3 s4 hfi hfe hd
    obtain ⟨e8, h8, h8n⟩ : ∃ e : Nat, 8 * (d : Int) = (e : Int) ∧ 8 * d = e := ⟨8 * d, by omega, rfl⟩
    have he8 : e8 ≤ 8000 := by omega
    have hfd := ds_f3
    go_wp2_with fail
    refine (l20Equal_any e8 1 _ (by omega)).mono ?_
    rintro e w3 ⟨A, c, rfl, hown, hb3⟩
    have hB3 := hB2.next hb3
    have O := Lib.hid (hown.weaken hB2.bel.size)
    clear hown hb3
    go_wp2
    go_ret2
    exact ⟨A, _, c, by rw [H1.out]; rfl, by rw [E.out, if_pos H1.out, show (8 * (d : Int)).toNat = e8 from by omega]; exact O.out, hB3.bel⟩
  all_goals
    go_wp2
    go_ret2
    exact ⟨none, 0, 0, by rw [H1.out]; rfl, by rw [E.out, if_neg (by rw [H1.out]; decide)]; exact OwnI.nil _ _ _, hB1.bel⟩

set_option maxRecDepth 100000 in
set_option maxHeartbeats 4000000 in
theorem iSilent_any (m : Mdv) (M : Mdl) (t md rn sl mb : Int) (w : World) (h : RD w w.heap.size m M) (hx : RX m M) :
    Calls Tryz.prog 16 #[.agg #[.int .i64 m.id, .slice m.An m.nn m.cn, .slice m.Am m.nm m.cm, .slice m.As m.ns m.cs], .agg #[.int .i64 t, .int .i64 md, .int .i64 rn, .int .i64 sl, .int .i64 mb]] w (RetIC 2 w (silL M t md rn sl mb) (codeM M t md rn sl mb)) := by
  have LS := h.rs.len
  obtain ⟨w0, hw0⟩ : ∃ v, v = (w.alloc (.cells #[.int .i64 m.id, .slice m.An m.nn m.cn, .slice m.Am m.nm m.cm, .slice m.As m.ns m.cs] 28)).alloc (.cells #[.int .i64 t, .int .i64 md, .int .i64 rn, .int .i64 sl, .int .i64 mb] 30) := ⟨_, rfl⟩
  have hB : BM w w.heap.size m M w0 := by rw [hw0]; exact (BM.box h).next (by go_grown)
  have hS : BlkL w0 (w.heap.size + 1) 30 [.int .i64 t, .int .i64 md, .int .i64 rn, .int .i64 sl, .int .i64 mb] := by rw [hw0]; exact BlkL.new _ _ _ (by simp)
  have hc := codeM_cases M t md rn sl mb
  have E := Lib.hid (show silL M t md rn sl mb = (if codeM M t md rn sl mb = 0 then List.replicate (8 * (ge M.ss (findI M.ss md rn sl)).du).toNat 1 else []) from rfl)
  obtain ⟨cd, h1⟩ : ∃ b, codeM M t md rn sl mb = b := ⟨_, rfl⟩
  rw [h1] at hc
  go_enter Tryz.func16, Tryz.ntmps16
  go_wp2_with fail
  rw [← hw0]
  clear hw0
  refine (iCode_any m M t md rn sl mb _ hB.rd hx).mono ?_
  rw [h1]
  have H1 := Lib.hid h1
  clear h1
  rintro e w1 ⟨rfl, hb1⟩
  have hB1 := hB.next hb1
  have hS1 := hS.next hb1
  have hsz := hB1.bel.size
  clear hB hS hb1
  rcases hc with rfl | rfl | ⟨rfl, hi1, hi2⟩
  case inr.inr =>
    have c0 := hB1.k.c 0 rfl
    have c1 := hB1.k.c 1 rfl
    have c2 := hB1.k.c 2 rfl
    have c3 := hB1.k.c 3 rfl
    have s0 := hS1.c 0 rfl
    have s1 := hS1.c 1 rfl
    have s2 := hS1.c 2 rfl
    have s3 := hS1.c 3 rfl
    have s4 := hS1.c 4 rfl
    have hfl := bel_find hi1 hi2
    obtain ⟨f, hfe⟩ : ∃ f, findI M.ss md rn sl = f := ⟨_, rfl⟩
    have hfi := find_idx hfl
    rw [hfe] at hfl hfi E
    have hst := (isMedl_nt hi1).2.2.1
    have hbd := isSl_bd (isST_sl hst hfl)
    obtain ⟨d, hd⟩ : ∃ d : Nat, (ge M.ss f).du = (d : Int) := ⟨(ge M.ss f).du.toNat, by omega⟩
    have hd1 : d ≤ 1000 := by omega
    have E2 := E.out
    rw [hd] at E2
    replace E := Lib.hid E2
    clear E2 hbd hst
    go_wp2_with fail
    refine (iDesc_any m M t md rn sl mb f _ hB1.rd hfi (by rw [← LS]; exact hfl)).mono ?_
    rw [hd]
    rintro e w2 ⟨rfl, hb2⟩
    have hB2 := hB1.next hb2
    clear hB1 hS1 hb2 c0 c1 c2 c3 s0 s1 s2 s3 s4 hfi hfe hd
    obtain ⟨e8, h8, h8n⟩ : ∃ e : Nat, 8 * (d : Int) = (e : Int) ∧ 8 * d = e := ⟨8 * d, by omega, rfl⟩
    have he8 : e8 ≤ 8000 := by omega
    have hfd := ds_f3
    go_wp2_with fail
    refine (highs_any e8 _ (by omega)).mono ?_
    rintro e w3 ⟨A, c, rfl, hown, hb3⟩
    have hB3 := hB2.next hb3
    have O := Lib.hid (hown.weaken hB2.bel.size)
    clear hown hb3
    go_wp2
    go_ret2
    exact ⟨A, _, c, by rw [H1.out]; rfl, by rw [E.out, if_pos H1.out, show (8 * (d : Int)).toNat = e8 from by omega]; exact O.out, hB3.bel⟩
  all_goals
    go_wp2
    go_ret2
    exact ⟨none, 0, 0, by rw [H1.out]; rfl, by rw [E.out, if_neg (by rw [H1.out]; decide)]; exact OwnI.nil _ _ _, hB1.bel⟩
end Go.Proofs.YtbaojbheopcjhaaGreatDoor
