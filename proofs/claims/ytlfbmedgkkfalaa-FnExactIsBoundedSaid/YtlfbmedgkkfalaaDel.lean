/- slices.Delete on a row of numbers of the call's own. Conditions: none. -/
import Derived.Test.YtlfbmedgkkfalaaKit9
import Derived.Test.YtlfbmedgkkfalaaBase
import Derived.Test.YtlfbmedgkkfalaaFault
namespace Go.Proofs.Ytlfbmedgkkfalaa
open Go.RowKit

section
variable {P : Program} {ops : Array Oper} {o : Oper} {a : Act} {K : Act → World → Prop} {Q : Exit → Act → World → Prop} {E : Prop} {rest : List Oper}
/-- 'append(s[:i], x...)' where there is room, s an own row that is known whole, as a step of a region that draws -/
theorem step_append_row (w : World) (hgd : o.guard = none) (s x : Operand) {TS T : TypeId} (ho : o.op = .call { callee := .builtin .append, args := #[s, x], argTypes := #[TS, TS] })
    (ht : P.underlying TS = some (.slice T)) (hinfo : (P.info? T).map (fun i => (i.zero, i.size, i.bytes)) = some (some (.int .i64 0), 1, 8))
    (g i c : Nat) (cur : List Value) (hg : w.heap[g]? = some (.cells cur.toArray T (0, 0))) (hs : a.eval s = .slice (some ⟨g, 0, none⟩) i c)
    (ad : Addr) (m cx : Nat) (hx : a.eval x = .slice (some ad) m cx) (news : List Value) (hl : news.length = m) (hsrc : ∀ j u, news[j]? = some u → w.cell? (ad.add j) = some u) (h1 : ∀ u ∈ news, u.oneCell' = true)
    (hroom : i + m ≤ c) (hfit : i + m ≤ cur.length)
    (hK : ∀ w', Hid (w'.heap[g]? = some (.cells (splice cur i news).toArray T (0, 0))) → w.grownBy w' (some g) → K (a.put o.dst (.slice (some ⟨g, 0, none⟩) (i + m) c)) w') :
    if Region.wanted o (yielded ops a.tmps) = true then Oper.wp P o a w K Q else E := by
  have hw : Region.wanted o (yielded ops a.tmps) = true := by simp [Region.wanted, hgd]
  rw [if_pos hw]
  obtain ⟨inf, hi, hz, hs1, hb1⟩ := info_split hinfo
  have hrun := run_append_room (P := P) w TS o.type T inf ht hi g i c cur.toArray hg ad m cx news (by rw [hs1, Nat.mul_one]; exact hl) hsrc h1 hroom (by rw [hs1, Nat.mul_one, hl]; simpa using hfit)
  rw [hs1, Nat.mul_one] at hrun
  unfold Oper.wp
  simp [execOp, ho, resolve, invoke, builtin, hs, hx, hrun, Result.andThen]
  refine hK _ ?_ (grown_setRow _ _ _)
  show _ = _
  rw [setRow_heap w g _ _ T _ hg]
  simp [splice]
/-- 'clear(s)' on an own row that is known whole -/
theorem wpl_clear (w : World) (hgd : o.guard = none) (s : Operand) {TS T : TypeId} (ho : o.op = .call { callee := .builtin .clear, args := #[s], argTypes := #[TS] })
    (ht : P.underlying TS = some (.slice T)) (hinfo : (P.info? T).map (fun i => (i.zero, i.size, i.bytes)) = some (some (.int .i64 0), 1, 8))
    (g off m c : Nat) (cur : List Value) (hg : w.heap[g]? = some (.cells cur.toArray T (0, 0))) (hs : a.eval s = .slice (some ⟨g, off, none⟩) m c) (hm : 0 < m) (hfit : off + m ≤ cur.length)
    (h : ∀ w', Hid (w'.heap[g]? = some (.cells (splice cur off (List.replicate m (.int .i64 0))).toArray T (0, 0))) → w.grownBy w' (some g) → wpList P ops Q rest (a.put o.dst (.tuple #[])) w') :
    wpList P ops Q (o :: rest) a w := by
  obtain ⟨inf, hi, hz, hs1, hb1⟩ := info_split hinfo
  refine wpList_plain hgd fun K hK => ?_
  have hv : ∀ w, (zeroValue T).run P w = .ok (.int .i64 0) w := fun w => by simp [zeroValue, typeInfo, hi, hz]
  have hzc : (Builtin.zeroCells (Value.int .i64 0).cells m).toList = List.replicate m (.int .i64 0) := by
    simp [Builtin.zeroCells, Value.cells]
    apply List.ext_getElem
    · simp
    · intro i h1 h2
      simp [Nat.mod_one]
  have hst := run_storeCells_at P g off T (List.replicate m (.int .i64 0)) 0 cur.toArray w hg (by simpa using hfit) (by intro v hv'; rw [List.eq_of_mem_replicate hv']; rfl)
  simp only [Nat.add_zero] at hst
  obtain ⟨Z, hZ⟩ : ∃ Z, List.replicate m (Value.int .i64 0) = Z := ⟨_, rfl⟩
  rw [hZ] at hst hzc h
  have hst' : (storeCells ⟨g, off, none⟩ Z).run P w = .ok () (w.setRow g (splice cur off Z).toArray) := by rw [hst]; simp [splice]
  clear hst hZ
  obtain ⟨m', rfl⟩ : ∃ m', m = m' + 1 := ⟨m - 1, by omega⟩
  have hrun : (Builtin.clear_ #[TS] o.type #[.slice (some ⟨g, off, none⟩) (m' + 1) c]).run P w = .ok (.tuple #[]) (w.setRow g (splice cur off Z).toArray) := by
    simp [Builtin.clear_, run_underlying ht, hv, hzc, hst']
  unfold Oper.wp
  simp [execOp, ho, resolve, invoke, builtin, hs, hrun, Result.andThen]
  refine hK _ _ (h _ ?_ (grown_setRow _ _ _))
  show _ = _
  rw [setRow_heap w g _ _ T _ hg]
end

set_option maxRecDepth 20000 in
set_option maxHeartbeats 4000000 in
theorem delete_same (A : Option Addr) (n c i : Nat) (w : World) (hi : i ≤ n) (hc : n ≤ c) :
    Calls Try.prog 168 #[.slice A n c, .int .i64 i, .int .i64 i] w fun e w' => e = .returned (.slice A n c) ∧ w = w' := by
  go_enter Try.func168, Try.ntmps168
  go_wp2
  all_goals
    go_ret
    exact ⟨rfl, rfl⟩

set_option maxRecDepth 20000 in
set_option maxHeartbeats 8000000 in
theorem delete_row (g n c i j base : Nat) (zs : List Int) (w : World) (hown : OwnI 2 w base (some ⟨g, 0, none⟩) n c zs) (hij : i < j) (hj : j ≤ n) (hn : n ≤ 1099511627776) :
    Calls Try.prog 168 #[.slice (some ⟨g, 0, none⟩) n c, .int .i64 i, .int .i64 j] w fun e w' => e = .returned (.slice (some ⟨g, 0, none⟩) (n - (j - i)) c) ∧ OwnI 2 w' base (some ⟨g, 0, none⟩) (n - (j - i)) c (zs.take i ++ zs.drop j) ∧ w.grownBy w' (some g) := by
  have L := Lib.hid hown.len
  obtain ⟨cur, hh, hbg, hnc, hcm, hcl, htk⟩ := hown.open
  have HH := Lib.hid hh
  have HCL := Lib.hid hcl
  have HTK := Lib.hid htk
  have hcm2 := hcm
  unfold maxLen at hcm2
  have hX : (cur.take n).drop j = ci (zs.drop j) := by rw [htk, ci_drop]
  have HX := Lib.hid hX
  have hXl : ((cur.take n).drop j).length = n - j := by rw [List.length_drop, List.length_take]; omega
  obtain ⟨X, hXe⟩ : ∃ X, (cur.take n).drop j = X := ⟨_, rfl⟩
  rw [hXe] at hXl
  have HXL := Lib.hid hXl
  have HXE := Lib.hid hXe
  have hX1 : ∀ u ∈ X, u.oneCell' = true := by rw [← hXe, hX]; exact ci_one _
  have HX1 := Lib.hid hX1
  have hsrc : ∀ (k : Nat) (u : Value), X[k]? = some u → w.drew.cell? ⟨g, j + k, none⟩ = some u := by
    intro k u hu
    rw [← hXe, List.getElem?_drop, List.getElem?_take] at hu
    split at hu
    · exact cells_of_row hh hu
    · cases hu
  have HSRC := Lib.hid hsrc
  have hsum : i + (n - j) = n - (j - i) := by omega
  have HSUM := Lib.hid hsum
  clear hsum hsrc hX1 hXe hXl hX htk hcl hh hown
  by_cases hjc : c = j
  · obtain rfl : n = j := by omega
    obtain rfl := hjc
    have hic : i ≤ c := by omega
    have hX0 : X = [] := List.length_eq_zero_iff.1 (by rw [HXL.out]; omega)
    have HX0 := Lib.hid hX0
    clear hX0
    go_enter Try.func168, Try.ntmps168
    go_wp2_with fail
    go_region_law (refine step_append_row _ rfl (.tmp 22) (.tmp 25) rfl Try.underlying24 infoInt g i c cur HH.out (by simp [Act.eval, Act.put]) ⟨g, 0, none⟩ 0 0 (by simp [Act.eval, Act.put]) X (by rw [HX0.out]; rfl) (by intro k u hu; rw [HX0.out] at hu; cases hu) HX1.out (by omega) (by have := HCL.out; omega) ?_; intro w2 hh2 hg2)
    have HH2 := hh2
    clear hh2
    go_wp2_with (with_reducible refine wpl_clear _ rfl (.tmp 31) rfl Try.underlying24 infoInt g i (c - i) (c - i) (splice cur i X) HH2.out (by simp [Act.eval]) (by omega) ?_ ?_; (rw [length_splice _ _ _ (by have := HXL.out; have := HCL.out; omega)]; have := HCL.out; omega); intro w3 hh3 hg3)
    go_ret
    have e1 := HSUM.out
    have e2 := HCL.out
    have e3 := HXL.out
    refine ⟨?_, OwnI.shut hh3.out hbg (by omega) hcm ?_ ?_, grown_tr (grown_drew hg2) hg3⟩
    · rw [← e1, Nat.sub_self]; rfl
    · have l1 : (splice cur i X).length = c := by rw [length_splice cur i X (by omega)]; exact e2
      exact (length_splice (splice cur i X) i (List.replicate (c - i) (Value.int .i64 0)) (by rw [l1, List.length_replicate]; omega)).trans l1
    · rw [← e1, Nat.sub_self, Nat.add_zero, splice_take (L := splice cur i X) (k := i) (by rw [length_splice cur i X (by omega)]; omega)]
      have := splice_cut (cur := cur) (i := i) e3 hj (by omega) (by omega)
      rw [show c - (c - i) = i from by omega] at this
      rw [this, ← HXE.out, HX.out, ci_app, ci_take, ← HTK.out, List.take_take, Nat.min_eq_left (by omega)]
  · have hne : ¬ (c = j) := hjc
    have hic : i ≤ c := by omega
    have hjc2 : j ≤ c := by omega
    go_enter Try.func168, Try.ntmps168
    go_wp2_with fail
    go_region_law (refine step_append_row _ rfl (.tmp 22) (.tmp 25) rfl Try.underlying24 infoInt g i c cur HH.out (by simp [Act.eval, Act.put]) ⟨g, j, none⟩ (n - j) (c - j) (by simp [Act.eval, Act.put]) X HXL.out (by intro k u hu; rw [Go.WideShapes.add_plain]; exact HSRC.out k u hu) HX1.out (by omega) (by have := HCL.out; omega) ?_; intro w2 hh2 hg2)
    have HH2 := hh2
    clear hh2
    have hfit2 : i + (n - j) + (j - i) = n := by omega
    have HF2 := Lib.hid hfit2
    clear hfit2
    go_wp2_with (with_reducible refine wpl_clear _ rfl (.tmp 31) rfl Try.underlying24 infoInt g (i + (n - j)) (n - (i + (n - j))) (c - (i + (n - j))) (splice cur i X) HH2.out (by simp [Act.eval]) (by omega) ?_ ?_; (rw [length_splice _ _ _ (by have := HXL.out; have := HCL.out; omega)]; have := HCL.out; omega); intro w3 hh3 hg3)
    go_ret
    have e1 := HSUM.out
    have e2 := HCL.out
    have e3 := HXL.out
    refine ⟨?_, OwnI.shut hh3.out hbg (by omega) hcm ?_ ?_, grown_tr (grown_drew hg2) hg3⟩
    · rw [← e1]; rfl
    · have l1 : (splice cur i X).length = c := by rw [length_splice cur i X (by omega)]; exact e2
      exact (length_splice (splice cur i X) (i + (n - j)) (List.replicate (n - (i + (n - j))) (Value.int .i64 0)) (by rw [l1, List.length_replicate]; omega)).trans l1
    · rw [← e1, splice_take (L := splice cur i X) (k := i + (n - j)) (by rw [length_splice cur i X (by omega)]; omega), e1, splice_cut e3 hj (by omega) (by omega), ← HXE.out, HX.out, ci_app, ci_take, ← HTK.out, List.take_take, Nat.min_eq_left (by omega)]
theorem delete_any (A : Option Addr) (n c i j base : Nat) (zs : List Int) (w : World) (hown : OwnI 2 w base A n c zs) (hij : i ≤ j) (hj : j ≤ n) (hn : n ≤ 1099511627776) :
    Calls Try.prog 168 #[.slice A n c, .int .i64 i, .int .i64 j] w fun e w' => e = .returned (.slice A (n - (j - i)) c) ∧ OwnI 2 w' base A (n - (j - i)) c (zs.take i ++ zs.drop j) ∧ w.grownBy w' (Value.slice A n c).ownBlock := by
  rcases Nat.lt_or_ge i j with h | h
  · obtain ⟨g, rfl, _, _⟩ := hown.form (by omega)
    exact delete_row g n c i j base zs w hown h hj hn
  · obtain rfl : i = j := by omega
    refine (delete_same A n c i w hj hown.cap.1).mono ?_
    rintro e w' ⟨rfl, rfl⟩
    rw [Nat.sub_self, Nat.sub_zero, List.take_append_drop]
    exact ⟨rfl, hown, World.grownBy.refl _ _⟩
end Go.Proofs.Ytlfbmedgkkfalaa
