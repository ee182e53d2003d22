/- Steps of a region that draws: a call; an append of a readable row. Conditions: none. -/
import Derived.Test.YtlfbmedgkkfalaaKit9
namespace Go.Proofs.Ytlfbmedgkkfalaa
open Go.RowKit
section
variable {P : Program} {ops : Array Oper} {o : Oper} {a : Act} {K : Act → World → Prop} {Q : Exit → Act → World → Prop} {E : Prop}
/-- a call of a Go function -/
theorem step_call {w : World} (f : FuncId) {fn : Func} (hf : P.funcs[f]? = some fn) (hname : (fn.name == "runtime.NumGoroutine") = false) (hb : fn.body.isSome = true) {xs : Array Operand} {tys : Array TypeId} (hgd : o.guard = none) (ho : o.op = .call { callee := .value (.func f), args := xs, argTypes := tys })
    (vals : Array Value) (hv : xs.map a.eval = vals) (h : Calls P f vals w fun e w' => ∃ v, e = .returned v ∧ K (a.put o.dst v) w') :
    if Region.wanted o (yielded ops a.tmps) = true then Oper.wp P o a w K Q else E := by
  have hw : Region.wanted o (yielded ops a.tmps) = true := by simp [Region.wanted, hgd]
  rw [if_pos hw]
  subst hv
  have he : (execOp a.eval o).run P w = .ok (.enter f (xs.map a.eval)) w := by
    obtain ⟨c, hc⟩ := Option.isSome_iff_exists.1 hb
    have h1 : fn.name ≠ "runtime.NumGoroutine" := by simpa using hname
    have hcf : (callFunc f (xs.map a.eval)).run P w = .ok (.enter f (xs.map a.eval)) w := by
      simp [callFunc, hf, h1, hc]
    simp [execOp, ho, resolve, invoke, Act.eval, go_sem]
    exact hcf
  unfold Oper.wp
  rw [he, Oper.upon_enter]
  refine h.mono ?_
  rintro e w' ⟨v, rfl, hk⟩
  exact hk
/-- 'append(out, ys...)' on a row of the call's own -/
theorem step_appR (W : World) {TS T : TypeId} (ht : P.underlying TS = some (.slice T)) (hinfo : (P.info? T).map (fun i => (i.zero, i.size, i.bytes)) = some (some (.int .i64 0), 1, 8))
    (hgd : o.guard = none) (s x : Operand) (ho : o.op = .call { callee := .builtin .append, args := #[s, x], argTypes := #[TS, TS] })
    (base : Nat) (A : Option Addr) (n c : Nat) (zs : List Int) (hs : a.eval s = .slice A n c) (hown : OwnI T W base A n c zs)
    (A2 : Option Addr) (n2 c2 B : Nat) (ys : List Int) (hx : a.eval x = .slice A2 n2 c2) (hr : RI W B A2 n2 ys) (hA2 : A2 = none → c2 = 0)
    (hn : n + n2 ≤ 1099511627776) (hbase : base ≤ W.heap.size)
    (h : ∀ A' c' w', OwnI T w' base A' (n + n2) c' (zs ++ ys) → (∀ B, B ≤ base → Below B W w') → W.grownBy w' (Value.slice A n c).ownBlock → K (a.put o.dst (.slice A' (n + n2) c')) w') :
    if Region.wanted o (yielded ops a.tmps) = true then Oper.wp P o a W K Q else E := by
  have hw : Region.wanted o (yielded ops a.tmps) = true := by simp [Region.wanted, hgd]
  rw [if_pos hw]
  obtain ⟨i, hi, hz, hs1, hb1⟩ := info_split hinfo
  have fin : ∀ v' w', w'.ownsRow base T 1 v' (n + n2) (zs.map (Value.int .i64) ++ ys.map (Value.int .i64)) → W.grownBy w' (Value.slice A n c).ownBlock → K (a.put o.dst v') w' := by
    intro v' w' hown' hg
    have hB : ∀ B, B ≤ base → Below B W w' := fun B hB => (Below.refl B W).grown hg (Nat.le_trans hB hbase) (fun g e => Nat.le_trans hB (own_row hown g e).1)
    rcases hown'.2 with ⟨h1, h2⟩ | ⟨g, cap, cur, hv, hrest⟩
    · subst h1
      have := h none 0 w' (by unfold OwnI; rw [List.map_append, h2]; rw [h2] at hown'; exact hown') hB hg
      rw [h2] at this
      exact this
    · subst hv
      exact h _ _ w' (by unfold OwnI; rw [List.map_append]; exact hown') hB hg
  rcases A2 with _ | ad
  · obtain rfl := hA2 rfl
    have h0 : n2 = 0 := by
      rcases Nat.eq_zero_or_pos n2 with hh | hh
      · exact hh
      · obtain ⟨b, o', e, _⟩ := hr.get hh; cases e
    subst h0
    obtain rfl : ys = [] := List.length_eq_zero_iff.1 hr.len
    have hrun : (Builtin.append_ #[TS, TS] o.type #[.slice A n c, .slice none 0 0]).run P W = .ok (.slice A n c) W := by
      obtain ⟨w2, hr2, _⟩ : ∃ w2, (Builtin.append_ #[TS, TS] o.type #[.slice A n c, .slice none 0 0]).run P W = .ok (.slice A n c) w2 ∧ w2 = W := by
        have hcn := hown.cap.1
        refine ⟨W, ?_, rfl⟩
        rcases A with _ | ad
        · have : c = 0 ∧ n = 0 := by
            rcases hown.2 with ⟨h1, h2⟩ | ⟨g, cap, cur, hv, _⟩
            · injection h1 with _ h3 h4; exact ⟨h4, h3⟩
            · injection hv with h1; cases h1
          obtain ⟨rfl, rfl⟩ := this
          simp [Builtin.append_, run_underlying ht, sizeOf, typeInfo, hi, Builtin.lenOf, Builtin.firstCells]
        · simp [Builtin.append_, run_underlying ht, sizeOf, typeInfo, hi, Builtin.lenOf, Builtin.firstCells, loadCells, hcn, storeCells]
      rw [hr2]; subst_vars; rfl
    unfold Oper.wp
    simp [execOp, ho, resolve, invoke, builtin, hs, hx, hrun, Result.andThen]
    have := fin (.slice A n c) W (by simpa [OwnI] using hown) (World.grownBy.refl _ _)
    exact this
  · refine wp_append_own W s x TS ho base T i (.int .i64 0) 1 8 ht hi hz hs1 hb1 rfl (by omega) (.slice A n c) n _ hs hown ad n2 c2 (ys.map (Value.int .i64)) hx (by rw [List.length_map, hr.len, Nat.mul_one]) ?_ ?_ (by simp only [maxLen]; omega) (by omega) hbase (fun v' w' h1 h2 _ => fin v' w' h1 h2)
    · intro j u hu
      rw [List.getElem?_map] at hu
      rcases Nat.lt_or_ge j n2 with hj | hj
      · rw [gi_some (by rw [hr.len]; exact hj)] at hu
        obtain rfl := Option.some.inj hu
        obtain ⟨b, o', e, _, hc⟩ := hr.get (by omega)
        obtain rfl := Option.some.inj e
        rw [Go.WideShapes.add_plain]
        exact hc j hj
      · rw [List.getElem?_eq_none (by rw [hr.len]; exact hj)] at hu; cases hu
    · intro u hu
      obtain ⟨z, _, rfl⟩ := List.mem_map.1 hu
      rfl
end
section
variable {P : Program} {ops : Array Oper} {o : Oper} {a : Act} {K : Act → World → Prop} {Q : Exit → Act → World → Prop} {E : Prop}
theorem step_appRN (W : World) {TS T : TypeId} (ht : P.underlying TS = some (.slice T)) (hinfo : (P.info? T).map (fun i => (i.zero, i.size, i.bytes)) = some (some (.int .i64 0), 1, 8))
    (hgd : o.guard = none) (s x : Operand) (ho : o.op = .call { callee := .builtin .append, args := #[s, x], argTypes := #[TS, TS] })
    (base : Nat) (A : Option Addr) (n c : Nat) (zs : List Int) (hs : a.eval s = .slice A n c) (hown : OwnI T W base A n c zs)
    (A2 : Option Addr) (n2 c2 B : Nat) (ys : List Int) (hx : a.eval x = .slice A2 n2 c2) (hr : RI W B A2 n2 ys) (hA2 : A2 = none → c2 = 0)
    (N : Nat) (hN : n + n2 = N) (hn : N ≤ 1099511627776) (hbase : base ≤ W.heap.size)
    (h : ∀ A' c' w', OwnI T w' base A' N c' (zs ++ ys) → (∀ B, B ≤ base → Below B W w') → W.grownBy w' (Value.slice A n c).ownBlock → K (a.put o.dst (.slice A' N c')) w') :
    if Region.wanted o (yielded ops a.tmps) = true then Oper.wp P o a W K Q else E := by
  subst hN
  exact step_appR W ht hinfo hgd s x ho base A n c zs hs hown A2 n2 c2 B ys hx hr hA2 hn hbase h
end
/-- a reslice of what can be read -/
theorem RI.pre {w : World} {B n k : Nat} {A : Option Addr} {zs : List Int} (h : RI w B A n zs) (hk : k ≤ n) : RI w B A k (zs.take k) := by
  refine ⟨by rw [List.length_take, h.len]; omega, fun h0 => ?_⟩
  obtain ⟨b, o, e, hb, hc⟩ := h.get (by omega)
  exact ⟨b, o, e, hb, fun i hi => by rw [gi_take hi]; exact hc i (by omega)⟩
theorem RI.suf {w : World} {B n k b o : Nat} {zs : List Int} (h : RI w B (some ⟨b, o, none⟩) n zs) (hk : k ≤ n) : RI w B (some ⟨b, o + k, none⟩) (n - k) (zs.drop k) := by
  refine ⟨by rw [List.length_drop, h.len], fun h0 => ?_⟩
  obtain ⟨b', o', e, hb, hc⟩ := h.get (by omega)
  cases e
  exact ⟨b, o + k, rfl, hb, fun i hi => by rw [gi_drop, Nat.add_assoc]; exact hc (k + i) (by omega)⟩
end Go.Proofs.Ytlfbmedgkkfalaa
