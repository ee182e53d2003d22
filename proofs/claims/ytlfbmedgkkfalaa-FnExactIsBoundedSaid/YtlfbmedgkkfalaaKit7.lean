/- An append of a readable row. Conditions: none. -/
import Derived.Test.YtlfbmedgkkfalaaKit6
import Derived.Laws.AppendOwnNone
import Derived.WideShapes
namespace Go.Proofs.Ytlfbmedgkkfalaa
open Go.RowKit
section
variable {P : Program} {ops : Array Oper} {rest : List Oper} {o : Oper} {a : Act} {Q : Exit → Act → World → Prop}
/-- 'out = append(out, ys...)' on a row of the call's own -/
theorem wpl_appR (W : World) {TS T : TypeId} (ht : P.underlying TS = some (.slice T)) (hinfo : (P.info? T).map (fun i => (i.zero, i.size, i.bytes)) = some (some (.int .i64 0), 1, 8))
    (hgd : o.guard = none) (s x : Operand) (ho : o.op = .call { callee := .builtin .append, args := #[s, x], argTypes := #[TS, TS] })
    (base : Nat) (A : Option Addr) (n c : Nat) (zs : List Int) (hs : a.eval s = .slice A n c) (hown : OwnI T W base A n c zs)
    (A2 : Option Addr) (n2 c2 B : Nat) (ys : List Int) (hx : a.eval x = .slice A2 n2 c2) (hr : RI W B A2 n2 ys) (hA2 : A2 = none → c2 = 0)
    (hn : n + n2 ≤ 1099511627776) (hbase : base ≤ W.heap.size)
    (h : ∀ A' c' w', OwnI T w' base A' (n + n2) c' (zs ++ ys) → (∀ B, B ≤ base → Below B W w') → W.grownBy w' (Value.slice A n c).ownBlock → wpList P ops Q rest (a.put o.dst (.slice A' (n + n2) c')) w') :
    wpList P ops Q (o :: rest) a W := by
  obtain ⟨i, hi, hz, hs1, hb1⟩ := info_split hinfo
  have fin : ∀ v' w', w'.ownsRow base T 1 v' (n + n2) (zs.map (Value.int .i64) ++ ys.map (Value.int .i64)) → W.grownBy w' (Value.slice A n c).ownBlock → wpList P ops Q rest (a.put o.dst v') w' := by
    intro v' w' hown' hg
    have hB : ∀ B, B ≤ base → Below B W w' := fun B hB => (Below.refl B W).grown hg (Nat.le_trans hB hbase) (fun g e => Nat.le_trans hB (own_row hown g e).1)
    rcases hown'.2 with ⟨h1, h2⟩ | ⟨g, cap, cur, hv, hrest⟩
    · subst h1
      have := h none 0 w' (by unfold OwnI; rw [List.map_append, h2]; rw [h2] at hown'; exact hown') hB hg
      rw [h2] at this
      exact this
    · subst hv
      exact h _ _ w' (by unfold OwnI; rw [List.map_append]; exact hown') hB hg
  rcases A2 with _ | ad
  · obtain rfl := hA2 rfl
    have h0 : n2 = 0 := by
      rcases Nat.eq_zero_or_pos n2 with hh | hh
      · exact hh
      · obtain ⟨b, o', e, _⟩ := hr.get hh; cases e
    subst h0
    obtain rfl : ys = [] := List.length_eq_zero_iff.1 hr.len
    refine wpList_append_own_none hgd s x TS ho base T i 1 ht hi (.slice A n c) n _ hs hown hx ?_
    have := fin (.slice A n c) W (by simpa [OwnI] using hown) (World.grownBy.refl _ _)
    exact this
  · refine wpList_append_own W hgd s x TS ho base T i (.int .i64 0) 1 8 ht hi hz hs1 hb1 rfl (by omega) (.slice A n c) n _ hs hown ad n2 c2 (ys.map (Value.int .i64)) hx (by rw [List.length_map, hr.len, Nat.mul_one]) ?_ ?_ (by simp only [maxLen]; omega) (by omega) hbase (fun v' w' h1 h2 _ => fin v' w' h1 h2)
    · intro j u hu
      rw [List.getElem?_map] at hu
      rcases Nat.lt_or_ge j n2 with hj | hj
      · rw [gi_some (by rw [hr.len]; exact hj)] at hu
        obtain rfl := Option.some.inj hu
        obtain ⟨b, o', e, _, hc⟩ := hr.get (by omega)
        obtain rfl := Option.some.inj e
        rw [Go.WideShapes.add_plain]
        exact hc j hj
      · rw [List.getElem?_eq_none (by rw [hr.len]; exact hj)] at hu; cases hu
    · intro u hu
      obtain ⟨z, _, rfl⟩ := List.mem_map.1 hu
      rfl
end
end Go.Proofs.Ytlfbmedgkkfalaa
