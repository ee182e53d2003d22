/- An append of a readable row of elements; an empty row with room. Conditions: none. -/
import Derived.Test.YtlfbmedgkkfalaaKit7
import Derived.Lib.AppendZeros
namespace Go.Proofs.Ytlfbmedgkkfalaa
open Go.RowKit
section
variable {P : Program} {ops : Array Oper} {rest : List Oper} {o : Oper} {a : Act} {Q : Exit → Act → World → Prop} {α : Type} [Inhabited α]
/-- 'out = append(out, ys...)' on a row of the call's own -/
theorem wpl_appRE (enc : α → List Value) (sz : Nat) (hk : ∀ x, (enc x).length = sz) (h1c : ∀ x, ∀ u ∈ enc x, u.oneCell' = true) (W : World) {TS T : TypeId} {z : Value} {bytes : Nat}
    (ht : P.underlying TS = some (.slice T)) (hinfo : (P.info? T).map (fun i => (i.zero, i.size, i.bytes)) = some (some z, sz, bytes)) (hzs : z.cells.size = sz) (hsz : 0 < sz) (hby : bytes ≤ 128)
    (hgd : o.guard = none) (s x : Operand) (ho : o.op = .call { callee := .builtin .append, args := #[s, x], argTypes := #[TS, TS] })
    (base : Nat) (A : Option Addr) (n c : Nat) (zs : List α) (hs : a.eval s = .slice A n c) (hown : OwnE enc sz T W base A n c zs)
    (A2 : Option Addr) (n2 c2 B : Nat) (ys : List α) (hx : a.eval x = .slice A2 n2 c2) (hr : RE enc sz W B A2 n2 ys) (hA2 : A2 = none → c2 = 0)
    (hn : n + n2 ≤ 1099511627776) (hbase : base ≤ W.heap.size)
    (h : ∀ A' c' w', OwnE enc sz T w' base A' (n + n2) c' (zs ++ ys) → (∀ B, B ≤ base → Below B W w') → W.grownBy w' (Value.slice A n c).ownBlock → wpList P ops Q rest (a.put o.dst (.slice A' (n + n2) c')) w') :
    wpList P ops Q (o :: rest) a W := by
  obtain ⟨i, hi, hz, hs1, hb1⟩ := info_split hinfo
  have fin : ∀ v' w', w'.ownsRow base T sz v' (n + n2) (zs.flatMap enc ++ ys.flatMap enc) → W.grownBy w' (Value.slice A n c).ownBlock → wpList P ops Q rest (a.put o.dst v') w' := by
    intro v' w' hown' hg
    have hB : ∀ B, B ≤ base → Below B W w' := fun B hB => (Below.refl B W).grown hg (Nat.le_trans hB hbase) (fun g e => Nat.le_trans hB (hown.row g e).1)
    have hl : (zs ++ ys).length = n + n2 := by rw [List.length_append, hown.1, hr.len]
    rcases hown'.2 with ⟨h1, h2⟩ | ⟨g, cap, cur, hv, hrest⟩
    · subst h1
      have := h none 0 w' ⟨hl, by rw [List.flatMap_append, h2]; rw [h2] at hown'; exact hown'⟩ hB hg
      rw [h2] at this
      exact this
    · subst hv
      exact h _ _ w' ⟨hl, by rw [List.flatMap_append]; exact hown'⟩ hB hg
  rcases A2 with _ | ad
  · obtain rfl := hA2 rfl
    have h0 : n2 = 0 := by
      rcases Nat.eq_zero_or_pos n2 with hh | hh
      · exact hh
      · obtain ⟨b, o', e, _⟩ := hr.get hh; cases e
    subst h0
    obtain rfl : ys = [] := List.length_eq_zero_iff.1 hr.len
    have hown2 := hown.2
    refine wpList_append_own_none hgd s x TS ho base T i sz ht hi (.slice A n c) n _ hs hown2 hx ?_
    have := fin (.slice A n c) W (by simpa using hown.2) (World.grownBy.refl _ _)
    exact this
  · refine wpList_append_own W hgd s x TS ho base T i z sz bytes ht hi hz hs1 hb1 hzs hsz (.slice A n c) n _ hs hown.2 ad n2 c2 (ys.flatMap enc) hx (by rw [flat_len hk, hr.len]) ?_ ?_ (by simp only [maxLen]; omega) ?_ hbase (fun v' w' h1 h2 _ => fin v' w' h1 h2)
    · intro j u hu
      rcases Nat.lt_or_ge j (n2 * sz) with hj | hj
      · obtain ⟨q, r, rfl, hr'⟩ : ∃ q r, j = q * sz + r ∧ r < sz := ⟨j / sz, j % sz, by rw [Nat.mul_comm]; exact (Nat.div_add_mod j sz).symm, Nat.mod_lt _ hsz⟩
        have hq : q < n2 := by
          rcases Nat.lt_or_ge q n2 with hh | hh
          · exact hh
          · have := Nat.mul_le_mul_right sz hh; omega
        rw [flat_get hk ys q r (by rw [hr.len]; exact hq) hr'] at hu
        obtain ⟨b, o', e, _, hc⟩ := hr.get (by omega)
        obtain rfl := Option.some.inj e
        rw [Go.WideShapes.add_plain, ← Nat.add_assoc]
        exact hc q hq r u hu
      · rw [List.getElem?_eq_none (by rw [flat_len hk, hr.len]; exact hj)] at hu; cases hu
    · intro u hu
      obtain ⟨y, _, hy⟩ := List.mem_flatMap.1 hu
      exact h1c y u hy
    · have : (n + n2) * bytes ≤ (n + n2) * 128 := Nat.mul_le_mul_left _ hby
      omega
end
theorem OwnE.room {α : Type} {enc : α → List Value} {sz : Nat} {T : TypeId} (w : World) {base cap : Nat} {cur : Array Value} (hb : base ≤ w.heap.size) (hm : cap ≤ maxLen) (hs : cur.size = cap * sz) :
    OwnE enc sz T (w.alloc (.cells cur T)) base (some ⟨w.heap.size, 0, none⟩) 0 cap ([] : List α) :=
  ⟨rfl, World.ownsRow_made w cur cap hb hm hs⟩
theorem OwnE.none_cap {α : Type} {enc : α → List Value} {sz : Nat} {T : TypeId} {w : World} {base n c : Nat} {A : Option Addr} {zs : List α} (h : OwnE enc sz T w base A n c zs) : A = none → c = 0 := by
  intro e
  subst e
  rcases h.2.2 with ⟨h1, _⟩ | ⟨g, cap, cur, hv, _⟩
  · injection h1
  · injection hv with h1; cases h1
end Go.Proofs.Ytlfbmedgkkfalaa
