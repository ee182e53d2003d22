/- An append of one fault. Conditions: none. -/
import Derived.Test.YtlfbmedgkkfalaaKit4
import Derived.WideShapes
namespace Go.Proofs.Ytlfbmedgkkfalaa
open Go.RowKit
section
variable {P : Program} {ops : Array Oper} {rest : List Oper} {o : Oper} {a : Act} {Q : Exit → Act → World → Prop}
/-- 'out = append(out, y)' on a row of faults of the call's own, y in a block that has just been made -/
theorem wpl_appF (W : World) (t1 : TypeId) {TS T : TypeId} (ht : P.underlying TS = some (.slice T)) (hinfo : (P.info? T).map (fun i => (i.zero, i.size, i.bytes)) = some (some (.agg #[.int .i64 0, .int .i64 0, .int .i64 0, .int .i64 0]), 4, 32))
    (hgd : o.guard = none) (s x : Operand) (ho : o.op = .call { callee := .builtin .append, args := #[s, x], argTypes := #[TS, TS] })
    (base : Nat) (A : Option Addr) (n c : Nat) (zs : List Flt) (hs : a.eval s = .slice A n c) (hown : OwnE encF 4 T W base A n c zs)
    (y : Flt) (hx : a.eval x = .slice (some ⟨W.heap.size, 0, none⟩) 1 1)
    (hn : n + 1 ≤ 1099511627776) (hbase : base ≤ W.heap.size)
    (h : ∀ A' c' w', OwnE encF 4 T w' base A' (n + 1) c' (zs ++ [y]) → (∀ B, B ≤ base → Below B W w') → W.grownBy w' (Value.slice A n c).ownBlock → wpList P ops Q rest (a.put o.dst (.slice A' (n + 1) c')) w') :
    wpList P ops Q (o :: rest) a (W.alloc (.cells #[.int .i64 y.kd, .int .i64 y.pos, .int .i64 y.len, .int .i64 y.val] t1)) := by
  refine wpl_app1E encF 4 encF_len encF_one _ ht hinfo rfl (by omega) (by omega) hgd s x ho base A n c zs hs (hown.alloc _) ⟨W.heap.size, 0, none⟩ 1 y hx ?_ hn (by rw [isz_alloc]; omega) ?_
  · intro j u hu
    have hj : j = 0 ∨ j = 1 ∨ j = 2 ∨ j = 3 := by
      rcases j with _ | _ | _ | _ | j
      · exact .inl rfl
      · exact .inr (.inl rfl)
      · exact .inr (.inr (.inl rfl))
      · exact .inr (.inr (.inr rfl))
      · simp [encF] at hu
    have hx' := new_heap W (.cells #[.int .i64 y.kd, .int .i64 y.pos, .int .i64 y.len, .int .i64 y.val] t1)
    rw [Go.WideShapes.add_plain, Nat.zero_add]
    unfold World.cell?
    rw [hx']
    rcases hj with rfl | rfl | rfl | rfl <;> exact hu
  · intro A' c' w' hown' hg
    refine h A' c' w' hown' (fun B hB => ?_) (grown_tr (World.grownBy_alloc W _ _) hg)
    exact ((Below.refl B W).alloc (Nat.le_trans hB hbase) _).grown hg (by rw [isz_alloc]; omega) (fun g e => Nat.le_trans hB (hown.row g e).1)
end
end Go.Proofs.Ytlfbmedgkkfalaa
