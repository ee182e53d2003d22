/- One walk, in the text's order, of a region that draws its order, in a class of worlds that the operations and the callees keep. Conditions: as each theorem states them. -/
import Derived.Test.YtojmikalnalfbaaGreatDoorB1
import Derived.BigQuiet
namespace Go.Proofs.YtojmikalnalfbaaGreatDoor
open Go.RowKit
/-- a world of a class -/
structure Cls (S : World → Prop) where
  w : World
  h : S w
section
variable {P : Program} {S : World → Prop}
theorem wp_region_cls {id : Nat} {Q : Exit → Act → World → Prop} {a : Act} {w : World} {l : List Oper} (S : World → Prop) (hm : P.follows .mixedOrders = true) (hB : Region.lexB .any l.toArray = true) (hS : S w.drew)
    (h : wpQuiet P l.toArray (fun w' => ∃ x : Cls S, w' = x.w) (fun a' => ∀ w', (∃ x : Cls S, w' = x.w) → Q .normal a' w') l a) : (Code.region id l.toArray true).wp P Q a w :=
  wp_region_quiet (C := fun w' => ∃ x : Cls S, w' = x.w) hm hB ⟨⟨_, hS⟩, rfl⟩ (by simpa using h)
/-- a callee that only makes memory of its own -/
theorem cls_call {f : FuncId} {args : Array Value} {v : Value} {x : Cls S} (hn : ∀ {u u' : World}, S u → Below u.heap.size u u' → S u') (h : Calls P f args x.w (RetV x.w v)) :
    Calls P f args x.w fun e w'' => e = .returned v ∧ ∃ y : Cls S, w'' = y.w := h.mono fun _ _ ⟨he, hb⟩ => ⟨he, ⟨_, hn x.h hb⟩, rfl⟩
/-- a callee that leaves the world as it is -/
theorem cls_same {f : FuncId} {args : Array Value} {v : Value} {x : Cls S} (h : Calls P f args x.w fun e w' => e = .returned v ∧ x.w = w') :
    Calls P f args x.w fun e w'' => e = .returned v ∧ ∃ y : Cls S, w'' = y.w := h.mono fun _ _ ⟨he, hb⟩ => ⟨he, x, hb.symm⟩
end
end Go.Proofs.YtojmikalnalfbaaGreatDoor
