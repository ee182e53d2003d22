/- An own row while another block is written. Conditions: none. -/
import Derived.Test.YtlfbmedgkkfalaaKit5
namespace Go.Proofs.Ytlfbmedgkkfalaa
open Go.RowKit
theorem OwnI.other {T : TypeId} {w : World} {base n c : Nat} {A : Option Addr} {zs : List Int} (h : OwnI T w base A n c zs) {p : Addr} (hp : p.block < base) (v : Value) : OwnI T (w.setCell p v) base A n c zs :=
  ownsRow_setCell_other h (fun e => by have := (own_row h _ e).1; omega) v
theorem OwnE.other {α : Type} {enc : α → List Value} {sz : Nat} {T : TypeId} {w : World} {base n c : Nat} {A : Option Addr} {zs : List α} (h : OwnE enc sz T w base A n c zs) {p : Addr} (hp : p.block < base) (v : Value) : OwnE enc sz T (w.setCell p v) base A n c zs :=
  ⟨h.1, ownsRow_setCell_other h.2 (fun e => by have := (h.row _ e).1; omega) v⟩
end Go.Proofs.Ytlfbmedgkkfalaa
