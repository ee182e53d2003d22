/- Walks, laws and small notions for the claims of this seat, several texts as one (Sz, To, Ts, Tm, Td, Eq, VerB, VerC). Conditions: as each theorem states them. -/
import Derived.Test.YtbaojbheopcjhaaGreatDoorB8
import Derived.Test.YtbaojbheopcjhaaGreatDoorB3
import Derived.Test.YtbaojbheopcjhaaGreatDoorB9
import Derived.Deep.DeepCutAuto
import Derived.Test.YtbaojbheopcjhaaGreatDoorB1
namespace Go.Proofs.YtbaojbheopcjhaaGreatDoor
open Go.RowKit

end Go.Proofs.YtbaojbheopcjhaaGreatDoor

namespace Go.Proofs.YtbaojbheopcjhaaGreatDoor
open Go.RowKit

theorem infoNode : (Tryz.prog.info? 84).map (fun i => (i.zero, i.size, i.bytes)) = some (some (.agg #[.int .i64 0, .string ⟨#[]⟩, .int .i64 0, .bool false]), 4, 40) := by kernel_rfl
end Go.Proofs.YtbaojbheopcjhaaGreatDoor

namespace Go.Proofs.YtbaojbheopcjhaaGreatDoor
open Go.RowKit

end Go.Proofs.YtbaojbheopcjhaaGreatDoor

namespace Go.Proofs.YtbaojbheopcjhaaGreatDoor
open Go.RowKit

theorem infoMode : (Tryz.prog.info? 110).map (fun i => (i.zero, i.size, i.bytes)) = some (some (.agg #[.int .i64 0, .int .i64 0, .slice none 0 0]), 3, 40) := by kernel_rfl
theorem ge_set_other {α : Type} [Inhabited α] {zs : List α} {k i : Nat} (h : k ≠ i) (x : α) : ge (zs.set k x) i = ge zs i := by simp [ge, h]
theorem encMh_len (x : Mh) : (encMh x).length = 3 := rfl

/-- a table of modes of the call's own, with its own lists -/
def OM (w : World) (base : Nat) (A : Option Addr) (n c : Nat) (l : List Mk) : Prop :=
  l.length = n ∧ ∃ hs : List Mh, OwnE encMh 3 110 w base A n c hs ∧ ∀ i, i < n → (ge hs i).k = ge l i ∧ OwnI 2 w base (ge hs i).A (ge hs i).n (ge hs i).c (ge l i).nx ∧ (ge hs i).n ≤ maxLen
theorem OM.other {w : World} {base n c : Nat} {A : Option Addr} {l : List Mk} (h : OM w base A n c l) {p : Addr} (hp : p.block < base) (v : Value) : OM (w.setCell p v) base A n c l :=
  let ⟨hl, hs, ho, hi⟩ := h
  ⟨hl, hs, ho.other hp v, fun i hn => ⟨(hi i hn).1, (hi i hn).2.1.other hp v, (hi i hn).2.2⟩⟩
theorem OM.below {w w' : World} {base n c : Nat} {A : Option Addr} {l : List Mk} (h : OM w base A n c l) (hb : Below w.heap.size w w') : OM w' base A n c l :=
  let ⟨hl, hs, ho, hi⟩ := h
  ⟨hl, hs, ho.below hb, fun i hn => ⟨(hi i hn).1, (hi i hn).2.1.below hb, (hi i hn).2.2⟩⟩
theorem OM.reads {w : World} {base n c : Nat} {A : Option Addr} {l : List Mk} (h : OM w base A n c l) : RM w w.heap.size A n l := by
  obtain ⟨hl, hs, ho, hi⟩ := h
  have e : hs.map (·.k) = l := by
    refine List.ext_getElem (by rw [List.length_map, ho.len, hl]) fun i h1 h2 => ?_
    rw [List.getElem_map]
    have := (hi i (by rw [← hl]; exact h2)).1
    rw [ge_lt (by rw [ho.len, ← hl]; exact h2), ge_lt h2] at this
    exact this
  have hR := RM.of (ho.reads encMh_len) (fun i hn => ⟨by
    obtain ⟨q1, q2, q3⟩ := hi i hn
    rw [q1]; exact q2.reads, (hi i hn).2.2⟩)
  rw [e] at hR
  exact hR

end Go.Proofs.YtbaojbheopcjhaaGreatDoor

namespace Go.Proofs.YtbaojbheopcjhaaGreatDoor
open Go.RowKit

theorem OwnE.capE {α : Type} {enc : α → List Value} {sz : Nat} {T : TypeId} {w : World} {base n c : Nat} {A : Option Addr} {xs : List α} (h : OwnE enc sz T w base A n c xs) : n ≤ c := by
  rcases h.2.2 with ⟨h1, h2⟩ | ⟨g, cap, cur, hv, hb, hh, hn, _⟩
  · omega
  · injection hv with h1 h2 h3
    omega
theorem OM.weaken {w : World} {base base' n c : Nat} {A : Option Addr} {l : List Mk} (h : OM w base A n c l) (hb : base' ≤ base) : OM w base' A n c l :=
  let ⟨hl, hs, ho, hi⟩ := h
  ⟨hl, hs, ho.weaken hb, fun i hn => ⟨(hi i hn).1, (hi i hn).2.1.weaken hb, (hi i hn).2.2⟩⟩
end Go.Proofs.YtbaojbheopcjhaaGreatDoor

namespace Go.Proofs.YtbaojbheopcjhaaGreatDoor
open Go.RowKit

end Go.Proofs.YtbaojbheopcjhaaGreatDoor

namespace Go.Proofs.YtbaojbheopcjhaaGreatDoor
open Go.RowKit
end Go.Proofs.YtbaojbheopcjhaaGreatDoor

namespace Go.Proofs.YtbaojbheopcjhaaGreatDoor
open Go.RowKit
end Go.Proofs.YtbaojbheopcjhaaGreatDoor
