/- Walks, laws and small notions for the claims of this seat, several texts as one (WithinRun, OneF). Conditions: as each theorem states them. -/
import Derived.Test.YtjehkjdehkdjcaaB2
import Derived.Test.YtjehkjdehkdjcaaB1
import Derived.Test.YtjehkjdehkdjcaaB5
import Derived.Deep.RegionHeld3
import Derived.Deep.DeepCutAuto
import Derived.Test.YtjehkjdehkdjcaaB18
namespace Go.Proofs.Ytjehkjdehkdjcaa
open Go.ChangeShapes Go.WideShapes Go.ChangeAt Go.RowKit

namespace WithinRun
/-- the code of bits and a fault -/
def cod (a b : Bool) : Int := if a then (if b then 0 else 2) else 1
def wrB (zs : List Int) (f : Flt) : Bool := isBits zs && (isFault f && within5 zs f)

set_option maxHeartbeats 1000000 in
theorem spec_any (A : Option Addr) (n c : Nat) (zs : List Int) (k p l v : Int) (w : World) (h : RI w w.heap.size A n zs) (hn : n ≤ 1099511627776) :
    Calls Try.prog 84 #[.slice A n c, .agg #[.int .i64 k, .int .i64 p, .int .i64 l, .int .i64 v]] w (RetV w (.tuple #[.bool (wrB zs ⟨k, p, l, v⟩), .int .i64 (cod (isBits zs) (isFault ⟨k, p, l, v⟩))])) := by
  have h0 : RI (w.alloc (.cells #[.int .i64 k, .int .i64 p, .int .i64 l, .int .i64 v] 82)) (w.alloc (.cells #[.int .i64 k, .int .i64 p, .int .i64 l, .int .i64 v] 82)).heap.size A n zs :=
    h.up ((Below.refl _ _).alloc (Nat.le_refl _) _)
  rcases bool_cases (isBits zs) with hz | hz
  · rcases bool_cases (isFault ⟨k, p, l, v⟩) with hf | hf
    case inl =>
      go_enter Try.func84, Try.ntmps84
      go_wp2_with (go_at_call 130; refine (sIsBits_any _ _ _ _ _ h0 hn).mono ?_; rintro e w' ⟨rfl, rfl⟩)
      refine (sIsFault_any _ _ _ _ _).mono ?_
      rintro e w1 ⟨rfl, hb1⟩
      obtain ⟨hc1, hf1⟩ := bcell hb1
      go_wp2_with fail
      refine (l26Within_any _ _ _ _ _ _ _ _ _ (h0.up hb1) hn).mono ?_
      rintro e w2 ⟨rfl, hb2⟩
      go_wp2
      go_ret2
      exact ⟨by simp [wrB, cod, hz, hf], ((((Below.refl _ _).alloc (Nat.le_refl _) _).trans (hb1.mono (by simp))).trans (hb2.mono (by have := hb1.size; simp at this; omega)))⟩
    case inr =>
      go_enter Try.func84, Try.ntmps84
      go_wp2_with (go_at_call 130; refine (sIsBits_any _ _ _ _ _ h0 hn).mono ?_; rintro e w' ⟨rfl, rfl⟩)
      refine (sIsFault_any _ _ _ _ _).mono ?_
      rintro e w1 ⟨rfl, hb1⟩
      obtain ⟨hc1, hf1⟩ := bcell hb1
      go_wp2
      go_ret2
      exact ⟨by simp [wrB, cod, hz, hf], ((Below.refl _ _).alloc (Nat.le_refl _) _).trans (hb1.mono (by simp))⟩
  · go_enter Try.func84, Try.ntmps84
    go_wp2_with (go_at_call 130; refine (sIsBits_any _ _ _ _ _ h0 hn).mono ?_; rintro e w' ⟨rfl, rfl⟩)
    go_ret2
    exact ⟨by simp [wrB, cod, hz], (Below.refl _ _).alloc (Nat.le_refl _) _⟩

set_option maxHeartbeats 1000000 in
theorem impl_any (A : Option Addr) (n c : Nat) (zs : List Int) (k p l v : Int) (w : World) (h : RI w w.heap.size A n zs) (hn : n ≤ 1099511627776) (hcap : n ≤ c) (hcm : c ≤ maxLen) :
    Calls Try.prog 83 #[.slice A n c, .agg #[.int .i64 k, .int .i64 p, .int .i64 l, .int .i64 v]] w (RetV w (.tuple #[.bool (wrB zs ⟨k, p, l, v⟩), .int .i64 (cod (isBits zs) (isFault ⟨k, p, l, v⟩))])) := by
  have h0 : RI (w.alloc (.cells #[.int .i64 k, .int .i64 p, .int .i64 l, .int .i64 v] 82)) (w.alloc (.cells #[.int .i64 k, .int .i64 p, .int .i64 l, .int .i64 v] 82)).heap.size A n zs :=
    h.up ((Below.refl _ _).alloc (Nat.le_refl _) _)
  rcases bool_cases (isBits zs) with hz | hz
  · rcases bool_cases (isFault ⟨k, p, l, v⟩) with hf | hf
    case inl =>
      go_enter Try.func83, Try.ntmps83
      go_wp2_with (go_at_call 131; refine (iIsBits_any _ _ _ _ _ h0 hn).mono ?_; rintro e w' ⟨rfl, rfl⟩)
      refine (iIsFault_any _ _ _ _ _).mono ?_
      rintro e w1 ⟨rfl, hb1⟩
      obtain ⟨hc1, hf1⟩ := bcell hb1
      go_wp2_with fail
      refine (withinRun_any _ _ _ _ _ _ _ _ _ (h0.up hb1) hn hcap hcm).mono ?_
      rintro e w2 ⟨rfl, hb2⟩
      go_wp2
      go_ret2
      exact ⟨by simp [wrB, cod, hz, hf], ((((Below.refl _ _).alloc (Nat.le_refl _) _).trans (hb1.mono (by simp))).trans (hb2.mono (by have := hb1.size; simp at this; omega)))⟩
    case inr =>
      go_enter Try.func83, Try.ntmps83
      go_wp2_with (go_at_call 131; refine (iIsBits_any _ _ _ _ _ h0 hn).mono ?_; rintro e w' ⟨rfl, rfl⟩)
      refine (iIsFault_any _ _ _ _ _).mono ?_
      rintro e w1 ⟨rfl, hb1⟩
      obtain ⟨hc1, hf1⟩ := bcell hb1
      go_wp2
      go_ret2
      exact ⟨by simp [wrB, cod, hz, hf], ((Below.refl _ _).alloc (Nat.le_refl _) _).trans (hb1.mono (by simp))⟩
  · go_enter Try.func83, Try.ntmps83
    go_wp2_with (go_at_call 131; refine (iIsBits_any _ _ _ _ _ h0 hn).mono ?_; rintro e w' ⟨rfl, rfl⟩)
    go_ret2
    exact ⟨by simp [wrB, cod, hz], (Below.refl _ _).alloc (Nat.le_refl _) _⟩

end WithinRun
end Go.Proofs.Ytjehkjdehkdjcaa

namespace Go.Proofs.Ytjehkjdehkdjcaa
open Go.RowKit
theorem RE.one {w : World} {g B : Nat} {t : TypeId} {f : Flt} (h : Blk4 w g t (.int .i64 f.kd) (.int .i64 f.pos) (.int .i64 f.len) (.int .i64 f.val)) (hB : g < B) : RE encF 4 w B (some ⟨g, 0, none⟩) 1 [f] := by
  refine ⟨rfl, fun _ => ⟨g, 0, rfl, hB, ?_⟩⟩
  intro i hi j u hu
  obtain rfl : i = 0 := by omega
  rw [show ge [f] 0 = f from rfl] at hu
  unfold encF at hu
  rcases j with _ | _ | _ | _ | j
  · simp at hu; subst hu; exact h.c0
  · simp at hu; subst hu; exact h.c1
  · simp at hu; subst hu; exact h.c2
  · simp at hu; subst hu; exact h.c3
  · simp at hu
theorem wr_iff {zs : List Int} {f : Flt} : WithinRun.wrB zs f = true ↔ isBits zs = true ∧ isFault f = true ∧ within5 zs f = true := by
  unfold WithinRun.wrB; simp only [Bool.and_eq_true]
theorem wr_cod {a b : Bool} : WithinRun.cod a b = 0 ↔ a = true ∧ b = true := by
  cases a <;> cases b <;> simp [WithinRun.cod]
end Go.Proofs.Ytjehkjdehkdjcaa
