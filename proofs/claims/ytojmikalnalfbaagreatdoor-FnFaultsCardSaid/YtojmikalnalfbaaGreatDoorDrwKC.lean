/- What the reference's draws of texts hand back, and the law's level of them. Conditions: texts of at most 2^40 bytes. -/
import Derived.Test.YtojmikalnalfbaaGreatDoorB9
import Derived.Test.YtojmikalnalfbaaGreatDoorB34
import Derived.Deep.RegionLaw
import Derived.BigQuiet
import Derived.Laws.Concat
namespace Go.Proofs.YtojmikalnalfbaaGreatDoor
open Go.RowKit
/-- a drawn text of at most N bytes -/
def DrS (w : World) (g N : Nat) (e : Ending) (w' : World) : Prop := ∃ r : ByteArray, e = .returned (.string r) ∧ r.size ≤ N ∧ Dr w g w'
theorem ext_size (s : ByteArray) (a b : Nat) : (s.extract a b).size ≤ s.size := by rw [ByteArray.size_extract]; omega
/-- the bytes that a text is damaged by -/
def dmg : List Value := [.string ⟨#[48]⟩, .string ⟨#[49]⟩, .string ⟨#[32]⟩, .string ⟨#[58]⟩, .string ⟨#[45]⟩, .string ⟨#[97]⟩, .string ⟨#[47]⟩, .string ⟨#[10]⟩]
theorem dmg_get {x : Nat} (h : x < 8) : ∃ y : ByteArray, dmg[x]? = some (.string y) ∧ y.size = 1 := by
  have hc : x = 0 ∨ x = 1 ∨ x = 2 ∨ x = 3 ∨ x = 4 ∨ x = 5 ∨ x = 6 ∨ x = 7 := by omega
  rcases hc with rfl | rfl | rfl | rfl | rfl | rfl | rfl | rfl <;> exact ⟨_, rfl, rfl⟩
theorem BlkL.dr {w w' : World} {b g : Nat} {t : TypeId} {L : List Value} (h : BlkL w b t L) (d : Dr w g w') (hne : b ≠ g) : BlkL w' b t L :=
  (d.gr.block b h.lt (fun e => hne (Option.some.inj e))).trans h

set_option maxRecDepth 20000 in
set_option maxHeartbeats 8000000 in
theorem damage_any (g : Nat) (t : ByteArray) (w : World) (h : Src w g) (ht : t.size ≤ 1099511627776) :
    Calls Tryz.prog 43 #[.pointer (some ⟨g, 0, none⟩), .string t] w (DrS w g (t.size + 1)) := by
  go_enter Tryz.func43, Tryz.ntmps43
  go_wp2_with fail
  refine (next_any g _ _ h).mono ?_
  rintro e w1 ⟨k, rfl, hk, d1⟩
  have hkt : k ≤ t.size := by omega
  clear hk
  go_wp2_with fail
  refine (next_any g _ _ d1.src).mono ?_
  rintro e w2 ⟨y, rfl, hy, d2⟩
  have D := Lib.hid (d2.next d1)
  have hk0 : (0 : Int) ≤ k := by omega
  have hkt2 : (k : Int) ≤ t.size := by omega
  clear d1 d2 hy
  rcases (show y = 0 ∨ y = 1 ∨ y = 2 ∨ 2 < y by omega) with rfl | rfl | rfl | h3
  · go_wp2_with fail
    go_ret
    exact ⟨_, rfl, by have := ext_size t 0 k; omega, D.out⟩
  · go_upto_region 6 with fail
    obtain ⟨p, hp⟩ : ∃ p, t.extract 0 k = p := ⟨_, rfl⟩
    obtain ⟨q, hq⟩ : ∃ q, t.extract k t.size = q := ⟨_, rfl⟩
    have hpq : p.size + q.size ≤ t.size := by rw [← hp, ← hq, ByteArray.size_extract, ByteArray.size_extract]; omega
    have s1 : ¬ 9223372036854775807 < p.size + 1 := by omega
    have s2 : ¬ 9223372036854775807 < p.size + 1 + q.size := by omega
    have hne : w2.heap.size ≠ g := by have := D.out.lt; omega
    go_region_law (first
      | (go_simp; (refine (next_any g _ _ (by first | exact D.out.drew.src | exact (D.out.alloc _).drew.src)).mono ?_); rintro e cc ⟨x, rfl, hx, dx⟩; (obtain ⟨y, hy, hys⟩ := dmg_get (x := x) (by omega)); (have hx0 : (0 : Int) ≤ x := by omega); (have hx8 : (x : Int) < 8 := by omega); (have hsym : ∀ W : World, (W.alloc (.cells #[.string ⟨#[48]⟩, .string ⟨#[49]⟩, .string ⟨#[32]⟩, .string ⟨#[58]⟩, .string ⟨#[45]⟩, .string ⟨#[97]⟩, .string ⟨#[47]⟩, .string ⟨#[10]⟩] 9)).cell? ⟨W.heap.size, x, none⟩ = some (.string y) := fun W => (BlkL.new W 9 #[.string ⟨#[48]⟩, .string ⟨#[49]⟩, .string ⟨#[32]⟩, .string ⟨#[58]⟩, .string ⟨#[45]⟩, .string ⟨#[97]⟩, .string ⟨#[47]⟩, .string ⟨#[10]⟩] rfl).c x hy); (try (have kk := (BlkL.dr (BlkL.drew (BlkL.new w2 _ _ rfl)) dx hne).c x hy)); (have DD := Lib.hid (by first | exact dx.next D.out.drew | exact dx.next (D.out.alloc _).drew)); clear hx dx))
    all_goals
      go_wp2_with fail
      go_ret
      exact ⟨_, rfl, by simp only [ByteArray.size_append]; omega, by first | exact DD.out | exact DD.out.alloc _⟩
  · by_cases hlt : k < t.size
    · have hlt2 : (k : Int) < t.size := by omega
      go_upto_region 9 with fail
      obtain ⟨p, hp⟩ : ∃ p, t.extract 0 k = p := ⟨_, rfl⟩
      obtain ⟨q, hq⟩ : ∃ q, t.extract (k + 1) t.size = q := ⟨_, rfl⟩
      have hpq : p.size + q.size ≤ t.size := by rw [← hp, ← hq, ByteArray.size_extract, ByteArray.size_extract]; omega
      have s1 : ¬ 9223372036854775807 < p.size + q.size := by omega
      have hk1 : (k : Int) + 1 ≤ t.size := by omega
      have hk2 : (0 : Int) ≤ (k : Int) + 1 := by omega
      have hw : IntKind.i64.wrap ((k : Int) + 1) = (k : Int) + 1 := IntWalk.i64_in _ (by omega)
      have ht1 : ((k : Int) + 1).toNat = k + 1 := by omega
      go_quiet (fail)
      go_wp2_with fail
      go_ret
      exact ⟨_, rfl, by simp only [ByteArray.size_append]; omega, by first | exact D.out.drewN | exact D.out.drewN _⟩
    · have hlt2 : ¬ (k : Int) < t.size := by omega
      go_wp2_with fail
      go_ret
      exact ⟨_, rfl, by omega, D.out⟩
  · have e0 : ((y : Int) == 0) = false := by rw [beq_eq_false_iff_ne]; omega
    have e1 : ((y : Int) == 1) = false := by rw [beq_eq_false_iff_ne]; omega
    have e2 : ((y : Int) == 2) = false := by rw [beq_eq_false_iff_ne]; omega
    go_wp2_with fail
    go_ret
    exact ⟨_, rfl, by omega, D.out⟩
end Go.Proofs.YtojmikalnalfbaaGreatDoor
