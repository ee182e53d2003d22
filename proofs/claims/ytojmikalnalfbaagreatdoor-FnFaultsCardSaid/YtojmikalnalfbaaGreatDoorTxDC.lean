/- The walks of the reference's decimal text of a number, of its words and of the kinds' flags. Conditions: numbers not below zero. -/
import Derived.Test.YtojmikalnalfbaaGreatDoorB2
import Derived.Test.YtojmikalnalfbaaGreatDoorB1
import Derived.Test.YtojmikalnalfbaaGreatDoorB33
import Derived.Laws.IdiomStrings
import Derived.Laws.BytesString
import Derived.Laws.Concat
import Derived.Deep.RegionLaw
import Derived.Handy
import Derived.IntWalk
namespace Go.Proofs.YtojmikalnalfbaaGreatDoor
open Go.Lib Go.RowKit

theorem str_app (a b : List UInt8) : (⟨a.toArray⟩ : ByteArray) ++ ⟨b.toArray⟩ = ⟨(a ++ b).toArray⟩ := ByteArray.mk_append_mk a b
theorem byte_of {d : Nat} (h : d < 10) : UInt8.ofNat (48 + (d : Int)).toNat = UInt8.ofNat (48 + d) := by
  rw [show (48 + (d : Int)).toNat = 48 + d by omega]

theorem keq_cases (k c : Int) : ((k == c) = true ∧ k = c) ∨ ((k == c) = false ∧ k ≠ c) := by
  by_cases h : k = c <;> simp [h]
set_option maxHeartbeats 1000000 in
theorem kflags_any (k : Int) (w : World) : Calls Tryz.prog 48 #[.int .i64 k] w (RetV w (.tuple #[.bool (hasLen k), .bool (hasVal k)])) := by
  rcases keq_cases k 2 with ⟨h2, h2'⟩ | ⟨h2, h2'⟩
  · subst h2'
    go_enter Tryz.func48, Tryz.ntmps48
    go_wp2
    go_ret2
    exact ⟨rfl, by go_grown⟩
  rcases keq_cases k 3 with ⟨h3, h3'⟩ | ⟨h3, h3'⟩
  · subst h3'
    go_enter Tryz.func48, Tryz.ntmps48
    go_wp2
    go_ret2
    exact ⟨rfl, by go_grown⟩
  rcases keq_cases k 4 with ⟨h4, h4'⟩ | ⟨h4, h4'⟩
  · subst h4'
    go_enter Tryz.func48, Tryz.ntmps48
    go_wp2
    go_ret2
    exact ⟨rfl, by go_grown⟩
  rcases keq_cases k 6 with ⟨h6, h6'⟩ | ⟨h6, h6'⟩
  · subst h6'
    go_enter Tryz.func48, Tryz.ntmps48
    go_wp2
    go_ret2
    exact ⟨rfl, by go_grown⟩
  have e1 : hasLen k = false := by simp [hasLen, h2', h3', h4', h6']
  have e2 : hasVal k = false := by simp [hasVal, h4', h6']
  rw [e1, e2]
  clear e1 e2 h2' h3' h4' h6'
  go_enter Tryz.func48, Tryz.ntmps48
  go_wp2
  go_ret2
  exact ⟨rfl, by go_grown⟩

/-- the words as cells -/
def wordCells : List Value := [.string ⟨#[102, 108, 105, 112]⟩, .string ⟨#[105, 110, 118, 101, 114, 116]⟩, .string ⟨#[100, 114, 111, 112]⟩, .string ⟨#[105, 110, 115, 101, 114, 116]⟩, .string ⟨#[115, 105, 108, 101, 110, 99, 101]⟩, .string ⟨#[114, 101, 112, 108, 97, 99, 101]⟩]
theorem wordCells_get {j : Nat} (h : j < 6) : wordCells[j]? = some (.string ⟨(fword ((j : Int) + 1)).toArray⟩) := by
  have hc : j = 0 ∨ j = 1 ∨ j = 2 ∨ j = 3 ∨ j = 4 ∨ j = 5 := by omega
  rcases hc with rfl | rfl | rfl | rfl | rfl | rfl <;> rfl
set_option maxHeartbeats 1000000 in
theorem words_any (w : World) : Calls Tryz.prog 46 #[] w fun e w' => ∃ b, e = .returned (.slice (some ⟨b, 0, none⟩) 6 6) ∧ BlkL w' b 9 wordCells ∧ Below w.heap.size w w' := by
  go_enter Tryz.func46, Tryz.ntmps46
  go_wp2
  go_ret
  exact ⟨_, rfl, BlkL.new w _ _ rfl, below_alloc (Below.refl _ _) (Nat.le_refl _) _⟩

theorem conv1 (w : World) (b : Nat) (x : Int) (h : w.cell? ⟨b, 0, none⟩ = some (.int .u8 x)) :
    Sem.run Tryz.prog (convert 22 9 (.slice (some ⟨b, 0, none⟩) 1 1)) w = .ok (.string ⟨#[UInt8.ofNat x.toNat]⟩) w := by
  have := run_convert_bytes_arg (P := Tryz.prog) w 22 5 Tryz.underlying22 Tryz.underlying5 b 0 1 1 [x] rfl (fun i hi => by
    have : i = 0 := by omega
    subst this; exact h) 9 Tryz.underlying9
  rw [this]; rfl

set_option maxRecDepth 20000 in
set_option maxHeartbeats 4000000 in
theorem l01Dec_any (k : Nat) : ∀ (u : Nat) (w : World), u ≤ k → u < 9223372036854775808 →
    Calls Tryz.prog 47 #[.int .i64 (u : Int)] w (RetV w (.string ⟨(decDigits u).toArray⟩)) := by
  have hcv := conv1
  induction k with
  | zero =>
    intro u w hk _
    have hu : u = 0 := by omega
    subst hu
    go_enter Tryz.func47, Tryz.ntmps47
    go_wp2_with fail
    go_ret
    exact ⟨by rw [dec_small (by omega)]; rfl, by go_grown⟩
  | succ k ih =>
    intro u w hk hu
    by_cases hlt : u < 10
    · go_enter Tryz.func47, Tryz.ntmps47
      go_wp2_with fail
      go_ret
      exact ⟨by rw [dec_small hlt, ← byte_of hlt]; rfl, by go_grown⟩
    · obtain ⟨q, hq⟩ : ∃ q, u / 10 = q := ⟨_, rfl⟩
      obtain ⟨r, hr⟩ : ∃ r, u % 10 = r := ⟨_, rfl⟩
      have hr10 : r < 10 := by omega
      have hd : decDigits u = decDigits q ++ [UInt8.ofNat (48 + r)] := by rw [dec_big hlt, hq, hr]
      have hw1 : IntKind.i64.wrap ((u : Int) / 10) = (q : Int) := by rw [IntWalk.i64_in _ (by omega)]; omega
      have hw2 : ((u : Int)).tmod 10 = (r : Int) := by rw [Int.tmod_eq_emod_of_nonneg (by omega)]; omega
      have hnd : ¬ 9223372036854775807 < (decDigits q).length + 1 := by have := dec_len_20 (u := q) (by omega); rw [decDigits_length]; omega
      have hr11 : (r : Int) < 10 := by omega
      have hr12 : (0 : Int) ≤ r := by omega
      have hw3 : IntKind.i64.wrap (48 + (r : Int)) = 48 + (r : Int) := IntWalk.i64_in _ (by omega)
      have hw4 : IntKind.u8.wrap (48 + (r : Int)) = 48 + (r : Int) := by rw [IntKind.wrap_u8]; omega
      have hql : q < 9223372036854775808 := by omega
      have hqk : q ≤ k := by omega
      have HD := Lib.hid (show Ending.returned (Value.string (⟨(decDigits q).toArray⟩ ++ ⟨#[UInt8.ofNat (48 + (r : Int)).toNat]⟩)) = Ending.returned (Value.string ⟨(decDigits u).toArray⟩) by rw [hd, byte_of hr10, ← str_app])
      have HI := Lib.hid (ih q)
      clear ih hd hq hr
      go_enter Tryz.func47, Tryz.ntmps47
      go_wp2_with fail
      go_region_law (first | (go_simp; (refine (HI.out _ hqk hql).mono ?_); rintro e cc ⟨rfl, hb⟩; (try (have kk := (BlkL.next hb (BlkL.new _ _ _ rfl)).c 0 rfl))))
      all_goals
        go_wp2_with fail
        go_ret
        refine ⟨HD.out, ?_⟩
        first
        | exact below_next hb (Below.refl _ _).drew (Nat.le_refl _)
        | exact below_next hb (below_alloc (Below.refl _ _) (Nat.le_refl _) _).drew (by simp)
        | (have hb2 := below_next hb (Below.refl _ _).drew (Nat.le_refl _); exact below_alloc hb2 (Nat.le_refl _) _)
end Go.Proofs.YtojmikalnalfbaaGreatDoor
