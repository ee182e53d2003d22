/- Walks, laws and small notions for the claims of this seat, several texts as one (Rep). Conditions: as each theorem states them. -/
import Derived.Test.YtbaojbheopcjhaaGreatDoorB2
import Derived.Test.YtbaojbheopcjhaaGreatDoorB1
namespace Go.Proofs.YtbaojbheopcjhaaGreatDoor
open Go.RowKit
theorem rep_succ (v : Int) (k : Nat) : List.replicate (k + 1) v = List.replicate k v ++ [v] := List.replicate_succ'

set_option maxHeartbeats 1000000 in
theorem l20Equal_any (n : Nat) (v : Int) (w : World) (hn : n ≤ 1048576) :
    Calls Tryz.prog 43 #[.int .i64 n, .int .i64 v] w (RetI 2 w n (List.replicate n v)) := by
  go_enter Tryz.func43, Tryz.ntmps43
  go_wp2
  go_loopw [0, 5] (fun i o wr => ∃ (j k : Nat) (A' : Option Addr) (c' : Nat), j + k = n ∧ i = .int .i64 j ∧ o = .slice A' k c' ∧ OwnI 2 wr w.heap.size A' k c' (List.replicate k v) ∧ Below w.heap.size w wr) (fun i _ _ => (intOf i).toNat)
  case atStart => exact ⟨n, 0, some ⟨w.heap.size, 0, none⟩, 0, by omega, rfl, rfl, OwnI.empty _ (Nat.le_refl _), (Below.refl _ _).alloc (Nat.le_refl _) _⟩
  case round =>
    obtain ⟨j, k, A', c', hjk, rfl, rfl, hown, hb⟩ := hrel
    by_cases hlt : 0 < j
    · go_wp2_with (at_builtin; refine wpl_appI _ _ Tryz.underlying31 infoInt rfl _ _ rfl w.heap.size _ k _ _ rfl hown v rfl (by omega) hb.size ?_; intro A2 c2 w2 hown2 hB2 hg2)
      go_roundw
      case rel => exact ⟨j - 1, k + 1, A2, c2, by omega, by congr 1; omega, rfl, by rw [rep_succ]; exact hown2, hb.trans (hB2 _ (Nat.le_refl _))⟩
      case measure => simp [intOf]; omega
    · obtain rfl : j = 0 := by omega
      obtain rfl : k = n := by omega
      go_wp2
      go_ret
      exact ⟨A', c', rfl, hown, hb⟩

set_option maxHeartbeats 1000000 in
theorem repeat_any (n : Nat) (v : Int) (w : World) (hn : n ≤ 1048576) :
    Calls Tryz.prog 69 #[.slice none 0 0, .int .i64 v, .int .i64 n] w (RetI 2 w n (List.replicate n v)) := by
  go_enter Tryz.func69, Tryz.ntmps69
  go_wp2
  go_loopw [0, 8] (fun o i wr => ∃ (k m : Nat) (A' : Option Addr) (c' : Nat), k ≤ n ∧ m = k ∧ i = .int .i64 k ∧ o = .slice A' m c' ∧ OwnI 2 wr w.heap.size A' m c' (List.replicate k v) ∧ Below w.heap.size w wr) (fun _ i _ => n - (intOf i).toNat)
  case atStart => exact ⟨0, 0, none, 0, by omega, rfl, rfl, rfl, OwnI.nil _ _ _, Below.refl _ _⟩
  case round =>
    obtain ⟨k, m, A', c', hk, hmk, rfl, rfl, hown, hb⟩ := hrel
    have HM := Lib.hid hmk
    have hm9 : m ≤ 1048576 := by omega
    clear hmk
    by_cases hlt : k < n
    · go_wp2_with (at_builtin; refine wpl_appI _ _ Tryz.underlying31 infoInt rfl _ _ rfl w.heap.size _ m _ _ rfl hown v rfl (by omega) hb.size ?_; intro A2 c2 w2 hown2 hB2 hg2)
      go_roundw
      case rel => exact ⟨k + 1, m + 1, A2, c2, by omega, by rw [HM.out], by go_num, rfl, by rw [rep_succ]; exact hown2, hb.trans (hB2 _ (Nat.le_refl _))⟩
      case measure => simp [intOf]; omega
    · obtain rfl : k = n := by omega
      obtain rfl := HM.out
      go_wp2
      go_ret
      exact ⟨A', c', rfl, hown, hb⟩
end Go.Proofs.YtbaojbheopcjhaaGreatDoor
