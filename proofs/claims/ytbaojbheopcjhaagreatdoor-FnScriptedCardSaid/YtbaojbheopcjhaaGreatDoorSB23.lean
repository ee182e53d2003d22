/- Walks, laws and small notions for the claims of this seat, several texts as one (PlainDec, DecS, DecR, DecC, Pre, DecI, DecJ, PreI). Conditions: as each theorem states them. -/
import Derived.Test.YtbaojbheopcjhaaGreatDoorB1
import Derived.Test.YtbaojbheopcjhaaGreatDoorB2
import Derived.Deep.RegionHeld3
import Derived.Laws.AppendOwnNone
namespace Go.Proofs.YtbaojbheopcjhaaGreatDoor

end Go.Proofs.YtbaojbheopcjhaaGreatDoor

namespace Go.Proofs.YtbaojbheopcjhaaGreatDoor
open Go.RowKit

end Go.Proofs.YtbaojbheopcjhaaGreatDoor

namespace Go.Proofs.YtbaojbheopcjhaaGreatDoor
open Go.RowKit

end Go.Proofs.YtbaojbheopcjhaaGreatDoor

namespace Go.Proofs.YtbaojbheopcjhaaGreatDoor
open Go.RowKit

end Go.Proofs.YtbaojbheopcjhaaGreatDoor

namespace Go.Proofs.YtbaojbheopcjhaaGreatDoor
open Go.RowKit

namespace PreambleOf
end PreambleOf
end Go.Proofs.YtbaojbheopcjhaaGreatDoor

namespace Go.Proofs.YtbaojbheopcjhaaGreatDoor
open Go.RowKit

end Go.Proofs.YtbaojbheopcjhaaGreatDoor

namespace Go.Proofs.YtbaojbheopcjhaaGreatDoor
open Go.RowKit

end Go.Proofs.YtbaojbheopcjhaaGreatDoor

namespace Go.Proofs.YtbaojbheopcjhaaGreatDoor
open Go.RowKit

set_option maxHeartbeats 1000000 in
theorem l01Own_any (A : Option Addr) (n c : Nat) (zs : List Int) (w : World) (h : RI w w.heap.size A n zs) (hn : n ≤ 1099511627776) (hA : A = none → c = 0) :
    Calls Tryz.prog 63 #[.slice A n c] w (RetI 2 w n zs) := by
  obtain ⟨i, hi, hz, hs1, hb1⟩ := info_split infoInt
  have hb0 : Below w.heap.size w (w.alloc (.cells #[] 2)) := (Below.refl _ _).alloc (Nat.le_refl _) _
  have hown0 : OwnI 2 (w.alloc (.cells #[] 2)) w.heap.size (some ⟨w.heap.size, 0, none⟩) 0 0 [] := OwnI.empty w (Nat.le_refl _)
  by_cases h0 : 0 < n
  · obtain ⟨b, o, rfl, hbl, hc⟩ := (h.below hb0 (Nat.le_refl _)).get h0
    have hL := h.len
    go_enter Tryz.func63, Tryz.ntmps63
    go_wp2_with (at_builtin; refine wpList_append_own _ rfl _ _ 31 rfl w.heap.size 2 i (.int .i64 0) 1 8 Tryz.underlying31 hi hz hs1 hb1 rfl (by omega) _ 0 _ rfl hown0 ⟨b, o, none⟩ n c (zs.map (Value.int .i64)) rfl (by rw [List.length_map, hL, Nat.mul_one]) (by intro j u hu; rw [Go.WideShapes.add_plain]; rw [List.getElem?_map] at hu; rcases Nat.lt_or_ge j n with hj | hj; (rw [gi_some (by rw [hL]; exact hj)] at hu; obtain rfl := Option.some.inj hu; exact hc j hj); (rw [List.getElem?_eq_none (by rw [hL]; exact hj)] at hu; cases hu)) (by intro u hu; obtain ⟨z, _, rfl⟩ := List.mem_map.1 hu; rfl) (by simp only [maxLen]; omega) (by omega) (by simp) ?_; intro v' w2 hown2 hg2 _)
    rw [Nat.zero_add, List.map_nil, List.nil_append] at hown2
    rcases hown2.2 with ⟨h1, h2⟩ | ⟨g, cap, cur, hv, hrest⟩
    · omega
    subst hv
    go_wp2
    go_ret
    exact ⟨_, _, rfl, hown2, hb0.grown hg2 (by simp) (fun g e => (own_row hown0 g e).1)⟩
  · obtain rfl : n = 0 := by omega
    obtain rfl : zs = [] := List.length_eq_zero_iff.1 h.len
    rcases A with _ | ad
    · obtain rfl := hA rfl
      go_enter Tryz.func63, Tryz.ntmps63
      go_wp2_with (at_builtin; refine wpList_append_own_none rfl _ _ 31 rfl w.heap.size 2 i 1 Tryz.underlying31 hi _ 0 _ rfl hown0 rfl ?_)
      go_wp2
      go_ret
      exact ⟨_, _, rfl, hown0, hb0⟩
    · go_enter Tryz.func63, Tryz.ntmps63
      go_wp2_with (at_builtin; refine wpList_append_own _ rfl _ _ 31 rfl w.heap.size 2 i (.int .i64 0) 1 8 Tryz.underlying31 hi hz hs1 hb1 rfl (by omega) _ 0 _ rfl hown0 ad 0 c [] rfl rfl (by intro j u hu; simp at hu) (by intro u hu; simp at hu) (by simp only [maxLen]; omega) (by omega) (by simp) ?_; intro v' w2 hown2 hg2 hiff)
      rw [Nat.zero_add, List.map_nil, List.append_nil] at hown2
      have hbw := hb0.grown hg2 (by simp) (fun g e => (own_row hown0 g e).1)
      rcases hown2.2 with ⟨h1, h2⟩ | ⟨g, cap, cur, hv, hrest⟩
      · subst h1
        go_wp2
        go_ret
        exact ⟨_, _, rfl, hown2, hbw⟩
      · subst hv
        go_wp2
        go_ret
        exact ⟨_, _, rfl, hown2, hbw⟩

theorem own_none {T : TypeId} {w : World} {base n c : Nat} {A : Option Addr} {zs : List Int} (h : OwnI T w base A n c zs) : A = none → c = 0 := by
  rintro rfl
  rcases h.2 with ⟨h1, h2⟩ | ⟨g, cap, cur, hv, _⟩
  · injection h1
  · injection hv with h1; cases h1

namespace EdgesOfBytes
end EdgesOfBytes
end Go.Proofs.YtbaojbheopcjhaaGreatDoor
