/- The walks of PreambleOf and EdgesOfBytes, of the program, and of EdgesOfBytes, of the reference. Conditions: lists of at most 2^20 numbers. -/
import Derived.Test.YtlfbmedgkkfalaaDecJ
import Derived.Laws.AppendOwnNone
namespace Go.Proofs.Ytlfbmedgkkfalaa
open Go.RowKit

namespace PreambleOf
set_option maxHeartbeats 2000000 in
theorem impl_any (A : Option Addr) (n c : Nat) (zs : List Int) (w : World) (h : RI w w.heap.size A n zs) (_ : n ≤ 1099511627776) (hn : n ≤ 1048576) :
    Calls Try.prog 49 #[.slice A n c] w (RetV w (.tuple #[.int .i64 (prA zs), .int .i64 (cod zs)])) := by
  obtain ⟨d, hd⟩ : ∃ d, decZ zs = d := ⟨_, rfl⟩
  obtain ⟨dc, dp, de⟩ := d
  have E1 := Lib.hid (show prA zs = if dc = 0 then dp else 0 from by unfold prA; rw [hd])
  have E2 := Lib.hid (show cod zs = dc from by unfold cod; rw [hd])
  rcases ne_cases dc with rfl | ⟨h1, h2, h3⟩
  all_goals
    go_enter Try.func49, Try.ntmps49
    go_wp2_with fail
    refine (decodeVoted_any A n c zs _ h hn).mono ?_
    rw [hd]
    clear hd
    rintro e w1 ⟨pv, rfl, hb1, hres⟩
    dsimp only
  · obtain ⟨A', m, c', rfl, hblk, _⟩ := hres rfl
    have k1 := hblk.c1
    go_wp2
    go_ret2
    rw [E1.out, E2.out]
    exact ⟨by rw [if_pos trivial]; rfl, hb1⟩
  · clear hres
    go_wp2
    go_ret2
    rw [E1.out, E2.out]
    exact ⟨by rw [if_neg h1]; rfl, hb1⟩
end PreambleOf

set_option maxHeartbeats 1000000 in
theorem l01Own_any (A : Option Addr) (n c : Nat) (zs : List Int) (w : World) (h : RI w w.heap.size A n zs) (hn : n ≤ 1099511627776) (hA : A = none → c = 0) :
    Calls Try.prog 190 #[.slice A n c] w (RetI 2 w n zs) := by
  obtain ⟨i, hi, hz, hs1, hb1⟩ := info_split infoInt
  have hb0 : Below w.heap.size w (w.alloc (.cells #[] 2)) := (Below.refl _ _).alloc (Nat.le_refl _) _
  have hown0 : OwnI 2 (w.alloc (.cells #[] 2)) w.heap.size (some ⟨w.heap.size, 0, none⟩) 0 0 [] := OwnI.empty w (Nat.le_refl _)
  by_cases h0 : 0 < n
  · obtain ⟨b, o, rfl, hbl, hc⟩ := (h.below hb0 (Nat.le_refl _)).get h0
    have hL := h.len
    go_enter Try.func190, Try.ntmps190
    go_wp2_with (at_builtin; refine wpList_append_own _ rfl _ _ 24 rfl w.heap.size 2 i (.int .i64 0) 1 8 Try.underlying24 hi hz hs1 hb1 rfl (by omega) _ 0 _ rfl hown0 ⟨b, o, none⟩ n c (zs.map (Value.int .i64)) rfl (by rw [List.length_map, hL, Nat.mul_one]) (by intro j u hu; rw [Go.WideShapes.add_plain]; rw [List.getElem?_map] at hu; rcases Nat.lt_or_ge j n with hj | hj; (rw [gi_some (by rw [hL]; exact hj)] at hu; obtain rfl := Option.some.inj hu; exact hc j hj); (rw [List.getElem?_eq_none (by rw [hL]; exact hj)] at hu; cases hu)) (by intro u hu; obtain ⟨z, _, rfl⟩ := List.mem_map.1 hu; rfl) (by simp only [maxLen]; omega) (by omega) (by simp) ?_; intro v' w2 hown2 hg2 _)
    rw [Nat.zero_add, List.map_nil, List.nil_append] at hown2
    rcases hown2.2 with ⟨h1, h2⟩ | ⟨g, cap, cur, hv, hrest⟩
    · omega
    subst hv
    go_wp2
    go_ret
    exact ⟨_, _, rfl, hown2, hb0.grown hg2 (by simp) (fun g e => (own_row hown0 g e).1)⟩
  · obtain rfl : n = 0 := by omega
    obtain rfl : zs = [] := List.length_eq_zero_iff.1 h.len
    rcases A with _ | ad
    · obtain rfl := hA rfl
      go_enter Try.func190, Try.ntmps190
      go_wp2_with (at_builtin; refine wpList_append_own_none rfl _ _ 24 rfl w.heap.size 2 i 1 Try.underlying24 hi _ 0 _ rfl hown0 rfl ?_)
      go_wp2
      go_ret
      exact ⟨_, _, rfl, hown0, hb0⟩
    · go_enter Try.func190, Try.ntmps190
      go_wp2_with (at_builtin; refine wpList_append_own _ rfl _ _ 24 rfl w.heap.size 2 i (.int .i64 0) 1 8 Try.underlying24 hi hz hs1 hb1 rfl (by omega) _ 0 _ rfl hown0 ad 0 c [] rfl rfl (by intro j u hu; simp at hu) (by intro u hu; simp at hu) (by simp only [maxLen]; omega) (by omega) (by simp) ?_; intro v' w2 hown2 hg2 hiff)
      rw [Nat.zero_add, List.map_nil, List.append_nil] at hown2
      have hbw := hb0.grown hg2 (by simp) (fun g e => (own_row hown0 g e).1)
      rcases hown2.2 with ⟨h1, h2⟩ | ⟨g, cap, cur, hv, hrest⟩
      · subst h1
        go_wp2
        go_ret
        exact ⟨_, _, rfl, hown2, hbw⟩
      · subst hv
        go_wp2
        go_ret
        exact ⟨_, _, rfl, hown2, hbw⟩

theorem own_none {T : TypeId} {w : World} {base n c : Nat} {A : Option Addr} {zs : List Int} (h : OwnI T w base A n c zs) : A = none → c = 0 := by
  rintro rfl
  rcases h.2 with ⟨h1, h2⟩ | ⟨g, cap, cur, hv, _⟩
  · injection h1
  · injection hv with h1; cases h1

namespace EdgesOfBytes
def res (zs : List Int) : List Int := if (decZ zs).code = 0 then (decZ zs).edges else []
def cod (zs : List Int) : Int := (decZ zs).code

theorem edg_len {zs : List Int} : ∀ (m f : Nat) (r : List Int × Nat), zs.length - f ≤ m → f < zs.length → edg zs f = some r → r.1.length + f ≤ zs.length := by
  intro m
  induction m with
  | zero => intro f r hm hf; omega
  | succ m ih =>
    intro f r hm hf he
    by_cases h : smp zs (f + 76) = 0
    · rw [edg_end h] at he
      obtain rfl := Option.some.inj he
      show 1 + f ≤ _
      omega
    · cases hg : nxt zs 0 (f + 77) with
      | none => rw [edg_none h hg] at he; cases he
      | some g =>
        have hgn := nxt_le hg
        by_cases hf2 : f + 84 < g
        · rw [edg_far h hg hf2] at he; cases he
        · rw [edg_go h hg hf2] at he
          cases hx : edg zs g with
          | none => rw [hx] at he; cases he
          | some x =>
            rw [hx] at he
            obtain rfl := Option.some.inj he
            have := ih g x (by omega) hgn.2.1 hx
            show x.1.length + 1 + f ≤ _
            omega
theorem decP_len (zs : List Int) : (decP zs).edges.length ≤ zs.length := by
  unfold decP
  split
  · simp
  · unfold decA
    split
    · unfold decH
      split
      · simp
      · rename_i f hf
        split
        · simp
        · unfold decF
          split
          · simp
          · split
            · simp
            · rename_i r hr
              have := edg_len _ f r (Nat.le_refl _) (nxt_bound hf) hr
              show r.1.length ≤ _
              omega
    · simp
theorem decZ_len (zs : List Int) : (decZ zs).edges.length ≤ zs.length := by
  unfold decZ
  split
  · exact decP_len zs
  · simp
theorem res_len (zs : List Int) : (res zs).length ≤ zs.length := by
  unfold res
  split
  · exact decZ_len zs
  · simp

set_option maxHeartbeats 2000000 in
theorem spec_any (A : Option Addr) (n c : Nat) (zs : List Int) (w : World) (h : RI w w.heap.size A n zs) (_ : n ≤ 1099511627776) (hn : n ≤ 1048576) :
    Calls Try.prog 104 #[.slice A n c] w (RetIC 2 w (res zs) (cod zs)) := by
  have hl := decZ_len zs
  rw [h.len] at hl
  obtain ⟨d, hd⟩ : ∃ d, decZ zs = d := ⟨_, rfl⟩
  rw [hd] at hl
  obtain ⟨dc, dp, de⟩ := d
  have E1 := Lib.hid (show res zs = if dc = 0 then de else [] from by unfold res; rw [hd])
  have E2 := Lib.hid (show cod zs = dc from by unfold cod; rw [hd])
  rcases ne_cases dc with rfl | ⟨h1, h2, h3⟩
  all_goals
    go_enter Try.func104, Try.ntmps104
    go_wp2_with fail
    refine (l23Code_any A n c zs _ h hn).mono ?_
    rw [hd]
    clear hd
    rintro e w1 ⟨A1, n1, c1, q, rfl, hown1, hb1⟩
    dsimp only at hown1 hl ⊢
  · have hn1 : n1 ≤ 1048576 := by rw [← hown1.len]; omega
    have hownA := hown1.alloc (.cells #[.int .i64 dp, .slice A1 n1 c1, .int .i64 q] 156)
    go_wp2_with fail
    refine (l01Own_any A1 n1 c1 de _ hownA.reads (by omega) (own_none hown1)).mono ?_
    rintro e w2 ⟨A2, c2, rfl, hown2, hb2⟩
    go_wp2
    go_ret2
    rw [E1.out, E2.out, if_pos trivial]
    exact ⟨_, _, _, rfl, hown2.weaken (Nat.le_trans hb1.size (by simp)), below_next hb2 (below_alloc hb1 (Nat.le_refl _) _) (Nat.le_refl _)⟩
  · go_wp2
    go_ret2
    rw [E1.out, E2.out, if_neg h1]
    exact ⟨none, 0, 0, rfl, OwnI.nil _ _ _, below_alloc hb1 (Nat.le_refl _) _⟩

set_option maxHeartbeats 2000000 in
theorem impl_any (A : Option Addr) (n c : Nat) (zs : List Int) (w : World) (h : RI w w.heap.size A n zs) (_ : n ≤ 1099511627776) (hn : n ≤ 1048576) :
    Calls Try.prog 50 #[.slice A n c] w (RetIC 2 w (res zs) (cod zs)) := by
  obtain ⟨d, hd⟩ : ∃ d, decZ zs = d := ⟨_, rfl⟩
  obtain ⟨dc, dp, de⟩ := d
  have E1 := Lib.hid (show res zs = if dc = 0 then de else [] from by unfold res; rw [hd])
  have E2 := Lib.hid (show cod zs = dc from by unfold cod; rw [hd])
  rcases ne_cases dc with rfl | ⟨h1, h2, h3⟩
  all_goals
    go_enter Try.func50, Try.ntmps50
    go_wp2_with fail
    refine (decodeVoted_any A n c zs _ h hn).mono ?_
    rw [hd]
    clear hd
    rintro e w1 ⟨pv, rfl, hb1, hres⟩
    dsimp only
  · obtain ⟨A', m, c', rfl, hblk, hown⟩ := hres rfl
    have k2 := hblk.c2
    go_wp2
    go_ret2
    rw [E1.out, E2.out, if_pos trivial]
    exact ⟨_, _, _, rfl, hown.weaken (Nat.le_succ _), hb1⟩
  · clear hres
    go_wp2
    go_ret2
    rw [E1.out, E2.out, if_neg h1]
    exact ⟨none, 0, 0, rfl, OwnI.nil _ _ _, hb1⟩
end EdgesOfBytes
end Go.Proofs.Ytlfbmedgkkfalaa
