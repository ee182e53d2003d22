/- The walks of FlipScript, of the program and the reference. Conditions: lists of at most 2^40 numbers. -/
import Derived.Test.YtdbfnldjibjbkaaRise
import Derived.Test.YtdbfnldjibjbkaaFaultS
import Derived.Test.YtdbfnldjibjbkaaKit5
namespace Go.Proofs.Ytdbfnldjibjbkaa
open Go.RowKit
namespace FlipScript
def flt (z : Int) : Flt := ⟨1, z, 0, 0⟩
def res (zs : List Int) : List Flt := if rises zs 8193 = true ∧ zs.length ≤ 30 then zs.map flt else []
def cod (zs : List Int) : Int := if rises zs 8193 then (if zs.length ≤ 30 then 0 else 3) else 2
theorem res_len (zs : List Int) : (res zs).length ≤ zs.length := by unfold res; split <;> simp
theorem map_take {zs : List Int} {k : Nat} (h : k < zs.length) : (zs.take (k + 1)).map flt = (zs.take k).map flt ++ [flt (gi zs k)] := by
  rw [take_gi h, List.map_append]; rfl

set_option maxHeartbeats 2000000 in
theorem spec_any (A : Option Addr) (n c : Nat) (zs : List Int) (w : World) (h : RI w w.heap.size A n zs) (hn : n ≤ 1099511627776) :
    Calls Try.prog 44 #[.slice A n c] w (RetEC encF 4 41 w (res zs) (cod zs)) := by
  have L := Lib.hid h.len
  rcases bool_cases (rises zs 8193) with hz | hz
  case inr =>
    have E1 := Lib.hid (show res zs = [] from by simp [res, hz])
    have E2 := Lib.hid (show cod zs = 2 from by simp [cod, hz])
    go_enter Try.func44, Try.ntmps44
    go_wp2_with fail
    refine (l01Rises_any _ _ _ zs _ _ h hn (by omega) (by omega)).mono ?_
    rintro e w1 ⟨rfl, hb1⟩
    go_wp2
    go_ret2
    exact ⟨none, 0, 0, by rw [E2.out]; rfl, by rw [E1.out]; exact OwnE.nil _ _ _ _ _, hb1⟩
  by_cases hl : n ≤ 30
  case neg =>
    have E1 := Lib.hid (show res zs = [] from by simp [res, hz, L.out, hl])
    have E2 := Lib.hid (show cod zs = 3 from by simp [cod, hz, L.out, hl])
    go_enter Try.func44, Try.ntmps44
    go_wp2_with fail
    refine (l01Rises_any _ _ _ zs _ _ h hn (by omega) (by omega)).mono ?_
    rintro e w1 ⟨rfl, hb1⟩
    go_wp2
    go_ret2
    exact ⟨none, 0, 0, by rw [E2.out]; rfl, by rw [E1.out]; exact OwnE.nil _ _ _ _ _, hb1⟩
  have E1 := Lib.hid (show zs.map flt = res zs from by simp [res, hz, L.out, hl])
  have E2 := Lib.hid (show cod zs = 0 from by simp [cod, hz, L.out, hl])
  go_enter Try.func44, Try.ntmps44
  go_wp2_with fail
  refine (l01Rises_any _ _ _ zs _ _ h hn (by omega) (by omega)).mono ?_
  rintro e w1 ⟨rfl, hb1⟩
  go_wp2
  go_loopw [4, 5] (fun o i wr => ∃ (k m : Nat) (A' : Option Addr) (c' : Nat), k ≤ n ∧ m = k ∧ i = .int .i64 k ∧ o = .slice A' m c' ∧ OwnE encF 4 41 wr w.heap.size A' m c' ((zs.take k).map flt) ∧ Below w.heap.size w wr) (fun _ i _ => n - (intOf i).toNat)
  case atStart => exact ⟨0, 0, some ⟨w1.heap.size, 0, none⟩, 0, Nat.zero_le _, rfl, rfl, rfl, OwnE.empty _ hb1.size, hb1.alloc hb1.size _⟩
  case round =>
    obtain ⟨k, m, A', c', hk, hmk, rfl, rfl, hown, hb⟩ := hrel
    have HM := Lib.hid hmk
    have hm30 : m ≤ 30 := by omega
    clear hmk
    by_cases hlt : k < n
    · obtain ⟨b, o, rfl, hbl, hc⟩ := (h.below hb (Nat.le_refl _)).get (by omega)
      have hcell := hc k hlt
      clear hc
      go_wp2_with (at_builtin; refine wpl_appF _ _ Try.underlying35 infoFault rfl _ _ rfl w.heap.size _ m _ _ rfl hown (flt (gi zs k)) rfl (by omega) hb.size ?_; intro A2 c2 w2 hown2 hB2 hg2)
      go_roundw
      case rel => exact ⟨k + 1, m + 1, A2, c2, by omega, by rw [HM.out], by go_num, rfl, by rw [map_take (by rw [L.out]; exact hlt)]; exact hown2, hb.trans (hB2 _ (Nat.le_refl _))⟩
      case measure => simp [intOf]; omega
    · have hkn : k = n := by omega
      have HK := Lib.hid hkn
      clear hkn
      go_wp2
      go_ret2
      refine ⟨_, _, _, by rw [E2.out]; rfl, ?_, hb⟩
      rw [← E1.out]
      rw [HK.out, List.take_of_length_le (by rw [L.out]; exact Nat.le_refl _)] at hown
      exact hown

set_option maxHeartbeats 2000000 in
theorem impl_any (A : Option Addr) (n c : Nat) (zs : List Int) (w : World) (h : RI w w.heap.size A n zs) (hn : n ≤ 1099511627776) :
    Calls Try.prog 45 #[.slice A n c] w (RetEC encF 4 41 w (res zs) (cod zs)) := by
  have L := Lib.hid h.len
  rcases bool_cases (rises zs 8193) with hz | hz
  case inr =>
    have E1 := Lib.hid (show res zs = [] from by simp [res, hz])
    have E2 := Lib.hid (show cod zs = 2 from by simp [cod, hz])
    go_enter Try.func45, Try.ntmps45
    go_wp2_with fail
    refine (isRising_any _ _ _ zs _ _ h hn (by omega) (by omega)).mono ?_
    rintro e w1 ⟨rfl, hb1⟩
    go_wp2
    go_ret2
    exact ⟨none, 0, 0, by rw [E2.out]; rfl, by rw [E1.out]; exact OwnE.nil _ _ _ _ _, hb1⟩
  by_cases hl : n ≤ 30
  case neg =>
    have E1 := Lib.hid (show res zs = [] from by simp [res, hz, L.out, hl])
    have E2 := Lib.hid (show cod zs = 3 from by simp [cod, hz, L.out, hl])
    go_enter Try.func45, Try.ntmps45
    go_wp2_with fail
    refine (isRising_any _ _ _ zs _ _ h hn (by omega) (by omega)).mono ?_
    rintro e w1 ⟨rfl, hb1⟩
    go_wp2
    go_ret2
    exact ⟨none, 0, 0, by rw [E2.out]; rfl, by rw [E1.out]; exact OwnE.nil _ _ _ _ _, hb1⟩
  have E1 := Lib.hid (show zs.map flt = res zs from by simp [res, hz, L.out, hl])
  have E2 := Lib.hid (show cod zs = 0 from by simp [cod, hz, L.out, hl])
  go_enter Try.func45, Try.ntmps45
  go_wp2_with fail
  refine (isRising_any _ _ _ zs _ _ h hn (by omega) (by omega)).mono ?_
  rintro e w1 ⟨rfl, hb1⟩
  go_wp2
  go_loopw [4, 6, 16] (fun o _ i wr => ∃ (k m : Nat) (A' : Option Addr) (c' : Nat), k ≤ n ∧ m = k ∧ i = .int .i64 k ∧ o = .slice A' m c' ∧ OwnE encF 4 41 wr w.heap.size A' m c' ((zs.take k).map flt) ∧ Below w.heap.size w wr) (fun _ _ i _ => n - (intOf i).toNat)
  case atStart => exact ⟨0, 0, some ⟨w1.heap.size, 0, none⟩, 0, Nat.zero_le _, rfl, rfl, rfl, OwnE.empty _ hb1.size, hb1.alloc hb1.size _⟩
  case round =>
    obtain ⟨k, m, A', c', hk, hmk, rfl, rfl, hown, hb⟩ := hrel
    have HM := Lib.hid hmk
    have hm30 : m ≤ 30 := by omega
    clear hmk
    by_cases hlt : k < n
    · obtain ⟨b, o, rfl, hbl, hc⟩ := (h.below hb (Nat.le_refl _)).get (by omega)
      have hcell := hc k hlt
      clear hc
      go_wp2_with (at_builtin; refine wpl_appF _ _ Try.underlying35 infoFault rfl _ _ rfl w.heap.size _ m _ _ rfl hown (flt (gi zs k)) rfl (by omega) hb.size ?_; intro A2 c2 w2 hown2 hB2 hg2)
      go_roundw
      case rel => exact ⟨k + 1, m + 1, A2, c2, by omega, by rw [HM.out], by go_num, rfl, by rw [map_take (by rw [L.out]; exact hlt)]; exact hown2, hb.trans (hB2 _ (Nat.le_refl _))⟩
      case measure => simp [intOf]; omega
    · have hkn : k = n := by omega
      have HK := Lib.hid hkn
      clear hkn
      go_wp2
      go_ret2
      refine ⟨_, _, _, by rw [E2.out]; rfl, ?_, hb⟩
      rw [← E1.out]
      rw [HK.out, List.take_of_length_le (by rw [L.out]; exact Nat.le_refl _)] at hown
      exact hown
end FlipScript
end Go.Proofs.Ytdbfnldjibjbkaa
