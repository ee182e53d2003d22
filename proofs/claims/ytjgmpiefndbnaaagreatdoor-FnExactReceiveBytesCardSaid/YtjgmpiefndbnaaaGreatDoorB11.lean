/- Walks, laws and small notions for the claims of this seat, several texts as one (Sz, To, Ts, Tm, Td, Eq, VerB, VerC). Conditions: as each theorem states them. -/
import Derived.Test.YtjgmpiefndbnaaaGreatDoorB8
import Derived.Test.YtjgmpiefndbnaaaGreatDoorB3
import Derived.Test.YtjgmpiefndbnaaaGreatDoorB9
import Derived.Deep.DeepCutAuto
import Derived.Test.YtjgmpiefndbnaaaGreatDoorB1
namespace Go.Proofs.YtjgmpiefndbnaaaGreatDoor
open Go.RowKit

set_option maxHeartbeats 1000000 in
theorem szNode_any (x : Nd) (left : Int) (w : World) (hs : x.nm.size ≤ maxLen) (h1 : 0 ≤ left) (h2 : left ≤ 1099511627776) :
    Calls Tryz.prog 99 #[.agg #[.int .i64 x.id, .string x.nm, .int .i64 x.dr, .bool x.ps], .int .i64 left] w (RetV w (.int .i64 (szL x.nm.size left))) := by
  unfold maxLen at hs
  by_cases h : left - (x.nm.size : Int) < 0
  all_goals
    have E := Lib.hid (show szL x.nm.size left = if left - (x.nm.size : Int) < 0 then -1 else left - (x.nm.size : Int) from rfl)
    have H := Lib.hid h
    go_enter Tryz.func99, Tryz.ntmps99
    go_wp2
    go_ret
    exact ⟨ret_int (by rw [E.out]; first | rw [if_pos H.out] | rw [if_neg (by have := H.out; omega)]), by go_grown⟩
set_option maxHeartbeats 1000000 in
theorem szMode_any (x : Mk) (A : Option Addr) (n c : Nat) (left : Int) (w : World) (hs : n ≤ maxLen) (h1 : 0 ≤ left) (h2 : left ≤ 1099511627776) :
    Calls Tryz.prog 100 #[.agg #[.int .i64 x.rd, .int .i64 x.sl, .slice A n c], .int .i64 left] w (RetV w (.int .i64 (szL n left))) := by
  have hq := fun v => szInt64S_any A n c left v hs h1 h2
  rcases (show (left < (n : Int) ∧ szL n left = -1) ∨ ((n : Int) ≤ left ∧ szL n left = left - n) by
    by_cases hh : left < (n : Int)
    · exact Or.inl ⟨hh, szL_neg hh⟩
    · exact Or.inr ⟨by omega, szL_pos (by omega)⟩) with ⟨h, e0⟩ | ⟨h, e0⟩
  all_goals
    rw [e0] at hq
    have E := Lib.hid e0
    clear e0
    go_enter Tryz.func100, Tryz.ntmps100
    go_wp2_with fail
    refine (hq _).mono ?_
    rintro e w' ⟨rfl, rfl⟩
    go_wp2
    go_ret
    exact ⟨by rw [E.out]; rfl, by go_grown⟩
set_option maxHeartbeats 1000000 in
theorem szSlotS_any (A : Option Addr) (n c : Nat) (left : Int) (w : World) (hn : n ≤ maxLen) (h1 : 0 ≤ left) (h2 : left ≤ 1099511627776) :
    Calls Tryz.prog 50 #[.slice A n c, .int .i64 left] w fun e w' => e = .returned (.int .i64 (szL n left)) ∧ w = w' := by
  unfold maxLen at hn
  by_cases h : left - (n : Int) < 0
  all_goals
    go_enter Tryz.func50, Tryz.ntmps50
    go_wp2
    go_ret
    exact ⟨ret_int (by unfold szL; first | rw [if_pos h] | rw [if_neg (by omega)]), rfl⟩

set_option maxHeartbeats 4000000 in
theorem szNodeS_any (A : Option Addr) (n c : Nat) (l : List Nd) (left : Int) (w : World) (h : RE encNd 4 w w.heap.size A n l) (hn : n ≤ maxLen) (hs : ∀ i, i < n → (ge l i).nm.size ≤ maxLen) (h1 : 0 ≤ left) (h2 : left ≤ 1099511627776) :
    Calls Tryz.prog 48 #[.slice A n c, .int .i64 left] w fun e w' => ∃ v : Int, e = .returned (.int .i64 v) ∧ (v = -1 ∨ (0 ≤ v ∧ v ≤ left ∧ (n : Int) ≤ left ∧ ∀ i, i < n → ((ge l i).nm.size : Int) ≤ left)) ∧ Below w.heap.size w w' := by
  have hn' := hn
  unfold maxLen at hn'
  by_cases h0 : left < (n : Int)
  · go_enter Tryz.func48, Tryz.ntmps48
    go_wp2
    go_ret
    exact ⟨-1, rfl, Or.inl rfl, Below.refl _ _⟩
  go_enter Tryz.func48, Tryz.ntmps48
  go_wp2
  go_loopw [5, 1] (fun i v wr => ∃ (k : Nat) (u : Int), k ≤ n ∧ i = .int .i64 k ∧ v = .int .i64 u ∧ 0 ≤ u ∧ u ≤ left ∧ (∀ i, i < k → ((ge l i).nm.size : Int) ≤ left) ∧ Below w.heap.size w wr) (fun i _ _ => n - (intOf i).toNat)
  case atStart => exact ⟨0, _, Nat.zero_le _, rfl, rfl, by omega, by omega, fun i hi => absurd hi (by omega), Below.refl _ _⟩
  case round =>
    obtain ⟨k, u, hk, rfl, rfl, hu0, hu1, hall, hb⟩ := hrel
    have Hall := Lib.hid hall
    clear hall
    by_cases hlt : k < n
    · obtain ⟨b, o, rfl, hbl, hc⟩ := (h.below hb (Nat.le_refl _)).get (by omega)
      have hc0 := hc k hlt 0 _ rfl
      have hc1 := hc k hlt 1 _ rfl
      have hc2 := hc k hlt 2 _ rfl
      have hc3 := hc k hlt 3 _ rfl
      clear hc
      rw [Nat.add_zero] at hc0
      have hsk := hs k hlt
      go_wp2_with fail
      refine (szNode_any (ge l k) u _ hsk hu0 (by omega)).mono ?_
      by_cases hz : u - ((ge l k).nm.size : Int) < 0
      · rw [show szL (ge l k).nm.size u = -1 by unfold szL; rw [if_pos hz]]
        rintro e w1 ⟨rfl, hb1⟩
        go_wp2
        go_ret
        exact ⟨-1, rfl, Or.inl rfl, below_next hb1 hb (Nat.le_refl _)⟩
      · rw [show szL (ge l k).nm.size u = u - ((ge l k).nm.size : Int) by unfold szL; rw [if_neg hz]]
        obtain ⟨z, hzz⟩ : ∃ z, u - ((ge l k).nm.size : Int) = z := ⟨_, rfl⟩
        rw [hzz] at hz ⊢
        have HZ := Lib.hid hzz
        clear hzz
        rintro e w1 ⟨rfl, hb1⟩
        go_wp2
        go_roundw
        case rel => exact ⟨k + 1, z, by omega, by go_num, rfl, by omega, by have := HZ.out; omega, fun i hi => by
          by_cases hik : i = k
          · subst hik; have := HZ.out; omega
          · exact Hall.out i (by omega), below_next hb1 hb (Nat.le_refl _)⟩
        case measure => simp [intOf]; omega
    · have hkn : k = n := by omega
      have HK := Lib.hid hkn
      clear hkn
      go_wp2
      go_ret
      exact ⟨u, rfl, Or.inr ⟨hu0, hu1, by omega, fun i hi => Hall.out i (by have := HK.out; omega)⟩, hb⟩

set_option maxHeartbeats 4000000 in
theorem szModeS_any (A : Option Addr) (n c : Nat) (l : List Mk) (left : Int) (w : World) (h : RM w w.heap.size A n l) (hn : n ≤ maxLen) (h1 : 0 ≤ left) (h2 : left ≤ 1099511627776) :
    Calls Tryz.prog 49 #[.slice A n c, .int .i64 left] w fun e w' => ∃ v : Int, e = .returned (.int .i64 v) ∧ (v = -1 ∨ (0 ≤ v ∧ v ≤ left ∧ (n : Int) ≤ left ∧ ∀ i, i < n → ((ge l i).nx.length : Int) ≤ left)) ∧ Below w.heap.size w w' := by
  have hn' := hn
  unfold maxLen at hn'
  by_cases h0 : left < (n : Int)
  · go_enter Tryz.func49, Tryz.ntmps49
    go_wp2
    go_ret
    exact ⟨-1, rfl, Or.inl rfl, Below.refl _ _⟩
  go_enter Tryz.func49, Tryz.ntmps49
  go_wp2
  go_loopw [5, 1] (fun i v wr => ∃ (k : Nat) (u : Int), k ≤ n ∧ i = .int .i64 k ∧ v = .int .i64 u ∧ 0 ≤ u ∧ u ≤ left ∧ (∀ i, i < k → ((ge l i).nx.length : Int) ≤ left) ∧ Below w.heap.size w wr) (fun i _ _ => n - (intOf i).toNat)
  case atStart => exact ⟨0, _, Nat.zero_le _, rfl, rfl, by omega, by omega, fun i hi => absurd hi (by omega), Below.refl _ _⟩
  case round =>
    obtain ⟨k, u, hk, rfl, rfl, hu0, hu1, hall, hb⟩ := hrel
    have Hall := Lib.hid hall
    clear hall
    by_cases hlt : k < n
    · obtain ⟨b, o, A', n', c', rfl, hbl, hc0, hc1, hc2, hm', hr⟩ := (h.below hb (Nat.le_refl _)).get hlt
      have HL := Lib.hid hr.len
      clear hr
      go_wp2_with fail
      refine (szMode_any (ge l k) A' n' c' u _ hm' hu0 (by omega)).mono ?_
      by_cases hz : u - (n' : Int) < 0
      · rw [show szL n' u = -1 by unfold szL; rw [if_pos hz]]
        rintro e w1 ⟨rfl, hb1⟩
        go_wp2
        go_ret
        exact ⟨-1, rfl, Or.inl rfl, below_next hb1 hb (Nat.le_refl _)⟩
      · rw [show szL n' u = u - (n' : Int) by unfold szL; rw [if_neg hz]]
        obtain ⟨z, hzz⟩ : ∃ z, u - (n' : Int) = z := ⟨_, rfl⟩
        rw [hzz] at hz ⊢
        have HZ := Lib.hid hzz
        clear hzz
        rintro e w1 ⟨rfl, hb1⟩
        go_wp2
        go_roundw
        case rel => exact ⟨k + 1, z, by omega, by go_num, rfl, by omega, by have := HZ.out; omega, fun i hi => by
          by_cases hik : i = k
          · subst hik; have := HZ.out; have := HL.out; omega
          · exact Hall.out i (by omega), below_next hb1 hb (Nat.le_refl _)⟩
        case measure => simp [intOf]; omega
    · have hkn : k = n := by omega
      have HK := Lib.hid hkn
      clear hkn
      go_wp2
      go_ret
      exact ⟨u, rfl, Or.inr ⟨hu0, hu1, by omega, fun i hi => Hall.out i (by have := HK.out; omega)⟩, hb⟩

set_option maxHeartbeats 4000000 in
theorem szMedl_any (m : Mdv) (M : Mdl) (left : Int) (w : World) (rn : RE encNd 4 w w.heap.size m.An m.nn M.ns) (rm : RM w w.heap.size m.Am m.nm M.ms) (hnn : m.nn ≤ maxLen) (hnm : m.nm ≤ maxLen) (hns : m.ns ≤ maxLen) (hs : ∀ i, i < m.nn → (ge M.ns i).nm.size ≤ maxLen) (h1 : 0 ≤ left) (h2 : left ≤ 1099511627776) :
    Calls Tryz.prog 8 #[.agg #[.int .i64 m.id, .slice m.An m.nn m.cn, .slice m.Am m.nm m.cm, .slice m.As m.ns m.cs], .int .i64 left] w fun e w' => ∃ v : Int, e = .returned (.int .i64 v) ∧ (v = -1 ∨ (0 ≤ v ∧ v ≤ left ∧ (m.nn : Int) ≤ left ∧ (m.nm : Int) ≤ left ∧ (m.ns : Int) ≤ left ∧ (∀ i, i < m.nn → ((ge M.ns i).nm.size : Int) ≤ left) ∧ (∀ i, i < m.nm → ((ge M.ms i).nx.length : Int) ≤ left))) ∧ Below w.heap.size w w' := by
  have hns' := hns
  unfold maxLen at hns'
  obtain ⟨w0, hw0⟩ : ∃ v, v = w.alloc (.cells #[.int .i64 m.id, .slice m.An m.nn m.cn, .slice m.Am m.nm m.cm, .slice m.As m.ns m.cs] 26) := ⟨_, rfl⟩
  have hK : BlkL w0 w.heap.size 26 [.int .i64 m.id, .slice m.An m.nn m.cn, .slice m.Am m.nm m.cm, .slice m.As m.ns m.cs] := by rw [hw0]; exact BlkL.new _ _ _ rfl
  have gb : Below w.heap.size w w0 := by rw [hw0]; go_grown
  go_enter Tryz.func8, Tryz.ntmps8
  go_wp2_with fail
  rw [← hw0]
  clear hw0
  refine (szNodeS_any m.An m.nn m.cn M.ns left _ (rn.up gb) hnn hs h1 h2).mono ?_
  rintro e w1 ⟨v1, rfl, hv1, hb1⟩
  have hK1 := hK.next hb1
  have gb1 := below_next hb1 gb (Nat.le_refl _)
  have c2 := hK1.c 2 rfl
  clear hK
  rcases hv1 with rfl | ⟨p1, p2, p3, p4⟩
  · go_wp2
    go_ret
    exact ⟨-1, rfl, Or.inl rfl, gb1⟩
  have P4 := Lib.hid p4
  clear p4
  go_wp2_with fail
  refine (szModeS_any m.Am m.nm m.cm M.ms v1 _ (rm.up gb1) hnm p1 (by omega)).mono ?_
  rintro e w2 ⟨v2, rfl, hv2, hb2⟩
  have hK2 := hK1.next hb2
  have gb2 := below_next hb2 gb1 (Nat.le_refl _)
  have c3 := hK2.c 3 rfl
  clear hK1 c2
  rcases hv2 with rfl | ⟨q1, q2, q3, q4⟩
  · go_wp2
    go_ret
    exact ⟨-1, rfl, Or.inl rfl, gb2⟩
  have Q4 := Lib.hid q4
  clear q4
  go_wp2_with fail
  refine (szSlotS_any m.As m.ns m.cs v2 _ hns q1 (by omega)).mono ?_
  by_cases hz : v2 < (m.ns : Int)
  · rw [szL_neg hz]
    rintro e w' ⟨rfl, rfl⟩
    go_wp2
    go_ret
    exact ⟨-1, rfl, Or.inl rfl, gb2⟩
  · rw [szL_pos (by omega)]
    obtain ⟨z, hzz⟩ : ∃ z, v2 - (m.ns : Int) = z := ⟨_, rfl⟩
    rw [hzz]
    have hz0 : 0 ≤ z := by omega
    have HZ := Lib.hid hzz
    clear hzz
    rintro e w' ⟨rfl, rfl⟩
    go_wp2
    go_ret
    exact ⟨z, rfl, Or.inr ⟨hz0, by have := HZ.out; omega, p3, by omega, by omega, P4.out, fun i hi => by have := Q4.out i hi; omega⟩, gb2⟩
end Go.Proofs.YtjgmpiefndbnaaaGreatDoor

namespace Go.Proofs.YtjgmpiefndbnaaaGreatDoor
open Go.RowKit

theorem infoNode : (Tryz.prog.info? 130).map (fun i => (i.zero, i.size, i.bytes)) = some (some (.agg #[.int .i64 0, .string ⟨#[]⟩, .int .i64 0, .bool false]), 4, 40) := by kernel_rfl
set_option maxHeartbeats 1000000 in
theorem toNode_any (x : Nd) (w : World) :
    Calls Tryz.prog 103 #[.agg #[.int .i64 x.id, .string x.nm, .int .i64 x.dr, .bool x.ps]] w (RetV w (.agg #[.int .i64 x.id, .string x.nm, .int .i64 x.dr, .bool x.ps])) := by
  go_enter Tryz.func103, Tryz.ntmps103
  go_wp2
  exact bodyPost_ret (v := .agg #[.int .i64 x.id, .string x.nm, .int .i64 x.dr, .bool x.ps]) (by simp [results, Tryz.results103, go_sem]) rfl ⟨rfl, by go_grown⟩

set_option maxHeartbeats 4000000 in
theorem toNodeS_any (A : Option Addr) (n c : Nat) (l : List Nd) (w : World) (h : RE encNd 4 w w.heap.size A n l) (hn : n ≤ 1099511627776) :
    Calls Tryz.prog 53 #[.slice A n c] w (RetE encNd 4 130 w n l) := by
  have L := Lib.hid h.len
  go_enter Tryz.func53, Tryz.ntmps53
  go_wp2_with (at_make; refine wpl_makeE encNd 4 _ default Tryz.underlying33 infoNode rfl rfl (by omega) (by omega) rfl _ _ rfl n rfl rfl hn ?_; intro w1 hown1 hg1)
  have hb1 : Below w.heap.size w w1 := (Below.refl _ _).grown hg1 (Nat.le_refl _) (fun _ e => by cases e)
  have hz1 : w.heap.size < w1.heap.size := (hown1.row w.heap.size rfl).2
  clear hg1
  have O1 := Lib.hid hown1
  clear hown1
  go_loopw [4] (fun i wr => ∃ k : Nat, k ≤ n ∧ i = .int .i64 k ∧ OwnE encNd 4 130 wr w.heap.size (some ⟨w.heap.size, 0, none⟩) n n (fillToE default l n k) ∧ Below w.heap.size w wr) (fun i _ => n - (intOf i).toNat)
  case atStart => exact ⟨0, Nat.zero_le _, rfl, by rw [fillToE_zero]; exact O1.out, hb1⟩
  case round =>
    obtain ⟨k, hk, rfl, hown, hb⟩ := hrel
    by_cases hlt : k < n
    · obtain ⟨b, o, rfl, hbl, hc⟩ := (h.below hb (Nat.le_refl _)).get (by omega)
      have hc0 := hc k hlt 0 _ rfl
      have hc1 := hc k hlt 1 _ rfl
      have hc2 := hc k hlt 2 _ rfl
      have hc3 := hc k hlt 3 _ rfl
      rw [Nat.add_zero] at hc0
      clear hc
      go_wp2_with fail
      refine (toNode_any (ge l k) _).mono ?_
      rintro e w2 ⟨rfl, hb2⟩
      have hown2 := hown.below hb2
      have hfr := hown2.frozen
      have ho0 := hown2.cell encNd_len hlt (j := 0) (by omega)
      have ho1 := hown2.cell encNd_len hlt (j := 1) (by omega)
      have ho2 := hown2.cell encNd_len hlt (j := 2) (by omega)
      have ho3 := hown2.cell encNd_len hlt (j := 3) (by omega)
      simp only [encNd, Nat.add_zero, List.getElem?_cons_zero, List.getElem?_cons_succ] at ho0 ho1 ho2 ho3
      go_wp2
      go_roundw
      case rel =>
        have hx := fillToE_ge (x0 := default) h.len hlt
        have s1 := hown2.stored encNd_len k 0 (.int .i64 (ge l k).id) ⟨(ge l k).id, ⟨#[]⟩, 0, false⟩ hlt (by omega) (by rw [hx]; rfl)
        have s2 := s1.1.stored encNd_len k 1 (.string (ge l k).nm) ⟨(ge l k).id, (ge l k).nm, 0, false⟩ hlt (by omega) (by rw [ge_set_self (by rw [hown2.len]; exact hlt)]; rfl)
        have s3 := s2.1.stored encNd_len k 2 (.int .i64 (ge l k).dr) ⟨(ge l k).id, (ge l k).nm, (ge l k).dr, false⟩ hlt (by omega) (by rw [ge_set_self (by rw [s1.1.len]; exact hlt)]; rfl)
        have s4 := s3.1.stored encNd_len k 3 (.bool (ge l k).ps) (ge l k) hlt (by omega) (by rw [ge_set_self (by rw [s2.1.len]; exact hlt)]; rfl)
        have s5 := s4.1
        rw [List.set_set, List.set_set, List.set_set, fillToE_set h.len hlt, Nat.add_zero] at s5
        exact ⟨k + 1, by omega, by go_num, s5, ((((below_next hb2 hb (Nat.le_refl _)).setCell (Nat.le_refl _) _).setCell (Nat.le_refl _) _).setCell (Nat.le_refl _) _).setCell (Nat.le_refl _) _⟩
      case measure => simp [intOf]; omega
    · have hkn : k = n := by omega
      have HK := Lib.hid hkn
      clear hkn
      go_wp2
      go_ret
      have := HK.out
      subst this
      rw [fillToE_all h.len] at hown
      exact ⟨_, _, rfl, hown, hb⟩
end Go.Proofs.YtjgmpiefndbnaaaGreatDoor

namespace Go.Proofs.YtjgmpiefndbnaaaGreatDoor
open Go.RowKit

set_option maxHeartbeats 4000000 in
theorem toDesc_any (nd kd sz du : Int) (ch : Bool) (w : World) :
    Calls Tryz.prog 150 #[.agg #[.int .i64 nd, .int .i64 kd, .int .i64 sz, .int .i64 du, .bool ch]] w (RetV w (.agg #[.int .i64 nd, .int .i64 kd, .int .i64 sz, .int .i64 du, .bool ch])) := by
  go_enter Tryz.func150, Tryz.ntmps150
  go_wp2
  exact bodyPost_ret (v := .agg #[.int .i64 nd, .int .i64 kd, .int .i64 sz, .int .i64 du, .bool ch]) (by simp [results, Tryz.results150, go_sem]) rfl ⟨rfl, by go_grown⟩

set_option maxHeartbeats 8000000 in
theorem toSlot_any (x : Sl) (w : World) :
    Calls Tryz.prog 105 #[.agg #[.int .i64 x.md, .int .i64 x.rn, .int .i64 x.st, .int .i64 x.nd, .int .i64 x.kd, .int .i64 x.sz, .int .i64 x.du, .bool x.ch]] w (RetV w (.agg #[.int .i64 x.md, .int .i64 x.rn, .int .i64 x.st, .int .i64 x.nd, .int .i64 x.kd, .int .i64 x.sz, .int .i64 x.du, .bool x.ch])) := by
  obtain ⟨w0, hw0⟩ : ∃ v, v = ((w.alloc (.cells #[.int .i64 x.md, .int .i64 x.rn, .int .i64 x.st, .int .i64 x.nd, .int .i64 x.kd, .int .i64 x.sz, .int .i64 x.du, .bool x.ch] 139)).alloc (.cells #[.int .i64 0, .int .i64 0, .int .i64 0, .int .i64 0, .int .i64 0, .int .i64 0, .int .i64 0, .bool false] 135)).alloc (.cells #[.int .i64 x.md, .int .i64 x.rn, .int .i64 x.st, .int .i64 0, .int .i64 0, .int .i64 0, .int .i64 0, .bool false] 135) := ⟨_, rfl⟩
  have h2 : BlkL w0 (w.heap.size + 1) 135 [.int .i64 0, .int .i64 0, .int .i64 0, .int .i64 0, .int .i64 0, .int .i64 0, .int .i64 0, .bool false] := by rw [hw0]; exact (BlkL.new _ _ _ (by simp)).alloc _
  have h3 : BlkL w0 (w.heap.size + 1 + 1) 135 [.int .i64 x.md, .int .i64 x.rn, .int .i64 x.st, .int .i64 0, .int .i64 0, .int .i64 0, .int .i64 0, .bool false] := by rw [hw0]; exact BlkL.new _ _ _ (by simp)
  have gb : Below w.heap.size w w0 := by rw [hw0]; go_grown
  go_enter Tryz.func105, Tryz.ntmps105
  go_wp2_with fail
  rw [← hw0]
  clear hw0
  refine (toDesc_any x.nd x.kd x.sz x.du x.ch _).mono ?_
  rintro e w1 ⟨rfl, hb1⟩
  have k3 := h3.next hb1
  have k2 := h2.next hb1
  have hbw := below_next hb1 gb (Nat.le_refl _)
  clear h2 h3 gb hb1
  have c0 := k3.c 0 rfl
  have c1 := k3.c 1 rfl
  have c2 := k3.c 2 rfl
  have c3 := k3.c 3 rfl
  have c4 := k3.c 4 rfl
  have c5 := k3.c 5 rfl
  have c6 := k3.c 6 rfl
  have c7 := k3.c 7 rfl
  have z0 := k3.free 0
  have z1 := k3.free 1
  have z2 := k3.free 2
  have z3 := k3.free 3
  have z4 := k3.free 4
  have z5 := k3.free 5
  have z6 := k3.free 6
  have z7 := k3.free 7
  go_upto_region 6 with fail
  refine wp_forget (fun v => BlkL v (w.heap.size + 1 + 1) 135 (encSl x) ∧ BlkL v (w.heap.size + 1) 135 [.int .i64 0, .int .i64 0, .int .i64 0, .int .i64 0, .int .i64 0, .int .i64 0, .int .i64 0, .bool false] ∧ Below w.heap.size w v) ⟨((((k3.set 3 _).set 4 _).set 5 _).set 6 _).set 7 _, ((((k2.other (by show w.heap.size + 1 + 1 ≠ w.heap.size + 1; omega) _).other (by show w.heap.size + 1 + 1 ≠ w.heap.size + 1; omega) _).other (by show w.heap.size + 1 + 1 ≠ w.heap.size + 1; omega) _).other (by show w.heap.size + 1 + 1 ≠ w.heap.size + 1; omega) _).other (by show w.heap.size + 1 + 1 ≠ w.heap.size + 1; omega) _, by go_grown⟩ ?_
  clear k2 k3 hbw c0 c1 c2 c3 c4 c5 c6 c7 z0 z1 z2 z3 z4 z5 z6 z7
  rintro w9 ⟨q3, q2, hb9⟩
  have d0 := q2.c 0 rfl
  have y0 := q2.free 0
  have e0 := q3.c 0 rfl
  have d1 := q2.c 1 rfl
  have y1 := q2.free 1
  have e1 := q3.c 1 rfl
  have d2 := q2.c 2 rfl
  have y2 := q2.free 2
  have e2 := q3.c 2 rfl
  have d3 := q2.c 3 rfl
  have y3 := q2.free 3
  have e3 := q3.c 3 rfl
  have d4 := q2.c 4 rfl
  have y4 := q2.free 4
  have e4 := q3.c 4 rfl
  have d5 := q2.c 5 rfl
  have y5 := q2.free 5
  have e5 := q3.c 5 rfl
  have d6 := q2.c 6 rfl
  have y6 := q2.free 6
  have e6 := q3.c 6 rfl
  have d7 := q2.c 7 rfl
  have y7 := q2.free 7
  have e7 := q3.c 7 rfl
  go_wp2_with fail
  refine bp_forget (fun v => BlkL v (w.heap.size + 1) 135 (encSl x) ∧ Below w.heap.size w v) ⟨(((((((q2.set 0 _).set 1 _).set 2 _).set 3 _).set 4 _).set 5 _).set 6 _).set 7 _, by go_grown⟩ ?_
  clear q2 q3 hb9 d0 d1 d2 d3 d4 d5 d6 d7 y0 y1 y2 y3 y4 y5 y6 y7 e0 e1 e2 e3 e4 e5 e6 e7
  rintro v9 ⟨q2, hb9⟩
  have d0 := q2.c 0 rfl
  have d1 := q2.c 1 rfl
  have d2 := q2.c 2 rfl
  have d3 := q2.c 3 rfl
  have d4 := q2.c 4 rfl
  have d5 := q2.c 5 rfl
  have d6 := q2.c 6 rfl
  have d7 := q2.c 7 rfl
  exact bodyPost_ret (v := .agg #[.int .i64 x.md, .int .i64 x.rn, .int .i64 x.st, .int .i64 x.nd, .int .i64 x.kd, .int .i64 x.sz, .int .i64 x.du, .bool x.ch]) (by simp [results, Tryz.results105, go_sem, d0, d1, d2, d3, d4, d5, d6, d7]) rfl ⟨rfl, hb9⟩

set_option maxHeartbeats 8000000 in
theorem toSlotS_any (A : Option Addr) (n c : Nat) (l : List Sl) (w : World) (h : RE encSl 8 w w.heap.size A n l) (hn : n ≤ 1099511627776) :
    Calls Tryz.prog 55 #[.slice A n c] w (RetE encSl 8 135 w n l) := by
  have L := Lib.hid h.len
  go_enter Tryz.func55, Tryz.ntmps55
  go_wp2_with (at_make; refine wpl_makeE encSl 8 _ default Tryz.underlying35 infoSlot rfl rfl (by omega) (by omega) rfl _ _ rfl n rfl rfl hn ?_; intro w1 hown1 hg1)
  have hb1 : Below w.heap.size w w1 := (Below.refl _ _).grown hg1 (Nat.le_refl _) (fun _ e => by cases e)
  have hz1 : w.heap.size < w1.heap.size := (hown1.row w.heap.size rfl).2
  clear hg1
  have O1 := Lib.hid hown1
  clear hown1
  go_loopw [4] (fun i wr => ∃ k : Nat, k ≤ n ∧ i = .int .i64 k ∧ OwnE encSl 8 135 wr w.heap.size (some ⟨w.heap.size, 0, none⟩) n n (fillToE default l n k) ∧ Below w.heap.size w wr) (fun i _ => n - (intOf i).toNat)
  case atStart => exact ⟨0, Nat.zero_le _, rfl, by rw [fillToE_zero]; exact O1.out, hb1⟩
  case round =>
    obtain ⟨k, hk, rfl, hown, hb⟩ := hrel
    by_cases hlt : k < n
    · obtain ⟨b, o, rfl, hbl, hc⟩ := (h.below hb (Nat.le_refl _)).get (by omega)
      have hc0 := hc k hlt 0 _ rfl
      have hc1 := hc k hlt 1 _ rfl
      have hc2 := hc k hlt 2 _ rfl
      have hc3 := hc k hlt 3 _ rfl
      have hc4 := hc k hlt 4 _ rfl
      have hc5 := hc k hlt 5 _ rfl
      have hc6 := hc k hlt 6 _ rfl
      have hc7 := hc k hlt 7 _ rfl
      rw [Nat.add_zero] at hc0
      clear hc
      go_wp2_with fail
      refine (toSlot_any (ge l k) _).mono ?_
      rintro e w2 ⟨rfl, hb2⟩
      clear hc0 hc1 hc2 hc3 hc4 hc5 hc6 hc7
      have hown2 := hown.below hb2
      have hfr := hown2.frozen
      have ho0 := hown2.cell encSl_len hlt (j := 0) (by omega)
      have ho1 := hown2.cell encSl_len hlt (j := 1) (by omega)
      have ho2 := hown2.cell encSl_len hlt (j := 2) (by omega)
      have ho3 := hown2.cell encSl_len hlt (j := 3) (by omega)
      have ho4 := hown2.cell encSl_len hlt (j := 4) (by omega)
      have ho5 := hown2.cell encSl_len hlt (j := 5) (by omega)
      have ho6 := hown2.cell encSl_len hlt (j := 6) (by omega)
      have ho7 := hown2.cell encSl_len hlt (j := 7) (by omega)
      simp only [encSl, Nat.add_zero, List.getElem?_cons_zero, List.getElem?_cons_succ] at ho0 ho1 ho2 ho3 ho4 ho5 ho6 ho7
      go_wp2
      go_roundw
      case rel =>
        have hx := fillToE_ge (x0 := default) h.len hlt
        have s1 := hown2.stored encSl_len k 0 (.int .i64 (ge l k).md) ⟨(ge l k).md, 0, 0, 0, 0, 0, 0, false⟩ hlt (by omega) (by rw [hx]; rfl)
        have s2 := s1.1.stored encSl_len k 1 (.int .i64 (ge l k).rn) ⟨(ge l k).md, (ge l k).rn, 0, 0, 0, 0, 0, false⟩ hlt (by omega) (by rw [ge_set_self (by rw [hown2.len]; exact hlt)]; rfl)
        have s3 := s2.1.stored encSl_len k 2 (.int .i64 (ge l k).st) ⟨(ge l k).md, (ge l k).rn, (ge l k).st, 0, 0, 0, 0, false⟩ hlt (by omega) (by rw [ge_set_self (by rw [s1.1.len]; exact hlt)]; rfl)
        have s4 := s3.1.stored encSl_len k 3 (.int .i64 (ge l k).nd) ⟨(ge l k).md, (ge l k).rn, (ge l k).st, (ge l k).nd, 0, 0, 0, false⟩ hlt (by omega) (by rw [ge_set_self (by rw [s2.1.len]; exact hlt)]; rfl)
        have s5 := s4.1.stored encSl_len k 4 (.int .i64 (ge l k).kd) ⟨(ge l k).md, (ge l k).rn, (ge l k).st, (ge l k).nd, (ge l k).kd, 0, 0, false⟩ hlt (by omega) (by rw [ge_set_self (by rw [s3.1.len]; exact hlt)]; rfl)
        have s6 := s5.1.stored encSl_len k 5 (.int .i64 (ge l k).sz) ⟨(ge l k).md, (ge l k).rn, (ge l k).st, (ge l k).nd, (ge l k).kd, (ge l k).sz, 0, false⟩ hlt (by omega) (by rw [ge_set_self (by rw [s4.1.len]; exact hlt)]; rfl)
        have s7 := s6.1.stored encSl_len k 6 (.int .i64 (ge l k).du) ⟨(ge l k).md, (ge l k).rn, (ge l k).st, (ge l k).nd, (ge l k).kd, (ge l k).sz, (ge l k).du, false⟩ hlt (by omega) (by rw [ge_set_self (by rw [s5.1.len]; exact hlt)]; rfl)
        have s8 := s7.1.stored encSl_len k 7 (.bool (ge l k).ch) (ge l k) hlt (by omega) (by rw [ge_set_self (by rw [s6.1.len]; exact hlt)]; rfl)
        have s9 := s8.1
        rw [List.set_set, List.set_set, List.set_set, List.set_set, List.set_set, List.set_set, List.set_set, fillToE_set h.len hlt, Nat.add_zero] at s9
        exact ⟨k + 1, by omega, by go_num, s9, (((((((((below_next hb2 hb (Nat.le_refl _)).setCell (Nat.le_refl _) _).setCell (Nat.le_refl _) _).setCell (Nat.le_refl _) _).setCell (Nat.le_refl _) _).setCell (Nat.le_refl _) _).setCell (Nat.le_refl _) _).setCell (Nat.le_refl _) _).setCell (Nat.le_refl _) _)⟩
      case measure => simp [intOf]; omega
    · have hkn : k = n := by omega
      have HK := Lib.hid hkn
      clear hkn
      go_wp2
      go_ret
      have := HK.out
      subst this
      rw [fillToE_all h.len] at hown
      exact ⟨_, _, rfl, hown, hb⟩
end Go.Proofs.YtjgmpiefndbnaaaGreatDoor

namespace Go.Proofs.YtjgmpiefndbnaaaGreatDoor
open Go.RowKit

set_option maxHeartbeats 4000000 in
theorem toMode_any (x : Mk) (A : Option Addr) (n c : Nat) (w : World) (h : RI w w.heap.size A n x.nx) (hn : n ≤ 1099511627776) :
    Calls Tryz.prog 104 #[.agg #[.int .i64 x.rd, .int .i64 x.sl, .slice A n c]] w fun e w' => ∃ A' c', e = .returned (.agg #[.int .i64 x.rd, .int .i64 x.sl, .slice A' n c']) ∧ OwnI 2 w' w.heap.size A' n c' x.nx ∧ Below w.heap.size w w' := by
  obtain ⟨w0, hw0⟩ : ∃ v, v = ((w.alloc (.cells #[.int .i64 x.rd, .int .i64 x.sl, .slice A n c] 129)).alloc (.cells #[.int .i64 0, .int .i64 0, .slice none 0 0] 132)).alloc (.cells #[.int .i64 x.rd, .int .i64 x.sl, .slice none 0 0] 132) := ⟨_, rfl⟩
  have h2 : BlkL w0 (w.heap.size + 1) 132 [.int .i64 0, .int .i64 0, .slice none 0 0] := by rw [hw0]; exact (BlkL.new _ _ _ (by simp)).alloc _
  have h3 : BlkL w0 (w.heap.size + 1 + 1) 132 [.int .i64 x.rd, .int .i64 x.sl, .slice none 0 0] := by rw [hw0]; exact BlkL.new _ _ _ (by simp)
  have gb : Below w.heap.size w w0 := by rw [hw0]; go_grown
  have hsz : w.heap.size + 1 + 1 < w0.heap.size := h3.lt
  go_enter Tryz.func104, Tryz.ntmps104
  go_wp2_with fail
  rw [← hw0]
  clear hw0
  refine (toInt64S_any A n c x.nx _ (h.up gb) hn).mono ?_
  rintro e w1 ⟨A', c', rfl, hown, hb1⟩
  have k3 := h3.next hb1
  have k2 := h2.next hb1
  have hbw := below_next hb1 gb (Nat.le_refl _)
  have hne : ∀ g, (Value.slice A' n c').ownBlock = some g → w0.heap.size ≤ g := fun g e => (own_row hown g e).1
  clear h2 h3 gb hb1
  have c0 := k3.c 0 rfl
  have c1 := k3.c 1 rfl
  have c2 := k3.c 2 rfl
  have z0 := k3.free 0
  have z1 := k3.free 1
  have z2 := k3.free 2
  have O1 := Lib.hid hown
  have N1 := Lib.hid hne
  have K2 := Lib.hid k2
  have K3 := Lib.hid k3
  clear hown hne k2 k3
  go_upto_region 5 with fail
  refine wp_forget (fun v => BlkL v (w.heap.size + 1 + 1) 132 [.int .i64 x.rd, .int .i64 x.sl, .slice A' n c'] ∧ BlkL v (w.heap.size + 1) 132 [.int .i64 0, .int .i64 0, .slice none 0 0] ∧ OwnI 2 v w0.heap.size A' n c' x.nx ∧ Below w.heap.size w v)
    ⟨K3.out.set 2 _, K2.out.other (by show w.heap.size + 1 + 1 ≠ w.heap.size + 1; omega) _, O1.out.other hsz _, by go_grown⟩ ?_
  clear hbw c0 c1 c2 z0 z1 z2 O1 N1 K2 K3
  rintro w9 ⟨q3, q2, hown, hb9⟩
  have O9 := Lib.hid hown
  clear hown
  have d0 := q2.c 0 rfl
  have d1 := q2.c 1 rfl
  have d2 := q2.c 2 rfl
  have y0 := q2.free 0
  have y1 := q2.free 1
  have y2 := q2.free 2
  have e0 := q3.c 0 rfl
  have e1 := q3.c 1 rfl
  have e2 := q3.c 2 rfl
  go_wp2_with fail
  refine bp_forget (fun v => BlkL v (w.heap.size + 1) 132 [.int .i64 x.rd, .int .i64 x.sl, .slice A' n c'] ∧ OwnI 2 v w0.heap.size A' n c' x.nx ∧ Below w.heap.size w v)
    ⟨((q2.set 0 _).set 1 _).set 2 _, ((O9.out.other (by show w.heap.size + 1 < _; omega) _).other (by show w.heap.size + 1 < _; omega) _).other (by show w.heap.size + 1 < _; omega) _, by go_grown⟩ ?_
  clear q2 q3 hb9 d0 d1 d2 y0 y1 y2 e0 e1 e2 O9
  rintro v9 ⟨q2, hown, hb9⟩
  have d0 := q2.c 0 rfl
  have d1 := q2.c 1 rfl
  have d2 := q2.c 2 rfl
  exact bodyPost_ret (v := .agg #[.int .i64 x.rd, .int .i64 x.sl, .slice A' n c']) (by simp [results, Tryz.results104, go_sem, d0, d1, d2]) rfl ⟨A', c', rfl, hown.weaken (by omega), hb9⟩

theorem infoMode : (Tryz.prog.info? 132).map (fun i => (i.zero, i.size, i.bytes)) = some (some (.agg #[.int .i64 0, .int .i64 0, .slice none 0 0]), 3, 40) := by kernel_rfl
theorem ge_set_other {α : Type} [Inhabited α] {zs : List α} {k i : Nat} (h : k ≠ i) (x : α) : ge (zs.set k x) i = ge zs i := by simp [ge, h]
theorem encMh_len (x : Mh) : (encMh x).length = 3 := rfl

/-- a table of modes of the call's own, with its own lists -/
def OM (w : World) (base : Nat) (A : Option Addr) (n c : Nat) (l : List Mk) : Prop :=
  l.length = n ∧ ∃ hs : List Mh, OwnE encMh 3 132 w base A n c hs ∧ ∀ i, i < n → (ge hs i).k = ge l i ∧ OwnI 2 w base (ge hs i).A (ge hs i).n (ge hs i).c (ge l i).nx ∧ (ge hs i).n ≤ maxLen
theorem OM.other {w : World} {base n c : Nat} {A : Option Addr} {l : List Mk} (h : OM w base A n c l) {p : Addr} (hp : p.block < base) (v : Value) : OM (w.setCell p v) base A n c l :=
  let ⟨hl, hs, ho, hi⟩ := h
  ⟨hl, hs, ho.other hp v, fun i hn => ⟨(hi i hn).1, (hi i hn).2.1.other hp v, (hi i hn).2.2⟩⟩
theorem OM.below {w w' : World} {base n c : Nat} {A : Option Addr} {l : List Mk} (h : OM w base A n c l) (hb : Below w.heap.size w w') : OM w' base A n c l :=
  let ⟨hl, hs, ho, hi⟩ := h
  ⟨hl, hs, ho.below hb, fun i hn => ⟨(hi i hn).1, (hi i hn).2.1.below hb, (hi i hn).2.2⟩⟩
theorem OM.reads {w : World} {base n c : Nat} {A : Option Addr} {l : List Mk} (h : OM w base A n c l) : RM w w.heap.size A n l := by
  obtain ⟨hl, hs, ho, hi⟩ := h
  have e : hs.map (·.k) = l := by
    refine List.ext_getElem (by rw [List.length_map, ho.len, hl]) fun i h1 h2 => ?_
    rw [List.getElem_map]
    have := (hi i (by rw [← hl]; exact h2)).1
    rw [ge_lt (by rw [ho.len, ← hl]; exact h2), ge_lt h2] at this
    exact this
  have hR := RM.of (ho.reads encMh_len) (fun i hn => ⟨by
    obtain ⟨q1, q2, q3⟩ := hi i hn
    rw [q1]; exact q2.reads, (hi i hn).2.2⟩)
  rw [e] at hR
  exact hR

set_option maxHeartbeats 4000000 in
theorem toModeS_any (A : Option Addr) (n c : Nat) (l : List Mk) (w : World) (h : RM w w.heap.size A n l) (hn : n ≤ 1099511627776) (hx : ∀ i, i < n → (ge l i).nx.length ≤ 1099511627776) :
    Calls Tryz.prog 54 #[.slice A n c] w fun e w' => ∃ A' c', e = .returned (.slice A' n c') ∧ OM w' w.heap.size A' n c' l ∧ Below w.heap.size w w' := by
  have L := Lib.hid h.len
  go_enter Tryz.func54, Tryz.ntmps54
  go_wp2_with (at_make; refine wpl_makeE encMh 3 _ default Tryz.underlying34 infoMode rfl rfl (by omega) (by omega) rfl _ _ rfl n rfl rfl hn ?_; intro w1 hown1 hg1)
  have hb1 : Below w.heap.size w w1 := (Below.refl _ _).grown hg1 (Nat.le_refl _) (fun _ e => by cases e)
  have hz1 : w.heap.size < w1.heap.size := (hown1.row w.heap.size rfl).2
  clear hg1
  have O1 := Lib.hid hown1
  clear hown1
  go_loopw [4] (fun i wr => ∃ (k : Nat) (hs : List Mh), k ≤ n ∧ i = .int .i64 k ∧ OwnE encMh 3 132 wr w.heap.size (some ⟨w.heap.size, 0, none⟩) n n hs ∧ (∀ i, i < k → (ge hs i).k = ge l i ∧ OwnI 2 wr (w.heap.size + 1) (ge hs i).A (ge hs i).n (ge hs i).c (ge l i).nx ∧ (ge hs i).n ≤ maxLen) ∧ Below w.heap.size w wr ∧ w.heap.size + 1 ≤ wr.heap.size) (fun i _ => n - (intOf i).toNat)
  case atStart => exact ⟨0, _, Nat.zero_le _, rfl, O1.out, fun i hi => absurd hi (by omega), hb1, by omega⟩
  case round =>
    obtain ⟨k, hs, hk, rfl, hown, hall, hb, hsz⟩ := hrel
    have Hall := Lib.hid hall
    clear hall
    by_cases hlt : k < n
    · obtain ⟨b, o, A2, n2, c2, rfl, hbl, hc0, hc1, hc2, hm', hr⟩ := (h.below hb (Nat.le_refl _)).get hlt
      have hn2 : n2 ≤ 1099511627776 := by rw [← hr.len]; exact hx k hlt
      go_wp2_with fail
      refine (toMode_any (ge l k) A2 n2 c2 _ (hr.more hb.size) hn2).mono ?_
      rintro e w2 ⟨A3, c3, rfl, own3, hb2⟩
      clear hc0 hc1 hc2 hr
      have hown2 := hown.below hb2
      have hfr := hown2.frozen
      have ho0 := hown2.cell encMh_len hlt (j := 0) (by omega)
      have ho1 := hown2.cell encMh_len hlt (j := 1) (by omega)
      have ho2 := hown2.cell encMh_len hlt (j := 2) (by omega)
      simp only [encMh, Nat.add_zero, List.getElem?_cons_zero, List.getElem?_cons_succ] at ho0 ho1 ho2
      have O3 := Lib.hid own3
      have M3 := Lib.hid hm'
      clear own3 hm'
      go_wp2
      go_roundw
      case rel =>
        have s1 := hown2.stored encMh_len k 0 (.int .i64 (ge l k).rd) ⟨⟨(ge l k).rd, (ge hs k).k.sl, (ge hs k).k.nx⟩, (ge hs k).A, (ge hs k).n, (ge hs k).c⟩ hlt (by omega) rfl
        have s2 := s1.1.stored encMh_len k 1 (.int .i64 (ge l k).sl) ⟨⟨(ge l k).rd, (ge l k).sl, (ge hs k).k.nx⟩, (ge hs k).A, (ge hs k).n, (ge hs k).c⟩ hlt (by omega) (by rw [ge_set_self (by rw [hown2.len]; exact hlt)]; rfl)
        have s3 := s2.1.stored encMh_len k 2 (.slice A3 n2 c3) ⟨ge l k, A3, n2, c3⟩ hlt (by omega) (by rw [ge_set_self (by rw [s1.1.len]; exact hlt)]; rfl)
        have s4 := s3.1
        rw [List.set_set, List.set_set, Nat.add_zero] at s4
        have hlen := hown2.len
        refine ⟨k + 1, hs.set k ⟨ge l k, A3, n2, c3⟩, by omega, by go_num, s4, fun i hi => ?_, (((below_next hb2 hb (Nat.le_refl _)).setCell (Nat.le_refl _) _).setCell (Nat.le_refl _) _).setCell (Nat.le_refl _) _, by have := hb2.size; simp; omega⟩
        by_cases hik : i = k
        · subst hik
          rw [ge_set_self (by rw [hlen]; exact hlt)]
          exact ⟨rfl, ((((O3.out.weaken hsz).other (by show w.heap.size < _; omega) _).other (by show w.heap.size < _; omega) _).other (by show w.heap.size < _; omega) _), M3.out⟩
        · rw [ge_set_other (by omega)]
          obtain ⟨q1, q2, q3⟩ := Hall.out i (by omega)
          exact ⟨q1, ((((q2.below hb2).other (by show w.heap.size < _; omega) _).other (by show w.heap.size < _; omega) _).other (by show w.heap.size < _; omega) _), q3⟩
      case measure => simp [intOf]; omega
    · have hkn : k = n := by omega
      have HK := Lib.hid hkn
      clear hkn
      go_wp2
      go_ret
      have hke := HK.out
      subst hke
      exact ⟨_, _, rfl, ⟨L.out, hs, hown, fun i hi => ⟨(Hall.out i hi).1, (Hall.out i hi).2.1.weaken (by omega), (Hall.out i hi).2.2⟩⟩, hb⟩
end Go.Proofs.YtjgmpiefndbnaaaGreatDoor

namespace Go.Proofs.YtjgmpiefndbnaaaGreatDoor
open Go.RowKit

theorem OwnE.capE {α : Type} {enc : α → List Value} {sz : Nat} {T : TypeId} {w : World} {base n c : Nat} {A : Option Addr} {xs : List α} (h : OwnE enc sz T w base A n c xs) : n ≤ c := by
  rcases h.2.2 with ⟨h1, h2⟩ | ⟨g, cap, cur, hv, hb, hh, hn, _⟩
  · omega
  · injection hv with h1 h2 h3
    omega
theorem OM.weaken {w : World} {base base' n c : Nat} {A : Option Addr} {l : List Mk} (h : OM w base A n c l) (hb : base' ≤ base) : OM w base' A n c l :=
  let ⟨hl, hs, ho, hi⟩ := h
  ⟨hl, hs, ho.weaken hb, fun i hn => ⟨(hi i hn).1, (hi i hn).2.1.weaken hb, (hi i hn).2.2⟩⟩
set_option maxHeartbeats 8000000 in
theorem toMedl_own (m : Mdv) (M : Mdl) (w : World) (h : RD w w.heap.size m M) (hx : ∀ i, i < m.nm → (ge M.ms i).nx.length ≤ 1099511627776) :
    Calls Tryz.prog 10 #[.agg #[.int .i64 m.id, .slice m.An m.nn m.cn, .slice m.Am m.nm m.cm, .slice m.As m.ns m.cs]] w fun e w' => ∃ A1 c1 A2 c2 A3 c3,
      e = .returned (.agg #[.int .i64 m.id, .slice A1 m.nn c1, .slice A2 m.nm c2, .slice A3 m.ns c3]) ∧ RD w' w'.heap.size ⟨m.id, A1, m.nn, c1, A2, m.nm, c2, A3, m.ns, c3⟩ M ∧ m.nn ≤ c1 ∧ Below w.heap.size w w' ∧
      OwnE encNd 4 130 w' w.heap.size A1 m.nn c1 M.ns ∧ OM w' w.heap.size A2 m.nm c2 M.ms ∧ OwnE encSl 8 135 w' w.heap.size A3 m.ns c3 M.ss := by
  have hbn := h.bn
  have hbm := h.bm
  have hbs := h.bs
  have hid := Lib.hid h.id
  obtain ⟨w0, hw0⟩ : ∃ v, v = ((w.alloc (.cells #[.int .i64 m.id, .slice m.An m.nn m.cn, .slice m.Am m.nm m.cm, .slice m.As m.ns m.cs] 26)).alloc (.cells #[.int .i64 0, .slice none 0 0, .slice none 0 0, .slice none 0 0] 37)).alloc (.cells #[.int .i64 m.id, .slice none 0 0, .slice none 0 0, .slice none 0 0] 37) := ⟨_, rfl⟩
  have h1 : BlkL w0 w.heap.size 26 [.int .i64 m.id, .slice m.An m.nn m.cn, .slice m.Am m.nm m.cm, .slice m.As m.ns m.cs] := by rw [hw0]; exact ((BlkL.new _ _ _ rfl).alloc _).alloc _
  have h2 : BlkL w0 (w.heap.size + 1) 37 [.int .i64 0, .slice none 0 0, .slice none 0 0, .slice none 0 0] := by rw [hw0]; exact (BlkL.new _ _ _ (by simp)).alloc _
  have h3 : BlkL w0 (w.heap.size + 1 + 1) 37 [.int .i64 m.id, .slice none 0 0, .slice none 0 0, .slice none 0 0] := by rw [hw0]; exact BlkL.new _ _ _ (by simp)
  have gb : Below w.heap.size w w0 := by rw [hw0]; go_grown
  have hsz : w.heap.size + 1 + 1 < w0.heap.size := h3.lt
  go_enter Tryz.func10, Tryz.ntmps10
  go_wp2_with fail
  rw [← hw0]
  clear hw0
  refine (toNodeS_any m.An m.nn m.cn M.ns _ (h.rn.up gb) hbn).mono ?_
  rintro e w1 ⟨A1, c1, rfl, own1, hb1⟩
  have k1 := h1.next hb1
  have k2 := h2.next hb1
  have k3 := h3.next hb1
  have hbw := below_next hb1 gb (Nat.le_refl _)
  have hcap : m.nn ≤ c1 := OwnE.capE own1
  have hs1 := hb1.size
  clear h1 h2 h3 hb1
  have d1 := k3.c 1 rfl
  have z1 := k3.free 1
  have O1 := Lib.hid own1
  have K1 := Lib.hid k1
  have K2 := Lib.hid k2
  have K3 := Lib.hid k3
  clear own1 k1 k2 k3
  go_upto_region 4 with fail
  refine wp_forget (fun v => BlkL v w.heap.size 26 [.int .i64 m.id, .slice m.An m.nn m.cn, .slice m.Am m.nm m.cm, .slice m.As m.ns m.cs] ∧ BlkL v (w.heap.size + 1) 37 [.int .i64 0, .slice none 0 0, .slice none 0 0, .slice none 0 0] ∧ BlkL v (w.heap.size + 1 + 1) 37 [.int .i64 m.id, .slice A1 m.nn c1, .slice none 0 0, .slice none 0 0] ∧ OwnE encNd 4 130 v w0.heap.size A1 m.nn c1 M.ns ∧ Below w.heap.size w v ∧ w0.heap.size ≤ v.heap.size)
    ⟨K1.out.other (by show w.heap.size + 1 + 1 ≠ w.heap.size; omega) _, K2.out.other (by show w.heap.size + 1 + 1 ≠ w.heap.size + 1; omega) _, K3.out.set 1 _, O1.out.other hsz _, by go_grown, by simpa using hs1⟩ ?_
  clear hbw d1 z1 O1 K1 K2 K3 hs1
  rintro w2 ⟨k1, k2, k3, own1, hbw, hs2⟩
  have f2 := k1.c 2 rfl
  have O1 := Lib.hid own1
  have K1 := Lib.hid k1
  have K2 := Lib.hid k2
  have K3 := Lib.hid k3
  clear own1 k1 k2 k3
  go_wp2_with fail
  refine (toModeS_any m.Am m.nm m.cm M.ms _ (h.rm.up hbw) hbm hx).mono ?_
  rintro e w3 ⟨A2, c2, rfl, own2, hb3⟩
  have k1 := K1.out.next hb3
  have k2 := K2.out.next hb3
  have k3 := K3.out.next hb3
  have p1 := O1.out.below hb3
  have hbw3 := below_next hb3 hbw (Nat.le_refl _)
  have hs3 := hb3.size
  clear O1 K1 K2 K3 hbw hb3 f2
  have d2 := k3.c 2 rfl
  have z2 := k3.free 2
  have O1 := Lib.hid p1
  have O2 := Lib.hid own2
  have K1 := Lib.hid k1
  have K2 := Lib.hid k2
  have K3 := Lib.hid k3
  clear p1 own2 k1 k2 k3
  go_upto_region 5 with fail
  refine wp_forget (fun v => BlkL v w.heap.size 26 [.int .i64 m.id, .slice m.An m.nn m.cn, .slice m.Am m.nm m.cm, .slice m.As m.ns m.cs] ∧ BlkL v (w.heap.size + 1) 37 [.int .i64 0, .slice none 0 0, .slice none 0 0, .slice none 0 0] ∧ BlkL v (w.heap.size + 1 + 1) 37 [.int .i64 m.id, .slice A1 m.nn c1, .slice A2 m.nm c2, .slice none 0 0] ∧ OwnE encNd 4 130 v w0.heap.size A1 m.nn c1 M.ns ∧ OM v w0.heap.size A2 m.nm c2 M.ms ∧ Below w.heap.size w v ∧ w0.heap.size ≤ v.heap.size)
    ⟨K1.out.other (by show w.heap.size + 1 + 1 ≠ w.heap.size; omega) _, K2.out.other (by show w.heap.size + 1 + 1 ≠ w.heap.size + 1; omega) _, K3.out.set 2 _, O1.out.other hsz _, (O2.out.weaken hs2).other hsz _, by go_grown, by simp; omega⟩ ?_
  clear hbw3 hs3 hs2 d2 z2 O1 O2 K1 K2 K3
  rintro w4 ⟨k1, k2, k3, own1, own2, hbw, hs2⟩
  have f3 := k1.c 3 rfl
  have O1 := Lib.hid own1
  have O2 := Lib.hid own2
  have K2 := Lib.hid k2
  have K3 := Lib.hid k3
  clear own1 own2 k1 k2 k3
  go_wp2_with fail
  refine (toSlotS_any m.As m.ns m.cs M.ss _ (h.rs.up hbw) hbs).mono ?_
  rintro e w5 ⟨A3, c3, rfl, own3, hb3⟩
  have k2 := K2.out.next hb3
  have k3 := K3.out.next hb3
  have p1 := O1.out.below hb3
  have p2 := O2.out.below hb3
  have hbw3 := below_next hb3 hbw (Nat.le_refl _)
  have hs3 := hb3.size
  clear O1 O2 K2 K3 hbw hb3 f3
  have d2 := k3.c 3 rfl
  have z2 := k3.free 3
  have O1 := Lib.hid p1
  have O2 := Lib.hid p2
  have O3 := Lib.hid own3
  have K2 := Lib.hid k2
  have K3 := Lib.hid k3
  clear p1 p2 own3 k2 k3
  go_upto_region 6 with fail
  refine wp_forget (fun v => BlkL v (w.heap.size + 1) 37 [.int .i64 0, .slice none 0 0, .slice none 0 0, .slice none 0 0] ∧ BlkL v (w.heap.size + 1 + 1) 37 [.int .i64 m.id, .slice A1 m.nn c1, .slice A2 m.nm c2, .slice A3 m.ns c3] ∧ OwnE encNd 4 130 v w0.heap.size A1 m.nn c1 M.ns ∧ OM v w0.heap.size A2 m.nm c2 M.ms ∧ OwnE encSl 8 135 v w0.heap.size A3 m.ns c3 M.ss ∧ Below w.heap.size w v)
    ⟨K2.out.other (by show w.heap.size + 1 + 1 ≠ w.heap.size + 1; omega) _, K3.out.set 3 _, O1.out.other hsz _, O2.out.other hsz _, (O3.out.weaken hs2).other hsz _, by go_grown⟩ ?_
  clear hbw3 hs3 hs2 d2 z2 O1 O2 O3 K2 K3
  rintro w6 ⟨k2, k3, own1, own2, own3, hbw⟩
  have d0 := k2.c 0 rfl
  have d1 := k2.c 1 rfl
  have d2 := k2.c 2 rfl
  have d3 := k2.c 3 rfl
  have y0 := k2.free 0
  have y1 := k2.free 1
  have y2 := k2.free 2
  have y3 := k2.free 3
  have e0 := k3.c 0 rfl
  have e1 := k3.c 1 rfl
  have e2 := k3.c 2 rfl
  have e3 := k3.c 3 rfl
  have O1 := Lib.hid own1
  have O2 := Lib.hid own2
  have O3 := Lib.hid own3
  have K2 := Lib.hid k2
  clear own1 own2 own3 k2 k3
  go_wp2_with fail
  have hg : w.heap.size + 1 < w0.heap.size := by omega
  refine bp_forget (fun v => BlkL v (w.heap.size + 1) 37 [.int .i64 m.id, .slice A1 m.nn c1, .slice A2 m.nm c2, .slice A3 m.ns c3] ∧ OwnE encNd 4 130 v w0.heap.size A1 m.nn c1 M.ns ∧ OM v w0.heap.size A2 m.nm c2 M.ms ∧ OwnE encSl 8 135 v w0.heap.size A3 m.ns c3 M.ss ∧ Below w.heap.size w v)
    ⟨(((K2.out.set 0 _).set 1 _).set 2 _).set 3 _, (((O1.out.other hg _).other hg _).other hg _).other hg _, (((O2.out.other hg _).other hg _).other hg _).other hg _, (((O3.out.other hg _).other hg _).other hg _).other hg _, by go_grown⟩ ?_
  clear hbw d0 d1 d2 d3 y0 y1 y2 y3 e0 e1 e2 e3 O1 O2 O3 K2
  rintro v9 ⟨k2, own1, own2, own3, hbw⟩
  have d0 := k2.c 0 rfl
  have d1 := k2.c 1 rfl
  have d2 := k2.c 2 rfl
  have d3 := k2.c 3 rfl
  exact bodyPost_ret (v := .agg #[.int .i64 m.id, .slice A1 m.nn c1, .slice A2 m.nm c2, .slice A3 m.ns c3]) (by simp [results, Tryz.results10, go_sem, d0, d1, d2, d3]) rfl
    ⟨A1, c1, A2, c2, A3, c3, rfl, ⟨hid.out, own1.reads encNd_len, own2.reads, own3.reads encSl_len, hbn, hbm, hbs⟩, hcap, hbw, own1.weaken (by omega), own2.weaken (by omega), own3.weaken (by omega)⟩
theorem toMedl_any (m : Mdv) (M : Mdl) (w : World) (h : RD w w.heap.size m M) (hx : ∀ i, i < m.nm → (ge M.ms i).nx.length ≤ 1099511627776) :
    Calls Tryz.prog 10 #[.agg #[.int .i64 m.id, .slice m.An m.nn m.cn, .slice m.Am m.nm m.cm, .slice m.As m.ns m.cs]] w fun e w' => ∃ A1 c1 A2 c2 A3 c3,
      e = .returned (.agg #[.int .i64 m.id, .slice A1 m.nn c1, .slice A2 m.nm c2, .slice A3 m.ns c3]) ∧ RD w' w'.heap.size ⟨m.id, A1, m.nn, c1, A2, m.nm, c2, A3, m.ns, c3⟩ M ∧ m.nn ≤ c1 ∧ Below w.heap.size w w' :=
  (toMedl_own m M w h hx).mono fun _ _ ⟨A1, c1, A2, c2, A3, c3, e, h1, h2, h3, _⟩ => ⟨A1, c1, A2, c2, A3, c3, e, h1, h2, h3⟩
end Go.Proofs.YtjgmpiefndbnaaaGreatDoor

namespace Go.Proofs.YtjgmpiefndbnaaaGreatDoor
open Go.RowKit

set_option maxHeartbeats 2000000 in
theorem eqNode_self (x : Nd) (w : World) : Calls Tryz.prog 108 #[.agg #[.int .i64 x.id, .string x.nm, .int .i64 x.dr, .bool x.ps], .agg #[.int .i64 x.id, .string x.nm, .int .i64 x.dr, .bool x.ps]] w (RetV w (.bool true)) := by
  go_enter Tryz.func108, Tryz.ntmps108
  go_wp2
  go_ret
  exact ⟨rfl, by go_grown⟩
set_option maxHeartbeats 2000000 in
theorem eqDesc_self (nd kd sz du : Int) (ch : Bool) (w : World) : Calls Tryz.prog 153 #[.agg #[.int .i64 nd, .int .i64 kd, .int .i64 sz, .int .i64 du, .bool ch], .agg #[.int .i64 nd, .int .i64 kd, .int .i64 sz, .int .i64 du, .bool ch]] w (RetV w (.bool true)) := by
  go_enter Tryz.func153, Tryz.ntmps153
  go_wp2
  go_ret
  exact ⟨rfl, by go_grown⟩
set_option maxHeartbeats 2000000 in
theorem eqSlot_self (x : Sl) (w : World) : Calls Tryz.prog 110 #[.agg #[.int .i64 x.md, .int .i64 x.rn, .int .i64 x.st, .int .i64 x.nd, .int .i64 x.kd, .int .i64 x.sz, .int .i64 x.du, .bool x.ch], .agg #[.int .i64 x.md, .int .i64 x.rn, .int .i64 x.st, .int .i64 x.nd, .int .i64 x.kd, .int .i64 x.sz, .int .i64 x.du, .bool x.ch]] w (RetV w (.bool true)) := by
  go_enter Tryz.func110, Tryz.ntmps110
  go_wp2_with fail
  refine (eqDesc_self x.nd x.kd x.sz x.du x.ch _).mono ?_
  rintro e w1 ⟨rfl, hb1⟩
  go_wp2
  go_ret
  exact ⟨rfl, below_next hb1 (by go_grown) (Nat.le_refl _)⟩
set_option maxHeartbeats 2000000 in
theorem eqMode_self (rd sl : Int) (A A' : Option Addr) (n n' c c' : Nat) (zs : List Int) (w : World) (h : RI w w.heap.size A n zs) (h' : RI w w.heap.size A' n' zs) (hn : n ≤ 1099511627776) (hn' : n' ≤ 1099511627776) :
    Calls Tryz.prog 109 #[.agg #[.int .i64 rd, .int .i64 sl, .slice A n c], .agg #[.int .i64 rd, .int .i64 sl, .slice A' n' c']] w (RetV w (.bool true)) := by
  have hq := fun v hv hv' => eqInt64S_any A A' n n' c c' zs zs v hv hv' hn hn'
  rw [eqI_self] at hq
  go_enter Tryz.func109, Tryz.ntmps109
  go_wp2_with fail
  refine (hq _ (h.up (by go_grown)) (h'.up (by go_grown))).mono ?_
  rintro e w1 ⟨rfl, hb1⟩
  go_wp2
  go_ret
  exact ⟨rfl, below_next hb1 (by go_grown) (Nat.le_refl _)⟩

set_option maxHeartbeats 4000000 in
theorem eqNodeS_self (A A' : Option Addr) (n n' c c' : Nat) (l : List Nd) (w : World) (hx : RE encNd 4 w w.heap.size A n l) (hy : RE encNd 4 w w.heap.size A' n' l) (hn : n ≤ 1099511627776) :
    Calls Tryz.prog 59 #[.slice A n c, .slice A' n' c'] w (RetV w (.bool true)) := by
  obtain rfl : n' = n := by rw [← hx.len, ← hy.len]
  go_enter Tryz.func59, Tryz.ntmps59
  go_wp2
  go_loopw [5] (fun i wr => ∃ k : Nat, k ≤ n' ∧ i = .int .i64 k ∧ Below w.heap.size w wr) (fun i _ => n' - (intOf i).toNat)
  case atStart => exact ⟨0, Nat.zero_le _, rfl, Below.refl _ _⟩
  case round =>
    obtain ⟨k, hk, rfl, hb⟩ := hrel
    by_cases hlt : k < n'
    · obtain ⟨b, o, rfl, _, hc⟩ := (hx.below hb (Nat.le_refl _)).get (by omega)
      obtain ⟨b', o', rfl, _, hd⟩ := (hy.below hb (Nat.le_refl _)).get (by omega)
      have q0 : ∀ x : Cls (GB wr), x.w.cell? ⟨b, o + k * 4, none⟩ = some (.int .i64 (ge l k).id) := fun x => GB.c x (hc k hlt 0 _ rfl)
      have q1 : ∀ x : Cls (GB wr), x.w.cell? ⟨b, o + k * 4 + 1, none⟩ = some (.string (ge l k).nm) := fun x => GB.c x (hc k hlt 1 _ rfl)
      have q2 : ∀ x : Cls (GB wr), x.w.cell? ⟨b, o + k * 4 + 2, none⟩ = some (.int .i64 (ge l k).dr) := fun x => GB.c x (hc k hlt 2 _ rfl)
      have q3 : ∀ x : Cls (GB wr), x.w.cell? ⟨b, o + k * 4 + 3, none⟩ = some (.bool (ge l k).ps) := fun x => GB.c x (hc k hlt 3 _ rfl)
      have p0 : ∀ x : Cls (GB wr), x.w.cell? ⟨b', o' + k * 4, none⟩ = some (.int .i64 (ge l k).id) := fun x => GB.c x (hd k hlt 0 _ rfl)
      have p1 : ∀ x : Cls (GB wr), x.w.cell? ⟨b', o' + k * 4 + 1, none⟩ = some (.string (ge l k).nm) := fun x => GB.c x (hd k hlt 1 _ rfl)
      have p2 : ∀ x : Cls (GB wr), x.w.cell? ⟨b', o' + k * 4 + 2, none⟩ = some (.int .i64 (ge l k).dr) := fun x => GB.c x (hd k hlt 2 _ rfl)
      have p3 : ∀ x : Cls (GB wr), x.w.cell? ⟨b', o' + k * 4 + 3, none⟩ = some (.bool (ge l k).ps) := fun x => GB.c x (hd k hlt 3 _ rfl)
      have hV0 : GB wr wr.drew := (Below.refl _ _).drew
      haveI hne : Nonempty (Cls (GB wr)) := ⟨⟨_, hV0⟩⟩
      clear hc hd
      go_wp2_with fail
      refine wp_region_cls (GB wr) (by kernel_rfl) (by kernel_rfl) hV0 ?_
      repeat (go_big_quiet_step (first | (go_at_call 108; rename_i x; exact cls_call (fun h1 h2 => GB.next h1 h2) (eqNode_self (ge l k) _))))
      refine wpQuiet_nil ?_
      rintro _ ⟨x, rfl⟩
      have hv := below_next (w1 := wr) x.h hb (Nat.le_refl _)
      go_wp2
      go_roundw
      case rel => exact ⟨k + 1, by omega, by go_num, hv⟩
      case measure => simp [intOf]; omega
    · go_wp2
      go_ret
      exact ⟨rfl, hb⟩

set_option maxHeartbeats 4000000 in
theorem eqSlotS_self (A A' : Option Addr) (n n' c c' : Nat) (l : List Sl) (w : World) (hx : RE encSl 8 w w.heap.size A n l) (hy : RE encSl 8 w w.heap.size A' n' l) (hn : n ≤ 1099511627776) :
    Calls Tryz.prog 61 #[.slice A n c, .slice A' n' c'] w (RetV w (.bool true)) := by
  obtain rfl : n' = n := by rw [← hx.len, ← hy.len]
  go_enter Tryz.func61, Tryz.ntmps61
  go_wp2
  go_loopw [5] (fun i wr => ∃ k : Nat, k ≤ n' ∧ i = .int .i64 k ∧ Below w.heap.size w wr) (fun i _ => n' - (intOf i).toNat)
  case atStart => exact ⟨0, Nat.zero_le _, rfl, Below.refl _ _⟩
  case round =>
    obtain ⟨k, hk, rfl, hb⟩ := hrel
    by_cases hlt : k < n'
    · obtain ⟨b, o, rfl, _, hc⟩ := (hx.below hb (Nat.le_refl _)).get (by omega)
      obtain ⟨b', o', rfl, _, hd⟩ := (hy.below hb (Nat.le_refl _)).get (by omega)
      have q0 : ∀ x : Cls (GB wr), x.w.cell? ⟨b, o + k * 8, none⟩ = some (.int .i64 (ge l k).md) := fun x => GB.c x (hc k hlt 0 _ rfl)
      have q1 : ∀ x : Cls (GB wr), x.w.cell? ⟨b, o + k * 8 + 1, none⟩ = some (.int .i64 (ge l k).rn) := fun x => GB.c x (hc k hlt 1 _ rfl)
      have q2 : ∀ x : Cls (GB wr), x.w.cell? ⟨b, o + k * 8 + 2, none⟩ = some (.int .i64 (ge l k).st) := fun x => GB.c x (hc k hlt 2 _ rfl)
      have q3 : ∀ x : Cls (GB wr), x.w.cell? ⟨b, o + k * 8 + 3, none⟩ = some (.int .i64 (ge l k).nd) := fun x => GB.c x (hc k hlt 3 _ rfl)
      have q4 : ∀ x : Cls (GB wr), x.w.cell? ⟨b, o + k * 8 + 4, none⟩ = some (.int .i64 (ge l k).kd) := fun x => GB.c x (hc k hlt 4 _ rfl)
      have q5 : ∀ x : Cls (GB wr), x.w.cell? ⟨b, o + k * 8 + 5, none⟩ = some (.int .i64 (ge l k).sz) := fun x => GB.c x (hc k hlt 5 _ rfl)
      have q6 : ∀ x : Cls (GB wr), x.w.cell? ⟨b, o + k * 8 + 6, none⟩ = some (.int .i64 (ge l k).du) := fun x => GB.c x (hc k hlt 6 _ rfl)
      have q7 : ∀ x : Cls (GB wr), x.w.cell? ⟨b, o + k * 8 + 7, none⟩ = some (.bool (ge l k).ch) := fun x => GB.c x (hc k hlt 7 _ rfl)
      have p0 : ∀ x : Cls (GB wr), x.w.cell? ⟨b', o' + k * 8, none⟩ = some (.int .i64 (ge l k).md) := fun x => GB.c x (hd k hlt 0 _ rfl)
      have p1 : ∀ x : Cls (GB wr), x.w.cell? ⟨b', o' + k * 8 + 1, none⟩ = some (.int .i64 (ge l k).rn) := fun x => GB.c x (hd k hlt 1 _ rfl)
      have p2 : ∀ x : Cls (GB wr), x.w.cell? ⟨b', o' + k * 8 + 2, none⟩ = some (.int .i64 (ge l k).st) := fun x => GB.c x (hd k hlt 2 _ rfl)
      have p3 : ∀ x : Cls (GB wr), x.w.cell? ⟨b', o' + k * 8 + 3, none⟩ = some (.int .i64 (ge l k).nd) := fun x => GB.c x (hd k hlt 3 _ rfl)
      have p4 : ∀ x : Cls (GB wr), x.w.cell? ⟨b', o' + k * 8 + 4, none⟩ = some (.int .i64 (ge l k).kd) := fun x => GB.c x (hd k hlt 4 _ rfl)
      have p5 : ∀ x : Cls (GB wr), x.w.cell? ⟨b', o' + k * 8 + 5, none⟩ = some (.int .i64 (ge l k).sz) := fun x => GB.c x (hd k hlt 5 _ rfl)
      have p6 : ∀ x : Cls (GB wr), x.w.cell? ⟨b', o' + k * 8 + 6, none⟩ = some (.int .i64 (ge l k).du) := fun x => GB.c x (hd k hlt 6 _ rfl)
      have p7 : ∀ x : Cls (GB wr), x.w.cell? ⟨b', o' + k * 8 + 7, none⟩ = some (.bool (ge l k).ch) := fun x => GB.c x (hd k hlt 7 _ rfl)
      have hV0 : GB wr wr.drew := (Below.refl _ _).drew
      haveI hne : Nonempty (Cls (GB wr)) := ⟨⟨_, hV0⟩⟩
      clear hc hd
      go_wp2_with fail
      refine wp_region_cls (GB wr) (by kernel_rfl) (by kernel_rfl) hV0 ?_
      repeat (go_big_quiet_step (first | (go_at_call 110; rename_i x; exact cls_call (fun h1 h2 => GB.next h1 h2) (eqSlot_self (ge l k) _))))
      refine wpQuiet_nil ?_
      rintro _ ⟨x, rfl⟩
      have hv := below_next (w1 := wr) x.h hb (Nat.le_refl _)
      go_wp2
      go_roundw
      case rel => exact ⟨k + 1, by omega, by go_num, hv⟩
      case measure => simp [intOf]; omega
    · go_wp2
      go_ret
      exact ⟨rfl, hb⟩

set_option maxHeartbeats 4000000 in
theorem eqModeS_self (A A' : Option Addr) (n n' c c' : Nat) (l : List Mk) (w : World) (hx : RM w w.heap.size A n l) (hy : RM w w.heap.size A' n' l) (hn : n ≤ 1099511627776) (hl : ∀ i, i < n → (ge l i).nx.length ≤ 1099511627776) :
    Calls Tryz.prog 60 #[.slice A n c, .slice A' n' c'] w (RetV w (.bool true)) := by
  obtain rfl : n' = n := by rw [← hx.len, ← hy.len]
  go_enter Tryz.func60, Tryz.ntmps60
  go_wp2
  go_loopw [5] (fun i wr => ∃ k : Nat, k ≤ n' ∧ i = .int .i64 k ∧ Below w.heap.size w wr) (fun i _ => n' - (intOf i).toNat)
  case atStart => exact ⟨0, Nat.zero_le _, rfl, Below.refl _ _⟩
  case round =>
    obtain ⟨k, hk, rfl, hb⟩ := hrel
    by_cases hlt : k < n'
    · have hlk := hl k hlt
      obtain ⟨b, o, A1, n1, c1, rfl, _, hc0, hc1, hc2, _, hr1⟩ := (hx.below hb (Nat.le_refl _)).get hlt
      obtain ⟨b', o', A2, n2, c2, rfl, _, hd0, hd1, hd2, _, hr2⟩ := (hy.below hb (Nat.le_refl _)).get hlt
      have hn1 : n1 ≤ 1099511627776 := by rw [← hr1.len]; exact hlk
      have hn2 : n2 ≤ 1099511627776 := by rw [← hr2.len]; exact hlk
      have R1 := Lib.hid (hr1.more hb.size)
      have R2 := Lib.hid (hr2.more hb.size)
      have q0 : ∀ x : Cls (GB wr), x.w.cell? ⟨b, o + k * 3, none⟩ = some (.int .i64 (ge l k).rd) := fun x => GB.c x hc0
      have q1 : ∀ x : Cls (GB wr), x.w.cell? ⟨b, o + k * 3 + 1, none⟩ = some (.int .i64 (ge l k).sl) := fun x => GB.c x hc1
      have q2 : ∀ x : Cls (GB wr), x.w.cell? ⟨b, o + k * 3 + 2, none⟩ = some (.slice A1 n1 c1) := fun x => GB.c x hc2
      have p0 : ∀ x : Cls (GB wr), x.w.cell? ⟨b', o' + k * 3, none⟩ = some (.int .i64 (ge l k).rd) := fun x => GB.c x hd0
      have p1 : ∀ x : Cls (GB wr), x.w.cell? ⟨b', o' + k * 3 + 1, none⟩ = some (.int .i64 (ge l k).sl) := fun x => GB.c x hd1
      have p2 : ∀ x : Cls (GB wr), x.w.cell? ⟨b', o' + k * 3 + 2, none⟩ = some (.slice A2 n2 c2) := fun x => GB.c x hd2
      have hV0 : GB wr wr.drew := (Below.refl _ _).drew
      haveI hne : Nonempty (Cls (GB wr)) := ⟨⟨_, hV0⟩⟩
      clear hc0 hc1 hc2 hd0 hd1 hd2 hr1 hr2
      go_wp2_with fail
      refine wp_region_cls (GB wr) (by kernel_rfl) (by kernel_rfl) hV0 ?_
      repeat (go_big_quiet_step (first | (go_at_call 109; rename_i x; exact cls_call (fun h1 h2 => GB.next h1 h2) (eqMode_self (ge l k).rd (ge l k).sl A1 A2 n1 n2 c1 c2 (ge l k).nx _ (R1.out.up x.h) (R2.out.up x.h) hn1 hn2))))
      refine wpQuiet_nil ?_
      rintro _ ⟨x, rfl⟩
      have hv := below_next (w1 := wr) x.h hb (Nat.le_refl _)
      go_wp2
      go_roundw
      case rel => exact ⟨k + 1, by omega, by go_num, hv⟩
      case measure => simp [intOf]; omega
    · go_wp2
      go_ret
      exact ⟨rfl, hb⟩

set_option maxHeartbeats 4000000 in
theorem eqMedl_self (m m' : Mdv) (M : Mdl) (w : World) (h : RD w w.heap.size m M) (h' : RD w w.heap.size m' M) (hl : ∀ i, i < m.nm → (ge M.ms i).nx.length ≤ 1099511627776) :
    Calls Tryz.prog 14 #[.agg #[.int .i64 m.id, .slice m.An m.nn m.cn, .slice m.Am m.nm m.cm, .slice m.As m.ns m.cs], .agg #[.int .i64 m'.id, .slice m'.An m'.nn m'.cn, .slice m'.Am m'.nm m'.cm, .slice m'.As m'.ns m'.cs]] w (RetV w (.bool true)) := by
  have hid : m'.id = m.id := by rw [← h.id, ← h'.id]
  rw [hid]
  obtain ⟨w0, hw0⟩ : ∃ v, v = (w.alloc (.cells #[.int .i64 m.id, .slice m.An m.nn m.cn, .slice m.Am m.nm m.cm, .slice m.As m.ns m.cs] 37)).alloc (.cells #[.int .i64 m.id, .slice m'.An m'.nn m'.cn, .slice m'.Am m'.nm m'.cm, .slice m'.As m'.ns m'.cs] 37) := ⟨_, rfl⟩
  have k1 : BlkL w0 w.heap.size 37 [.int .i64 m.id, .slice m.An m.nn m.cn, .slice m.Am m.nm m.cm, .slice m.As m.ns m.cs] := by rw [hw0]; exact (BlkL.new _ _ _ rfl).alloc _
  have k2 : BlkL w0 (w.heap.size + 1) 37 [.int .i64 m.id, .slice m'.An m'.nn m'.cn, .slice m'.Am m'.nm m'.cm, .slice m'.As m'.ns m'.cs] := by rw [hw0]; exact BlkL.new _ _ _ (by simp)
  have gb : Below w.heap.size w w0 := by rw [hw0]; go_grown
  go_enter Tryz.func14, Tryz.ntmps14
  go_wp2_with fail
  rw [← hw0]
  clear hw0 hid
  refine (eqNodeS_self m.An m'.An m.nn m'.nn m.cn m'.cn M.ns _ (h.rn.up gb) (h'.rn.up gb) h.bn).mono ?_
  rintro e w1 ⟨rfl, hb1⟩
  have k1' := k1.next hb1
  have k2' := k2.next hb1
  have gb1 := below_next hb1 gb (Nat.le_refl _)
  clear k1 k2 gb hb1
  have f2 := k1'.c 2 rfl
  have g2 := k2'.c 2 rfl
  go_wp2_with fail
  refine (eqModeS_self m.Am m'.Am m.nm m'.nm m.cm m'.cm M.ms _ (h.rm.up gb1) (h'.rm.up gb1) h.bm hl).mono ?_
  rintro e w2 ⟨rfl, hb2⟩
  have k1 := k1'.next hb2
  have k2 := k2'.next hb2
  have gb2 := below_next hb2 gb1 (Nat.le_refl _)
  clear k1' k2' gb1 hb2 f2 g2
  have f2 := k1.c 3 rfl
  have g2 := k2.c 3 rfl
  go_wp2_with fail
  refine (eqSlotS_self m.As m'.As m.ns m'.ns m.cs m'.cs M.ss _ (h.rs.up gb2) (h'.rs.up gb2) h.bs).mono ?_
  rintro e w3 ⟨rfl, hb3⟩
  have gb3 := below_next hb3 gb2 (Nat.le_refl _)
  go_wp2
  go_ret
  exact ⟨rfl, gb3⟩
end Go.Proofs.YtjgmpiefndbnaaaGreatDoor

namespace Go.Proofs.YtjgmpiefndbnaaaGreatDoor
open Go.RowKit
set_option maxHeartbeats 4000000 in
theorem toFrame_any (k r t m d s b : Int) (A : Option Addr) (n c : Nat) (zs : List Int) (w : World) (h : RI w w.heap.size A n zs) (hn : n ≤ 1099511627776) :
    Calls Tryz.prog 26 #[.agg #[.int .i64 k, .int .i64 r, .int .i64 t, .int .i64 m, .int .i64 d, .int .i64 s, .int .i64 b, .slice A n c]] w fun e w' => ∃ A' c', e = .returned (.agg #[.int .i64 k, .int .i64 r, .int .i64 t, .int .i64 m, .int .i64 d, .int .i64 s, .int .i64 b, .slice A' n c']) ∧ OwnI 2 w' w.heap.size A' n c' zs ∧ Below w.heap.size w w' := by
  go_enter Tryz.func26, Tryz.ntmps26
  go_wp2_with fail
  refine (toState_any _ _ _ _ _ _).mono ?_
  rintro e w1 ⟨rfl, hb1⟩
  obtain ⟨hc1, hf1⟩ := bcell hb1
  have hs1 := hb1.size
  simp at hs1
  have hz0 : w.heap.size < w1.heap.size := by omega
  have hz1 : w.heap.size + 1 < w1.heap.size := by omega
  have hz2 : w.heap.size + 2 < w1.heap.size := by omega
  go_wp2_with fail
  refine (toInt64S_any A n c zs _ (h.up ?_) hn).mono ?_
  · exact (by repeat with_reducible (first | exact Below.refl _ _ | refine below_next (by assumption) ?_ (by simp) | refine Below.setCell ?_ (by first | (simp; done) | (simp; omega)) _ | refine Below.drew ?_ | refine below_alloc ?_ (by simp) _))
  rintro e w2 ⟨A2, c2, rfl, hown2, hb2⟩
  obtain ⟨hc2, hf2⟩ := bcell hb2
  have hs2 := hb2.size
  simp at hs2
  have hy1 : w.heap.size + 1 < w2.heap.size := by omega
  have hy2 : w.heap.size + 2 < w2.heap.size := by omega
  go_wp2
  refine bodyPost_ret (v := .agg #[.int .i64 k, .int .i64 r, .int .i64 t, .int .i64 m, .int .i64 d, .int .i64 s, .int .i64 b, .slice A2 n c2]) (by simp [results, Tryz.results26, go_sem, hc1, hc2, hz1]) rfl ⟨A2, c2, rfl, ?_, ?_⟩
  · refine OwnI.weaken (base := w.heap.size + 3) ?_ (by omega)
    repeat with_reducible (first | exact hown2.weaken (by first | (simp; done) | (simp; omega)) | refine OwnI.other ?_ (by first | (simp; done) | (simp; omega)) _)
  · exact (by repeat with_reducible (first | exact Below.refl _ _ | refine below_next (by assumption) ?_ (by simp) | refine Below.setCell ?_ (by first | (simp; done) | (simp; omega)) _ | refine Below.drew ?_ | refine below_alloc ?_ (by simp) _))

end Go.Proofs.YtjgmpiefndbnaaaGreatDoor

namespace Go.Proofs.YtjgmpiefndbnaaaGreatDoor
open Go.RowKit
set_option maxHeartbeats 4000000 in
theorem eqFrame_self (k r t m d s b : Int) (A A' : Option Addr) (n c c' : Nat) (zs : List Int) (w : World) (h : RI w w.heap.size A n zs) (h' : RI w w.heap.size A' n zs) (hn : n ≤ 1099511627776) :
    Calls Tryz.prog 28 #[.agg #[.int .i64 k, .int .i64 r, .int .i64 t, .int .i64 m, .int .i64 d, .int .i64 s, .int .i64 b, .slice A n c], .agg #[.int .i64 k, .int .i64 r, .int .i64 t, .int .i64 m, .int .i64 d, .int .i64 s, .int .i64 b, .slice A' n c']] w (RetV w (.bool true)) := by
  go_enter Tryz.func28, Tryz.ntmps28
  go_wp2_with fail
  refine (eqState_self _ _ _ _ _ _).mono ?_
  rintro e w1 ⟨rfl, hb1⟩
  obtain ⟨hc1, hf1⟩ := bcell hb1
  go_wp2_with fail
  refine (eqInt64S_any A A' n n c c' zs zs _ (h.up ?_) (h'.up ?_) hn hn).mono ?_
  · exact (by repeat with_reducible (first | exact Below.refl _ _ | refine below_next (by assumption) ?_ (by simp) | refine Below.setCell ?_ (by first | (simp; done) | (simp; omega)) _ | refine Below.drew ?_ | refine below_alloc ?_ (by simp) _))
  · exact (by repeat with_reducible (first | exact Below.refl _ _ | refine below_next (by assumption) ?_ (by simp) | refine Below.setCell ?_ (by first | (simp; done) | (simp; omega)) _ | refine Below.drew ?_ | refine below_alloc ?_ (by simp) _))
  rw [eqI_self]
  rintro e w2 ⟨rfl, hb2⟩
  go_wp2
  go_ret
  exact ⟨rfl, (by repeat with_reducible (first | exact Below.refl _ _ | refine below_next (by assumption) ?_ (by simp) | refine Below.setCell ?_ (by first | (simp; done) | (simp; omega)) _ | refine Below.drew ?_ | refine below_alloc ?_ (by simp) _))⟩

set_option maxHeartbeats 4000000 in
theorem eqVerdict_self (x : Vdt) (A A' : Option Addr) (n c c' : Nat) (zs : List Int) (w : World) (h : RI w w.heap.size A n zs) (h' : RI w w.heap.size A' n zs) (hn : n ≤ 1099511627776) :
    Calls Tryz.prog 37 #[aggV x A n c, aggV x A' n c'] w (RetV w (.bool true)) := by
  unfold aggV
  go_enter Tryz.func37, Tryz.ntmps37
  go_wp2_with fail
  refine (eqFrame_self _ _ _ _ _ _ _ A A' n c c' zs _ (h.up ?_) (h'.up ?_) hn).mono ?_
  · exact (by repeat with_reducible (first | exact Below.refl _ _ | refine below_next (by assumption) ?_ (by simp) | refine Below.setCell ?_ (by first | (simp; done) | (simp; omega)) _ | refine Below.drew ?_ | refine below_alloc ?_ (by simp) _))
  · exact (by repeat with_reducible (first | exact Below.refl _ _ | refine below_next (by assumption) ?_ (by simp) | refine Below.setCell ?_ (by first | (simp; done) | (simp; omega)) _ | refine Below.drew ?_ | refine below_alloc ?_ (by simp) _))
  rintro e w2 ⟨rfl, hb2⟩
  go_wp2
  go_ret
  exact ⟨rfl, (by repeat with_reducible (first | exact Below.refl _ _ | refine below_next (by assumption) ?_ (by simp) | refine Below.setCell ?_ (by first | (simp; done) | (simp; omega)) _ | refine Below.drew ?_ | refine below_alloc ?_ (by simp) _))⟩
end Go.Proofs.YtjgmpiefndbnaaaGreatDoor
