/- Walks, laws and small notions for the claims of this seat, several texts as one (Sf, Sv, Sg, Sh, Si, Sk, Su, Sm). Conditions: as each theorem states them. -/
import Derived.Test.YtbaojbheopcjhaaGreatDoorB6
import Derived.Test.YtbaojbheopcjhaaGreatDoorB5
import Derived.Deep.DeepCutAuto
import Derived.Test.YtbaojbheopcjhaaGreatDoorB7
namespace Go.Proofs.YtbaojbheopcjhaaGreatDoor
open Go.RowKit

theorem atKey_cases (x : Sl) (md rn st : Int) : ((x.md == md) = false ∧ atKey md rn st x = false) ∨ ((x.md == md) = true ∧ (x.rn == rn) = false ∧ atKey md rn st x = false)
    ∨ ((x.md == md) = true ∧ (x.rn == rn) = true ∧ (x.st == st) = false ∧ atKey md rn st x = false) ∨ ((x.md == md) = true ∧ (x.rn == rn) = true ∧ (x.st == st) = true ∧ atKey md rn st x = true) := by
  unfold atKey
  by_cases h1 : x.md = md <;> by_cases h2 : x.rn = rn <;> by_cases h3 : x.st = st <;> simp [h1, h2, h3]

set_option maxHeartbeats 4000000 in
theorem l12Find_any (A : Option Addr) (n c : Nat) (l : List Sl) (md rn st : Int) (w : World) (h : RE encSl 8 w w.heap.size A n l) (hn : n ≤ 1099511627776) :
    Calls Tryz.prog 80 #[.slice A n c, .int .i64 md, .int .i64 rn, .int .i64 st] w fun e w' => e = .returned (.int .i64 (idxZ (atKey md rn st) l)) ∧ w = w' := by
  have L := Lib.hid h.len
  go_enter Tryz.func80, Tryz.ntmps80
  go_wp2
  go_loop [9] (fun i => ∃ k : Nat, k ≤ n ∧ i = .int .i64 k ∧ ∀ i, i < k → atKey md rn st (ge l i) = false) (fun i => n - (intOf i).toNat)
  case atStart => exact ⟨0, Nat.zero_le _, rfl, fun i hi => absurd hi (by omega)⟩
  case round =>
    obtain ⟨k, hk, rfl, hall⟩ := hrel
    have Hall := Lib.hid hall
    clear hall
    by_cases hlt : k < n
    · obtain ⟨b, o, rfl, hbl, hc⟩ := h.get (by omega)
      have hc0 := hc k hlt 0 _ rfl
      have hc1 := hc k hlt 1 _ rfl
      have hc2 := hc k hlt 2 _ rfl
      clear hc
      rw [Nat.add_zero] at hc0
      rcases atKey_cases (ge l k) md rn st with ⟨k1, ka⟩ | ⟨k1, k2, ka⟩ | ⟨k1, k2, k3, ka⟩ | ⟨k1, k2, k3, ka⟩
      case inr.inr.inr =>
        have HK := Lib.hid ka
        clear ka
        go_wp2
        go_ret
        exact ⟨by rw [idxZ_at (by rw [L.out]; exact hlt) Hall.out HK.out]; rfl, rfl⟩
      all_goals
        have HK := Lib.hid ka
        clear ka
        go_wp2
        go_round
        case rel => exact ⟨k + 1, by omega, by go_num, fun i hi => by
          by_cases hik : i = k
          · subst hik; exact HK.out
          · exact Hall.out i (by omega)⟩
        case measure => simp [intOf]; omega
    · have hz := idxZ_none (p := atKey md rn st) (l := l) (fun i hi => Hall.out i (by have := L.out; omega))
      have Hz := Lib.hid hz
      clear hz
      go_wp2
      go_ret
      exact ⟨by rw [Hz.out]; rfl, rfl⟩

set_option maxHeartbeats 4000000 in
theorem keyF_any (x : Sl) (g1 g2 g3 : Nat) (md rn st : Int) (w : World) (h1 : w.cell? ⟨g1, 0, none⟩ = some (.int .i64 md)) (h2 : w.cell? ⟨g2, 0, none⟩ = some (.int .i64 rn)) (h3 : w.cell? ⟨g3, 0, none⟩ = some (.int .i64 st)) :
    Calls Tryz.prog 112 #[.agg #[.int .i64 x.md, .int .i64 x.rn, .int .i64 x.st, .int .i64 x.nd, .int .i64 x.kd, .int .i64 x.sz, .int .i64 x.du, .bool x.ch], .pointer (some ⟨g1, 0, none⟩), .pointer (some ⟨g2, 0, none⟩), .pointer (some ⟨g3, 0, none⟩)] w (RetV w (.bool (atKey md rn st x))) := by
  have l1 := World.block_lt_of_cell? _ _ h1
  have l2 := World.block_lt_of_cell? _ _ h2
  have l3 := World.block_lt_of_cell? _ _ h3
  rcases atKey_cases x md rn st with ⟨k1, ka⟩ | ⟨k1, k2, ka⟩ | ⟨k1, k2, k3, ka⟩ | ⟨k1, k2, k3, ka⟩
  all_goals
    have HK := Lib.hid ka
    clear ka
    go_enter Tryz.func112, Tryz.ntmps112
    go_wp2
    go_ret
    exact ⟨ret_bool (by rw [HK.out]), by go_grown⟩

set_option maxHeartbeats 4000000 in
theorem findSlot_any (A : Option Addr) (n c : Nat) (l : List Sl) (md rn st : Int) (w : World) (h : RE encSl 8 w w.heap.size A n l) (hn : n ≤ 1099511627776) :
    Calls Tryz.prog 73 #[.slice A n c, .int .i64 md, .int .i64 rn, .int .i64 st] w (RetV w (.int .i64 (idxZ (atKey md rn st) l))) := by
  obtain ⟨w0, hw0⟩ : ∃ v, v = ((w.alloc (.cells #[.int .i64 md] 2)).alloc (.cells #[.int .i64 rn] 2)).alloc (.cells #[.int .i64 st] 2) := ⟨_, rfl⟩
  have hB1 : BlkL w0 w.heap.size 2 [.int .i64 md] := by rw [hw0]; exact ((BlkL.new w _ _ rfl).alloc _).alloc _
  have hB2 : BlkL w0 (w.heap.size + 1) 2 [.int .i64 rn] := by rw [hw0]; exact (BlkL.new _ _ _ (by simp)).alloc _
  have hB3 : BlkL w0 (w.heap.size + 1 + 1) 2 [.int .i64 st] := by rw [hw0]; exact BlkL.new _ _ _ (by simp)
  have gb : Below w.heap.size w w0 := by rw [hw0]; go_grown
  have hI := idxF_any #[.pointer (some ⟨w.heap.size, 0, none⟩), .pointer (some ⟨w.heap.size + 1, 0, none⟩), .pointer (some ⟨w.heap.size + 1 + 1, 0, none⟩)] (atKey md rn st) A n c l w0 (h.up gb) hn
    (fun i _ w' hw' => keyF_any _ _ _ _ _ _ _ _ ((Below.cell hw' hB1.lt).trans (hB1.c 0 rfl)) ((Below.cell hw' hB2.lt).trans (hB2.c 0 rfl)) ((Below.cell hw' hB3.lt).trans (hB3.c 0 rfl)))
  generalize idxZ (atKey md rn st) l = z at hI ⊢
  go_enter Tryz.func73, Tryz.ntmps73
  go_wp2_with fail
  rw [← hw0]
  refine hI.mono ?_
  rintro e w1 ⟨rfl, hb1⟩
  go_wp2
  go_ret
  exact ⟨rfl, below_next hb1 gb (Nat.le_refl _)⟩
end Go.Proofs.YtbaojbheopcjhaaGreatDoor

namespace Go.Proofs.YtbaojbheopcjhaaGreatDoor
open Go.RowKit

theorem wrap_pow {k : Nat} (hk : k < 32) : wrap64 ((2 : Int) ^ k) = ((2 ^ k : Nat) : Int) := by
  have hp : (2 : Nat) ^ k < 4294967296 := show (2 : Nat) ^ k < 2 ^ 32 from Nat.pow_lt_pow_right (by omega) hk
  rw [show ((2 : Int) ^ k) = ((2 ^ k : Nat) : Int) by simp]
  generalize (2 : Nat) ^ k = p at hp ⊢
  exact IntWalk.wrap64_in _ (by omega)

set_option maxHeartbeats 4000000 in
theorem has_any (B k : Nat) (hk : k < 32) (hB : B < 4294967296) (w : World) :
    Calls Tryz.prog 143 #[.int .i64 B, .int .i64 k] w fun e w' => e = .returned (.bool (decide (B / 2 ^ k % 2 = 1))) ∧ w = w' := by
  have E : bits .and .i64 ((B : Int) / 2 ^ k) 1 = ((B / 2 ^ k % 2 : Nat) : Int) := by
    rw [show ((B : Int) / 2 ^ k) = ((B / 2 ^ k : Nat) : Int) by simp, show (1 : Int) = ((1 : Nat) : Int) from rfl, bits_and_i64_nat _ _ (by have := Nat.div_le_self B (2 ^ k); omega) (by omega), Nat.and_one_is_mod]
  have E' := Lib.hid E
  clear E
  go_enter Tryz.func143, Tryz.ntmps143
  go_wp2_with fail
  go_ret
  refine ⟨ret_bool ?_, rfl⟩
  rw [E'.out]
  rcases Nat.mod_two_eq_zero_or_one (B / 2 ^ k) with h | h <;> rw [h] <;> rfl

set_option maxHeartbeats 4000000 in
theorem l05Set_any (B k : Nat) (hk : k < 32) (hB : B < 4294967296) (w : World) :
    Calls Tryz.prog 129 #[.int .i64 B, .int .i64 k, .bool true] w fun e w' => e = .returned (.int .i64 ((B ||| 2 ^ k : Nat) : Int)) ∧ w = w' := by
  have hp : (2 : Nat) ^ k < 4294967296 := show (2 : Nat) ^ k < 2 ^ 32 from Nat.pow_lt_pow_right (by omega) hk
  have E := Lib.hid (bits_xor_i64_nat B (2 ^ k) (by omega) (by omega))
  have EW := Lib.hid (wrap_pow hk)
  rcases bool_cases (decide (B / 2 ^ k % 2 = 1)) with hb | hb
  · have HB := Lib.hid (show B ||| 2 ^ k = B from or_same (by rw [← has_bit]; exact hb))
    go_enter Tryz.func129, Tryz.ntmps129
    go_wp2_with fail
    refine (l05Has_any B k hk hB _).mono ?_
    rw [hb]
    rintro e w' ⟨rfl, rfl⟩
    clear hb
    go_wp2
    go_ret
    exact ⟨by rw [HB.out]; rfl, rfl⟩
  · have HB := Lib.hid (show B ^^^ 2 ^ k = B ||| 2 ^ k from xor_or (by rw [← has_bit]; exact hb))
    go_enter Tryz.func129, Tryz.ntmps129
    go_wp2_with fail
    refine (l05Has_any B k hk hB _).mono ?_
    rw [hb]
    rintro e w' ⟨rfl, rfl⟩
    clear hb
    go_wp2
    go_ret
    exact ⟨by rw [← HB.out, ← E.out, ← EW.out]; rfl, rfl⟩

set_option maxHeartbeats 4000000 in
theorem activeVector_any (A : Option Addr) (n c : Nat) (l : List Nd) (w : World) (h : RE encNd 4 w w.heap.size A n l) (hn : n ≤ 1099511627776) (hd : ∀ i, i < l.length → isNd (ge l i) = true) :
    Calls Tryz.prog 110 #[.slice A n c] w (RetV w (.int .i64 (actV l : Nat))) := by
  have L := Lib.hid h.len
  go_enter Tryz.func110, Tryz.ntmps110
  go_wp2
  go_loopw [8, 3, 5] (fun i v _ wr => ∃ k : Nat, k ≤ n ∧ i = .int .i64 k ∧ v = .int .i64 (actV (l.take k) : Nat) ∧ Below w.heap.size w wr) (fun i _ _ _ => n - (intOf i).toNat)
  case atStart => exact ⟨0, Nat.zero_le _, rfl, rfl, Below.refl _ _⟩
  case round =>
    obtain ⟨k, hk, rfl, rfl, hb⟩ := hrel
    have hlt32 := actV_lt hd k (by have := L.out; omega)
    by_cases hlt : k < n
    · obtain ⟨b, o, rfl, hbl, hc⟩ := (h.below hb (Nat.le_refl _)).get (by omega)
      have hc0 := hc k hlt 0 _ rfl
      have hc1 := hc k hlt 1 _ rfl
      have hc2 := hc k hlt 2 _ rfl
      have hc3 := hc k hlt 3 _ rfl
      clear hc
      rw [Nat.add_zero] at hc0
      have HS := Lib.hid (show actV (l.take (k + 1)) = if (ge l k).ps then actV (l.take k) else actV (l.take k) ||| 2 ^ (ge l k).id.toNat by rw [take_ge (by rw [L.out]; exact hlt), actV_app])
      have hnd := hd k (by rw [L.out]; exact hlt)
      unfold isNd at hnd; simp only [Bool.and_eq_true] at hnd
      have hid := inR_iff.1 hnd.1
      clear hnd
      obtain ⟨m, hm⟩ : ∃ m : Nat, (ge l k).id = m := ⟨(ge l k).id.toNat, by omega⟩
      rw [hm] at hc0 HS hid
      rw [Int.toNat_natCast] at HS
      have hm32 : m < 32 := by omega
      have hp : (2 : Nat) ^ m < 4294967296 := show (2 : Nat) ^ m < 2 ^ 32 from Nat.pow_lt_pow_right (by omega) hm32
      generalize actV (l.take k) = B at HS hlt32 ⊢
      have EW := Lib.hid (wrap_pow hm32)
      have EO := Lib.hid (bits_or_i64_nat B (2 ^ m) (by omega) (by omega))
      rcases bool_cases (ge l k).ps with hps | hps
      · rw [hps] at hc3 HS
        go_wp2
        go_roundw
        case rel => exact ⟨k + 1, by omega, by go_num, by rw [HS.out]; rfl, below_next (w1 := wr) (by go_grown) hb (Nat.le_refl _)⟩
        case measure => simp [intOf]; omega
      · rw [hps] at hc3 HS
        go_wp2_with fail
        go_roundw
        case rel => exact ⟨k + 1, by omega, by go_num, by rw [HS.out, if_neg (by simp), ← EO.out, ← EW.out], below_next (w1 := wr) (by go_grown) hb (Nat.le_refl _)⟩
        case measure => simp [intOf]; omega
    · have hkn : k = n := by omega
      have HZ := Lib.hid (show actV (l.take k) = actV l by rw [List.take_of_length_le (by rw [L.out]; omega)])
      go_wp2
      go_ret
      exact ⟨by rw [HZ.out]; rfl, hb⟩

set_option maxHeartbeats 4000000 in
theorem l10Active_any (A : Option Addr) (n c : Nat) (l : List Nd) (w : World) (h : RE encNd 4 w w.heap.size A n l) (hn : n ≤ 1099511627776) (hd : ∀ i, i < l.length → isNd (ge l i) = true) :
    Calls Tryz.prog 86 #[.slice A n c] w fun e w' => e = .returned (.int .i64 (actV l : Nat)) ∧ w = w' := by
  have L := Lib.hid h.len
  go_enter Tryz.func86, Tryz.ntmps86
  go_wp2
  go_loop [4, 3] (fun i v => ∃ k : Nat, k ≤ n ∧ i = .int .i64 k ∧ v = .int .i64 (actV (l.take k) : Nat)) (fun i _ => n - (intOf i).toNat)
  case atStart => exact ⟨0, Nat.zero_le _, rfl, rfl⟩
  case round =>
    obtain ⟨k, hk, rfl, rfl⟩ := hrel
    have hlt32 := actV_lt hd k (by have := L.out; omega)
    by_cases hlt : k < n
    · obtain ⟨b, o, rfl, hbl, hc⟩ := h.get (by omega)
      have hc0 := hc k hlt 0 _ rfl
      have hc3 := hc k hlt 3 _ rfl
      clear hc
      rw [Nat.add_zero] at hc0
      have HS := Lib.hid (show actV (l.take (k + 1)) = if (ge l k).ps then actV (l.take k) else actV (l.take k) ||| 2 ^ (ge l k).id.toNat by rw [take_ge (by rw [L.out]; exact hlt), actV_app])
      have hnd := hd k (by rw [L.out]; exact hlt)
      unfold isNd at hnd; simp only [Bool.and_eq_true] at hnd
      have hid := inR_iff.1 hnd.1
      clear hnd
      obtain ⟨m, hm⟩ : ∃ m : Nat, (ge l k).id = m := ⟨(ge l k).id.toNat, by omega⟩
      rw [hm] at hc0 HS hid
      rw [Int.toNat_natCast] at HS
      have hm32 : m < 32 := by omega
      generalize actV (l.take k) = B at HS hlt32 ⊢
      rcases bool_cases (ge l k).ps with hps | hps
      · rw [hps] at hc3 HS
        go_wp2
        go_round
        case rel => exact ⟨k + 1, by omega, by go_num, by rw [HS.out]; rfl⟩
        case measure => simp [intOf]; omega
      · rw [hps] at hc3 HS
        go_wp2_with fail
        refine (l05Set_any B m hm32 hlt32 _).mono ?_
        rintro e w' ⟨rfl, rfl⟩
        go_wp2
        go_round
        case rel => exact ⟨k + 1, by omega, by go_num, by rw [HS.out, if_neg (by simp)]⟩
        case measure => simp [intOf]; omega
    · have hkn : k = n := by omega
      have HZ := Lib.hid (show actV (l.take k) = actV l by rw [List.take_of_length_le (by rw [L.out]; omega)])
      clear hkn
      go_wp2
      go_ret
      exact ⟨by rw [HZ.out]; rfl, rfl⟩
end Go.Proofs.YtbaojbheopcjhaaGreatDoor

namespace Go.Proofs.YtbaojbheopcjhaaGreatDoor
open Go.RowKit

/-- a schedule lies in block g, a box of the call's own -/
structure BM (w0 : World) (g : Nat) (m : Mdv) (M : Mdl) (v : World) : Prop where
  k : BlkL v g 28 [.int .i64 m.id, .slice m.An m.nn m.cn, .slice m.Am m.nm m.cm, .slice m.As m.ns m.cs]
  rd : RD v v.heap.size m M
  bel : Below w0.heap.size w0 v
theorem BM.next {w0 u v : World} {g : Nat} {m : Mdv} {M : Mdl} (h : BM w0 g m M u) (hb : Below u.heap.size u v) : BM w0 g m M v := ⟨h.k.next hb, h.rd.up hb, below_next hb h.bel (Nat.le_refl _)⟩
theorem BM.drew {w0 u : World} {g : Nat} {m : Mdv} {M : Mdl} (h : BM w0 g m M u) : BM w0 g m M u.drew := h.next (Below.refl _ _).drew
theorem BM.drewN {w0 u : World} {g : Nat} {m : Mdv} {M : Mdl} (h : BM w0 g m M u) (j : Nat) : BM w0 g m M (u.drewN j) := h.next (below_drewN (Below.refl _ _) j)
theorem BM.box {w : World} {m : Mdv} {M : Mdl} (h : RD w w.heap.size m M) : BM w w.heap.size m M (w.alloc (.cells #[.int .i64 m.id, .slice m.An m.nn m.cn, .slice m.Am m.nm m.cm, .slice m.As m.ns m.cs] 28)) :=
  ⟨BlkL.new _ _ _ rfl, h.up (by go_grown), by go_grown⟩

/- the places of the first modes -/
def enumTo (ms : List Mk) (k : Nat) : List (Int × Int × Int) := (List.range k).flatMap fun md => enumOne md (ge ms md)
theorem enumTo_full (ms : List Mk) : enumTo ms ms.length = enumM ms := rfl
theorem enumTo_succ (ms : List Mk) (k : Nat) : enumTo ms (k + 1) = enumTo ms k ++ enumOne k (ge ms k) := by unfold enumTo; rw [List.range_succ, List.flatMap_append]; simp
theorem enumOne_len (k : Nat) (x : Mk) : (enumOne k x).length = (x.rd * x.sl).toNat := by unfold enumOne; simp
theorem enumTo_len (ms : List Mk) (k : Nat) : (enumTo ms (k + 1)).length = (enumTo ms k).length + ((ge ms k).rd * (ge ms k).sl).toNat := by rw [enumTo_succ, List.length_append, enumOne_len]
theorem enumTo_pre (ms : List Mk) (k : Nat) : ∀ d, ∃ X, enumTo ms (k + d) = enumTo ms k ++ X
  | 0 => ⟨[], by simp⟩
  | d + 1 => by
    obtain ⟨X, h⟩ := enumTo_pre ms k d
    exact ⟨X ++ enumOne (k + d) (ge ms (k + d)), by rw [← Nat.add_assoc, enumTo_succ, h, List.append_assoc]⟩
theorem enumTo_le (ms : List Mk) {k n : Nat} (h : k ≤ n) : (enumTo ms k).length ≤ (enumTo ms n).length := by
  obtain ⟨X, e⟩ := enumTo_pre ms k (n - k)
  rw [show k + (n - k) = n by omega] at e
  rw [e, List.length_append]; omega
theorem enum_get {ms : List Mk} {k i : Nat} (hk : k < ms.length) (hi : (i : Int) < (ge ms k).rd * (ge ms k).sl) :
    (enumM ms)[(enumTo ms k).length + i]? = some ((k : Int), (i : Int) / (ge ms k).sl, (i : Int) % (ge ms k).sl) := by
  obtain ⟨X, e⟩ := enumTo_pre ms (k + 1) (ms.length - (k + 1))
  rw [show k + 1 + (ms.length - (k + 1)) = ms.length by omega, enumTo_full] at e
  rw [e, List.getElem?_append_left (by rw [enumTo_len]; omega), enumTo_succ, List.getElem?_append_right (by omega), Nat.add_sub_cancel_left]
  unfold enumOne
  rw [List.getElem?_map, List.getElem?_range (by omega)]
  rfl
theorem mode_prod {ms : List Mk} (h : isMT ms = true) {k : Nat} (hk : k < ms.length) : 1 ≤ (ge ms k).rd * (ge ms k).sl ∧ (ge ms k).rd * (ge ms k).sl ≤ 128 := by
  obtain ⟨a, b, c, d⟩ := isMT_at h hk
  constructor
  · have := Int.mul_le_mul a c (by omega) (by omega); omega
  · have := Int.mul_le_mul b d (by omega) (by omega); omega
theorem enumTo_bd {ms : List Mk} (h : isMT ms = true) : ∀ k, k ≤ ms.length → (enumTo ms k).length ≤ 128 * k
  | 0, _ => by simp [enumTo]
  | k + 1, hk => by
    have ih := enumTo_bd h k (by omega)
    have := mode_prod h (k := k) (by omega)
    rw [enumTo_len]; omega
theorem find_neg (l : List Sl) (md rn st : Int) : idxZ (atKey md rn st) l < 0 ↔ ¬ (md, rn, st) ∈ l.map keyS := by
  have := findI_lt (l := l) (md := md) (rn := rn) (st := st)
  unfold findI at this
  rw [← this]
  unfold idxZ
  split
  · exact ⟨fun h => by omega, fun h => absurd (by assumption) h⟩
  · exact ⟨fun _ => by assumption, fun _ => by omega⟩
end Go.Proofs.YtbaojbheopcjhaaGreatDoor

namespace Go.Proofs.YtbaojbheopcjhaaGreatDoor
open Go.RowKit

set_option maxHeartbeats 4000000 in
theorem sComplete_any (m : Mdv) (M : Mdl) (w : World) (h : RD w w.heap.size m M) (hm : isMT M.ms = true) (hs : isST M.ss = true) :
    Calls Tryz.prog 162 #[.agg #[.int .i64 m.id, .slice m.An m.nn m.cn, .slice m.Am m.nm m.cm, .slice m.As m.ns m.cs]] w (RetV w (.bool (compl M))) := by
  have LM := Lib.hid h.rm.len
  have LS := Lib.hid h.rs.len
  have hBM := BM.box h
  have hml := isMT_len hm
  have hsl := isST_len hs
  rw [LM.out] at hml
  rw [LS.out] at hsl
  have HM := Lib.hid hm
  have HCI := Lib.hid (compl_iff hm hs)
  clear hm hs
  go_enter Tryz.func162, Tryz.ntmps162
  go_wp2
  go_loopw [4, 3, 5, 6] (fun i v _ _ wr => ∃ k : Nat, k ≤ m.nm ∧ i = .int .i64 k ∧ v = .int .i64 ((enumTo M.ms k).length : Nat) ∧ (∀ md : Nat, md < k → ∀ r s : Nat, (r : Int) < (ge M.ms md).rd → (s : Int) < (ge M.ms md).sl → ((md : Int), (r : Int), (s : Int)) ∈ M.ss.map keyS) ∧ BM w w.heap.size m M wr) (fun i _ _ _ _ => m.nm - (intOf i).toNat)
  case atStart => exact ⟨0, Nat.zero_le _, rfl, rfl, fun md hmd => absurd hmd (by omega), hBM⟩
  case round =>
    obtain ⟨k, hk, rfl, rfl, hall, hB⟩ := hrel
    have Hall := Lib.hid hall
    clear hall hBM
    have c0 := hB.k.c 0 rfl
    have c2 := hB.k.c 2 rfl
    have c3 := hB.k.c 3 rfl
    have hlen : (enumTo M.ms k).length ≤ 2048 := by have := enumTo_bd HM.out k (by rw [LM.out]; exact hk); omega
    by_cases hlt : k < m.nm
    · obtain ⟨b, o, A', n', c', eA, hbl, h0, h1, h2, hm', hr⟩ := hB.rd.rm.get hlt
      have hbd := isMT_at HM.out (i := k) (by rw [LM.out]; exact hlt)
      have hpr := mode_prod HM.out (k := k) (by rw [LM.out]; exact hlt)
      have HEL := Lib.hid (enumTo_len M.ms k)
      rw [eA] at c2
      clear eA
      obtain ⟨R, hR⟩ : ∃ R, (ge M.ms k).rd = R := ⟨_, rfl⟩
      obtain ⟨S, hS⟩ : ∃ S, (ge M.ms k).sl = S := ⟨_, rfl⟩
      rw [hR] at h0 hbd hpr HEL
      rw [hS] at h1 hbd hpr HEL
      have HRS := Lib.hid (And.intro hR hS)
      clear hR hS
      obtain ⟨E, hE⟩ : ∃ E, (enumTo M.ms k).length = E := ⟨_, rfl⟩
      rw [hE] at hlen HEL ⊢
      clear hE
      go_wp2_with fail
      go_loopw [5, 3, 6] (fun i v _ wr => ∃ r : Nat, (r : Int) ≤ R ∧ i = .int .i64 r ∧ v = .int .i64 ((E : Int) + r * S) ∧ (∀ a s : Nat, (a : Int) < r → (s : Int) < S → ((k : Int), (a : Int), (s : Int)) ∈ M.ss.map keyS) ∧ BM w w.heap.size m M wr) (fun i _ _ _ => R.toNat - (intOf i).toNat)
      case atStart => exact ⟨0, by omega, rfl, by simp, fun a s ha => by omega, hB⟩
      case round =>
        clear h0 h1 h2 c0 c2 c3
        obtain ⟨r, hr1, rfl, rfl, hall2, hB2⟩ := hrel
        have Hall2 := Lib.hid hall2
        clear hall2
        have d2 := hB2.k.c 2 rfl
        have d3 := hB2.k.c 3 rfl
        obtain ⟨b2, o2, A2, n2, c2, eA2, hbl2, g0, g1, g2, hm2, hr2⟩ := hB2.rd.rm.get hlt
        rw [HRS.out.1] at g0
        rw [HRS.out.2] at g1
        rw [eA2] at d2
        clear eA2
        have hrS : 0 ≤ (r : Int) * S ∧ (r : Int) * S ≤ 128 := ⟨Int.mul_nonneg (by omega) (by omega), by have := Int.mul_le_mul hr1 (Int.le_refl S) (by omega) (by omega); omega⟩
        by_cases hlr : (r : Int) < R
        · obtain ⟨P, hP⟩ : ∃ P, (r : Int) * S = P := ⟨_, rfl⟩
          rw [hP] at hrS ⊢
          have HP := Lib.hid hP
          clear hP
          go_wp2_with fail
          go_loopw [6, 3] (fun i v wr => ∃ s : Nat, (s : Int) ≤ S ∧ i = .int .i64 s ∧ v = .int .i64 ((E : Int) + P + s) ∧ (∀ a : Nat, (a : Int) < s → ((k : Int), (r : Int), (a : Int)) ∈ M.ss.map keyS) ∧ BM w w.heap.size m M wr) (fun i _ _ => S.toNat - (intOf i).toNat)
          case atStart => exact ⟨0, by omega, rfl, by simp, fun a ha => by omega, hB2⟩
          case round =>
            clear g0 g1 g2 d2 d3
            obtain ⟨s, hs1, rfl, rfl, hall3, hB3⟩ := hrel
            have Hall3 := Lib.hid hall3
            clear hall3
            have e2 := hB3.k.c 2 rfl
            have e3 := hB3.k.c 3 rfl
            obtain ⟨b3, o3, A3, n3, c3, eA3, hbl3, f0, f1, f2, hm3, hr3⟩ := hB3.rd.rm.get hlt
            rw [HRS.out.2] at f1
            rw [eA3] at e2
            clear eA3
            by_cases hls : (s : Int) < S
            · have hN := find_neg M.ss k r s
              have hq := fun v => l12Find_any m.As m.ns m.cs M.ss k r s v
              obtain ⟨z, hz⟩ : ∃ z, idxZ (atKey k r s) M.ss = z := ⟨_, rfl⟩
              rw [hz] at hN hq
              clear hz
              have hzb := hB3.rd.bs
              have HN := Lib.hid hN
              clear hN
              go_wp2_with fail
              refine (hq _ hB3.rd.rs hB3.rd.bs).mono ?_
              rintro e w' ⟨rfl, rfl⟩
              by_cases hz0 : z < 0
              · have HZ := Lib.hid hz0
                go_wp2
                go_ret
                exact ⟨ret_bool (Bool.eq_false_iff.2 fun hc => (HN.out.1 HZ.out) ((HCI.out.1 hc).1 k (by rw [LM.out]; exact hlt) r s (by rw [HRS.out.1]; exact hlr) (by rw [HRS.out.2]; exact hls))).symm, hB3.bel⟩
              · have HZ := Lib.hid hz0
                go_wp2
                go_roundw
                case rel => exact ⟨s + 1, by omega, by go_num, by go_num, fun a ha => by
                  by_cases hae : a = s
                  · subst hae; exact Decidable.byContradiction fun hn => by have h1 := HN.out.2 hn; have h2 := HZ.out; omega
                  · exact Hall3.out a (by omega), hB3⟩
                case measure => simp [intOf]; omega
            · have hse : (s : Int) = S := by omega
              have HSE := Lib.hid hse
              go_wp2
              go_roundw
              case rel => exact ⟨r + 1, by omega, by go_num, by rw [show ((r + 1 : Nat) : Int) * S = P + S by rw [Int.natCast_add, Int.add_mul, HP.out]; simp]; go_num, fun a s' ha hs' => by
                by_cases hae : a = r
                · subst hae; exact Hall3.out s' (by have := HSE.out; omega)
                · exact Hall2.out a s' (by omega) hs', hB3⟩
              case measure => simp [intOf]; omega
        · have hre : (r : Int) = R := by omega
          have HRE := Lib.hid hre
          go_wp2
          go_roundw
          case rel => exact ⟨k + 1, by omega, by go_num, by rw [HEL.out, ← HRE.out]; go_num, fun md hmd a s ha hs' => by
            by_cases hae : md = k
            · subst hae; exact Hall2.out a s (by rw [HRE.out]; rw [HRS.out.1] at ha; exact ha) (by rw [HRS.out.2] at hs'; exact hs')
            · exact Hall.out md (by omega) a s ha hs', hB2⟩
          case measure => simp [intOf]; omega
    · have hkn : k = m.nm := by omega
      have HZ := Lib.hid (show compl M = decide ((enumTo M.ms k).length = m.ns) by
        rw [Bool.eq_iff_iff, decide_eq_true_eq, HCI.out, ← LS.out, ← enumTo_full, show M.ms.length = k by rw [LM.out, hkn]]
        exact ⟨fun hh => hh.2, fun hh => ⟨fun md hmd => Hall.out md hmd, hh⟩⟩)
      clear hkn
      go_wp2
      go_ret
      exact ⟨ret_bool (by rw [HZ.out, Bool.eq_iff_iff]; simp; omega), hB.bel⟩
end Go.Proofs.YtbaojbheopcjhaaGreatDoor

namespace Go.Proofs.YtbaojbheopcjhaaGreatDoor
open Go.RowKit

theorem all_yes {α : Type} [Inhabited α] {l : List α} {p : α → Bool} (h : ∀ i, i < l.length → p (ge l i) = true) : l.all p = true := by
  rw [List.all_eq_true]
  intro x hx
  obtain ⟨i, hi, rfl⟩ := List.mem_iff_getElem.1 hx
  rw [← ge_lt hi]; exact h i hi
theorem all_not {α : Type} [Inhabited α] {l : List α} {p : α → Bool} {k : Nat} (hk : k < l.length) (h : p (ge l k) = false) : l.all p = false := by
  refine Bool.eq_false_iff.2 fun ht => ?_
  have := List.all_eq_true.1 ht _ (mem_ge hk)
  rw [h] at this; cases this

set_option maxHeartbeats 4000000 in
theorem sSenders_any (m : Mdv) (M : Mdl) (w : World) (h : RD w w.heap.size m M) (hnt : isNT M.ns = true) (hst : isST M.ss = true) :
    Calls Tryz.prog 163 #[.agg #[.int .i64 m.id, .slice m.An m.nn m.cn, .slice m.Am m.nm m.cm, .slice m.As m.ns m.cs]] w (RetV w (.bool (senders M))) := by
  have LS := Lib.hid h.rs.len
  have hBM := BM.box h
  have hsl := isST_len hst
  rw [LS.out] at hsl
  have hact := actV_full hnt
  have HST := Lib.hid hst
  have hq := fun v (hv : RE encNd 4 v v.heap.size m.An m.nn M.ns) => l10Active_any m.An m.nn m.cn M.ns v hv h.bn (fun i hi => isNT_nd hnt hi)
  have HSE := Lib.hid (show senders M = M.ss.all fun x => decide (actV M.ns / 2 ^ x.nd.toNat % 2 = 1) from rfl)
  generalize actV M.ns = V at hq HSE hact
  clear hnt hst
  go_enter Tryz.func163, Tryz.ntmps163
  go_wp2_with fail
  refine (hq _ (hBM.rd.rn)).mono ?_
  rintro e w' ⟨rfl, rfl⟩
  go_wp2
  go_loopw [4] (fun i wr => ∃ k : Nat, k ≤ m.ns ∧ i = .int .i64 k ∧ (∀ i, i < k → decide (V / 2 ^ (ge M.ss i).nd.toNat % 2 = 1) = true) ∧ BM w w.heap.size m M wr) (fun i _ => m.ns - (intOf i).toNat)
  case atStart => exact ⟨0, Nat.zero_le _, rfl, fun i hi => absurd hi (by omega), hBM⟩
  case round =>
    obtain ⟨k, hk, rfl, hall, hB⟩ := hrel
    have Hall := Lib.hid hall
    clear hall hBM
    have c3 := hB.k.c 3 rfl
    by_cases hlt : k < m.ns
    · obtain ⟨b, o, eA, hbl, hc⟩ := hB.rd.rs.get (by omega)
      have hc3 := hc k hlt 3 _ rfl
      clear hc
      rw [eA] at c3
      clear eA
      have hbd := isSl_bd (isST_sl HST.out (i := k) (by rw [LS.out]; exact hlt))
      obtain ⟨nd, hnd⟩ : ∃ nd : Nat, (ge M.ss k).nd = nd := ⟨(ge M.ss k).nd.toNat, by omega⟩
      have HN := Lib.hid hnd
      have hn32 : nd < 32 := by omega
      rw [hnd] at hc3
      clear hnd hbd
      rcases bool_cases (decide (V / 2 ^ nd % 2 = 1)) with hv | hv
      all_goals
        have HV := Lib.hid hv
        go_wp2_with fail
        refine (l05Has_any V nd hn32 hact _).mono ?_
        rw [hv]
        clear hv
        rintro e w' ⟨rfl, rfl⟩
        go_wp2
      · go_roundw
        case rel => exact ⟨k + 1, by omega, by go_num, fun i hi => by
          by_cases hik : i = k
          · subst hik; rw [HN.out, Int.toNat_natCast]; exact HV.out
          · exact Hall.out i (by omega), hB⟩
        case measure => simp [intOf]; omega
      · go_ret
        exact ⟨ret_bool (by rw [HSE.out, all_not (k := k) (by rw [LS.out]; exact hlt) (by rw [HN.out, Int.toNat_natCast]; exact HV.out)]), hB.bel⟩
    · have HZ := Lib.hid (show senders M = true by rw [HSE.out]; exact all_yes fun i hi => Hall.out i (by have := LS.out; omega))
      go_wp2
      go_ret
      exact ⟨ret_bool (by rw [HZ.out]), hB.bel⟩

set_option maxHeartbeats 4000000 in
theorem sCycle_any (m : Mdv) (M : Mdl) (md : Int) (w : World) (h : RD w w.heap.size m M) (hst : isST M.ss = true) :
    Calls Tryz.prog 165 #[.agg #[.int .i64 m.id, .slice m.An m.nn m.cn, .slice m.Am m.nm m.cm, .slice m.As m.ns m.cs], .int .i64 md] w (RetV w (.int .i64 (sumD M.ss md))) := by
  have LS := Lib.hid h.rs.len
  have hBM := BM.box h
  have hsl := isST_len hst
  rw [LS.out] at hsl
  have HST := Lib.hid hst
  clear hst
  go_enter Tryz.func165, Tryz.ntmps165
  go_wp2
  go_loopw [6, 5] (fun i v wr => ∃ k : Nat, k ≤ m.ns ∧ i = .int .i64 k ∧ v = .int .i64 (sumD (M.ss.take k) md) ∧ BM w w.heap.size m M wr) (fun i _ _ => m.ns - (intOf i).toNat)
  case atStart => exact ⟨0, Nat.zero_le _, rfl, rfl, hBM⟩
  case round =>
    obtain ⟨k, hk, rfl, rfl, hB⟩ := hrel
    clear hBM
    have c3 := hB.k.c 3 rfl
    have hsb := sumD_bd (fun i hi => isST_sl HST.out hi) md k (by rw [LS.out]; exact hk)
    by_cases hlt : k < m.ns
    · obtain ⟨b, o, eA, hbl, hc⟩ := hB.rd.rs.get (by omega)
      have hc0 := hc k hlt 0 _ rfl
      have hc6 := hc k hlt 6 _ rfl
      clear hc
      rw [Nat.add_zero] at hc0
      rw [eA] at c3
      clear eA
      have hbd := isSl_bd (isST_sl HST.out (i := k) (by rw [LS.out]; exact hlt))
      have HS := Lib.hid (show sumD (M.ss.take (k + 1)) md = if (ge M.ss k).md = md then sumD (M.ss.take k) md + (ge M.ss k).du else sumD (M.ss.take k) md by rw [take_ge (by rw [LS.out]; exact hlt), sumD_app])
      generalize sumD (M.ss.take k) md = V at HS hsb ⊢
      rcases num_cases (ge M.ss k).md md with ⟨q, q'⟩ | ⟨q, q'⟩
      · have HQ := Lib.hid q'
        clear q'
        go_wp2
        go_roundw
        case rel => exact ⟨k + 1, by omega, by go_num, by rw [HS.out, if_pos HQ.out], hB⟩
        case measure => simp [intOf]; omega
      · have HQ := Lib.hid q'
        clear q'
        go_wp2
        go_roundw
        case rel => exact ⟨k + 1, by omega, by go_num, by rw [HS.out, if_neg HQ.out], hB⟩
        case measure => simp [intOf]; omega
    · have HZ := Lib.hid (show sumD (M.ss.take k) md = sumD M.ss md by rw [List.take_of_length_le (by rw [LS.out]; omega)])
      go_wp2
      go_ret
      exact ⟨by rw [HZ.out]; rfl, hB.bel⟩
end Go.Proofs.YtbaojbheopcjhaaGreatDoor

namespace Go.Proofs.YtbaojbheopcjhaaGreatDoor
open Go.RowKit

set_option maxHeartbeats 4000000 in
theorem sServed_any (m : Mdv) (M : Mdl) (w : World) (h : RD w w.heap.size m M) (hnt : isNT M.ns = true) (hmt : isMT M.ms = true) (hst : isST M.ss = true) :
    Calls Tryz.prog 166 #[.agg #[.int .i64 m.id, .slice m.An m.nn m.cn, .slice m.Am m.nm m.cm, .slice m.As m.ns m.cs]] w (RetV w (.bool (served M))) := by
  have LM := Lib.hid h.rm.len
  have LS := Lib.hid h.rs.len
  have hBM := BM.box h
  have hsl := isST_len hst
  rw [LS.out] at hsl
  have hml := isMT_len hmt
  rw [LM.out] at hml
  have hact := actV_full hnt
  have HST := Lib.hid hst
  have HMT := Lib.hid hmt
  have hq := fun v (hv : RE encNd 4 v v.heap.size m.An m.nn M.ns) => l10Active_any m.An m.nn m.cn M.ns v hv h.bn (fun i hi => isNT_nd hnt hi)
  have HSE := Lib.hid (show ∀ md, servedAt M md = (List.range (ge M.ms md).rd.toNat).all fun (rn : Nat) => decide (sendV M.ss md rn = actV M.ns) from fun _ => rfl)
  generalize actV M.ns = V at hq HSE hact
  clear hnt hst hmt
  go_enter Tryz.func166, Tryz.ntmps166
  go_wp2_with fail
  refine (hq _ (hBM.rd.rn)).mono ?_
  rintro e w' ⟨rfl, rfl⟩
  clear hq
  go_wp2
  go_loopw [4, 5, 6, 7] (fun i _ _ _ wr => ∃ k : Nat, k ≤ m.nm ∧ i = .int .i64 k ∧ (∀ i, i < k → servedAt M i = true) ∧ BM w w.heap.size m M wr) (fun i _ _ _ _ => m.nm - (intOf i).toNat)
  case atStart => exact ⟨0, Nat.zero_le _, rfl, fun i hi => absurd hi (by omega), hBM⟩
  case round =>
    obtain ⟨k, hk, rfl, hall, hB⟩ := hrel
    have Hall := Lib.hid hall
    clear hall hBM
    have c2 := hB.k.c 2 rfl
    by_cases hlt : k < m.nm
    · have hbd := isMT_at HMT.out (i := k) (by rw [LM.out]; exact hlt)
      have hSA := HSE.out k
      obtain ⟨R, hR⟩ : ∃ R : Nat, (ge M.ms k).rd = R := ⟨(ge M.ms k).rd.toNat, by omega⟩
      have HR := Lib.hid hR
      rw [hR] at hbd hSA
      rw [Int.toNat_natCast] at hSA
      have HSA := Lib.hid hSA
      clear hR hSA
      go_wp2_with fail
      go_loopw [5, 6, 7] (fun i _ _ wr => ∃ r : Nat, r ≤ R ∧ i = .int .i64 r ∧ (∀ a : Nat, a < r → decide (sendV M.ss k a = V) = true) ∧ BM w w.heap.size m M wr) (fun i _ _ _ => R - (intOf i).toNat)
      case atStart => exact ⟨0, by omega, rfl, fun a ha => absurd ha (by omega), hB⟩
      case round =>
        obtain ⟨r, hr1, rfl, hall2, hB2⟩ := hrel
        have Hall2 := Lib.hid hall2
        clear hall2 c2
        have d2 := hB2.k.c 2 rfl
        have d3 := hB2.k.c 3 rfl
        obtain ⟨b2, o2, A2, n2, c2, eA2, hbl2, g0, g1, g2, hm2, hr2⟩ := hB2.rd.rm.get hlt
        rw [HR.out] at g0
        rw [eA2] at d2
        clear eA2 g1 g2 hm2 hr2
        by_cases hlr : r < R
        · go_wp2_with fail
          go_loopw [7, 6] (fun i v wr => ∃ j : Nat, j ≤ m.ns ∧ i = .int .i64 j ∧ v = .int .i64 (sendV (M.ss.take j) k r : Nat) ∧ BM w w.heap.size m M wr) (fun i _ _ => m.ns - (intOf i).toNat)
          case atStart => exact ⟨0, by omega, rfl, rfl, hB2⟩
          case round =>
            clear g0 d2 d3
            obtain ⟨j, hj1, rfl, rfl, hB3⟩ := hrel
            have e3 := hB3.k.c 3 rfl
            have hsv := sendV_lt (fun i hi => isST_sl HST.out hi) k r j (by rw [LS.out]; exact hj1)
            by_cases hlj : j < m.ns
            · obtain ⟨b3, o3, eA3, hbl3, hc⟩ := hB3.rd.rs.get (by omega)
              have hc0 := hc j hlj 0 _ rfl
              have hc1 := hc j hlj 1 _ rfl
              have hc3 := hc j hlj 3 _ rfl
              clear hc
              rw [Nat.add_zero] at hc0
              rw [eA3] at e3
              clear eA3
              have hsb := isSl_bd (isST_sl HST.out (i := j) (by rw [LS.out]; exact hlj))
              obtain ⟨nd, hnd⟩ : ∃ nd : Nat, (ge M.ss j).nd = nd := ⟨(ge M.ss j).nd.toNat, by omega⟩
              have hn32 : nd < 32 := by omega
              have hS : sendV (M.ss.take (j + 1)) k r = if (ge M.ss j).md = k ∧ (ge M.ss j).rn = r then sendV (M.ss.take j) k r ||| 2 ^ nd else sendV (M.ss.take j) k r := by
                rw [take_ge (by rw [LS.out]; exact hlj), sendV_app, hnd, Int.toNat_natCast]
              have HS := Lib.hid hS
              clear hS
              rw [hnd] at hc3
              clear hnd hsb
              generalize sendV (M.ss.take j) k r = B at HS hsv ⊢
              rcases num_cases (ge M.ss j).md k with ⟨q1, q1'⟩ | ⟨q1, q1'⟩
              · rcases num_cases (ge M.ss j).rn r with ⟨q2, q2'⟩ | ⟨q2, q2'⟩
                · have HQ := Lib.hid (And.intro q1' q2')
                  clear q1' q2'
                  go_wp2_with fail
                  refine (l05Set_any B nd hn32 hsv _).mono ?_
                  rintro e w' ⟨rfl, rfl⟩
                  go_wp2
                  go_roundw
                  case rel => exact ⟨j + 1, by omega, by go_num, by rw [HS.out, if_pos HQ.out], hB3⟩
                  case measure => simp [intOf]; omega
                · have HQ := Lib.hid q2'
                  clear q1' q2'
                  go_wp2
                  go_roundw
                  case rel => exact ⟨j + 1, by omega, by go_num, by rw [HS.out, if_neg (fun hh => HQ.out hh.2)], hB3⟩
                  case measure => simp [intOf]; omega
              · have HQ := Lib.hid q1'
                clear q1'
                go_wp2
                go_roundw
                case rel => exact ⟨j + 1, by omega, by go_num, by rw [HS.out, if_neg (fun hh => HQ.out hh.1)], hB3⟩
                case measure => simp [intOf]; omega
            · have HJ := Lib.hid (show M.ss.take j = M.ss by rw [List.take_of_length_le (by rw [LS.out]; omega)])
              rw [HJ.out] at hsv ⊢
              clear HJ
              obtain ⟨B, hBv⟩ : ∃ B, sendV M.ss k r = B := ⟨_, rfl⟩
              rw [hBv] at hsv ⊢
              have HBV := Lib.hid hBv
              clear hBv
              by_cases hBV : B = V
              · have HQ := Lib.hid hBV
                have hqq : ((B : Int) != (V : Int)) = false := by simp [hBV]
                clear hBV
                go_wp2
                go_roundw
                case rel => exact ⟨r + 1, by omega, by go_num, fun a ha => by
                  by_cases hae : a = r
                  · subst hae; rw [HBV.out, HQ.out]; simp
                  · exact Hall2.out a (by omega), hB3⟩
                case measure => simp [intOf]; omega
              · have HQ := Lib.hid hBV
                have hqq : ((B : Int) != (V : Int)) = true := by simp; omega
                clear hBV
                go_wp2
                go_ret
                exact ⟨ret_bool (by
                  have h1 : servedAt M k = false := by rw [HSA.out]; exact range_all_no hlr (by rw [HBV.out]; exact decide_eq_false HQ.out)
                  unfold served; rw [range_all_no (by rw [LM.out]; exact hlt) h1]), hB3.bel⟩
        · have hre : r = R := by omega
          have HRE := Lib.hid hre
          clear hre
          go_wp2
          go_roundw
          case rel => exact ⟨k + 1, by omega, by go_num, fun i hi => by
            by_cases hae : i = k
            · subst hae; rw [HSA.out]; exact List.all_eq_true.2 fun a ha => Hall2.out a (by have := List.mem_range.1 ha; have := HRE.out; omega)
            · exact Hall.out i (by omega), hB2⟩
          case measure => simp [intOf]; omega
    · have HZ := Lib.hid (show served M = true from List.all_eq_true.2 fun i hi => Hall.out i (by have := List.mem_range.1 hi; have := LM.out; omega))
      go_wp2
      go_ret
      exact ⟨ret_bool (by rw [HZ.out]), hB.bel⟩
end Go.Proofs.YtbaojbheopcjhaaGreatDoor

namespace Go.Proofs.YtbaojbheopcjhaaGreatDoor
open Go.RowKit

def stdAt (M : Mdl) (i k : Nat) : Bool := !(decide ((ge M.ss i).md = (ge M.ss k).md) && (decide ((ge M.ss i).st = (ge M.ss k).st) && !decide ((ge M.ss i).du = (ge M.ss k).du)))
theorem steady_def (M : Mdl) : steady M = (List.range M.ss.length).all fun i => (List.range i).all fun k => stdAt M i k := rfl
theorem steady_no {M : Mdl} {i k : Nat} (hi : i < M.ss.length) (hk : k < i) (h : stdAt M i k = false) : steady M = false := by
  rw [steady_def]; exact range_all_no hi (range_all_no hk h)
theorem std_cases (M : Mdl) (i k : Nat) : (((ge M.ss i).md == (ge M.ss k).md) = false ∧ stdAt M i k = true) ∨ (((ge M.ss i).md == (ge M.ss k).md) = true ∧ ((ge M.ss i).st == (ge M.ss k).st) = false ∧ stdAt M i k = true)
    ∨ (((ge M.ss i).md == (ge M.ss k).md) = true ∧ ((ge M.ss i).st == (ge M.ss k).st) = true ∧ ((ge M.ss i).du != (ge M.ss k).du) = false ∧ stdAt M i k = true)
    ∨ (((ge M.ss i).md == (ge M.ss k).md) = true ∧ ((ge M.ss i).st == (ge M.ss k).st) = true ∧ ((ge M.ss i).du != (ge M.ss k).du) = true ∧ stdAt M i k = false) := by
  unfold stdAt
  by_cases h1 : (ge M.ss i).md = (ge M.ss k).md <;> by_cases h2 : (ge M.ss i).st = (ge M.ss k).st <;> by_cases h3 : (ge M.ss i).du = (ge M.ss k).du <;> simp [h1, h2, h3]

set_option maxHeartbeats 4000000 in
theorem sDurations_any (m : Mdv) (M : Mdl) (w : World) (h : RD w w.heap.size m M) :
    Calls Tryz.prog 164 #[.agg #[.int .i64 m.id, .slice m.An m.nn m.cn, .slice m.Am m.nm m.cm, .slice m.As m.ns m.cs]] w (RetV w (.bool (steady M))) := by
  have LS := Lib.hid h.rs.len
  have hBM := BM.box h
  have hsl : m.ns ≤ 1099511627776 := h.bs
  go_enter Tryz.func164, Tryz.ntmps164
  go_wp2
  go_loopw [3, 4, 5, 6] (fun i _ _ _ wr => ∃ k : Nat, k ≤ m.ns ∧ i = .int .i64 k ∧ (∀ i j, i < k → j < i → stdAt M i j = true) ∧ BM w w.heap.size m M wr) (fun i _ _ _ _ => m.ns - (intOf i).toNat)
  case atStart => exact ⟨0, Nat.zero_le _, rfl, fun i j hi => absurd hi (by omega), hBM⟩
  case round =>
    obtain ⟨k, hk, rfl, hall, hB⟩ := hrel
    have Hall := Lib.hid hall
    clear hall hBM
    have c3 := hB.k.c 3 rfl
    by_cases hlt : k < m.ns
    · go_wp2_with fail
      go_loopw [4, 5, 6] (fun i _ _ wr => ∃ j : Nat, j ≤ k ∧ i = .int .i64 j ∧ (∀ a, a < j → stdAt M k a = true) ∧ BM w w.heap.size m M wr) (fun i _ _ _ => k - (intOf i).toNat)
      case atStart => exact ⟨0, by omega, rfl, fun a ha => absurd ha (by omega), hB⟩
      case round =>
        clear c3
        obtain ⟨j, hj1, rfl, hall2, hB2⟩ := hrel
        have Hall2 := Lib.hid hall2
        clear hall2
        have d3 := hB2.k.c 3 rfl
        by_cases hlj : j < k
        · obtain ⟨b, o, eA, hbl, hc⟩ := hB2.rd.rs.get (by omega)
          rw [eA] at d3
          clear eA
          have hx0 := hc k hlt 0 _ rfl
          have hx1 := hc k hlt 1 _ rfl
          have hx2 := hc k hlt 2 _ rfl
          have hx3 := hc k hlt 3 _ rfl
          have hx4 := hc k hlt 4 _ rfl
          have hx5 := hc k hlt 5 _ rfl
          have hx6 := hc k hlt 6 _ rfl
          have hx7 := hc k hlt 7 _ rfl
          have hy0 := hc j (by omega) 0 _ rfl
          have hy1 := hc j (by omega) 1 _ rfl
          have hy2 := hc j (by omega) 2 _ rfl
          have hy3 := hc j (by omega) 3 _ rfl
          have hy4 := hc j (by omega) 4 _ rfl
          have hy5 := hc j (by omega) 5 _ rfl
          have hy6 := hc j (by omega) 6 _ rfl
          have hy7 := hc j (by omega) 7 _ rfl
          clear hc
          rw [Nat.add_zero] at hx0 hy0
          have hgl := hB2.k.lt
          go_upto_region 7 with fail
          go_cut [5, 6] (fun va vb wc => ∃ g1 g2, va = .pointer (some ⟨g1, 0, none⟩) ∧ vb = .pointer (some ⟨g2, 0, none⟩) ∧ BlkL wc g1 102 (encSl (ge M.ss k)) ∧ BlkL wc g2 102 (encSl (ge M.ss j)) ∧ BM w w.heap.size m M wc)
          case first =>
            go_region
            all_goals
              go_wp2_with fail
              go_meet
              exact ⟨_, _, rfl, rfl, by first | exact (BlkL.new _ _ _ (by simp)).drew | exact ((BlkL.new _ _ _ (by simp)).alloc _).drew, by first | exact (BlkL.new _ _ _ (by simp)).drew | exact ((BlkL.new _ _ _ (by simp)).alloc _).drew, hB2.next (by go_grown)⟩
          case rest =>
            obtain ⟨g1, g2, rfl, rfl, k1, k2, hB3⟩ := hcut
            have x0 := k1.c 0 rfl
            have x2 := k1.c 2 rfl
            have x6 := k1.c 6 rfl
            have y0 := k2.c 0 rfl
            have y2 := k2.c 2 rfl
            have y6 := k2.c 6 rfl
            clear k1 k2
            rcases std_cases M k j with ⟨q1, qs⟩ | ⟨q1, q2, qs⟩ | ⟨q1, q2, q3, qs⟩ | ⟨q1, q2, q3, qs⟩
            case inr.inr.inr =>
              have HQ := Lib.hid qs
              clear qs
              go_wp2
              go_ret
              exact ⟨ret_bool (by rw [steady_no (by rw [LS.out]; exact hlt) hlj HQ.out]), hB3.bel⟩
            all_goals
              have HQ := Lib.hid qs
              clear qs
              go_wp2
              go_roundw
              case rel => exact ⟨j + 1, by omega, by go_num, fun a ha => by
                by_cases hae : a = j
                · subst hae; exact HQ.out
                · exact Hall2.out a (by omega), hB3⟩
              case measure => simp [intOf]; omega
        · have HJ := Lib.hid (show j = k by omega)
          go_wp2
          go_roundw
          case rel => exact ⟨k + 1, by omega, by go_num, fun i j' hi hj => by
            by_cases hik : i = k
            · subst hik; exact Hall2.out j' (by have := HJ.out; omega)
            · exact Hall.out i j' (by omega) hj, hB2⟩
          case measure => simp [intOf]; omega
    · have HZ := Lib.hid (show steady M = true by
        rw [steady_def]
        refine List.all_eq_true.2 fun i hi => List.all_eq_true.2 fun j hj => ?_
        have h1 := List.mem_range.1 hi
        have h2 := List.mem_range.1 hj
        rw [LS.out] at h1
        exact Hall.out i j (by omega) h2)
      go_wp2
      go_ret
      exact ⟨ret_bool (by rw [HZ.out]), hB.bel⟩
end Go.Proofs.YtbaojbheopcjhaaGreatDoor

namespace Go.Proofs.YtbaojbheopcjhaaGreatDoor
open Go.RowKit

/-- what more is known of a schedule's value -/
structure RX (m : Mdv) (M : Mdl) : Prop where
  nmb : ∀ i, i < m.nn → (ge M.ns i).nm.size ≤ 1099511627776
  nxb : ∀ i, i < m.nm → (ge M.ms i).nx.length ≤ 1099511627776
  cap : m.nn ≤ m.cn
def coldAt (x : Sl) : Bool := decide (x.kd = 3) && !decide (x.md = 0)
theorem cold_def (M : Mdl) : cold M = M.ss.any coldAt := rfl
theorem cold_cases (x : Sl) : ((x.kd == 3) = false ∧ coldAt x = false) ∨ ((x.kd == 3) = true ∧ (x.md != 0) = false ∧ coldAt x = false) ∨ ((x.kd == 3) = true ∧ (x.md != 0) = true ∧ coldAt x = true) := by
  unfold coldAt
  by_cases h1 : x.kd = 3 <;> by_cases h2 : x.md = 0 <;> simp [h1, h2]
theorem any_one {α : Type} [Inhabited α] {l : List α} {p : α → Bool} {k : Nat} (hk : k < l.length) (h : p (ge l k) = true) : l.any p = true := List.any_eq_true.2 ⟨_, mem_ge hk, h⟩
theorem any_none {α : Type} [Inhabited α] {l : List α} {p : α → Bool} (h : ∀ i, i < l.length → p (ge l i) = false) : l.any p = false := by
  rw [List.any_eq_false]
  intro x hx
  obtain ⟨i, hi, rfl⟩ := List.mem_iff_getElem.1 hx
  rw [← ge_lt hi, h i hi]; simp

set_option maxHeartbeats 8000000 in
theorem sFirstFault_any (m : Mdv) (M : Mdl) (w : World) (h : RD w w.heap.size m M) (hx : RX m M) :
    Calls Tryz.prog 116 #[.agg #[.int .i64 m.id, .slice m.An m.nn m.cn, .slice m.Am m.nm m.cm, .slice m.As m.ns m.cs]] w fun e w' => ∃ v : Int, e = .returned (.int .i64 v) ∧ (v == 0) = isMedl M ∧ Below w.heap.size w w' := by
  have LM := Lib.hid h.rm.len
  have LS := Lib.hid h.rs.len
  have HX := Lib.hid hx
  have hBM := BM.box h
  have hid := h.id
  have E := Lib.hid (show isMedl M = (inR M.id 1 16777215 && (isNT M.ns && (isMT M.ms && (isST M.ss && (compl M && (senders M && (steady M && (shortM M && (served M && !cold M))))))))) from rfl)
  rw [hid] at E
  clear hx hid
  go_enter Tryz.func116, Tryz.ntmps116
  have hB := hBM
  clear hBM
  have c0 := hB.k.c 0 rfl
  have c1 := hB.k.c 1 rfl
  have c2 := hB.k.c 2 rfl
  have c3 := hB.k.c 3 rfl
  go_wp2_with fail
  rcases bool_cases (inR m.id 1 16777215) with hT | hT
  case inr =>
    refine (in_yes_s hT _).mono ?_
    have FT := Lib.hid hT
    rintro e w' ⟨rfl, rfl⟩
    go_wp2
    go_ret
    exact ⟨_, rfl, by rw [E.out, FT.out]; rfl, hB.bel⟩
  have F0 := Lib.hid hT
  refine (in_yes_s hT _).mono ?_
  rintro e w' ⟨rfl, rfl⟩
  clear hT c0 c1 c2 c3
  have c0 := hB.k.c 0 rfl
  have c1 := hB.k.c 1 rfl
  have c2 := hB.k.c 2 rfl
  have c3 := hB.k.c 3 rfl
  go_wp2_with fail
  rcases bool_cases (isNT M.ns) with hT | hT
  case inr =>
    refine (sIsNodeTable_any m.An m.nn m.cn M.ns _ hB.rd.rn hB.rd.bn HX.out.nmb).mono ?_
    rw [hT]
    have FT := Lib.hid hT
    clear hT
    rintro e w1 ⟨rfl, hb1⟩
    have hB' := hB.next hb1
    go_wp2
    go_ret
    exact ⟨_, rfl, by rw [E.out, F0.out, FT.out]; rfl, hB'.bel⟩
  have F1 := Lib.hid hT
  refine (sIsNodeTable_any m.An m.nn m.cn M.ns _ hB.rd.rn hB.rd.bn HX.out.nmb).mono ?_
  rw [hT]
  clear hT c0 c1 c2 c3
  rintro e w21 ⟨rfl, hb1⟩
  have hB' := hB.next hb1
  clear hB hb1
  have hB := hB'
  clear hB'
  have c0 := hB.k.c 0 rfl
  have c1 := hB.k.c 1 rfl
  have c2 := hB.k.c 2 rfl
  have c3 := hB.k.c 3 rfl
  go_wp2_with fail
  rcases bool_cases (isMT M.ms) with hT | hT
  case inr =>
    refine (sIsModeTable_any m.Am m.nm m.cm M.ms _ hB.rd.rm hB.rd.bm HX.out.nxb).mono ?_
    rw [hT]
    have FT := Lib.hid hT
    clear hT
    rintro e w1 ⟨rfl, hb1⟩
    have hB' := hB.next hb1
    go_wp2
    go_ret
    exact ⟨_, rfl, by rw [E.out, F0.out, F1.out, FT.out]; rfl, hB'.bel⟩
  have F2 := Lib.hid hT
  refine (sIsModeTable_any m.Am m.nm m.cm M.ms _ hB.rd.rm hB.rd.bm HX.out.nxb).mono ?_
  rw [hT]
  clear hT c0 c1 c2 c3
  rintro e w22 ⟨rfl, hb1⟩
  have hB' := hB.next hb1
  clear hB hb1
  have hB := hB'
  clear hB'
  have c0 := hB.k.c 0 rfl
  have c1 := hB.k.c 1 rfl
  have c2 := hB.k.c 2 rfl
  have c3 := hB.k.c 3 rfl
  go_wp2_with fail
  rcases bool_cases (isST M.ss) with hT | hT
  case inr =>
    refine (sIsSlotTable_any m.As m.ns m.cs M.ss _ hB.rd.rs hB.rd.bs).mono ?_
    rw [hT]
    have FT := Lib.hid hT
    clear hT
    rintro e w1 ⟨rfl, hb1⟩
    have hB' := hB.next hb1
    go_wp2
    go_ret
    exact ⟨_, rfl, by rw [E.out, F0.out, F1.out, F2.out, FT.out]; rfl, hB'.bel⟩
  have F3 := Lib.hid hT
  refine (sIsSlotTable_any m.As m.ns m.cs M.ss _ hB.rd.rs hB.rd.bs).mono ?_
  rw [hT]
  clear hT c0 c1 c2 c3
  rintro e w23 ⟨rfl, hb1⟩
  have hB' := hB.next hb1
  clear hB hb1
  have hB := hB'
  clear hB'
  have c0 := hB.k.c 0 rfl
  have c1 := hB.k.c 1 rfl
  have c2 := hB.k.c 2 rfl
  have c3 := hB.k.c 3 rfl
  go_wp2_with fail
  rcases bool_cases (compl M) with hT | hT
  case inr =>
    refine (sComplete_any m M _ hB.rd F2.out F3.out).mono ?_
    rw [hT]
    have FT := Lib.hid hT
    clear hT
    rintro e w1 ⟨rfl, hb1⟩
    have hB' := hB.next hb1
    go_wp2
    go_ret
    exact ⟨_, rfl, by rw [E.out, F0.out, F1.out, F2.out, F3.out, FT.out]; rfl, hB'.bel⟩
  have F4 := Lib.hid hT
  refine (sComplete_any m M _ hB.rd F2.out F3.out).mono ?_
  rw [hT]
  clear hT c0 c1 c2 c3
  rintro e w24 ⟨rfl, hb1⟩
  have hB' := hB.next hb1
  clear hB hb1
  have hB := hB'
  clear hB'
  have c0 := hB.k.c 0 rfl
  have c1 := hB.k.c 1 rfl
  have c2 := hB.k.c 2 rfl
  have c3 := hB.k.c 3 rfl
  go_wp2_with fail
  rcases bool_cases (senders M) with hT | hT
  case inr =>
    refine (sSenders_any m M _ hB.rd F1.out F3.out).mono ?_
    rw [hT]
    have FT := Lib.hid hT
    clear hT
    rintro e w1 ⟨rfl, hb1⟩
    have hB' := hB.next hb1
    go_wp2
    go_ret
    exact ⟨_, rfl, by rw [E.out, F0.out, F1.out, F2.out, F3.out, F4.out, FT.out]; rfl, hB'.bel⟩
  have F5 := Lib.hid hT
  refine (sSenders_any m M _ hB.rd F1.out F3.out).mono ?_
  rw [hT]
  clear hT c0 c1 c2 c3
  rintro e w25 ⟨rfl, hb1⟩
  have hB' := hB.next hb1
  clear hB hb1
  have hB := hB'
  clear hB'
  have c0 := hB.k.c 0 rfl
  have c1 := hB.k.c 1 rfl
  have c2 := hB.k.c 2 rfl
  have c3 := hB.k.c 3 rfl
  go_wp2_with fail
  rcases bool_cases (steady M) with hT | hT
  case inr =>
    refine (sDurations_any m M _ hB.rd).mono ?_
    rw [hT]
    have FT := Lib.hid hT
    clear hT
    rintro e w1 ⟨rfl, hb1⟩
    have hB' := hB.next hb1
    go_wp2
    go_ret
    exact ⟨_, rfl, by rw [E.out, F0.out, F1.out, F2.out, F3.out, F4.out, F5.out, FT.out]; rfl, hB'.bel⟩
  have F6 := Lib.hid hT
  refine (sDurations_any m M _ hB.rd).mono ?_
  rw [hT]
  clear hT c0 c1 c2 c3
  rintro e w26 ⟨rfl, hb1⟩
  have hB' := hB.next hb1
  clear hB hb1
  have hB := hB'
  clear hB'
  have c0 := hB.k.c 0 rfl
  have c1 := hB.k.c 1 rfl
  have c2 := hB.k.c 2 rfl
  have c3 := hB.k.c 3 rfl
  have hml := isMT_len F2.out
  rw [LM.out] at hml
  have hsl := isST_len F3.out
  rw [LS.out] at hsl
  go_wp2
  clear c0 c1 c2 c3
  go_loopw [3] (fun i wr => ∃ k : Nat, k ≤ m.nm ∧ i = .int .i64 k ∧ (∀ md : Nat, md < k → decide (sumD M.ss md ≤ 32000) = true) ∧ BM w w.heap.size m M wr) (fun i _ => m.nm - (intOf i).toNat)
  case atStart => exact ⟨0, Nat.zero_le _, rfl, fun md hmd => absurd hmd (by omega), hB⟩
  case round =>
    obtain ⟨k, hk, rfl, hall, hB1⟩ := hrel
    have Hall := Lib.hid hall
    clear hall
    have c0 := hB1.k.c 0 rfl
    have c1 := hB1.k.c 1 rfl
    have c2 := hB1.k.c 2 rfl
    have c3 := hB1.k.c 3 rfl
    by_cases hlt : k < m.nm
    · have hsb := sumD_bd (fun i hi => isST_sl F3.out hi) k M.ss.length (Nat.le_refl _)
      rw [List.take_length, LS.out] at hsb
      go_wp2_with fail
      refine (sCycle_any m M k _ hB1.rd F3.out).mono ?_
      rintro e w1 ⟨rfl, hb1⟩
      have hB2 := hB1.next hb1
      clear c0 c1 c2 c3 hb1
      obtain ⟨z, hz⟩ : ∃ z, sumD M.ss k = z := ⟨_, rfl⟩
      rw [hz] at hsb ⊢
      have HZ := Lib.hid hz
      clear hz
      by_cases hz : z ≤ 32000
      · have HQ := Lib.hid hz
        go_wp2
        go_roundw
        case rel => exact ⟨k + 1, by omega, by go_num, fun md hmd => by
          by_cases hme : md = k
          · subst hme; rw [HZ.out]; exact decide_eq_true HQ.out
          · exact Hall.out md (by omega), hB2⟩
        case measure => simp [intOf]; omega
      · have HQ := Lib.hid (show decide (sumD M.ss k ≤ 32000) = false by rw [HZ.out]; exact decide_eq_false hz)
        go_wp2
        go_ret
        exact ⟨_, rfl, by rw [E.out, F0.out, F1.out, F2.out, F3.out, F4.out, F5.out, F6.out, show shortM M = false from range_all_no (by rw [LM.out]; exact hlt) HQ.out]; rfl, hB2.bel⟩
    · have F7 := Lib.hid (show shortM M = true from List.all_eq_true.2 fun i hi => Hall.out i (by have := List.mem_range.1 hi; have := LM.out; omega))
      clear Hall
      go_wp2_with fail
      rcases bool_cases (served M) with hT | hT
      case inr =>
        refine (sServed_any m M _ hB1.rd F1.out F2.out F3.out).mono ?_
        rw [hT]
        have FT := Lib.hid hT
        clear hT
        rintro e w1 ⟨rfl, hb1⟩
        have hB' := hB1.next hb1
        go_wp2
        go_ret
        exact ⟨_, rfl, by rw [E.out, F0.out, F1.out, F2.out, F3.out, F4.out, F5.out, F6.out, F7.out, FT.out]; rfl, hB'.bel⟩
      have F8 := Lib.hid hT
      refine (sServed_any m M _ hB1.rd F1.out F2.out F3.out).mono ?_
      rw [hT]
      clear hT c0 c1 c2 c3
      rintro e w30 ⟨rfl, hb1⟩
      have hB3 := hB1.next hb1
      clear hb1
      go_wp2
      go_loopw [4] (fun i wr => ∃ j : Nat, j ≤ m.ns ∧ i = .int .i64 j ∧ (∀ a, a < j → coldAt (ge M.ss a) = false) ∧ BM w w.heap.size m M wr) (fun i _ => m.ns - (intOf i).toNat)
      case atStart => exact ⟨0, Nat.zero_le _, rfl, fun a ha => absurd ha (by omega), hB3⟩
      case round =>
        obtain ⟨j, hj, rfl, hall2, hB4⟩ := hrel
        have Hall2 := Lib.hid hall2
        clear hall2
        have d3 := hB4.k.c 3 rfl
        by_cases hlj : j < m.ns
        · obtain ⟨b, o, eA, hbl, hc⟩ := hB4.rd.rs.get (by omega)
          have hc0 := hc j hlj 0 _ rfl
          have hc4 := hc j hlj 4 _ rfl
          clear hc
          rw [Nat.add_zero] at hc0
          rw [eA] at d3
          clear eA
          rcases cold_cases (ge M.ss j) with ⟨q1, qs⟩ | ⟨q1, q2, qs⟩ | ⟨q1, q2, qs⟩
          case inr.inr =>
            have HQ := Lib.hid qs
            clear qs
            go_wp2
            go_ret
            exact ⟨_, rfl, by rw [E.out, F0.out, F1.out, F2.out, F3.out, F4.out, F5.out, F6.out, F7.out, F8.out, cold_def, any_one (by rw [LS.out]; exact hlj) HQ.out]; rfl, hB4.bel⟩
          all_goals
            have HQ := Lib.hid qs
            clear qs
            go_wp2
            go_roundw
            case rel => exact ⟨j + 1, by omega, by go_num, fun a ha => by
              by_cases hae : a = j
              · subst hae; exact HQ.out
              · exact Hall2.out a (by omega), hB4⟩
            case measure => simp [intOf]; omega
        · have F9 := Lib.hid (show cold M = false by rw [cold_def]; exact any_none fun i hi => Hall2.out i (by have := LS.out; omega))
          go_wp2
          go_ret
          exact ⟨_, rfl, by rw [E.out, F0.out, F1.out, F2.out, F3.out, F4.out, F5.out, F6.out, F7.out, F8.out, F9.out]; rfl, hB4.bel⟩

set_option maxHeartbeats 2000000 in
theorem sIsMedl_any (m : Mdv) (M : Mdl) (w : World) (h : RD w w.heap.size m M) (hx : RX m M) :
    Calls Tryz.prog 75 #[.agg #[.int .i64 m.id, .slice m.An m.nn m.cn, .slice m.Am m.nm m.cm, .slice m.As m.ns m.cs]] w (RetV w (.bool (isMedl M))) := by
  have hB := BM.box h
  have c0 := hB.k.c 0 rfl
  have c1 := hB.k.c 1 rfl
  have c2 := hB.k.c 2 rfl
  have c3 := hB.k.c 3 rfl
  go_enter Tryz.func75, Tryz.ntmps75
  go_wp2_with fail
  refine (sFirstFault_any m M _ hB.rd hx).mono ?_
  rintro e w1 ⟨v, rfl, hv, hb1⟩
  have HV := Lib.hid hv
  clear hv
  go_wp2
  go_ret
  exact ⟨ret_bool HV.out, (hB.next hb1).bel⟩
end Go.Proofs.YtbaojbheopcjhaaGreatDoor
