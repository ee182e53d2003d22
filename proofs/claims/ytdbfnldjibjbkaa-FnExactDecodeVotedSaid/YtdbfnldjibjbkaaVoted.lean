/- The walks of DecodeVoted, of the program and the reference. Conditions: lists of at most 2^20 numbers. -/
import Derived.Test.YtdbfnldjibjbkaaStrobe
namespace Go.Proofs.Ytdbfnldjibjbkaa
open Go.RowKit

/-- the value of the first k bits of a byte -/
def valTo (zs : List Int) (f : Nat) : Nat → Int
  | 0 => 0
  | k + 1 => 2 * valTo zs f k + smp zs (f + 8 * k + 12)
def byteOf (zs : List Int) (e : Int) : Int := valTo zs e.toNat 8
def bytesOf (zs es : List Int) : List Int := es.map (byteOf zs)
theorem bytes_take {zs es : List Int} {k : Nat} (h : k < es.length) : bytesOf zs (es.take (k + 1)) = bytesOf zs (es.take k) ++ [byteOf zs (gi es k)] := by
  rw [take_gi h]; simp [bytesOf]
theorem smp_bit {zs : List Int} (h : isBits zs = true) (i : Nat) : 0 ≤ smp zs i ∧ smp zs i ≤ 1 := by
  unfold isBits at h
  simp only [Bool.and_eq_true] at h
  unfold smp
  split
  · exact allR_gi h.2 (by assumption)
  · omega
theorem val_bd {zs : List Int} (h : isBits zs = true) (f : Nat) : ∀ k, 0 ≤ valTo zs f k ∧ valTo zs f k + 1 ≤ (2 ^ k : Nat) := by
  intro k
  induction k with
  | zero => simp [valTo]
  | succ k ih =>
    have := smp_bit h (f + 8 * k + 12)
    unfold valTo
    have e : ((2 ^ (k + 1) : Nat) : Int) = 2 * ((2 ^ k : Nat) : Int) := by rw [Nat.pow_succ]; omega
    rw [e]
    omega
theorem val_255 {zs : List Int} (h : isBits zs = true) (f : Nat) {k : Nat} (hk : k ≤ 8) : 0 ≤ valTo zs f k ∧ valTo zs f k ≤ 255 := by
  have h1 := val_bd h f k
  have h2 : (2 ^ k : Nat) ≤ 2 ^ 8 := Nat.pow_le_pow_right (by omega) hk
  have h3 : ((2 ^ k : Nat) : Int) ≤ ((2 ^ 8 : Nat) : Int) := by exact_mod_cast h2
  have h4 : ((2 ^ 8 : Nat) : Int) = 256 := by decide
  omega

namespace DecodeVoted
theorem atW {A : Option Addr} {n c : Nat} {zs : List Int} {w : World} (h : RI w w.heap.size A n zs) (hn : n ≤ 1048576) (i : Nat) (hi : i ≤ 2097152) (x : Int) (hx : x = (i : Int)) :
    Calls Try.prog 165 #[.slice A n c, .int .i64 x] w fun e w' => e = .returned (.int .i64 (smp zs i)) ∧ w = w' := by
  subst hx
  exact l23At_any A n c zs i w h (by omega) (by omega)

set_option maxHeartbeats 4000000 in
theorem l23Bytes_any (A A1 : Option Addr) (n c n1 c1 : Nat) (zs es : List Int) (w : World) (h : RI w w.heap.size A n zs) (hn : n ≤ 1048576) (h1 : RI w w.heap.size A1 n1 es) (hn1 : n1 ≤ 1048576)
    (hbd : ∀ x ∈ es, 0 ≤ x ∧ x ≤ (n : Int)) (hz : isBits zs = true) :
    Calls Try.prog 122 #[.slice A n c, .slice A1 n1 c1] w (RetI 2 w n1 (bytesOf zs es)) := by
  have L := Lib.hid h1.len
  have BD := Lib.hid hbd
  have HZ := Lib.hid hz
  clear hbd hz
  go_enter Try.func122, Try.ntmps122
  go_wp2
  go_loopw [5, 6, 7, 8] (fun o i _ _ wr => ∃ (k m : Nat) (A' : Option Addr) (c' : Nat), k ≤ n1 ∧ m = k ∧ i = .int .i64 k ∧ o = .slice A' m c' ∧ OwnI 2 wr w.heap.size A' m c' (bytesOf zs (es.take k)) ∧ Below w.heap.size w wr) (fun _ i _ _ _ => n1 - (intOf i).toNat)
  case atStart => exact ⟨0, 0, some ⟨w.heap.size, 0, none⟩, 0, Nat.zero_le _, rfl, rfl, rfl, OwnI.empty _ (Nat.le_refl _), (Below.refl _ _).alloc (Nat.le_refl _) _⟩
  case round =>
    obtain ⟨k, m, A', c', hk, hmk, rfl, rfl, hown, hb⟩ := hrel
    have HM := Lib.hid hmk
    have hm9 : m ≤ 9437184 := by omega
    clear hmk
    by_cases hlt : k < n1
    · obtain ⟨b, o, rfl, hbl, hc⟩ := (h1.below hb (Nat.le_refl _)).get (by omega)
      have hcell := hc k hlt
      clear hc
      have hbk := bd_gi BD.out (k := k) (by rw [L.out]; exact hlt)
      obtain ⟨q, hq⟩ : ∃ q : Nat, gi es k = (q : Int) := ⟨(gi es k).toNat, by omega⟩
      rw [hq] at hcell hbk
      have hq2 : q ≤ n := by omega
      have HQ := Lib.hid hq
      clear hq hbk
      have hr := h.up hb
      go_wp2_with fail
      go_loop [7, 8] (fun v i => ∃ j : Nat, j ≤ 8 ∧ i = .int .i64 j ∧ v = .int .i64 (valTo zs q j)) (fun _ i => 8 - (intOf i).toNat)
      case atStart => exact ⟨0, by omega, rfl, rfl⟩
      case round =>
        obtain ⟨j, hj, rfl, rfl⟩ := hrel
        by_cases hj8 : j < 8
        · have hv := val_255 HZ.out q hj
          obtain ⟨v, hvv⟩ : ∃ v, valTo zs q j = v := ⟨_, rfl⟩
          rw [hvv] at hv ⊢
          have HV := Lib.hid hvv
          clear hvv
          obtain ⟨hv1, hv2⟩ := hv
          go_wp2_with fail
          refine (atW hr hn (q + 8 * j + 12) (by omega) _ (by omega)).mono ?_
          have hs := smp_bit HZ.out (q + 8 * j + 12)
          obtain ⟨s, hss⟩ : ∃ s, smp zs (q + 8 * j + 12) = s := ⟨_, rfl⟩
          rw [hss] at hs ⊢
          have HS := Lib.hid hss
          clear hss
          obtain ⟨hs1, hs2⟩ := hs
          rintro e w' ⟨rfl, rfl⟩
          go_wp2
          go_round
          case rel => exact ⟨j + 1, by omega, by go_num, by rw [show valTo zs q (j + 1) = 2 * valTo zs q j + smp zs (q + 8 * j + 12) from rfl, HV.out, HS.out]⟩
          case measure => simp [intOf]; omega
        · obtain rfl : j = 8 := by omega
          go_wp2_with (at_builtin; refine wpl_appI _ _ Try.underlying25 infoInt rfl _ _ rfl w.heap.size _ m _ _ rfl hown (valTo zs q 8) rfl (by omega) hb.size ?_; intro A2 c2 w2 hown2 hB2 hg2)
          go_roundw
          case rel => exact ⟨k + 1, m + 1, A2, c2, by omega, by rw [HM.out], by go_num, rfl, by rw [bytes_take (by rw [L.out]; exact hlt), show byteOf zs (gi es k) = valTo zs q 8 from by unfold byteOf; rw [HQ.out]; rfl]; exact hown2, hb.trans (hB2 _ (Nat.le_refl _))⟩
          case measure => simp [intOf]; omega
    · obtain rfl : k = n1 := by omega
      obtain rfl := HM.out
      go_wp2
      go_ret
      rw [List.take_of_length_le (by rw [L.out]; exact Nat.le_refl _)] at hown
      exact ⟨A', c', rfl, hown, hb⟩

def res (zs : List Int) : List Int := bytesOf zs (EdgesOfBytes.res zs)
def cod (zs : List Int) : Int := (decZ zs).code
theorem res_len (zs : List Int) : (res zs).length ≤ zs.length := by
  unfold res bytesOf; rw [List.length_map]; exact EdgesOfBytes.res_len zs
theorem bits_of {zs : List Int} (h : (decZ zs).code = 0) : isBits zs = true := by
  unfold decZ at h
  split at h
  · assumption
  · cases h

set_option maxHeartbeats 4000000 in
theorem spec_any (A : Option Addr) (n c : Nat) (zs : List Int) (w : World) (h : RI w w.heap.size A n zs) (_ : n ≤ 1099511627776) (hn : n ≤ 1048576) :
    Calls Try.prog 67 #[.slice A n c] w (RetIC 2 w (res zs) (cod zs)) := by
  have hl := EdgesOfBytes.decZ_len zs
  have hbd0 := decZ_bd zs
  rw [h.len] at hl hbd0
  have hbits := bits_of (zs := zs)
  obtain ⟨d, hd⟩ : ∃ d, decZ zs = d := ⟨_, rfl⟩
  rw [hd] at hl hbd0 hbits
  obtain ⟨dc, dp, es⟩ := d
  dsimp only at hl hbd0 hbits
  have BD := Lib.hid hbd0
  clear hbd0
  have E0 := Lib.hid (show EdgesOfBytes.res zs = if dc = 0 then es else [] from by unfold EdgesOfBytes.res; rw [hd])
  have E2 := Lib.hid (show cod zs = dc from by unfold cod; rw [hd])
  rcases ne_cases dc with rfl | ⟨h1, h2, h3⟩
  case inr =>
    have E1 := Lib.hid (show res zs = [] from by unfold res; rw [E0.out, if_neg h1]; rfl)
    clear hbits
    go_enter Try.func67, Try.ntmps67
    go_wp2_with fail
    refine (l23Code_any A n c zs _ h hn).mono ?_
    rw [hd]
    clear hd
    rintro e w1 ⟨A1, n1, c1, q, rfl, hown1, hb1⟩
    dsimp only at hown1 ⊢
    go_wp2
    go_ret2
    rw [E1.out, E2.out]
    exact ⟨none, 0, 0, rfl, OwnI.nil _ _ _, below_alloc hb1 (Nat.le_refl _) _⟩
  have E1 := Lib.hid (show res zs = bytesOf zs es from by unfold res; rw [E0.out]; rfl)
  have HBIT := Lib.hid (hbits rfl)
  clear hbits
  go_enter Try.func67, Try.ntmps67
  go_wp2_with fail
  refine (l23Code_any A n c zs _ h hn).mono ?_
  rw [hd]
  clear hd
  rintro e w1 ⟨A1, n1, c1, q, rfl, hown1, hb1⟩
  dsimp only at hown1 ⊢
  have hn1 : n1 ≤ 1048576 := by rw [← hown1.len]; omega
  have hownX := hown1.alloc (.cells #[.int .i64 dp, .slice A1 n1 c1, .int .i64 q] 105)
  have hbX := below_alloc hb1 (Nat.le_refl _) (.cells #[.int .i64 dp, .slice A1 n1 c1, .int .i64 q] 105)
  go_wp2_with fail
  refine (l23Bytes_any A A1 n c n1 c1 zs es _ (h.up hbX) hn hownX.reads hn1 BD.out HBIT.out).mono ?_
  rintro e w2 ⟨A2, c2, rfl, hown2, hb2⟩
  go_wp2
  go_ret2
  rw [E1.out, E2.out]
  exact ⟨_, _, _, rfl, hown2.weaken hbX.size, below_next hb2 hbX (Nat.le_refl _)⟩

theorem strb_gi (f : Int) {j : Nat} (h : j < 9) : gi (strb f) j = f + 8 * (j : Int) + 12 := by simp [gi, strb, strbTo, h]

set_option maxHeartbeats 4000000 in
theorem impl_any (A : Option Addr) (n c : Nat) (zs : List Int) (w : World) (h : RI w w.heap.size A n zs) (_ : n ≤ 1099511627776) (hn : n ≤ 1048576) :
    Calls Try.prog 68 #[.slice A n c] w (RetIC 2 w (res zs) (cod zs)) := by
  have hl := EdgesOfBytes.decZ_len zs
  have hbd0 := decZ_bd zs
  rw [h.len] at hl hbd0
  have hbits := bits_of (zs := zs)
  obtain ⟨d, hd⟩ : ∃ d, decZ zs = d := ⟨_, rfl⟩
  rw [hd] at hl hbd0 hbits
  obtain ⟨dc, dp, es⟩ := d
  dsimp only at hl hbd0 hbits
  have BD := Lib.hid hbd0
  clear hbd0
  have E0 := Lib.hid (show EdgesOfBytes.res zs = if dc = 0 then es else [] from by unfold EdgesOfBytes.res; rw [hd])
  have E2 := Lib.hid (show cod zs = dc from by unfold cod; rw [hd])
  rcases ne_cases dc with rfl | ⟨h1, h2, h3⟩
  case inr =>
    have E1 := Lib.hid (show res zs = [] from by unfold res; rw [E0.out, if_neg h1]; rfl)
    clear hbits
    go_enter Try.func68, Try.ntmps68
    go_wp2_with fail
    refine (decodeVoted_any A n c zs _ h hn).mono ?_
    rw [hd]
    clear hd
    rintro e w1 ⟨pv, rfl, hb1, hres⟩
    dsimp only
    clear hres
    go_wp2
    go_ret2
    rw [E1.out, E2.out]
    exact ⟨none, 0, 0, rfl, OwnI.nil _ _ _, hb1⟩
  have E1 := Lib.hid (show res zs = bytesOf zs es from by unfold res; rw [E0.out]; rfl)
  have HBIT := Lib.hid (hbits rfl)
  clear hbits
  go_enter Try.func68, Try.ntmps68
  go_wp2_with fail
  refine (decodeVoted_any A n c zs _ h hn).mono ?_
  rw [hd]
  clear hd
  rintro e w1 ⟨pv, rfl, hb1, hres⟩
  dsimp only
  obtain ⟨A1, n1, c1, rfl, hblk, hown1⟩ := hres rfl
  clear hres
  dsimp only at hown1 hblk
  have L1 := Lib.hid hown1.len
  have hn1 : n1 ≤ 1048576 := by rw [← hown1.len]; omega
  have k2 := hblk.c2
  have hgl := hblk.lt
  go_wp2
  clear k2
  go_loopw [6, 26] (fun o i wr => ∃ (k m : Nat) (A' : Option Addr) (c' : Nat), k ≤ n1 ∧ m = k ∧ i = .int .i64 k ∧ o = .slice A' m c' ∧ OwnI 2 wr w1.heap.size A' m c' (bytesOf zs (es.take k)) ∧ Below w1.heap.size w1 wr) (fun _ i _ => n1 - (intOf i).toNat)
  case atStart => exact ⟨0, 0, some ⟨w1.heap.size, 0, none⟩, 0, Nat.zero_le _, rfl, rfl, rfl, OwnI.empty _ (Nat.le_refl _), (Below.refl _ _).alloc (Nat.le_refl _) _⟩
  case round =>
    obtain ⟨k, m, A', c', hk, hmk, rfl, rfl, hown, hb⟩ := hrel
    have HM := Lib.hid hmk
    have hm9 : m ≤ 9437184 := by omega
    clear hmk
    by_cases hlt : k < n1
    · obtain ⟨b, o, rfl, hbl, hc⟩ := (hown1.reads.below hb (Nat.le_refl _)).get (by omega)
      have hcell := hc k hlt
      clear hc
      have hbk := bd_gi BD.out (k := k) (by rw [L1.out]; exact hlt)
      obtain ⟨q, hq⟩ : ∃ q : Nat, gi es k = (q : Int) := ⟨(gi es k).toNat, by omega⟩
      rw [hq] at hcell hbk
      have hq2 : q ≤ n := by omega
      have HQ := Lib.hid hq
      clear hq hbk
      go_wp2_with fail
      refine (StrobesOf.strobes_any _ _ (by omega) (by omega)).mono ?_
      rintro e w2 ⟨A2, c2, rfl, hown2, hb2⟩
      obtain ⟨g2, rfl, hg2, hg22⟩ := hown2.form (by omega)
      obtain ⟨hcap1, hcap2⟩ := hown2.cap
      have hbB := below_next hb2 hb (Nat.le_refl _)
      have hr := h.up (below_next hbB hb1 (Nat.le_refl _))
      have kb := hblk.below hbB hblk.lt
      have kc := kb.c0
      have HOWN2 := Lib.hid hown2
      clear hown2
      have hownB := hown.below hb2
      go_wp2_with fail
      go_loop [9, 34] (fun v i => ∃ j : Nat, j ≤ 8 ∧ i = .int .i64 j ∧ v = .int .i64 (valTo zs q j)) (fun _ i => 8 - (intOf i).toNat)
      case atStart => exact ⟨0, by omega, rfl, rfl⟩
      case round =>
        obtain ⟨j, hj, rfl, rfl⟩ := hrel
        by_cases hj8 : j < 8
        · have hcs := HOWN2.out.cell (j := j) (by omega)
          rw [strb_gi _ (by omega)] at hcs
          have hv := val_255 HBIT.out q hj
          obtain ⟨v, hvv⟩ : ∃ v, valTo zs q j = v := ⟨_, rfl⟩
          rw [hvv] at hv ⊢
          have HV := Lib.hid hvv
          clear hvv
          obtain ⟨hv1, hv2⟩ := hv
          go_wp2_with fail
          refine (sampleW hr hn kc (q + 8 * j + 12) (by omega) _ (by omega)).mono ?_
          have hs := smp_bit HBIT.out (q + 8 * j + 12)
          obtain ⟨s, hss⟩ : ∃ s, smp zs (q + 8 * j + 12) = s := ⟨_, rfl⟩
          rw [hss] at hs ⊢
          have HS := Lib.hid hss
          clear hss
          obtain ⟨hs1, hs2⟩ := hs
          rintro e w' ⟨rfl, rfl⟩
          go_wp2
          go_round
          case rel => exact ⟨j + 1, by omega, by go_num, by rw [show valTo zs q (j + 1) = 2 * valTo zs q j + smp zs (q + 8 * j + 12) from rfl, HV.out, HS.out]⟩
          case measure => simp [intOf]; omega
        · obtain rfl : j = 8 := by omega
          go_wp2_with (at_builtin; refine wpl_appI _ _ Try.underlying25 infoInt rfl _ _ rfl w1.heap.size _ m _ _ rfl hownB (valTo zs q 8) rfl (by omega) hbB.size ?_; intro A3 c3 w3 hown3 hB3 hg3)
          go_roundw
          case rel => exact ⟨k + 1, m + 1, A3, c3, by omega, by rw [HM.out], by go_num, rfl, by rw [bytes_take (by rw [L1.out]; exact hlt), show byteOf zs (gi es k) = valTo zs q 8 from by unfold byteOf; rw [HQ.out]; rfl]; exact hown3, hbB.trans (hB3 _ (Nat.le_refl _))⟩
          case measure => simp [intOf]; omega
    · obtain rfl : k = n1 := by omega
      obtain rfl := HM.out
      go_wp2
      go_ret2
      rw [E1.out, E2.out]
      rw [List.take_of_length_le (by rw [L1.out]; exact Nat.le_refl _)] at hown
      exact ⟨_, _, _, rfl, hown.weaken hb1.size, below_next hb hb1 (Nat.le_refl _)⟩
end DecodeVoted
end Go.Proofs.Ytdbfnldjibjbkaa
