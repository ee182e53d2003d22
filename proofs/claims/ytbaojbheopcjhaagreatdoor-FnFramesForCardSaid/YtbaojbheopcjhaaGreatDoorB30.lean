/- Walks, laws and small notions for the claims of this seat, several texts as one (Strobe, Voted, Vote, Db). Conditions: as each theorem states them. -/
import Derived.Test.YtbaojbheopcjhaaGreatDoorB23
import Derived.Test.YtbaojbheopcjhaaGreatDoorB1
import Derived.StillTailTactics
import Derived.Test.YtbaojbheopcjhaaGreatDoorB3
namespace Go.Proofs.YtbaojbheopcjhaaGreatDoor
open Go.RowKit

/-- each edge lies within the list -/
theorem edg_bd {zs : List Int} : ∀ (m f : Nat) (r : List Int × Nat), zs.length - f ≤ m → f < zs.length → edg zs f = some r → ∀ x ∈ r.1, 0 ≤ x ∧ x ≤ (zs.length : Int) := by
  intro m
  induction m with
  | zero => intro f r hm hf; omega
  | succ m ih =>
    intro f r hm hf he
    by_cases h : smp zs (f + 76) = 0
    · rw [edg_end h] at he
      obtain rfl := Option.some.inj he
      intro x hx
      obtain rfl := List.mem_singleton.1 hx
      omega
    · cases hg : nxt zs 0 (f + 77) with
      | none => rw [edg_none h hg] at he; cases he
      | some g =>
        have hgn := nxt_le hg
        by_cases hf2 : f + 84 < g
        · rw [edg_far h hg hf2] at he; cases he
        · rw [edg_go h hg hf2] at he
          cases hx : edg zs g with
          | none => rw [hx] at he; cases he
          | some x =>
            rw [hx] at he
            obtain rfl := Option.some.inj he
            intro y hy
            rcases List.mem_cons.1 hy with rfl | hy
            · omega
            · exact ih g x (by omega) hgn.2.1 hx y hy
theorem decZ_bd (zs : List Int) : ∀ x ∈ (decZ zs).edges, 0 ≤ x ∧ x ≤ (zs.length : Int) := by
  unfold decZ
  split
  · unfold decP
    split
    · simp
    · unfold decA
      split
      · unfold decH
        split
        · simp
        · rename_i f hf
          split
          · simp
          · unfold decF
            split
            · simp
            · split
              · simp
              · rename_i r hr
                exact edg_bd _ f r (Nat.le_refl _) (nxt_bound hf) hr
      · simp
  · simp
theorem bd_gi {es : List Int} {L : Int} (h : ∀ x ∈ es, 0 ≤ x ∧ x ≤ L) {k : Nat} (hk : k < es.length) : 0 ≤ gi es k ∧ gi es k ≤ L := h _ (mem_gi hk)

/-- the strobes of a byte -/
def strbTo (f : Int) (k : Nat) : List Int := (List.range k).map fun (j : Nat) => f + 8 * (j : Int) + 12
def strb (f : Int) : List Int := strbTo f 9
theorem strbTo_succ (f : Int) (k : Nat) : strbTo f (k + 1) = strbTo f k ++ [f + 8 * (k : Int) + 12] := by simp [strbTo, List.range_succ]
def strbs (es : List Int) : List Int := es.flatMap strb
theorem strbs_take {es : List Int} {k : Nat} (h : k < es.length) : strbs (es.take (k + 1)) = strbs (es.take k) ++ strb (gi es k) := by
  rw [take_gi h]; simp [strbs]
theorem strbs_len (es : List Int) : (strbs es).length = 9 * es.length := by
  unfold strbs
  induction es with
  | nil => rfl
  | cons e es ih => rw [List.flatMap_cons, List.length_append, ih]; simp [strb, strbTo]; omega

namespace StrobesOf
def res (zs : List Int) : List Int := strbs (EdgesOfBytes.res zs)
def cod (zs : List Int) : Int := (decZ zs).code
theorem res_len (zs : List Int) : (res zs).length ≤ 9 * zs.length := by
  unfold res; rw [strbs_len]
  have := EdgesOfBytes.res_len zs
  omega

set_option maxHeartbeats 1000000 in
theorem strobes_any (f : Int) (w : World) (h1 : 0 ≤ f) (h2 : f ≤ 2097152) :
    Calls Tryz.prog 177 #[.int .i64 f] w (RetI 2 w 9 (strb f)) := by
  go_enter Tryz.func177, Tryz.ntmps177
  go_wp2
  go_loopw [3, 4, 6] (fun o _ i wr => ∃ (k m : Nat) (A' : Option Addr) (c' : Nat), k ≤ 9 ∧ m = k ∧ i = .int .i64 k ∧ o = .slice A' m c' ∧ OwnI 2 wr w.heap.size A' m c' (strbTo f k) ∧ Below w.heap.size w wr) (fun _ _ i _ => 9 - (intOf i).toNat)
  case atStart => exact ⟨0, 0, some ⟨w.heap.size, 0, none⟩, 0, by omega, rfl, rfl, rfl, OwnI.empty _ (Nat.le_refl _), (Below.refl _ _).alloc (Nat.le_refl _) _⟩
  case round =>
    obtain ⟨k, m, A', c', hk, hmk, rfl, rfl, hown, hb⟩ := hrel
    have HM := Lib.hid hmk
    have hm9 : m ≤ 9 := by omega
    clear hmk
    by_cases hlt : k < 9
    · go_wp2_with (at_builtin; refine wpl_appI _ _ Tryz.underlying31 infoInt rfl _ _ rfl w.heap.size _ m _ _ rfl hown (f + 8 * (k : Int) + 12) rfl (by omega) hb.size ?_; intro A2 c2 w2 hown2 hB2 hg2)
      go_roundw
      case rel => exact ⟨k + 1, m + 1, A2, c2, by omega, by rw [HM.out], by go_num, rfl, by rw [strbTo_succ]; exact hown2, hb.trans (hB2 _ (Nat.le_refl _))⟩
      case measure => simp [intOf]; omega
    · obtain rfl : k = 9 := by omega
      obtain rfl := HM.out
      go_wp2
      go_ret
      exact ⟨A', c', rfl, hown, hb⟩

end StrobesOf
end Go.Proofs.YtbaojbheopcjhaaGreatDoor

namespace Go.Proofs.YtbaojbheopcjhaaGreatDoor
open Go.RowKit

/-- the value of the first k bits of a byte -/
def valTo (zs : List Int) (f : Nat) : Nat → Int
  | 0 => 0
  | k + 1 => 2 * valTo zs f k + smp zs (f + 8 * k + 12)
def byteOf (zs : List Int) (e : Int) : Int := valTo zs e.toNat 8
def bytesOf (zs es : List Int) : List Int := es.map (byteOf zs)
theorem bytes_take {zs es : List Int} {k : Nat} (h : k < es.length) : bytesOf zs (es.take (k + 1)) = bytesOf zs (es.take k) ++ [byteOf zs (gi es k)] := by
  rw [take_gi h]; simp [bytesOf]
theorem smp_bit {zs : List Int} (h : isBits zs = true) (i : Nat) : 0 ≤ smp zs i ∧ smp zs i ≤ 1 := by
  unfold isBits at h
  simp only [Bool.and_eq_true] at h
  unfold smp
  split
  · exact allR_gi h.2 (by assumption)
  · omega
theorem val_bd {zs : List Int} (h : isBits zs = true) (f : Nat) : ∀ k, 0 ≤ valTo zs f k ∧ valTo zs f k + 1 ≤ (2 ^ k : Nat) := by
  intro k
  induction k with
  | zero => simp [valTo]
  | succ k ih =>
    have := smp_bit h (f + 8 * k + 12)
    unfold valTo
    have e : ((2 ^ (k + 1) : Nat) : Int) = 2 * ((2 ^ k : Nat) : Int) := by rw [Nat.pow_succ]; omega
    rw [e]
    omega
theorem val_255 {zs : List Int} (h : isBits zs = true) (f : Nat) {k : Nat} (hk : k ≤ 8) : 0 ≤ valTo zs f k ∧ valTo zs f k ≤ 255 := by
  have h1 := val_bd h f k
  have h2 : (2 ^ k : Nat) ≤ 2 ^ 8 := Nat.pow_le_pow_right (by omega) hk
  have h3 : ((2 ^ k : Nat) : Int) ≤ ((2 ^ 8 : Nat) : Int) := by exact_mod_cast h2
  have h4 : ((2 ^ 8 : Nat) : Int) = 256 := by decide
  omega

namespace DecodeVoted
def res (zs : List Int) : List Int := bytesOf zs (EdgesOfBytes.res zs)
def cod (zs : List Int) : Int := (decZ zs).code
theorem res_len (zs : List Int) : (res zs).length ≤ zs.length := by
  unfold res bytesOf; rw [List.length_map]; exact EdgesOfBytes.res_len zs
theorem bits_of {zs : List Int} (h : (decZ zs).code = 0) : isBits zs = true := by
  unfold decZ at h
  split at h
  · assumption
  · cases h

theorem strb_gi (f : Int) {j : Nat} (h : j < 9) : gi (strb f) j = f + 8 * (j : Int) + 12 := by simp [gi, strb, strbTo, h]

set_option maxHeartbeats 4000000 in
theorem impl_any (A : Option Addr) (n c : Nat) (zs : List Int) (w : World) (h : RI w w.heap.size A n zs) (_ : n ≤ 1099511627776) (hn : n ≤ 1048576) :
    Calls Tryz.prog 123 #[.slice A n c] w (RetIC 2 w (res zs) (cod zs)) := by
  have hl := EdgesOfBytes.decZ_len zs
  have hbd0 := decZ_bd zs
  rw [h.len] at hl hbd0
  have hbits := bits_of (zs := zs)
  obtain ⟨d, hd⟩ : ∃ d, decZ zs = d := ⟨_, rfl⟩
  rw [hd] at hl hbd0 hbits
  obtain ⟨dc, dp, es⟩ := d
  dsimp only at hl hbd0 hbits
  have BD := Lib.hid hbd0
  clear hbd0
  have E0 := Lib.hid (show EdgesOfBytes.res zs = if dc = 0 then es else [] from by unfold EdgesOfBytes.res; rw [hd])
  have E2 := Lib.hid (show cod zs = dc from by unfold cod; rw [hd])
  rcases ne_cases dc with rfl | ⟨h1, h2, h3⟩
  case inr =>
    have E1 := Lib.hid (show res zs = [] from by unfold res; rw [E0.out, if_neg h1]; rfl)
    clear hbits
    go_enter Tryz.func123, Tryz.ntmps123
    go_wp2_with fail
    refine (decodeVoted_any A n c zs _ h hn).mono ?_
    rw [hd]
    clear hd
    rintro e w1 ⟨pv, rfl, hb1, hres⟩
    dsimp only
    clear hres
    go_wp2
    go_ret2
    rw [E1.out, E2.out]
    exact ⟨none, 0, 0, rfl, OwnI.nil _ _ _, hb1⟩
  have E1 := Lib.hid (show res zs = bytesOf zs es from by unfold res; rw [E0.out]; rfl)
  have HBIT := Lib.hid (hbits rfl)
  clear hbits
  go_enter Tryz.func123, Tryz.ntmps123
  go_wp2_with fail
  refine (decodeVoted_any A n c zs _ h hn).mono ?_
  rw [hd]
  clear hd
  rintro e w1 ⟨pv, rfl, hb1, hres⟩
  dsimp only
  obtain ⟨A1, n1, c1, rfl, hblk, hown1⟩ := hres rfl
  clear hres
  dsimp only at hown1 hblk
  have L1 := Lib.hid hown1.len
  have hn1 : n1 ≤ 1048576 := by rw [← hown1.len]; omega
  have k2 := hblk.c2
  have hgl := hblk.lt
  go_wp2
  clear k2
  go_loopw [6, 26] (fun o i wr => ∃ (k m : Nat) (A' : Option Addr) (c' : Nat), k ≤ n1 ∧ m = k ∧ i = .int .i64 k ∧ o = .slice A' m c' ∧ OwnI 2 wr w1.heap.size A' m c' (bytesOf zs (es.take k)) ∧ Below w1.heap.size w1 wr) (fun _ i _ => n1 - (intOf i).toNat)
  case atStart => exact ⟨0, 0, some ⟨w1.heap.size, 0, none⟩, 0, Nat.zero_le _, rfl, rfl, rfl, OwnI.empty _ (Nat.le_refl _), (Below.refl _ _).alloc (Nat.le_refl _) _⟩
  case round =>
    obtain ⟨k, m, A', c', hk, hmk, rfl, rfl, hown, hb⟩ := hrel
    have HM := Lib.hid hmk
    have hm9 : m ≤ 9437184 := by omega
    clear hmk
    by_cases hlt : k < n1
    · obtain ⟨b, o, rfl, hbl, hc⟩ := (hown1.reads.below hb (Nat.le_refl _)).get (by omega)
      have hcell := hc k hlt
      clear hc
      have hbk := bd_gi BD.out (k := k) (by rw [L1.out]; exact hlt)
      obtain ⟨q, hq⟩ : ∃ q : Nat, gi es k = (q : Int) := ⟨(gi es k).toNat, by omega⟩
      rw [hq] at hcell hbk
      have hq2 : q ≤ n := by omega
      have HQ := Lib.hid hq
      clear hq hbk
      go_wp2_with fail
      refine (StrobesOf.strobes_any _ _ (by omega) (by omega)).mono ?_
      rintro e w2 ⟨A2, c2, rfl, hown2, hb2⟩
      obtain ⟨g2, rfl, hg2, hg22⟩ := hown2.form (by omega)
      obtain ⟨hcap1, hcap2⟩ := hown2.cap
      have hbB := below_next hb2 hb (Nat.le_refl _)
      have hr := h.up (below_next hbB hb1 (Nat.le_refl _))
      have kb := hblk.below hbB hblk.lt
      have kc := kb.c0
      have HOWN2 := Lib.hid hown2
      clear hown2
      have hownB := hown.below hb2
      go_wp2_with fail
      go_loop [9, 34] (fun v i => ∃ j : Nat, j ≤ 8 ∧ i = .int .i64 j ∧ v = .int .i64 (valTo zs q j)) (fun _ i => 8 - (intOf i).toNat)
      case atStart => exact ⟨0, by omega, rfl, rfl⟩
      case round =>
        obtain ⟨j, hj, rfl, rfl⟩ := hrel
        by_cases hj8 : j < 8
        · have hcs := HOWN2.out.cell (j := j) (by omega)
          rw [strb_gi _ (by omega)] at hcs
          have hv := val_255 HBIT.out q hj
          obtain ⟨v, hvv⟩ : ∃ v, valTo zs q j = v := ⟨_, rfl⟩
          rw [hvv] at hv ⊢
          have HV := Lib.hid hvv
          clear hvv
          obtain ⟨hv1, hv2⟩ := hv
          go_wp2_with fail
          refine (sampleW hr hn kc (q + 8 * j + 12) (by omega) _ (by omega)).mono ?_
          have hs := smp_bit HBIT.out (q + 8 * j + 12)
          obtain ⟨s, hss⟩ : ∃ s, smp zs (q + 8 * j + 12) = s := ⟨_, rfl⟩
          rw [hss] at hs ⊢
          have HS := Lib.hid hss
          clear hss
          obtain ⟨hs1, hs2⟩ := hs
          rintro e w' ⟨rfl, rfl⟩
          go_wp2
          go_round
          case rel => exact ⟨j + 1, by omega, by go_num, by rw [show valTo zs q (j + 1) = 2 * valTo zs q j + smp zs (q + 8 * j + 12) from rfl, HV.out, HS.out]⟩
          case measure => simp [intOf]; omega
        · obtain rfl : j = 8 := by omega
          go_wp2_with (at_builtin; refine wpl_appI _ _ Tryz.underlying31 infoInt rfl _ _ rfl w1.heap.size _ m _ _ rfl hownB (valTo zs q 8) rfl (by omega) hbB.size ?_; intro A3 c3 w3 hown3 hB3 hg3)
          go_roundw
          case rel => exact ⟨k + 1, m + 1, A3, c3, by omega, by rw [HM.out], by go_num, rfl, by rw [bytes_take (by rw [L1.out]; exact hlt), show byteOf zs (gi es k) = valTo zs q 8 from by unfold byteOf; rw [HQ.out]; rfl]; exact hown3, hbB.trans (hB3 _ (Nat.le_refl _))⟩
          case measure => simp [intOf]; omega
    · obtain rfl : k = n1 := by omega
      obtain rfl := HM.out
      go_wp2
      go_ret2
      rw [E1.out, E2.out]
      rw [List.take_of_length_le (by rw [L1.out]; exact Nat.le_refl _)] at hown
      exact ⟨_, _, _, rfl, hown.weaken hb1.size, below_next hb hb1 (Nat.le_refl _)⟩
end DecodeVoted
end Go.Proofs.YtbaojbheopcjhaaGreatDoor

namespace Go.Proofs.YtbaojbheopcjhaaGreatDoor
open Go.RowKit

/-- a sample of a window; those ahead of the first are 1 -/
def vt (zs : List Int) (p : Int) : Int := if p < 0 then 1 else gi zs p.toNat
def onesTo (zs : List Int) (i : Nat) : Nat → Int
  | 0 => 0
  | m + 1 => onesTo zs i m + vt zs ((i : Int) - 4 + m)
def ones (zs : List Int) (i : Nat) : Int := onesTo zs i 5
def vb (zs : List Int) (i : Nat) : Int := if 3 ≤ ones zs i then 1 else 0
def votedTo (zs : List Int) (k : Nat) : List Int := (List.range k).map (vb zs)
def voted (zs : List Int) : List Int := votedTo zs zs.length
theorem votedTo_succ (zs : List Int) (k : Nat) : votedTo zs (k + 1) = votedTo zs k ++ [vb zs k] := by simp [votedTo, List.range_succ]
theorem voted_len (zs : List Int) : (voted zs).length = zs.length := by simp [voted, votedTo]
theorem bit_gi {zs : List Int} (h : isBits zs = true) {k : Nat} (hk : k < zs.length) : gi zs k = 0 ∨ gi zs k = 1 := by
  unfold isBits at h
  simp only [Bool.and_eq_true] at h
  have := allR_gi h.2 hk
  omega
theorem vt_bit {zs : List Int} (h : isBits zs = true) {p : Int} (hp : p < (zs.length : Int)) : 0 ≤ vt zs p ∧ vt zs p ≤ 1 := by
  unfold vt
  split
  · omega
  · have := bit_gi h (k := p.toNat) (by omega)
    omega
theorem ones_bd {zs : List Int} (h : isBits zs = true) {i : Nat} (hi : i < zs.length) : ∀ m : Nat, m ≤ 5 → 0 ≤ onesTo zs i m ∧ onesTo zs i m ≤ m := by
  intro m
  induction m with
  | zero => intro _; simp [onesTo]
  | succ m ih =>
    intro hm
    have h1 := ih (by omega)
    have h2 := vt_bit h (p := (i : Int) - 4 + m) (by omega)
    unfold onesTo
    omega

namespace Vote
set_option maxHeartbeats 2000000 in
theorem onesInWindow_any (A : Option Addr) (n c : Nat) (zs : List Int) (i : Nat) (w : World) (h : RI w w.heap.size A n zs) (hn : n ≤ 1048576) (hi : i < n) (hz : isBits zs = true) :
    Calls Tryz.prog 213 #[.slice A n c, .int .i64 i] w fun e w' => e = .returned (.int .i64 (ones zs i)) ∧ w = w' := by
  have L := Lib.hid h.len
  have HZ := Lib.hid hz
  clear hz
  obtain ⟨b, o, rfl, _, hc⟩ := h.get (by omega)
  have HC := Lib.hid hc
  clear hc
  go_enter Tryz.func213, Tryz.ntmps213
  go_wp2
  go_loop [5, 6] (fun v k => ∃ m : Nat, m ≤ 5 ∧ k = .int .i64 ((i : Int) - 4 + m) ∧ v = .int .i64 (onesTo zs i m)) (fun _ k => ((i : Int) + 1 - intOf k).toNat)
  case atStart => exact ⟨0, by omega, by go_num, rfl⟩
  case round =>
    obtain ⟨m, hm, rfl, rfl⟩ := hrel
    by_cases hm5 : m < 5
    · have hv := ones_bd HZ.out (i := i) (by rw [L.out]; exact hi) m hm
      obtain ⟨v, hvv⟩ : ∃ v, onesTo zs i m = v := ⟨_, rfl⟩
      rw [hvv] at hv ⊢
      have HV := Lib.hid hvv
      clear hvv
      obtain ⟨hv1, hv2⟩ := hv
      by_cases hp : (i : Int) - 4 + m < 0
      · go_wp2
        go_round
        case rel => exact ⟨m + 1, by omega, by go_num, by rw [show onesTo zs i (m + 1) = onesTo zs i m + vt zs ((i : Int) - 4 + m) from rfl, HV.out]; unfold vt; rw [if_pos hp]⟩
        case measure => simp [intOf]; omega
      · obtain ⟨q, hq⟩ : ∃ q : Nat, (i : Int) - 4 + m = (q : Int) := ⟨((i : Int) - 4 + m).toNat, by omega⟩
        have hqn : q < n := by omega
        have hqi : q ≤ i := by omega
        have hcell := HC.out q hqn
        have hb := bit_gi HZ.out (k := q) (by rw [L.out]; exact hqn)
        have HQ := Lib.hid hq
        have HM := Lib.hid (show vt zs ((i : Int) - 4 + m) = gi zs q from by unfold vt; rw [if_neg hp, hq]; rfl)
        clear hp
        rw [hq]
        clear hq
        rcases hb with hb | hb
        all_goals
          rw [hb] at hcell
          have HB := Lib.hid hb
          clear hb
          go_wp2
          go_round
          case rel => exact ⟨m + 1, by omega, by have := HQ.out; congr 1; omega, by rw [show onesTo zs i (m + 1) = onesTo zs i m + vt zs ((i : Int) - 4 + m) from rfl, HV.out, HM.out, HB.out]; try (first | rfl | rw [Int.add_zero])⟩
          case measure => have := HQ.out; simp [intOf]; omega
    · obtain rfl : m = 5 := by omega
      go_wp2
      go_ret
      exact ⟨rfl, rfl⟩

theorem oneIf_any (b : Bool) (w : World) :
    Calls Tryz.prog 212 #[.bool b] w fun e w' => e = .returned (.int .i64 (if b then 1 else 0)) ∧ w = w' := by
  cases b
  all_goals
    go_enter Tryz.func212, Tryz.ntmps212
    go_wp2
    go_ret
    exact ⟨rfl, rfl⟩

set_option maxHeartbeats 2000000 in
theorem vote_any (A : Option Addr) (n c : Nat) (zs : List Int) (w : World) (h : RI w w.heap.size A n zs) (hn : n ≤ 1048576) (hz : isBits zs = true) :
    Calls Tryz.prog 175 #[.slice A n c] w (RetI 2 w n (voted zs)) := by
  have L := Lib.hid h.len
  have HZ := Lib.hid hz
  clear hz
  go_enter Tryz.func175, Tryz.ntmps175
  go_wp2
  go_loopw [3, 8] (fun o i wr => ∃ (k m : Nat) (A' : Option Addr) (c' : Nat), k ≤ n ∧ m = k ∧ i = .int .i64 k ∧ o = .slice A' m c' ∧ OwnI 2 wr w.heap.size A' m c' (votedTo zs k) ∧ Below w.heap.size w wr) (fun _ i _ => n - (intOf i).toNat)
  case atStart => exact ⟨0, 0, some ⟨w.heap.size, 0, none⟩, 0, Nat.zero_le _, rfl, rfl, rfl, OwnI.empty _ (Nat.le_refl _), (Below.refl _ _).alloc (Nat.le_refl _) _⟩
  case round =>
    obtain ⟨k, m, A', c', hk, hmk, rfl, rfl, hown, hb⟩ := hrel
    have HM := Lib.hid hmk
    have hm9 : m ≤ 9437184 := by omega
    clear hmk
    by_cases hlt : k < n
    · go_wp2_with fail
      refine (onesInWindow_any A n c zs k _ (h.up hb) hn hlt HZ.out).mono ?_
      have hv := ones_bd HZ.out (i := k) (by rw [L.out]; exact hlt) 5 (by omega)
      obtain ⟨v, hvv⟩ : ∃ v, ones zs k = v := ⟨_, rfl⟩
      rw [show onesTo zs k 5 = ones zs k from rfl, hvv] at hv
      obtain ⟨hv1, hv2⟩ := hv
      rw [hvv]
      have HV := Lib.hid hvv
      clear hvv
      rintro e w' ⟨rfl, rfl⟩
      go_wp2_with fail
      refine (oneIf_any _ _).mono ?_
      have hb3 : (if decide (5 < 2 * v) = true then (1 : Int) else 0) = vb zs k := by
        unfold vb; rw [HV.out]
        by_cases h3 : 3 ≤ v
        · rw [if_pos h3, if_pos (by simp; omega)]
        · rw [if_neg h3, if_neg (by simp; omega)]
      first | rw [hb3] | skip
      clear hb3
      rintro e w' ⟨rfl, rfl⟩
      go_wp2_with (at_builtin; refine wpl_appI _ _ Tryz.underlying31 infoInt rfl _ _ rfl w.heap.size _ m _ _ rfl hown (vb zs k) rfl (by omega) hb.size ?_; intro A2 c2 w2 hown2 hB2 hg2)
      go_roundw
      case rel => exact ⟨k + 1, m + 1, A2, c2, by omega, by rw [HM.out], by go_num, rfl, by rw [votedTo_succ]; exact hown2, hb.trans (hB2 _ (Nat.le_refl _))⟩
      case measure => simp [intOf]; omega
    · obtain rfl : k = n := by omega
      obtain rfl := HM.out
      go_wp2
      go_ret
      exact ⟨A', c', rfl, by unfold voted; rw [L.out]; exact hown, hb⟩
end Vote

namespace DecodeSamples
def res (zs : List Int) : List Int := if isBits zs then DecodeVoted.res (voted zs) else []
def cod (zs : List Int) : Int := if isBits zs then DecodeVoted.cod (voted zs) else 1
theorem res_len (zs : List Int) : (res zs).length ≤ zs.length := by
  unfold res
  split
  · have := DecodeVoted.res_len (voted zs)
    rwa [voted_len] at this
  · simp

set_option maxHeartbeats 2000000 in
theorem impl_any (A : Option Addr) (n c : Nat) (zs : List Int) (w : World) (h : RI w w.heap.size A n zs) (hn' : n ≤ 1099511627776) (hn : n ≤ 1048576) :
    Calls Tryz.prog 82 #[.slice A n c] w (RetIC 2 w (res zs) (cod zs)) := by
  rcases bool_cases (isBits zs) with hz | hz
  case inr =>
    have E1 := Lib.hid (show res zs = [] from by simp [res, hz])
    have E2 := Lib.hid (show cod zs = 1 from by simp [cod, hz])
    go_enter Tryz.func82, Tryz.ntmps82
    go_wp2_with (first | (go_at_call 46; refine (iIsBits_any _ _ _ _ _ h hn').mono ?_; rintro e w' ⟨rfl, rfl⟩) | go_in)
    go_ret2
    exact ⟨none, 0, 0, by rw [E2.out]; rfl, by rw [E1.out]; exact OwnI.nil _ _ _, by go_grown⟩
  have E1 := Lib.hid (show res zs = DecodeVoted.res (voted zs) from by simp [res, hz])
  have E2 := Lib.hid (show cod zs = DecodeVoted.cod (voted zs) from by simp [cod, hz])
  have HZ := Lib.hid hz
  have hvs : Calls Tryz.prog 122 #[.slice A n c] w fun e w' => ∃ A1 c1, e = .returned (.tuple #[.slice A1 n c1, .int .i64 0]) ∧ OwnI 2 w' w.heap.size A1 n c1 (voted zs) ∧ Below w.heap.size w w' := by
    go_enter Tryz.func122, Tryz.ntmps122
    go_wp2_with (go_at_call 46; refine (iIsBits_any _ _ _ _ _ h hn').mono ?_; rintro e w' ⟨rfl, rfl⟩)
    refine (Vote.vote_any A n c zs _ h hn HZ.out).mono ?_
    rintro e w1 ⟨A1, c1, rfl, hown1, hb1⟩
    go_wp2
    go_ret2
    exact ⟨A1, c1, rfl, hown1, hb1⟩
  have HVS := Lib.hid hvs
  clear hvs
  go_enter Tryz.func82, Tryz.ntmps82
  go_wp2_with fail
  refine HVS.out.mono ?_
  rintro e w1 ⟨A1, c1, rfl, hown1, hb1⟩
  go_wp2_with fail
  refine (DecodeVoted.impl_any A1 n c1 (voted zs) _ hown1.reads hn' hn).mono ?_
  rintro e w2 ⟨A2, n2, c2, rfl, hown2, hb2⟩
  go_wp2
  go_ret2
  rw [E1.out, E2.out]
  exact ⟨_, _, _, rfl, hown2.weaken hb1.size, below_next hb2 hb1 (Nat.le_refl _)⟩
end DecodeSamples
end Go.Proofs.YtbaojbheopcjhaaGreatDoor

namespace Go.Proofs.YtbaojbheopcjhaaGreatDoor
open Go.RowKit

theorem edg_77 {zs : List Int} : ∀ (m f : Nat) (r : List Int × Nat), zs.length - f ≤ m → f < zs.length → edg zs f = some r → 77 * r.1.length + f ≤ zs.length + 77 := by
  intro m
  induction m with
  | zero => intro f r hm hf; omega
  | succ m ih =>
    intro f r hm hf he
    by_cases h : smp zs (f + 76) = 0
    · rw [edg_end h] at he
      obtain rfl := Option.some.inj he
      show 77 * 1 + f ≤ _
      omega
    · cases hg : nxt zs 0 (f + 77) with
      | none => rw [edg_none h hg] at he; cases he
      | some g =>
        have hgn := nxt_le hg
        by_cases hf2 : f + 84 < g
        · rw [edg_far h hg hf2] at he; cases he
        · rw [edg_go h hg hf2] at he
          cases hx : edg zs g with
          | none => rw [hx] at he; cases he
          | some x =>
            rw [hx] at he
            obtain rfl := Option.some.inj he
            have := ih g x (by omega) hgn.2.1 hx
            show 77 * (x.1.length + 1) + f ≤ _
            omega
theorem decP_77 (zs : List Int) : 77 * (decP zs).edges.length ≤ zs.length + 77 := by
  unfold decP
  split
  · simp
  · unfold decA
    split
    · unfold decH
      split
      · simp
      · rename_i f hf
        split
        · simp
        · unfold decF
          split
          · simp
          · split
            · simp
            · rename_i r hr
              have := edg_77 _ f r (Nat.le_refl _) (nxt_bound hf) hr
              show 77 * r.1.length ≤ _
              omega
    · simp
theorem bytesOf_255 {zs : List Int} (h : isBits zs = true) (es : List Int) : allR (bytesOf zs es) 0 255 = true := by
  refine List.all_eq_true.2 fun z hz => ?_
  obtain ⟨e, _, rfl⟩ := List.mem_map.1 hz
  exact inR_iff.2 (val_255 h e.toNat (Nat.le_refl 8))
theorem voted_bytes (zs : List Int) : isBytes (DecodeVoted.res zs) = true := by
  unfold DecodeVoted.res EdgesOfBytes.res
  by_cases h : (decZ zs).code = 0
  · have hb := DecodeVoted.bits_of h
    have hl : zs.length ≤ 8192 := by
      unfold isBits at hb
      rw [Bool.and_eq_true] at hb
      exact of_decide_eq_true hb.1
    have h7 := decP_77 zs
    have he : (decZ zs).edges = (decP zs).edges := by unfold decZ; rw [if_pos hb]
    rw [if_pos h, he]
    unfold isBytes
    rw [Bool.and_eq_true]
    refine ⟨?_, bytesOf_255 hb _⟩
    simp only [bytesOf, List.length_map, decide_eq_true_eq]
    omega
  · rw [if_neg h]; rfl
theorem decoded_bytes (zs : List Int) : isBytes (DecodeSamples.res zs) = true := by
  unfold DecodeSamples.res
  split
  · exact voted_bytes _
  · rfl
end Go.Proofs.YtbaojbheopcjhaaGreatDoor
