/- FnStrobes: the bytes are the samples at the strobes, and slips are the distances of the edges, for every code. Conditions: none. -/
import Derived.Test.YtjehkjdehkdjcaaB2
import Derived.Test.YtjehkjdehkdjcaaB9
import Derived.Test.YtjehkjdehkdjcaaB12
import Derived.Test.YtjehkjdehkdjcaaB4
import Derived.BigQuiet
import Derived.IntWalk
namespace Go.Proofs.Ytjehkjdehkdjcaa
open Go.ChangeShapes Go.WideShapes Go.ChangeAt Go.RowKit
namespace FnStrobes

theorem strbs_gi {es : List Int} {i k : Nat} (hi : i < es.length) (hk : k < 9) : gi (strbs es) (9 * i + k) = gi es i + 8 * (k : Int) + 12 := by
  have := gi_blocks (g := strb) (m := 9) (fun x => by simp [strb, strbTo]) es i k hi hk
  unfold strbs
  rw [this]
  simp [strb, strbTo, gi, hk]
theorem slp_gi {es : List Int} {i : Nat} (hi : i + 1 < es.length) : gi (SlipsOfBytes.slp es) i = gi es (i + 1) - gi es i - 80 := by
  have : i < es.length - 1 := by omega
  simp [SlipsOfBytes.slp, SlipsOfBytes.slpTo, gi, this]
theorem slp_len (es : List Int) : (SlipsOfBytes.slp es).length = es.length - 1 := by simp [SlipsOfBytes.slp, SlipsOfBytes.slpTo]
theorem bytesOf_gi {zs es : List Int} {i : Nat} (hi : i < es.length) : gi (bytesOf zs es) i = byteOf zs (gi es i) := by simp [bytesOf, gi, hi]
theorem bytesOf_len (zs es : List Int) : (bytesOf zs es).length = es.length := by simp [bytesOf]

set_option maxRecDepth 100000 in
set_option maxHeartbeats 16000000 in
theorem walk (w : World) (A : Option Addr) (n c : Nat) (bs : List Int) (h : RB w w.heap.size A n bs) (hn : n ≤ maxLen) :
    Calls Try.prog 11 #[.slice A n c] w fun e w' => e = .returned (.bool true) ∧ Below w.heap.size w w' := by
  rcases bool_cases (decide (4096 < n)) with hbig | hbig
  · go_enter Try.func11, Try.ntmps11
    go_wp2_with (go_at_call 21; refine (big_any _ _ _ _ hn).mono ?_; rw [hbig]; rintro e w' ⟨rfl, rfl⟩)
    go_ret
    exact ⟨rfl, Below.refl _ _⟩
  have hn4 : n ≤ 4096 := by simpa using hbig
  have B := Lib.hid (Below.refl w.heap.size w)
  go_enter Try.func11, Try.ntmps11
  go_wp2_with (go_at_call 21; refine (big_any _ _ _ _ hn).mono ?_; rw [hbig]; rintro e w' ⟨rfl, rfl⟩)
  clear hbig hn
  refine (drawStrobesOf_any A n c bs _ ((h.below B.out (Nat.le_refl _)).more B.out.size) (by omega)).mono ?_
  rintro e w1 ⟨A_s, n_s, c_s, z_s, rfl, o_s, hn_s, hb⟩
  replace B := Lib.hid (below_next hb B.out (Nat.le_refl _))
  have r_s := o_s.reads
  have L_s := Lib.hid o_s.len
  have cap_s := o_s.cap
  have non_s := Lib.hid (own_none o_s)
  clear hb o_s
  obtain ⟨es, hes⟩ : ∃ x, EdgesOfBytes.res z_s = x := ⟨_, rfl⟩
  obtain ⟨q, hq⟩ : ∃ x, (decZ z_s).code = x := ⟨_, rfl⟩
  obtain ⟨pr, hpr⟩ : ∃ x, PreambleOf.prA z_s = x := ⟨_, rfl⟩
  have c1 : StrobesOf.cod z_s = q := hq
  have c2 : DecodeVoted.cod z_s = q := hq
  have c3 : EdgesOfBytes.cod z_s = q := hq
  have c4 : SlipsOfBytes.cod z_s = q := hq
  have c5 : PreambleOf.cod z_s = q := hq
  have s1 : StrobesOf.res z_s = strbs es := by unfold StrobesOf.res; rw [hes]
  have s2 : DecodeVoted.res z_s = bytesOf z_s es := by unfold DecodeVoted.res; rw [hes]
  have s4 : SlipsOfBytes.res z_s = SlipsOfBytes.slp es := by unfold SlipsOfBytes.res; rw [hes]
  have hel : es.length ≤ 16384 := by rw [← hes]; exact Nat.le_trans (EdgesOfBytes.res_len z_s) (by rw [L_s.out]; exact hn_s)
  have hbd : ∀ x ∈ es, 0 ≤ x ∧ x ≤ (16384 : Int) := by
    rw [← hes]
    intro x hx
    unfold EdgesOfBytes.res at hx
    split at hx
    · have h1 := decZ_bd z_s x hx
      have h2 := L_s.out
      omega
    · simp at hx
  have hzb : q = 0 → isBits z_s = true := by
    intro e
    rw [← hq] at e
    exact DecodeVoted.bits_of e
  have C1 := Lib.hid c1
  have C2 := Lib.hid c2
  have C3 := Lib.hid c3
  have C4 := Lib.hid c4
  have C5 := Lib.hid c5
  have S1 := Lib.hid s1
  have S2 := Lib.hid s2
  have S4 := Lib.hid s4
  have HES := Lib.hid hes
  have HPR := Lib.hid hpr
  have BD := Lib.hid hbd
  have HZB := Lib.hid hzb
  clear cap_s hes hq hpr c1 c2 c3 c4 c5 s1 s2 s4 hbd hzb
  go_wp2_with fail
  refine (StrobesOf.impl_any A_s n_s c_s z_s _ r_s (by omega) (by omega)).mono ?_
  rw [S1.out, C1.out]
  rintro e w2 ⟨A_a, n_a, c_a, rfl, o_a, hb⟩
  replace B := Lib.hid (below_next hb B.out (Nat.le_refl _))
  replace r_s := r_s.up hb
  have r_a := o_a.reads
  have L_a := Lib.hid o_a.len
  clear hb o_a
  go_wp2_with fail
  refine (StrobesOf.spec_any A_s n_s c_s z_s _ r_s (by omega) (by omega)).mono ?_
  rw [S1.out, C1.out]
  rintro e w3 ⟨A_b, n_b, c_b, rfl, o_b, hb⟩
  replace B := Lib.hid (below_next hb B.out (Nat.le_refl _))
  replace r_s := r_s.up hb
  replace r_a := r_a.up hb
  have r_b := o_b.reads
  have L_b := Lib.hid o_b.len
  clear hb o_b
  go_wp2_with fail
  refine (DecodeVoted.impl_any A_s n_s c_s z_s _ r_s (by omega) (by omega)).mono ?_
  rw [S2.out, C2.out]
  rintro e w4 ⟨A_c, n_c, c_c, rfl, o_c, hb⟩
  replace B := Lib.hid (below_next hb B.out (Nat.le_refl _))
  replace r_s := r_s.up hb
  replace r_a := r_a.up hb
  replace r_b := r_b.up hb
  have r_c := o_c.reads
  have L_c := Lib.hid o_c.len
  clear hb o_c
  go_wp2_with fail
  refine (DecodeVoted.spec_any A_s n_s c_s z_s _ r_s (by omega) (by omega)).mono ?_
  rw [S2.out, C2.out]
  rintro e w5 ⟨A_d, n_d, c_d, rfl, o_d, hb⟩
  replace B := Lib.hid (below_next hb B.out (Nat.le_refl _))
  replace r_s := r_s.up hb
  replace r_a := r_a.up hb
  replace r_b := r_b.up hb
  replace r_c := r_c.up hb
  have r_d := o_d.reads
  have L_d := Lib.hid o_d.len
  clear hb o_d
  go_wp2_with fail
  refine (EdgesOfBytes.impl_any A_s n_s c_s z_s _ r_s (by omega) (by omega)).mono ?_
  rw [HES.out, C3.out]
  rintro e w6 ⟨A_e, n_e, c_e, rfl, o_e, hb⟩
  replace B := Lib.hid (below_next hb B.out (Nat.le_refl _))
  replace r_s := r_s.up hb
  replace r_a := r_a.up hb
  replace r_b := r_b.up hb
  replace r_c := r_c.up hb
  replace r_d := r_d.up hb
  have r_e := o_e.reads
  have L_e := Lib.hid o_e.len
  clear hb o_e
  go_wp2_with fail
  refine (EdgesOfBytes.spec_any A_s n_s c_s z_s _ r_s (by omega) (by omega)).mono ?_
  rw [HES.out, C3.out]
  rintro e w7 ⟨A_f, n_f, c_f, rfl, o_f, hb⟩
  replace B := Lib.hid (below_next hb B.out (Nat.le_refl _))
  replace r_s := r_s.up hb
  replace r_a := r_a.up hb
  replace r_b := r_b.up hb
  replace r_c := r_c.up hb
  replace r_d := r_d.up hb
  replace r_e := r_e.up hb
  have r_f := o_f.reads
  have L_f := Lib.hid o_f.len
  clear hb o_f
  go_wp2_with fail
  refine (SlipsOfBytes.impl_any A_s n_s c_s z_s _ r_s (by omega) (by omega)).mono ?_
  rw [S4.out, C4.out]
  rintro e w8 ⟨A_g, n_g, c_g, rfl, o_g, hb⟩
  replace B := Lib.hid (below_next hb B.out (Nat.le_refl _))
  replace r_s := r_s.up hb
  replace r_a := r_a.up hb
  replace r_b := r_b.up hb
  replace r_c := r_c.up hb
  replace r_d := r_d.up hb
  replace r_e := r_e.up hb
  replace r_f := r_f.up hb
  have r_g := o_g.reads
  have L_g := Lib.hid o_g.len
  clear hb o_g
  go_wp2_with fail
  refine (SlipsOfBytes.spec_any A_s n_s c_s z_s _ r_s (by omega) (by omega)).mono ?_
  rw [S4.out, C4.out]
  rintro e w9 ⟨A_i, n_i, c_i, rfl, o_i, hb⟩
  replace B := Lib.hid (below_next hb B.out (Nat.le_refl _))
  replace r_s := r_s.up hb
  replace r_a := r_a.up hb
  replace r_b := r_b.up hb
  replace r_c := r_c.up hb
  replace r_d := r_d.up hb
  replace r_e := r_e.up hb
  replace r_f := r_f.up hb
  replace r_g := r_g.up hb
  have r_i := o_i.reads
  have L_i := Lib.hid o_i.len
  clear hb o_i
  go_wp2_with fail
  refine (PreambleOf.impl_any A_s n_s c_s z_s _ r_s (by omega) (by omega)).mono ?_
  rw [HPR.out, C5.out]
  rintro e w10 ⟨rfl, hb⟩
  replace B := Lib.hid (below_next hb B.out (Nat.le_refl _))
  replace r_s := r_s.up hb
  replace r_a := r_a.up hb
  replace r_b := r_b.up hb
  replace r_c := r_c.up hb
  replace r_d := r_d.up hb
  replace r_e := r_e.up hb
  replace r_f := r_f.up hb
  replace r_g := r_g.up hb
  replace r_i := r_i.up hb
  clear hb
  go_wp2_with fail
  refine (PreambleOf.spec_any A_s n_s c_s z_s _ r_s (by omega) (by omega)).mono ?_
  rw [HPR.out, C5.out]
  rintro e w11 ⟨rfl, hb⟩
  replace B := Lib.hid (below_next hb B.out (Nat.le_refl _))
  replace r_s := r_s.up hb
  replace r_a := r_a.up hb
  replace r_b := r_b.up hb
  replace r_c := r_c.up hb
  replace r_d := r_d.up hb
  replace r_e := r_e.up hb
  replace r_f := r_f.up hb
  replace r_g := r_g.up hb
  replace r_i := r_i.up hb
  clear hb
  obtain ⟨M, hM⟩ : ∃ x, es.length = x := ⟨_, rfl⟩
  have HM := Lib.hid hM
  rw [hM] at hel
  obtain rfl : n_a = 9 * M := by have := L_a.out; rw [strbs_len, hM] at this; omega
  obtain rfl : n_b = 9 * M := by have := L_b.out; rw [strbs_len, hM] at this; omega
  have e_c : M = n_c := by have := L_c.out; rw [bytesOf_len, hM] at this; omega
  subst e_c
  have e_d : M = n_d := by have := L_d.out; rw [bytesOf_len, hM] at this; omega
  subst e_d
  have e_e : M = n_e := by have := L_e.out; omega
  subst e_e
  have e_f : M = n_f := by have := L_f.out; omega
  subst e_f
  obtain rfl : n_g = M - 1 := by have := L_g.out; rw [slp_len, hM] at this; omega
  obtain rfl : n_i = M - 1 := by have := L_i.out; rw [slp_len, hM] at this; omega
  clear hM
  go_wp2_with fail
  have lk := likeIntsV A_a A_b (9 * M) (9 * M) c_a c_b (strbs es) (strbs es) _ r_a r_b (by omega) (by omega)
  rw [eqI_self] at lk
  refine lk.mono ?_
  clear lk
  rintro e w12 ⟨rfl, hb⟩
  replace B := Lib.hid (below_next hb B.out (Nat.le_refl _))
  replace r_s := r_s.up hb
  replace r_a := r_a.up hb
  replace r_b := r_b.up hb
  replace r_c := r_c.up hb
  replace r_d := r_d.up hb
  replace r_e := r_e.up hb
  replace r_f := r_f.up hb
  replace r_g := r_g.up hb
  replace r_i := r_i.up hb
  clear hb
  go_wp2_with fail
  have lk := likeIntsV A_c A_d (M) (M) c_c c_d (bytesOf z_s es) (bytesOf z_s es) _ r_c r_d (by omega) (by omega)
  rw [eqI_self] at lk
  refine lk.mono ?_
  clear lk
  rintro e w13 ⟨rfl, hb⟩
  replace B := Lib.hid (below_next hb B.out (Nat.le_refl _))
  replace r_s := r_s.up hb
  replace r_a := r_a.up hb
  replace r_b := r_b.up hb
  replace r_c := r_c.up hb
  replace r_d := r_d.up hb
  replace r_e := r_e.up hb
  replace r_f := r_f.up hb
  replace r_g := r_g.up hb
  replace r_i := r_i.up hb
  clear hb
  go_wp2_with fail
  have lk := likeIntsV A_e A_f (M) (M) c_e c_f es es _ r_e r_f (by omega) (by omega)
  rw [eqI_self] at lk
  refine lk.mono ?_
  clear lk
  rintro e w14 ⟨rfl, hb⟩
  replace B := Lib.hid (below_next hb B.out (Nat.le_refl _))
  replace r_s := r_s.up hb
  replace r_a := r_a.up hb
  replace r_b := r_b.up hb
  replace r_c := r_c.up hb
  replace r_d := r_d.up hb
  replace r_e := r_e.up hb
  replace r_f := r_f.up hb
  replace r_g := r_g.up hb
  replace r_i := r_i.up hb
  clear hb
  go_wp2_with fail
  have lk := likeIntsV A_g A_i (M - 1) (M - 1) c_g c_i (SlipsOfBytes.slp es) (SlipsOfBytes.slp es) _ r_g r_i (by omega) (by omega)
  rw [eqI_self] at lk
  refine lk.mono ?_
  clear lk
  rintro e w15 ⟨rfl, hb⟩
  replace B := Lib.hid (below_next hb B.out (Nat.le_refl _))
  replace r_s := r_s.up hb
  replace r_a := r_a.up hb
  replace r_b := r_b.up hb
  replace r_c := r_c.up hb
  replace r_d := r_d.up hb
  replace r_e := r_e.up hb
  replace r_f := r_f.up hb
  replace r_g := r_g.up hb
  replace r_i := r_i.up hb
  clear hb
  rcases ne_cases q with rfl | ⟨h1, h2, h3⟩
  case inr =>
    go_wp2
    go_ret
    exact ⟨rfl, B.out⟩
  have HZ := Lib.hid (HZB.out rfl)
  clear r_a r_d r_e r_g
  go_wp2_with fail
  go_loopw [24, 25, 26, 27, 28] (fun i _ _ _ _ wr => ∃ k m : Nat, k ≤ M ∧ i = .int .i64 k ∧ wr = w15.drewN m) (fun i _ _ _ _ _ => M - (intOf i).toNat)
  case atStart => exact ⟨0, 0, Nat.zero_le _, rfl, rfl⟩
  case round =>
    obtain ⟨k, m, hk, rfl, rfl⟩ := hrel
    by_cases hlt : k < M
    · have hbk := bd_gi BD.out (k := k) (by rw [HM.out]; exact hlt)
      obtain ⟨Q, hQ⟩ : ∃ Q : Nat, gi es k = (Q : Int) := ⟨(gi es k).toNat, by omega⟩
      have HQ := Lib.hid hQ
      have hQ2 : Q ≤ 16384 := by omega
      clear hQ hbk
      go_wp2_with fail
      go_loop [25, 26, 27, 28] (fun v i _ _ => ∃ j : Nat, j ≤ 8 ∧ i = .int .i64 j ∧ v = .int .i64 (valTo z_s Q j)) (fun _ i _ _ => 8 - (intOf i).toNat)
      case atStart => exact ⟨0, by omega, rfl, rfl⟩
      case round =>
        obtain ⟨j, hj, rfl, rfl⟩ := hrel
        by_cases hj8 : j < 8
        · have hv := val_255 HZ.out Q hj
          obtain ⟨v, hvv⟩ : ∃ v, valTo z_s Q j = v := ⟨_, rfl⟩
          rw [hvv] at hv ⊢
          have HV := Lib.hid hvv
          obtain ⟨hv1, hv2⟩ := hv
          obtain ⟨b, o, rfl, hbl, hc⟩ := r_b.get (by omega)
          have hcell := hc (9 * k + j) (by omega)
          rw [strbs_gi (by rw [HM.out]; exact hlt) (by omega), HQ.out] at hcell
          have hj9 : (9 * (k : Int) + (j : Int)) < 9 * (M : Int) := by omega
          clear hvv hc
          by_cases hin : Q + 8 * j + 12 < n_s
          · obtain ⟨b1, o1, rfl, hbl1, hc1⟩ := r_s.get (by omega)
            have hcell1 := hc1 (Q + 8 * j + 12) hin
            have hs : smp z_s (Q + 8 * j + 12) = gi z_s (Q + 8 * j + 12) := by unfold smp; rw [if_pos (by rw [L_s.out]; exact hin)]
            have hs2 := smp_bit HZ.out (Q + 8 * j + 12)
            rw [hs] at hs2
            have HS := Lib.hid hs
            have hin2 : (Q : Int) + 8 * (j : Int) + 12 < (n_s : Int) := by omega
            clear hs hc1
            go_wp2
            go_round
            case rel => exact ⟨j + 1, by omega, by go_num, by rw [show valTo z_s Q (j + 1) = 2 * valTo z_s Q j + smp z_s (Q + 8 * j + 12) from rfl, HV.out, HS.out]⟩
            case measure => simp [intOf]; omega
          · have hs : smp z_s (Q + 8 * j + 12) = 1 := by unfold smp; rw [if_neg (by rw [L_s.out]; exact hin)]
            have HS := Lib.hid hs
            have hin2 : ¬ (Q : Int) + 8 * (j : Int) + 12 < (n_s : Int) := by omega
            clear hs
            go_wp2
            go_round
            case rel => exact ⟨j + 1, by omega, by go_num, by rw [show valTo z_s Q (j + 1) = 2 * valTo z_s Q j + smp z_s (Q + 8 * j + 12) from rfl, HV.out, HS.out]⟩
            case measure => simp [intOf]; omega
        · have hj8' : j = 8 := by omega
          obtain ⟨v, hvv⟩ : ∃ v, valTo z_s Q j = v := ⟨_, rfl⟩
          obtain ⟨b, o, rfl, hbl, hc⟩ := r_c.get (by omega)
          have hcell := hc k hlt
          rw [bytesOf_gi (by rw [HM.out]; exact hlt), HQ.out, show byteOf z_s (Q : Int) = valTo z_s Q 8 from by unfold byteOf; rw [Int.toNat_natCast], ← hj8', hvv] at hcell
          rw [hvv]
          clear hvv hc hj8'
          obtain ⟨b1, o1, rfl, hbl1, hc1⟩ := r_f.get (by omega)
          have hcell1 := hc1 k hlt
          rw [HQ.out] at hcell1
          by_cases hk0 : k = 0
          · subst hk0
            rw [Nat.add_zero] at hcell hcell1
            clear hc1
            go_wp2
            go_quiet (fail)
            go_wp2
            go_roundw
            case rel => exact ⟨1, _, by omega, by go_num, rfl⟩
            case measure => simp [intOf]; omega
          · have hbk2 := bd_gi BD.out (k := k - 1) (by rw [HM.out]; omega)
            obtain ⟨Q2, hQ2'⟩ : ∃ Q2 : Nat, gi es (k - 1) = (Q2 : Int) := ⟨(gi es (k - 1)).toNat, by omega⟩
            have hQ3 : Q2 ≤ 16384 := by omega
            have hcell2 := hc1 (k - 1) (by omega)
            obtain ⟨b2, o2, rfl, hbl2, hc2⟩ := r_i.get (by omega)
            have hcell3 := hc2 (k - 1) (by omega)
            rw [slp_gi (by rw [HM.out]; omega), show k - 1 + 1 = k by omega, HQ.out, hQ2'] at hcell3
            rw [hQ2'] at hcell2
            clear hQ2' hc1 hc2 hbk2
            have hd : 0 < k := by omega
            have f1 : IntKind.i64.wrap ((k : Int) - 1) = ((k - 1 : Nat) : Int) := by rw [IntWalk.i64_in _ (by omega)]; omega
            have f2 : IntKind.i64.wrap ((Q2 : Int) + 80) = (Q2 : Int) + 80 := IntWalk.i64_in _ (by omega)
            have f3 : IntKind.i64.wrap ((Q2 : Int) + 80 + ((Q : Int) - (Q2 : Int) - 80)) = (Q : Int) := by rw [IntWalk.i64_in _ (by omega)]; omega
            have f4 : ((k - 1 : Nat) : Int) < (M : Int) := by omega
            have f5 : ((k - 1 : Nat) : Int) < ((M - 1 : Nat) : Int) := by omega
            go_wp2
            go_quiet (fail)
            go_wp2
            go_roundw
            case rel => exact ⟨k + 1, _, by omega, by go_num, rfl⟩
            case measure => simp [intOf]; omega
    · have hkn : k = M := by omega
      have HK := Lib.hid hkn
      clear hkn
      go_wp2
      go_ret
      exact ⟨rfl, below_drewN B.out _⟩

set_option maxRecDepth 100000 in
theorem lifted (os : Os) (started : os.Started) (H : Type) (enc : TypeId × Value → H) :
    ReturnsInHanded {} Try.checked os 11 .any (Rows.fnStrobesSpec.pre6 enc Try.prog Try.f11 Rows.fnStrobesRow.domain false) (Rows.fnStrobesSpec.post enc Try.prog Try.f11 false true false false) := by
  refine returnsInHanded_of_change (C := Try.checked) own started (by kernel_rfl) Try.func11
    (ChangeSpec.witness6 (enc := enc) (C := Try.checked) false ⟨#[], #[.slice none 0 0], []⟩ 8 (by kernel_rfl) (by kernel_rfl) (by kernel_rfl) (by kernel_rfl)) ?_
  intro W base args ds gs before hval0 hW _ _
  have hval : ∀ (j : Nat) t v, Try.f11.params[j]? = some t → args[j]? = some v → Value.okWide Try.prog W .any base t v := hval0
  have hW' := hW
  obtain ⟨p, q, hA0, hV, rfl, hfz, hnd⟩ := hW
  have hA : DataW.TrodAll enc Try.prog W 0 (fun _ => true) true Try.f11.params.toList args.toList ds p := hA0
  rw [Try.params11] at hA hval
  obtain ⟨v0, vs0, d0, ds0, p0, q0, hargs, rfl, rfl, h0, r0⟩ := trodAll_cons hA
  obtain ⟨rfl, rfl, rfl⟩ := trodAll_nil r0
  obtain rfl : args = #[v0] := by cases args; simp_all
  obtain ⟨A0, n0, c0, bs0, rfl, hr0, hn0⟩ := arg_bytes Try.underlying39 Try.underlying5 (by kernel_rfl) (hval 0 39 v0 rfl rfl) h0
  refine (walk W A0 n0 c0 bs0 hr0 hn0).mono fun e W' ⟨he, hb⟩ => ?_
  subst he
  exact ⟨_, rfl, law_post laidOut (by
    rw [show Try.f11.params.toList = [39] from rfl]
    intro t ht
    rw [List.mem_singleton.1 ht]; exact ⟨by kernel_rfl, of_decide_eq_true (by kernel_rfl)⟩) rfl Try.underlying4 rfl rfl hW' hb⟩

set_option maxRecDepth 100000 in
theorem closed : joinedFacts Try.prog 11 Try.f11 Rows.fnStrobesSpec Rows.fnStrobesRow = true := by
  unfold joinedFacts
  rw [mayEnter_ok, liftsFinal_ok, make_ok]
  change _ = true
  kernel_rfl

theorem holds : Rows.FnStrobesSaid :=
  OpenClaim.holds_of_wide 11 Try.f11 rfl rfl rfl rfl rfl rfl rfl ⟨rfl, rfl, rfl, rfl, rfl⟩ rfl rfl rfl rfl rfl (by kernel_rfl) Try.func11 closed
    (of_decide_eq_true (by kernel_rfl)) (by unfold Func.isWrapper; first | (rw [if_pos (by decide +kernel)]; kernel_rfl) | (rw [if_neg (by decide +kernel)]; exact ⟨rfl, rfl⟩))
    (fun os started H enc _ => lifted os started H enc)
end FnStrobes
end Go.Proofs.Ytjehkjdehkdjcaa
