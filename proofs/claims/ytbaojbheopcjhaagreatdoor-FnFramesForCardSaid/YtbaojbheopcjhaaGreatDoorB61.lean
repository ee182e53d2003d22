/- Walks, laws and small notions for the claims of this seat, several texts as one (FnFW). Conditions: as each theorem states them. -/
import Derived.Test.YtbaojbheopcjhaaGreatDoorB52
import Derived.Test.YtbaojbheopcjhaaGreatDoorB59
import Derived.Test.YtbaojbheopcjhaaGreatDoorB21
import Derived.Test.YtbaojbheopcjhaaGreatDoorB15
import Derived.Test.YtbaojbheopcjhaaGreatDoorB10
import Derived.Test.YtbaojbheopcjhaaGreatDoorB60
import Derived.BigQuiet
import Derived.IntWalk
namespace Go.Proofs.YtbaojbheopcjhaaGreatDoor
open Go.ChangeShapes Go.WideShapes Go.ChangeAt Go.RowKit
namespace FnFramesFor

/-- a drawn schedule and state in their boxes -/
structure LQ (w : World) (b1 b2 : Nat) (m : Mdv) (M : Mdl) (X : List Value) (u : World) : Prop where
  bel : Below w.heap.size w u
  km : BlkL u b1 28 (lM m)
  kx : BlkL u b2 30 X
  v : RD u u.heap.size m M
theorem LQ.next {w : World} {b1 b2 : Nat} {m : Mdv} {M : Mdl} {X : List Value} {u u' : World} (h : LQ w b1 b2 m M X u) (hb : Below u.heap.size u u') : LQ w b1 b2 m M X u' :=
  ⟨below_next hb h.bel (Nat.le_refl _), h.km.next hb, h.kx.next hb, h.v.up hb⟩
theorem sF_self (a b c d e f g : Int) (zs : List Int) : sF a b c d e f g a b c d e f g zs zs = true := by simp [sF, eqI_self]
theorem sFF_lit (m : Mdv) (M : Mdl) (t md rn sl mb fl rq : Int) (w : World) (h : RD w w.heap.size m M) (hx : RX m M) : Calls Tryz.prog 15 #[.agg #[.int .i64 m.id, .slice m.An m.nn m.cn, .slice m.Am m.nm m.cm, .slice m.As m.ns m.cs], .agg #[.int .i64 t, .int .i64 md, .int .i64 rn, .int .i64 sl, .int .i64 mb], .int .i64 fl, .int .i64 rq] w
    (RetFC w (ifz (codeFF M t md rn sl mb fl rq) (ge M.ss (findI M.ss md rn sl)).kd) (ifz (codeFF M t md rn sl mb fl rq) rq) (ifz (codeFF M t md rn sl mb fl rq) (stF (frB M md rn sl) t)) (ifz (codeFF M t md rn sl mb fl rq) (stF (frB M md rn sl) md)) (ifz (codeFF M t md rn sl mb fl rq) (stF (frB M md rn sl) rn)) (ifz (codeFF M t md rn sl mb fl rq) (stF (frB M md rn sl) sl)) (ifz (codeFF M t md rn sl mb fl rq) (stF (frB M md rn sl) mb)) (if (codeFF M t md rn sl mb fl rq) = 0 then frL M md rn sl fl else []) (codeFF M t md rn sl mb fl rq)) := sFrameFor_any m M t md rn sl mb fl rq w h hx
theorem iFF_lit (m : Mdv) (M : Mdl) (t md rn sl mb fl rq : Int) (w : World) (h : RD w w.heap.size m M) (hx : RX m M) : Calls Tryz.prog 14 #[.agg #[.int .i64 m.id, .slice m.An m.nn m.cn, .slice m.Am m.nm m.cm, .slice m.As m.ns m.cs], .agg #[.int .i64 t, .int .i64 md, .int .i64 rn, .int .i64 sl, .int .i64 mb], .int .i64 fl, .int .i64 rq] w
    (RetFC w (ifz (codeFF M t md rn sl mb fl rq) (ge M.ss (findI M.ss md rn sl)).kd) (ifz (codeFF M t md rn sl mb fl rq) rq) (ifz (codeFF M t md rn sl mb fl rq) (stF (frB M md rn sl) t)) (ifz (codeFF M t md rn sl mb fl rq) (stF (frB M md rn sl) md)) (ifz (codeFF M t md rn sl mb fl rq) (stF (frB M md rn sl) rn)) (ifz (codeFF M t md rn sl mb fl rq) (stF (frB M md rn sl) sl)) (ifz (codeFF M t md rn sl mb fl rq) (stF (frB M md rn sl) mb)) (if (codeFF M t md rn sl mb fl rq) = 0 then frL M md rn sl fl else []) (codeFF M t md rn sl mb fl rq)) := iFrameFor_any m M t md rn sl mb fl rq w h hx
theorem ff_len (M : Mdl) (t md rn sl mb fl rq : Int) : (if (codeFF M t md rn sl mb fl rq) = 0 then frL M md rn sl fl else []).length ≤ 1000000 := by
  by_cases h0 : (codeFF M t md rn sl mb fl rq) = 0
  · rw [if_pos h0]
    unfold frL
    rw [List.length_replicate]
    have hc : codeM M t md rn sl mb = 0 := by
      by_cases hc : codeM M t md rn sl mb = 0
      · exact hc
      · unfold codeFF at h0
        rw [if_neg hc] at h0
        exact h0
    rcases codeM_cases M t md rn sl mb with h1 | h1 | ⟨_, h1, h2⟩
    · omega
    · omega
    · have hbd := isSl_bd (isST_sl (isMedl_nt h1).2.2.1 (bel_find h1 h2))
      omega
  · rw [if_neg h0]; simp
theorem ff_ok {M : Mdl} {t md rn sl mb fl rq : Int} (h : (codeFF M t md rn sl mb fl rq) = 0) :
    codeM M t md rn sl mb = 0 ∧ ifz (codeFF M t md rn sl mb fl rq) rq = rq ∧ sendTo M t md rn sl mb (ifz (codeFF M t md rn sl mb fl rq) (ge M.ss (findI M.ss md rn sl)).kd) (ifz (codeFF M t md rn sl mb fl rq) rq) (ifz (codeFF M t md rn sl mb fl rq) (stF (frB M md rn sl) t)) (ifz (codeFF M t md rn sl mb fl rq) (stF (frB M md rn sl) md)) (ifz (codeFF M t md rn sl mb fl rq) (stF (frB M md rn sl) rn)) (ifz (codeFF M t md rn sl mb fl rq) (stF (frB M md rn sl) sl)) (ifz (codeFF M t md rn sl mb fl rq) (stF (frB M md rn sl) mb)) (if (codeFF M t md rn sl mb fl rq) = 0 then frL M md rn sl fl else []) = true ∧ (∀ i, i < (if (codeFF M t md rn sl mb fl rq) = 0 then frL M md rn sl fl else []).length → gi (if (codeFF M t md rn sl mb fl rq) = 0 then frL M md rn sl fl else []) i = fl) ∧ isBits (silL M t md rn sl mb) = true ∧ DecodeSamples.cod (silL M t md rn sl mb) = 4 := by
  have hc : codeM M t md rn sl mb = 0 := by
    by_cases hc : codeM M t md rn sl mb = 0
    · exact hc
    · unfold codeFF at h
      rw [if_neg hc] at h
      exact h
  have hs := h
  unfold codeFF at hs
  rw [if_pos hc] at hs
  have hb : belTo M t md rn sl mb = true := by
    rcases codeM_cases M t md rn sl mb with h1 | h1 | ⟨_, h1, h2⟩
    · omega
    · omega
    · unfold belTo; rw [h1, h2]; rfl
  have hi : inR fl 0 255 = true ∧ inR rq 0 7 = true := by
    by_cases hi : inR fl 0 255 = true ∧ inR rq 0 7 = true
    · exact hi
    · rw [if_neg hi] at hs; omega
  rw [if_pos hi] at hs
  have hsb : sendB (ge M.ss (findI M.ss md rn sl)) t md rn sl mb (ge M.ss (findI M.ss md rn sl)).kd rq (stF (frB M md rn sl) t) (stF (frB M md rn sl) md) (stF (frB M md rn sl) rn) (stF (frB M md rn sl) sl) (stF (frB M md rn sl) mb) (frL M md rn sl fl) = true := by
    cases hq : sendB (ge M.ss (findI M.ss md rn sl)) t md rn sl mb (ge M.ss (findI M.ss md rn sl)).kd rq (stF (frB M md rn sl) t) (stF (frB M md rn sl) md) (stF (frB M md rn sl) rn) (stF (frB M md rn sl) sl) (stF (frB M md rn sl) mb) (frL M md rn sl fl) with
    | true => rfl
    | false => rw [hq, if_neg (by simp)] at hs; omega
  have hz : ∀ x : Int, ifz (codeFF M t md rn sl mb fl rq) x = x := fun x => by unfold ifz; rw [if_pos h]
  rw [hz, hz, hz, hz, hz, hz, hz, if_pos h]
  refine ⟨hc, rfl, by unfold sendTo; rw [hb, hsb]; rfl, fun i hi => ?_, ?_⟩
  · unfold frL at hi ⊢
    rw [List.length_replicate] at hi
    unfold gi; simp [hi]
  · have hl := silL_len M t md rn sl mb
    have he : silL M t md rn sl mb = List.replicate (8 * (ge M.ss (findI M.ss md rn sl)).du).toNat 1 := by unfold silL; rw [if_pos hc]
    rw [he] at hl ⊢
    rw [List.length_replicate] at hl
    exact ⟨highs_bits (by omega), silent_cod (by omega)⟩
set_option maxRecDepth 100000 in
set_option maxHeartbeats 2000000 in
theorem walk (w : World) (A : Option Addr) (n c : Nat) (bs : List Int) (h : RB w w.heap.size A n bs) (hn : n ≤ maxLen) (_ : True) :
    Calls Tryz.prog 4 #[.slice A n c] w fun e w' => e = .returned (.bool true) ∧ Below w.heap.size w w' := by
  rcases bool_cases (decide (4096 < n)) with hbig | hbig
  · go_enter Tryz.func4, Tryz.ntmps4
    go_wp2_with (go_at_call 5; refine (big_any _ _ _ _ hn).mono ?_; rw [hbig]; rintro e w' ⟨rfl, rfl⟩)
    go_ret
    exact ⟨rfl, Below.refl _ _⟩
  have hn4 : n ≤ 4096 := by simpa using hbig
  have B := Lib.hid (Below.refl w.heap.size w)
  go_enter Tryz.func4, Tryz.ntmps4
  go_wp2_with (go_at_call 5; refine (big_any _ _ _ _ hn).mono ?_; rw [hbig]; rintro e w' ⟨rfl, rfl⟩)
  clear hbig hn
  refine (drawFF_any A n c bs _ h (by omega)).mono ?_
  rintro e w1 ⟨m, M, t, md, rn, sl, mb, fl, rq, rfl, dv, hb⟩
  obtain ⟨u1, hu1⟩ : ∃ v, v = (w1.alloc (.cells #[.int .i64 m.id, .slice m.An m.nn m.cn, .slice m.Am m.nm m.cm, .slice m.As m.ns m.cs] 28)).alloc (.cells #[.int .i64 t, .int .i64 md, .int .i64 rn, .int .i64 sl, .int .i64 mb] 30) := ⟨_, rfl⟩
  have HRX := Lib.hid dv.rx
  have ba : Below w1.heap.size w1 u1 := by rw [hu1]; go_grown
  have L := Lib.hid (show LQ w w1.heap.size (w1.heap.size + 1) m M [.int .i64 t, .int .i64 md, .int .i64 rn, .int .i64 sl, .int .i64 mb] u1 from ⟨below_next ba hb (Nat.le_refl _), by rw [hu1]; exact (BlkL.new w1 _ _ rfl).alloc _, by rw [hu1]; exact BlkL.new _ _ _ (by simp), dv.reads.up ba⟩)
  clear dv hb ba B
  go_upto_region 4 with fail
  rw [← hu1]
  clear hu1
  have hI := fun (u : World) (hu : RD u u.heap.size m M) => iFF_lit m M t md rn sl mb fl rq u hu HRX.out
  have hW := fun (u : World) (hu : RD u u.heap.size m M) => sFF_lit m M t md rn sl mb fl rq u hu HRX.out
  have hok := fun h => ff_ok (M := M) (t := t) (md := md) (rn := rn) (sl := sl) (mb := mb) (fl := fl) (rq := rq) h
  have hsl := silL_len M t md rn sl mb
  have hZl := ff_len M t md rn sl mb fl rq
  have hJ := fun (u : World) (hu : RD u u.heap.size m M) => iSilent_any m M t md rn sl mb u hu HRX.out
  have hT := fun (u : World) (hu : RD u u.heap.size m M) => sSilent_any m M t md rn sl mb u hu HRX.out
  have hU := fun (u : World) (A : Option Addr) (n c : Nat) (hu : RD u u.heap.size m M) (hz : RI u u.heap.size A n (silL M t md rn sl mb)) (hn : n ≤ 1048576) => iChan4_any m M t md rn sl mb A n c (silL M t md rn sl mb) u hu HRX.out hz hn
  obtain ⟨R1, hR1⟩ : ∃ x, ifz (codeFF M t md rn sl mb fl rq) (ge M.ss (findI M.ss md rn sl)).kd = x := ⟨_, rfl⟩
  obtain ⟨R2, hR2⟩ : ∃ x, ifz (codeFF M t md rn sl mb fl rq) rq = x := ⟨_, rfl⟩
  obtain ⟨R3, hR3⟩ : ∃ x, ifz (codeFF M t md rn sl mb fl rq) (stF (frB M md rn sl) t) = x := ⟨_, rfl⟩
  obtain ⟨R4, hR4⟩ : ∃ x, ifz (codeFF M t md rn sl mb fl rq) (stF (frB M md rn sl) md) = x := ⟨_, rfl⟩
  obtain ⟨R5, hR5⟩ : ∃ x, ifz (codeFF M t md rn sl mb fl rq) (stF (frB M md rn sl) rn) = x := ⟨_, rfl⟩
  obtain ⟨R6, hR6⟩ : ∃ x, ifz (codeFF M t md rn sl mb fl rq) (stF (frB M md rn sl) sl) = x := ⟨_, rfl⟩
  obtain ⟨R7, hR7⟩ : ∃ x, ifz (codeFF M t md rn sl mb fl rq) (stF (frB M md rn sl) mb) = x := ⟨_, rfl⟩
  obtain ⟨Z, hZ⟩ : ∃ x, (if (codeFF M t md rn sl mb fl rq) = 0 then frL M md rn sl fl else []) = x := ⟨_, rfl⟩
  obtain ⟨q, hq⟩ : ∃ x, (codeFF M t md rn sl mb fl rq) = x := ⟨_, rfl⟩
  obtain ⟨S, hS⟩ : ∃ x, silL M t md rn sl mb = x := ⟨_, rfl⟩
  obtain ⟨p, hp⟩ : ∃ x, codeM M t md rn sl mb = x := ⟨_, rfl⟩
  rw [hR1, hR2, hR3, hR4, hR5, hR6, hR7, hZ, hq] at hI hW
  rw [hS, hp] at hJ hT
  rw [hS, hp] at hU
  rw [hR1, hR2, hR3, hR4, hR5, hR6, hR7, hZ, hq, hS, hp] at hok
  rw [hZ] at hZl
  rw [hS] at hsl
  have HI := Lib.hid hI
  have HW := Lib.hid hW
  have HJ := Lib.hid hJ
  have HT := Lib.hid hT
  have HU := Lib.hid hU
  have HOK := Lib.hid hok
  clear hI hW hJ hT hU hok hR1 hR2 hR3 hR4 hR5 hR6 hR7 hZ hq hS hp
  have kc0 := L.out.km.c 0 rfl; have kc1 := L.out.km.c 1 rfl; have kc2 := L.out.km.c 2 rfl; have kc3 := L.out.km.c 3 rfl
  have kx0 := L.out.kx.c 0 rfl; have kx1 := L.out.kx.c 1 rfl; have kx2 := L.out.kx.c 2 rfl; have kx3 := L.out.kx.c 3 rfl; have kx4 := L.out.kx.c 4 rfl
  go_wp2_with fail
  refine (HI.out _ L.out.v).mono ?_
  rintro e v1 ⟨A4, n4, c4, rfl, o4, hb⟩
  replace L := Lib.hid (L.out.next hb)
  have r4 := o4.reads
  have l4 := o4.len
  have no4 := Lib.hid (own_none o4)
  clear o4
  clear hb
  clear kc0 kc1 kc2 kc3 kx0 kx1 kx2 kx3 kx4
  obtain ⟨u4, hu9⟩ : ∃ v, v = v1.alloc (.cells #[.int .i64 R1, .int .i64 R2, .int .i64 R3, .int .i64 R4, .int .i64 R5, .int .i64 R6, .int .i64 R7, .slice A4 n4 c4] 33) := ⟨_, rfl⟩
  have hb : Below v1.heap.size v1 u4 := by rw [hu9]; go_grown
  have K40 : BlkL u4 v1.heap.size 33 [.int .i64 R1, .int .i64 R2, .int .i64 R3, .int .i64 R4, .int .i64 R5, .int .i64 R6, .int .i64 R7, .slice A4 n4 c4] := by rw [hu9]; exact BlkL.new _ _ _ rfl
  replace L := Lib.hid (L.out.next hb)
  replace r4 := r4.up hb
  have K4 := Lib.hid K40
  clear K40 hb
  go_upto_region 5 with fail
  rw [← hu9]
  clear hu9
  have kc0 := L.out.km.c 0 rfl; have kc1 := L.out.km.c 1 rfl; have kc2 := L.out.km.c 2 rfl; have kc3 := L.out.km.c 3 rfl
  have kx0 := L.out.kx.c 0 rfl; have kx1 := L.out.kx.c 1 rfl; have kx2 := L.out.kx.c 2 rfl; have kx3 := L.out.kx.c 3 rfl; have kx4 := L.out.kx.c 4 rfl
  go_wp2_with fail
  refine (HW.out _ L.out.v).mono ?_
  rintro e v2 ⟨A5, n5, c5, rfl, o5, hb⟩
  replace L := Lib.hid (L.out.next hb)
  replace r4 := r4.up hb
  replace K4 := Lib.hid (K4.out.next hb)
  have r5 := o5.reads
  have l5 := o5.len
  have no5 := Lib.hid (own_none o5)
  clear o5
  clear hb
  clear kc0 kc1 kc2 kc3 kx0 kx1 kx2 kx3 kx4
  obtain ⟨u5, hu9⟩ : ∃ v, v = v2.alloc (.cells #[.int .i64 R1, .int .i64 R2, .int .i64 R3, .int .i64 R4, .int .i64 R5, .int .i64 R6, .int .i64 R7, .slice A5 n5 c5] 33) := ⟨_, rfl⟩
  have hb : Below v2.heap.size v2 u5 := by rw [hu9]; go_grown
  have K50 : BlkL u5 v2.heap.size 33 [.int .i64 R1, .int .i64 R2, .int .i64 R3, .int .i64 R4, .int .i64 R5, .int .i64 R6, .int .i64 R7, .slice A5 n5 c5] := by rw [hu9]; exact BlkL.new _ _ _ rfl
  replace L := Lib.hid (L.out.next hb)
  replace r4 := r4.up hb
  replace r5 := r5.up hb
  replace K4 := Lib.hid (K4.out.next hb)
  have K5 := Lib.hid K50
  clear K50 hb
  go_upto_region 6 with fail
  rw [← hu9]
  clear hu9
  have kc0 := L.out.km.c 0 rfl; have kc1 := L.out.km.c 1 rfl; have kc2 := L.out.km.c 2 rfl; have kc3 := L.out.km.c 3 rfl
  have kx0 := L.out.kx.c 0 rfl; have kx1 := L.out.kx.c 1 rfl; have kx2 := L.out.kx.c 2 rfl; have kx3 := L.out.kx.c 3 rfl; have kx4 := L.out.kx.c 4 rfl
  go_wp2_with fail
  refine (HJ.out _ L.out.v).mono ?_
  rintro e v3 ⟨A6, n6, c6, rfl, o6, hb⟩
  replace L := Lib.hid (L.out.next hb)
  replace r4 := r4.up hb
  replace r5 := r5.up hb
  replace K4 := Lib.hid (K4.out.next hb)
  replace K5 := Lib.hid (K5.out.next hb)
  have r6 := o6.reads
  have l6 := o6.len
  have no6 := Lib.hid (own_none o6)
  clear o6
  clear hb
  clear kc0 kc1 kc2 kc3 kx0 kx1 kx2 kx3 kx4
  have kc0 := L.out.km.c 0 rfl; have kc1 := L.out.km.c 1 rfl; have kc2 := L.out.km.c 2 rfl; have kc3 := L.out.km.c 3 rfl
  have kx0 := L.out.kx.c 0 rfl; have kx1 := L.out.kx.c 1 rfl; have kx2 := L.out.kx.c 2 rfl; have kx3 := L.out.kx.c 3 rfl; have kx4 := L.out.kx.c 4 rfl
  go_wp2_with fail
  refine (HT.out _ L.out.v).mono ?_
  rintro e v4 ⟨A7, n7, c7, rfl, o7, hb⟩
  replace L := Lib.hid (L.out.next hb)
  replace r4 := r4.up hb
  replace r5 := r5.up hb
  replace r6 := r6.up hb
  replace K4 := Lib.hid (K4.out.next hb)
  replace K5 := Lib.hid (K5.out.next hb)
  have r7 := o7.reads
  have l7 := o7.len
  have no7 := Lib.hid (own_none o7)
  clear o7
  clear hb
  clear kc0 kc1 kc2 kc3 kx0 kx1 kx2 kx3 kx4
  have hqq : (q != q) = false := by simp
  have hpp : (p != p) = false := by simp
  have f0 := K4.out.c 0 rfl; have f1 := K4.out.c 1 rfl; have f2 := K4.out.c 2 rfl; have f3 := K4.out.c 3 rfl; have f4 := K4.out.c 4 rfl; have f5 := K4.out.c 5 rfl; have f6 := K4.out.c 6 rfl; have f7 := K4.out.c 7 rfl
  have g0 := K5.out.c 0 rfl; have g1 := K5.out.c 1 rfl; have g2 := K5.out.c 2 rfl; have g3 := K5.out.c 3 rfl; have g4 := K5.out.c 4 rfl; have g5 := K5.out.c 5 rfl; have g6 := K5.out.c 6 rfl; have g7 := K5.out.c 7 rfl
  go_wp2_with fail
  have lk := likeFrames_any R1 R2 R3 R4 R5 R6 R7 R1 R2 R3 R4 R5 R6 R7 A4 A5 n4 n5 c4 c5 Z Z _ r4 r5 (by omega) (by omega)
  rw [sF_self] at lk
  refine (lk).mono ?_
  rintro e v5 ⟨rfl, hb⟩
  replace L := Lib.hid (L.out.next hb)
  replace r4 := r4.up hb
  replace r5 := r5.up hb
  replace r6 := r6.up hb
  replace r7 := r7.up hb
  replace K4 := Lib.hid (K4.out.next hb)
  replace K5 := Lib.hid (K5.out.next hb)
  clear hb
  clear lk f0 f1 f2 f3 f4 f5 f6 f7 g0 g1 g2 g3 g4 g5 g6 g7
  go_wp2_with fail
  have lk := likeIntsV A6 A7 n6 n7 c6 c7 S S _ r6 r7 (by omega) (by omega)
  rw [eqI_self] at lk
  refine (lk).mono ?_
  rintro e v6 ⟨rfl, hb⟩
  replace L := Lib.hid (L.out.next hb)
  replace r4 := r4.up hb
  replace r5 := r5.up hb
  replace r6 := r6.up hb
  replace r7 := r7.up hb
  replace K4 := Lib.hid (K4.out.next hb)
  replace K5 := Lib.hid (K5.out.next hb)
  clear hb
  clear lk
  rcases (show q = 0 ∨ (q != 0) = true by by_cases h : q = 0; {exact Or.inl h}; {exact Or.inr (by simp [h])}) with h0 | h0
  case inr =>
    go_wp2
    go_ret
    exact ⟨rfl, L.out.bel⟩
  obtain ⟨hp0, hrq, hsn, hgi, hbi, hco⟩ := HOK.out h0
  subst h0
  subst hp0
  subst hrq
  clear hqq hpp
  have HSN := Lib.hid hsn
  have HCH := Lib.hid (fun u A n c hu hz hn => HU.out u A n c hu hz hn rfl hbi hco)
  have HGI := Lib.hid hgi
  clear hsn hbi hco hgi
  go_wp2_with fail
  go_loopw [15] (fun v wr => ∃ i : Nat, i ≤ n4 ∧ v = .int .i64 i ∧ wr = v6) (fun v _ => n4 - (intOf v).toNat)
  case atStart => exact ⟨0, Nat.zero_le _, rfl, rfl⟩
  case round =>
    obtain ⟨i, hi, rfl, rfl⟩ := hrel
    have f7 := K4.out.c 7 rfl
    by_cases hin : i < n4
    · have hii : (i : Int) < (n4 : Int) := by omega
      obtain ⟨b0, o0, rfl, _, hc0⟩ := r4.get (by omega)
      have hcell := hc0 i hin
      rw [HGI.out i (by omega)] at hcell
      clear hc0
      have hff : (fl != fl) = false := by simp
      go_wp2_with fail
      go_roundw
      case rel => exact ⟨i + 1, by omega, by go_num, by trivial⟩
      case measure => simp [intOf]; omega
    have hie : n4 = i := by omega
    subst hie
    clear hin
    have kc0 := L.out.km.c 0 rfl; have kc1 := L.out.km.c 1 rfl; have kc2 := L.out.km.c 2 rfl; have kc3 := L.out.km.c 3 rfl
    have kx0 := L.out.kx.c 0 rfl; have kx1 := L.out.kx.c 1 rfl; have kx2 := L.out.kx.c 2 rfl; have kx3 := L.out.kx.c 3 rfl; have kx4 := L.out.kx.c 4 rfl
    go_wp2_with fail
    refine (HCH.out _ A6 n6 c6 L.out.v r6 (by omega)).mono ?_
    rintro e v7 ⟨rfl, hb⟩
    replace L := Lib.hid (L.out.next hb)
    replace r4 := r4.up hb
    replace r5 := r5.up hb
    replace r6 := r6.up hb
    replace r7 := r7.up hb
    replace K4 := Lib.hid (K4.out.next hb)
    replace K5 := Lib.hid (K5.out.next hb)
    clear hb
    clear kc0 kc1 kc2 kc3 kx0 kx1 kx2 kx3 kx4
    obtain ⟨u8, hu9⟩ : ∃ v, v = v7.alloc (.cells #[.int .i64 0, .int .i64 0, .int .i64 0, .int .i64 0, .int .i64 0, .int .i64 0, .int .i64 0, .int .i64 0, .slice none 0 0] 51) := ⟨_, rfl⟩
    have hb : Below v7.heap.size v7 u8 := by rw [hu9]; go_grown
    have K80 : BlkL u8 v7.heap.size 51 [.int .i64 0, .int .i64 0, .int .i64 0, .int .i64 0, .int .i64 0, .int .i64 0, .int .i64 0, .int .i64 0, .slice none 0 0] := by rw [hu9]; exact BlkL.new _ _ _ rfl
    replace L := Lib.hid (L.out.next hb)
    replace r4 := r4.up hb
    replace r5 := r5.up hb
    replace r6 := r6.up hb
    replace r7 := r7.up hb
    replace K4 := Lib.hid (K4.out.next hb)
    replace K5 := Lib.hid (K5.out.next hb)
    have K8 := Lib.hid K80
    clear K80 hb
    go_upto_region 18 with fail
    rw [← hu9]
    clear hu9
    have kc0 := L.out.km.c 0 rfl; have kc1 := L.out.km.c 1 rfl; have kc2 := L.out.km.c 2 rfl; have kc3 := L.out.km.c 3 rfl
    have kx0 := L.out.kx.c 0 rfl; have kx1 := L.out.kx.c 1 rfl; have kx2 := L.out.kx.c 2 rfl; have kx3 := L.out.kx.c 3 rfl; have kx4 := L.out.kx.c 4 rfl
    clear f7
    have f0 := K4.out.c 0 rfl; have f1 := K4.out.c 1 rfl; have f2 := K4.out.c 2 rfl; have f3 := K4.out.c 3 rfl; have f4 := K4.out.c 4 rfl; have f5 := K4.out.c 5 rfl; have f6 := K4.out.c 6 rfl; have f7 := K4.out.c 7 rfl
    have g0 := K8.out.c 0 rfl
    go_wp2_with fail
    have lk := iIsSend_any m M t md rn sl mb R1 R2 R3 R4 R5 R6 R7 A4 n4 c4 Z _ L.out.v HRX.out r4 (by omega)
    rw [HSN.out] at lk
    refine (lk).mono ?_
    rintro e v8 ⟨rfl, hb⟩
    replace L := Lib.hid (L.out.next hb)
    replace r4 := r4.up hb
    replace r5 := r5.up hb
    replace r6 := r6.up hb
    replace r7 := r7.up hb
    replace K4 := Lib.hid (K4.out.next hb)
    replace K5 := Lib.hid (K5.out.next hb)
    replace K8 := Lib.hid (K8.out.next hb)
    clear hb
    have f1 := K4.out.c 1 rfl
    go_wp2_with fail
    go_ret
    exact ⟨rfl, L.out.bel⟩


end FnFramesFor
end Go.Proofs.YtbaojbheopcjhaaGreatDoor
