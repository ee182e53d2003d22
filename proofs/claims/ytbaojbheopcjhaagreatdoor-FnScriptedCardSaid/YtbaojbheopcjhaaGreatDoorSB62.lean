/- Walks, laws and small notions for the claims of this seat, several texts as one (FnSW). Conditions: as each theorem states them. -/
import Derived.Test.YtbaojbheopcjhaaGreatDoorSB52
import Derived.Test.YtbaojbheopcjhaaGreatDoorSB59
import Derived.Test.YtbaojbheopcjhaaGreatDoorSB28
import Derived.BigQuiet
import Derived.IntWalk
namespace Go.Proofs.YtbaojbheopcjhaaGreatDoor
open Go.ChangeShapes Go.WideShapes Go.ChangeAt Go.RowKit
namespace FnScripted

/-- a drawn schedule, state, frame in their boxes, and a drawn script -/
structure LZ (w : World) (b1 b2 b3 : Nat) (m : Mdv) (M : Mdl) (X Y : List Value) (A : Option Addr) (n : Nat) (zs : List Int) (B : Option Addr) (nf : Nat) (es : List Flt) (u : World) : Prop where
  bel : Below w.heap.size w u
  km : BlkL u b1 28 (lM m)
  kx : BlkL u b2 30 X
  kf : BlkL u b3 33 Y
  v : RD u u.heap.size m M
  z : RI u u.heap.size A n zs
  e : RE encF 4 u u.heap.size B nf es
theorem LZ.next {w : World} {b1 b2 b3 : Nat} {m : Mdv} {M : Mdl} {X Y : List Value} {A : Option Addr} {n : Nat} {zs : List Int} {B : Option Addr} {nf : Nat} {es : List Flt} {u u' : World} (h : LZ w b1 b2 b3 m M X Y A n zs B nf es u) (hb : Below u.heap.size u u') : LZ w b1 b2 b3 m M X Y A n zs B nf es u' :=
  ⟨below_next hb h.bel (Nat.le_refl _), h.km.next hb, h.kx.next hb, h.kf.next hb, h.v.up hb, h.z.up hb, h.e.up hb⟩
theorem snd_ok {M : Mdl} {t md rn sl mb k r ft fm fd fs fb : Int} {zs : List Int} {es : List Flt} (h : codeSS M t md rn sl mb k r ft fm fd fs fb zs es = 0) :
    codeS M t md rn sl mb k r ft fm fd fs fb zs = 0 ∧ ApplyScript.res (smpL M t md rn sl mb k r ft fm fd fs fb zs) es = sndL M t md rn sl mb k r ft fm fd fs fb zs es ∧ bsCode (smpL M t md rn sl mb k r ft fm fd fs fb zs) es = 0 ∧ (∀ n : Nat, (smpL M t md rn sl mb k r ft fm fd fs fb zs).length = n → LengthAfter.val n es = ((sndL M t md rn sl mb k r ft fm fd fs fb zs es).length : Int) ∧ LengthAfter.cod n es = 0) := by
  have hs : codeS M t md rn sl mb k r ft fm fd fs fb zs = 0 ∧ isScript es = true := by
    unfold codeSS at h
    by_cases h1 : codeS M t md rn sl mb k r ft fm fd fs fb zs = 0
    · rw [if_pos h1] at h
      by_cases h2 : isScript es = true
      · exact ⟨h1, h2⟩
      · rw [if_neg h2] at h; omega
    · rw [if_neg h1] at h; exact absurd h h1
  obtain ⟨h1, h2⟩ := hs
  have hb := smp_bits h1
  have hbs := ApplyScript.bs_of hb h2
  have e1 : sndL M t md rn sl mb k r ft fm fd fs fb zs es = appS (smpL M t md rn sl mb k r ft fm fd fs fb zs) es := by unfold sndL; rw [if_pos h]
  have hl := isBits_len hb
  refine ⟨h1, by unfold ApplyScript.res; rw [if_pos hbs, e1], hbs, fun n hn => ?_⟩
  have hr : inR (n : Int) 0 8192 = true := inR_iff.2 (by omega)
  refine ⟨?_, by unfold LengthAfter.cod; rw [if_pos hr, if_pos h2]⟩
  unfold LengthAfter.val
  rw [if_pos ⟨hr, h2⟩, e1, appS_len, hn]
  rfl
set_option maxRecDepth 100000 in
set_option maxHeartbeats 2000000 in
theorem walk (w : World) (A : Option Addr) (n c : Nat) (bs : List Int) (h : RB w w.heap.size A n bs) (hn : n ≤ maxLen) (_ : True) :
    Calls Tryz.prog 3 #[.slice A n c] w fun e w' => e = .returned (.bool true) ∧ Below w.heap.size w w' := by
  rcases bool_cases (decide (4096 < n)) with hbig | hbig
  · go_enter Tryz.func3, Tryz.ntmps3
    go_wp2_with (go_at_call 5; refine (big_any _ _ _ _ hn).mono ?_; rw [hbig]; rintro e w' ⟨rfl, rfl⟩)
    go_ret
    exact ⟨rfl, Below.refl _ _⟩
  have hn4 : n ≤ 4096 := by simpa using hbig
  have B := Lib.hid (Below.refl w.heap.size w)
  go_enter Tryz.func3, Tryz.ntmps3
  go_wp2_with (go_at_call 5; refine (big_any _ _ _ _ hn).mono ?_; rw [hbig]; rintro e w' ⟨rfl, rfl⟩)
  clear hbig hn
  refine (drawSS_any A n c bs _ h (by omega)).mono ?_
  rintro e w1 ⟨m, M, t, md, rn, sl, mb, k, r, ft, fm, fd, fs, fb, A2, n2, c2, zs, A3, n3, c3, es, rfl, dv, ho, hn2, he, hn3, hb⟩
  obtain ⟨u1, hu1⟩ : ∃ v, v = ((w1.alloc (.cells #[.int .i64 m.id, .slice m.An m.nn m.cn, .slice m.Am m.nm m.cm, .slice m.As m.ns m.cs] 28)).alloc (.cells #[.int .i64 t, .int .i64 md, .int .i64 rn, .int .i64 sl, .int .i64 mb] 30)).alloc (.cells #[.int .i64 k, .int .i64 r, .int .i64 ft, .int .i64 fm, .int .i64 fd, .int .i64 fs, .int .i64 fb, .slice A2 n2 c2] 33) := ⟨_, rfl⟩
  have HRX := Lib.hid dv.rx
  have HNO := Lib.hid (own_none ho)
  have ba : Below w1.heap.size w1 u1 := by rw [hu1]; go_grown
  have L := Lib.hid (show LZ w w1.heap.size (w1.heap.size + 1) (w1.heap.size + 1 + 1) m M [.int .i64 t, .int .i64 md, .int .i64 rn, .int .i64 sl, .int .i64 mb] [.int .i64 k, .int .i64 r, .int .i64 ft, .int .i64 fm, .int .i64 fd, .int .i64 fs, .int .i64 fb, .slice A2 n2 c2] A2 n2 zs A3 n3 es u1 from ⟨below_next ba hb (Nat.le_refl _), by rw [hu1]; exact ((BlkL.new w1 _ _ rfl).alloc _).alloc _, by rw [hu1]; exact (BlkL.new _ _ _ (by simp)).alloc _, by rw [hu1]; exact BlkL.new _ _ _ (by simp), dv.reads.up ba, ho.reads.up ba, (he.reads encF_len).up ba⟩)
  clear dv ho he hb ba B
  go_upto_region 4 with fail
  rw [← hu1]
  clear hu1
  obtain ⟨X, hX⟩ : ∃ x, sndL M t md rn sl mb k r ft fm fd fs fb zs es = x := ⟨_, rfl⟩
  obtain ⟨q, hq⟩ : ∃ x, codeSS M t md rn sl mb k r ft fm fd fs fb zs es = x := ⟨_, rfl⟩
  obtain ⟨S, hS⟩ : ∃ x, smpL M t md rn sl mb k r ft fm fd fs fb zs = x := ⟨_, rfl⟩
  obtain ⟨p, hp⟩ : ∃ x, codeS M t md rn sl mb k r ft fm fd fs fb zs = x := ⟨_, rfl⟩
  have hXl : X.length ≤ 1000000 := by rw [← hX]; exact sndL_len _ _ _ _ _ _ _ _ _ _ _ _ _ _ _
  have hSl : S.length ≤ 8000 := by rw [← hS]; exact smpL_len _ _ _ _ _ _ _ _ _ _ _ _ _ _
  have hok := fun h => snd_ok (M := M) (t := t) (md := md) (rn := rn) (sl := sl) (mb := mb) (k := k) (r := r) (ft := ft) (fm := fm) (fd := fd) (fs := fs) (fb := fb) (zs := zs) (es := es) h
  rw [hX, hq, hS, hp] at hok
  have HOK := Lib.hid hok
  have HX := Lib.hid hX
  have HQ := Lib.hid hq
  have HS := Lib.hid hS
  have HP := Lib.hid hp
  clear hok hX hq hS hp
  have kc0 := L.out.km.c 0 rfl; have kc1 := L.out.km.c 1 rfl; have kc2 := L.out.km.c 2 rfl; have kc3 := L.out.km.c 3 rfl
  have kx0 := L.out.kx.c 0 rfl; have kx1 := L.out.kx.c 1 rfl; have kx2 := L.out.kx.c 2 rfl; have kx3 := L.out.kx.c 3 rfl; have kx4 := L.out.kx.c 4 rfl
  have ky0 := L.out.kf.c 0 rfl; have ky1 := L.out.kf.c 1 rfl; have ky2 := L.out.kf.c 2 rfl; have ky3 := L.out.kf.c 3 rfl; have ky4 := L.out.kf.c 4 rfl; have ky5 := L.out.kf.c 5 rfl; have ky6 := L.out.kf.c 6 rfl; have ky7 := L.out.kf.c 7 rfl
  go_wp2_with fail
  refine (iSendScr_any m M t md rn sl mb k r ft fm fd fs fb A2 n2 c2 zs A3 n3 c3 es _ L.out.v HRX.out L.out.z HNO.out (by omega) L.out.e (by omega)).mono ?_
  rw [HX.out, HQ.out]
  rintro e v1 ⟨A4, n4, c4, rfl, o4, hb⟩
  replace L := Lib.hid (L.out.next hb)
  have r4 := o4.reads
  have l4 := o4.len
  have no4 := Lib.hid (own_none o4)
  clear o4
  clear hb
  clear kc0 kc1 kc2 kc3 kx0 kx1 kx2 kx3 kx4 ky0 ky1 ky2 ky3 ky4 ky5 ky6 ky7
  have kc0 := L.out.km.c 0 rfl; have kc1 := L.out.km.c 1 rfl; have kc2 := L.out.km.c 2 rfl; have kc3 := L.out.km.c 3 rfl
  have kx0 := L.out.kx.c 0 rfl; have kx1 := L.out.kx.c 1 rfl; have kx2 := L.out.kx.c 2 rfl; have kx3 := L.out.kx.c 3 rfl; have kx4 := L.out.kx.c 4 rfl
  have ky0 := L.out.kf.c 0 rfl; have ky1 := L.out.kf.c 1 rfl; have ky2 := L.out.kf.c 2 rfl; have ky3 := L.out.kf.c 3 rfl; have ky4 := L.out.kf.c 4 rfl; have ky5 := L.out.kf.c 5 rfl; have ky6 := L.out.kf.c 6 rfl; have ky7 := L.out.kf.c 7 rfl
  go_wp2_with fail
  refine (sSendScr_any m M t md rn sl mb k r ft fm fd fs fb A2 n2 c2 zs A3 n3 c3 es _ L.out.v HRX.out L.out.z HNO.out (by omega) L.out.e (by omega)).mono ?_
  rw [HX.out, HQ.out]
  rintro e v2 ⟨A5, n5, c5, rfl, o5, hb⟩
  replace L := Lib.hid (L.out.next hb)
  replace r4 := r4.up hb
  have r5 := o5.reads
  have l5 := o5.len
  have no5 := Lib.hid (own_none o5)
  clear o5
  clear hb
  clear kc0 kc1 kc2 kc3 kx0 kx1 kx2 kx3 kx4 ky0 ky1 ky2 ky3 ky4 ky5 ky6 ky7
  have hqq : (q != q) = false := by simp
  go_wp2_with fail
  have lk := likeIntsV A4 A5 n4 n5 c4 c5 X X _ r4 r5 (by omega) (by omega)
  rw [eqI_self] at lk
  refine (lk).mono ?_
  rintro e v3 ⟨rfl, hb⟩
  replace L := Lib.hid (L.out.next hb)
  replace r4 := r4.up hb
  replace r5 := r5.up hb
  clear hb
  clear lk
  rcases (show q = 0 ∨ (q != 0) = true by by_cases h : q = 0; {exact Or.inl h}; {exact Or.inr (by simp [h])}) with h0 | h0
  case inr =>
    go_wp2
    go_ret
    exact ⟨rfl, L.out.bel⟩
  obtain ⟨hp0, hres, hbs, hval⟩ := HOK.out h0
  subst h0
  clear hqq
  have kc0 := L.out.km.c 0 rfl; have kc1 := L.out.km.c 1 rfl; have kc2 := L.out.km.c 2 rfl; have kc3 := L.out.km.c 3 rfl
  have kx0 := L.out.kx.c 0 rfl; have kx1 := L.out.kx.c 1 rfl; have kx2 := L.out.kx.c 2 rfl; have kx3 := L.out.kx.c 3 rfl; have kx4 := L.out.kx.c 4 rfl
  have ky0 := L.out.kf.c 0 rfl; have ky1 := L.out.kf.c 1 rfl; have ky2 := L.out.kf.c 2 rfl; have ky3 := L.out.kf.c 3 rfl; have ky4 := L.out.kf.c 4 rfl; have ky5 := L.out.kf.c 5 rfl; have ky6 := L.out.kf.c 6 rfl; have ky7 := L.out.kf.c 7 rfl
  go_wp2_with fail
  refine (iSamples_ok m M t md rn sl mb k r ft fm fd fs fb A2 n2 c2 zs _ L.out.v HRX.out L.out.z HNO.out (by omega)).mono ?_
  rw [HS.out, HP.out, hp0]
  rintro e v4 ⟨A6, n6, c6, rfl, o6, hb⟩
  replace L := Lib.hid (L.out.next hb)
  replace r4 := r4.up hb
  replace r5 := r5.up hb
  have r6 := o6.reads
  have l6 := o6.len
  have no6 := Lib.hid (own_none o6)
  clear o6
  clear hb
  clear kc0 kc1 kc2 kc3 kx0 kx1 kx2 kx3 kx4 ky0 ky1 ky2 ky3 ky4 ky5 ky6 ky7
  obtain ⟨hv1, hv2⟩ := hval n6 l6
  rw [l4] at hv1
  go_wp2_with fail
  refine (ApplyScript.impl_any A6 n6 c6 S A3 n3 c3 es _ r6 (by omega) no6.out L.out.e (by omega)).mono ?_
  rw [hres, hbs]
  rintro e v5 ⟨A7, n7, c7, rfl, o7, hb⟩
  replace L := Lib.hid (L.out.next hb)
  replace r4 := r4.up hb
  replace r5 := r5.up hb
  replace r6 := r6.up hb
  have r7 := o7.reads
  have l7 := o7.len
  have no7 := Lib.hid (own_none o7)
  clear o7
  clear hb
  go_wp2_with fail
  refine (LengthAfter.impl_any n6 A3 n3 c3 es _ L.out.e (by omega)).mono ?_
  rw [hv1, hv2]
  rintro e v6 ⟨rfl, hb⟩
  replace L := Lib.hid (L.out.next hb)
  replace r4 := r4.up hb
  replace r5 := r5.up hb
  replace r6 := r6.up hb
  replace r7 := r7.up hb
  clear hb
  go_wp2_with fail
  have lk := likeIntsV A7 A4 n7 n4 c7 c4 X X _ r7 r4 (by omega) (by omega)
  rw [eqI_self] at lk
  refine (lk).mono ?_
  rintro e v7 ⟨rfl, hb⟩
  replace L := Lib.hid (L.out.next hb)
  replace r4 := r4.up hb
  replace r5 := r5.up hb
  replace r6 := r6.up hb
  replace r7 := r7.up hb
  clear hb
  go_wp2_with fail
  go_ret
  exact ⟨rfl, L.out.bel⟩


end FnScripted
end Go.Proofs.YtbaojbheopcjhaaGreatDoor
