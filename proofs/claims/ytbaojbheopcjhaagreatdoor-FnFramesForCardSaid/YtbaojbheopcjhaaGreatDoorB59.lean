/- Walks, laws and small notions for the claims of this seat, several texts as one (DrH). Conditions: as each theorem states them. -/
import Derived.Test.YtbaojbheopcjhaaGreatDoorB57
import Derived.Test.YtbaojbheopcjhaaGreatDoorB58
import Derived.Test.YtbaojbheopcjhaaGreatDoorB51
import Derived.Test.YtbaojbheopcjhaaGreatDoorB48
import Derived.Deep.DeepCutAuto
namespace Go.Proofs.YtbaojbheopcjhaaGreatDoor
open Go.RowKit
/-- a drawn schedule, state, frame and script, at the law's level -/
def TopSS (w : World) (e : Ending) (w' : World) : Prop :=
  ∃ (m : Mdv) (M : Mdl) (t md rn sl mb k r ft fm fd fs fb : Int) (A2 : Option Addr) (n2 c2 : Nat) (zs : List Int) (A3 : Option Addr) (n3 c3 : Nat) (es : List Flt), e = .returned (.tuple #[.agg #[.int .i64 m.id, .slice m.An m.nn m.cn, .slice m.Am m.nm m.cm, .slice m.As m.ns m.cs], .agg #[.int .i64 t, .int .i64 md, .int .i64 rn, .int .i64 sl, .int .i64 mb], .agg #[.int .i64 k, .int .i64 r, .int .i64 ft, .int .i64 fm, .int .i64 fd, .int .i64 fs, .int .i64 fb, .slice A2 n2 c2], .slice A3 n3 c3]) ∧ DV w' w.heap.size m M ∧ OwnI 2 w' w.heap.size A2 n2 c2 zs ∧ n2 ≤ 8200 ∧ OwnE encF 4 87 w' w.heap.size A3 n3 c3 es ∧ n3 ≤ 40 ∧ Below w.heap.size w w'
/-- a drawn schedule, state and two numbers, at the law's level -/
def TopFF (w : World) (e : Ending) (w' : World) : Prop :=
  ∃ (m : Mdv) (M : Mdl) (t md rn sl mb fl rq : Int), e = .returned (.tuple #[.agg #[.int .i64 m.id, .slice m.An m.nn m.cn, .slice m.Am m.nm m.cm, .slice m.As m.ns m.cs], .agg #[.int .i64 t, .int .i64 md, .int .i64 rn, .int .i64 sl, .int .i64 mb], .int .i64 fl, .int .i64 rq]) ∧ DV w' w.heap.size m M ∧ Below w.heap.size w w'
/-- of the operations of the return of DrawSendScripted -/
def S3 (w : World) (g B : Nat) (cm cx cy : Value) (Lm Lx Ly : List Value) : List (Value → World → Prop) :=
  [fun y _ => y = cm, fun y _ => y = cx, fun y _ => y = cy, fun y _ => y = .pointer (some ⟨g, 0, none⟩),
   fun y u => ∃ A n c fs, y = .slice A n c ∧ OwnE encF 4 87 u B A n c fs ∧ n ≤ 40,
   fun _ u => BlkL u w.heap.size 28 Lm, fun _ u => BlkL u (w.heap.size + 1) 30 Lx, fun _ u => BlkL u (w.heap.size + 2) 33 Ly,
   fun y u => ∃ A n c fs, y = .slice A n c ∧ OwnE encF 4 87 u B A n c fs ∧ n ≤ 40]
theorem OwnE.setL {α : Type} {enc : α → List Value} {sz : Nat} {T : TypeId} {u : World} {base n c b : Nat} {A : Option Addr} {fs : List α} (h : OwnE enc sz T u base A n c fs) (hb : b < base) (j : Nat) (l : List Value) : OwnE enc sz T (Go.Proofs.YtbaojbheopcjhaaGreatDoor.setL u b j l) base A n c fs := by
  induction l generalizing u j with
  | nil => exact h
  | cons v l ih => exact ih (h.other (p := ⟨b, j, none⟩) hb v) (j + 1)
theorem S3.up {w : World} {g B : Nat} {cm cx cy : Value} {Lm Lx Ly : List Value} {u u' : World} (d : Dr u g u') (h1 : g < B) (h0 : w.heap.size + 3 ≤ g) : ∀ j y, gL (S3 w g B cm cx cy Lm Lx Ly) j y u → gL (S3 w g B cm cx cy Lm Lx Ly) j y u' :=
  gL_up (up_cons (fun _ h => h) (up_cons (fun _ h => h) (up_cons (fun _ h => h) (up_cons (fun _ h => h) (up_cons (fun _ ⟨A, n, c, fs, e, h, hn⟩ => ⟨A, n, c, fs, e, h.dr d h1, hn⟩) (up_cons (fun _ h => BlkL.dr h d (by omega)) (up_cons (fun _ h => BlkL.dr h d (by omega)) (up_cons (fun _ h => BlkL.dr h d (by omega)) (up_cons (fun _ ⟨A, n, c, fs, e, h, hn⟩ => ⟨A, n, c, fs, e, h.dr d h1, hn⟩) up_nil)))))))))
theorem S3.storeR {w : World} {g B : Nat} {cm cx cy : Value} {Lm Lx Ly : List Value} {u : World} (hB : w.heap.size + 3 ≤ B) (hk : BlkL (setL u w.heap.size 0 Lm) w.heap.size 28 Lm) : ∀ j y, gL (S3 w g B cm cx cy Lm Lx Ly) j y u → gL (S3 w g B cm cx cy Lm Lx Ly) j y (setL u w.heap.size 0 Lm) :=
  gL_up (up_cons (fun _ h => h) (up_cons (fun _ h => h) (up_cons (fun _ h => h) (up_cons (fun _ h => h) (up_cons (fun _ ⟨A, n, c, fs, e, h, hn⟩ => ⟨A, n, c, fs, e, h.setL (by omega) 0 _, hn⟩) (up_cons (fun _ _ => hk) (up_cons (fun _ h => BlkL.setLo h (by omega) 0 _) (up_cons (fun _ h => BlkL.setLo h (by omega) 0 _) (up_cons (fun _ ⟨A, n, c, fs, e, h, hn⟩ => ⟨A, n, c, fs, e, h.setL (by omega) 0 _, hn⟩) up_nil)))))))))
theorem S3.storeS {w : World} {g B : Nat} {cm cx cy : Value} {Lm Lx Ly : List Value} {u : World} (hB : w.heap.size + 3 ≤ B) (hk : BlkL (setL u (w.heap.size + 1) 0 Lx) (w.heap.size + 1) 30 Lx) : ∀ j y, gL (S3 w g B cm cx cy Lm Lx Ly) j y u → gL (S3 w g B cm cx cy Lm Lx Ly) j y (setL u (w.heap.size + 1) 0 Lx) :=
  gL_up (up_cons (fun _ h => h) (up_cons (fun _ h => h) (up_cons (fun _ h => h) (up_cons (fun _ h => h) (up_cons (fun _ ⟨A, n, c, fs, e, h, hn⟩ => ⟨A, n, c, fs, e, h.setL (by omega) 0 _, hn⟩) (up_cons (fun _ h => BlkL.setLo h (by omega) 0 _) (up_cons (fun _ _ => hk) (up_cons (fun _ h => BlkL.setLo h (by omega) 0 _) (up_cons (fun _ ⟨A, n, c, fs, e, h, hn⟩ => ⟨A, n, c, fs, e, h.setL (by omega) 0 _, hn⟩) up_nil)))))))))
theorem S3.storeT {w : World} {g B : Nat} {cm cx cy : Value} {Lm Lx Ly : List Value} {u : World} (hB : w.heap.size + 3 ≤ B) (hk : BlkL (setL u (w.heap.size + 2) 0 Ly) (w.heap.size + 2) 33 Ly) : ∀ j y, gL (S3 w g B cm cx cy Lm Lx Ly) j y u → gL (S3 w g B cm cx cy Lm Lx Ly) j y (setL u (w.heap.size + 2) 0 Ly) :=
  gL_up (up_cons (fun _ h => h) (up_cons (fun _ h => h) (up_cons (fun _ h => h) (up_cons (fun _ h => h) (up_cons (fun _ ⟨A, n, c, fs, e, h, hn⟩ => ⟨A, n, c, fs, e, h.setL (by omega) 0 _, hn⟩) (up_cons (fun _ h => BlkL.setLo h (by omega) 0 _) (up_cons (fun _ h => BlkL.setLo h (by omega) 0 _) (up_cons (fun _ _ => hk) (up_cons (fun _ ⟨A, n, c, fs, e, h, hn⟩ => ⟨A, n, c, fs, e, h.setL (by omega) 0 _, hn⟩) up_nil)))))))))
set_option maxRecDepth 20000 in
set_option maxHeartbeats 16000000 in
theorem drawSS_any (A : Option Addr) (n c : Nat) (bs : List Int) (w : World) (h : RB w w.heap.size A n bs) (hn : n ≤ 1099511627776) :
    Calls Tryz.prog 6 #[.slice A n c] w (TopSS w) := by
  obtain ⟨w0, hw0⟩ : ∃ v, v = ((w.alloc (.cells #[.int .i64 0, .slice none 0 0, .slice none 0 0, .slice none 0 0] 28)).alloc (.cells #[.int .i64 0, .int .i64 0, .int .i64 0, .int .i64 0, .int .i64 0] 30)).alloc (.cells #[.int .i64 0, .int .i64 0, .int .i64 0, .int .i64 0, .int .i64 0, .int .i64 0, .int .i64 0, .slice none 0 0] 33) := ⟨_, rfl⟩
  have r0 : BlkL w0 w.heap.size 28 zM := by rw [hw0]; exact ((BlkL.new w _ _ rfl).alloc _).alloc _
  have s0 : BlkL w0 (w.heap.size + 1) 30 zS := by rw [hw0]; exact (BlkL.new _ _ _ (by simp)).alloc _
  have t0 : BlkL w0 (w.heap.size + 2) 33 zF := by rw [hw0]; exact BlkL.new _ _ _ (by simp)
  have b0 : Below w.heap.size w w0 := by rw [hw0]; go_grown
  have z0 : w0.heap.size = w.heap.size + 3 := by rw [hw0]; simp
  go_enter Tryz.func6, Tryz.ntmps6
  go_wp2_with fail
  rw [← hw0]
  clear hw0
  refine (from_any A n c bs _ ((h.below b0 (Nat.le_refl _)).more b0.size) (by omega)).mono ?_
  rintro e w1 ⟨g, rfl, hs1, hg, hb1⟩
  have hg1 := hs1.lt
  go_wp2_with fail
  refine (drawSend_any g _ hs1).mono ?_
  rintro e w2 ⟨m, M, t, md, rn, sl, mb, k, r, ft, fm, fd, fs, fb, A2, n2, c2, zs, rfl, dv, ho, hn2, d2⟩
  have z2 := d2.size
  obtain ⟨u1, hu1⟩ : ∃ v, v = ((w2.alloc (.cells #[.int .i64 m.id, .slice m.An m.nn m.cn, .slice m.Am m.nm m.cm, .slice m.As m.ns m.cs] 28)).alloc (.cells #[.int .i64 t, .int .i64 md, .int .i64 rn, .int .i64 sl, .int .i64 mb] 30)).alloc (.cells #[.int .i64 k, .int .i64 r, .int .i64 ft, .int .i64 fm, .int .i64 fd, .int .i64 fs, .int .i64 fb, .slice A2 n2 c2] 33) := ⟨_, rfl⟩
  have dd : Dr w1 g u1 := by rw [hu1]; exact ((d2.alloc _).alloc _).alloc _
  have hy : LY w g w1.heap.size m M [.int .i64 t, .int .i64 md, .int .i64 rn, .int .i64 sl, .int .i64 mb] w2.heap.size (w2.heap.size + 1) u1 := by
    refine ⟨(below_next hb1 b0 (by omega)).grown dd.gr (by omega) (fun j e => by cases e; omega), dd.src, ?_, ?_, ?_, by omega, hg1, z2, by omega⟩
    · rw [hu1]; exact (((dv.weaken (Nat.le_refl _)).alloc _).alloc _).alloc _
    · rw [hu1]; exact ((BlkL.new w2 _ _ rfl).alloc _).alloc _
    · rw [hu1]; exact (BlkL.new _ _ _ (by simp)).alloc _
  have r1 : BlkL u1 w.heap.size 28 zM := (r0.next hb1).dr dd (by omega)
  have s1 : BlkL u1 (w.heap.size + 1) 30 zS := (s0.next hb1).dr dd (by omega)
  have t1 : BlkL u1 (w.heap.size + 2) 33 zF := (t0.next hb1).dr dd (by omega)
  have f1 : BlkL u1 (w2.heap.size + 2) 33 [.int .i64 k, .int .i64 r, .int .i64 ft, .int .i64 fm, .int .i64 fd, .int .i64 fs, .int .i64 fb, .slice A2 n2 c2] := by rw [hu1]; exact BlkL.new _ _ _ (by simp)
  have o1 : OwnI 2 u1 w1.heap.size A2 n2 c2 zs := by rw [hu1]; exact ((ho.alloc _).alloc _).alloc _
  clear dv ho d2 dd r0 s0 b0 hs1 hb1 t0
  go_upto_region 3 with fail
  rw [← hu1]
  clear hu1
  have hg3 : w.heap.size + 3 ≤ g := by omega
  have hB3 : w.heap.size + 3 ≤ w1.heap.size := by omega
  have hC0 : (fun u => LY w g w1.heap.size m M [.int .i64 t, .int .i64 md, .int .i64 rn, .int .i64 sl, .int .i64 mb] w2.heap.size (w2.heap.size + 1) u ∧ bM u w.heap.size ∧ bS u (w.heap.size + 1) ∧ bF u (w.heap.size + 2) ∧ BlkL u (w2.heap.size + 2) 33 [.int .i64 k, .int .i64 r, .int .i64 ft, .int .i64 fm, .int .i64 fd, .int .i64 fs, .int .i64 fb, .slice A2 n2 c2] ∧ OwnI 2 u w1.heap.size A2 n2 c2 zs) u1.drew := ⟨hy.dr (Dr.refl hy.src).drew, ⟨_, _, _, _, _, _, _, _, _, _, r1⟩, ⟨_, _, _, _, _, s1⟩, ⟨_, _, _, _, _, _, _, _, _, _, t1⟩, f1, o1⟩
  clear hy r1 s1 t1 f1 o1
  refine wp_region_loose (fun u => LY w g w1.heap.size m M [.int .i64 t, .int .i64 md, .int .i64 rn, .int .i64 sl, .int .i64 mb] w2.heap.size (w2.heap.size + 1) u ∧ bM u w.heap.size ∧ bS u (w.heap.size + 1) ∧ bF u (w.heap.size + 2) ∧ BlkL u (w2.heap.size + 2) 33 [.int .i64 k, .int .i64 r, .int .i64 ft, .int .i64 fm, .int .i64 fd, .int .i64 fs, .int .i64 fb, .slice A2 n2 c2] ∧ OwnI 2 u w1.heap.size A2 n2 c2 zs) (gL (S3 w g w1.heap.size (.agg #[.int .i64 m.id, .slice m.An m.nn m.cn, .slice m.Am m.nm m.cm, .slice m.As m.ns m.cs]) (.agg #[.int .i64 t, .int .i64 md, .int .i64 rn, .int .i64 sl, .int .i64 mb]) (.agg #[.int .i64 k, .int .i64 r, .int .i64 ft, .int .i64 fm, .int .i64 fd, .int .i64 fs, .int .i64 fb, .slice A2 n2 c2]) [.int .i64 m.id, .slice m.An m.nn m.cn, .slice m.Am m.nm m.cm, .slice m.As m.ns m.cs] [.int .i64 t, .int .i64 md, .int .i64 rn, .int .i64 sl, .int .i64 mb] [.int .i64 k, .int .i64 r, .int .i64 ft, .int .i64 fm, .int .i64 fd, .int .i64 fs, .int .i64 fb, .slice A2 n2 c2])) (by kernel_rfl) (by kernel_rfl) (by kernel_rfl) hC0 (stepsF_cons (k' := 1) rfl ?_ (stepsF_cons (k' := 2) rfl ?_ (stepsF_cons (k' := 3) rfl ?_ (stepsF_cons (k' := 4) rfl ?_ (stepsF_cons (k' := 5) rfl ?_ (stepsF_cons (k' := 6) rfl ?_ (stepsF_cons (k' := 7) rfl ?_ (stepsF_cons (k' := 8) rfl ?_ (stepsF_cons (k' := 9) rfl ?_ (stepsF_nil)))))))))) ?_
  · intro x u hC hd K hK
    have hC2 := hC
    obtain ⟨hy, hm, hs, hf, hk3, ho⟩ := hC2
    have c0 := hy.k.c 0 rfl
    have c1 := hy.k.c 1 rfl
    have c2 := hy.k.c 2 rfl
    have c3 := hy.k.c 3 rfl
    refine ⟨?_⟩
    simp only [frX, Act.put, List.setIfInBounds_toArray, List.set_cons_zero, List.set_cons_succ] at hK ⊢
    have HK := Lib.hid hK
    clear hK hd
    go_simp
    refine HK.out _ _ ?_ ?_ ?_
    · exact hC
    · exact rfl
    · exact fun _ _ h => h
  · intro x u hC hd K hK
    have hC2 := hC
    obtain ⟨hy, hm, hs, hf, hk3, ho⟩ := hC2
    have x0 := hy.x.c 0 rfl
    have x1 := hy.x.c 1 rfl
    have x2 := hy.x.c 2 rfl
    have x3 := hy.x.c 3 rfl
    have x4 := hy.x.c 4 rfl
    refine ⟨?_⟩
    simp only [frX, Act.put, List.setIfInBounds_toArray, List.set_cons_zero, List.set_cons_succ] at hK ⊢
    have HK := Lib.hid hK
    clear hK hd
    go_simp
    refine HK.out _ _ ?_ ?_ ?_
    · exact hC
    · exact rfl
    · exact fun _ _ h => h
  · intro x u hC hd K hK
    have hC2 := hC
    obtain ⟨hy, hm, hs, hf, hk3, ho⟩ := hC2
    have y0 := hk3.c 0 rfl
    have y1 := hk3.c 1 rfl
    have y2 := hk3.c 2 rfl
    have y3 := hk3.c 3 rfl
    have y4 := hk3.c 4 rfl
    have y5 := hk3.c 5 rfl
    have y6 := hk3.c 6 rfl
    have y7 := hk3.c 7 rfl
    refine ⟨?_⟩
    simp only [frX, Act.put, List.setIfInBounds_toArray, List.set_cons_zero, List.set_cons_succ] at hK ⊢
    have HK := Lib.hid hK
    clear hK hd
    go_simp
    refine HK.out _ _ ?_ ?_ ?_
    · exact hC
    · exact rfl
    · exact fun _ _ h => h
  · intro x u hC hd K hK
    refine ⟨?_⟩
    simp only [frX, Act.put, List.setIfInBounds_toArray, List.set_cons_zero, List.set_cons_succ] at hK ⊢
    have HK := Lib.hid hK
    clear hK hd
    go_simp
    refine HK.out _ _ ?_ ?_ ?_
    · exact hC
    · exact rfl
    · exact fun _ _ h => h
  · intro x u hC hd K hK
    have e3 : x 3 = .pointer (some ⟨g, 0, none⟩) := hd 3 (by kernel_rfl)
    have hC2 := hC
    obtain ⟨hy, hm, hs, hf, hk3, ho⟩ := hC2
    refine ⟨?_⟩
    simp only [frX, Act.put, List.setIfInBounds_toArray, List.set_cons_zero, List.set_cons_succ] at hK ⊢
    simp only [e3] at hK ⊢
    have HK := Lib.hid hK
    clear hK hd
    go_wp2_with (go_at_call 23; refine (drawScript_any g 2000 _ hy.src (by omega)).mono ?_; rintro e cc ⟨A4, n4, c4, es, rfl, h4, hn4, dx⟩)
    have hsz := hy.bel.size
    have hB4 : w1.heap.size ≤ u.heap.size := by have := hy.h2; have := hy.k.lt; omega
    refine HK.out _ _ ?_ ?_ ?_
    · exact ⟨hy.dr dx, hm.dr dx (by omega), hs.dr dx (by omega), hf.dr dx (by omega), hk3.dr dx (by have := hy.h1; have := hy.h2; omega), ho.dr dx hy.h1⟩
    · exact ⟨A4, n4, c4, es, rfl, h4.weaken hB4, hn4⟩
    · exact S3.up dx hy.h1 hg3
  · intro x u hC hd K hK
    have e0 : x 0 = (.agg #[.int .i64 m.id, .slice m.An m.nn m.cn, .slice m.Am m.nm m.cm, .slice m.As m.ns m.cs]) := hd 0 (by kernel_rfl)
    have hC2 := hC
    obtain ⟨hy, hm, hs, hf, hk3, ho⟩ := hC2
    have hm2 := hm
    obtain ⟨i, A1, n1, c1, A5, n5, c5, A6, n6, c6, bk⟩ := hm2
    have b0 := bk.c 0 rfl
    have b1 := bk.c 1 rfl
    have b2 := bk.c 2 rfl
    have b3 := bk.c 3 rfl
    have bf := bk.free
    refine ⟨?_⟩
    simp only [frX, Act.put, List.setIfInBounds_toArray, List.set_cons_zero, List.set_cons_succ] at hK ⊢
    simp only [e0] at hK ⊢
    have HK := Lib.hid hK
    clear hK hd
    go_simp
    rw [← setL4]
    refine HK.out undef _ ?_ ?_ ?_
    · exact ⟨hy.setL bk (Nat.le_refl _) (by omega) nou8_M (by decide) 0 (l := [.int .i64 m.id, .slice m.An m.nn m.cn, .slice m.Am m.nm m.cm, .slice m.As m.ns m.cs]) nou8_M, ⟨_, _, _, _, _, _, _, _, _, _, bk.put (l := [.int .i64 m.id, .slice m.An m.nn m.cn, .slice m.Am m.nm m.cm, .slice m.As m.ns m.cs]) rfl⟩, hs.far (by omega) _, hf.far (by omega) _, hk3.setLo (by have := hy.h2; omega) 0 [.int .i64 m.id, .slice m.An m.nn m.cn, .slice m.Am m.nm m.cm, .slice m.As m.ns m.cs], ho.setLb (by omega) 0 _⟩
    · exact bk.put (l := [.int .i64 m.id, .slice m.An m.nn m.cn, .slice m.Am m.nm m.cm, .slice m.As m.ns m.cs]) rfl
    · exact S3.storeR hB3 (bk.put (l := [.int .i64 m.id, .slice m.An m.nn m.cn, .slice m.Am m.nm m.cm, .slice m.As m.ns m.cs]) rfl)
  · intro x u hC hd K hK
    have e1 : x 1 = (.agg #[.int .i64 t, .int .i64 md, .int .i64 rn, .int .i64 sl, .int .i64 mb]) := hd 1 (by kernel_rfl)
    have hC2 := hC
    obtain ⟨hy, hm, hs, hf, hk3, ho⟩ := hC2
    have hm2 := hs
    obtain ⟨a1, a2, a3, a4, a5, bk⟩ := hm2
    have b0 := bk.c 0 rfl
    have b1 := bk.c 1 rfl
    have b2 := bk.c 2 rfl
    have b3 := bk.c 3 rfl
    have b4 := bk.c 4 rfl
    have bf := bk.free
    refine ⟨?_⟩
    simp only [frX, Act.put, List.setIfInBounds_toArray, List.set_cons_zero, List.set_cons_succ] at hK ⊢
    simp only [e1] at hK ⊢
    have HK := Lib.hid hK
    clear hK hd
    go_simp
    rw [← setL5]
    refine HK.out undef _ ?_ ?_ ?_
    · exact ⟨hy.setL bk (by omega) (by omega) nou8_S (by decide) 0 (l := [.int .i64 t, .int .i64 md, .int .i64 rn, .int .i64 sl, .int .i64 mb]) nou8_S, hm.far (by omega) _, ⟨_, _, _, _, _, bk.put (l := [.int .i64 t, .int .i64 md, .int .i64 rn, .int .i64 sl, .int .i64 mb]) rfl⟩, hf.far (by omega) _, hk3.setLo (by have := hy.h2; omega) 0 [.int .i64 t, .int .i64 md, .int .i64 rn, .int .i64 sl, .int .i64 mb], ho.setLb (by omega) 0 _⟩
    · exact bk.put (l := [.int .i64 t, .int .i64 md, .int .i64 rn, .int .i64 sl, .int .i64 mb]) rfl
    · exact S3.storeS hB3 (bk.put (l := [.int .i64 t, .int .i64 md, .int .i64 rn, .int .i64 sl, .int .i64 mb]) rfl)
  · intro x u hC hd K hK
    have e2 : x 2 = (.agg #[.int .i64 k, .int .i64 r, .int .i64 ft, .int .i64 fm, .int .i64 fd, .int .i64 fs, .int .i64 fb, .slice A2 n2 c2]) := hd 2 (by kernel_rfl)
    have hC2 := hC
    obtain ⟨hy, hm, hs, hf, hk3, ho⟩ := hC2
    have hm2 := hf
    obtain ⟨a1, a2, a3, a4, a5, a6, a7, A7, n7, c7, bk⟩ := hm2
    have b0 := bk.c 0 rfl
    have b1 := bk.c 1 rfl
    have b2 := bk.c 2 rfl
    have b3 := bk.c 3 rfl
    have b4 := bk.c 4 rfl
    have b5 := bk.c 5 rfl
    have b6 := bk.c 6 rfl
    have b7 := bk.c 7 rfl
    have bf := bk.free
    refine ⟨?_⟩
    simp only [frX, Act.put, List.setIfInBounds_toArray, List.set_cons_zero, List.set_cons_succ] at hK ⊢
    simp only [e2] at hK ⊢
    have HK := Lib.hid hK
    clear hK hd
    go_simp
    rw [← setL8]
    refine HK.out undef _ ?_ ?_ ?_
    · exact ⟨hy.setL bk (by omega) (by omega) nou8_F (by decide) 0 (l := [.int .i64 k, .int .i64 r, .int .i64 ft, .int .i64 fm, .int .i64 fd, .int .i64 fs, .int .i64 fb, .slice A2 n2 c2]) nou8_F, hm.far (by omega) _, hs.far (by omega) _, ⟨_, _, _, _, _, _, _, _, _, _, bk.put (l := [.int .i64 k, .int .i64 r, .int .i64 ft, .int .i64 fm, .int .i64 fd, .int .i64 fs, .int .i64 fb, .slice A2 n2 c2]) rfl⟩, hk3.setLo (by have := hy.h2; omega) 0 [.int .i64 k, .int .i64 r, .int .i64 ft, .int .i64 fm, .int .i64 fd, .int .i64 fs, .int .i64 fb, .slice A2 n2 c2], ho.setLb (by omega) 0 _⟩
    · exact bk.put (l := [.int .i64 k, .int .i64 r, .int .i64 ft, .int .i64 fm, .int .i64 fd, .int .i64 fs, .int .i64 fb, .slice A2 n2 c2]) rfl
    · exact S3.storeT hB3 (bk.put (l := [.int .i64 k, .int .i64 r, .int .i64 ft, .int .i64 fm, .int .i64 fd, .int .i64 fs, .int .i64 fb, .slice A2 n2 c2]) rfl)
  · intro x u hC hd K hK
    have hh4 : ∃ A n c fs, x 4 = .slice A n c ∧ OwnE encF 4 87 u w1.heap.size A n c fs ∧ n ≤ 40 := hd 4 (by kernel_rfl)
    obtain ⟨A4, n4, c4, es, e4, h4, hn4⟩ := hh4
    refine ⟨?_⟩
    simp only [frX, Act.put, List.setIfInBounds_toArray, List.set_cons_zero, List.set_cons_succ] at hK ⊢
    simp only [e4] at hK ⊢
    have HK := Lib.hid hK
    clear hK hd
    go_simp
    refine HK.out _ _ ?_ ?_ ?_
    · exact hC
    · exact ⟨A4, n4, c4, es, rfl, h4, hn4⟩
    · exact fun _ _ h => h
  · intro x u hC hf
    have hh : ∃ A n c fs, x 8 = .slice A n c ∧ OwnE encF 4 87 u w1.heap.size A n c fs ∧ n ≤ 40 := hf 8 (by decide)
    obtain ⟨A4, n4, c4, es, e8, h4, hn4⟩ := hh
    have kr : BlkL u w.heap.size 28 [.int .i64 m.id, .slice m.An m.nn m.cn, .slice m.Am m.nm m.cm, .slice m.As m.ns m.cs] := hf 5 (by decide)
    have ks : BlkL u (w.heap.size + 1) 30 [.int .i64 t, .int .i64 md, .int .i64 rn, .int .i64 sl, .int .i64 mb] := hf 6 (by decide)
    have kt : BlkL u (w.heap.size + 2) 33 [.int .i64 k, .int .i64 r, .int .i64 ft, .int .i64 fm, .int .i64 fd, .int .i64 fs, .int .i64 fb, .slice A2 n2 c2] := hf 7 (by decide)
    obtain ⟨hy, _, _, _, _, ho⟩ := hC
    refine ⟨?_⟩
    simp only [frX, Act.put, List.setIfInBounds_toArray, List.set_cons_zero, List.set_cons_succ]
    simp only [e8]
    clear hf
    go_wp2_with fail
    have q0 := kr.c 0 rfl
    have q1 := kr.c 1 rfl
    have q2 := kr.c 2 rfl
    have q3 := kr.c 3 rfl
    have y0 := ks.c 0 rfl
    have y1 := ks.c 1 rfl
    have y2 := ks.c 2 rfl
    have y3 := ks.c 3 rfl
    have y4 := ks.c 4 rfl
    have f0 := kt.c 0 rfl
    have f1 := kt.c 1 rfl
    have f2 := kt.c 2 rfl
    have f3 := kt.c 3 rfl
    have f4 := kt.c 4 rfl
    have f5 := kt.c 5 rfl
    have f6 := kt.c 6 rfl
    have f7 := kt.c 7 rfl
    exact bodyPost_ret (v := .tuple #[.agg #[.int .i64 m.id, .slice m.An m.nn m.cn, .slice m.Am m.nm m.cm, .slice m.As m.ns m.cs], .agg #[.int .i64 t, .int .i64 md, .int .i64 rn, .int .i64 sl, .int .i64 mb], .agg #[.int .i64 k, .int .i64 r, .int .i64 ft, .int .i64 fm, .int .i64 fd, .int .i64 fs, .int .i64 fb, .slice A2 n2 c2], .slice A4 n4 c4]) (by simp [results, Tryz.results6, go_sem, q0, q1, q2, q3, y0, y1, y2, y3, y4, f0, f1, f2, f3, f4, f5, f6, f7]) rfl ⟨m, M, t, md, rn, sl, mb, k, r, ft, fm, fd, fs, fb, A2, n2, c2, zs, A4, n4, c4, es, rfl, hy.v.weaken (by omega), ho.weaken (by omega), hn2, h4.weaken (by omega), hn4, hy.bel⟩
/-- five written numbers in a block of the own memory -/
def B5 (B : Nat) (u : World) (b : Nat) : Prop := B ≤ b ∧ ∃ a1 a2 a3 a4 a5 : Int, BlkL u b 2 [.int .i64 a1, .int .i64 a2, .int .i64 a3, .int .i64 a4, .int .i64 a5]
theorem B5.dr {B b g : Nat} {u u' : World} (h : B5 B u b) (d : Dr u g u') (h1 : g < B) : B5 B u' b := let ⟨e, a1, a2, a3, a4, a5, k⟩ := h; ⟨e, a1, a2, a3, a4, a5, k.dr d (by omega)⟩
theorem B5.far {B b b2 : Nat} {u : World} (h : B5 B u b) (hb : b2 < B) (l : List Value) : B5 B (setL u b2 0 l) b := let ⟨e, a1, a2, a3, a4, a5, k⟩ := h; ⟨e, a1, a2, a3, a4, a5, k.setLo (by omega) 0 l⟩
def S15 (w : World) (g B : Nat) (cm cx : Value) (Lm Lx : List Value) : List (Value → World → Prop) :=
  [fun y _ => y = cm, fun y _ => y = cx, fun y _ => y = .pointer (some ⟨g, 0, none⟩), fun y _ => ∃ z : Nat, y = .int .i64 z,
   fun y u => ∃ b : Nat, y = .slice (some ⟨b, 0, none⟩) 5 5 ∧ B5 B u b, fun y _ => y = .pointer (some ⟨g, 0, none⟩), fun y _ => ∃ z : Nat, y = .int .i64 z ∧ z < 5,
   fun y u => ∃ b z : Nat, y = .pointer (some ⟨b, z, none⟩) ∧ z < 5 ∧ B5 B u b, fun y _ => ∃ z : Int, y = .int .i64 z,
   fun y _ => y = .pointer (some ⟨g, 0, none⟩), fun y _ => ∃ z : Nat, y = .int .i64 z,
   fun y u => ∃ b : Nat, y = .slice (some ⟨b, 0, none⟩) 5 5 ∧ B5 B u b, fun y _ => y = .pointer (some ⟨g, 0, none⟩), fun y _ => ∃ z : Nat, y = .int .i64 z ∧ z < 5,
   fun y u => ∃ b z : Nat, y = .pointer (some ⟨b, z, none⟩) ∧ z < 5 ∧ B5 B u b, fun y _ => ∃ z : Int, y = .int .i64 z,
   fun _ u => BlkL u w.heap.size 28 Lm, fun _ u => BlkL u (w.heap.size + 1) 30 Lx, fun y _ => ∃ z : Int, y = .int .i64 z, fun y _ => ∃ z : Int, y = .int .i64 z]
theorem S15.up {w : World} {g B : Nat} {cm cx : Value} {Lm Lx : List Value} {u u' : World} (d : Dr u g u') (h1 : g < B) (h0 : w.heap.size + 2 ≤ g) : ∀ j y, gL (S15 w g B cm cx Lm Lx) j y u → gL (S15 w g B cm cx Lm Lx) j y u' :=
  gL_up (up_cons (fun _ h => h) (up_cons (fun _ h => h) (up_cons (fun _ h => h) (up_cons (fun _ h => h) (up_cons (fun _ ⟨b, e, h⟩ => ⟨b, e, h.dr d h1⟩) (up_cons (fun _ h => h) (up_cons (fun _ h => h) (up_cons (fun _ ⟨b, z, e, hz, h⟩ => ⟨b, z, e, hz, h.dr d h1⟩) (up_cons (fun _ h => h) (up_cons (fun _ h => h) (up_cons (fun _ h => h) (up_cons (fun _ ⟨b, e, h⟩ => ⟨b, e, h.dr d h1⟩) (up_cons (fun _ h => h) (up_cons (fun _ h => h) (up_cons (fun _ ⟨b, z, e, hz, h⟩ => ⟨b, z, e, hz, h.dr d h1⟩) (up_cons (fun _ h => h) (up_cons (fun _ h => BlkL.dr h d (by omega)) (up_cons (fun _ h => BlkL.dr h d (by omega)) (up_cons (fun _ h => h) (up_cons (fun _ h => h) (up_nil)))))))))))))))))))))
theorem S15.storeR {w : World} {g B : Nat} {cm cx : Value} {Lm Lx : List Value} {u : World} (hB : w.heap.size + 2 ≤ B) (hk : BlkL (setL u w.heap.size 0 Lm) w.heap.size 28 Lm) : ∀ j y, gL (S15 w g B cm cx Lm Lx) j y u → gL (S15 w g B cm cx Lm Lx) j y (setL u w.heap.size 0 Lm) :=
  gL_up (up_cons (fun _ h => h) (up_cons (fun _ h => h) (up_cons (fun _ h => h) (up_cons (fun _ h => h) (up_cons (fun _ ⟨b, e, h⟩ => ⟨b, e, h.far (by omega) _⟩) (up_cons (fun _ h => h) (up_cons (fun _ h => h) (up_cons (fun _ ⟨b, z, e, hz, h⟩ => ⟨b, z, e, hz, h.far (by omega) _⟩) (up_cons (fun _ h => h) (up_cons (fun _ h => h) (up_cons (fun _ h => h) (up_cons (fun _ ⟨b, e, h⟩ => ⟨b, e, h.far (by omega) _⟩) (up_cons (fun _ h => h) (up_cons (fun _ h => h) (up_cons (fun _ ⟨b, z, e, hz, h⟩ => ⟨b, z, e, hz, h.far (by omega) _⟩) (up_cons (fun _ h => h) (up_cons (fun _ _ => hk) (up_cons (fun _ h => BlkL.setLo h (by omega) 0 _) (up_cons (fun _ h => h) (up_cons (fun _ h => h) (up_nil)))))))))))))))))))))
theorem S15.storeS {w : World} {g B : Nat} {cm cx : Value} {Lm Lx : List Value} {u : World} (hB : w.heap.size + 2 ≤ B) (hk : BlkL (setL u (w.heap.size + 1) 0 Lx) (w.heap.size + 1) 30 Lx) : ∀ j y, gL (S15 w g B cm cx Lm Lx) j y u → gL (S15 w g B cm cx Lm Lx) j y (setL u (w.heap.size + 1) 0 Lx) :=
  gL_up (up_cons (fun _ h => h) (up_cons (fun _ h => h) (up_cons (fun _ h => h) (up_cons (fun _ h => h) (up_cons (fun _ ⟨b, e, h⟩ => ⟨b, e, h.far (by omega) _⟩) (up_cons (fun _ h => h) (up_cons (fun _ h => h) (up_cons (fun _ ⟨b, z, e, hz, h⟩ => ⟨b, z, e, hz, h.far (by omega) _⟩) (up_cons (fun _ h => h) (up_cons (fun _ h => h) (up_cons (fun _ h => h) (up_cons (fun _ ⟨b, e, h⟩ => ⟨b, e, h.far (by omega) _⟩) (up_cons (fun _ h => h) (up_cons (fun _ h => h) (up_cons (fun _ ⟨b, z, e, hz, h⟩ => ⟨b, z, e, hz, h.far (by omega) _⟩) (up_cons (fun _ h => h) (up_cons (fun _ h => BlkL.setLo h (by omega) 0 _) (up_cons (fun _ _ => hk) (up_cons (fun _ h => h) (up_cons (fun _ h => h) (up_nil)))))))))))))))))))))
theorem five_get {a b c d e : Int} {x : Nat} (h : x < 5) : ∃ v : Int, [Value.int .i64 a, .int .i64 b, .int .i64 c, .int .i64 d, .int .i64 e][x]? = some (.int .i64 v) := by
  have hc : x = 0 ∨ x = 1 ∨ x = 2 ∨ x = 3 ∨ x = 4 := by omega
  rcases hc with rfl | rfl | rfl | rfl | rfl <;> exact ⟨_, rfl⟩
set_option maxRecDepth 20000 in
set_option maxHeartbeats 16000000 in
theorem drawFF_any (A : Option Addr) (n c : Nat) (bs : List Int) (w : World) (h : RB w w.heap.size A n bs) (hn : n ≤ 1099511627776) :
    Calls Tryz.prog 13 #[.slice A n c] w (TopFF w) := by
  obtain ⟨w0, hw0⟩ : ∃ v, v = (w.alloc (.cells #[.int .i64 0, .slice none 0 0, .slice none 0 0, .slice none 0 0] 28)).alloc (.cells #[.int .i64 0, .int .i64 0, .int .i64 0, .int .i64 0, .int .i64 0] 30) := ⟨_, rfl⟩
  have r0 : BlkL w0 w.heap.size 28 zM := by rw [hw0]; exact (BlkL.new w _ _ rfl).alloc _
  have s0 : BlkL w0 (w.heap.size + 1) 30 zS := by rw [hw0]; exact BlkL.new _ _ _ (by simp)
  have b0 : Below w.heap.size w w0 := by rw [hw0]; go_grown
  have z0 : w0.heap.size = w.heap.size + 2 := by rw [hw0]; simp
  go_enter Tryz.func13, Tryz.ntmps13
  go_wp2_with fail
  rw [← hw0]
  clear hw0
  refine (from_any A n c bs _ ((h.below b0 (Nat.le_refl _)).more b0.size) (by omega)).mono ?_
  rintro e w1 ⟨g, rfl, hs1, hg, hb1⟩
  have hg1 := hs1.lt
  go_wp2_with fail
  refine (drawSend_any g _ hs1).mono ?_
  rintro e w2 ⟨m, M, t, md, rn, sl, mb, k, r, ft, fm, fd, fs, fb, A2, n2, c2, zs, rfl, dv, ho, hn2, d2⟩
  have z2 := d2.size
  obtain ⟨u1, hu1⟩ : ∃ v, v = ((w2.alloc (.cells #[.int .i64 m.id, .slice m.An m.nn m.cn, .slice m.Am m.nm m.cm, .slice m.As m.ns m.cs] 28)).alloc (.cells #[.int .i64 t, .int .i64 md, .int .i64 rn, .int .i64 sl, .int .i64 mb] 30)).alloc (.cells #[.int .i64 k, .int .i64 r, .int .i64 ft, .int .i64 fm, .int .i64 fd, .int .i64 fs, .int .i64 fb, .slice A2 n2 c2] 33) := ⟨_, rfl⟩
  have dd : Dr w1 g u1 := by rw [hu1]; exact ((d2.alloc _).alloc _).alloc _
  have hy : LY w g w1.heap.size m M [.int .i64 t, .int .i64 md, .int .i64 rn, .int .i64 sl, .int .i64 mb] w2.heap.size (w2.heap.size + 1) u1 := by
    refine ⟨(below_next hb1 b0 (by omega)).grown dd.gr (by omega) (fun j e => by cases e; omega), dd.src, ?_, ?_, ?_, by omega, hg1, z2, by omega⟩
    · rw [hu1]; exact (((dv.weaken (Nat.le_refl _)).alloc _).alloc _).alloc _
    · rw [hu1]; exact ((BlkL.new w2 _ _ rfl).alloc _).alloc _
    · rw [hu1]; exact (BlkL.new _ _ _ (by simp)).alloc _
  have r1 : BlkL u1 w.heap.size 28 zM := (r0.next hb1).dr dd (by omega)
  have s1 : BlkL u1 (w.heap.size + 1) 30 zS := (s0.next hb1).dr dd (by omega)
  clear dv ho d2 dd r0 s0 b0 hs1 hb1
  go_upto_region 3 with fail
  rw [← hu1]
  clear hu1
  have hg2 : w.heap.size + 2 ≤ g := by omega
  have hB2 : w.heap.size + 2 ≤ w1.heap.size := by omega
  have hC0 : (fun u => LY w g w1.heap.size m M [.int .i64 t, .int .i64 md, .int .i64 rn, .int .i64 sl, .int .i64 mb] w2.heap.size (w2.heap.size + 1) u ∧ bM u w.heap.size ∧ bS u (w.heap.size + 1)) u1.drew := ⟨hy.dr (Dr.refl hy.src).drew, ⟨_, _, _, _, _, _, _, _, _, _, r1⟩, ⟨_, _, _, _, _, s1⟩⟩
  clear hy r1 s1
  refine wp_region_loose (fun u => LY w g w1.heap.size m M [.int .i64 t, .int .i64 md, .int .i64 rn, .int .i64 sl, .int .i64 mb] w2.heap.size (w2.heap.size + 1) u ∧ bM u w.heap.size ∧ bS u (w.heap.size + 1)) (gL (S15 w g w1.heap.size (.agg #[.int .i64 m.id, .slice m.An m.nn m.cn, .slice m.Am m.nm m.cm, .slice m.As m.ns m.cs]) (.agg #[.int .i64 t, .int .i64 md, .int .i64 rn, .int .i64 sl, .int .i64 mb]) [.int .i64 m.id, .slice m.An m.nn m.cn, .slice m.Am m.nm m.cm, .slice m.As m.ns m.cs] [.int .i64 t, .int .i64 md, .int .i64 rn, .int .i64 sl, .int .i64 mb])) (by kernel_rfl) (by kernel_rfl) (by kernel_rfl) hC0 (stepsF_cons (k' := 1) rfl ?_ (stepsF_cons (k' := 2) rfl ?_ (stepsF_cons (k' := 3) rfl ?_ (stepsF_cons (k' := 4) rfl ?_ (stepsF_cons (k' := 5) rfl ?_ (stepsF_cons (k' := 6) rfl ?_ (stepsF_cons (k' := 7) rfl ?_ (stepsF_cons (k' := 8) rfl ?_ (stepsF_cons (k' := 9) rfl ?_ (stepsF_cons (k' := 10) rfl ?_ (stepsF_cons (k' := 11) rfl ?_ (stepsF_cons (k' := 12) rfl ?_ (stepsF_cons (k' := 13) rfl ?_ (stepsF_cons (k' := 14) rfl ?_ (stepsF_cons (k' := 15) rfl ?_ (stepsF_cons (k' := 16) rfl ?_ (stepsF_cons (k' := 17) rfl ?_ (stepsF_cons (k' := 18) rfl ?_ (stepsF_cons (k' := 19) rfl ?_ (stepsF_cons (k' := 20) rfl ?_ (stepsF_nil))))))))))))))))))))) ?_
  · intro x u hC hd K hK
    have hC2 := hC
    obtain ⟨hy, hm, hs⟩ := hC2
    have c0 := hy.k.c 0 rfl
    have c1 := hy.k.c 1 rfl
    have c2 := hy.k.c 2 rfl
    have c3 := hy.k.c 3 rfl
    refine ⟨?_⟩
    simp only [frX, Act.put, List.setIfInBounds_toArray, List.set_cons_zero, List.set_cons_succ] at hK ⊢
    have HK := Lib.hid hK
    clear hK hd
    go_simp
    refine HK.out _ _ ?_ ?_ ?_
    · exact hC
    · exact rfl
    · exact fun _ _ h => h
  · intro x u hC hd K hK
    have hC2 := hC
    obtain ⟨hy, hm, hs⟩ := hC2
    have x0 := hy.x.c 0 rfl
    have x1 := hy.x.c 1 rfl
    have x2 := hy.x.c 2 rfl
    have x3 := hy.x.c 3 rfl
    have x4 := hy.x.c 4 rfl
    refine ⟨?_⟩
    simp only [frX, Act.put, List.setIfInBounds_toArray, List.set_cons_zero, List.set_cons_succ] at hK ⊢
    have HK := Lib.hid hK
    clear hK hd
    go_simp
    refine HK.out _ _ ?_ ?_ ?_
    · exact hC
    · exact rfl
    · exact fun _ _ h => h
  · intro x u hC hd K hK
    refine ⟨?_⟩
    simp only [frX, Act.put, List.setIfInBounds_toArray, List.set_cons_zero, List.set_cons_succ] at hK ⊢
    have HK := Lib.hid hK
    clear hK hd
    go_simp
    refine HK.out _ _ ?_ ?_ ?_
    · exact hC
    · exact rfl
    · exact fun _ _ h => h
  · intro x u hC hd K hK
    have e2 : x 2 = .pointer (some ⟨g, 0, none⟩) := hd 2 (by kernel_rfl)
    have hC2 := hC
    obtain ⟨hy, hm, hs⟩ := hC2
    refine ⟨?_⟩
    simp only [frX, Act.put, List.setIfInBounds_toArray, List.set_cons_zero, List.set_cons_succ] at hK ⊢
    simp only [e2] at hK ⊢
    have HK := Lib.hid hK
    clear hK hd
    go_wp2_with (go_at_call 33; refine (next_any g _ _ hy.src).mono ?_; rintro e cc ⟨z, rfl, hz, dx⟩)
    refine HK.out _ _ ?_ ?_ ?_
    · exact ⟨hy.dr dx, hm.dr dx (by omega), hs.dr dx (by omega)⟩
    · exact ⟨z, rfl⟩
    · exact S15.up dx hy.h1 hg2
  · intro x u hC hd K hK
    have hh3 : ∃ z : Nat, x 3 = .int .i64 z := hd 3 (by kernel_rfl)
    obtain ⟨z3, e3⟩ := hh3
    have hC2 := hC
    obtain ⟨hy, hm, hs⟩ := hC2
    have hB4 : w1.heap.size ≤ u.heap.size := by have := hy.h2; have := hy.k.lt; omega
    refine ⟨?_⟩
    simp only [frX, Act.put, List.setIfInBounds_toArray, List.set_cons_zero, List.set_cons_succ] at hK ⊢
    simp only [e3] at hK ⊢
    have HK := Lib.hid hK
    clear hK hd
    go_simp
    refine HK.out _ _ ?_ ?_ ?_
    · exact (fun dx => (⟨hy.dr dx, hm.dr dx (by omega), hs.dr dx (by omega)⟩ : _ ∧ _ ∧ _)) ((Dr.refl hy.src).alloc _)
    · exact ⟨_, rfl, hB4, _, _, _, _, _, BlkL.new _ _ _ rfl⟩
    · exact S15.up ((Dr.refl hy.src).alloc _) hy.h1 hg2
  · intro x u hC hd K hK
    refine ⟨?_⟩
    simp only [frX, Act.put, List.setIfInBounds_toArray, List.set_cons_zero, List.set_cons_succ] at hK ⊢
    have HK := Lib.hid hK
    clear hK hd
    go_simp
    refine HK.out _ _ ?_ ?_ ?_
    · exact hC
    · exact rfl
    · exact fun _ _ h => h
  · intro x u hC hd K hK
    have e5 : x 5 = .pointer (some ⟨g, 0, none⟩) := hd 5 (by kernel_rfl)
    have hC2 := hC
    obtain ⟨hy, hm, hs⟩ := hC2
    refine ⟨?_⟩
    simp only [frX, Act.put, List.setIfInBounds_toArray, List.set_cons_zero, List.set_cons_succ] at hK ⊢
    simp only [e5] at hK ⊢
    have HK := Lib.hid hK
    clear hK hd
    go_wp2_with (go_at_call 33; refine (next_any g _ _ hy.src).mono ?_; rintro e cc ⟨z, rfl, hz, dx⟩)
    refine HK.out _ _ ?_ ?_ ?_
    · exact ⟨hy.dr dx, hm.dr dx (by omega), hs.dr dx (by omega)⟩
    · exact ⟨z, rfl, by omega⟩
    · exact S15.up dx hy.h1 hg2
  · intro x u hC hd K hK
    have hh4 : ∃ b : Nat, x 4 = .slice (some ⟨b, 0, none⟩) 5 5 ∧ B5 w1.heap.size u b := hd 4 (by kernel_rfl)
    obtain ⟨b, e4, h5⟩ := hh4
    have hh6 : ∃ z : Nat, x 6 = .int .i64 z ∧ z < 5 := hd 6 (by kernel_rfl)
    obtain ⟨z, e6, hz⟩ := hh6
    have hz0 : (0 : Int) ≤ z := by omega
    have hz5 : (z : Int) < 5 := by omega
    refine ⟨?_⟩
    simp only [frX, Act.put, List.setIfInBounds_toArray, List.set_cons_zero, List.set_cons_succ] at hK ⊢
    simp only [e4, e6] at hK ⊢
    have HK := Lib.hid hK
    clear hK hd
    go_simp
    refine HK.out _ _ ?_ ?_ ?_
    · exact hC
    · exact ⟨b, z, rfl, hz, h5⟩
    · exact fun _ _ h => h
  · intro x u hC hd K hK
    have hh7 : ∃ b z : Nat, x 7 = .pointer (some ⟨b, z, none⟩) ∧ z < 5 ∧ B5 w1.heap.size u b := hd 7 (by kernel_rfl)
    obtain ⟨b, z, e7, hz, h5⟩ := hh7
    obtain ⟨_, a1, a2, a3, a4, a5, bk⟩ := h5
    obtain ⟨v, hv⟩ := five_get (a := a1) (b := a2) (c := a3) (d := a4) (e := a5) hz
    have hc5 := bk.c z hv
    refine ⟨?_⟩
    simp only [frX, Act.put, List.setIfInBounds_toArray, List.set_cons_zero, List.set_cons_succ] at hK ⊢
    simp only [e7] at hK ⊢
    have HK := Lib.hid hK
    clear hK hd
    go_simp
    refine HK.out _ _ ?_ ?_ ?_
    · exact hC
    · exact ⟨_, rfl⟩
    · exact fun _ _ h => h
  · intro x u hC hd K hK
    refine ⟨?_⟩
    simp only [frX, Act.put, List.setIfInBounds_toArray, List.set_cons_zero, List.set_cons_succ] at hK ⊢
    have HK := Lib.hid hK
    clear hK hd
    go_simp
    refine HK.out _ _ ?_ ?_ ?_
    · exact hC
    · exact rfl
    · exact fun _ _ h => h
  · intro x u hC hd K hK
    have e9 : x 9 = .pointer (some ⟨g, 0, none⟩) := hd 9 (by kernel_rfl)
    have hC2 := hC
    obtain ⟨hy, hm, hs⟩ := hC2
    refine ⟨?_⟩
    simp only [frX, Act.put, List.setIfInBounds_toArray, List.set_cons_zero, List.set_cons_succ] at hK ⊢
    simp only [e9] at hK ⊢
    have HK := Lib.hid hK
    clear hK hd
    go_wp2_with (go_at_call 33; refine (next_any g _ _ hy.src).mono ?_; rintro e cc ⟨z, rfl, hz, dx⟩)
    refine HK.out _ _ ?_ ?_ ?_
    · exact ⟨hy.dr dx, hm.dr dx (by omega), hs.dr dx (by omega)⟩
    · exact ⟨z, rfl⟩
    · exact S15.up dx hy.h1 hg2
  · intro x u hC hd K hK
    have hh10 : ∃ z : Nat, x 10 = .int .i64 z := hd 10 (by kernel_rfl)
    obtain ⟨z10, e10⟩ := hh10
    have hC2 := hC
    obtain ⟨hy, hm, hs⟩ := hC2
    have hB4 : w1.heap.size ≤ u.heap.size := by have := hy.h2; have := hy.k.lt; omega
    refine ⟨?_⟩
    simp only [frX, Act.put, List.setIfInBounds_toArray, List.set_cons_zero, List.set_cons_succ] at hK ⊢
    simp only [e10] at hK ⊢
    have HK := Lib.hid hK
    clear hK hd
    go_simp
    refine HK.out _ _ ?_ ?_ ?_
    · exact (fun dx => (⟨hy.dr dx, hm.dr dx (by omega), hs.dr dx (by omega)⟩ : _ ∧ _ ∧ _)) ((Dr.refl hy.src).alloc _)
    · exact ⟨_, rfl, hB4, _, _, _, _, _, BlkL.new _ _ _ rfl⟩
    · exact S15.up ((Dr.refl hy.src).alloc _) hy.h1 hg2
  · intro x u hC hd K hK
    refine ⟨?_⟩
    simp only [frX, Act.put, List.setIfInBounds_toArray, List.set_cons_zero, List.set_cons_succ] at hK ⊢
    have HK := Lib.hid hK
    clear hK hd
    go_simp
    refine HK.out _ _ ?_ ?_ ?_
    · exact hC
    · exact rfl
    · exact fun _ _ h => h
  · intro x u hC hd K hK
    have e12 : x 12 = .pointer (some ⟨g, 0, none⟩) := hd 12 (by kernel_rfl)
    have hC2 := hC
    obtain ⟨hy, hm, hs⟩ := hC2
    refine ⟨?_⟩
    simp only [frX, Act.put, List.setIfInBounds_toArray, List.set_cons_zero, List.set_cons_succ] at hK ⊢
    simp only [e12] at hK ⊢
    have HK := Lib.hid hK
    clear hK hd
    go_wp2_with (go_at_call 33; refine (next_any g _ _ hy.src).mono ?_; rintro e cc ⟨z, rfl, hz, dx⟩)
    refine HK.out _ _ ?_ ?_ ?_
    · exact ⟨hy.dr dx, hm.dr dx (by omega), hs.dr dx (by omega)⟩
    · exact ⟨z, rfl, by omega⟩
    · exact S15.up dx hy.h1 hg2
  · intro x u hC hd K hK
    have hh11 : ∃ b : Nat, x 11 = .slice (some ⟨b, 0, none⟩) 5 5 ∧ B5 w1.heap.size u b := hd 11 (by kernel_rfl)
    obtain ⟨b, e11, h5⟩ := hh11
    have hh13 : ∃ z : Nat, x 13 = .int .i64 z ∧ z < 5 := hd 13 (by kernel_rfl)
    obtain ⟨z, e13, hz⟩ := hh13
    have hz0 : (0 : Int) ≤ z := by omega
    have hz5 : (z : Int) < 5 := by omega
    refine ⟨?_⟩
    simp only [frX, Act.put, List.setIfInBounds_toArray, List.set_cons_zero, List.set_cons_succ] at hK ⊢
    simp only [e11, e13] at hK ⊢
    have HK := Lib.hid hK
    clear hK hd
    go_simp
    refine HK.out _ _ ?_ ?_ ?_
    · exact hC
    · exact ⟨b, z, rfl, hz, h5⟩
    · exact fun _ _ h => h
  · intro x u hC hd K hK
    have hh14 : ∃ b z : Nat, x 14 = .pointer (some ⟨b, z, none⟩) ∧ z < 5 ∧ B5 w1.heap.size u b := hd 14 (by kernel_rfl)
    obtain ⟨b, z, e14, hz, h5⟩ := hh14
    obtain ⟨_, a1, a2, a3, a4, a5, bk⟩ := h5
    obtain ⟨v, hv⟩ := five_get (a := a1) (b := a2) (c := a3) (d := a4) (e := a5) hz
    have hc5 := bk.c z hv
    refine ⟨?_⟩
    simp only [frX, Act.put, List.setIfInBounds_toArray, List.set_cons_zero, List.set_cons_succ] at hK ⊢
    simp only [e14] at hK ⊢
    have HK := Lib.hid hK
    clear hK hd
    go_simp
    refine HK.out _ _ ?_ ?_ ?_
    · exact hC
    · exact ⟨_, rfl⟩
    · exact fun _ _ h => h
  · intro x u hC hd K hK
    have e0 : x 0 = (.agg #[.int .i64 m.id, .slice m.An m.nn m.cn, .slice m.Am m.nm m.cm, .slice m.As m.ns m.cs]) := hd 0 (by kernel_rfl)
    have hC2 := hC
    obtain ⟨hy, hm, hs⟩ := hC2
    have hm2 := hm
    obtain ⟨i, A1, n1, c1, A5, n5, c5, A6, n6, c6, bk⟩ := hm2
    have b0 := bk.c 0 rfl
    have b1 := bk.c 1 rfl
    have b2 := bk.c 2 rfl
    have b3 := bk.c 3 rfl
    have bf := bk.free
    refine ⟨?_⟩
    simp only [frX, Act.put, List.setIfInBounds_toArray, List.set_cons_zero, List.set_cons_succ] at hK ⊢
    simp only [e0] at hK ⊢
    have HK := Lib.hid hK
    clear hK hd
    go_simp
    rw [← setL4]
    refine HK.out undef _ ?_ ?_ ?_
    · exact ⟨hy.setL bk (Nat.le_refl _) (by omega) nou8_M (by decide) 0 (l := [.int .i64 m.id, .slice m.An m.nn m.cn, .slice m.Am m.nm m.cm, .slice m.As m.ns m.cs]) nou8_M, ⟨_, _, _, _, _, _, _, _, _, _, bk.put (l := [.int .i64 m.id, .slice m.An m.nn m.cn, .slice m.Am m.nm m.cm, .slice m.As m.ns m.cs]) rfl⟩, hs.far (by omega) _⟩
    · exact bk.put (l := [.int .i64 m.id, .slice m.An m.nn m.cn, .slice m.Am m.nm m.cm, .slice m.As m.ns m.cs]) rfl
    · exact S15.storeR hB2 (bk.put (l := [.int .i64 m.id, .slice m.An m.nn m.cn, .slice m.Am m.nm m.cm, .slice m.As m.ns m.cs]) rfl)
  · intro x u hC hd K hK
    have e1 : x 1 = (.agg #[.int .i64 t, .int .i64 md, .int .i64 rn, .int .i64 sl, .int .i64 mb]) := hd 1 (by kernel_rfl)
    have hC2 := hC
    obtain ⟨hy, hm, hs⟩ := hC2
    have hm2 := hs
    obtain ⟨a1, a2, a3, a4, a5, bk⟩ := hm2
    have b0 := bk.c 0 rfl
    have b1 := bk.c 1 rfl
    have b2 := bk.c 2 rfl
    have b3 := bk.c 3 rfl
    have b4 := bk.c 4 rfl
    have bf := bk.free
    refine ⟨?_⟩
    simp only [frX, Act.put, List.setIfInBounds_toArray, List.set_cons_zero, List.set_cons_succ] at hK ⊢
    simp only [e1] at hK ⊢
    have HK := Lib.hid hK
    clear hK hd
    go_simp
    rw [← setL5]
    refine HK.out undef _ ?_ ?_ ?_
    · exact ⟨hy.setL bk (by omega) (by omega) nou8_S (by decide) 0 (l := [.int .i64 t, .int .i64 md, .int .i64 rn, .int .i64 sl, .int .i64 mb]) nou8_S, hm.far (by omega) _, ⟨_, _, _, _, _, bk.put (l := [.int .i64 t, .int .i64 md, .int .i64 rn, .int .i64 sl, .int .i64 mb]) rfl⟩⟩
    · exact bk.put (l := [.int .i64 t, .int .i64 md, .int .i64 rn, .int .i64 sl, .int .i64 mb]) rfl
    · exact S15.storeS hB2 (bk.put (l := [.int .i64 t, .int .i64 md, .int .i64 rn, .int .i64 sl, .int .i64 mb]) rfl)
  · intro x u hC hd K hK
    have hh8 : ∃ z : Int, x 8 = .int .i64 z := hd 8 (by kernel_rfl)
    obtain ⟨z, e8⟩ := hh8
    refine ⟨?_⟩
    simp only [frX, Act.put, List.setIfInBounds_toArray, List.set_cons_zero, List.set_cons_succ] at hK ⊢
    simp only [e8] at hK ⊢
    have HK := Lib.hid hK
    clear hK hd
    go_simp
    refine HK.out _ _ ?_ ?_ ?_
    · exact hC
    · exact ⟨_, rfl⟩
    · exact fun _ _ h => h
  · intro x u hC hd K hK
    have hh15 : ∃ z : Int, x 15 = .int .i64 z := hd 15 (by kernel_rfl)
    obtain ⟨z, e15⟩ := hh15
    refine ⟨?_⟩
    simp only [frX, Act.put, List.setIfInBounds_toArray, List.set_cons_zero, List.set_cons_succ] at hK ⊢
    simp only [e15] at hK ⊢
    have HK := Lib.hid hK
    clear hK hd
    go_simp
    refine HK.out _ _ ?_ ?_ ?_
    · exact hC
    · exact ⟨_, rfl⟩
    · exact fun _ _ h => h
  · intro x u hC hf
    have hh : ∃ z : Int, x 18 = .int .i64 z := hf 18 (by decide)
    obtain ⟨fl, e18⟩ := hh
    have hh : ∃ z : Int, x 19 = .int .i64 z := hf 19 (by decide)
    obtain ⟨rq, e19⟩ := hh
    have kr : BlkL u w.heap.size 28 [.int .i64 m.id, .slice m.An m.nn m.cn, .slice m.Am m.nm m.cm, .slice m.As m.ns m.cs] := hf 16 (by decide)
    have ks : BlkL u (w.heap.size + 1) 30 [.int .i64 t, .int .i64 md, .int .i64 rn, .int .i64 sl, .int .i64 mb] := hf 17 (by decide)
    obtain ⟨hy, _, _⟩ := hC
    refine ⟨?_⟩
    simp only [frX, Act.put, List.setIfInBounds_toArray, List.set_cons_zero, List.set_cons_succ]
    simp only [e18, e19]
    clear hf
    go_wp2_with fail
    have q0 := kr.c 0 rfl
    have q1 := kr.c 1 rfl
    have q2 := kr.c 2 rfl
    have q3 := kr.c 3 rfl
    have y0 := ks.c 0 rfl
    have y1 := ks.c 1 rfl
    have y2 := ks.c 2 rfl
    have y3 := ks.c 3 rfl
    have y4 := ks.c 4 rfl
    exact bodyPost_ret (v := .tuple #[.agg #[.int .i64 m.id, .slice m.An m.nn m.cn, .slice m.Am m.nm m.cm, .slice m.As m.ns m.cs], .agg #[.int .i64 t, .int .i64 md, .int .i64 rn, .int .i64 sl, .int .i64 mb], .int .i64 fl, .int .i64 rq]) (by simp [results, Tryz.results13, go_sem, q0, q1, q2, q3, y0, y1, y2, y3, y4]) rfl ⟨m, M, t, md, rn, sl, mb, fl, rq, rfl, hy.v.weaken (by omega), hy.bel⟩
end Go.Proofs.YtbaojbheopcjhaaGreatDoor
