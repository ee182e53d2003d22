/- Walks, laws and small notions for the claims of this seat, several texts as one (DrG). Conditions: as each theorem states them. -/
import Derived.Test.YtbaojbheopcjhaaGreatDoorB57
import Derived.Test.YtbaojbheopcjhaaGreatDoorB10
import Derived.Test.YtbaojbheopcjhaaGreatDoorB21
import Derived.Test.YtbaojbheopcjhaaGreatDoorB15
import Derived.Deep.RegionHeldLaw
import Derived.Deep.DeepCutAuto
import Derived.Deep.RegionLaw
namespace Go.Proofs.YtbaojbheopcjhaaGreatDoor
open Go.RowKit
/-- a drawn schedule, a drawn state, a drawn frame -/
def DrG (w : World) (g : Nat) (e : Ending) (w' : World) : Prop :=
  ∃ (m : Mdv) (M : Mdl) (t md rn sl mb k r ft fm fd fs fb : Int) (A : Option Addr) (n c : Nat) (zs : List Int), e = .returned (.tuple #[.agg #[.int .i64 m.id, .slice m.An m.nn m.cn, .slice m.Am m.nm m.cm, .slice m.As m.ns m.cs], .agg #[.int .i64 t, .int .i64 md, .int .i64 rn, .int .i64 sl, .int .i64 mb], .agg #[.int .i64 k, .int .i64 r, .int .i64 ft, .int .i64 fm, .int .i64 fd, .int .i64 fs, .int .i64 fb, .slice A n c]]) ∧ DV w' w.heap.size m M ∧ OwnI 2 w' w.heap.size A n c zs ∧ n ≤ 8200 ∧ Dr w g w'
set_option maxRecDepth 20000 in
set_option maxHeartbeats 16000000 in
theorem drawSend_any (g : Nat) (w : World) (h : Src w g) :
    Calls Tryz.prog 22 #[.pointer (some ⟨g, 0, none⟩)] w (DrG w g) := by
  have hl := h.lt
  obtain ⟨w0, hw0⟩ : ∃ v, v = ((w.alloc (.cells #[.int .i64 0, .slice none 0 0, .slice none 0 0, .slice none 0 0] 28)).alloc (.cells #[.int .i64 0, .int .i64 0, .int .i64 0, .int .i64 0, .int .i64 0] 30)).alloc (.cells #[.int .i64 0, .int .i64 0, .int .i64 0, .int .i64 0, .int .i64 0, .int .i64 0, .int .i64 0, .slice none 0 0] 33) := ⟨_, rfl⟩
  have r0 : BlkL w0 w.heap.size 28 zM := by rw [hw0]; exact ((BlkL.new w _ _ rfl).alloc _).alloc _
  have s0 : BlkL w0 (w.heap.size + 1) 30 zS := by rw [hw0]; exact (BlkL.new _ _ _ (by simp)).alloc _
  have t0 : BlkL w0 (w.heap.size + 2) 33 zF := by rw [hw0]; exact BlkL.new _ _ _ (by simp)
  have d0 : Dr w g w0 := by rw [hw0]; exact (((Dr.refl h).alloc _).alloc _).alloc _
  have z0 : w0.heap.size = w.heap.size + 3 := by rw [hw0]; simp
  go_enter Tryz.func22, Tryz.ntmps22
  go_wp2_with fail
  rw [← hw0]
  clear hw0
  refine (drawSched_any g _ d0.src).mono ?_
  rintro e w1 ⟨m, M, t, md, rn, sl, mb, rfl, dv, d1⟩
  have z1 := d1.size
  obtain ⟨u1, hu1⟩ : ∃ v, v = (w1.alloc (.cells #[.int .i64 m.id, .slice m.An m.nn m.cn, .slice m.Am m.nm m.cm, .slice m.As m.ns m.cs] 28)).alloc (.cells #[.int .i64 t, .int .i64 md, .int .i64 rn, .int .i64 sl, .int .i64 mb] 30) := ⟨_, rfl⟩
  have L := Lib.hid (show LG w g u1 w1.heap.size (w1.heap.size + 1) m M [.int .i64 t, .int .i64 md, .int .i64 rn, .int .i64 sl, .int .i64 mb] from by rw [hu1]; exact ⟨⟨by rw [← z0]; exact (dv.alloc _).alloc _, (BlkL.new _ _ _ rfl).alloc _, BlkL.new _ _ _ (by simp), ((r0.dr d1 (by omega)).alloc _).alloc _, ((s0.dr d1 (by omega)).alloc _).alloc _, ((d1.next d0).alloc _).alloc _, by omega, by omega, by omega⟩, ((t0.dr d1 (by omega)).alloc _).alloc _⟩)
  clear dv d1 r0 s0 t0 d0 z0 z1
  have c0 := L.out.f.k.c 0 rfl; have c1 := L.out.f.k.c 1 rfl; have c2 := L.out.f.k.c 2 rfl; have c3 := L.out.f.k.c 3 rfl
  have x0 := L.out.f.x.c 0 rfl; have x1 := L.out.f.x.c 1 rfl; have x2 := L.out.f.x.c 2 rfl; have x3 := L.out.f.x.c 3 rfl; have x4 := L.out.f.x.c 4 rfl
  go_upto_region 2 with fail
  rw [← hu1]
  clear hu1
  go_wp2_with fail
  obtain ⟨b, hb⟩ : ∃ b, belTo M t md rn sl mb = b := ⟨_, rfl⟩
  refine (sBelTo_any m M t md rn sl mb _ L.out.f.v.reads L.out.f.v.rx).mono ?_
  rw [hb]
  rintro e w3 ⟨rfl, hb3⟩
  replace L := Lib.hid (L.out.below hb3)
  clear hb3 c0 c1 c2 c3 x0 x1 x2 x3 x4
  cases b
  case false =>
    have c0 := L.out.f.k.c 0 rfl; have c1 := L.out.f.k.c 1 rfl; have c2 := L.out.f.k.c 2 rfl; have c3 := L.out.f.k.c 3 rfl
    have x0 := L.out.f.x.c 0 rfl; have x1 := L.out.f.x.c 1 rfl; have x2 := L.out.f.x.c 2 rfl; have x3 := L.out.f.x.c 3 rfl; have x4 := L.out.f.x.c 4 rfl
    have hk1 := L.out.f.h1
    have hz9 := L.out.t.lt
    have hV : Dr w3 g w3.drew := (Dr.refl L.out.f.d.src).drew
    go_upto_region 3 with fail
    first
    | go_region_law (first
      | (go_simp; (refine (drawFrameAny_any g _ hV.src).mono ?_); rintro e cc ⟨fk, fr, ft, fm, fd, fs, fb, A, n, c, zs, rfl, ho, hn, dx⟩; (have L9 := Lib.hid (L.out.draw (dx.next hV) hl)); (have O9 := Lib.hid (ho.weaken (base' := w.heap.size + 3) (by show _ ≤ w3.heap.size; omega))); (have d0 := L9.out.f.k.c 0 rfl); (have d1 := L9.out.f.k.c 1 rfl); (have d2 := L9.out.f.k.c 2 rfl); (have d3 := L9.out.f.k.c 3 rfl); (have e0 := L9.out.f.x.c 0 rfl); (have e1 := L9.out.f.x.c 1 rfl); (have e2 := L9.out.f.x.c 2 rfl); (have e3 := L9.out.f.x.c 3 rfl); (have e4 := L9.out.f.x.c 4 rfl); (have rc0 := L9.out.f.r.c 0 rfl); (have rc1 := L9.out.f.r.c 1 rfl); (have rc2 := L9.out.f.r.c 2 rfl); (have rc3 := L9.out.f.r.c 3 rfl); (have sc0 := L9.out.f.s.c 0 rfl); (have sc1 := L9.out.f.s.c 1 rfl); (have sc2 := L9.out.f.s.c 2 rfl); (have sc3 := L9.out.f.s.c 3 rfl); (have sc4 := L9.out.f.s.c 4 rfl); (have tc0 := L9.out.t.c 0 rfl); (have tc1 := L9.out.t.c 1 rfl); (have tc2 := L9.out.t.c 2 rfl); (have tc3 := L9.out.t.c 3 rfl); (have tc4 := L9.out.t.c 4 rfl); (have tc5 := L9.out.t.c 5 rfl); (have tc6 := L9.out.t.c 6 rfl); (have tc7 := L9.out.t.c 7 rfl); (have rf := L9.out.f.r.free); (have sf := L9.out.f.s.free); (have tf := L9.out.t.free); clear dx ho))
    | fail
    all_goals
      obtain ⟨v9, hv9⟩ : ∃ v, v = (((((((((((((((((cc.setCell ⟨w.heap.size, 0, none⟩ (.int .i64 m.id)).setCell ⟨w.heap.size, 1, none⟩ (.slice m.An m.nn m.cn)).setCell ⟨w.heap.size, 2, none⟩ (.slice m.Am m.nm m.cm)).setCell ⟨w.heap.size, 3, none⟩ (.slice m.As m.ns m.cs)).setCell ⟨w.heap.size + 1, 0, none⟩ (.int .i64 t)).setCell ⟨w.heap.size + 1, 1, none⟩ (.int .i64 md)).setCell ⟨w.heap.size + 1, 2, none⟩ (.int .i64 rn)).setCell ⟨w.heap.size + 1, 3, none⟩ (.int .i64 sl)).setCell ⟨w.heap.size + 1, 4, none⟩ (.int .i64 mb)).setCell ⟨w.heap.size + 2, 0, none⟩ (.int .i64 fk)).setCell ⟨w.heap.size + 2, 1, none⟩ (.int .i64 fr)).setCell ⟨w.heap.size + 2, 2, none⟩ (.int .i64 ft)).setCell ⟨w.heap.size + 2, 3, none⟩ (.int .i64 fm)).setCell ⟨w.heap.size + 2, 4, none⟩ (.int .i64 fd)).setCell ⟨w.heap.size + 2, 5, none⟩ (.int .i64 fs)).setCell ⟨w.heap.size + 2, 6, none⟩ (.int .i64 fb)).setCell ⟨w.heap.size + 2, 7, none⟩ (.slice A n c)) := ⟨_, rfl⟩
      have le : LT w g v9 m M [.int .i64 m.id, .slice m.An m.nn m.cn, .slice m.Am m.nm m.cm, .slice m.As m.ns m.cs] [.int .i64 t, .int .i64 md, .int .i64 rn, .int .i64 sl, .int .i64 mb] [.int .i64 fk, .int .i64 fr, .int .i64 ft, .int .i64 fm, .int .i64 fd, .int .i64 fs, .int .i64 fb, .slice A n c] A n c zs := by rw [hv9]; exact ((((((((((((((((((LT.of L9.out O9.out).setR hl 0 _).setR hl 1 _).setR hl 2 _).setR hl 3 _).setS hl 0 _).setS hl 1 _).setS hl 2 _).setS hl 3 _).setS hl 4 _).setT hl 0 _).setT hl 1 _).setT hl 2 _).setT hl 3 _).setT hl 4 _).setT hl 5 _).setT hl 6 _).setT hl 7 _)
      rw [← hv9]
      clear hv9 c0 c1 c2 c3 x0 x1 x2 x3 x4 rc0 rc1 rc2 rc3 sc0 sc1 sc2 sc3 sc4 tc0 tc1 tc2 tc3 tc4 tc5 tc6 tc7 rf sf tf
      go_wp2_with fail
      have q0 := le.e.r.c 0 rfl; have q1 := le.e.r.c 1 rfl; have q2 := le.e.r.c 2 rfl; have q3 := le.e.r.c 3 rfl
      have y0 := le.e.s.c 0 rfl; have y1 := le.e.s.c 1 rfl; have y2 := le.e.s.c 2 rfl; have y3 := le.e.s.c 3 rfl; have y4 := le.e.s.c 4 rfl
      have f0 := le.t.c 0 rfl; have f1 := le.t.c 1 rfl; have f2 := le.t.c 2 rfl; have f3 := le.t.c 3 rfl; have f4 := le.t.c 4 rfl; have f5 := le.t.c 5 rfl; have f6 := le.t.c 6 rfl; have f7 := le.t.c 7 rfl
      exact bodyPost_ret (v := .tuple #[.agg #[.int .i64 m.id, .slice m.An m.nn m.cn, .slice m.Am m.nm m.cm, .slice m.As m.ns m.cs], .agg #[.int .i64 t, .int .i64 md, .int .i64 rn, .int .i64 sl, .int .i64 mb], .agg #[.int .i64 fk, .int .i64 fr, .int .i64 ft, .int .i64 fm, .int .i64 fd, .int .i64 fs, .int .i64 fb, .slice A n c]]) (by simp [results, Tryz.results22, go_sem, q0, q1, q2, q3, y0, y1, y2, y3, y4, f0, f1, f2, f3, f4, f5, f6, f7]) rfl ⟨m, M, _, _, _, _, _, _, _, _, _, _, _, _, A, n, c, _, rfl, le.e.v.weaken (Nat.le_add_right _ _), le.o.weaken (Nat.le_add_right _ _), by omega, le.e.d⟩
  case true =>
    go_wp2_with fail
    refine (next_any g 16 _ L.out.f.d.src).mono ?_
    rintro e w4 ⟨z, rfl, hz, dd⟩
    replace L := Lib.hid (L.out.draw dd hl)
    clear dd
    by_cases hz0 : z = 0
    case pos =>
      subst hz0
      have c0 := L.out.f.k.c 0 rfl; have c1 := L.out.f.k.c 1 rfl; have c2 := L.out.f.k.c 2 rfl; have c3 := L.out.f.k.c 3 rfl
      have x0 := L.out.f.x.c 0 rfl; have x1 := L.out.f.x.c 1 rfl; have x2 := L.out.f.x.c 2 rfl; have x3 := L.out.f.x.c 3 rfl; have x4 := L.out.f.x.c 4 rfl
      have hk1 := L.out.f.h1
      have hz9 := L.out.t.lt
      have hV : Dr w4 g w4.drew := (Dr.refl L.out.f.d.src).drew
      go_upto_region 3 with fail
      first
      | go_region_law (first
        | (go_simp; (refine (drawFrameAny_any g _ hV.src).mono ?_); rintro e cc ⟨fk, fr, ft, fm, fd, fs, fb, A, n, c, zs, rfl, ho, hn, dx⟩; (have L9 := Lib.hid (L.out.draw (dx.next hV) hl)); (have O9 := Lib.hid (ho.weaken (base' := w.heap.size + 3) (by show _ ≤ w4.heap.size; omega))); (have d0 := L9.out.f.k.c 0 rfl); (have d1 := L9.out.f.k.c 1 rfl); (have d2 := L9.out.f.k.c 2 rfl); (have d3 := L9.out.f.k.c 3 rfl); (have e0 := L9.out.f.x.c 0 rfl); (have e1 := L9.out.f.x.c 1 rfl); (have e2 := L9.out.f.x.c 2 rfl); (have e3 := L9.out.f.x.c 3 rfl); (have e4 := L9.out.f.x.c 4 rfl); (have rc0 := L9.out.f.r.c 0 rfl); (have rc1 := L9.out.f.r.c 1 rfl); (have rc2 := L9.out.f.r.c 2 rfl); (have rc3 := L9.out.f.r.c 3 rfl); (have sc0 := L9.out.f.s.c 0 rfl); (have sc1 := L9.out.f.s.c 1 rfl); (have sc2 := L9.out.f.s.c 2 rfl); (have sc3 := L9.out.f.s.c 3 rfl); (have sc4 := L9.out.f.s.c 4 rfl); (have tc0 := L9.out.t.c 0 rfl); (have tc1 := L9.out.t.c 1 rfl); (have tc2 := L9.out.t.c 2 rfl); (have tc3 := L9.out.t.c 3 rfl); (have tc4 := L9.out.t.c 4 rfl); (have tc5 := L9.out.t.c 5 rfl); (have tc6 := L9.out.t.c 6 rfl); (have tc7 := L9.out.t.c 7 rfl); (have rf := L9.out.f.r.free); (have sf := L9.out.f.s.free); (have tf := L9.out.t.free); clear dx ho))
      | fail
      all_goals
        obtain ⟨v9, hv9⟩ : ∃ v, v = (((((((((((((((((cc.setCell ⟨w.heap.size, 0, none⟩ (.int .i64 m.id)).setCell ⟨w.heap.size, 1, none⟩ (.slice m.An m.nn m.cn)).setCell ⟨w.heap.size, 2, none⟩ (.slice m.Am m.nm m.cm)).setCell ⟨w.heap.size, 3, none⟩ (.slice m.As m.ns m.cs)).setCell ⟨w.heap.size + 1, 0, none⟩ (.int .i64 t)).setCell ⟨w.heap.size + 1, 1, none⟩ (.int .i64 md)).setCell ⟨w.heap.size + 1, 2, none⟩ (.int .i64 rn)).setCell ⟨w.heap.size + 1, 3, none⟩ (.int .i64 sl)).setCell ⟨w.heap.size + 1, 4, none⟩ (.int .i64 mb)).setCell ⟨w.heap.size + 2, 0, none⟩ (.int .i64 fk)).setCell ⟨w.heap.size + 2, 1, none⟩ (.int .i64 fr)).setCell ⟨w.heap.size + 2, 2, none⟩ (.int .i64 ft)).setCell ⟨w.heap.size + 2, 3, none⟩ (.int .i64 fm)).setCell ⟨w.heap.size + 2, 4, none⟩ (.int .i64 fd)).setCell ⟨w.heap.size + 2, 5, none⟩ (.int .i64 fs)).setCell ⟨w.heap.size + 2, 6, none⟩ (.int .i64 fb)).setCell ⟨w.heap.size + 2, 7, none⟩ (.slice A n c)) := ⟨_, rfl⟩
        have le : LT w g v9 m M [.int .i64 m.id, .slice m.An m.nn m.cn, .slice m.Am m.nm m.cm, .slice m.As m.ns m.cs] [.int .i64 t, .int .i64 md, .int .i64 rn, .int .i64 sl, .int .i64 mb] [.int .i64 fk, .int .i64 fr, .int .i64 ft, .int .i64 fm, .int .i64 fd, .int .i64 fs, .int .i64 fb, .slice A n c] A n c zs := by rw [hv9]; exact ((((((((((((((((((LT.of L9.out O9.out).setR hl 0 _).setR hl 1 _).setR hl 2 _).setR hl 3 _).setS hl 0 _).setS hl 1 _).setS hl 2 _).setS hl 3 _).setS hl 4 _).setT hl 0 _).setT hl 1 _).setT hl 2 _).setT hl 3 _).setT hl 4 _).setT hl 5 _).setT hl 6 _).setT hl 7 _)
        rw [← hv9]
        clear hv9 c0 c1 c2 c3 x0 x1 x2 x3 x4 rc0 rc1 rc2 rc3 sc0 sc1 sc2 sc3 sc4 tc0 tc1 tc2 tc3 tc4 tc5 tc6 tc7 rf sf tf
        go_wp2_with fail
        have q0 := le.e.r.c 0 rfl; have q1 := le.e.r.c 1 rfl; have q2 := le.e.r.c 2 rfl; have q3 := le.e.r.c 3 rfl
        have y0 := le.e.s.c 0 rfl; have y1 := le.e.s.c 1 rfl; have y2 := le.e.s.c 2 rfl; have y3 := le.e.s.c 3 rfl; have y4 := le.e.s.c 4 rfl
        have f0 := le.t.c 0 rfl; have f1 := le.t.c 1 rfl; have f2 := le.t.c 2 rfl; have f3 := le.t.c 3 rfl; have f4 := le.t.c 4 rfl; have f5 := le.t.c 5 rfl; have f6 := le.t.c 6 rfl; have f7 := le.t.c 7 rfl
        exact bodyPost_ret (v := .tuple #[.agg #[.int .i64 m.id, .slice m.An m.nn m.cn, .slice m.Am m.nm m.cm, .slice m.As m.ns m.cs], .agg #[.int .i64 t, .int .i64 md, .int .i64 rn, .int .i64 sl, .int .i64 mb], .agg #[.int .i64 fk, .int .i64 fr, .int .i64 ft, .int .i64 fm, .int .i64 fd, .int .i64 fs, .int .i64 fb, .slice A n c]]) (by simp [results, Tryz.results22, go_sem, q0, q1, q2, q3, y0, y1, y2, y3, y4, f0, f1, f2, f3, f4, f5, f6, f7]) rfl ⟨m, M, _, _, _, _, _, _, _, _, _, _, _, _, A, n, c, _, rfl, le.e.v.weaken (Nat.le_add_right _ _), le.o.weaken (Nat.le_add_right _ _), by omega, le.e.d⟩
    case neg =>
      have hzb : ((z : Int) == 0) = false := by simp; omega
      clear hz
      have hbb : isMedl M = true ∧ bel M t md rn sl mb = true := by unfold belTo at hb; simpa using hb
      obtain ⟨hM, hbe⟩ := hbb
      have hfl := bel_find hM hbe
      obtain ⟨f, hfe⟩ : ∃ f, findI M.ss md rn sl = f := ⟨_, rfl⟩
      have hfi := find_idx hfl
      rw [hfe] at hfl hfi
      have hst := (isMedl_nt hM).2.2.1
      have hbd := isSl_bd (isST_sl hst hfl)
      have HNT := Lib.hid (isMedl_nt hM).1
      have c0 := L.out.f.k.c 0 rfl; have c1 := L.out.f.k.c 1 rfl; have c2 := L.out.f.k.c 2 rfl; have c3 := L.out.f.k.c 3 rfl
      have x0 := L.out.f.x.c 0 rfl; have x1 := L.out.f.x.c 1 rfl; have x2 := L.out.f.x.c 2 rfl; have x3 := L.out.f.x.c 3 rfl; have x4 := L.out.f.x.c 4 rfl
      have hlm : f < m.ns := (by have h9 := L.out.f.v.reads.rs.len; omega)
      have HDE := Lib.hid (fun (u : World) (hu : RD u u.heap.size m M) => sDesc_any m M t md rn sl mb f u hu hfi hlm)
      have HLF := Lib.hid (fun (u : World) (mb2 fl rq : Int) (hu : RD u u.heap.size m M) (n : Nat) (hn : (n : Int) = (ge M.ss f).sz) (hn2 : n ≤ 1048576) => l27F_any m M t md rn sl mb2 fl rq f u hu hfi hlm n hn hn2 _ rfl)
      obtain ⟨S, hS⟩ : ∃ x, ge M.ss f = x := ⟨_, rfl⟩
      have hde := HDE.out
      have hlf := HLF.out
      rw [hS] at hbd hde hlf
      replace HDE := Lib.hid hde
      replace HLF := Lib.hid hlf
      clear hde hlf hS hfi hfl hst hfe hb hbe
      obtain ⟨n, hn⟩ : ∃ n : Nat, (n : Int) = S.sz := ⟨S.sz.toNat, by omega⟩
      have hn32 : n ≤ 32 := by omega
      have HN := Lib.hid hn
      clear hn
      go_upto_region 4 with fail
      go_cut [36] (fun v wc => ∃ B : Bool, v = .bool B ∧ LG w g wc w1.heap.size (w1.heap.size + 1) m M [.int .i64 t, .int .i64 md, .int .i64 rn, .int .i64 sl, .int .i64 mb])
      case first =>
        obtain ⟨KD, hKD⟩ : ∃ x, S.kd = x := ⟨_, rfl⟩
        have hde := HDE.out
        rw [hKD] at hde
        have HD2 := Lib.hid hde
        clear hde hKD
        have hfd := ds_f1
        go_wp2_with fail
        refine (HD2.out _ L.out.f.v.reads).mono ?_
        rintro e w5 ⟨rfl, hb5⟩
        replace L := Lib.hid (L.out.below hb5)
        clear hb5 c0 c1 c2 c3 x0 x1 x2 x3 x4
        by_cases hk3 : KD = 3
        case pos =>
          subst hk3
          go_wp2_with fail
          refine (next_any g 6 _ L.out.f.d.src).mono ?_
          rintro e w6 ⟨y, rfl, hy, dd⟩
          replace L := Lib.hid (L.out.draw dd hl)
          clear dd hy
          go_wp2_with fail
          go_meet
          exact ⟨_, rfl, L.out⟩
        case neg =>
          have hk3b : (KD == 3) = false := by simpa using hk3
          go_wp2_with fail
          go_meet
          exact ⟨_, rfl, L.out⟩
      case rest =>
        obtain ⟨B, rfl, lf⟩ := hcut
        obtain ⟨v1, hv9⟩ : ∃ v, v = wc := ⟨_, rfl⟩
        subst hv9
        replace L := Lib.hid lf
        clear lf c0 c1 c2 c3 x0 x1 x2 x3 x4
        go_upto_if 36 with fail
        go_cut [6] (fun v wc => v = .pointer (some ⟨w1.heap.size + 1, 0, none⟩) ∧ ∃ s : Int, LG w g wc w1.heap.size (w1.heap.size + 1) m M [.int .i64 t, .int .i64 md, .int .i64 rn, .int .i64 sl, .int .i64 s])
        case first =>
          cases B
          case false =>
            go_wp2_with fail
            go_meet
            exact ⟨rfl, _, L.out⟩
          case true =>
            have hnl := isNT_len HNT.out
            have hns := L.out.f.v.on.len
            have hnd := isNT_nd HNT.out (i := 0) (by omega)
            unfold isNd at hnd
            simp only [Bool.and_eq_true] at hnd
            have hid := inR_iff.1 hnd.1
            obtain ⟨bn, hAn, hbn1, hbn2⟩ := L.out.f.v.on.form (by omega)
            have on := L.out.f.v.on
            rw [hAn] at on
            have o0 := on.cell encNd_len (i := 0) (j := 0) (by omega) (by omega)
            have o3 := on.cell encNd_len (i := 0) (j := 3) (by omega) (by omega)
            simp only [encNd, Nat.zero_mul, Nat.zero_add, List.getElem?_cons_zero, List.getElem?_cons_succ] at o0 o3
            obtain ⟨i0, hi0⟩ : ∃ i : Nat, (ge M.ns 0).id = (i : Int) := ⟨(ge M.ns 0).id.toNat, by omega⟩
            rw [hi0] at o0
            have hi32 : (i0 : Int) < 32 := by omega
            have hnn : (0 : Int) < (m.nn : Int) := by omega
            obtain ⟨ps, hps⟩ : ∃ b, (ge M.ns 0).ps = b := ⟨_, rfl⟩
            rw [hps] at o3
            have c1 := L.out.f.k.c 1 rfl
            have x4 := L.out.f.x.c 4 rfl
            have xf := L.out.f.x.free
            have hbx : ¬ bn = w1.heap.size + 1 := fun e => on.ne_blk L.out.f.x (by decide) (by rw [e]; rfl)
            have hbx2 : ¬ w1.heap.size + 1 = bn := fun e => hbx e.symm
            clear hnl hns hnd hid on hi0 hps hbn1 hbn2
            cases ps
            all_goals
              go_wp2_with fail
              go_meet
              first
              | exact ⟨rfl, _, L.out.put hl 4 (.int .i64 (wrap64 (2 ^ i0)))⟩
              | exact ⟨rfl, _, (L.out.put hl 4 (.int .i64 (wrap64 (2 ^ i0)))).put hl 4 (.int .i64 0)⟩
        case rest =>
          obtain ⟨rfl, s, lf⟩ := hcut
          obtain ⟨v2, hv9⟩ : ∃ v, v = wc := ⟨_, rfl⟩
          subst hv9
          replace L := Lib.hid lf
          clear lf
          have hl2 : g < v2.heap.size := L.out.f.d.lt
          go_upto_region 8 with fail
          have hV : Dr v2 g v2.drew := (Dr.refl L.out.f.d.src).drew
          go_cut [7] (fun v wc => ∃ bf : Nat, v = .pointer (some ⟨bf, 0, none⟩) ∧ LDx v2 g wc bf)
          case first =>
            refine wp_region_loose (fun u => Dr v2 g u) (gL (S8 v2 g (.agg #[.int .i64 m.id, .slice m.An m.nn m.cn, .slice m.Am m.nm m.cm, .slice m.As m.ns m.cs]) (.agg #[.int .i64 t, .int .i64 md, .int .i64 rn, .int .i64 sl, .int .i64 s]))) (by kernel_rfl) (by kernel_rfl) (by kernel_rfl) hV (stepsF_cons (k' := 1) rfl ?_ (stepsF_cons (k' := 2) rfl ?_ (stepsF_cons (k' := 3) rfl ?_ (stepsF_cons (k' := 4) rfl ?_ (stepsF_cons (k' := 5) rfl ?_ (stepsF_cons (k' := 6) rfl ?_ (stepsF_cons (k' := 7) rfl ?_ (stepsF_cons (k' := 8) rfl ?_ (stepsF_cons (k' := 9) rfl ?_ (stepsF_cons (k' := 10) rfl ?_ (stepsF_cons (k' := 11) rfl ?_ (stepsF_cons (k' := 12) rfl ?_ (stepsF_cons (k' := 13) rfl ?_ (stepsF_nil)))))))))))))) ?_
            · intro x u hC hd K hK
              have c0 := (L.out.draw hC hl).f.k.c 0 rfl
              have c1 := (L.out.draw hC hl).f.k.c 1 rfl
              have c2 := (L.out.draw hC hl).f.k.c 2 rfl
              have c3 := (L.out.draw hC hl).f.k.c 3 rfl
              refine ⟨?_⟩
              simp only [frX, Act.put, List.setIfInBounds_toArray, List.set_cons_zero, List.set_cons_succ] at hK ⊢
              have HK := Lib.hid hK
              clear hK hd
              go_simp
              refine HK.out _ _ ?_ ?_ ?_
              · exact hC
              · exact rfl
              · exact fun _ _ h => h
            · intro x u hC hd K hK
              have x0 := (L.out.draw hC hl).f.x.c 0 rfl
              have x1 := (L.out.draw hC hl).f.x.c 1 rfl
              have x2 := (L.out.draw hC hl).f.x.c 2 rfl
              have x3 := (L.out.draw hC hl).f.x.c 3 rfl
              have x4 := (L.out.draw hC hl).f.x.c 4 rfl
              refine ⟨?_⟩
              simp only [frX, Act.put, List.setIfInBounds_toArray, List.set_cons_zero, List.set_cons_succ] at hK ⊢
              have HK := Lib.hid hK
              clear hK hd
              go_simp
              refine HK.out _ _ ?_ ?_ ?_
              · exact hC
              · exact rfl
              · exact fun _ _ h => h
            · intro x u hC hd K hK
              refine ⟨?_⟩
              simp only [frX, Act.put, List.setIfInBounds_toArray, List.set_cons_zero, List.set_cons_succ] at hK ⊢
              have HK := Lib.hid hK
              clear hK hd
              go_simp
              refine HK.out _ _ ?_ ?_ ?_
              · exact hC
              · exact rfl
              · exact fun _ _ h => h
            · intro x u hC hd K hK
              have e2 : x 2 = .pointer (some ⟨g, 0, none⟩) := hd 2 (by kernel_rfl)
              refine ⟨?_⟩
              simp only [frX, Act.put, List.setIfInBounds_toArray, List.set_cons_zero, List.set_cons_succ] at hK ⊢
              simp only [e2] at hK ⊢
              have HK := Lib.hid hK
              clear hK hd
              go_wp2_with (go_at_call 33; refine (next_any g _ _ hC.src).mono ?_; rintro e cc ⟨z, rfl, hz, dx⟩)
              refine HK.out _ _ ?_ ?_ ?_
              · exact dx.next hC
              · exact ⟨z, rfl⟩
              · exact S8.up dx hl2
            · intro x u hC hd K hK
              refine ⟨?_⟩
              simp only [frX, Act.put, List.setIfInBounds_toArray, List.set_cons_zero, List.set_cons_succ] at hK ⊢
              have HK := Lib.hid hK
              clear hK hd
              go_simp
              refine HK.out _ _ ?_ ?_ ?_
              · exact hC
              · exact rfl
              · exact fun _ _ h => h
            · intro x u hC hd K hK
              have e4 : x 4 = .pointer (some ⟨g, 0, none⟩) := hd 4 (by kernel_rfl)
              refine ⟨?_⟩
              simp only [frX, Act.put, List.setIfInBounds_toArray, List.set_cons_zero, List.set_cons_succ] at hK ⊢
              simp only [e4] at hK ⊢
              have HK := Lib.hid hK
              clear hK hd
              go_wp2_with (go_at_call 33; refine (next_any g _ _ hC.src).mono ?_; rintro e cc ⟨z, rfl, hz, dx⟩)
              refine HK.out _ _ ?_ ?_ ?_
              · exact dx.next hC
              · exact ⟨z, rfl⟩
              · exact S8.up dx hl2
            · intro x u hC hd K hK
              refine ⟨?_⟩
              simp only [frX, Act.put, List.setIfInBounds_toArray, List.set_cons_zero, List.set_cons_succ] at hK ⊢
              have HK := Lib.hid hK
              clear hK hd
              go_simp
              refine HK.out _ _ ?_ ?_ ?_
              · exact hC
              · exact rfl
              · exact fun _ _ h => h
            · intro x u hC hd K hK
              have e6 : x 6 = .pointer (some ⟨g, 0, none⟩) := hd 6 (by kernel_rfl)
              refine ⟨?_⟩
              simp only [frX, Act.put, List.setIfInBounds_toArray, List.set_cons_zero, List.set_cons_succ] at hK ⊢
              simp only [e6] at hK ⊢
              have HK := Lib.hid hK
              clear hK hd
              go_wp2_with (go_at_call 33; refine (next_any g _ _ hC.src).mono ?_; rintro e cc ⟨z, rfl, hz, dx⟩)
              refine HK.out _ _ ?_ ?_ ?_
              · exact dx.next hC
              · exact ⟨z, rfl⟩
              · exact S8.up dx hl2
            · intro x u hC hd K hK
              have hh7 : ∃ z : Nat, x 7 = .int .i64 z := hd 7 (by kernel_rfl)
              obtain ⟨z7, e7⟩ := hh7
              refine ⟨?_⟩
              simp only [frX, Act.put, List.setIfInBounds_toArray, List.set_cons_zero, List.set_cons_succ] at hK ⊢
              simp only [e7] at hK ⊢
              have HK := Lib.hid hK
              clear hK hd
              go_simp
              refine HK.out _ _ ?_ ?_ ?_
              · exact hC
              · exact ⟨_, rfl⟩
              · exact fun _ _ h => h
            · intro x u hC hd K hK
              have hh5 : ∃ z : Nat, x 5 = .int .i64 z := hd 5 (by kernel_rfl)
              obtain ⟨z5, e5⟩ := hh5
              have hh8 : ∃ z : Int, x 8 = .int .i64 z := hd 8 (by kernel_rfl)
              obtain ⟨z8, e8⟩ := hh8
              refine ⟨?_⟩
              simp only [frX, Act.put, List.setIfInBounds_toArray, List.set_cons_zero, List.set_cons_succ] at hK ⊢
              simp only [e5, e8] at hK ⊢
              have HK := Lib.hid hK
              clear hK hd
              go_simp
              refine HK.out _ _ ?_ ?_ ?_
              · exact hC
              · exact ⟨_, rfl⟩
              · exact fun _ _ h => h
            · intro x u hC hd K hK
              have e0 : x 0 = (.agg #[.int .i64 m.id, .slice m.An m.nn m.cn, .slice m.Am m.nm m.cm, .slice m.As m.ns m.cs]) := hd 0 (by kernel_rfl)
              have e1 : x 1 = (.agg #[.int .i64 t, .int .i64 md, .int .i64 rn, .int .i64 sl, .int .i64 s]) := hd 1 (by kernel_rfl)
              have hh3 : ∃ z : Nat, x 3 = .int .i64 z := hd 3 (by kernel_rfl)
              obtain ⟨z3, e3⟩ := hh3
              have hh9 : ∃ z : Int, x 9 = .int .i64 z := hd 9 (by kernel_rfl)
              obtain ⟨z9, e9⟩ := hh9
              refine ⟨?_⟩
              simp only [frX, Act.put, List.setIfInBounds_toArray, List.set_cons_zero, List.set_cons_succ] at hK ⊢
              simp only [e0, e1, e3, e9] at hK ⊢
              have HK := Lib.hid hK
              clear hK hd
              go_wp2_with (go_at_call 40; refine (HLF.out u s _ _ (L.out.draw hC hl).f.v.reads n HN.out (by omega)).mono ?_; rintro e cc ⟨A, c, rfl, ho, hb⟩)
              refine HK.out _ _ ?_ ?_ ?_
              · exact Dr.below hb hC
              · exact ⟨_, _, _, _, _, _, _, A, n, c, _, rfl, ho.weaken hC.size, by omega⟩
              · exact S8.up (Dr.of_below hC.src hb) hl2
            · intro x u hC hd K hK
              refine ⟨?_⟩
              simp only [frX, Act.put, List.setIfInBounds_toArray, List.set_cons_zero, List.set_cons_succ] at hK ⊢
              have HK := Lib.hid hK
              clear hK hd
              go_simp
              refine HK.out _ _ ?_ ?_ ?_
              · exact hC.alloc _
              · exact ⟨_, rfl, LDx.new hC⟩
              · exact S8.up ((Dr.refl hC.src).alloc _) hl2
            · intro x u hC hd K hK
              have hh11 : ∃ b : Nat, x 11 = .pointer (some ⟨b, 0, none⟩) ∧ LDx v2 g u b := hd 11 (by kernel_rfl)
              obtain ⟨b, e11, ldx⟩ := hh11
              have hh10 : FRx v2 u (x 10) := hd 10 (by kernel_rfl)
              obtain ⟨k, r, ft, fm, fd, fs, fb, A, n3, c, zs, e10, ho, hn3⟩ := hh10
              have ldx0 := ldx
              obtain ⟨k2, r2, ft2, fm2, fd2, fs2, fb2, A2, n2, c2, zs2, ld, hn2⟩ := ldx0
              have b0 := ld.b.c 0 rfl
              have b1 := ld.b.c 1 rfl
              have b2 := ld.b.c 2 rfl
              have b3 := ld.b.c 3 rfl
              have b4 := ld.b.c 4 rfl
              have b5 := ld.b.c 5 rfl
              have b6 := ld.b.c 6 rfl
              have b7 := ld.b.c 7 rfl
              have bf := ld.b.free
              refine ⟨?_⟩
              simp only [frX, Act.put, List.setIfInBounds_toArray, List.set_cons_zero, List.set_cons_succ] at hK ⊢
              simp only [e11, e10] at hK ⊢
              have HK := Lib.hid hK
              clear hK hd
              go_simp
              rw [← setL8]
              refine HK.out undef _ ?_ ?_ ?_
              · exact Dr.setL hC ld.h hl2 0 [.int .i64 k, .int .i64 r, .int .i64 ft, .int .i64 fm, .int .i64 fd, .int .i64 fs, .int .i64 fb, .slice A n3 c]
              · exact trivial
              · exact S8.store ldx ho hn3 hl2
            · intro x u hC hf
              have hh : ∃ b : Nat, x 11 = .pointer (some ⟨b, 0, none⟩) ∧ LDx v2 g u b := hf 11 (by decide)
              obtain ⟨b, e11, ldx⟩ := hh
              refine ⟨?_⟩
              simp only [frX, Act.put, List.setIfInBounds_toArray, List.set_cons_zero, List.set_cons_succ]
              simp only [e11]
              go_wp2_with fail
              go_meet
              exact ⟨_, rfl, ldx⟩
          case rest =>
            obtain ⟨bf, rfl, k, r, ft, fm, fd, fs, fb, A, n, c, zs, ld, hn82⟩ := hcut
            obtain ⟨v3, hv9⟩ : ∃ v, v = wc := ⟨_, rfl⟩
            subst hv9
            have LD0 := Lib.hid ld
            clear ld hV HLF HDE HN HNT
            go_wp2_with fail
            go_loopw [8] (fun v wr => ∃ (i : Nat) (zs : List Int), i ≤ n ∧ v = .int .i64 i ∧ LD v2 g wr bf [.int .i64 k, .int .i64 r, .int .i64 ft, .int .i64 fm, .int .i64 fd, .int .i64 fs, .int .i64 fb, .slice A n c] A n c zs) (fun v _ => n - (intOf v).toNat)
            case atStart => exact ⟨0, zs, by omega, rfl, LD0.out⟩
            case round =>
              clear LD0 zs
              obtain ⟨i, zs, hi, rfl, ld⟩ := hrel
              obtain ⟨vr, hvr⟩ : ∃ v, v = wr := ⟨_, rfl⟩
              subst hvr
              have LD1 := Lib.hid ld
              have b7 := ld.b.c 7 rfl
              clear ld
              by_cases hin : i < n
              · have hii : (i : Int) < (n : Int) := by omega
                obtain ⟨b0, rfl, hb01, hb02⟩ := LD1.out.o.form (by omega)
                clear hb01 hb02
                have hV9 : ∃ xs : List Int, LD v2 g vr.drew bf [.int .i64 k, .int .i64 r, .int .i64 ft, .int .i64 fm, .int .i64 fd, .int .i64 fs, .int .i64 fb, .slice (some ⟨b0, 0, none⟩) n c] (some ⟨b0, 0, none⟩) n c xs := ⟨zs, LD1.out.draw ((Dr.refl LD1.out.d.src).drew) hl2⟩
                go_upto_region 12 with fail
                clear b7
                refine wp_region_loose (fun u => ∃ xs : List Int, LD v2 g u bf [.int .i64 k, .int .i64 r, .int .i64 ft, .int .i64 fm, .int .i64 fd, .int .i64 fs, .int .i64 fb, .slice (some ⟨b0, 0, none⟩) n c] (some ⟨b0, 0, none⟩) n c xs) (gL [fun y _ => y = .pointer (some ⟨bf, 7, none⟩), fun y _ => y = .slice (some ⟨b0, 0, none⟩) n c, fun y _ => y = .int .i64 i, fun y _ => y = .pointer (some ⟨g, 0, none⟩), fun y _ => ∃ z : Nat, y = .int .i64 z, fun y _ => y = .pointer (some ⟨b0, i, none⟩), fun _ _ => True]) (by kernel_rfl) (by kernel_rfl) (by kernel_rfl) hV9 (stepsF_cons (k' := 1) rfl ?_ (stepsF_cons (k' := 2) rfl ?_ (stepsF_cons (k' := 3) rfl ?_ (stepsF_cons (k' := 4) rfl ?_ (stepsF_cons (k' := 5) rfl ?_ (stepsF_cons (k' := 6) rfl ?_ (stepsF_cons (k' := 7) rfl ?_ (stepsF_nil)))))))) ?_
                · intro x u hC hd K hK
                  refine ⟨?_⟩
                  simp only [frX, Act.put, List.setIfInBounds_toArray, List.set_cons_zero, List.set_cons_succ] at hK ⊢
                  have HK := Lib.hid hK
                  clear hK hd
                  go_simp
                  refine HK.out _ _ ?_ ?_ ?_
                  · exact hC
                  · exact rfl
                  · exact fun _ _ h => h
                · intro x u hC hd K hK
                  have e0 : x 0 = .pointer (some ⟨bf, 7, none⟩) := hd 0 (by kernel_rfl)
                  have hC2 := hC
                  obtain ⟨xs, ld⟩ := hC2
                  have b7 := ld.b.c 7 rfl
                  refine ⟨?_⟩
                  simp only [frX, Act.put, List.setIfInBounds_toArray, List.set_cons_zero, List.set_cons_succ] at hK ⊢
                  simp only [e0] at hK ⊢
                  have HK := Lib.hid hK
                  clear hK hd
                  go_simp
                  refine HK.out _ _ ?_ ?_ ?_
                  · exact hC
                  · exact rfl
                  · exact fun _ _ h => h
                · intro x u hC hd K hK
                  refine ⟨?_⟩
                  simp only [frX, Act.put, List.setIfInBounds_toArray, List.set_cons_zero, List.set_cons_succ] at hK ⊢
                  have HK := Lib.hid hK
                  clear hK hd
                  go_simp
                  refine HK.out _ _ ?_ ?_ ?_
                  · exact hC
                  · exact rfl
                  · exact fun _ _ h => h
                · intro x u hC hd K hK
                  refine ⟨?_⟩
                  simp only [frX, Act.put, List.setIfInBounds_toArray, List.set_cons_zero, List.set_cons_succ] at hK ⊢
                  have HK := Lib.hid hK
                  clear hK hd
                  go_simp
                  refine HK.out _ _ ?_ ?_ ?_
                  · exact hC
                  · exact rfl
                  · exact fun _ _ h => h
                · intro x u hC hd K hK
                  have e3 : x 3 = .pointer (some ⟨g, 0, none⟩) := hd 3 (by kernel_rfl)
                  have hC2 := hC
                  obtain ⟨xs, ld⟩ := hC2
                  refine ⟨?_⟩
                  simp only [frX, Act.put, List.setIfInBounds_toArray, List.set_cons_zero, List.set_cons_succ] at hK ⊢
                  simp only [e3] at hK ⊢
                  have HK := Lib.hid hK
                  clear hK hd
                  go_wp2_with (go_at_call 33; refine (next_any g _ _ ld.d.src).mono ?_; rintro e cc ⟨z, rfl, hz, dx⟩)
                  refine HK.out _ _ ?_ ?_ ?_
                  · exact ⟨xs, ld.draw dx hl2⟩
                  · exact ⟨z, rfl⟩
                  · exact gL_up (up_cons (fun _ h => h) (up_cons (fun _ h => h) (up_cons (fun _ h => h) (up_cons (fun _ h => h) (up_cons (fun _ h => h) (up_cons (fun _ h => h) (up_cons (fun _ h => h) (up_nil))))))))
                · intro x u hC hd K hK
                  have e1 : x 1 = .slice (some ⟨b0, 0, none⟩) n c := hd 1 (by kernel_rfl)
                  have e2 : x 2 = .int .i64 i := hd 2 (by kernel_rfl)
                  refine ⟨?_⟩
                  simp only [frX, Act.put, List.setIfInBounds_toArray, List.set_cons_zero, List.set_cons_succ] at hK ⊢
                  simp only [e1, e2] at hK ⊢
                  have HK := Lib.hid hK
                  clear hK hd
                  go_simp
                  refine HK.out _ _ ?_ ?_ ?_
                  · exact hC
                  · exact rfl
                  · exact fun _ _ h => h
                · intro x u hC hd K hK
                  have hh4 : ∃ z : Nat, x 4 = .int .i64 z := hd 4 (by kernel_rfl)
                  obtain ⟨z, e4⟩ := hh4
                  have e5 : x 5 = .pointer (some ⟨b0, i, none⟩) := hd 5 (by kernel_rfl)
                  have hC2 := hC
                  obtain ⟨xs, ld⟩ := hC2
                  have k1 := ld.o.cell hin
                  have k2 := ld.o.frozen
                  refine ⟨?_⟩
                  simp only [frX, Act.put, List.setIfInBounds_toArray, List.set_cons_zero, List.set_cons_succ] at hK ⊢
                  simp only [e4, e5] at hK ⊢
                  have HK := Lib.hid hK
                  clear hK hd
                  go_simp
                  refine HK.out undef _ ?_ ?_ ?_
                  · exact ⟨_, ld.row hl2 i _⟩
                  · exact trivial
                  · exact gL_up (up_cons (fun _ h => h) (up_cons (fun _ h => h) (up_cons (fun _ h => h) (up_cons (fun _ h => h) (up_cons (fun _ h => h) (up_cons (fun _ h => h) (up_cons (fun _ h => h) (up_nil))))))))
                · intro x u hC hf
                  obtain ⟨xs, ld⟩ := hC
                  refine ⟨?_⟩
                  simp only [frX, Act.put, List.setIfInBounds_toArray, List.set_cons_zero, List.set_cons_succ]
                  go_wp2_with fail
                  go_roundw
                  case rel => exact ⟨i + 1, _, by omega, by go_num, ld⟩
                  case measure => simp [intOf]; omega
              · obtain rfl : n = i := by omega
                go_wp2_with fail
                refine (next_any g 24 _ LD1.out.d.src).mono ?_
                rintro e v4 ⟨y, rfl, hy, dd⟩
                replace LD1 := Lib.hid (LD1.out.draw dd hl2)
                clear dd hy b7
                go_upto_if 77 with fail
                go_cut [7] (fun v wc => v = .pointer (some ⟨bf, 0, none⟩) ∧ ∃ (ft fm fd fs fb : Int), LD v2 g wc bf [.int .i64 k, .int .i64 r, .int .i64 ft, .int .i64 fm, .int .i64 fd, .int .i64 fs, .int .i64 fb, .slice A n c] A n c zs)
                case first =>
                  by_cases hy0 : y = 0
                  case pos =>
                    subst hy0
                    go_wp2_with fail
                    refine (drawState_any g _ LD1.out.d.src).mono ?_
                    rintro e v5 ⟨t5, m5, d5, s5, b5, rfl, dd⟩
                    replace LD1 := Lib.hid (LD1.out.draw dd hl2)
                    clear dd
                    have b2 := LD1.out.b.c 2 rfl; have b3 := LD1.out.b.c 3 rfl; have b4 := LD1.out.b.c 4 rfl; have b5 := LD1.out.b.c 5 rfl; have b6 := LD1.out.b.c 6 rfl
                    have bfr := LD1.out.b.free
                    go_wp2_with fail
                    go_meet
                    exact ⟨rfl, _, _, _, _, _, (((((LD1.out.put hl2 2 _).put hl2 3 _).put hl2 4 _).put hl2 5 _).put hl2 6 _)⟩
                  case neg =>
                    have hyb : ((y : Int) == 0) = false := by simp; omega
                    go_wp2_with fail
                    go_meet
                    exact ⟨rfl, _, _, _, _, _, LD1.out⟩
                case rest =>
                  obtain ⟨rfl, ft, fm, fd, fs, fb, ld⟩ := hcut
                  obtain ⟨v6, hv9⟩ : ∃ v, v = wc := ⟨_, rfl⟩
                  subst hv9
                  have LD2 := Lib.hid ld
                  have L6 := Lib.hid (L.out.draw ld.d hl)
                  have OW := Lib.hid (ld.o.weaken (base' := w.heap.size + 3) (by have := L.out.t.lt; omega))
                  have c0 := L6.out.f.k.c 0 rfl; have c1 := L6.out.f.k.c 1 rfl; have c2 := L6.out.f.k.c 2 rfl; have c3 := L6.out.f.k.c 3 rfl
                  have x0 := L6.out.f.x.c 0 rfl; have x1 := L6.out.f.x.c 1 rfl; have x2 := L6.out.f.x.c 2 rfl; have x3 := L6.out.f.x.c 3 rfl; have x4 := L6.out.f.x.c 4 rfl
                  have rc0 := L6.out.f.r.c 0 rfl; have rc1 := L6.out.f.r.c 1 rfl; have rc2 := L6.out.f.r.c 2 rfl; have rc3 := L6.out.f.r.c 3 rfl
                  have sc0 := L6.out.f.s.c 0 rfl; have sc1 := L6.out.f.s.c 1 rfl; have sc2 := L6.out.f.s.c 2 rfl; have sc3 := L6.out.f.s.c 3 rfl; have sc4 := L6.out.f.s.c 4 rfl
                  have tc0 := L6.out.t.c 0 rfl; have tc1 := L6.out.t.c 1 rfl; have tc2 := L6.out.t.c 2 rfl; have tc3 := L6.out.t.c 3 rfl; have tc4 := L6.out.t.c 4 rfl; have tc5 := L6.out.t.c 5 rfl; have tc6 := L6.out.t.c 6 rfl; have tc7 := L6.out.t.c 7 rfl
                  have rf := L6.out.f.r.free; have sf := L6.out.f.s.free; have tf := L6.out.t.free
                  have g0 := LD2.out.b.c 0 rfl; have g1 := LD2.out.b.c 1 rfl; have g2 := LD2.out.b.c 2 rfl; have g3 := LD2.out.b.c 3 rfl; have g4 := LD2.out.b.c 4 rfl; have g5 := LD2.out.b.c 5 rfl; have g6 := LD2.out.b.c 6 rfl; have g7 := LD2.out.b.c 7 rfl
                  have hk1 := L.out.f.h1
                  have hb1 := LD2.out.h
                  have hb2 := L.out.f.k.lt
                  have hbf : w.heap.size + 3 ≤ bf := by omega
                  have hC0 : (fun u => Dr w g u ∧ DV u (w.heap.size + 3) m M ∧ BlkL u w1.heap.size 28 [.int .i64 m.id, .slice m.An m.nn m.cn, .slice m.Am m.nm m.cm, .slice m.As m.ns m.cs] ∧ BlkL u (w1.heap.size + 1) 30 [.int .i64 t, .int .i64 md, .int .i64 rn, .int .i64 sl, .int .i64 s] ∧ BlkL u bf 33 [.int .i64 k, .int .i64 r, .int .i64 ft, .int .i64 fm, .int .i64 fd, .int .i64 fs, .int .i64 fb, .slice A n c] ∧ OwnI 2 u (w.heap.size + 3) A n c zs ∧ bM u w.heap.size ∧ bS u (w.heap.size + 1) ∧ bF u (w.heap.size + 2)) v6.drew := by
                    have q := L6.out
                    exact ⟨q.f.d.drew, q.f.v.dr ((Dr.refl q.f.d.src).drew) (by omega), q.f.k, q.f.x, LD2.out.b, OW.out, ⟨_, _, _, _, _, _, _, _, _, _, q.f.r⟩, ⟨_, _, _, _, _, q.f.s⟩, ⟨_, _, _, _, _, _, _, _, _, _, q.t⟩⟩
                  go_upto_region 15 with fail
                  clear c0 c1 c2 c3 x0 x1 x2 x3 x4 rc0 rc1 rc2 rc3 sc0 sc1 sc2 sc3 sc4 tc0 tc1 tc2 tc3 tc4 tc5 tc6 tc7 rf sf tf g0 g1 g2 g3 g4 g5 g6 g7
                  refine wp_region_loose (fun u => Dr w g u ∧ DV u (w.heap.size + 3) m M ∧ BlkL u w1.heap.size 28 [.int .i64 m.id, .slice m.An m.nn m.cn, .slice m.Am m.nm m.cm, .slice m.As m.ns m.cs] ∧ BlkL u (w1.heap.size + 1) 30 [.int .i64 t, .int .i64 md, .int .i64 rn, .int .i64 sl, .int .i64 s] ∧ BlkL u bf 33 [.int .i64 k, .int .i64 r, .int .i64 ft, .int .i64 fm, .int .i64 fd, .int .i64 fs, .int .i64 fb, .slice A n c] ∧ OwnI 2 u (w.heap.size + 3) A n c zs ∧ bM u w.heap.size ∧ bS u (w.heap.size + 1) ∧ bF u (w.heap.size + 2)) (gL (S4 w (.agg #[.int .i64 m.id, .slice m.An m.nn m.cn, .slice m.Am m.nm m.cm, .slice m.As m.ns m.cs]) (.agg #[.int .i64 t, .int .i64 md, .int .i64 rn, .int .i64 sl, .int .i64 s]) (.agg #[.int .i64 k, .int .i64 r, .int .i64 ft, .int .i64 fm, .int .i64 fd, .int .i64 fs, .int .i64 fb, .slice A n c]) [.int .i64 m.id, .slice m.An m.nn m.cn, .slice m.Am m.nm m.cm, .slice m.As m.ns m.cs] [.int .i64 t, .int .i64 md, .int .i64 rn, .int .i64 sl, .int .i64 s] [.int .i64 k, .int .i64 r, .int .i64 ft, .int .i64 fm, .int .i64 fd, .int .i64 fs, .int .i64 fb, .slice A n c])) (by kernel_rfl) (by kernel_rfl) (by kernel_rfl) hC0 (stepsF_cons (k' := 1) rfl ?_ (stepsF_cons (k' := 2) rfl ?_ (stepsF_cons (k' := 3) rfl ?_ (stepsF_cons (k' := 4) rfl ?_ (stepsF_cons (k' := 5) rfl ?_ (stepsF_cons (k' := 6) rfl ?_ (stepsF_nil))))))) ?_
                  · intro x u hC hd K hK
                    have hC2 := hC
                    obtain ⟨hd1, hv, hk, hx, hb, ho, hm, hs, hf⟩ := hC2
                    have c0 := hk.c 0 rfl
                    have c1 := hk.c 1 rfl
                    have c2 := hk.c 2 rfl
                    have c3 := hk.c 3 rfl
                    refine ⟨?_⟩
                    simp only [frX, Act.put, List.setIfInBounds_toArray, List.set_cons_zero, List.set_cons_succ] at hK ⊢
                    have HK := Lib.hid hK
                    clear hK hd
                    go_simp
                    refine HK.out _ _ ?_ ?_ ?_
                    · exact hC
                    · exact rfl
                    · exact fun _ _ h => h
                  · intro x u hC hd K hK
                    have hC2 := hC
                    obtain ⟨hd1, hv, hk, hx, hb, ho, hm, hs, hf⟩ := hC2
                    have x0 := hx.c 0 rfl
                    have x1 := hx.c 1 rfl
                    have x2 := hx.c 2 rfl
                    have x3 := hx.c 3 rfl
                    have x4 := hx.c 4 rfl
                    refine ⟨?_⟩
                    simp only [frX, Act.put, List.setIfInBounds_toArray, List.set_cons_zero, List.set_cons_succ] at hK ⊢
                    have HK := Lib.hid hK
                    clear hK hd
                    go_simp
                    refine HK.out _ _ ?_ ?_ ?_
                    · exact hC
                    · exact rfl
                    · exact fun _ _ h => h
                  · intro x u hC hd K hK
                    have hC2 := hC
                    obtain ⟨hd1, hv, hk, hx, hb, ho, hm, hs, hf⟩ := hC2
                    have y0 := hb.c 0 rfl
                    have y1 := hb.c 1 rfl
                    have y2 := hb.c 2 rfl
                    have y3 := hb.c 3 rfl
                    have y4 := hb.c 4 rfl
                    have y5 := hb.c 5 rfl
                    have y6 := hb.c 6 rfl
                    have y7 := hb.c 7 rfl
                    refine ⟨?_⟩
                    simp only [frX, Act.put, List.setIfInBounds_toArray, List.set_cons_zero, List.set_cons_succ] at hK ⊢
                    have HK := Lib.hid hK
                    clear hK hd
                    go_simp
                    refine HK.out _ _ ?_ ?_ ?_
                    · exact hC
                    · exact rfl
                    · exact fun _ _ h => h
                  · intro x u hC hd K hK
                    have e0 : x 0 = (.agg #[.int .i64 m.id, .slice m.An m.nn m.cn, .slice m.Am m.nm m.cm, .slice m.As m.ns m.cs]) := hd 0 (by kernel_rfl)
                    have hC2 := hC
                    obtain ⟨hd1, hv, hk, hx, hb, ho, hm, hs, hf⟩ := hC2
                    have hm2 := hm
                    obtain ⟨i, A1, n1, c1, A5, n5, c5, A6, n6, c6, bk⟩ := hm2
                    have b0 := bk.c 0 rfl
                    have b1 := bk.c 1 rfl
                    have b2 := bk.c 2 rfl
                    have b3 := bk.c 3 rfl
                    have bf9 := bk.free
                    refine ⟨?_⟩
                    simp only [frX, Act.put, List.setIfInBounds_toArray, List.set_cons_zero, List.set_cons_succ] at hK ⊢
                    simp only [e0] at hK ⊢
                    have HK := Lib.hid hK
                    clear hK hd
                    go_simp
                    rw [← setL4]
                    refine HK.out undef _ ?_ ?_ ?_
                    · exact ⟨hd1.setL (by omega) hl 0 [.int .i64 m.id, .slice m.An m.nn m.cn, .slice m.Am m.nm m.cm, .slice m.As m.ns m.cs], hv.setLo (by omega) 0 _, hk.setLo (by omega) 0 _, hx.setLo (by omega) 0 _, hb.setLo (by omega) 0 _, ho.setLb (by omega) 0 _, ⟨_, _, _, _, _, _, _, _, _, _, bk.put (l := [.int .i64 m.id, .slice m.An m.nn m.cn, .slice m.Am m.nm m.cm, .slice m.As m.ns m.cs]) rfl⟩, hs.far (by omega) _, hf.far (by omega) _⟩
                    · exact bk.put (l := [.int .i64 m.id, .slice m.An m.nn m.cn, .slice m.Am m.nm m.cm, .slice m.As m.ns m.cs]) rfl
                    · exact S4.storeR (bk.put (l := [.int .i64 m.id, .slice m.An m.nn m.cn, .slice m.Am m.nm m.cm, .slice m.As m.ns m.cs]) rfl)
                  · intro x u hC hd K hK
                    have e1 : x 1 = (.agg #[.int .i64 t, .int .i64 md, .int .i64 rn, .int .i64 sl, .int .i64 s]) := hd 1 (by kernel_rfl)
                    have hC2 := hC
                    obtain ⟨hd1, hv, hk, hx, hb, ho, hm, hs, hf⟩ := hC2
                    have hm2 := hs
                    obtain ⟨a1, a2, a3, a4, a5, bk⟩ := hm2
                    have b0 := bk.c 0 rfl
                    have b1 := bk.c 1 rfl
                    have b2 := bk.c 2 rfl
                    have b3 := bk.c 3 rfl
                    have b4 := bk.c 4 rfl
                    have bf9 := bk.free
                    refine ⟨?_⟩
                    simp only [frX, Act.put, List.setIfInBounds_toArray, List.set_cons_zero, List.set_cons_succ] at hK ⊢
                    simp only [e1] at hK ⊢
                    have HK := Lib.hid hK
                    clear hK hd
                    go_simp
                    rw [← setL5]
                    refine HK.out undef _ ?_ ?_ ?_
                    · exact ⟨hd1.setL (by omega) hl 0 [.int .i64 t, .int .i64 md, .int .i64 rn, .int .i64 sl, .int .i64 s], hv.setLo (by omega) 0 _, hk.setLo (by omega) 0 _, hx.setLo (by omega) 0 _, hb.setLo (by omega) 0 _, ho.setLb (by omega) 0 _, hm.far (by omega) _, ⟨_, _, _, _, _, bk.put (l := [.int .i64 t, .int .i64 md, .int .i64 rn, .int .i64 sl, .int .i64 s]) rfl⟩, hf.far (by omega) _⟩
                    · exact bk.put (l := [.int .i64 t, .int .i64 md, .int .i64 rn, .int .i64 sl, .int .i64 s]) rfl
                    · exact S4.storeS (bk.put (l := [.int .i64 t, .int .i64 md, .int .i64 rn, .int .i64 sl, .int .i64 s]) rfl)
                  · intro x u hC hd K hK
                    have e2 : x 2 = (.agg #[.int .i64 k, .int .i64 r, .int .i64 ft, .int .i64 fm, .int .i64 fd, .int .i64 fs, .int .i64 fb, .slice A n c]) := hd 2 (by kernel_rfl)
                    have hC2 := hC
                    obtain ⟨hd1, hv, hk, hx, hb, ho, hm, hs, hf⟩ := hC2
                    have hm2 := hf
                    obtain ⟨a1, a2, a3, a4, a5, a6, a7, A7, n7, c7, bk⟩ := hm2
                    have b0 := bk.c 0 rfl
                    have b1 := bk.c 1 rfl
                    have b2 := bk.c 2 rfl
                    have b3 := bk.c 3 rfl
                    have b4 := bk.c 4 rfl
                    have b5 := bk.c 5 rfl
                    have b6 := bk.c 6 rfl
                    have b7 := bk.c 7 rfl
                    have bf9 := bk.free
                    refine ⟨?_⟩
                    simp only [frX, Act.put, List.setIfInBounds_toArray, List.set_cons_zero, List.set_cons_succ] at hK ⊢
                    simp only [e2] at hK ⊢
                    have HK := Lib.hid hK
                    clear hK hd
                    go_simp
                    rw [← setL8]
                    refine HK.out undef _ ?_ ?_ ?_
                    · exact ⟨hd1.setL (by omega) hl 0 [.int .i64 k, .int .i64 r, .int .i64 ft, .int .i64 fm, .int .i64 fd, .int .i64 fs, .int .i64 fb, .slice A n c], hv.setLo (by omega) 0 _, hk.setLo (by omega) 0 _, hx.setLo (by omega) 0 _, hb.setLo (by omega) 0 _, ho.setLb (by omega) 0 _, hm.far (by omega) _, hs.far (by omega) _, ⟨_, _, _, _, _, _, _, _, _, _, bk.put (l := [.int .i64 k, .int .i64 r, .int .i64 ft, .int .i64 fm, .int .i64 fd, .int .i64 fs, .int .i64 fb, .slice A n c]) rfl⟩⟩
                    · exact bk.put (l := [.int .i64 k, .int .i64 r, .int .i64 ft, .int .i64 fm, .int .i64 fd, .int .i64 fs, .int .i64 fb, .slice A n c]) rfl
                    · exact S4.storeT (bk.put (l := [.int .i64 k, .int .i64 r, .int .i64 ft, .int .i64 fm, .int .i64 fd, .int .i64 fs, .int .i64 fb, .slice A n c]) rfl)
                  · intro x u hC hf
                    have kr : BlkL u w.heap.size 28 [.int .i64 m.id, .slice m.An m.nn m.cn, .slice m.Am m.nm m.cm, .slice m.As m.ns m.cs] := hf 3 (by decide)
                    have ks : BlkL u (w.heap.size + 1) 30 [.int .i64 t, .int .i64 md, .int .i64 rn, .int .i64 sl, .int .i64 s] := hf 4 (by decide)
                    have kt : BlkL u (w.heap.size + 2) 33 [.int .i64 k, .int .i64 r, .int .i64 ft, .int .i64 fm, .int .i64 fd, .int .i64 fs, .int .i64 fb, .slice A n c] := hf 5 (by decide)
                    obtain ⟨hd1, hv, _, _, _, ho, _⟩ := hC
                    refine ⟨?_⟩
                    simp only [frX, Act.put, List.setIfInBounds_toArray, List.set_cons_zero, List.set_cons_succ]
                    clear hf
                    refine (‹∀ (a : Act) (w_1 : World), Code.wp Tryz.prog Code.ret _ a w_1 → _›) _ _ ?_
                    refine wp_ret ?_
                    have q0 := kr.c 0 rfl
                    have q1 := kr.c 1 rfl
                    have q2 := kr.c 2 rfl
                    have q3 := kr.c 3 rfl
                    have y0 := ks.c 0 rfl
                    have y1 := ks.c 1 rfl
                    have y2 := ks.c 2 rfl
                    have y3 := ks.c 3 rfl
                    have y4 := ks.c 4 rfl
                    have f0 := kt.c 0 rfl
                    have f1 := kt.c 1 rfl
                    have f2 := kt.c 2 rfl
                    have f3 := kt.c 3 rfl
                    have f4 := kt.c 4 rfl
                    have f5 := kt.c 5 rfl
                    have f6 := kt.c 6 rfl
                    have f7 := kt.c 7 rfl
                    exact bodyPost_ret (v := .tuple #[.agg #[.int .i64 m.id, .slice m.An m.nn m.cn, .slice m.Am m.nm m.cm, .slice m.As m.ns m.cs], .agg #[.int .i64 t, .int .i64 md, .int .i64 rn, .int .i64 sl, .int .i64 s], .agg #[.int .i64 k, .int .i64 r, .int .i64 ft, .int .i64 fm, .int .i64 fd, .int .i64 fs, .int .i64 fb, .slice A n c]]) (by simp [results, Tryz.results22, go_sem, q0, q1, q2, q3, y0, y1, y2, y3, y4, f0, f1, f2, f3, f4, f5, f6, f7]) rfl ⟨m, M, _, _, _, _, _, _, _, _, _, _, _, _, A, n, c, _, rfl, hv.weaken (Nat.le_add_right _ _), ho.weaken (Nat.le_add_right _ _), by omega, hd1⟩
end Go.Proofs.YtbaojbheopcjhaaGreatDoor
