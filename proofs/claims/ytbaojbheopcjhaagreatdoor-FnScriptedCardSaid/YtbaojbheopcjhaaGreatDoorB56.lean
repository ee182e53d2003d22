/- Walks, laws and small notions for the claims of this seat, several texts as one (DrFs, DrF, DrGs). Conditions: as each theorem states them. -/
import Derived.Test.YtbaojbheopcjhaaGreatDoorB54
import Derived.Test.YtbaojbheopcjhaaGreatDoorB55
import Derived.Test.YtbaojbheopcjhaaGreatDoorB10
import Derived.Test.YtbaojbheopcjhaaGreatDoorB50
import Derived.Deep.RegionHeldLaw
import Derived.Deep.DeepCutAuto
namespace Go.Proofs.YtbaojbheopcjhaaGreatDoor
open Go.RowKit
def zM : List Value := [.int .i64 0, .slice none 0 0, .slice none 0 0, .slice none 0 0]
def zS : List Value := [.int .i64 0, .int .i64 0, .int .i64 0, .int .i64 0, .int .i64 0]
def lM (m : Mdv) : List Value := [.int .i64 m.id, .slice m.An m.nn m.cn, .slice m.Am m.nm m.cm, .slice m.As m.ns m.cs]
theorem DV.box {w : World} {base b : Nat} {T : TypeId} {m : Mdv} {M : Mdl} {L : List Value} (h : DV w base m M) (hb : BlkL w b T L) (hN : 84 ≠ T) (hM : 110 ≠ T) (hS : 102 ≠ T) (hI : 2 ≠ T) (j : Nat) (v : Value) : DV (w.setCell ⟨b, j, none⟩ v) base m M :=
  let ⟨hs, a, d⟩ := h.om
  let ⟨A, n, c, ss, e, f⟩ := h.os
  ⟨h.id, h.on.boxed hb hN j v, ⟨hs, ⟨a.1.boxed hb hM j v, fun x hx => ⟨(a.2 x hx).1.boxed hb hI j v, (a.2 x hx).2⟩⟩, d⟩, ⟨A, n, c, ss, e.boxed hb hS j v, f⟩, h.nm, h.bn, h.bm, h.bs⟩
/-- a schedule and a state in their boxes, ahead of N boxes of results -/
structure LF (N : Nat) (w0 : World) (g : Nat) (w : World) (k1 k2 : Nat) (m : Mdv) (M : Mdl) (X : List Value) : Prop where
  v : DV w (w0.heap.size + N) m M
  k : BlkL w k1 28 (lM m)
  x : BlkL w k2 30 X
  r : BlkL w w0.heap.size 28 zM
  s : BlkL w (w0.heap.size + 1) 30 zS
  d : Dr w0 g w
  hN : 2 ≤ N
  h1 : w0.heap.size + N ≤ k1
  h2 : k1 < k2
namespace LF
variable {N : Nat} {w0 w w' : World} {g k1 k2 : Nat} {m : Mdv} {M : Mdl} {X : List Value}
theorem draw (h : LF N w0 g w k1 k2 m M X) (d : Dr w g w') (hl : g < w0.heap.size) : LF N w0 g w' k1 k2 m M X := by
  have a := h.hN; have b := h.h1; have c := h.h2
  exact ⟨h.v.dr d (by omega), h.k.dr d (by omega), h.x.dr d (by omega), h.r.dr d (by omega), h.s.dr d (by omega), d.next h.d, a, b, c⟩
theorem below (h : LF N w0 g w k1 k2 m M X) (hb : Below w.heap.size w w') : LF N w0 g w' k1 k2 m M X :=
  ⟨h.v.below hb, h.k.next hb, h.x.next hb, h.r.next hb, h.s.next hb, Dr.below hb h.d, h.hN, h.h1, h.h2⟩
theorem alloc (h : LF N w0 g w k1 k2 m M X) (o : Obj) : LF N w0 g (w.alloc o) k1 k2 m M X := h.below ((Below.refl _ _).alloc (Nat.le_refl _) o)
theorem put (h : LF N w0 g w k1 k2 m M X) (hl : g < w0.heap.size) (j : Nat) (v : Value) : LF N w0 g (w.setCell ⟨k2, j, none⟩ v) k1 k2 m M (X.set j v) := by
  have a := h.hN; have b := h.h1; have c := h.h2
  exact ⟨h.v.box h.x (by decide) (by decide) (by decide) (by decide) j v, h.k.other (p := ⟨k2, j, none⟩) (by show ¬ k2 = _; omega) _, h.x.set j v, h.r.other (p := ⟨k2, j, none⟩) (by show ¬ k2 = _; omega) _, h.s.other (p := ⟨k2, j, none⟩) (by show ¬ k2 = _; omega) _, h.d.set (p := ⟨k2, j, none⟩) (by show _ ≤ k2; omega) hl _, a, b, c⟩
theorem form (h : LF N w0 g w k1 k2 m M X) (hi : 0 < m.nm) : ∃ b, m.Am = some ⟨b, 0, none⟩ := by
  obtain ⟨hs, a, e⟩ := h.v.om
  obtain ⟨b, hb, _⟩ := a.1.form hi
  exact ⟨b, hb⟩
theorem cells (h : LF N w0 g w k1 k2 m M X) {b i : Nat} (hA : m.Am = some ⟨b, 0, none⟩) (hi : i < m.nm) : w.cell? ⟨b, i * 3, none⟩ = some (.int .i64 (ge M.ms i).rd) ∧ w.cell? ⟨b, i * 3 + 1, none⟩ = some (.int .i64 (ge M.ms i).sl) := by
  obtain ⟨hs, a, e⟩ := h.v.om
  have a1 := a.1
  rw [hA] at a1
  have hl : i < hs.length := by rw [a1.len]; exact hi
  have hk : ge M.ms i = (ge hs i).k := by
    rw [e, ge_lt (by rw [List.length_map]; exact hl), List.getElem_map, ge_lt hl]
  rw [hk]
  exact ⟨a1.cell encMh_len (i := i) (j := 0) hi (by omega), a1.cell encMh_len (i := i) (j := 1) hi (by omega)⟩
end LF
/-- the results' boxes in the work -/
structure LE (N : Nat) (w0 : World) (g : Nat) (w : World) (m : Mdv) (M : Mdl) (L1 L2 : List Value) : Prop where
  v : DV w (w0.heap.size + N) m M
  r : BlkL w w0.heap.size 28 L1
  s : BlkL w (w0.heap.size + 1) 30 L2
  d : Dr w0 g w
  hN : 2 ≤ N
namespace LE
variable {N : Nat} {w0 w w' : World} {g k1 k2 : Nat} {m : Mdv} {M : Mdl} {X L1 L2 : List Value}
theorem of (h : LF N w0 g w k1 k2 m M X) : LE N w0 g w m M zM zS := ⟨h.v, h.r, h.s, h.d, h.hN⟩
theorem drewN (h : LE N w0 g w m M L1 L2) (k : Nat) : LE N w0 g (w.drewN k) m M L1 L2 := ⟨⟨h.v.id, h.v.on, h.v.om, h.v.os, h.v.nm, h.v.bn, h.v.bm, h.v.bs⟩, h.r, h.s, h.d.drewN k, h.hN⟩
theorem drew (h : LE N w0 g w m M L1 L2) : LE N w0 g w.drew m M L1 L2 := ⟨⟨h.v.id, h.v.on, h.v.om, h.v.os, h.v.nm, h.v.bn, h.v.bm, h.v.bs⟩, h.r, h.s, h.d.drew, h.hN⟩
theorem setR (h : LE N w0 g w m M L1 L2) (hl : g < w0.heap.size) (j : Nat) (v : Value) : LE N w0 g (w.setCell ⟨w0.heap.size, j, none⟩ v) m M (L1.set j v) L2 := by
  have a := h.hN
  exact ⟨h.v.other (p := ⟨w0.heap.size, j, none⟩) (by show w0.heap.size < _; omega) v, h.r.set j v, h.s.other (p := ⟨w0.heap.size, j, none⟩) (by show ¬ w0.heap.size = _; omega) v, h.d.set (p := ⟨w0.heap.size, j, none⟩) (Nat.le_refl _) hl v, a⟩
theorem setS (h : LE N w0 g w m M L1 L2) (hl : g < w0.heap.size) (j : Nat) (v : Value) : LE N w0 g (w.setCell ⟨w0.heap.size + 1, j, none⟩ v) m M L1 (L2.set j v) := by
  have a := h.hN
  exact ⟨h.v.other (p := ⟨w0.heap.size + 1, j, none⟩) (by show w0.heap.size + 1 < _; omega) v, h.r.other (p := ⟨w0.heap.size + 1, j, none⟩) (by show ¬ w0.heap.size + 1 = _; omega) v, h.s.set j v, h.d.set (p := ⟨w0.heap.size + 1, j, none⟩) (Nat.le_succ _) hl v, a⟩
end LE
end Go.Proofs.YtbaojbheopcjhaaGreatDoor

namespace Go.Proofs.YtbaojbheopcjhaaGreatDoor
open Go.RowKit
/-- a drawn schedule and a drawn state -/
def DrF (w : World) (g : Nat) (e : Ending) (w' : World) : Prop :=
  ∃ (m : Mdv) (M : Mdl) (t md rn sl mb : Int), e = .returned (.tuple #[.agg #[.int .i64 m.id, .slice m.An m.nn m.cn, .slice m.Am m.nm m.cm, .slice m.As m.ns m.cs], .agg #[.int .i64 t, .int .i64 md, .int .i64 rn, .int .i64 sl, .int .i64 mb]]) ∧ DV w' w.heap.size m M ∧ Dr w g w'
set_option maxRecDepth 20000 in
set_option maxHeartbeats 16000000 in
theorem drawSched_any (g : Nat) (w : World) (h : Src w g) :
    Calls Tryz.prog 49 #[.pointer (some ⟨g, 0, none⟩)] w (DrF w g) := by
  have hl := h.lt
  obtain ⟨w0, hw0⟩ : ∃ v, v = (w.alloc (.cells #[.int .i64 0, .slice none 0 0, .slice none 0 0, .slice none 0 0] 28)).alloc (.cells #[.int .i64 0, .int .i64 0, .int .i64 0, .int .i64 0, .int .i64 0] 30) := ⟨_, rfl⟩
  have r0 : BlkL w0 w.heap.size 28 zM := by rw [hw0]; exact (BlkL.new w _ _ rfl).alloc _
  have s0 : BlkL w0 (w.heap.size + 1) 30 zS := by rw [hw0]; exact BlkL.new _ _ _ (by simp)
  have d0 : Dr w g w0 := by rw [hw0]; exact ((Dr.refl h).alloc _).alloc _
  have z0 : w0.heap.size = w.heap.size + 2 := by rw [hw0]; simp
  go_enter Tryz.func49, Tryz.ntmps49
  go_wp2_with fail
  rw [← hw0]
  clear hw0
  refine (drawMedlAny_any g _ d0.src).mono ?_
  rintro e w1 ⟨m, M, rfl, dv, d1⟩
  have z1 := d1.size
  obtain ⟨u1, hu1⟩ : ∃ v, v = w1.alloc (.cells #[.int .i64 m.id, .slice m.An m.nn m.cn, .slice m.Am m.nm m.cm, .slice m.As m.ns m.cs] 28) := ⟨_, rfl⟩
  have dv1 : DV u1 (w.heap.size + 2) m M := by rw [hu1, ← z0]; exact dv.alloc _
  have k1 : BlkL u1 w1.heap.size 28 (lM m) := by rw [hu1]; exact BlkL.new _ _ _ rfl
  have r1 : BlkL u1 w.heap.size 28 zM := by rw [hu1]; exact (r0.dr d1 (by omega)).alloc _
  have s1 : BlkL u1 (w.heap.size + 1) 30 zS := by rw [hu1]; exact (s0.dr d1 (by omega)).alloc _
  have e1 : Dr w g u1 := by rw [hu1]; exact (d1.next d0).alloc _
  clear dv d1 r0 s0 d0
  go_wp2_with fail
  rw [← hu1]
  clear hu1
  refine (drawStateAny_any g _ e1.src).mono ?_
  rintro e w2 ⟨t, md, rn, sl, mb, rfl, d2⟩
  have hk1 := k1.lt
  have z2 := d2.size
  obtain ⟨u2, hu2⟩ : ∃ v, v = w2.alloc (.cells #[.int .i64 t, .int .i64 md, .int .i64 rn, .int .i64 sl, .int .i64 mb] 30) := ⟨_, rfl⟩
  have L := Lib.hid (show LF 2 w g u2 w1.heap.size w2.heap.size m M [.int .i64 t, .int .i64 md, .int .i64 rn, .int .i64 sl, .int .i64 mb] from by rw [hu2]; exact ⟨(dv1.dr d2 (by omega)).alloc _, (k1.dr d2 (by omega)).alloc _, BlkL.new _ _ _ rfl, (r1.dr d2 (by omega)).alloc _, (s1.dr d2 (by omega)).alloc _, (d2.next e1).alloc _, by omega, by omega, by omega⟩)
  clear dv1 k1 r1 s1 e1 d2 z0 z1 z2 hk1
  have c0 := L.out.k.c 0 rfl; have c1 := L.out.k.c 1 rfl; have c2 := L.out.k.c 2 rfl; have c3 := L.out.k.c 3 rfl
  go_upto_region 3 with fail
  rw [← hu2]
  clear hu2
  go_wp2_with fail
  obtain ⟨b, hb⟩ : ∃ b, isMedl M = b := ⟨_, rfl⟩
  refine (sIsMedl_any m M _ L.out.v.reads L.out.v.rx).mono ?_
  rw [hb]
  rintro e w3 ⟨rfl, hb3⟩
  replace L := Lib.hid (L.out.below hb3)
  clear hb3 c0 c1 c2 c3
  cases b
  case false =>
    have c0 := L.out.k.c 0 rfl; have c1 := L.out.k.c 1 rfl; have c2 := L.out.k.c 2 rfl; have c3 := L.out.k.c 3 rfl
    have x0 := L.out.x.c 0 rfl; have x1 := L.out.x.c 1 rfl; have x2 := L.out.x.c 2 rfl; have x3 := L.out.x.c 3 rfl; have x4 := L.out.x.c 4 rfl
    have rf := L.out.r.free; have sf := L.out.s.free
    have hk1 := L.out.h1; have hk2 := L.out.h2
    have n1 : ¬ w1.heap.size = w.heap.size := by omega
    have n2 : ¬ w2.heap.size = w.heap.size := by omega
    have n3 : ¬ w1.heap.size = w.heap.size + 1 := by omega
    have n4 : ¬ w2.heap.size = w.heap.size + 1 := by omega
    have rc0 := L.out.r.c 0 rfl; have rc1 := L.out.r.c 1 rfl; have rc2 := L.out.r.c 2 rfl; have rc3 := L.out.r.c 3 rfl
    have sc0 := L.out.s.c 0 rfl; have sc1 := L.out.s.c 1 rfl; have sc2 := L.out.s.c 2 rfl; have sc3 := L.out.s.c 3 rfl; have sc4 := L.out.s.c 4 rfl
    go_upto_region 4 with fail
    first
    | go_region_law (fail)
    | fail
    all_goals
      obtain ⟨v9, hv9⟩ : ∃ v, v = (((((((((w3.setCell ⟨w.heap.size, 0, none⟩ (.int .i64 m.id)).setCell ⟨w.heap.size, 1, none⟩ (.slice m.An m.nn m.cn)).setCell ⟨w.heap.size, 2, none⟩ (.slice m.Am m.nm m.cm)).setCell ⟨w.heap.size, 3, none⟩ (.slice m.As m.ns m.cs)).setCell ⟨w.heap.size + 1, 0, none⟩ (.int .i64 t)).setCell ⟨w.heap.size + 1, 1, none⟩ (.int .i64 md)).setCell ⟨w.heap.size + 1, 2, none⟩ (.int .i64 rn)).setCell ⟨w.heap.size + 1, 3, none⟩ (.int .i64 sl)).setCell ⟨w.heap.size + 1, 4, none⟩ (.int .i64 mb)).drew := ⟨_, rfl⟩
      have le : LE 2 w g v9 m M [.int .i64 m.id, .slice m.An m.nn m.cn, .slice m.Am m.nm m.cm, .slice m.As m.ns m.cs] [.int .i64 t, .int .i64 md, .int .i64 rn, .int .i64 sl, .int .i64 mb] := by rw [hv9]; exact LE.drew ((((((((((LE.of L.out).setR hl 0 _).setR hl 1 _).setR hl 2 _).setR hl 3 _).setS hl 0 _).setS hl 1 _).setS hl 2 _).setS hl 3 _).setS hl 4 _)
      rw [← hv9]
      clear hv9 L c0 c1 c2 c3 x0 x1 x2 x3 x4 rf sf rc0 rc1 rc2 rc3 sc0 sc1 sc2 sc3 sc4
      go_wp2_with fail
      have q0 := le.r.c 0 rfl; have q1 := le.r.c 1 rfl; have q2 := le.r.c 2 rfl; have q3 := le.r.c 3 rfl
      have y0 := le.s.c 0 rfl; have y1 := le.s.c 1 rfl; have y2 := le.s.c 2 rfl; have y3 := le.s.c 3 rfl; have y4 := le.s.c 4 rfl
      exact bodyPost_ret (v := .tuple #[.agg #[.int .i64 m.id, .slice m.An m.nn m.cn, .slice m.Am m.nm m.cm, .slice m.As m.ns m.cs], .agg #[.int .i64 t, .int .i64 md, .int .i64 rn, .int .i64 sl, .int .i64 mb]]) (by simp [results, Tryz.results49, go_sem, q0, q1, q2, q3, y0, y1, y2, y3, y4]) rfl ⟨m, M, _, _, _, _, _, rfl, le.v.weaken (Nat.le_add_right _ _), le.d⟩
  case true =>
    go_wp2_with fail
    refine (next_any g 16 _ L.out.d.src).mono ?_
    rintro e w4 ⟨z, rfl, hz, dd⟩
    replace L := Lib.hid (L.out.draw dd hl)
    clear dd
    by_cases hz0 : z = 0
    case pos =>
      subst hz0
      have c0 := L.out.k.c 0 rfl; have c1 := L.out.k.c 1 rfl; have c2 := L.out.k.c 2 rfl; have c3 := L.out.k.c 3 rfl
      have x0 := L.out.x.c 0 rfl; have x1 := L.out.x.c 1 rfl; have x2 := L.out.x.c 2 rfl; have x3 := L.out.x.c 3 rfl; have x4 := L.out.x.c 4 rfl
      have rf := L.out.r.free; have sf := L.out.s.free
      have hk1 := L.out.h1; have hk2 := L.out.h2
      have n1 : ¬ w1.heap.size = w.heap.size := by omega
      have n2 : ¬ w2.heap.size = w.heap.size := by omega
      have n3 : ¬ w1.heap.size = w.heap.size + 1 := by omega
      have n4 : ¬ w2.heap.size = w.heap.size + 1 := by omega
      have rc0 := L.out.r.c 0 rfl; have rc1 := L.out.r.c 1 rfl; have rc2 := L.out.r.c 2 rfl; have rc3 := L.out.r.c 3 rfl
      have sc0 := L.out.s.c 0 rfl; have sc1 := L.out.s.c 1 rfl; have sc2 := L.out.s.c 2 rfl; have sc3 := L.out.s.c 3 rfl; have sc4 := L.out.s.c 4 rfl
      go_upto_region 4 with fail
      first
      | go_region_law (fail)
      | fail
      all_goals
        obtain ⟨v9, hv9⟩ : ∃ v, v = (((((((((w4.setCell ⟨w.heap.size, 0, none⟩ (.int .i64 m.id)).setCell ⟨w.heap.size, 1, none⟩ (.slice m.An m.nn m.cn)).setCell ⟨w.heap.size, 2, none⟩ (.slice m.Am m.nm m.cm)).setCell ⟨w.heap.size, 3, none⟩ (.slice m.As m.ns m.cs)).setCell ⟨w.heap.size + 1, 0, none⟩ (.int .i64 t)).setCell ⟨w.heap.size + 1, 1, none⟩ (.int .i64 md)).setCell ⟨w.heap.size + 1, 2, none⟩ (.int .i64 rn)).setCell ⟨w.heap.size + 1, 3, none⟩ (.int .i64 sl)).setCell ⟨w.heap.size + 1, 4, none⟩ (.int .i64 mb)).drew := ⟨_, rfl⟩
        have le : LE 2 w g v9 m M [.int .i64 m.id, .slice m.An m.nn m.cn, .slice m.Am m.nm m.cm, .slice m.As m.ns m.cs] [.int .i64 t, .int .i64 md, .int .i64 rn, .int .i64 sl, .int .i64 mb] := by rw [hv9]; exact LE.drew ((((((((((LE.of L.out).setR hl 0 _).setR hl 1 _).setR hl 2 _).setR hl 3 _).setS hl 0 _).setS hl 1 _).setS hl 2 _).setS hl 3 _).setS hl 4 _)
        rw [← hv9]
        clear hv9 L c0 c1 c2 c3 x0 x1 x2 x3 x4 rf sf rc0 rc1 rc2 rc3 sc0 sc1 sc2 sc3 sc4
        go_wp2_with fail
        have q0 := le.r.c 0 rfl; have q1 := le.r.c 1 rfl; have q2 := le.r.c 2 rfl; have q3 := le.r.c 3 rfl
        have y0 := le.s.c 0 rfl; have y1 := le.s.c 1 rfl; have y2 := le.s.c 2 rfl; have y3 := le.s.c 3 rfl; have y4 := le.s.c 4 rfl
        exact bodyPost_ret (v := .tuple #[.agg #[.int .i64 m.id, .slice m.An m.nn m.cn, .slice m.Am m.nm m.cm, .slice m.As m.ns m.cs], .agg #[.int .i64 t, .int .i64 md, .int .i64 rn, .int .i64 sl, .int .i64 mb]]) (by simp [results, Tryz.results49, go_sem, q0, q1, q2, q3, y0, y1, y2, y3, y4]) rfl ⟨m, M, _, _, _, _, _, rfl, le.v.weaken (Nat.le_add_right _ _), le.d⟩
    case neg =>
      have hzb : ((z : Int) == 0) = false := by simp; omega
      go_wp2_with fail
      refine (next_any g 65536 _ L.out.d.src).mono ?_
      rintro e w5 ⟨a, rfl, ha, dd⟩
      replace L := Lib.hid (L.out.draw dd hl)
      clear dd
      have xf := L.out.x.free
      have xc := L.out.x.c 0 rfl
      have c2 := L.out.k.c 2 rfl
      go_upto_region 6 with fail
      obtain ⟨u5, hw9⟩ : ∃ v, v = w5.setCell ⟨w2.heap.size, 0, none⟩ (.int .i64 a) := ⟨_, rfl⟩
      replace L := Lib.hid (show LF 2 w g u5 w1.heap.size w2.heap.size m M [.int .i64 a, .int .i64 md, .int .i64 rn, .int .i64 sl, .int .i64 mb] from hw9 ▸ L.out.put hl 0 (.int .i64 a))
      rw [← hw9]
      clear hw9 xf xc c2
      obtain ⟨hnt, hmt, _⟩ := isMedl_nt hb
      have OKN := Lib.hid (show ∀ x ∈ M.ns, NdOk x from fun x hx => by
        obtain ⟨i, hi, rfl⟩ := List.getElem_of_mem hx
        have h1 := isNT_nd hnt hi
        rw [ge_lt hi] at h1
        unfold isNd at h1
        simp only [Bool.and_eq_true] at h1
        have h2 := inR_iff.1 h1.1
        exact ⟨L.out.v.nm _ hx, h2.1, h2.2⟩)
      have hml := isMT_len hmt
      have hmm : M.ms.length = m.nm := by obtain ⟨hs, q1, q2⟩ := L.out.v.om; rw [q2, List.length_map]; exact q1.1.len
      have hm1 : 1 ≤ m.nm := by omega
      have hm16 : m.nm ≤ 16 := by omega
      have c2 := L.out.k.c 2 rfl
      go_wp2_with fail
      refine (next_any g m.nm _ L.out.d.src).mono ?_
      rintro e w6 ⟨q, rfl, hq, dd⟩
      replace L := Lib.hid (L.out.draw dd hl)
      have hqn : q < m.nm := by omega
      clear dd hq c2
      have xf := L.out.x.free
      have xc := L.out.x.c 1 rfl
      go_upto_region 7 with fail
      obtain ⟨u6, hw9⟩ : ∃ v, v = w6.setCell ⟨w2.heap.size, 1, none⟩ (.int .i64 q) := ⟨_, rfl⟩
      replace L := Lib.hid (show LF 2 w g u6 w1.heap.size w2.heap.size m M [.int .i64 a, .int .i64 q, .int .i64 rn, .int .i64 sl, .int .i64 mb] from hw9 ▸ L.out.put hl 1 (.int .i64 q))
      rw [← hw9]
      clear hw9 xf xc
      obtain ⟨bm, hA⟩ := L.out.form (by omega)
      have hrs := isMT_at hmt (i := q) (by omega)
      obtain ⟨R, hR⟩ : ∃ R : Nat, (ge M.ms q).rd = (R : Int) := ⟨(ge M.ms q).rd.toNat, by omega⟩
      obtain ⟨S, hS⟩ : ∃ S : Nat, (ge M.ms q).sl = (S : Int) := ⟨(ge M.ms q).sl.toNat, by omega⟩
      have hR8 : R ≤ 8 := by omega
      have hS16 : S ≤ 16 := by omega
      have hqi : (q : Int) < (m.nm : Int) := by omega
      have MC := Lib.hid (show ∀ u (X : List Value), LF 2 w g u w1.heap.size w2.heap.size m M X → u.cell? ⟨bm, q * 3, none⟩ = some (.int .i64 R) ∧ u.cell? ⟨bm, q * 3 + 1, none⟩ = some (.int .i64 S) from fun u X hu => by have := hu.cells hA hqn; rw [hR, hS] at this; exact this)
      clear hR hS hrs hnt hmt hml hmm
      have hRi : (R : Int) ≤ 8 := by omega
      have hSi : (S : Int) ≤ 16 := by omega
      obtain ⟨P, hP⟩ : ∃ P : World → Prop, P = fun u => ∃ x : Int, LF 2 w g u w1.heap.size w2.heap.size m M [.int .i64 a, .int .i64 q, .int .i64 x, .int .i64 sl, .int .i64 mb] := ⟨_, rfl⟩
      have PL := Lib.hid (show ∀ u, P u → ∃ x : Int, LF 2 w g u w1.heap.size w2.heap.size m M [.int .i64 a, .int .i64 q, .int .i64 x, .int .i64 sl, .int .i64 mb] from fun u h => by rw [hP] at h; exact h)
      have PD := Lib.hid (show ∀ u u', P u → Dr u g u' → P u' from fun u u' h d => by rw [hP] at h ⊢; obtain ⟨x, l⟩ := h; exact ⟨x, l.draw d hl⟩)
      have PS := Lib.hid (show ∀ u (v : Int), P u → P (u.setCell ⟨w2.heap.size, 2, none⟩ (.int .i64 v)) from fun u v h => by rw [hP] at h ⊢; obtain ⟨x, l⟩ := h; exact ⟨v, l.put hl 2 (.int .i64 v)⟩)
      have PR := Lib.hid (show ∀ u, P u → Src u g from fun u h => by rw [hP] at h; obtain ⟨x, l⟩ := h; exact l.d.src)
      have PX := Lib.hid (show ∀ u, P u → (∀ j, u.frozen? ⟨w2.heap.size, j, none⟩ = false) ∧ ∃ x : Int, u.cell? ⟨w2.heap.size, 2, none⟩ = some (.int .i64 x) from fun u h => by rw [hP] at h; obtain ⟨x, l⟩ := h; exact ⟨l.x.free, x, l.x.c 2 rfl⟩)
      have HC := Lib.hid (show ∀ u, P u → (P u ∧ u.cell? ⟨w1.heap.size, 2, none⟩ = some (.slice m.Am m.nm m.cm) ∧ u.cell? ⟨w2.heap.size, 1, none⟩ = some (.int .i64 q) ∧ u.cell? ⟨bm, q * 3, none⟩ = some (.int .i64 R)) from fun u h => ⟨h, by rw [hP] at h; obtain ⟨x, l⟩ := h; exact ⟨l.k.c 2 rfl, l.x.c 1 rfl, (MC.out _ _ l).1⟩⟩)
      have hV : P u6.drew := by rw [hP]; exact ⟨rn, L.out.draw ((Dr.refl L.out.d.src).drew) hl⟩
      clear hP
      go_cut [5] (fun v wc => v = .pointer (some ⟨w2.heap.size, 0, none⟩) ∧ ∃ x : Int, LF 2 w g wc w1.heap.size w2.heap.size m M [.int .i64 a, .int .i64 q, .int .i64 x, .int .i64 sl, .int .i64 mb])
      case first =>
        first
        | go_region_held_law (fun u => P u ∧ u.cell? ⟨w1.heap.size, 2, none⟩ = some (.slice m.Am m.nm m.cm) ∧ u.cell? ⟨w2.heap.size, 1, none⟩ = some (.int .i64 q) ∧ u.cell? ⟨bm, q * 3, none⟩ = some (.int .i64 R)) (first | (with_reducible exact HC.out _ hV) | (with_reducible refine HC.out _ ?_; with_reducible assumption) | (with_reducible refine HC.out _ ?_; with_reducible refine PS.out _ _ ?_; with_reducible assumption)) (first
          | (go_at_call 33; (have hgv : P _ := And.left (‹P _ ∧ _›)); (refine (next_any g _ _ (PR.out _ hgv)).mono ?_); rintro e cc ⟨z, rfl, hz, dx⟩; (have hv := PD.out _ _ hgv dx); (try (have hzi : (z : Int) < 30 := by omega)); (have HV9 := Lib.hid hv); (have xf9 := (PX.out _ hv).1); (obtain ⟨y9, xc9⟩ := (PX.out _ hv).2); clear hgv dx))
        | fail
        all_goals
          go_wp2_with fail
          go_meet
          exact ⟨rfl, PL.out _ (PS.out _ _ HV9.out)⟩
      case rest =>
        obtain ⟨rfl, s1, lf⟩ := hcut
        obtain ⟨v1, hv9⟩ : ∃ v, v = wc := ⟨_, rfl⟩
        subst hv9
        replace L := Lib.hid lf
        clear lf
        clear HC hV PL PD PS PR PX P
        go_upto_region 8 with fail
        obtain ⟨P, hP⟩ : ∃ P : World → Prop, P = fun u => ∃ x : Int, LF 2 w g u w1.heap.size w2.heap.size m M [.int .i64 a, .int .i64 q, .int .i64 s1, .int .i64 x, .int .i64 mb] := ⟨_, rfl⟩
        have PL := Lib.hid (show ∀ u, P u → ∃ x : Int, LF 2 w g u w1.heap.size w2.heap.size m M [.int .i64 a, .int .i64 q, .int .i64 s1, .int .i64 x, .int .i64 mb] from fun u h => by rw [hP] at h; exact h)
        have PD := Lib.hid (show ∀ u u', P u → Dr u g u' → P u' from fun u u' h d => by rw [hP] at h ⊢; obtain ⟨x, l⟩ := h; exact ⟨x, l.draw d hl⟩)
        have PS := Lib.hid (show ∀ u (v : Int), P u → P (u.setCell ⟨w2.heap.size, 3, none⟩ (.int .i64 v)) from fun u v h => by rw [hP] at h ⊢; obtain ⟨x, l⟩ := h; exact ⟨v, l.put hl 3 (.int .i64 v)⟩)
        have PR := Lib.hid (show ∀ u, P u → Src u g from fun u h => by rw [hP] at h; obtain ⟨x, l⟩ := h; exact l.d.src)
        have PX := Lib.hid (show ∀ u, P u → (∀ j, u.frozen? ⟨w2.heap.size, j, none⟩ = false) ∧ ∃ x : Int, u.cell? ⟨w2.heap.size, 3, none⟩ = some (.int .i64 x) from fun u h => by rw [hP] at h; obtain ⟨x, l⟩ := h; exact ⟨l.x.free, x, l.x.c 3 rfl⟩)
        have HC := Lib.hid (show ∀ u, P u → (P u ∧ u.cell? ⟨w1.heap.size, 2, none⟩ = some (.slice m.Am m.nm m.cm) ∧ u.cell? ⟨w2.heap.size, 1, none⟩ = some (.int .i64 q) ∧ u.cell? ⟨bm, q * 3 + 1, none⟩ = some (.int .i64 S)) from fun u h => ⟨h, by rw [hP] at h; obtain ⟨x, l⟩ := h; exact ⟨l.k.c 2 rfl, l.x.c 1 rfl, (MC.out _ _ l).2⟩⟩)
        have hV : P v1.drew := by rw [hP]; exact ⟨sl, L.out.draw ((Dr.refl L.out.d.src).drew) hl⟩
        clear hP
        go_cut [5] (fun v wc => v = .pointer (some ⟨w2.heap.size, 0, none⟩) ∧ ∃ x : Int, LF 2 w g wc w1.heap.size w2.heap.size m M [.int .i64 a, .int .i64 q, .int .i64 s1, .int .i64 x, .int .i64 mb])
        case first =>
          first
          | go_region_held_law (fun u => P u ∧ u.cell? ⟨w1.heap.size, 2, none⟩ = some (.slice m.Am m.nm m.cm) ∧ u.cell? ⟨w2.heap.size, 1, none⟩ = some (.int .i64 q) ∧ u.cell? ⟨bm, q * 3 + 1, none⟩ = some (.int .i64 S)) (first | (with_reducible exact HC.out _ hV) | (with_reducible refine HC.out _ ?_; with_reducible assumption) | (with_reducible refine HC.out _ ?_; with_reducible refine PS.out _ _ ?_; with_reducible assumption)) (first
            | (go_at_call 33; (have hgv : P _ := And.left (‹P _ ∧ _›)); (refine (next_any g _ _ (PR.out _ hgv)).mono ?_); rintro e cc ⟨z, rfl, hz, dx⟩; (have hv := PD.out _ _ hgv dx); (try (have hzi : (z : Int) < 30 := by omega)); (have HV9 := Lib.hid hv); (have xf9 := (PX.out _ hv).1); (obtain ⟨y9, xc9⟩ := (PX.out _ hv).2); clear hgv dx))
          | fail
          all_goals
            go_wp2_with fail
            go_meet
            exact ⟨rfl, PL.out _ (PS.out _ _ HV9.out)⟩
        case rest =>
          obtain ⟨rfl, s2, lf⟩ := hcut
          obtain ⟨v2, hv9⟩ : ∃ v, v = wc := ⟨_, rfl⟩
          subst hv9
          replace L := Lib.hid lf
          clear lf
          clear HC hV PL PD PS PR PX P MC hA
          have c1 := L.out.k.c 1 rfl
          go_wp2_with fail
          refine (l10Active_w m.An m.nn m.cn M.ns _ L.out.v.reads.rn (by have := L.out.v.bn; omega) OKN.out).mono ?_
          rintro e w9 ⟨rfl, rfl⟩
          clear c1
          have xf := L.out.x.free
          have xc := L.out.x.c 4 rfl
          go_upto_region 10 with fail
          obtain ⟨vA, hvA⟩ : ∃ v, v = v2.setCell ⟨w2.heap.size, 4, none⟩ (.int .i64 ((actV M.ns : Nat) : Int)) := ⟨_, rfl⟩
          replace L := Lib.hid (show LF 2 w g vA w1.heap.size w2.heap.size m M [.int .i64 a, .int .i64 q, .int .i64 s1, .int .i64 s2, .int .i64 ((actV M.ns : Nat) : Int)] from hvA ▸ L.out.put hl 4 (.int .i64 ((actV M.ns : Nat) : Int)))
          rw [← hvA]
          clear hvA xf xc
          obtain ⟨AC, hAC⟩ : ∃ v : Int, ((actV M.ns : Nat) : Int) = v := ⟨_, rfl⟩
          rw [hAC] at L
          clear hAC
          go_wp2_with fail
          refine (next_any g 3 _ L.out.d.src).mono ?_
          rintro e vB ⟨p3, rfl, hp3, dd⟩
          replace L := Lib.hid (L.out.draw dd hl)
          clear dd
          go_upto_if 63 with fail
          go_cut [5] (fun v wc => v = .pointer (some ⟨w2.heap.size, 0, none⟩) ∧ ∃ x : Int, LF 2 w g wc w1.heap.size w2.heap.size m M [.int .i64 a, .int .i64 q, .int .i64 s1, .int .i64 s2, .int .i64 x])
          case first =>
            by_cases hp30 : p3 = 0
            case pos =>
              subst hp30
              have xf0 := L.out.x.free
              have xc0 := L.out.x.c 4 rfl
              go_upto_region 11 with fail
              obtain ⟨P, hP⟩ : ∃ P : World → Prop, P = fun u => ∃ x : Int, LF 2 w g u w1.heap.size w2.heap.size m M [.int .i64 a, .int .i64 q, .int .i64 s1, .int .i64 s2, .int .i64 x] := ⟨_, rfl⟩
              have PL := Lib.hid (show ∀ u, P u → ∃ x : Int, LF 2 w g u w1.heap.size w2.heap.size m M [.int .i64 a, .int .i64 q, .int .i64 s1, .int .i64 s2, .int .i64 x] from fun u h => by rw [hP] at h; exact h)
              have PD := Lib.hid (show ∀ u u', P u → Dr u g u' → P u' from fun u u' h d => by rw [hP] at h ⊢; obtain ⟨x, l⟩ := h; exact ⟨x, l.draw d hl⟩)
              have PS := Lib.hid (show ∀ u (v : Int), P u → P (u.setCell ⟨w2.heap.size, 4, none⟩ (.int .i64 v)) from fun u v h => by rw [hP] at h ⊢; obtain ⟨x, l⟩ := h; exact ⟨v, l.put hl 4 (.int .i64 v)⟩)
              have PR := Lib.hid (show ∀ u, P u → Src u g from fun u h => by rw [hP] at h; obtain ⟨x, l⟩ := h; exact l.d.src)
              have PX := Lib.hid (show ∀ u, P u → (∀ j, u.frozen? ⟨w2.heap.size, j, none⟩ = false) ∧ ∃ x : Int, u.cell? ⟨w2.heap.size, 4, none⟩ = some (.int .i64 x) from fun u h => by rw [hP] at h; obtain ⟨x, l⟩ := h; exact ⟨l.x.free, x, l.x.c 4 rfl⟩)
              have HC := Lib.hid (show ∀ u, P u → (P u ∧ u.cell? ⟨w1.heap.size, 2, none⟩ = some (.slice m.Am m.nm m.cm)) from fun u h => ⟨h, by rw [hP] at h; obtain ⟨x, l⟩ := h; exact l.k.c 2 rfl⟩)
              have hV : P vB.drew := by rw [hP]; exact ⟨AC, L.out.draw ((Dr.refl L.out.d.src).drew) hl⟩
              clear hP
              first
              | go_region_law (first
                | (go_simp; (refine (next_any g _ _ (PR.out _ hV)).mono ?_); rintro e cc ⟨z, rfl, hz, dx⟩; (have hv := PD.out _ _ hV dx); (have HV9 := Lib.hid hv); (have xf9 := (PX.out _ hv).1); (obtain ⟨y9, xc9⟩ := (PX.out _ hv).2); clear dx))
              | fail
              all_goals
                go_wp2_with fail
                go_meet
                exact ⟨rfl, PL.out _ (PS.out _ _ HV9.out)⟩
            case neg =>
              have hb0 : ((p3 : Int) == 0) = false := by simp; omega
              go_wp2_with fail
              go_meet
              exact ⟨rfl, _, L.out⟩
          case rest =>
            obtain ⟨rfl, s3, lf⟩ := hcut
            obtain ⟨v3, hv9⟩ : ∃ v, v = wc := ⟨_, rfl⟩
            subst hv9
            replace L := Lib.hid lf
            clear lf
            go_wp2_with fail
            refine (next_any g 30 _ L.out.d.src).mono ?_
            rintro e vC ⟨p4, rfl, hp4, dd⟩
            replace L := Lib.hid (L.out.draw dd hl)
            clear dd
            go_upto_if 72 with fail
            go_cut [5] (fun v wc => v = .pointer (some ⟨w2.heap.size, 0, none⟩) ∧ ∃ x : Int, LF 2 w g wc w1.heap.size w2.heap.size m M [.int .i64 a, .int .i64 q, .int .i64 s1, .int .i64 s2, .int .i64 x])
            case first =>
              by_cases hp40 : p4 = 0
              case pos =>
                subst hp40
                have xf0 := L.out.x.free
                have xc0 := L.out.x.c 4 rfl
                go_upto_region 13 with fail
                obtain ⟨P, hP⟩ : ∃ P : World → Prop, P = fun u => ∃ x : Int, LF 2 w g u w1.heap.size w2.heap.size m M [.int .i64 a, .int .i64 q, .int .i64 s1, .int .i64 s2, .int .i64 x] := ⟨_, rfl⟩
                have PL := Lib.hid (show ∀ u, P u → ∃ x : Int, LF 2 w g u w1.heap.size w2.heap.size m M [.int .i64 a, .int .i64 q, .int .i64 s1, .int .i64 s2, .int .i64 x] from fun u h => by rw [hP] at h; exact h)
                have PD := Lib.hid (show ∀ u u', P u → Dr u g u' → P u' from fun u u' h d => by rw [hP] at h ⊢; obtain ⟨x, l⟩ := h; exact ⟨x, l.draw d hl⟩)
                have PS := Lib.hid (show ∀ u (v : Int), P u → P (u.setCell ⟨w2.heap.size, 4, none⟩ (.int .i64 v)) from fun u v h => by rw [hP] at h ⊢; obtain ⟨x, l⟩ := h; exact ⟨v, l.put hl 4 (.int .i64 v)⟩)
                have PR := Lib.hid (show ∀ u, P u → Src u g from fun u h => by rw [hP] at h; obtain ⟨x, l⟩ := h; exact l.d.src)
                have PX := Lib.hid (show ∀ u, P u → (∀ j, u.frozen? ⟨w2.heap.size, j, none⟩ = false) ∧ ∃ x : Int, u.cell? ⟨w2.heap.size, 4, none⟩ = some (.int .i64 x) from fun u h => by rw [hP] at h; obtain ⟨x, l⟩ := h; exact ⟨l.x.free, x, l.x.c 4 rfl⟩)
                have HC := Lib.hid (show ∀ u, P u → (P u ∧ u.cell? ⟨w1.heap.size, 2, none⟩ = some (.slice m.Am m.nm m.cm)) from fun u h => ⟨h, by rw [hP] at h; obtain ⟨x, l⟩ := h; exact l.k.c 2 rfl⟩)
                have hV : P vC.drew := by rw [hP]; exact ⟨s3, L.out.draw ((Dr.refl L.out.d.src).drew) hl⟩
                clear hP
                first
                | go_region_law (first
                  | (go_simp; (refine (next_any g _ _ (PR.out _ hV)).mono ?_); rintro e cc ⟨z, rfl, hz, dx⟩; (have hv := PD.out _ _ hV dx); (have HV9 := Lib.hid hv); (have xf9 := (PX.out _ hv).1); (obtain ⟨y9, xc9⟩ := (PX.out _ hv).2); clear dx))
                | fail
                all_goals
                  go_wp2_with fail
                  go_meet
                  exact ⟨rfl, PL.out _ (PS.out _ _ HV9.out)⟩
              case neg =>
                have hb0 : ((p4 : Int) == 0) = false := by simp; omega
                go_wp2_with fail
                go_meet
                exact ⟨rfl, _, L.out⟩
            case rest =>
              obtain ⟨rfl, s4, lf⟩ := hcut
              obtain ⟨v4, hv9⟩ : ∃ v, v = wc := ⟨_, rfl⟩
              subst hv9
              replace L := Lib.hid lf
              clear lf
              clear hp3 hp4 hqi hRi hSi hR8 hS16 hm1 hm16 hqn OKN hb
              have c0 := L.out.k.c 0 rfl; have c1 := L.out.k.c 1 rfl; have c2 := L.out.k.c 2 rfl; have c3 := L.out.k.c 3 rfl
              have x0 := L.out.x.c 0 rfl; have x1 := L.out.x.c 1 rfl; have x2 := L.out.x.c 2 rfl; have x3 := L.out.x.c 3 rfl; have x4 := L.out.x.c 4 rfl
              have rf := L.out.r.free; have sf := L.out.s.free
              have hk1 := L.out.h1; have hk2 := L.out.h2
              have n1 : ¬ w1.heap.size = w.heap.size := by omega
              have n2 : ¬ w2.heap.size = w.heap.size := by omega
              have n3 : ¬ w1.heap.size = w.heap.size + 1 := by omega
              have n4 : ¬ w2.heap.size = w.heap.size + 1 := by omega
              have rc0 := L.out.r.c 0 rfl; have rc1 := L.out.r.c 1 rfl; have rc2 := L.out.r.c 2 rfl; have rc3 := L.out.r.c 3 rfl
              have sc0 := L.out.s.c 0 rfl; have sc1 := L.out.s.c 1 rfl; have sc2 := L.out.s.c 2 rfl; have sc3 := L.out.s.c 3 rfl; have sc4 := L.out.s.c 4 rfl
              go_upto_region 14 with fail
              first
              | go_region_law (fail)
              | fail
              all_goals
                obtain ⟨v9, hv9⟩ : ∃ v, v = (((((((((v4.setCell ⟨w.heap.size, 0, none⟩ (.int .i64 m.id)).setCell ⟨w.heap.size, 1, none⟩ (.slice m.An m.nn m.cn)).setCell ⟨w.heap.size, 2, none⟩ (.slice m.Am m.nm m.cm)).setCell ⟨w.heap.size, 3, none⟩ (.slice m.As m.ns m.cs)).setCell ⟨w.heap.size + 1, 0, none⟩ (.int .i64 a)).setCell ⟨w.heap.size + 1, 1, none⟩ (.int .i64 q)).setCell ⟨w.heap.size + 1, 2, none⟩ (.int .i64 s1)).setCell ⟨w.heap.size + 1, 3, none⟩ (.int .i64 s2)).setCell ⟨w.heap.size + 1, 4, none⟩ (.int .i64 s4)).drew := ⟨_, rfl⟩
                have le : LE 2 w g v9 m M [.int .i64 m.id, .slice m.An m.nn m.cn, .slice m.Am m.nm m.cm, .slice m.As m.ns m.cs] [.int .i64 a, .int .i64 q, .int .i64 s1, .int .i64 s2, .int .i64 s4] := by rw [hv9]; exact LE.drew ((((((((((LE.of L.out).setR hl 0 _).setR hl 1 _).setR hl 2 _).setR hl 3 _).setS hl 0 _).setS hl 1 _).setS hl 2 _).setS hl 3 _).setS hl 4 _)
                rw [← hv9]
                clear hv9 L c0 c1 c2 c3 x0 x1 x2 x3 x4 rf sf rc0 rc1 rc2 rc3 sc0 sc1 sc2 sc3 sc4
                refine (‹∀ (a : Act) (w_1 : World), Code.wp Tryz.prog Code.ret _ a w_1 → _›) _ _ ?_
                refine wp_ret ?_
                have q0 := le.r.c 0 rfl; have q1 := le.r.c 1 rfl; have q2 := le.r.c 2 rfl; have q3 := le.r.c 3 rfl
                have y0 := le.s.c 0 rfl; have y1 := le.s.c 1 rfl; have y2 := le.s.c 2 rfl; have y3 := le.s.c 3 rfl; have y4 := le.s.c 4 rfl
                exact bodyPost_ret (v := .tuple #[.agg #[.int .i64 m.id, .slice m.An m.nn m.cn, .slice m.Am m.nm m.cm, .slice m.As m.ns m.cs], .agg #[.int .i64 a, .int .i64 q, .int .i64 s1, .int .i64 s2, .int .i64 s4]]) (by simp [results, Tryz.results49, go_sem, q0, q1, q2, q3, y0, y1, y2, y3, y4]) rfl ⟨m, M, _, _, _, _, _, rfl, le.v.weaken (Nat.le_add_right _ _), le.d⟩
end Go.Proofs.YtbaojbheopcjhaaGreatDoor

namespace Go.Proofs.YtbaojbheopcjhaaGreatDoor
open Go.RowKit
def zF : List Value := [.int .i64 0, .int .i64 0, .int .i64 0, .int .i64 0, .int .i64 0, .int .i64 0, .int .i64 0, .slice none 0 0]
/-- a schedule and a state in their boxes, ahead of three boxes of results -/
structure LG (w0 : World) (g : Nat) (w : World) (k1 k2 : Nat) (m : Mdv) (M : Mdl) (X : List Value) : Prop where
  f : LF 3 w0 g w k1 k2 m M X
  t : BlkL w (w0.heap.size + 2) 33 zF
namespace LG
variable {w0 w w' : World} {g k1 k2 : Nat} {m : Mdv} {M : Mdl} {X : List Value}
theorem draw (h : LG w0 g w k1 k2 m M X) (d : Dr w g w') (hl : g < w0.heap.size) : LG w0 g w' k1 k2 m M X := ⟨h.f.draw d hl, h.t.dr d (by omega)⟩
theorem below (h : LG w0 g w k1 k2 m M X) (hb : Below w.heap.size w w') : LG w0 g w' k1 k2 m M X := ⟨h.f.below hb, h.t.next hb⟩
theorem put (h : LG w0 g w k1 k2 m M X) (hl : g < w0.heap.size) (j : Nat) (v : Value) : LG w0 g (w.setCell ⟨k2, j, none⟩ v) k1 k2 m M (X.set j v) := by
  have b := h.f.h1; have c := h.f.h2
  exact ⟨h.f.put hl j v, h.t.other (p := ⟨k2, j, none⟩) (by show ¬ k2 = _; omega) _⟩
end LG
/-- a frame in its box with its data in a row, both made since wB -/
structure LD (wB : World) (g : Nat) (u : World) (fb : Nat) (Y : List Value) (A : Option Addr) (n c : Nat) (zs : List Int) : Prop where
  d : Dr wB g u
  b : BlkL u fb 33 Y
  o : OwnI 2 u wB.heap.size A n c zs
  h : wB.heap.size ≤ fb
namespace LD
variable {wB u u' : World} {g fb n c : Nat} {Y : List Value} {A : Option Addr} {zs : List Int}
theorem draw (h : LD wB g u fb Y A n c zs) (d : Dr u g u') (hl : g < wB.heap.size) : LD wB g u' fb Y A n c zs :=
  ⟨d.next h.d, h.b.dr d (by have := h.h; omega), h.o.dr d hl, h.h⟩
theorem put (h : LD wB g u fb Y A n c zs) (hl : g < wB.heap.size) (j : Nat) (v : Value) : LD wB g (u.setCell ⟨fb, j, none⟩ v) fb (Y.set j v) A n c zs :=
  ⟨h.d.set (p := ⟨fb, j, none⟩) h.h hl _, h.b.set j v, h.o.boxed h.b (by decide) j v, h.h⟩
theorem row {b : Nat} (h : LD wB g u fb Y (some ⟨b, 0, none⟩) n c zs) (hl : g < wB.heap.size) (i : Nat) (z : Int) : LD wB g (u.setCell ⟨b, i, none⟩ (.int .i64 z)) fb Y (some ⟨b, 0, none⟩) n c (zs.set i z) := by
  have hb := (h.o.block b 0 rfl).2
  have hne : ¬ b = fb := fun e => h.o.ne_box h.b (by decide) b 0 rfl (by rw [e])
  exact ⟨h.d.set (p := ⟨b, i, none⟩) hb.1 hl _, h.b.other (p := ⟨b, i, none⟩) hne _, (h.o.stored i z).1, h.h⟩
end LD
/-- the three results' boxes in the work -/
structure LT (w0 : World) (g : Nat) (w : World) (m : Mdv) (M : Mdl) (L1 L2 L3 : List Value) (A : Option Addr) (n c : Nat) (zs : List Int) : Prop where
  e : LE 3 w0 g w m M L1 L2
  t : BlkL w (w0.heap.size + 2) 33 L3
  o : OwnI 2 w (w0.heap.size + 3) A n c zs
namespace LT
variable {w0 w w' : World} {g k1 k2 n c : Nat} {m : Mdv} {M : Mdl} {X L1 L2 L3 : List Value} {A : Option Addr} {zs : List Int}
theorem of (h : LG w0 g w k1 k2 m M X) (o : OwnI 2 w (w0.heap.size + 3) A n c zs) : LT w0 g w m M zM zS zF A n c zs := ⟨LE.of h.f, h.t, o⟩
theorem drew (h : LT w0 g w m M L1 L2 L3 A n c zs) : LT w0 g w.drew m M L1 L2 L3 A n c zs := ⟨h.e.drew, h.t, h.o⟩
theorem setR (h : LT w0 g w m M L1 L2 L3 A n c zs) (hl : g < w0.heap.size) (j : Nat) (v : Value) : LT w0 g (w.setCell ⟨w0.heap.size, j, none⟩ v) m M (L1.set j v) L2 L3 A n c zs :=
  ⟨h.e.setR hl j v, h.t.other (p := ⟨w0.heap.size, j, none⟩) (by show ¬ w0.heap.size = _; omega) v, h.o.other (p := ⟨w0.heap.size, j, none⟩) (by show w0.heap.size < _; omega) v⟩
theorem setS (h : LT w0 g w m M L1 L2 L3 A n c zs) (hl : g < w0.heap.size) (j : Nat) (v : Value) : LT w0 g (w.setCell ⟨w0.heap.size + 1, j, none⟩ v) m M L1 (L2.set j v) L3 A n c zs :=
  ⟨h.e.setS hl j v, h.t.other (p := ⟨w0.heap.size + 1, j, none⟩) (by show ¬ w0.heap.size + 1 = _; omega) v, h.o.other (p := ⟨w0.heap.size + 1, j, none⟩) (by show w0.heap.size + 1 < _; omega) v⟩
theorem setT (h : LT w0 g w m M L1 L2 L3 A n c zs) (hl : g < w0.heap.size) (j : Nat) (v : Value) : LT w0 g (w.setCell ⟨w0.heap.size + 2, j, none⟩ v) m M L1 L2 (L3.set j v) A n c zs := by
  have q := h.e
  exact ⟨⟨q.v.other (p := ⟨w0.heap.size + 2, j, none⟩) (by show w0.heap.size + 2 < _; omega) v, q.r.other (p := ⟨w0.heap.size + 2, j, none⟩) (by show ¬ w0.heap.size + 2 = _; omega) v, q.s.other (p := ⟨w0.heap.size + 2, j, none⟩) (by show ¬ w0.heap.size + 2 = _; omega) v, q.d.set (p := ⟨w0.heap.size + 2, j, none⟩) (by show _ ≤ w0.heap.size + 2; omega) hl v, q.hN⟩, h.t.set j v, h.o.other (p := ⟨w0.heap.size + 2, j, none⟩) (by show w0.heap.size + 2 < _; omega) v⟩
end LT
end Go.Proofs.YtbaojbheopcjhaaGreatDoor
