/- Walks, laws and small notions for the claims of this seat, several texts as one (DrV). Conditions: as each theorem states them. -/
import Derived.Test.YtbaojbheopcjhaaGreatDoorB54
import Derived.Test.YtbaojbheopcjhaaGreatDoorB49
import Derived.Deep.RegionHeldLaw
import Derived.Deep.DeepCutAuto
import Derived.Deep.CutBlock
import Derived.Deep.RegionLaw
namespace Go.Proofs.YtbaojbheopcjhaaGreatDoor
open Go.RowKit
section
variable {P : Program} {ops : Array Oper} {o : Oper} {a : Act} {W : World} {K : Act → World → Prop} {Q : Exit → Act → World → Prop} {E : Prop} {α : Type}
/-- 'out = append(out, y)' as a step of a region that draws: elements of several cells -/
theorem step_appK (dst : Option Nat) (hd : o.dst = dst) (enc : α → List Value) (sz : Nat) (hk : ∀ x, (enc x).length = sz) (h1c : ∀ x, ∀ u ∈ enc x, u.oneCell' = true) {TS T : TypeId} {z : Value} {bytes : Nat}
    (ht : P.underlying TS = some (.slice T)) (hinfo : (P.info? T).map (fun i => (i.zero, i.size, i.bytes)) = some (some z, sz, bytes)) (hzs : z.cells.size = sz) (hsz : 0 < sz) (hby : bytes ≤ 128)
    (hgd : o.guard = none) (s x : Operand) (ho : o.op = .call { callee := .builtin .append, args := #[s, x], argTypes := #[TS, TS] })
    (base : Nat) (A : Option Addr) (n c : Nat) (xs : List α) (hs : a.eval s = .slice A n c) (hown : OwnE enc sz T W base A n c xs)
    (ad : Addr) (c' : Nat) (y : α) (hx : a.eval x = .slice (some ad) 1 c') (hcell : ∀ j u, (enc y)[j]? = some u → W.cell? (ad.add j) = some u)
    (hn : n + 1 ≤ 1099511627776) (hbase : base ≤ W.heap.size)
    (h : ∀ A' c' w', OwnE enc sz T w' base A' (n + 1) c' (xs ++ [y]) → W.grownBy w' (Value.slice A n c).ownBlock → K (a.put dst (.slice A' (n + 1) c')) w') :
    if Region.wanted o (yielded ops a.tmps) = true then Oper.wp P o a W K Q else E := by
  subst hd
  have hw : Region.wanted o (yielded ops a.tmps) = true := by simp [Region.wanted, hgd]
  rw [if_pos hw]
  obtain ⟨i, hi, hz, hs1, hb1⟩ := info_split hinfo
  refine wp_append_own W s x TS ho base T i z sz bytes ht hi hz hs1 hb1 hzs hsz (.slice A n c) n _ hs hown.2 ad 1 c' (enc y) hx (by rw [hk, Nat.one_mul]) hcell (h1c y) ?_ ?_ hbase ?_
  · simp only [maxLen]; omega
  · have : (n + 1) * bytes ≤ (n + 1) * 128 := Nat.mul_le_mul_left _ hby
    omega
  · intro v' w' hown' hg _
    rcases hown'.2 with ⟨h1, h2⟩ | ⟨g, cap, cur, hv, hrest⟩
    · omega
    · subst hv
      exact h _ _ _ ⟨by rw [List.length_append, hown.1]; rfl, by rw [List.flatMap_append, List.flatMap_singleton]; exact hown'⟩ hg
end
theorem OwnE.drew8 {α : Type} {enc : α → List Value} {sz : Nat} {T : TypeId} {w : World} {base n c : Nat} {A : Option Addr} {xs : List α} (h : OwnE enc sz T w base A n c xs) : OwnE enc sz T w.drew base A n c xs := h
theorem DV.mcells {w : World} {base b i : Nat} {m : Mdv} {M : Mdl} (h : ∃ hs, OMd 5 w base m.Am m.nm m.cm hs ∧ M.ms = hs.map (·.k)) (hA : m.Am = some ⟨b, 0, none⟩) (hi : i < m.nm) : w.cell? ⟨b, i * 3, none⟩ = some (.int .i64 (ge M.ms i).rd) ∧ w.cell? ⟨b, i * 3 + 1, none⟩ = some (.int .i64 (ge M.ms i).sl) := by
  obtain ⟨hs, a, e⟩ := h
  have a1 := a.1
  rw [hA] at a1
  have hl : i < hs.length := by rw [a1.len]; exact hi
  have hk : ge M.ms i = (ge hs i).k := by
    rw [e, ge_lt (by rw [List.length_map]; exact hl), List.getElem_map, ge_lt hl]
  rw [hk]
  exact ⟨a1.cell encMh_len (i := i) (j := 0) hi (by omega), a1.cell encMh_len (i := i) (j := 1) hi (by omega)⟩
/-- a schedule in the work whose slots are being made anew -/
structure LU (w0 : World) (g : Nat) (w : World) (mb : Nat) (m : Mdv) (M : Mdl) : Prop where
  id : M.id = m.id
  on : OwnE encNd 4 84 w (w0.heap.size + 1) m.An m.nn m.cn M.ns
  om : ∃ hs, OMd 5 w (w0.heap.size + 1) m.Am m.nm m.cm hs ∧ M.ms = hs.map (·.k)
  nm : ∀ x ∈ M.ns, x.nm.size ≤ 30
  bn : m.nn ≤ 200
  bm : m.nm ≤ 200
  k : BlkL w mb 28 [.int .i64 m.id, .slice m.An m.nn m.cn, .slice m.Am m.nm m.cm, .slice m.As m.ns m.cs]
  r : BlkL w w0.heap.size 28 [.int .i64 0, .slice none 0 0, .slice none 0 0, .slice none 0 0]
  d : Dr w0 g w
  h : w0.heap.size < mb
namespace LU
variable {w0 w w' : World} {g mb : Nat} {m : Mdv} {M : Mdl}
theorem of (h : LV w0 g w mb m M) : LU w0 g w mb m M := ⟨h.v.id, h.v.on, h.v.om, h.v.nm, h.v.bn, h.v.bm, h.k, h.r, h.d, h.h⟩
theorem alloc (h : LU w0 g w mb m M) (o : Obj) : LU w0 g (w.alloc o) mb m M :=
  let ⟨hs, a, b⟩ := h.om
  ⟨h.id, h.on.alloc o, ⟨hs, a.alloc o, b⟩, h.nm, h.bn, h.bm, h.k.alloc o, h.r.alloc o, h.d.alloc o, h.h⟩
theorem draw (h : LU w0 g w mb m M) (d : Dr w g w') (hl : g < w0.heap.size) : LU w0 g w' mb m M :=
  let ⟨hs, a, b⟩ := h.om
  ⟨h.id, h.on.dr d (by omega), ⟨hs, a.dr d (by omega), b⟩, h.nm, h.bn, h.bm, h.k.dr d (by have := h.h; omega), h.r.dr d (by omega), d.next h.d, h.h⟩
theorem drewN (h : LU w0 g w mb m M) (k : Nat) : LU w0 g (w.drewN k) mb m M := ⟨h.id, h.on, h.om, h.nm, h.bn, h.bm, h.k, h.r, h.d.drewN k, h.h⟩
theorem drew (h : LU w0 g w mb m M) : LU w0 g w.drew mb m M := ⟨h.id, h.on, h.om, h.nm, h.bn, h.bm, h.k, h.r, h.d.drew, h.h⟩
theorem slot (h : LU w0 g w mb m M) (hl : g < w0.heap.size) {A : Option Addr} {n c : Nat} {ss : List Sl} (ho : OwnE encSl 8 102 w (w0.heap.size + 1) A n c ss) (hg : w.grownBy w' (Value.slice A n c).ownBlock) : LU w0 g w' mb m M :=
  let ⟨hs, a, b⟩ := h.om
  ⟨h.id, h.on.beside ho hg (by decide), ⟨hs, a.beside ho hg (by decide) (by decide), b⟩, h.nm, h.bn, h.bm, h.k.beside ho hg (by decide), h.r.beside ho hg (by decide), h.d.appG (ho.weaken (Nat.le_succ _)) hg hl, h.h⟩
theorem done (h : LU w0 g w mb m M) (hl : g < w0.heap.size) {A : Option Addr} {n c : Nat} {ss : List Sl} (ho : OwnE encSl 8 102 w (w0.heap.size + 1) A n c ss) (hn : n ≤ 200) : LV w0 g (w.setCell ⟨mb, 3, none⟩ (.slice A n c)) mb ⟨m.id, m.An, m.nn, m.cn, m.Am, m.nm, m.cm, A, n, c⟩ ⟨m.id, M.ns, M.ms, ss⟩ := by
  obtain ⟨hs, a, b⟩ := h.om
  have hh := h.h
  exact ⟨⟨rfl, h.on.boxed h.k (by decide) 3 _, ⟨hs, a.boxed h.k 3 _, b⟩, ⟨A, n, c, ss, ho.boxed h.k (by decide) 3 _, fun v B hr => hr⟩, h.nm, h.bn, h.bm, hn⟩, h.k.set 3 _, h.r.other (p := ⟨mb, 3, none⟩) (by show ¬ mb = _; omega) _, h.d.set (p := ⟨mb, 3, none⟩) (by show _ ≤ mb; omega) hl _, h.h⟩
end LU
/-- a drawn schedule -/
def DrV (w : World) (g : Nat) (e : Ending) (w' : World) : Prop :=
  ∃ (m : Mdv) (M : Mdl), e = .returned (.agg #[.int .i64 m.id, .slice m.An m.nn m.cn, .slice m.Am m.nm m.cm, .slice m.As m.ns m.cs]) ∧ DV w' w.heap.size m M ∧ Dr w g w'
set_option maxRecDepth 20000 in
set_option maxHeartbeats 16000000 in
theorem drawMedlAny_any (g : Nat) (w : World) (h : Src w g) :
    Calls Tryz.prog 84 #[.pointer (some ⟨g, 0, none⟩)] w (DrV w g) := by
  have hl := h.lt
  go_enter Tryz.func84, Tryz.ntmps84
  go_wp2_with fail
  refine (drawMedl_any g _ ((Dr.refl h).alloc _).src).mono ?_
  rintro e w1 ⟨m, ns, hs, ss, rfl, dm, hn4, hm4, hs1, hs2, d1⟩
  have D1 := d1.next ((Dr.refl h).alloc _)
  have R1 := (BlkL.new w 28 #[.int .i64 0, .slice none 0 0, .slice none 0 0, .slice none 0 0] rfl).dr d1 (by omega)
  have hR1 := R1.lt
  obtain ⟨b, hb, hb1, hb2⟩ := dm.os.form (by omega)
  have cN := dm.om
  obtain ⟨u1, hu1⟩ : ∃ v, v = w1.alloc (.cells #[.int .i64 m.id, .slice m.An m.nn m.cn, .slice m.Am m.nm m.cm, .slice m.As m.ns m.cs] 28) := ⟨_, rfl⟩
  have L := Lib.hid (show ∃ M, LS w g u1 w1.heap.size b m M from by
    rw [hu1]
    rw [isz_alloc] at dm hb1
    have q := dm.os
    rw [hb] at q
    exact ⟨⟨m.id, ns, hs.map (·.k), ss⟩, ⟨⟨⟨rfl, dm.on.alloc _, ⟨hs, (dm.om.mono (by omega)).alloc _, rfl⟩, ⟨_, _, _, _, dm.os.alloc _, fun v B hr => hr⟩, dm.nm, by omega, by omega, by omega⟩, BlkL.new _ _ _ rfl, R1.alloc _, D1.alloc _, hR1⟩, hb, q.alloc _⟩⟩)
  obtain ⟨M, L⟩ := L.out
  replace L := Lib.hid L
  clear dm d1 D1 R1 hb1 hb2 cN hb
  have c3 := L.out.l.k.c 3 rfl
  go_upto_region 2 with fail
  rw [← hu1]
  clear hu1
  go_wp2_with fail
  refine (next_any g m.ns _ L.out.l.d.src).mono ?_
  rintro e w2 ⟨k, rfl, hk, dd⟩
  replace L := Lib.hid (L.out.draw dd hl)
  have hkn : k < m.ns := by omega
  have hki : (k : Int) < (m.ns : Int) := by omega
  clear dd hk c3
  go_wp2_with fail
  refine (next_any g 30 _ L.out.l.d.src).mono ?_
  rintro e w3 ⟨x, rfl, hx, dd⟩
  replace L := Lib.hid (L.out.draw dd hl)
  clear dd hx
  have hg1 : w.heap.size + 1 ≤ w3.heap.size := by have := L.out.l.k.lt; omega
  go_upto_block 0 with fail
  go_cut [3] (fun v wc => v = .pointer (some ⟨w1.heap.size, 0, none⟩) ∧ ∃ m' M', LV w g wc w1.heap.size m' M')
  case first =>
    by_cases h0 : x = 0
    case pos =>
      subst h0
      go_wp2_with fail
      refine (next_any g 3 _ (L.out.alloc _).l.d.src).mono ?_
      rintro e w4 ⟨y, rfl, hy, dd⟩
      obtain ⟨u, _, hc⟩ := pick_cell (L := [0, 16777215, 16777216]) dd.gr L.out.l.d.lt (x := y) (by simp; omega)
      have hy3 : y < 3 := by omega
      replace L := Lib.hid ((L.out.alloc _).draw dd hl)
      clear dd hy
      have kf := L.out.l.k.free
      have k0 := L.out.l.k.c 0 rfl
      go_wp2_with fail
      go_meet
      exact ⟨rfl, _, _, L.out.l.setId hl u⟩
    have b0 : ((x : Int) == 0) = false := by simp; omega
    by_cases h1 : x = 1
    case pos =>
      subst h1
      go_wp2_with fail
      refine (drawNodesAny_any g _ L.out.l.d.src).mono ?_
      rintro e w4 ⟨A, n, c, l, rfl, ho, hn, hnm, dd⟩
      replace L := Lib.hid (L.out.draw dd hl)
      have O := Lib.hid (ho.weaken hg1)
      clear dd ho
      have kf := L.out.l.k.free
      have k0 := L.out.l.k.c 1 rfl
      go_wp2_with fail
      go_meet
      exact ⟨rfl, _, _, L.out.l.setNodes hl O.out (by omega) hnm⟩
    have b1 : ((x : Int) == 1) = false := by simp; omega
    by_cases h2 : x = 2
    case pos =>
      subst h2
      go_wp2_with fail
      refine (drawModesAny_any g _ L.out.l.d.src).mono ?_
      rintro e w4 ⟨A, n, c, hs4, rfl, ho, hn, dd⟩
      replace L := Lib.hid (L.out.draw dd hl)
      have O := Lib.hid (ho.weaken hg1)
      clear dd ho
      have kf := L.out.l.k.free
      have k0 := L.out.l.k.c 2 rfl
      go_wp2_with fail
      go_meet
      exact ⟨rfl, _, _, L.out.l.setModes hl O.out (by omega)⟩
    have b2 : ((x : Int) == 2) = false := by simp; omega
    by_cases h3 : x = 3
    case pos =>
      subst h3
      have kf := L.out.l.k.free
      have k3 := L.out.l.k.c 3 rfl
      rw [L.out.a] at k3
      have hcap := L.out.s.capE
      have hn1i : (1 : Int) ≤ (m.ns : Int) := by omega
      have hc1i : (m.ns : Int) ≤ (m.cs : Int) := by omega
      go_wp2_with fail
      · go_meet
        exact ⟨rfl, _, _, L.out.l.setSlots hl L.out.s (fun v B hr => hr.rest (by omega) (fun h1 => by exfalso; omega)) (by omega)⟩
      · go_meet
        exact ⟨rfl, _, _, L.out.l.setSlots hl L.out.s (fun v B hr => hr.rest (by omega) (fun _ => rfl)) (by omega)⟩
    have b3 : ((x : Int) == 3) = false := by simp; omega
    by_cases h4 : x = 4
    case pos =>
      subst h4
      have k3 := L.out.l.k.c 3 rfl
      rw [L.out.a] at k3
      have hbm : ¬ b = w1.heap.size := fun e => L.out.s.ne_blk L.out.l.k (by decide) (by rw [e]; rfl)
      have hmb : ¬ w1.heap.size = b := fun e => hbm e.symm
      go_upto_region 13 with fail
      first
      | go_region_law (go_simp; (refine (drawDescAny_any g _ L.out.l.d.drew.src).mono ?_); rintro e cc ⟨nd, kd, sz, du, ch, rfl, dx⟩; (have LC := Lib.hid (L.out.drew.draw dx hl)); (have kc := LC.out.l.k.c 3 rfl); (rw [LC.out.a] at kc); (have hfr := LC.out.s.frozen); (have hc3 := LC.out.s.cell encSl_len hkn (j := 3) (by omega)); (have hc4 := LC.out.s.cell encSl_len hkn (j := 4) (by omega)); (have hc5 := LC.out.s.cell encSl_len hkn (j := 5) (by omega)); (have hc6 := LC.out.s.cell encSl_len hkn (j := 6) (by omega)); (have hc7 := LC.out.s.cell encSl_len hkn (j := 7) (by omega)); (simp only [encSl, List.getElem?_cons_zero, List.getElem?_cons_succ] at hc3 hc4 hc5 hc6 hc7); (clear dx))
      | fail
      all_goals
        obtain ⟨M5, l5⟩ := LC.out.putI hl hkn (j := 3) (by omega) (nd)
        obtain ⟨M6, l6⟩ := l5.putI hl hkn (j := 4) (by omega) (kd)
        obtain ⟨M7, l7⟩ := l6.putI hl hkn (j := 5) (by omega) (sz)
        obtain ⟨M8, l8⟩ := l7.putI hl hkn (j := 6) (by omega) (du)
        obtain ⟨M9, l9⟩ := l8.putB hl hkn ch
        go_wp2_with fail
        go_meet
        exact ⟨rfl, _, _, l9.l⟩
    have b4 : ((x : Int) == 4) = false := by simp; omega
    by_cases h5 : x = 5
    case pos =>
      subst h5
      have k3 := L.out.l.k.c 3 rfl
      rw [L.out.a] at k3
      have hbm : ¬ b = w1.heap.size := fun e => L.out.s.ne_blk L.out.l.k (by decide) (by rw [e]; rfl)
      have hmb : ¬ w1.heap.size = b := fun e => hbm e.symm
      have hc6 := L.out.s.cell encSl_len hkn (j := 6) (by omega)
      simp only [encSl, List.getElem?_cons_zero, List.getElem?_cons_succ] at hc6
      have hfr := L.out.s.frozen
      go_upto_region 15 with fail
      first
      | go_region_law (fail)
      | fail
      all_goals
        obtain ⟨M5, l5⟩ := L.out.drew.putI hl hkn (j := 6) (by omega) (IntKind.i64.wrap ((ge M.ss k).du + 1))
        go_wp2_with fail
        go_meet
        exact ⟨rfl, _, _, l5.l⟩
    have b5 : ((x : Int) == 5) = false := by simp; omega
    by_cases h6 : x = 6
    case pos =>
      subst h6
      have k3 := L.out.l.k.c 3 rfl
      rw [L.out.a] at k3
      have hbm : ¬ b = w1.heap.size := fun e => L.out.s.ne_blk L.out.l.k (by decide) (by rw [e]; rfl)
      have hmb : ¬ w1.heap.size = b := fun e => hbm e.symm
      go_upto_region 17 with fail
      first
      | go_region_law (go_simp; (refine (next_any g 9 _ L.out.l.d.drew.src).mono ?_); rintro e cc ⟨y, rfl, hy, dx⟩; (have LC := Lib.hid (L.out.drew.draw dx hl)); (have kc := LC.out.l.k.c 3 rfl); (rw [LC.out.a] at kc); (have hfr := LC.out.s.frozen); (have hc3 := LC.out.s.cell encSl_len hkn (j := 3) (by omega)); (simp only [encSl, List.getElem?_cons_zero, List.getElem?_cons_succ] at hc3); (clear dx hy))
      | fail
      all_goals
        obtain ⟨M5, l5⟩ := LC.out.putI hl hkn (j := 3) (by omega) (y)
        go_wp2_with fail
        go_meet
        exact ⟨rfl, _, _, l5.l⟩
    have b6 : ((x : Int) == 6) = false := by simp; omega
    by_cases h7 : x = 7
    case pos =>
      subst h7
      have k3 := L.out.l.k.c 3 rfl
      rw [L.out.a] at k3
      have hbm : ¬ b = w1.heap.size := fun e => L.out.s.ne_blk L.out.l.k (by decide) (by rw [e]; rfl)
      have hmb : ¬ w1.heap.size = b := fun e => hbm e.symm
      have hc4 := L.out.s.cell encSl_len hkn (j := 4) (by omega)
      have hc5 := L.out.s.cell encSl_len hkn (j := 5) (by omega)
      have hc7 := L.out.s.cell encSl_len hkn (j := 7) (by omega)
      simp only [encSl, List.getElem?_cons_zero, List.getElem?_cons_succ] at hc4 hc5 hc7
      have hfr := L.out.s.frozen
      obtain ⟨M5, l5⟩ := L.out.putI hl hkn (j := 4) (by omega) (3)
      obtain ⟨M6, l6⟩ := l5.putI hl hkn (j := 5) (by omega) (0)
      obtain ⟨M7, l7⟩ := l6.putB hl hkn false
      go_wp2_with fail
      go_meet
      exact ⟨rfl, _, _, l7.l⟩
    have b7 : ((x : Int) == 7) = false := by simp; omega
    by_cases h8 : x = 8
    case pos =>
      subst h8
      have hbm : ¬ b = w1.heap.size := fun e => L.out.s.ne_blk L.out.l.k (by decide) (by rw [e]; rfl)
      have hmb : ¬ w1.heap.size = b := fun e => hbm e.symm
      go_wp2_with fail
      go_loopw [5] (fun v wr => ∃ (i : Nat) (M' : Mdl), i ≤ m.ns ∧ v = .int .i64 i ∧ LS w g wr w1.heap.size b m M') (fun v _ => m.ns - (intOf v).toNat)
      case atStart => exact ⟨0, M, by omega, rfl, L.out⟩
      case round =>
        clear L
        obtain ⟨i, M', hi, rfl, ls⟩ := hrel
        obtain ⟨wo, hwo⟩ : ∃ v, v = wr := ⟨_, rfl⟩
        subst hwo
        have L := Lib.hid ls
        clear ls
        have k3 := L.out.l.k.c 3 rfl
        rw [L.out.a] at k3
        by_cases hin : i < m.ns
        · have hii : (i : Int) < (m.ns : Int) := by omega
          have hc6 := L.out.s.cell encSl_len hin (j := 6) (by omega)
          simp only [encSl, List.getElem?_cons_zero, List.getElem?_cons_succ] at hc6
          have hfr := L.out.s.frozen
          obtain ⟨M5, l5⟩ := L.out.putI hl hin (j := 6) (by omega) 1000
          go_wp2_with fail
          go_roundw
          case rel => exact ⟨i + 1, M5, by omega, vint (by omega), l5⟩
          case measure => simp [intOf]; omega
        · obtain rfl : i = m.ns := by omega
          go_wp2_with fail
          refine (next_any g 2 _ L.out.l.d.src).mono ?_
          rintro e w4 ⟨y, rfl, hy, dd⟩
          replace L := Lib.hid (L.out.draw dd hl)
          clear dd k3
          have hz4 := L.out.l.k.lt
          by_cases hy0 : y = 0
          case pos =>
            subst hy0
            have kf := L.out.l.k.free
            have k0 := L.out.l.k.c 0 rfl
            have k1 := L.out.l.k.c 1 rfl
            have k2 := L.out.l.k.c 2 rfl
            have k3 := L.out.l.k.c 3 rfl
            have hmbx : ∀ j, (⟨w1.heap.size, j, none⟩ : Addr).block ≠ w.heap.size := fun j => by show ¬ w1.heap.size = _; omega
            have hmby : ∀ j, w.heap.size ≤ (⟨w1.heap.size, j, none⟩ : Addr).block := fun j => by show _ ≤ w1.heap.size; omega
            go_upto_region 29 with fail
            obtain ⟨v3, hv3⟩ : ∃ v, v = (((w4.setCell ⟨w1.heap.size, 0, none⟩ (.int .i64 3)).setCell ⟨w1.heap.size, 1, none⟩ (.slice (some ⟨w4.heap.size, 0, none⟩) 1 1)).setCell ⟨w1.heap.size, 2, none⟩ (.slice (some ⟨w4.heap.size + 1, 0, none⟩) 1 1)).setCell ⟨w1.heap.size, 3, none⟩ (.slice none 0 0) := ⟨_, rfl⟩
            have KX : BlkL v3 w1.heap.size 28 [.int .i64 3, .slice (some ⟨w4.heap.size, 0, none⟩) 1 1, .slice (some ⟨w4.heap.size + 1, 0, none⟩) 1 1, .slice none 0 0] := by rw [hv3]; exact (((L.out.l.k.set 0 _).set 1 _).set 2 _).set 3 _
            have RX : BlkL v3 w.heap.size 28 [.int .i64 0, .slice none 0 0, .slice none 0 0, .slice none 0 0] := by rw [hv3]; exact (((L.out.l.r.other (hmbx 0) _).other (hmbx 1) _).other (hmbx 2) _).other (hmbx 3) _
            have DX : Dr w g v3 := by rw [hv3]; exact (((L.out.l.d.set (hmby 0) hl _).set (hmby 1) hl _).set (hmby 2) hl _).set (hmby 3) hl _
            have SX : v3.heap.size = w4.heap.size := by rw [hv3]; simp
            have NX : OwnE encNd 4 84 (v3.alloc (.cells #[.int .i64 0, .string ⟨#[97]⟩, .int .i64 0, .bool false] 84)) (w.heap.size + 1) (some ⟨w4.heap.size, 0, none⟩) 1 1 [⟨0, ⟨#[97]⟩, 0, false⟩] := OwnE.lit v3 SX (by omega) rfl (by unfold maxLen; omega) rfl rfl
            have SY : (v3.alloc (.cells #[.int .i64 0, .string ⟨#[97]⟩, .int .i64 0, .bool false] 84)).heap.size = w4.heap.size + 1 := by rw [isz_alloc, SX]
            have OX : OwnE encMh 3 110 ((v3.alloc (.cells #[.int .i64 0, .string ⟨#[97]⟩, .int .i64 0, .bool false] 84)).alloc (.cells #[.int .i64 2, .int .i64 16, .slice none 0 0] 110)) (w.heap.size + 1) (some ⟨w4.heap.size + 1, 0, none⟩) 1 1 [⟨⟨2, 16, []⟩, none, 0, 0⟩] := OwnE.lit _ SY (by omega) rfl (by unfold maxLen; omega) rfl rfl
            rw [← hv3]
            refine wp_forget (fun v => ∃ M', LU w g v w1.heap.size ⟨3, some ⟨w4.heap.size, 0, none⟩, 1, 1, some ⟨w4.heap.size + 1, 0, none⟩, 1, 1, none, 0, 0⟩ M' ∧ M'.ms = [⟨2, 16, []⟩]) ⟨⟨3, [⟨0, ⟨#[97]⟩, 0, false⟩], [⟨2, 16, []⟩], []⟩, ⟨rfl, NX.alloc _, ⟨[⟨⟨2, 16, []⟩, none, 0, 0⟩], ⟨OX, fun x hx => by rw [List.mem_singleton.1 hx]; exact ⟨OwnI.nil _ _ _, Nat.zero_le _⟩⟩, rfl⟩, fun x hx => by rw [List.mem_singleton.1 hx]; decide, by show 1 ≤ 200; omega, by show 1 ≤ 200; omega, (KX.alloc _).alloc _, (RX.alloc _).alloc _, (DX.alloc _).alloc _, L.out.l.h⟩, rfl⟩ ?_
            clear KX RX DX NX OX SX SY hv3 v3
            rintro w5 ⟨M6, lv5, hms5⟩
            have V := Lib.hid lv5
            have HM5 := Lib.hid hms5
            clear lv5 hms5 kf k0 k1 k2 k3
            go_wp2_with fail
            refine (next_any g 2 _ V.out.d.src).mono ?_
            rintro e w6 ⟨z, rfl, hz, dd⟩
            replace V := Lib.hid (V.out.draw dd hl)
            clear dd
            by_cases hz0 : z = 0
            case pos =>
              subst hz0
              have kf := V.out.k.free
              have k2 := V.out.k.c 2 rfl
              have hz6 := V.out.k.lt
              go_upto_region 31 with fail
              obtain ⟨v3, hv3⟩ : ∃ v, v = w6.setCell ⟨w1.heap.size, 2, none⟩ (.slice (some ⟨w6.heap.size, 0, none⟩) 1 1) := ⟨_, rfl⟩
              have KX : BlkL v3 w1.heap.size 28 [.int .i64 3, .slice (some ⟨w4.heap.size, 0, none⟩) 1 1, .slice (some ⟨w6.heap.size, 0, none⟩) 1 1, .slice none 0 0] := by rw [hv3]; exact V.out.k.set 2 _
              have RX : BlkL v3 w.heap.size 28 [.int .i64 0, .slice none 0 0, .slice none 0 0, .slice none 0 0] := by rw [hv3]; exact V.out.r.other (hmbx 2) _
              have DX : Dr w g v3 := by rw [hv3]; exact V.out.d.set (hmby 2) hl _
              have SX : v3.heap.size = w6.heap.size := by rw [hv3]; simp
              have NX : OwnE encNd 4 84 v3 (w.heap.size + 1) (some ⟨w4.heap.size, 0, none⟩) 1 1 M6.ns := by rw [hv3]; exact V.out.on.boxed V.out.k (by decide) 2 _
              have OX : OwnE encMh 3 110 (v3.alloc (.cells #[.int .i64 3, .int .i64 11, .slice none 0 0] 110)) (w.heap.size + 1) (some ⟨w6.heap.size, 0, none⟩) 1 1 [⟨⟨3, 11, []⟩, none, 0, 0⟩] := OwnE.lit v3 SX (by omega) rfl (by unfold maxLen; omega) rfl rfl
              rw [← hv3]
              refine wp_forget (fun v => ∃ M', LU w g v w1.heap.size ⟨3, some ⟨w4.heap.size, 0, none⟩, 1, 1, some ⟨w6.heap.size, 0, none⟩, 1, 1, none, 0, 0⟩ M' ∧ M'.ms = [⟨3, 11, []⟩]) ⟨⟨3, M6.ns, [⟨3, 11, []⟩], []⟩, ⟨rfl, NX.alloc _, ⟨[⟨⟨3, 11, []⟩, none, 0, 0⟩], ⟨OX, fun x hx => by rw [List.mem_singleton.1 hx]; exact ⟨OwnI.nil _ _ _, Nat.zero_le _⟩⟩, rfl⟩, V.out.nm, by show 1 ≤ 200; omega, by show 1 ≤ 200; omega, KX.alloc _, RX.alloc _, DX.alloc _, V.out.h⟩, rfl⟩ ?_
              clear KX RX DX NX OX SX hv3 v3
              clear kf k2 V
              rintro w7 hw7
              have W7 := Lib.hid hw7
              clear hw7
              clear L
              obtain ⟨M3, lu, hms⟩ := W7.out
              have U := Lib.hid lu
              have HM := Lib.hid hms
              clear lu hms
              go_wp2_with fail
              go_loopw [6, 7] (fun o v wr => ∃ (q : Nat) (A : Option Addr) (c : Nat) (ss : List Sl), q ≤ 33 ∧ o = .slice A q c ∧ v = .int .i64 q ∧ OwnE encSl 8 102 wr (w.heap.size + 1) A q c ss ∧ LU w g wr w1.heap.size ⟨3, some ⟨w4.heap.size, 0, none⟩, 1, 1, some ⟨w6.heap.size, 0, none⟩, 1, 1, none, 0, 0⟩ M3) (fun _ v _ => 33 - (intOf v).toNat)
              case atStart => exact ⟨0, _, _, [], by omega, rfl, rfl, OwnE.empty _ (by have := U.out.k.lt; omega), U.out.alloc _⟩
              case round =>
                clear U
                obtain ⟨q, A, c, ss, hq, rfl, rfl, ow, lu⟩ := hrel
                obtain ⟨wq, hwq⟩ : ∃ v, v = wr := ⟨_, rfl⟩
                subst hwq
                have U := Lib.hid lu
                have O := Lib.hid ow
                clear lu ow
                have k2 := U.out.k.c 2 rfl
                have mc := DV.mcells U.out.om (i := 0) (b := w6.heap.size) rfl (by show 0 < 1; omega)
                rw [HM.out] at mc
                simp only [ge_cons_zero, Nat.zero_mul, Nat.zero_add] at mc
                have mc0 := mc.1
                have mc1 := mc.2
                clear mc
                go_upto_region 33 with fail
                go_quiet (fail)
                obtain ⟨wz, hwz⟩ : ∃ v, v = wq.drewN nq := ⟨_, rfl⟩
                rw [← hwz]
                replace U := Lib.hid (show LU w g wz w1.heap.size ⟨3, some ⟨w4.heap.size, 0, none⟩, 1, 1, some ⟨w6.heap.size, 0, none⟩, 1, 1, none, 0, 0⟩ M3 from hwz ▸ U.out.drewN nq)
                replace O := Lib.hid (show OwnE encSl 8 102 wz (w.heap.size + 1) A q c ss from hwz ▸ O.out.drewN nq)
                clear k2 mc0 mc1 hwz
                have k2 := U.out.k.c 2 rfl
                have mc := DV.mcells U.out.om (i := 0) (b := w6.heap.size) rfl (by show 0 < 1; omega)
                rw [HM.out] at mc
                simp only [ge_cons_zero, Nat.zero_mul, Nat.zero_add] at mc
                have mc1 := mc.2
                clear mc
                have hUs := U.out.k.lt
                have hbm2 : w6.heap.size < wz.heap.size := by obtain ⟨hs, a, b⟩ := U.out.om; exact (a.1.row _ rfl).2
                by_cases hql : q < 33
                · have hqi : (q : Int) < 33 := by omega
                  have hw1 : IntKind.i64.wrap ((q : Int) / 11) = (q : Int) / 11 := IntWalk.i64_in _ (by omega)
                  go_upto_region 35 with fail
                  have hV : Below wz.heap.size wz wz.drew := (Below.refl _ _).drew
                  have HC := Lib.hid (show ∀ u, Below wz.heap.size wz u → (u.cell? ⟨w1.heap.size, 2, none⟩ = some (.slice (some ⟨w6.heap.size, 0, none⟩) 1 1) ∧ u.cell? ⟨w6.heap.size, 1, none⟩ = some (.int .i64 11)) from fun u hu => ⟨(U.out.k.next hu).c 2 rfl, (hu.cell (p := ⟨w6.heap.size, 1, none⟩) hbm2).trans mc1⟩)
                  first
                  | go_region_held_law (fun u => u.cell? ⟨w1.heap.size, 2, none⟩ = some (.slice (some ⟨w6.heap.size, 0, none⟩) 1 1) ∧ u.cell? ⟨w6.heap.size, 1, none⟩ = some (.int .i64 11)) (first | (with_reducible assumption) | (with_reducible exact HC.out _ hV) | (with_reducible refine HC.out _ ?_; go_grown)) (first | ((refine step_appK (some 159) rfl encSl 8 encSl_len encSl_one Tryz.underlying26 infoSlot rfl (by omega) (by omega) rfl (.tmp 141) (.tmp 158) rfl (w.heap.size + 1) A q c ss (by simp [Act.eval]) (OwnE.drew8 (O.out.alloc _)) ⟨wz.heap.size, 0, none⟩ 1 ⟨0, (q : Int) / 11, (q : Int).tmod 11, 0, 1, 0, 1000, false⟩ (by simp [Act.eval]) (by intro j u hu; rw [Go.WideShapes.add_plain, Nat.zero_add]; exact (BlkL.drew (BlkL.new wz 102 (encSl ⟨0, (q : Int) / 11, (q : Int).tmod 11, 0, 1, 0, 1000, false⟩).toArray rfl)).c j hu) (by omega) (by simp; omega) ?_); intro A9 c9 w9 hown9 hg9; (have U9 := Lib.hid ((U.out.alloc _).drew.slot hl (OwnE.drew8 (O.out.alloc _)) hg9)); (have O9 := Lib.hid hown9); (have hs9 : w9.cell? ⟨w1.heap.size, 2, none⟩ = some (.slice (some ⟨w6.heap.size, 0, none⟩) 1 1) ∧ w9.cell? ⟨w6.heap.size, 1, none⟩ = some (.int .i64 11) := ⟨U9.out.k.c 2 rfl, by have mc := (DV.mcells U9.out.om (i := 0) (b := w6.heap.size) rfl (by show 0 < 1; omega)).2; rw [HM.out] at mc; exact mc⟩); clear hown9 hg9))
                  | fail
                  all_goals
                    go_wp2_with fail
                    go_roundw
                    case rel => exact ⟨q + 1, A9, c9, _, by omega, rfl, vint (by omega), O9.out, U9.out⟩
                    case measure => simp [intOf]; omega
                · obtain rfl : q = 33 := by omega
                  have kf := U.out.k.free
                  have k3 := U.out.k.c 3 rfl
                  go_wp2_with fail
                  go_meet
                  exact ⟨rfl, _, _, U.out.done hl O.out (by omega)⟩
            case neg =>
              have hzb : ((z : Int) == 0) = false := by simp; omega
              go_upto_region 31 with fail
              have W7 := Lib.hid (show ∃ M', LU w g w6 w1.heap.size ⟨3, some ⟨w4.heap.size, 0, none⟩, 1, 1, some ⟨w4.heap.size + 1, 0, none⟩, 1, 1, none, 0, 0⟩ M' ∧ M'.ms = [⟨2, 16, []⟩] from ⟨_, V.out, HM5.out⟩)
              clear V
              clear L
              obtain ⟨M3, lu, hms⟩ := W7.out
              have U := Lib.hid lu
              have HM := Lib.hid hms
              clear lu hms
              go_wp2_with fail
              go_loopw [6, 7] (fun o v wr => ∃ (q : Nat) (A : Option Addr) (c : Nat) (ss : List Sl), q ≤ 32 ∧ o = .slice A q c ∧ v = .int .i64 q ∧ OwnE encSl 8 102 wr (w.heap.size + 1) A q c ss ∧ LU w g wr w1.heap.size ⟨3, some ⟨w4.heap.size, 0, none⟩, 1, 1, some ⟨w4.heap.size + 1, 0, none⟩, 1, 1, none, 0, 0⟩ M3) (fun _ v _ => 32 - (intOf v).toNat)
              case atStart => exact ⟨0, _, _, [], by omega, rfl, rfl, OwnE.empty _ (by have := U.out.k.lt; omega), U.out.alloc _⟩
              case round =>
                clear U
                obtain ⟨q, A, c, ss, hq, rfl, rfl, ow, lu⟩ := hrel
                obtain ⟨wq, hwq⟩ : ∃ v, v = wr := ⟨_, rfl⟩
                subst hwq
                have U := Lib.hid lu
                have O := Lib.hid ow
                clear lu ow
                have k2 := U.out.k.c 2 rfl
                have mc := DV.mcells U.out.om (i := 0) (b := w4.heap.size + 1) rfl (by show 0 < 1; omega)
                rw [HM.out] at mc
                simp only [ge_cons_zero, Nat.zero_mul, Nat.zero_add] at mc
                have mc0 := mc.1
                have mc1 := mc.2
                clear mc
                go_upto_region 33 with fail
                go_quiet (fail)
                obtain ⟨wz, hwz⟩ : ∃ v, v = wq.drewN nq := ⟨_, rfl⟩
                rw [← hwz]
                replace U := Lib.hid (show LU w g wz w1.heap.size ⟨3, some ⟨w4.heap.size, 0, none⟩, 1, 1, some ⟨w4.heap.size + 1, 0, none⟩, 1, 1, none, 0, 0⟩ M3 from hwz ▸ U.out.drewN nq)
                replace O := Lib.hid (show OwnE encSl 8 102 wz (w.heap.size + 1) A q c ss from hwz ▸ O.out.drewN nq)
                clear k2 mc0 mc1 hwz
                have k2 := U.out.k.c 2 rfl
                have mc := DV.mcells U.out.om (i := 0) (b := w4.heap.size + 1) rfl (by show 0 < 1; omega)
                rw [HM.out] at mc
                simp only [ge_cons_zero, Nat.zero_mul, Nat.zero_add] at mc
                have mc1 := mc.2
                clear mc
                have hUs := U.out.k.lt
                have hbm2 : w4.heap.size + 1 < wz.heap.size := by obtain ⟨hs, a, b⟩ := U.out.om; exact (a.1.row _ rfl).2
                by_cases hql : q < 32
                · have hqi : (q : Int) < 32 := by omega
                  have hw1 : IntKind.i64.wrap ((q : Int) / 16) = (q : Int) / 16 := IntWalk.i64_in _ (by omega)
                  go_upto_region 35 with fail
                  have hV : Below wz.heap.size wz wz.drew := (Below.refl _ _).drew
                  have HC := Lib.hid (show ∀ u, Below wz.heap.size wz u → (u.cell? ⟨w1.heap.size, 2, none⟩ = some (.slice (some ⟨w4.heap.size + 1, 0, none⟩) 1 1) ∧ u.cell? ⟨w4.heap.size + 1, 1, none⟩ = some (.int .i64 16)) from fun u hu => ⟨(U.out.k.next hu).c 2 rfl, (hu.cell (p := ⟨w4.heap.size + 1, 1, none⟩) hbm2).trans mc1⟩)
                  first
                  | go_region_held_law (fun u => u.cell? ⟨w1.heap.size, 2, none⟩ = some (.slice (some ⟨w4.heap.size + 1, 0, none⟩) 1 1) ∧ u.cell? ⟨w4.heap.size + 1, 1, none⟩ = some (.int .i64 16)) (first | (with_reducible assumption) | (with_reducible exact HC.out _ hV) | (with_reducible refine HC.out _ ?_; go_grown)) (first | ((refine step_appK (some 159) rfl encSl 8 encSl_len encSl_one Tryz.underlying26 infoSlot rfl (by omega) (by omega) rfl (.tmp 141) (.tmp 158) rfl (w.heap.size + 1) A q c ss (by simp [Act.eval]) (OwnE.drew8 (O.out.alloc _)) ⟨wz.heap.size, 0, none⟩ 1 ⟨0, (q : Int) / 16, (q : Int).tmod 16, 0, 1, 0, 1000, false⟩ (by simp [Act.eval]) (by intro j u hu; rw [Go.WideShapes.add_plain, Nat.zero_add]; exact (BlkL.drew (BlkL.new wz 102 (encSl ⟨0, (q : Int) / 16, (q : Int).tmod 16, 0, 1, 0, 1000, false⟩).toArray rfl)).c j hu) (by omega) (by simp; omega) ?_); intro A9 c9 w9 hown9 hg9; (have U9 := Lib.hid ((U.out.alloc _).drew.slot hl (OwnE.drew8 (O.out.alloc _)) hg9)); (have O9 := Lib.hid hown9); (have hs9 : w9.cell? ⟨w1.heap.size, 2, none⟩ = some (.slice (some ⟨w4.heap.size + 1, 0, none⟩) 1 1) ∧ w9.cell? ⟨w4.heap.size + 1, 1, none⟩ = some (.int .i64 16) := ⟨U9.out.k.c 2 rfl, by have mc := (DV.mcells U9.out.om (i := 0) (b := w4.heap.size + 1) rfl (by show 0 < 1; omega)).2; rw [HM.out] at mc; exact mc⟩); clear hown9 hg9))
                  | fail
                  all_goals
                    go_wp2_with fail
                    go_roundw
                    case rel => exact ⟨q + 1, A9, c9, _, by omega, rfl, vint (by omega), O9.out, U9.out⟩
                    case measure => simp [intOf]; omega
                · obtain rfl : q = 32 := by omega
                  have kf := U.out.k.free
                  have k3 := U.out.k.c 3 rfl
                  go_wp2_with fail
                  go_meet
                  exact ⟨rfl, _, _, U.out.done hl O.out (by omega)⟩
          case neg =>
            have hyb : ((y : Int) == 0) = false := by simp; omega
            go_wp2_with fail
            go_meet
            exact ⟨rfl, _, _, L.out.l⟩
    have b8 : ((x : Int) == 8) = false := by simp; omega
    go_wp2_with fail
    go_meet
    exact ⟨rfl, _, _, L.out.l⟩
  case rest =>
    obtain ⟨rfl, m2, M2, lv⟩ := hcut
    have L2 := Lib.hid lv
    clear lv L
    have c0 := L2.out.k.c 0 rfl; have c1 := L2.out.k.c 1 rfl; have c2 := L2.out.k.c 2 rfl; have c3 := L2.out.k.c 3 rfl
    have r0 := L2.out.r.c 0 rfl; have r1 := L2.out.r.c 1 rfl; have r2 := L2.out.r.c 2 rfl; have r3 := L2.out.r.c 3 rfl
    have rf := L2.out.r.free
    have hmb := L2.out.h
    have n1 : ¬ w1.heap.size = w.heap.size := by omega
    go_wp2_with fail
    refine bp_forget (fun v => DV v (w.heap.size + 1) m2 M2 ∧ BlkL v w.heap.size 28 [.int .i64 m2.id, .slice m2.An m2.nn m2.cn, .slice m2.Am m2.nm m2.cm, .slice m2.As m2.ns m2.cs] ∧ Dr w g v) ⟨((((L2.out.v.other (p := ⟨w.heap.size, 0, none⟩) (Nat.lt_succ_self _) _).other (p := ⟨w.heap.size, 1, none⟩) (Nat.lt_succ_self _) _).other (p := ⟨w.heap.size, 2, none⟩) (Nat.lt_succ_self _) _).other (p := ⟨w.heap.size, 3, none⟩) (Nat.lt_succ_self _) _), ((((L2.out.r.set 0 _).set 1 _).set 2 _).set 3 _), ((((L2.out.d.set (p := ⟨w.heap.size, 0, none⟩) (Nat.le_refl _) hl _).set (p := ⟨w.heap.size, 1, none⟩) (Nat.le_refl _) hl _).set (p := ⟨w.heap.size, 2, none⟩) (Nat.le_refl _) hl _).set (p := ⟨w.heap.size, 3, none⟩) (Nat.le_refl _) hl _)⟩ ?_
    rintro v9 ⟨dz, ko9, rz⟩
    have d0 := ko9.c 0 rfl; have d1 := ko9.c 1 rfl; have d2 := ko9.c 2 rfl; have d3 := ko9.c 3 rfl
    exact bodyPost_ret (v := .agg #[.int .i64 m2.id, .slice m2.An m2.nn m2.cn, .slice m2.Am m2.nm m2.cm, .slice m2.As m2.ns m2.cs]) (by simp [results, Tryz.results84, go_sem, d0, d1, d2, d3]) rfl ⟨m2, M2, rfl, dz.weaken (Nat.le_succ _), rz⟩
end Go.Proofs.YtbaojbheopcjhaaGreatDoor
