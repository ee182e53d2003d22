/- Walks, laws and small notions for the claims of this seat, several texts as one (DrwB, DrwC, DrwU, Like). Conditions: as each theorem states them. -/
import Derived.Test.YtjehkjdehkdjcaaB9
import Derived.Test.YtjehkjdehkdjcaaB11
import Derived.Test.YtjehkjdehkdjcaaB1
import Derived.Deep.DeepCutAuto
import Derived.Deep.RegionWith
import Derived.Test.YtjehkjdehkdjcaaB8
import Derived.Test.YtjehkjdehkdjcaaB4
namespace Go.Proofs.Ytjehkjdehkdjcaa
open Go.RowKit

set_option maxRecDepth 20000 in
set_option maxHeartbeats 4000000 in
theorem l21Draw_any (g : Nat) (w : World) (h : Src w g) :
    Calls Try.prog 166 #[.pointer (some ⟨g, 0, none⟩)] w (DrI w g 8200) := by
  have hl := h.lt
  go_enter Try.func166, Try.ntmps166
  go_wp2_with fail
  refine (next_any g _ _ h).mono ?_
  rintro e w1 ⟨x, rfl, hx, d1⟩
  by_cases h0 : x = 0
  · subst h0
    go_wp2_with fail
    refine (drawBits_any g 40 _ d1.src (by omega)).mono ?_
    rintro e w2 ⟨A2, n2, c2, zs2, rfl, hown2, hn2, d2⟩
    go_wp2
    go_ret
    exact ⟨A2, n2, c2, zs2, rfl, hown2.weaken d1.size, hn2, d2.next d1⟩
  have b0 : ((x : Int) == 0) = false := by simp; omega
  go_wp2_with fail
  refine (next_any g _ _ (d1.alloc _).src).mono ?_
  rintro e w2 ⟨y, rfl, hy, d2⟩
  have hown2 := (OwnI.empty (T := 2) w1 (base := w1.heap.size) (Nat.le_refl _)).dr d2 d1.lt
  have d2' := d2.next (d1.alloc _)
  have hy8 : y < 8 := by omega
  have hown2' := hown2.weaken d1.size
  clear hx h0 b0 hown2
  go_wp2_with fail
  go_loopw [3, 4] (fun o i wr => ∃ (m q : Nat) (A' : Option Addr) (c' : Nat) (zs : List Int), m + q ≤ 8 ∧ o = .slice A' m c' ∧ i = .int .i64 q ∧ OwnI 2 wr w.heap.size A' m c' zs ∧ Dr w g wr) (fun _ i _ => (intOf i).toNat)
  case atStart => exact ⟨0, y, _, _, _, by omega, rfl, rfl, hown2', d2'⟩
  case round =>
    obtain ⟨m, q, A', c', zs, hmq, rfl, rfl, hown, d⟩ := hrel
    by_cases hq : 0 < q
    · go_wp2_with fail
      refine (next_any g _ _ d.src).mono ?_
      rintro e w3 ⟨z, rfl, hz, d3⟩
      have hown3 := hown.dr d3 hl
      have d3' := d3.next d
      have hz9 : z ≤ 9 := by omega
      go_wp2_with (at_builtin; refine wpl_appI _ _ Try.underlying24 infoInt rfl _ _ rfl w.heap.size _ m _ _ rfl hown3 (5 + (z : Int)) rfl (by omega) d3'.size ?_; intro A4 c4 w4 hown4 hB4 hg4)
      go_roundw
      case rel => exact ⟨m + 1, q - 1, A4, c4, _, by omega, rfl, by congr 1; omega, hown4, d3'.app hown3 hg4 hl⟩
      case measure => simp [intOf]; omega
    · obtain rfl : q = 0 := by omega
      go_wp2_with fail
      refine (next_any g _ _ d.src).mono ?_
      rintro e w3 ⟨z, rfl, hz, d3⟩
      have hown3 := hown.dr d3 hl
      have d3' := d3.next d
      go_wp2_with fail
      refine (fromRuns_any A' m c' _ zs _ hown3.reads (by omega)).mono ?_
      rintro e w4 ⟨A4, n4, c4, zs4, q4, rfl, hown4, hn4, hb4⟩
      go_wp2
      go_ret
      exact ⟨A4, n4, c4, zs4, rfl, hown4.weaken d3'.size, by omega, d3'.below hb4⟩

theorem lit8 (x : Nat) (hx : x < 8) : ∃ v : Int, (0 ≤ v ∧ v ≤ 12) ∧ ([.int .i64 6, .int .i64 5, .int .i64 7, .int .i64 12, .int .i64 4, .int .i64 6, .int .i64 9, .int .i64 1] : List Value)[x]? = some (.int .i64 v) ∧
    ∀ (W : World) (T : TypeId), (W.alloc (.cells #[.int .i64 6, .int .i64 5, .int .i64 7, .int .i64 12, .int .i64 4, .int .i64 6, .int .i64 9, .int .i64 1] T)).cell? ⟨W.heap.size, x, none⟩ = some (.int .i64 v) := by
  have key : ∀ v : Int, ([.int .i64 6, .int .i64 5, .int .i64 7, .int .i64 12, .int .i64 4, .int .i64 6, .int .i64 9, .int .i64 1] : List Value)[x]? = some (.int .i64 v) → ∀ (W : World) (T : TypeId), (W.alloc (.cells #[.int .i64 6, .int .i64 5, .int .i64 7, .int .i64 12, .int .i64 4, .int .i64 6, .int .i64 9, .int .i64 1] T)).cell? ⟨W.heap.size, x, none⟩ = some (.int .i64 v) := by
    intro v hv W T
    have hx' := new_heap W (.cells #[.int .i64 6, .int .i64 5, .int .i64 7, .int .i64 12, .int .i64 4, .int .i64 6, .int .i64 9, .int .i64 1] T)
    unfold World.cell?
    rw [hx']
    simpa using hv
  obtain rfl | rfl | rfl | rfl | rfl | rfl | rfl | rfl : x = 0 ∨ x = 1 ∨ x = 2 ∨ x = 3 ∨ x = 4 ∨ x = 5 ∨ x = 6 ∨ x = 7 := by omega
  all_goals exact ⟨_, by omega, rfl, key _ rfl⟩

theorem nx_fn : (Try.f125.name == "runtime.NumGoroutine") = false ∧ Try.f125.body.isSome = true := ⟨by kernel_rfl, by kernel_rfl⟩

set_option maxRecDepth 20000 in
set_option maxHeartbeats 8000000 in
theorem drawFlips_any (g n : Nat) (w : World) (h : Src w g) (hn : n ≤ 1048576) :
    Calls Try.prog 221 #[.pointer (some ⟨g, 0, none⟩), .int .i64 n] w (DrI w g 16) := by
  have hl := h.lt
  go_enter Try.func221, Try.ntmps221
  go_wp2_with fail
  refine (next_any g _ _ ((Dr.refl h).alloc _).src).mono ?_
  rintro e w1 ⟨x0, rfl, hx0, d1⟩
  have hown1 := (OwnI.empty (T := 2) w (base := w.heap.size) (Nat.le_refl _)).dr d1 hl
  have d1' := d1.next ((Dr.refl h).alloc _)
  have hx9 : x0 ≤ 9 := by omega
  clear d1 hx0
  go_wp2_with fail
  go_loopw [5, 6] (fun o a wr => ∃ (m at0 : Nat) (A' : Option Addr) (c' : Nat) (zs : List Int), m ≤ 8 ∧ at0 ≤ 100 + 20 * m ∧ o = .slice A' m c' ∧ a = .int .i64 at0 ∧ OwnI 2 wr w.heap.size A' m c' zs ∧ Dr w g wr) (fun o _ _ => 8 - (match o with | .slice _ m _ => m | _ => 0))
  case atStart => exact ⟨0, x0, _, _, _, by omega, by omega, rfl, rfl, hown1, d1'⟩
  case round =>
    obtain ⟨m, at0, A', c', zs, hm8, hat, rfl, rfl, hown, d⟩ := hrel
    by_cases hq : (at0 : Int) < n ∧ m < 8
    · obtain ⟨hq1, hq2⟩ := hq
      go_wp2_with (at_builtin; refine wpl_appI _ _ Try.underlying24 infoInt rfl _ _ rfl w.heap.size _ m _ _ rfl hown at0 rfl (by omega) d.size ?_; intro A3 c3 w3 hown3 hB3 hg3)
      have d3 := d.app hown hg3 hl
      have hl3 : g < w3.drew.heap.size := d3.lt
      have hne3 : some w3.heap.size ≠ some g := by intro e; injection e with e; have := d3.lt; omega
      have D3 := Lib.hid d3.drew
      have D3n := Lib.hid d3
      have HO3 := Lib.hid hown3.drew
      clear d3 hB3 hg3 hown3
      go_region_with (first
        | ((with_reducible refine (next_any g 8 _ (by first | exact D3.out.src | exact ((D3n.out.alloc _).drew).src)).mono ?_); rintro e w4 ⟨x, rfl, hx, d4⟩; (have D4 := Lib.hid (show Dr w g w4 from by first | exact d4.next D3.out | exact d4.next ((D3n.out.alloc _).drew))); (have HO4 := Lib.hid (show OwnI 2 w4 w.heap.size A3 (m + 1) c3 (zs ++ [(at0 : Int)]) from by first | exact HO3.out.dr d4 hl | exact ((HO3.out.alloc _)).dr d4 hl)); (obtain ⟨v, hv, hv2, hv3⟩ := lit8 x (by omega)); (have hx8 : (x : Int) < 8 := (by omega)); (have hne4 : some w4.heap.size ≠ some g := (by intro e; injection e with e; have := D4.out.lt; omega)); (try (have qc : w4.cell? ⟨w3.heap.size, x, none⟩ = some (.int .i64 v) := (World.grownBy.cell d4.gr (hv3 w3 _) hne3))))
        | ((with_reducible refine (next_any g 4 _ (by first | exact D4.out.src | exact (D4.out.alloc _).src)).mono ?_); rintro e w5 ⟨y, rfl, hy, d5⟩; (have D5 := Lib.hid (show Dr w g w5 from by first | exact d5.next D4.out | exact d5.next (D4.out.alloc _))); (have hy4 : y < 4 := (by omega)); (have HO5 := Lib.hid (show OwnI 2 w5 w.heap.size A3 (m + 1) c3 (zs ++ [(at0 : Int)]) from by first | exact HO4.out.dr d5 hl | exact (HO4.out.alloc _).dr d5 hl)); (try (have qd : w5.cell? ⟨w3.heap.size, x, none⟩ = some (.int .i64 v) := World.grownBy.cell d5.gr qc hne3)); (try (have qe : w5.cell? ⟨w4.heap.size, x, none⟩ = some (.int .i64 v) := World.grownBy.cell d5.gr (hv3 w4 _) hne4))))
      all_goals
        clear hv2 hv3
        try clear qc
        try clear qd
        try clear qe
        simp [Act.put]
        go_wp2
        go_roundw
        case rel => exact ⟨m + 1, at0 + v.toNat + y, A3, c3, _, by omega, by omega, rfl, vint (by first | omega | (rw [IntWalk.i64_in ((at0 : Int) + v) (by omega), IntWalk.i64_in _ (by omega)]; omega)), by first | exact HO5.out | exact HO5.out.alloc _, by first | exact D5.out | exact D5.out.alloc _⟩
        case measure => simp; omega
    · rcases (show ((at0 : Int) < n ∧ ¬ m < 8) ∨ ¬ (at0 : Int) < n by omega) with ⟨hq1, hq2⟩ | hq1
      all_goals
        clear hq
        go_wp2_with fail
        refine (next_any g _ _ d.src).mono ?_
        rintro e w2 ⟨y, rfl, hy, d2⟩
        have hown2 := hown.dr d2 hl
        have d2' := d2.next d
        by_cases h0 : y = 0
        · subst h0
          go_wp2_with (at_builtin; refine wpl_appI _ _ Try.underlying24 infoInt rfl _ _ rfl w.heap.size _ m _ _ rfl hown2 n rfl (by omega) d2'.size ?_; intro A4 c4 w4 hown4 hB4 hg4)
          go_ret
          exact ⟨A4, m + 1, c4, _, rfl, hown4, by omega, d2'.app hown2 hg4 hl⟩
        · have b0 : ((y : Int) == 0) = false := by simp; omega
          by_cases h1 : y = 1
          · subst h1
            go_wp2_with (at_builtin; refine wpl_appI _ _ Try.underlying24 infoInt rfl _ _ rfl w.heap.size _ m _ _ rfl hown2 0 rfl (by omega) d2'.size ?_; intro A4 c4 w4 hown4 hB4 hg4)
            go_ret
            exact ⟨A4, m + 1, c4, _, rfl, hown4, by omega, d2'.app hown2 hg4 hl⟩
          · have b1 : ((y : Int) == 1) = false := by simp; omega
            go_wp2
            go_ret
            exact ⟨A', m, c', zs, rfl, hown2, by omega, d2'⟩
end Go.Proofs.Ytjehkjdehkdjcaa

namespace Go.Proofs.Ytjehkjdehkdjcaa
open Go.RowKit

theorem cells_bits {ds : List Int} {p : Nat} (h : p + 3 + 10 * ds.length ≤ 8192) : isBits (cellsP ds p) = true := by
  have hcl := cellsP_len ds p
  exact isBits_iff.2 ⟨by omega, fun z hz => line_bits (ds := ds) (a := 0) (b := 0) (p := p) z (by unfold lineP; simpa using hz)⟩
theorem gi_set (zs : List Int) (k i : Nat) (v : Int) : gi (zs.set k v) i = if k = i ∧ i < zs.length then v else gi zs i := by
  unfold gi
  rw [List.getD_eq_getElem?_getD, List.getElem?_set, List.getD_eq_getElem?_getD]
  by_cases h : k = i
  · subst h
    by_cases h2 : k < zs.length
    · simp [h2]
    · simp [h2]
  · simp [h]
theorem pad_ok {cs : List Int} {a b : Nat} (h : isBits cs = true) (hl : cs.length + a + b ≤ 8192) : PadLine.cod cs a b = 0 ∧ PadLine.res cs a b = lineP a cs b := by
  have e : PadLine.cod cs a b = 0 := by
    unfold PadLine.cod
    rw [if_pos h, if_pos ⟨by omega, by omega⟩, if_pos hl]
  exact ⟨e, by unfold PadLine.res; rw [if_pos e]⟩

set_option maxRecDepth 100000 in
set_option maxHeartbeats 8000000 in
theorem l23Draw_any (g : Nat) (w : World) (h : Src w g) :
    Calls Try.prog 160 #[.pointer (some ⟨g, 0, none⟩)] w (DrI w g 16384) := by
  have hl := h.lt
  go_enter Try.func160, Try.ntmps160
  go_wp2_with fail
  refine (drawBytes_any g 4 _ h (by omega)).mono ?_
  rintro e w1 ⟨A1, n1, c1, ds, rfl, hown1, hn1, d1⟩
  go_wp2_with fail
  refine (preamble_any g _ d1.src).mono ?_
  rintro e w2 ⟨p, rfl, hp, d2⟩
  have hown2 := hown1.dr d2 hl
  have d2' := d2.next d1
  clear hown1 d1 d2
  obtain ⟨cc, hcc⟩ : ∃ x, CellsOf.cod ds p = x := ⟨_, rfl⟩
  obtain ⟨cs, hcs⟩ : ∃ x, CellsOf.res ds p = x := ⟨_, rfl⟩
  go_wp2_with fail
  refine (CellsOf.spec_any A1 n1 c1 p ds _ hown2.reads (by omega) hown2.cap.1 hown2.cap.2 (by omega)).mono ?_
  rw [hcc, hcs]
  rintro e w3 ⟨A3, n3, c3, rfl, hown3, hb3⟩
  have d3 := d2'.below hb3
  have L3 := Lib.hid hown3.len
  have hown3' := hown3.weaken d2'.size
  have HCC := Lib.hid hcc
  have HCS := Lib.hid hcs
  clear hcc hcs hb3 hown2 d2' hown3
  have small : ∀ (x : Int), (x ≠ 0 ∨ ¬ (n3 : Int) ≤ 600) → True := fun _ _ => trivial
  clear small
  rcases ne_cases cc with rfl | ⟨h1, h2, h3⟩
  case inr =>
    go_wp2_with fail
    refine (l21Draw_any g _ d3.src).mono ?_
    rintro e w4 ⟨A4, n4, c4, zs4, rfl, hown4, hn4, d4⟩
    go_wp2
    go_ret
    exact ⟨A4, n4, c4, zs4, rfl, hown4.weaken d3.size, by omega, d4.next d3⟩
  by_cases h6 : (n3 : Int) ≤ 600
  case neg =>
    go_wp2_with fail
    refine (l21Draw_any g _ d3.src).mono ?_
    rintro e w4 ⟨A4, n4, c4, zs4, rfl, hown4, hn4, d4⟩
    go_wp2
    go_ret
    exact ⟨A4, n4, c4, zs4, rfl, hown4.weaken d3.size, by omega, d4.next d3⟩
  have hok := CellsOf.ok HCC.out
  have ecs : cs = cellsP ds p := by rw [← HCS.out]; unfold CellsOf.res; rw [if_pos HCC.out]; rfl
  have hbits : isBits cs = true := by rw [ecs]; exact cells_bits (by omega)
  have HB := Lib.hid hbits
  have hn3 : 6 ≤ n3 := by have e1 := L3.out; rw [ecs, cellsP_len] at e1; omega
  clear hok hbits ecs
  go_wp2_with fail
  refine (next_any g 4 _ d3.src).mono ?_
  rintro e w4 ⟨a, rfl, ha, d4⟩
  have hown4 := hown3'.dr d4 hl
  have d4' := d4.next d3
  go_wp2_with fail
  refine (next_any g 4 _ d4'.src).mono ?_
  rintro e w5 ⟨b, rfl, hb, d5⟩
  have hown5 := hown4.dr d5 hl
  have d5' := d5.next d4'
  have ha4 : a < 4 := by omega
  have hb4 : b < 4 := by omega
  clear hown3' d3 d4 hown4 d4' d5 ha hb
  have hpad := pad_ok (cs := cs) (a := a) (b := b) HB.out (by rw [L3.out]; omega)
  have HP := Lib.hid hpad
  clear hpad
  go_wp2_with fail
  refine (PadLine.spec_any A3 n3 c3 a b cs _ hown5.reads (by omega) (own_none hown5) (by omega) (by omega)).mono ?_
  rw [HP.out.1, HP.out.2]
  rintro e w6 ⟨A6, n6, c6, rfl, hown6, hb6⟩
  have hn6 : n6 = a + n3 + b := by have := hown6.len; rw [lineP_len, L3.out] at this; omega
  have hn6' : 6 ≤ n6 ∧ n6 ≤ 606 := by omega
  have d6 := d5'.below hb6
  have hown6' := hown6.weaken d5'.size
  clear hn6 hown5 d5' hb6 hown6
  obtain ⟨pz, hpz⟩ : ∃ x, lineP a cs b = x := ⟨_, rfl⟩
  rw [hpz] at hown6'
  clear hpz HP
  go_wp2_with fail
  refine (l20Equal_any n6 8 _ (by omega)).mono ?_
  rintro e w7 ⟨A7, c7, rfl, hown7, hb7⟩
  obtain ⟨g6, rfl, hg6a, hg6b⟩ := hown6'.form (by omega)
  obtain ⟨g7, rfl, hg7a, hg7b⟩ := hown7.form (by omega)
  have hne67 : g6 ≠ g7 := by omega
  have hne76 : g7 ≠ g6 := by omega
  have hown67 := hown6'.below hb7
  have d7 := d6.below hb7
  have hown7' := hown7.weaken d6.size
  have hg7w : w.heap.size ≤ g7 := Nat.le_trans d6.size hg7a
  clear hown6' d6 hown7 hb7 hg6b hg7b hg7a
  go_upto_if 43 with (go_at_call 125; refine (next_any g 2 _ d7.src).mono ?_; rintro e w8 ⟨x, rfl, hx, d8⟩)
  have hown68 := hown67.dr d8 hl
  have hown78 := hown7'.dr d8 hl
  have d8' := d8.next d7
  have hx2 : x < 2 := by omega
  clear hown67 hown7' d7 d8 hx
  have ws0 : ∀ i, i < n6 → 0 ≤ gi (List.replicate n6 (8 : Int)) i ∧ gi (List.replicate n6 (8 : Int)) i ≤ 16 := fun i hi => by rw [gi_rep 8 hi]; omega
  have WS0 := Lib.hid ws0
  clear ws0
  go_cut [8] (fun _ wc => ∃ ws, OwnI 2 wc w.heap.size (some ⟨g7, 0, none⟩) n6 c7 ws ∧ Hid (∀ i, i < n6 → 0 ≤ gi ws i ∧ gi ws i ≤ 16) ∧ OwnI 2 wc w.heap.size (some ⟨g6, 0, none⟩) n6 c6 pz ∧ Dr w g wc)
  case first =>
    by_cases h0 : x = 0
    · subst h0
      go_wp2_with fail
      refine (next_any g 4 _ d8'.src).mono ?_
      rintro e w9 ⟨q, rfl, hq, d9⟩
      have hown69 := hown68.dr d9 hl
      have hown79 := hown78.dr d9 hl
      have d9' := d9.next d8'
      have hq4 : q ≤ 4 := by omega
      clear hown68 hown78 d8' d9 hq
      go_wp2_with fail
      go_loopw [8] (fun i wr => ∃ (q : Nat) (ws : List Int), q ≤ 4 ∧ i = .int .i64 q ∧ OwnI 2 wr w.heap.size (some ⟨g7, 0, none⟩) n6 c7 ws ∧ Hid (∀ i, i < n6 → 0 ≤ gi ws i ∧ gi ws i ≤ 16) ∧ OwnI 2 wr w.heap.size (some ⟨g6, 0, none⟩) n6 c6 pz ∧ Dr w g wr) (fun i _ => (intOf i).toNat)
      case atStart => exact ⟨q, _, hq4, rfl, hown79, WS0, hown69, d9'⟩
      case round =>
        obtain ⟨q, ws, hq4, rfl, hw, hws, hz, d⟩ := hrel
        by_cases hq : 0 < q
        · go_wp2_with fail
          refine (next_any g _ _ d.src).mono ?_
          rintro e wa ⟨k, rfl, hk, da⟩
          have hwa := hw.dr da hl
          have hza := hz.dr da hl
          have da' := da.next d
          have hkn : k < n6 := by omega
          clear hw hz d da hk
          go_wp2_with fail
          refine (next_any g _ _ da'.src).mono ?_
          rintro e wb ⟨y, rfl, hy, db⟩
          have hwb := hwa.dr db hl
          have hzb := hza.dr db hl
          have db' := db.next da'
          have hy3 : y < 3 := by omega
          have hcell := hwb.cell hkn
          have hfr := hwb.frozen k
          clear hwa hza da' db hy
          go_wp2
          go_roundw
          case rel =>
            have st := hwb.stored k (7 + (y : Int))
            exact ⟨q - 1, _, by omega, by congr 1; omega, st.1, Lib.hid (fun i hi => by rw [gi_set]; split <;> first | omega | exact hws.out i hi), hzb.kept st.2 (fun b o e e2 => by injection e with e; injection e with e; injection e2 with e2; omega), db'.set (p := ⟨g7, k, none⟩) hg7w hl _⟩
          case measure => simp [intOf]; omega
        · go_wp2
          go_meet
          exact ⟨_, hw, hws, hz, d⟩
    · have b0 : ((x : Int) == 0) = false := by simp; omega
      go_wp2
      go_meet
      exact ⟨_, hown78, WS0, hown68, d8'⟩
  case rest =>
    obtain ⟨ws, hw, hws, hz, d⟩ := hcut
    clear hown68 hown78 d8'
    go_wp2_with fail
    refine (l20Stretch_any _ _ n6 c6 c7 pz ws _ hz.reads (by omega) hw.reads hws.out).mono ?_
    rintro e wa ⟨Aa, na, ca, rfl, hown, hba⟩
    have hla : na ≤ 16384 := by
      have e1 := hown.len
      have e2 := sTo_len (cs := pz) (ws := ws) (M := 16) (k := n6) (fun i hi => by have := hws.out i hi; omega)
      omega
    have hza := hz.below hba
    have da := d.below hba
    have hout := hown.weaken d.size
    clear hw hws hz d hown hba
    obtain ⟨oz, hoz⟩ : ∃ x, sTo pz ws n6 = x := ⟨_, rfl⟩
    rw [hoz] at hout
    clear hoz
    go_wp2_with fail
    refine (next_any g 5 _ da.src).mono ?_
    rintro e wb ⟨y, rfl, hy, db⟩
    have houtb := hout.dr db hl
    have hzb := hza.dr db hl
    have db' := db.next da
    clear hout hza da db
    by_cases y0 : y = 0
    · subst y0
      go_wp2_with fail
      refine (drawFlips_any g na _ db'.src (by omega)).mono ?_
      rintro e wc ⟨Ac, nc, cc', fz, rfl, hownc, hnc, dc⟩
      have houtc := houtb.dr dc hl
      have dc' := dc.next db'
      go_wp2_with fail
      refine (flipBits_any Aa Ac na ca nc cc' oz fz _ houtc.reads (by omega) (own_none houtc) hownc.reads (by omega)).mono ?_
      rintro e wd ⟨Ad, nd, cd, dz, qd, rfl, hownd, hnd, hbd⟩
      go_wp2
      go_ret
      exact ⟨Ad, nd, cd, dz, rfl, hownd.weaken dc'.size, by omega, dc'.below hbd⟩
    have b0 : ((y : Int) == 0) = false := by simp; omega
    by_cases y1 : y = 1
    · subst y1
      go_wp2_with fail
      refine (next_any g _ _ db'.src).mono ?_
      rintro e wc ⟨k, rfl, hk, dc⟩
      have houtc := houtb.dr dc hl
      have dc' := dc.next db'
      have hkn : k ≤ na := by omega
      have hcap := houtc.cap
      unfold maxLen at hcap
      go_wp2
      go_ret
      exact ⟨Aa, k, ca, _, rfl, houtc.cut hkn, by omega, dc'⟩
    have b1 : ((y : Int) == 1) = false := by simp; omega
    by_cases y2 : y = 2
    · subst y2
      go_wp2_with fail
      refine (next_any g 3 _ db'.src).mono ?_
      rintro e wc ⟨q, rfl, hq, dc⟩
      have hzc := hzb.dr dc hl
      have dc' := dc.next db'
      have hq4 : q ≤ 4 := by omega
      clear hzb houtb db' dc hq
      go_wp2_with fail
      go_loopw [10, 11] (fun i _ wr => ∃ (q : Nat) (pz : List Int), q ≤ 4 ∧ i = .int .i64 q ∧ OwnI 2 wr w.heap.size (some ⟨g6, 0, none⟩) n6 c6 pz ∧ Dr w g wr) (fun i _ _ => (intOf i).toNat)
      case atStart => exact ⟨q, pz, hq4, rfl, hzc, dc'⟩
      case round =>
        obtain ⟨q, pz, hq4, rfl, hz, d⟩ := hrel
        by_cases hq : 0 < q
        · go_wp2_with fail
          refine (next_any g _ _ d.src).mono ?_
          rintro e wd ⟨k, rfl, hk, dd⟩
          have hzd := hz.dr dd hl
          have dd' := dd.next d
          have hkn : k < n6 := by omega
          have hcell := hzd.cell hkn
          have hfr := hzd.frozen k
          clear hz d dd hk
          go_wp2
          go_roundw
          case rel => exact ⟨q - 1, _, by omega, by congr 1; omega, (hzd.stored k _).1, dd'.set (p := ⟨g6, k, none⟩) hg6a hl _⟩
          case measure => simp [intOf]; omega
        · go_wp2_with fail
          refine (l20Nominal_any _ n6 c6 pz _ hz.reads (by omega)).mono ?_
          rintro e wd ⟨Ad, nd, cd, rfl, hownd, hbd⟩
          have hnd : nd ≤ 16384 := by
            have e1 := hownd.len
            rw [nom_len, hz.len] at e1
            omega
          go_wp2
          go_ret
          exact ⟨Ad, nd, cd, _, rfl, hownd.weaken d.size, hnd, d.below hbd⟩
    have b2 : ((y : Int) == 2) = false := by simp; omega
    go_wp2
    go_ret
    exact ⟨Aa, na, ca, oz, rfl, houtb, by omega, db'⟩
end Go.Proofs.Ytjehkjdehkdjcaa

namespace Go.Proofs.Ytjehkjdehkdjcaa
open Go.RowKit

/-- a drawn list -/
def TopI (w : World) (N : Nat) (e : Ending) (w' : World) : Prop :=
  ∃ A n c zs, e = .returned (.slice A n c) ∧ OwnI 2 w' w.heap.size A n c zs ∧ n ≤ N ∧ Below w.heap.size w w'
theorem TopI.of {w w1 w2 : World} {g N : Nat} {e : Ending} (h : DrI w1 g N e w2) (hb : Below w.heap.size w w1) (hg : w.heap.size ≤ g) : TopI w N e w2 := by
  obtain ⟨A, n, c, zs, he, hown, hn, d⟩ := h
  exact ⟨A, n, c, zs, he, hown.weaken hb.size, hn, d.top hb hg⟩

set_option maxHeartbeats 4000000 in
theorem drawDecodeSamples_any (A : Option Addr) (n c : Nat) (bs : List Int) (w : World) (h : RB w w.heap.size A n bs) (hn : n ≤ 1099511627776) :
    Calls Try.prog 71 #[.slice A n c] w (TopI w 16384) := by
  go_enter Try.func71, Try.ntmps71
  go_wp2_with fail
  refine (from_any A n c bs _ h hn).mono ?_
  rintro e w1 ⟨g, rfl, hs1, hg, hb1⟩
  go_wp2_with fail
  refine (l23Draw_any g _ hs1).mono ?_
  rintro e w2 ⟨A2, n2, c2, zs2, rfl, hown2, hn2, d2⟩
  go_wp2
  go_ret
  exact TopI.of ⟨A2, n2, c2, zs2, rfl, hown2, hn2, d2⟩ hb1 hg

set_option maxHeartbeats 4000000 in
theorem drawStrobesOf_any (A : Option Addr) (n c : Nat) (bs : List Int) (w : World) (h : RB w w.heap.size A n bs) (hn : n ≤ 1099511627776) :
    Calls Try.prog 74 #[.slice A n c] w (TopI w 16384) := by
  go_enter Try.func74, Try.ntmps74
  go_wp2_with fail
  refine (from_any A n c bs _ h hn).mono ?_
  rintro e w1 ⟨g, rfl, hs1, hg, hb1⟩
  go_wp2_with fail
  refine (l23Draw_any g _ hs1).mono ?_
  rintro e w2 ⟨A2, n2, c2, zs2, rfl, hown2, hn2, d2⟩
  go_wp2
  go_ret
  exact TopI.of ⟨A2, n2, c2, zs2, rfl, hown2, hn2, d2⟩ hb1 hg

set_option maxHeartbeats 4000000 in
theorem drawCellRuns_any (A : Option Addr) (n c : Nat) (bs : List Int) (w : World) (h : RB w w.heap.size A n bs) (hn : n ≤ 1099511627776) :
    Calls Try.prog 107 #[.slice A n c] w (TopI w 8200) := by
  go_enter Try.func107, Try.ntmps107
  go_wp2_with fail
  refine (from_any A n c bs _ h hn).mono ?_
  rintro e w1 ⟨g, rfl, hs1, hg, hb1⟩
  go_wp2_with fail
  refine (l21Draw_any g _ hs1).mono ?_
  rintro e w2 ⟨A2, n2, c2, zs2, rfl, hown2, hn2, d2⟩
  go_wp2
  go_ret
  exact TopI.of ⟨A2, n2, c2, zs2, rfl, hown2, hn2, d2⟩ hb1 hg

set_option maxHeartbeats 4000000 in
theorem drawSlipPlaces_any (A : Option Addr) (n c : Nat) (bs : List Int) (w : World) (h : RB w w.heap.size A n bs) (hn : n ≤ 1099511627776) :
    Calls Try.prog 85 #[.slice A n c] w (TopI w 8200) := by
  go_enter Try.func85, Try.ntmps85
  go_wp2_with fail
  refine (from_any A n c bs _ h hn).mono ?_
  rintro e w1 ⟨g, rfl, hs1, hg, hb1⟩
  go_wp2_with fail
  refine (l21Draw_any g _ hs1).mono ?_
  rintro e w2 ⟨A2, n2, c2, zs2, rfl, hown2, hn2, d2⟩
  go_wp2
  go_ret
  exact TopI.of ⟨A2, n2, c2, zs2, rfl, hown2, hn2, d2⟩ hb1 hg

end Go.Proofs.Ytjehkjdehkdjcaa

namespace Go.Proofs.Ytjehkjdehkdjcaa
open Go.RowKit
theorem likeIntsV (A A' : Option Addr) (n n' c c' : Nat) (xs ys : List Int) (w : World) (hx : RI w w.heap.size A n xs) (hy : RI w w.heap.size A' n' ys) (hn : n ≤ 1099511627776) (hn' : n' ≤ 1099511627776) :
    Calls Try.prog 32 #[.slice A n c, .slice A' n' c'] w (RetV w (.bool (eqI xs ys))) :=
  (likeInts_any A A' n n' c c' xs ys w hx hy hn hn').mono fun _ _ ⟨he, m, hm⟩ => ⟨he, by subst hm; exact below_drewN (Below.refl _ _) m⟩

namespace VoteSamples
def res (zs : List Int) : List Int := if isBits zs then voted zs else []
def cod (zs : List Int) : Int := if isBits zs then 0 else 1
set_option maxHeartbeats 4000000 in
theorem impl_any (A : Option Addr) (n c : Nat) (zs : List Int) (w : World) (h : RI w w.heap.size A n zs) (hn : n ≤ 1048576) :
    Calls Try.prog 73 #[.slice A n c] w (RetIC 2 w (res zs) (cod zs)) := by
  rcases bool_cases (isBits zs) with hz | hz
  case inr =>
    have E1 := Lib.hid (show res zs = [] from by simp [res, hz])
    have E2 := Lib.hid (show cod zs = 1 from by simp [cod, hz])
    go_enter Try.func73, Try.ntmps73
    go_wp2_with (go_at_call 131; refine (iIsBits_any _ _ _ zs _ h (by omega)).mono ?_; rw [hz]; rintro e w' ⟨rfl, rfl⟩)
    go_ret2
    rw [E1.out, E2.out]
    exact ⟨none, 0, 0, rfl, OwnI.nil _ _ _, Below.refl _ _⟩
  have E1 := Lib.hid (show res zs = voted zs from by simp [res, hz])
  have E2 := Lib.hid (show cod zs = 0 from by simp [cod, hz])
  have HZ := Lib.hid hz
  go_enter Try.func73, Try.ntmps73
  go_wp2_with (go_at_call 131; refine (iIsBits_any _ _ _ zs _ h (by omega)).mono ?_; rw [hz]; rintro e w' ⟨rfl, rfl⟩)
  refine (Vote.vote_any A n c zs _ h hn HZ.out).mono ?_
  rintro e w1 ⟨A1, c1, rfl, hown1, hb1⟩
  go_wp2
  go_ret2
  rw [E1.out, E2.out]
  exact ⟨A1, n, c1, rfl, hown1, hb1⟩
end VoteSamples
end Go.Proofs.Ytjehkjdehkdjcaa
