/- Walks, laws and small notions for the claims of this seat, several texts as one (Drw, DrwA, DrwY, DrwYF). Conditions: as each theorem states them. -/
import Derived.Test.YtbaojbheopcjhaaGreatDoorB2
import Derived.Test.YtbaojbheopcjhaaGreatDoorB1
import Derived.Maps.Range
import Derived.Deep.DeepCutAuto
import Derived.Deep.QuietTactic
import Derived.BigQuiet
import Derived.IntWalk
import Derived.Test.YtbaojbheopcjhaaGreatDoorB3
namespace Go.Proofs.YtbaojbheopcjhaaGreatDoor
open Go.RowKit

/-- the slice value '.slice A n c' reads as the bytes bs, below block B -/
def RB (w : World) (B : Nat) (A : Option Addr) (n : Nat) (bs : List Int) : Prop :=
  bs.length = n ∧ (∀ i, i < n → 0 ≤ gi bs i ∧ gi bs i ≤ 255) ∧ (0 < n → ∃ b o, A = some ⟨b, o, none⟩ ∧ b < B ∧ ∀ i, i < n → w.cell? ⟨b, o + i, none⟩ = some (.int .u8 (gi bs i)))
section
variable {w w' : World} {B B' n : Nat} {A : Option Addr} {bs : List Int}
theorem RB.get (h : RB w B A n bs) (hn : 0 < n) : ∃ b o, A = some ⟨b, o, none⟩ ∧ b < B ∧ ∀ i, i < n → w.cell? ⟨b, o + i, none⟩ = some (.int .u8 (gi bs i)) := h.2.2 hn
theorem RB.byte (h : RB w B A n bs) {i : Nat} (hi : i < n) : 0 ≤ gi bs i ∧ gi bs i ≤ 255 := h.2.1 i hi
theorem RB.below (h : RB w B A n bs) (hb : Below B' w w') (hB : B ≤ B') : RB w' B A n bs :=
  ⟨h.1, h.2.1, fun hn => let ⟨b, o, e, hlt, hc⟩ := h.2.2 hn; ⟨b, o, e, hlt, fun i hi => (hb.cell (p := ⟨b, o + i, none⟩) (Nat.lt_of_lt_of_le hlt hB)).trans (hc i hi)⟩⟩
theorem RB.more (h : RB w B A n bs) (hB : B ≤ B') : RB w B' A n bs :=
  ⟨h.1, h.2.1, fun hn => let ⟨b, o, e, hlt, hc⟩ := h.2.2 hn; ⟨b, o, e, Nat.lt_of_lt_of_le hlt hB, hc⟩⟩
theorem RB.grown {g : Nat} (h : RB w g A n bs) (hg : w.grownBy w' (some g)) : RB w' g A n bs :=
  ⟨h.1, h.2.1, fun hn => let ⟨b, o, e, hlt, hc⟩ := h.2.2 hn; ⟨b, o, e, hlt, fun i hi => World.grownBy.cell hg (hc i hi) (fun e => by injection e with e; dsimp only at e; omega)⟩⟩
end

/-- block g is a source of numbers -/
def Src (w : World) (g : Nat) : Prop :=
  ∃ (A : Option Addr) (n c : Nat) (bs : List Int) (k : Nat) (z : Int), Blk3 w g 78 (.slice A n c) (.int .i64 k) (.int .i64 z) ∧ RB w g A n bs ∧ k ≤ n ∧ n ≤ 1099511627776 ∧ 0 ≤ z ∧ z < 2147483647
theorem Src.lt {w : World} {g : Nat} (h : Src w g) : g < w.heap.size := by
  obtain ⟨A, n, c, bs, k, z, hb, _⟩ := h
  exact hb.lt
theorem Src.below {w w' : World} {g B : Nat} (h : Src w g) (hb : Below B w w') (hB : g < B) : Src w' g := by
  obtain ⟨A, n, c, bs, k, z, h1, h2, h3⟩ := h
  exact ⟨A, n, c, bs, k, z, h1.below hb hB, h2.below hb (Nat.le_of_lt hB), h3⟩
theorem grown_of_below {w w' : World} (h : Below w.heap.size w w') (row : Option Nat) : w.grownBy w' row :=
  ⟨h.os, h.tape, h.output, h.size, fun k hk _ => h.block k hk⟩

theorem grown_set (w : World) (p : Addr) (v : Value) : w.grownBy (w.setCell p v) (some p.block) := by
  refine ⟨rfl, rfl, rfl, by simp, fun k hk hne => ?_⟩
  show (w.heap.modify p.block _)[k]? = _
  rw [Array.getElem?_modify, if_neg (fun e => hne (by rw [e]))]

theorem grown_dN {w w' : World} {row : Option Nat} (h : w.grownBy w' row) (m : Nat) : w.grownBy (w'.drewN m) row := ⟨h.os, h.tape, h.output, h.size, h.block⟩

/-- the world w0 with what draws from the source g, and memory of the call's own, have made of it -/
structure Dr (w0 : World) (g : Nat) (w : World) : Prop where
  src : Src w g
  gr : w0.grownBy w (some g)
namespace Dr
variable {w0 w w' : World} {g : Nat}
theorem refl (h : Src w g) : Dr w g w := ⟨h, World.grownBy.refl _ _⟩
theorem lt (h : Dr w0 g w) : g < w.heap.size := h.src.lt
theorem size (h : Dr w0 g w) : w0.heap.size ≤ w.heap.size := h.gr.size
theorem next (k : Dr w g w') (h : Dr w0 g w) : Dr w0 g w' := ⟨k.src, grown_tr h.gr k.gr⟩
theorem below (hb : Below w.heap.size w w') (h : Dr w0 g w) : Dr w0 g w' := ⟨h.src.below hb h.lt, grown_tr h.gr (grown_of_below hb _)⟩
theorem alloc (h : Dr w0 g w) (o : Obj) : Dr w0 g (w.alloc o) := h.below ((Below.refl _ _).alloc (Nat.le_refl _) _)
theorem drewN (h : Dr w0 g w) (k : Nat) : Dr w0 g (w.drewN k) := ⟨h.src, ⟨h.gr.os, h.gr.tape, h.gr.output, h.gr.size, h.gr.block⟩⟩
theorem drew (h : Dr w0 g w) : Dr w0 g w.drew := ⟨h.src, ⟨h.gr.os, h.gr.tape, h.gr.output, h.gr.size, h.gr.block⟩⟩
/-- an own row is written, or grown -/
theorem own {row : Option Nat} (h : Dr w0 g w) (hg : w.grownBy w' row) (hr : ∀ j, row = some j → w0.heap.size ≤ j) (hl : g < w0.heap.size) : Dr w0 g w' := by
  have hb : Below w0.heap.size w w' := (Below.refl _ _).grown hg h.size hr
  exact ⟨h.src.below hb hl, World.grownBy.andThen h.gr hg (fun j e => .inl (hr j e))⟩
theorem set (h : Dr w0 g w) {p : Addr} (hp : w0.heap.size ≤ p.block) (hl : g < w0.heap.size) (v : Value) : Dr w0 g (w.setCell p v) := by
  have hb : Below w0.heap.size w (w.setCell p v) := (Below.refl _ _).setCell hp v
  exact ⟨h.src.below hb hl, World.grownBy.andThen (row' := some p.block) h.gr (grown_set _ _ _) (fun j e => .inl (by cases e; exact hp))⟩
theorem app {T : TypeId} {A : Option Addr} {n c : Nat} {zs : List Int} (h : Dr w0 g w) (hown : OwnI T w w0.heap.size A n c zs) (hg : w.grownBy w' (Value.slice A n c).ownBlock) (hl : g < w0.heap.size) : Dr w0 g w' :=
  h.own hg (fun j e => (own_row hown j e).1) hl
/-- at the law's level: behind l01From -/
theorem top {W : World} (h : Dr w0 g w) (hb : Below W.heap.size W w0) (hg : W.heap.size ≤ g) : Below W.heap.size W w :=
  hb.grown h.gr hb.size (fun j e => by cases e; exact hg)
end Dr
section
variable {T : TypeId} {w w' : World} {B n c g : Nat} {A : Option Addr} {zs : List Int}
theorem OwnI.grownOther {row : Option Nat} (h : OwnI T w B A n c zs) (hg : w.grownBy w' row) (hB : ∀ j, row = some j → j < B) : OwnI T w' B A n c zs :=
  h.kept hg (fun b o e hro => by
    subst e
    have := (own_row h b rfl).1
    have := hB b hro.symm
    omega)
theorem OwnI.dr (h : OwnI T w B A n c zs) (d : Dr w g w') (hB : g < B) : OwnI T w' B A n c zs := h.grownOther d.gr (fun j e => by cases e; exact hB)
end
section
variable {α : Type} {enc : α → List Value} {sz : Nat} {T : TypeId} {w w' : World} {B n c g : Nat} {A : Option Addr} {zs : List α}
theorem OwnE.grownOther {row : Option Nat} (h : OwnE enc sz T w B A n c zs) (hg : w.grownBy w' row) (hB : ∀ j, row = some j → j < B) : OwnE enc sz T w' B A n c zs :=
  h.kept hg (by
    rcases hv : (Value.slice A n c).ownBlock with _ | b
    · exact .inl rfl
    · refine .inr fun e => ?_
      have := (h.row b hv).1
      have := hB b e.symm
      omega)
theorem OwnE.dr (h : OwnE enc sz T w B A n c zs) (d : Dr w g w') (hB : g < B) : OwnE enc sz T w' B A n c zs := h.grownOther d.gr (fun j e => by cases e; exact hB)
end
/-- all of a few written numbers, behind a draw -/
theorem lit_cells {w w' : World} {g : Nat} {L : List Int} {t : TypeId} (hg : (w.alloc (.cells (L.map (Value.int .i64)).toArray t)).grownBy w' (some g)) (hl : g < w.heap.size) {j : Nat} {u : Int} (hu : L[j]? = some u) :
    w'.cell? ⟨w.heap.size, j, none⟩ = some (.int .i64 u) := by
  refine World.grownBy.cell hg ?_ (fun e => by injection e with e; dsimp only at e; omega)
  have hx' := new_heap w (.cells (L.map (Value.int .i64)).toArray t)
  unfold World.cell?
  rw [hx']
  simp [hu]
/-- one of a few written numbers, picked by a draw -/
theorem pick_cell {w w' : World} {g x : Nat} {L : List Int} {t : TypeId} (hg : (w.alloc (.cells (L.map (Value.int .i64)).toArray t)).grownBy w' (some g)) (hl : g < w.heap.size) (hx : x < L.length) :
    ∃ v, v ∈ L ∧ w'.cell? ⟨w.heap.size, x, none⟩ = some (.int .i64 v) := by
  refine ⟨gi L x, mem_gi hx, World.grownBy.cell hg ?_ (fun e => by injection e with e; dsimp only at e; omega)⟩
  have hx' := new_heap w (.cells (L.map (Value.int .i64)).toArray t)
  unfold World.cell?
  rw [hx']
  simp [hx, gi]

theorem mod_out {x n : Int} (hn : 1 < n) : ∃ q : Nat, x % n = (q : Int) ∧ ((q : Int) < n ∨ q = 0) := by
  have h1 := Int.emod_nonneg x (b := n) (by omega)
  have h2 := Int.emod_lt_of_pos x (b := n) (by omega)
  exact ⟨(x % n).toNat, by omega, .inl (by omega)⟩

set_option maxHeartbeats 4000000 in
theorem next_any (g : Nat) (n : Int) (w : World) (h : Src w g) :
    Calls Tryz.prog 33 #[.pointer (some ⟨g, 0, none⟩), .int .i64 n] w fun e w' => ∃ x : Nat, e = .returned (.int .i64 x) ∧ ((x : Int) < n ∨ x = 0) ∧ Dr w g w' := by
  by_cases hn : n ≤ 1
  · go_enter Tryz.func33, Tryz.ntmps33
    go_wp2
    go_ret
    exact ⟨0, rfl, .inr rfl, Dr.refl h⟩
  · obtain ⟨A, nc, cc, bs, k, z, hb, hr, hk, hnc, hz0, hz1⟩ := h
    have c0 := hb.c0
    have c1 := hb.c1
    have c2 := hb.c2
    have f1 := hb.free 1
    have f2 := hb.free 2
    go_enter Tryz.func33, Tryz.ntmps33
    go_upto_region 4 with fail
    refine wp_forget (fun w' => ∃ z' : Int, Blk3 w' g 78 (.slice A nc cc) (.int .i64 k) (.int .i64 z') ∧ 0 ≤ z' ∧ z' < 2147483647 ∧ w.grownBy w' (some g)) ⟨_, hb.set2 _, by omega, by omega, grown_set _ _ _⟩ ?_
    clear c0 c1 c2 f1 f2 hb
    rintro w1 ⟨z', hb, hz0', hz1', hg1⟩
    have c0 := hb.c0
    have c1 := hb.c1
    have c2 := hb.c2
    have f1 := hb.free 1
    by_cases hlt : k < nc
    · obtain ⟨b, o, rfl, hbg, hc⟩ := (hr.grown hg1).get (by omega)
      have hb0 := hr.byte hlt
      have hcell := hc k hlt
      have hne : ¬ b = g := by omega
      clear hc
      have fin : ∀ m, Dr w g ((w1.drewN m).setCell ⟨g, 1, none⟩ (.int .i64 (↑k + 1))) := fun m => ⟨⟨some ⟨b, o, none⟩, nc, cc, bs, k + 1, z', by simpa using (hb.drewN m).set1 (.int .i64 (↑k + 1)), (hr.grown (grown_dN hg1 m)).grown (grown_set _ _ _), by omega, hnc, hz0', hz1'⟩, grown_tr (grown_dN hg1 m) (grown_set _ _ _)⟩
      by_cases h256 : n ≤ 256
      · by_cases hodd : (k + 1) % 2 = 0
        · have ho : (((k : Int) + 1) % 2 == 0) = true := by simp; omega
          go_wp2
          go_quiet (fail)
          go_wp2
          go_quiet (fail)
          go_wp2
          go_quiet (fail)
          go_wp2
          obtain ⟨q, hq, hq2⟩ := mod_out (x := gi bs k) (n := n) (by omega)
          go_ret
          exact ⟨q, ret_int hq, hq2, (fin _).drewN _⟩
        · have ho : (((k : Int) + 1) % 2 == 0) = false := by simp; omega
          go_wp2
          go_quiet (fail)
          go_wp2
          go_quiet (fail)
          go_wp2
          obtain ⟨q, hq, hq2⟩ := mod_out (x := z' / 23 + gi bs k) (n := n) (by omega)
          go_ret
          exact ⟨q, ret_int hq, hq2, fin _⟩
      · go_wp2
        go_quiet (fail)
        go_wp2
        go_quiet (fail)
        go_wp2
        obtain ⟨q, hq, hq2⟩ := mod_out (x := z' / 23 + gi bs k) (n := n) (by omega)
        go_ret
        exact ⟨q, ret_int hq, hq2, fin _⟩
    · go_wp2
      go_quiet (fail)
      go_wp2
      obtain ⟨q, hq, hq2⟩ := mod_out (x := z' / 23) (n := n) (by omega)
      go_ret
      exact ⟨q, ret_int hq, hq2, ⟨⟨A, nc, cc, bs, k, z', hb.drewN _, hr.grown (grown_dN hg1 _), hk, hnc, hz0', hz1'⟩, grown_dN hg1 _⟩⟩
end Go.Proofs.YtbaojbheopcjhaaGreatDoor

namespace Go.Proofs.YtbaojbheopcjhaaGreatDoor
open Go.RowKit

set_option maxHeartbeats 4000000 in
theorem from_any (A : Option Addr) (n c : Nat) (bs : List Int) (w : World) (h : RB w w.heap.size A n bs) (hn : n ≤ 1099511627776) :
    Calls Tryz.prog 21 #[.slice A n c] w fun e w' => ∃ g, e = .returned (.pointer (some ⟨g, 0, none⟩)) ∧ Src w' g ∧ w.heap.size ≤ g ∧ Below w.heap.size w w' := by
  go_enter Tryz.func21, Tryz.ntmps21
  go_wp2
  go_loopw [4] (fun i wr => ∃ (k : Nat) (z : Int), k ≤ n ∧ i = .int .i64 k ∧ Blk3 wr w.heap.size 78 (.slice A n c) (.int .i64 (0 : Nat)) (.int .i64 z) ∧ 0 ≤ z ∧ z < 2147483647 ∧ Below w.heap.size w wr) (fun i _ => n - (intOf i).toNat)
  case atStart => exact ⟨0, 40009, Nat.zero_le _, rfl, Blk3.new w _ _ _ _, by omega, by omega, below_alloc (Below.refl _ _) (Nat.le_refl _) _⟩
  case round =>
    obtain ⟨k, z, hk, rfl, hblk, hz0, hz1, hb⟩ := hrel
    have c2 := hblk.c2
    have f2 := hblk.free 2
    by_cases hlt : k < n
    · by_cases h64 : k < 64
      · obtain ⟨b, o, rfl, hbg, hc⟩ := (h.below hb (Nat.le_refl _)).get (by omega)
        have hb0 := h.byte hlt
        have hcell := hc k hlt
        have hne : ¬ b = w.heap.size := by omega
        clear hc
        go_wp2
        go_region
        all_goals
          go_wp2
          go_roundw
          case rel => exact ⟨k + 1, _, by omega, by go_num, (hblk.drewN _).set2 _, by omega, by omega, (below_drewN hb _).setCell (Nat.le_refl _) _⟩
          case measure => simp [intOf]; omega
      · go_wp2
        go_ret
        exact ⟨w.heap.size, rfl, ⟨A, n, c, bs, 0, z, hblk, (h.below hb (Nat.le_refl _)), Nat.zero_le _, hn, hz0, hz1⟩, Nat.le_refl _, hb⟩
    · go_wp2
      go_ret
      exact ⟨w.heap.size, rfl, ⟨A, n, c, bs, 0, z, hblk, (h.below hb (Nat.le_refl _)), Nat.zero_le _, hn, hz0, hz1⟩, Nat.le_refl _, hb⟩

theorem vint {a b : Int} (h : a = b) : Value.int .i64 a = Value.int .i64 b := by rw [h]
/-- a drawn list of at most N numbers -/
def DrI (w : World) (g N : Nat) (e : Ending) (w' : World) : Prop :=
  ∃ A n c zs, e = .returned (.slice A n c) ∧ OwnI 2 w' w.heap.size A n c zs ∧ n ≤ N ∧ Dr w g w'

set_option maxHeartbeats 4000000 in
theorem drawBytes_any (g : Nat) (most : Nat) (w : World) (h : Src w g) (hm : most ≤ 4096) :
    Calls Tryz.prog 88 #[.pointer (some ⟨g, 0, none⟩), .int .i64 most] w (DrI w g 8200) := by
  have hl := h.lt
  go_enter Tryz.func88, Tryz.ntmps88
  go_wp2_with fail
  refine (next_any g _ _ ((Dr.refl h).alloc _).src).mono ?_
  rintro e w1 ⟨x, rfl, hx, d1⟩
  have hown1 := (OwnI.empty (T := 2) w (base := w.heap.size) (Nat.le_refl _)).dr d1 hl
  have d1' := d1.next ((Dr.refl h).alloc _)
  clear d1
  go_wp2_with fail
  go_loopw [5, 6] (fun o i wr => ∃ (m q : Nat) (A' : Option Addr) (c' : Nat) (zs : List Int), m + q ≤ 4097 ∧ o = .slice A' m c' ∧ i = .int .i64 q ∧ OwnI 2 wr w.heap.size A' m c' zs ∧ Dr w g wr) (fun _ i _ => (intOf i).toNat)
  case atStart => exact ⟨0, x, _, _, _, by omega, rfl, rfl, hown1, d1'⟩
  case round =>
    obtain ⟨m, q, A', c', zs, hmq, rfl, rfl, hown, d⟩ := hrel
    by_cases hq : 0 < q
    · go_wp2_with fail
      refine (next_any g _ _ d.src).mono ?_
      rintro e w2 ⟨y, rfl, hy, d2⟩
      have hown2 := hown.dr d2 hl
      have d2' := d2.next d
      go_wp2_with (at_builtin; refine wpl_appI _ _ Tryz.underlying31 infoInt rfl _ _ rfl w.heap.size _ m _ _ rfl hown2 y rfl (by omega) d2'.size ?_; intro A3 c3 w3 hown3 hB3 hg3)
      go_roundw
      case rel => exact ⟨m + 1, q - 1, A3, c3, _, by omega, rfl, by congr 1; omega, hown3, d2'.app hown2 hg3 hl⟩
      case measure => simp [intOf]; omega
    · obtain rfl : q = 0 := by omega
      go_wp2_with fail
      refine (next_any g _ _ d.src).mono ?_
      rintro e w2 ⟨y, rfl, hy, d2⟩
      have hown2 := hown.dr d2 hl
      have d2' := d2.next d
      by_cases h0 : y = 0
      · subst h0
        go_wp2_with fail
        refine (next_any g _ _ (d2'.alloc _).src).mono ?_
        rintro e w3 ⟨v, rfl, hv, d3⟩
        obtain ⟨u, _, hc⟩ := pick_cell (L := [256, -1]) d3.gr d2'.lt (x := v) (by simp; omega)
        have hown3 := (hown2.alloc _).dr d3 hl
        have d3' := d3.next (d2'.alloc _)
        have hv2 : v < 2 := by omega
        go_wp2_with (at_builtin; refine wpl_appI _ _ Tryz.underlying31 infoInt rfl _ _ rfl w.heap.size _ m _ _ rfl hown3 u rfl (by omega) d3'.size ?_; intro A4 c4 w4 hown4 hB4 hg4)
        go_ret
        exact ⟨A4, m + 1, c4, _, rfl, hown4, by omega, d3'.app hown3 hg4 hl⟩
      · have b0 : ((y : Int) == 0) = false := by simp; omega
        by_cases h1 : y = 1
        · subst h1
          go_wp2_with fail
          refine (next_any g _ _ d2'.src).mono ?_
          rintro e w3 ⟨v, rfl, hv, d3⟩
          have hv2 : v < 2 := by omega
          have d3' := d3.next d2'
          go_wp2_with (at_make; refine wpl_make _ Tryz.underlying31 infoInt rfl _ _ rfl (1024 + v) (vint (by omega)) (vint (by omega)) (by omega) ?_; intro w4 hown4 hg4)
          go_ret
          exact ⟨_, 1024 + v, _, _, rfl, hown4.weaken d3'.size, by omega, d3'.own hg4 (fun j e => by cases e) hl⟩
        · have b1 : ((y : Int) == 1) = false := by simp; omega
          go_wp2
          go_ret
          exact ⟨A', m, c', zs, rfl, hown2, by omega, d2'⟩

end Go.Proofs.YtbaojbheopcjhaaGreatDoor

namespace Go.Proofs.YtbaojbheopcjhaaGreatDoor
open Go.RowKit

theorem OwnI.aside {T : TypeId} {w : World} {base n c : Nat} {A : Option Addr} {zs : List Int} (h : OwnI T w base A n c zs) {p : Addr} (hp : (Value.slice A n c).ownBlock ≠ some p.block) (v : Value) : OwnI T (w.setCell p v) base A n c zs := ownsRow_setCell_other h hp v
theorem BlkL.dr {w w' : World} {b g : Nat} {t : TypeId} {L : List Value} (h : BlkL w b t L) (d : Dr w g w') (hne : g ≠ b) : BlkL w' b t L :=
  (d.gr.block b h.lt (fun e => by injection e with e; exact hne e.symm)).trans h
/-- a drawn state -/
def DrS (w : World) (g : Nat) (e : Ending) (w' : World) : Prop :=
  ∃ t m d s b : Int, e = .returned (.agg #[.int .i64 t, .int .i64 m, .int .i64 d, .int .i64 s, .int .i64 b]) ∧ Dr w g w'
/-- a drawn frame -/
def DrFr (w : World) (g : Nat) (e : Ending) (w' : World) : Prop :=
  ∃ (k r t m d s b : Int) (A : Option Addr) (n c : Nat) (zs : List Int), e = .returned (.agg #[.int .i64 k, .int .i64 r, .int .i64 t, .int .i64 m, .int .i64 d, .int .i64 s, .int .i64 b, .slice A n c]) ∧ OwnI 2 w' w.heap.size A n c zs ∧ n ≤ 8200 ∧ Dr w g w'
/-- a drawn verdict -/
def DrVd (w : World) (g : Nat) (e : Ending) (w' : World) : Prop :=
  ∃ (x : Vdt) (A : Option Addr) (n c : Nat) (zs : List Int), e = .returned (.agg #[.int .i64 x.st, .int .i64 x.kd, .int .i64 x.rq, .int .i64 x.tm, .int .i64 x.md, .int .i64 x.rd, .int .i64 x.sl, .int .i64 x.mb, .slice A n c]) ∧ OwnI 2 w' w.heap.size A n c zs ∧ n ≤ 8200 ∧ Dr w g w'

set_option maxRecDepth 6000 in
set_option maxHeartbeats 8000000 in
theorem drawState_any (g : Nat) (w : World) (h : Src w g) :
    Calls Tryz.prog 52 #[.pointer (some ⟨g, 0, none⟩)] w (DrS w g) := by
  have hl := h.lt
  have hne_R : g ≠ w.heap.size := by omega
  go_enter Tryz.func52, Tryz.ntmps52
  go_wp2_with fail
  refine (next_any g 200 _ ((Dr.refl h).alloc _).src).mono ?_
  rintro e w1 ⟨a0, rfl, hx_a0, d⟩
  have K_R := Lib.hid (show BlkL w1 (w.heap.size) 30 [.int .i64 0, .int .i64 0, .int .i64 0, .int .i64 0, .int .i64 0] from BlkL.dr (BlkL.new _ 30 _ rfl) d hne_R)
  have D_1 := Lib.hid (d.next ((Dr.refl h).alloc _))
  have hb_a0 : a0 < 200 := by omega
  clear d
  go_wp2_with fail
  refine (next_any g 3 _ D_1.out.src).mono ?_
  rintro e w2 ⟨a1, rfl, hx_a1, d⟩
  replace K_R := Lib.hid (show BlkL w2 (w.heap.size) 30 [.int .i64 0, .int .i64 0, .int .i64 0, .int .i64 0, .int .i64 0] from BlkL.dr K_R.out d hne_R)
  have D_2 := Lib.hid (d.next D_1.out)
  have hb_a1 : a1 < 3 := by omega
  clear d
  go_wp2_with fail
  refine (next_any g 3 _ D_2.out.src).mono ?_
  rintro e w3 ⟨a2, rfl, hx_a2, d⟩
  replace K_R := Lib.hid (show BlkL w3 (w.heap.size) 30 [.int .i64 0, .int .i64 0, .int .i64 0, .int .i64 0, .int .i64 0] from BlkL.dr K_R.out d hne_R)
  have D_3 := Lib.hid (d.next D_2.out)
  have hb_a2 : a2 < 3 := by omega
  clear d
  go_wp2_with fail
  refine (next_any g 6 _ D_3.out.src).mono ?_
  rintro e w4 ⟨a3, rfl, hx_a3, d⟩
  replace K_R := Lib.hid (show BlkL w4 (w.heap.size) 30 [.int .i64 0, .int .i64 0, .int .i64 0, .int .i64 0, .int .i64 0] from BlkL.dr K_R.out d hne_R)
  have D_4 := Lib.hid (d.next D_3.out)
  have hb_a3 : a3 < 6 := by omega
  clear d
  go_wp2_with fail
  refine (next_any g 256 _ D_4.out.src).mono ?_
  rintro e w5 ⟨a4, rfl, hx_a4, d⟩
  replace K_R := Lib.hid (show BlkL w5 (w.heap.size) 30 [.int .i64 0, .int .i64 0, .int .i64 0, .int .i64 0, .int .i64 0] from BlkL.dr K_R.out d hne_R)
  have D_5 := Lib.hid (d.next D_4.out)
  have hb_a4 : a4 < 256 := by omega
  clear d
  have hne_F : g ≠ w5.heap.size := by have := D_5.out.lt; omega
  have ne_RF : ¬ w.heap.size = w5.heap.size := by have := K_R.out.lt; omega
  have ne_FR : ¬ w5.heap.size = w.heap.size := fun e => ne_RF e.symm
  go_wp2_with fail
  refine (next_any g 8 _ (D_5.out.alloc _).src).mono ?_
  rintro e w6 ⟨x, rfl, hx_x, d⟩
  replace K_R := Lib.hid (show BlkL w6 (w.heap.size) 30 [.int .i64 0, .int .i64 0, .int .i64 0, .int .i64 0, .int .i64 0] from BlkL.dr (K_R.out.alloc _) d hne_R)
  have K_F := Lib.hid (show BlkL w6 (w5.heap.size) 30 [.int .i64 a0, .int .i64 a1, .int .i64 a2, .int .i64 a3, .int .i64 a4] from BlkL.dr (BlkL.new _ 30 _ rfl) d hne_F)
  have D_6 := Lib.hid (d.next (D_5.out.alloc _))
  have hle_F : w.heap.size ≤ w5.heap.size := by have := D_5.out.size; omega
  have hb_x : x < 8 := by omega
  clear d
  by_cases h0 : x = 0
  case neg =>
    have b0 : ((x : Int) == 0) = false := by simp; omega
    have kR0_1 := K_R.out.c 0 rfl; have kR1_1 := K_R.out.c 1 rfl; have kR2_1 := K_R.out.c 2 rfl; have kR3_1 := K_R.out.c 3 rfl; have kR4_1 := K_R.out.c 4 rfl; have kfR_1 := K_R.out.free
    have kF0_2 := K_F.out.c 0 rfl; have kF1_2 := K_F.out.c 1 rfl; have kF2_2 := K_F.out.c 2 rfl; have kF3_2 := K_F.out.c 3 rfl; have kF4_2 := K_F.out.c 4 rfl; have kfF_2 := K_F.out.free
    go_wp2_with fail
    refine bp_forget (fun w' => BlkL w' w.heap.size 30 [.int .i64 a0, .int .i64 a1, .int .i64 a2, .int .i64 a3, .int .i64 a4] ∧ Dr w g w') ?_ ?_
    · exact ⟨(((((K_R.out.set 0 _).set 1 _).set 2 _).set 3 _).set 4 _), (((((D_6.out.set (p := ⟨w.heap.size, 0, none⟩) (Nat.le_refl _) hl _).set (p := ⟨w.heap.size, 1, none⟩) (Nat.le_refl _) hl _).set (p := ⟨w.heap.size, 2, none⟩) (Nat.le_refl _) hl _).set (p := ⟨w.heap.size, 3, none⟩) (Nat.le_refl _) hl _).set (p := ⟨w.heap.size, 4, none⟩) (Nat.le_refl _) hl _)⟩
    rintro wz ⟨kz, dz⟩
    have q0 := kz.c 0 rfl
    have q1 := kz.c 1 rfl
    have q2 := kz.c 2 rfl
    have q3 := kz.c 3 rfl
    have q4 := kz.c 4 rfl
    exact bodyPost_ret (v := .agg #[.int .i64 a0, .int .i64 a1, .int .i64 a2, .int .i64 a3, .int .i64 a4]) (by simp [results, Tryz.results52, go_sem, q0, q1, q2, q3, q4]) rfl ⟨_, _, _, _, _, rfl, dz⟩
  subst h0
  go_wp2_with fail
  refine (next_any g 9 _ D_6.out.src).mono ?_
  rintro e w7 ⟨c0, rfl, hx_c0, d⟩
  replace K_R := Lib.hid (show BlkL w7 (w.heap.size) 30 [.int .i64 0, .int .i64 0, .int .i64 0, .int .i64 0, .int .i64 0] from BlkL.dr K_R.out d hne_R)
  replace K_F := Lib.hid (show BlkL w7 (w5.heap.size) 30 [.int .i64 a0, .int .i64 a1, .int .i64 a2, .int .i64 a3, .int .i64 a4] from BlkL.dr K_F.out d hne_F)
  have D_7 := Lib.hid (d.next D_6.out)
  have hb1_c0 : (0 : Int) ≤ (c0 : Int) := by omega
  have hb2_c0 : (c0 : Int) < 9 := by omega
  clear hx_c0
  generalize (c0 : Int) = C0 at *
  clear d
  go_wp2_with fail
  refine (next_any g 16 _ D_7.out.src).mono ?_
  rintro e w8 ⟨c1, rfl, hx_c1, d⟩
  replace K_R := Lib.hid (show BlkL w8 (w.heap.size) 30 [.int .i64 0, .int .i64 0, .int .i64 0, .int .i64 0, .int .i64 0] from BlkL.dr K_R.out d hne_R)
  replace K_F := Lib.hid (show BlkL w8 (w5.heap.size) 30 [.int .i64 a0, .int .i64 a1, .int .i64 a2, .int .i64 a3, .int .i64 a4] from BlkL.dr K_F.out d hne_F)
  have D_8 := Lib.hid (d.next D_7.out)
  have hb_c1 : c1 < 16 := by omega
  clear d
  go_wp2_with fail
  refine (next_any g 16 _ D_8.out.src).mono ?_
  rintro e w9 ⟨c2, rfl, hx_c2, d⟩
  replace K_R := Lib.hid (show BlkL w9 (w.heap.size) 30 [.int .i64 0, .int .i64 0, .int .i64 0, .int .i64 0, .int .i64 0] from BlkL.dr K_R.out d hne_R)
  replace K_F := Lib.hid (show BlkL w9 (w5.heap.size) 30 [.int .i64 a0, .int .i64 a1, .int .i64 a2, .int .i64 a3, .int .i64 a4] from BlkL.dr K_F.out d hne_F)
  have D_9 := Lib.hid (d.next D_8.out)
  have hb_c2 : c2 < 16 := by omega
  clear d
  go_wp2_with fail
  refine (next_any g 256 _ D_9.out.src).mono ?_
  rintro e w10 ⟨c3, rfl, hx_c3, d⟩
  replace K_R := Lib.hid (show BlkL w10 (w.heap.size) 30 [.int .i64 0, .int .i64 0, .int .i64 0, .int .i64 0, .int .i64 0] from BlkL.dr K_R.out d hne_R)
  replace K_F := Lib.hid (show BlkL w10 (w5.heap.size) 30 [.int .i64 a0, .int .i64 a1, .int .i64 a2, .int .i64 a3, .int .i64 a4] from BlkL.dr K_F.out d hne_F)
  have D_10 := Lib.hid (d.next D_9.out)
  have hb_c3 : c3 < 256 := by omega
  clear d
  go_wp2_with fail
  refine (next_any g 99 _ D_10.out.src).mono ?_
  rintro e w11 ⟨c4, rfl, hx_c4, d⟩
  replace K_R := Lib.hid (show BlkL w11 (w.heap.size) 30 [.int .i64 0, .int .i64 0, .int .i64 0, .int .i64 0, .int .i64 0] from BlkL.dr K_R.out d hne_R)
  replace K_F := Lib.hid (show BlkL w11 (w5.heap.size) 30 [.int .i64 a0, .int .i64 a1, .int .i64 a2, .int .i64 a3, .int .i64 a4] from BlkL.dr K_F.out d hne_F)
  have D_11 := Lib.hid (d.next D_10.out)
  have hb1_c4 : (0 : Int) ≤ (c4 : Int) := by omega
  have hb2_c4 : (c4 : Int) < 99 := by omega
  clear hx_c4
  generalize (c4 : Int) = C4 at *
  clear d
  have kR0_1 := K_R.out.c 0 rfl; have kR1_1 := K_R.out.c 1 rfl; have kR2_1 := K_R.out.c 2 rfl; have kR3_1 := K_R.out.c 3 rfl; have kR4_1 := K_R.out.c 4 rfl; have kfR_1 := K_R.out.free
  have kF0_2 := K_F.out.c 0 rfl; have kF1_2 := K_F.out.c 1 rfl; have kF2_2 := K_F.out.c 2 rfl; have kF3_2 := K_F.out.c 3 rfl; have kF4_2 := K_F.out.c 4 rfl; have kfF_2 := K_F.out.free
  go_upto_region 4 with fail
  obtain ⟨wS, hwS⟩ : ∃ x, (((((w11.setCell ⟨w5.heap.size, 0, none⟩ (.int .i64 (65535 - C0))).setCell ⟨w5.heap.size, 1, none⟩ (.int .i64 c1)).setCell ⟨w5.heap.size, 2, none⟩ (.int .i64 c2)).setCell ⟨w5.heap.size, 3, none⟩ (.int .i64 c3)).setCell ⟨w5.heap.size, 4, none⟩ (.int .i64 (4294967295 - C4))) = x := ⟨_, rfl⟩
  clear kR0_1 kR1_1 kR2_1 kR3_1 kR4_1 kfR_1
  clear kF0_2 kF1_2 kF2_2 kF3_2 kF4_2 kfF_2
  replace K_R := Lib.hid (show BlkL wS (w.heap.size) 30 [.int .i64 0, .int .i64 0, .int .i64 0, .int .i64 0, .int .i64 0] from hwS ▸ (((((K_R.out.other (p := ⟨w5.heap.size, 0, none⟩) ne_FR _).other (p := ⟨w5.heap.size, 1, none⟩) ne_FR _).other (p := ⟨w5.heap.size, 2, none⟩) ne_FR _).other (p := ⟨w5.heap.size, 3, none⟩) ne_FR _).other (p := ⟨w5.heap.size, 4, none⟩) ne_FR _))
  replace K_F := Lib.hid (show BlkL wS (w5.heap.size) 30 [.int .i64 (65535 - C0), .int .i64 c1, .int .i64 c2, .int .i64 c3, .int .i64 (4294967295 - C4)] from hwS ▸ (((((K_F.out.set 0 _).set 1 _).set 2 _).set 3 _).set 4 _))
  have D_12 := Lib.hid (show Dr w g wS from hwS ▸ (((((D_11.out.set (p := ⟨w5.heap.size, 0, none⟩) hle_F hl _).set (p := ⟨w5.heap.size, 1, none⟩) hle_F hl _).set (p := ⟨w5.heap.size, 2, none⟩) hle_F hl _).set (p := ⟨w5.heap.size, 3, none⟩) hle_F hl _).set (p := ⟨w5.heap.size, 4, none⟩) hle_F hl _))
  rw [hwS]
  clear hwS
  have kR0_3 := K_R.out.c 0 rfl; have kR1_3 := K_R.out.c 1 rfl; have kR2_3 := K_R.out.c 2 rfl; have kR3_3 := K_R.out.c 3 rfl; have kR4_3 := K_R.out.c 4 rfl; have kfR_3 := K_R.out.free
  have kF0_4 := K_F.out.c 0 rfl; have kF1_4 := K_F.out.c 1 rfl; have kF2_4 := K_F.out.c 2 rfl; have kF3_4 := K_F.out.c 3 rfl; have kF4_4 := K_F.out.c 4 rfl; have kfF_4 := K_F.out.free
  go_wp2_with fail
  refine bp_forget (fun w' => BlkL w' w.heap.size 30 [.int .i64 (65535 - C0), .int .i64 c1, .int .i64 c2, .int .i64 c3, .int .i64 (4294967295 - C4)] ∧ Dr w g w') ?_ ?_
  · exact ⟨(((((K_R.out.set 0 _).set 1 _).set 2 _).set 3 _).set 4 _), (((((D_12.out.set (p := ⟨w.heap.size, 0, none⟩) (Nat.le_refl _) hl _).set (p := ⟨w.heap.size, 1, none⟩) (Nat.le_refl _) hl _).set (p := ⟨w.heap.size, 2, none⟩) (Nat.le_refl _) hl _).set (p := ⟨w.heap.size, 3, none⟩) (Nat.le_refl _) hl _).set (p := ⟨w.heap.size, 4, none⟩) (Nat.le_refl _) hl _)⟩
  rintro wz ⟨kz, dz⟩
  have q0 := kz.c 0 rfl
  have q1 := kz.c 1 rfl
  have q2 := kz.c 2 rfl
  have q3 := kz.c 3 rfl
  have q4 := kz.c 4 rfl
  exact bodyPost_ret (v := .agg #[.int .i64 (65535 - C0), .int .i64 c1, .int .i64 c2, .int .i64 c3, .int .i64 (4294967295 - C4)]) (by simp [results, Tryz.results52, go_sem, q0, q1, q2, q3, q4]) rfl ⟨_, _, _, _, _, rfl, dz⟩

set_option maxRecDepth 6000 in
set_option maxHeartbeats 8000000 in
theorem drawStateAny_any (g : Nat) (w : World) (h : Src w g) :
    Calls Tryz.prog 85 #[.pointer (some ⟨g, 0, none⟩)] w (DrS w g) := by
  have hl := h.lt
  have hne_R : g ≠ w.heap.size := by omega
  go_enter Tryz.func85, Tryz.ntmps85
  go_wp2_with fail
  refine (drawState_any g _ ((Dr.refl h).alloc _).src).mono ?_
  rintro e w1 ⟨t, m, dd, sl, b, rfl, d⟩
  have K_R := Lib.hid (show BlkL w1 (w.heap.size) 30 [.int .i64 0, .int .i64 0, .int .i64 0, .int .i64 0, .int .i64 0] from BlkL.dr (BlkL.new _ 30 _ rfl) d hne_R)
  have D_1 := Lib.hid (d.next ((Dr.refl h).alloc _))
  clear d
  have hne_F : g ≠ w1.heap.size := by have := D_1.out.lt; omega
  have ne_RF : ¬ w.heap.size = w1.heap.size := by have := K_R.out.lt; omega
  have ne_FR : ¬ w1.heap.size = w.heap.size := fun e => ne_RF e.symm
  go_wp2_with fail
  refine (next_any g 30 _ (D_1.out.alloc _).src).mono ?_
  rintro e w2 ⟨x, rfl, hx_x, d⟩
  replace K_R := Lib.hid (show BlkL w2 (w.heap.size) 30 [.int .i64 0, .int .i64 0, .int .i64 0, .int .i64 0, .int .i64 0] from BlkL.dr (K_R.out.alloc _) d hne_R)
  have K_F := Lib.hid (show BlkL w2 (w1.heap.size) 30 [.int .i64 t, .int .i64 m, .int .i64 dd, .int .i64 sl, .int .i64 b] from BlkL.dr (BlkL.new _ 30 _ rfl) d hne_F)
  have D_2 := Lib.hid (d.next (D_1.out.alloc _))
  have hle_F : w.heap.size ≤ w1.heap.size := by have := D_1.out.size; omega
  have hb_x : x < 30 := by omega
  clear d
  by_cases h0 : x = 0
  case pos =>
    subst h0
    go_wp2_with fail
    refine (next_any g 3 _ (D_2.out.alloc _).src).mono ?_
    rintro e w3 ⟨y, rfl, hx_y, d⟩
    replace K_R := Lib.hid (show BlkL w3 (w.heap.size) 30 [.int .i64 0, .int .i64 0, .int .i64 0, .int .i64 0, .int .i64 0] from BlkL.dr (K_R.out.alloc _) d hne_R)
    replace K_F := Lib.hid (show BlkL w3 (w1.heap.size) 30 [.int .i64 t, .int .i64 m, .int .i64 dd, .int .i64 sl, .int .i64 b] from BlkL.dr (K_F.out.alloc _) d hne_F)
    have D_3 := Lib.hid (d.next (D_2.out.alloc _))
    obtain ⟨u, _, hc⟩ := pick_cell (L := [-1, 65535, 65536]) d.gr D_2.out.lt (x := y) (by simp; omega)
    have hb_y : y < 3 := by omega
    clear d
    have kR0_1 := K_R.out.c 0 rfl; have kR1_1 := K_R.out.c 1 rfl; have kR2_1 := K_R.out.c 2 rfl; have kR3_1 := K_R.out.c 3 rfl; have kR4_1 := K_R.out.c 4 rfl; have kfR_1 := K_R.out.free
    have kF0_2 := K_F.out.c 0 rfl; have kF1_2 := K_F.out.c 1 rfl; have kF2_2 := K_F.out.c 2 rfl; have kF3_2 := K_F.out.c 3 rfl; have kF4_2 := K_F.out.c 4 rfl; have kfF_2 := K_F.out.free
    go_upto_region 13 with fail
    obtain ⟨wS, hwS⟩ : ∃ x, (w3.setCell ⟨w1.heap.size, 0, none⟩ (.int .i64 u)) = x := ⟨_, rfl⟩
    clear kR0_1 kR1_1 kR2_1 kR3_1 kR4_1 kfR_1
    clear kF0_2 kF1_2 kF2_2 kF3_2 kF4_2 kfF_2
    replace K_R := Lib.hid (show BlkL wS (w.heap.size) 30 [.int .i64 0, .int .i64 0, .int .i64 0, .int .i64 0, .int .i64 0] from hwS ▸ (K_R.out.other (p := ⟨w1.heap.size, 0, none⟩) ne_FR _))
    replace K_F := Lib.hid (show BlkL wS (w1.heap.size) 30 [.int .i64 u, .int .i64 m, .int .i64 dd, .int .i64 sl, .int .i64 b] from hwS ▸ (K_F.out.set 0 _))
    have D_4 := Lib.hid (show Dr w g wS from hwS ▸ (D_3.out.set (p := ⟨w1.heap.size, 0, none⟩) hle_F hl _))
    rw [hwS]
    clear hwS
    have kR0_3 := K_R.out.c 0 rfl; have kR1_3 := K_R.out.c 1 rfl; have kR2_3 := K_R.out.c 2 rfl; have kR3_3 := K_R.out.c 3 rfl; have kR4_3 := K_R.out.c 4 rfl; have kfR_3 := K_R.out.free
    have kF0_4 := K_F.out.c 0 rfl; have kF1_4 := K_F.out.c 1 rfl; have kF2_4 := K_F.out.c 2 rfl; have kF3_4 := K_F.out.c 3 rfl; have kF4_4 := K_F.out.c 4 rfl; have kfF_4 := K_F.out.free
    go_wp2_with fail
    refine bp_forget (fun w' => BlkL w' w.heap.size 30 [.int .i64 u, .int .i64 m, .int .i64 dd, .int .i64 sl, .int .i64 b] ∧ Dr w g w') ?_ ?_
    · exact ⟨(((((K_R.out.set 0 _).set 1 _).set 2 _).set 3 _).set 4 _), (((((D_4.out.set (p := ⟨w.heap.size, 0, none⟩) (Nat.le_refl _) hl _).set (p := ⟨w.heap.size, 1, none⟩) (Nat.le_refl _) hl _).set (p := ⟨w.heap.size, 2, none⟩) (Nat.le_refl _) hl _).set (p := ⟨w.heap.size, 3, none⟩) (Nat.le_refl _) hl _).set (p := ⟨w.heap.size, 4, none⟩) (Nat.le_refl _) hl _)⟩
    rintro wz ⟨kz, dz⟩
    have q0 := kz.c 0 rfl
    have q1 := kz.c 1 rfl
    have q2 := kz.c 2 rfl
    have q3 := kz.c 3 rfl
    have q4 := kz.c 4 rfl
    exact bodyPost_ret (v := .agg #[.int .i64 u, .int .i64 m, .int .i64 dd, .int .i64 sl, .int .i64 b]) (by simp [results, Tryz.results85, go_sem, q0, q1, q2, q3, q4]) rfl ⟨_, _, _, _, _, rfl, dz⟩
  have b0 : ((x : Int) == 0) = false := by simp; omega
  by_cases h1 : x = 1
  case pos =>
    subst h1
    go_wp2_with fail
    refine (next_any g 2 _ (D_2.out.alloc _).src).mono ?_
    rintro e w3 ⟨y, rfl, hx_y, d⟩
    replace K_R := Lib.hid (show BlkL w3 (w.heap.size) 30 [.int .i64 0, .int .i64 0, .int .i64 0, .int .i64 0, .int .i64 0] from BlkL.dr (K_R.out.alloc _) d hne_R)
    replace K_F := Lib.hid (show BlkL w3 (w1.heap.size) 30 [.int .i64 t, .int .i64 m, .int .i64 dd, .int .i64 sl, .int .i64 b] from BlkL.dr (K_F.out.alloc _) d hne_F)
    have D_3 := Lib.hid (d.next (D_2.out.alloc _))
    obtain ⟨u, _, hc⟩ := pick_cell (L := [-1, 16]) d.gr D_2.out.lt (x := y) (by simp; omega)
    have hb_y : y < 2 := by omega
    clear d
    have kR0_1 := K_R.out.c 0 rfl; have kR1_1 := K_R.out.c 1 rfl; have kR2_1 := K_R.out.c 2 rfl; have kR3_1 := K_R.out.c 3 rfl; have kR4_1 := K_R.out.c 4 rfl; have kfR_1 := K_R.out.free
    have kF0_2 := K_F.out.c 0 rfl; have kF1_2 := K_F.out.c 1 rfl; have kF2_2 := K_F.out.c 2 rfl; have kF3_2 := K_F.out.c 3 rfl; have kF4_2 := K_F.out.c 4 rfl; have kfF_2 := K_F.out.free
    go_upto_region 13 with fail
    obtain ⟨wS, hwS⟩ : ∃ x, (w3.setCell ⟨w1.heap.size, 1, none⟩ (.int .i64 u)) = x := ⟨_, rfl⟩
    clear kR0_1 kR1_1 kR2_1 kR3_1 kR4_1 kfR_1
    clear kF0_2 kF1_2 kF2_2 kF3_2 kF4_2 kfF_2
    replace K_R := Lib.hid (show BlkL wS (w.heap.size) 30 [.int .i64 0, .int .i64 0, .int .i64 0, .int .i64 0, .int .i64 0] from hwS ▸ (K_R.out.other (p := ⟨w1.heap.size, 1, none⟩) ne_FR _))
    replace K_F := Lib.hid (show BlkL wS (w1.heap.size) 30 [.int .i64 t, .int .i64 u, .int .i64 dd, .int .i64 sl, .int .i64 b] from hwS ▸ (K_F.out.set 1 _))
    have D_4 := Lib.hid (show Dr w g wS from hwS ▸ (D_3.out.set (p := ⟨w1.heap.size, 1, none⟩) hle_F hl _))
    rw [hwS]
    clear hwS
    have kR0_3 := K_R.out.c 0 rfl; have kR1_3 := K_R.out.c 1 rfl; have kR2_3 := K_R.out.c 2 rfl; have kR3_3 := K_R.out.c 3 rfl; have kR4_3 := K_R.out.c 4 rfl; have kfR_3 := K_R.out.free
    have kF0_4 := K_F.out.c 0 rfl; have kF1_4 := K_F.out.c 1 rfl; have kF2_4 := K_F.out.c 2 rfl; have kF3_4 := K_F.out.c 3 rfl; have kF4_4 := K_F.out.c 4 rfl; have kfF_4 := K_F.out.free
    go_wp2_with fail
    refine bp_forget (fun w' => BlkL w' w.heap.size 30 [.int .i64 t, .int .i64 u, .int .i64 dd, .int .i64 sl, .int .i64 b] ∧ Dr w g w') ?_ ?_
    · exact ⟨(((((K_R.out.set 0 _).set 1 _).set 2 _).set 3 _).set 4 _), (((((D_4.out.set (p := ⟨w.heap.size, 0, none⟩) (Nat.le_refl _) hl _).set (p := ⟨w.heap.size, 1, none⟩) (Nat.le_refl _) hl _).set (p := ⟨w.heap.size, 2, none⟩) (Nat.le_refl _) hl _).set (p := ⟨w.heap.size, 3, none⟩) (Nat.le_refl _) hl _).set (p := ⟨w.heap.size, 4, none⟩) (Nat.le_refl _) hl _)⟩
    rintro wz ⟨kz, dz⟩
    have q0 := kz.c 0 rfl
    have q1 := kz.c 1 rfl
    have q2 := kz.c 2 rfl
    have q3 := kz.c 3 rfl
    have q4 := kz.c 4 rfl
    exact bodyPost_ret (v := .agg #[.int .i64 t, .int .i64 u, .int .i64 dd, .int .i64 sl, .int .i64 b]) (by simp [results, Tryz.results85, go_sem, q0, q1, q2, q3, q4]) rfl ⟨_, _, _, _, _, rfl, dz⟩
  have b1 : ((x : Int) == 1) = false := by simp; omega
  by_cases h2 : x = 2
  case pos =>
    subst h2
    go_wp2_with fail
    refine (next_any g 2 _ (D_2.out.alloc _).src).mono ?_
    rintro e w3 ⟨y, rfl, hx_y, d⟩
    replace K_R := Lib.hid (show BlkL w3 (w.heap.size) 30 [.int .i64 0, .int .i64 0, .int .i64 0, .int .i64 0, .int .i64 0] from BlkL.dr (K_R.out.alloc _) d hne_R)
    replace K_F := Lib.hid (show BlkL w3 (w1.heap.size) 30 [.int .i64 t, .int .i64 m, .int .i64 dd, .int .i64 sl, .int .i64 b] from BlkL.dr (K_F.out.alloc _) d hne_F)
    have D_3 := Lib.hid (d.next (D_2.out.alloc _))
    obtain ⟨u, _, hc⟩ := pick_cell (L := [-1, 16]) d.gr D_2.out.lt (x := y) (by simp; omega)
    have hb_y : y < 2 := by omega
    clear d
    have kR0_1 := K_R.out.c 0 rfl; have kR1_1 := K_R.out.c 1 rfl; have kR2_1 := K_R.out.c 2 rfl; have kR3_1 := K_R.out.c 3 rfl; have kR4_1 := K_R.out.c 4 rfl; have kfR_1 := K_R.out.free
    have kF0_2 := K_F.out.c 0 rfl; have kF1_2 := K_F.out.c 1 rfl; have kF2_2 := K_F.out.c 2 rfl; have kF3_2 := K_F.out.c 3 rfl; have kF4_2 := K_F.out.c 4 rfl; have kfF_2 := K_F.out.free
    go_upto_region 13 with fail
    obtain ⟨wS, hwS⟩ : ∃ x, (w3.setCell ⟨w1.heap.size, 2, none⟩ (.int .i64 u)) = x := ⟨_, rfl⟩
    clear kR0_1 kR1_1 kR2_1 kR3_1 kR4_1 kfR_1
    clear kF0_2 kF1_2 kF2_2 kF3_2 kF4_2 kfF_2
    replace K_R := Lib.hid (show BlkL wS (w.heap.size) 30 [.int .i64 0, .int .i64 0, .int .i64 0, .int .i64 0, .int .i64 0] from hwS ▸ (K_R.out.other (p := ⟨w1.heap.size, 2, none⟩) ne_FR _))
    replace K_F := Lib.hid (show BlkL wS (w1.heap.size) 30 [.int .i64 t, .int .i64 m, .int .i64 u, .int .i64 sl, .int .i64 b] from hwS ▸ (K_F.out.set 2 _))
    have D_4 := Lib.hid (show Dr w g wS from hwS ▸ (D_3.out.set (p := ⟨w1.heap.size, 2, none⟩) hle_F hl _))
    rw [hwS]
    clear hwS
    have kR0_3 := K_R.out.c 0 rfl; have kR1_3 := K_R.out.c 1 rfl; have kR2_3 := K_R.out.c 2 rfl; have kR3_3 := K_R.out.c 3 rfl; have kR4_3 := K_R.out.c 4 rfl; have kfR_3 := K_R.out.free
    have kF0_4 := K_F.out.c 0 rfl; have kF1_4 := K_F.out.c 1 rfl; have kF2_4 := K_F.out.c 2 rfl; have kF3_4 := K_F.out.c 3 rfl; have kF4_4 := K_F.out.c 4 rfl; have kfF_4 := K_F.out.free
    go_wp2_with fail
    refine bp_forget (fun w' => BlkL w' w.heap.size 30 [.int .i64 t, .int .i64 m, .int .i64 u, .int .i64 sl, .int .i64 b] ∧ Dr w g w') ?_ ?_
    · exact ⟨(((((K_R.out.set 0 _).set 1 _).set 2 _).set 3 _).set 4 _), (((((D_4.out.set (p := ⟨w.heap.size, 0, none⟩) (Nat.le_refl _) hl _).set (p := ⟨w.heap.size, 1, none⟩) (Nat.le_refl _) hl _).set (p := ⟨w.heap.size, 2, none⟩) (Nat.le_refl _) hl _).set (p := ⟨w.heap.size, 3, none⟩) (Nat.le_refl _) hl _).set (p := ⟨w.heap.size, 4, none⟩) (Nat.le_refl _) hl _)⟩
    rintro wz ⟨kz, dz⟩
    have q0 := kz.c 0 rfl
    have q1 := kz.c 1 rfl
    have q2 := kz.c 2 rfl
    have q3 := kz.c 3 rfl
    have q4 := kz.c 4 rfl
    exact bodyPost_ret (v := .agg #[.int .i64 t, .int .i64 m, .int .i64 u, .int .i64 sl, .int .i64 b]) (by simp [results, Tryz.results85, go_sem, q0, q1, q2, q3, q4]) rfl ⟨_, _, _, _, _, rfl, dz⟩
  have b2 : ((x : Int) == 2) = false := by simp; omega
  by_cases h3 : x = 3
  case pos =>
    subst h3
    go_wp2_with fail
    refine (next_any g 2 _ (D_2.out.alloc _).src).mono ?_
    rintro e w3 ⟨y, rfl, hx_y, d⟩
    replace K_R := Lib.hid (show BlkL w3 (w.heap.size) 30 [.int .i64 0, .int .i64 0, .int .i64 0, .int .i64 0, .int .i64 0] from BlkL.dr (K_R.out.alloc _) d hne_R)
    replace K_F := Lib.hid (show BlkL w3 (w1.heap.size) 30 [.int .i64 t, .int .i64 m, .int .i64 dd, .int .i64 sl, .int .i64 b] from BlkL.dr (K_F.out.alloc _) d hne_F)
    have D_3 := Lib.hid (d.next (D_2.out.alloc _))
    obtain ⟨u, _, hc⟩ := pick_cell (L := [-1, 256]) d.gr D_2.out.lt (x := y) (by simp; omega)
    have hb_y : y < 2 := by omega
    clear d
    have kR0_1 := K_R.out.c 0 rfl; have kR1_1 := K_R.out.c 1 rfl; have kR2_1 := K_R.out.c 2 rfl; have kR3_1 := K_R.out.c 3 rfl; have kR4_1 := K_R.out.c 4 rfl; have kfR_1 := K_R.out.free
    have kF0_2 := K_F.out.c 0 rfl; have kF1_2 := K_F.out.c 1 rfl; have kF2_2 := K_F.out.c 2 rfl; have kF3_2 := K_F.out.c 3 rfl; have kF4_2 := K_F.out.c 4 rfl; have kfF_2 := K_F.out.free
    go_upto_region 13 with fail
    obtain ⟨wS, hwS⟩ : ∃ x, (w3.setCell ⟨w1.heap.size, 3, none⟩ (.int .i64 u)) = x := ⟨_, rfl⟩
    clear kR0_1 kR1_1 kR2_1 kR3_1 kR4_1 kfR_1
    clear kF0_2 kF1_2 kF2_2 kF3_2 kF4_2 kfF_2
    replace K_R := Lib.hid (show BlkL wS (w.heap.size) 30 [.int .i64 0, .int .i64 0, .int .i64 0, .int .i64 0, .int .i64 0] from hwS ▸ (K_R.out.other (p := ⟨w1.heap.size, 3, none⟩) ne_FR _))
    replace K_F := Lib.hid (show BlkL wS (w1.heap.size) 30 [.int .i64 t, .int .i64 m, .int .i64 dd, .int .i64 u, .int .i64 b] from hwS ▸ (K_F.out.set 3 _))
    have D_4 := Lib.hid (show Dr w g wS from hwS ▸ (D_3.out.set (p := ⟨w1.heap.size, 3, none⟩) hle_F hl _))
    rw [hwS]
    clear hwS
    have kR0_3 := K_R.out.c 0 rfl; have kR1_3 := K_R.out.c 1 rfl; have kR2_3 := K_R.out.c 2 rfl; have kR3_3 := K_R.out.c 3 rfl; have kR4_3 := K_R.out.c 4 rfl; have kfR_3 := K_R.out.free
    have kF0_4 := K_F.out.c 0 rfl; have kF1_4 := K_F.out.c 1 rfl; have kF2_4 := K_F.out.c 2 rfl; have kF3_4 := K_F.out.c 3 rfl; have kF4_4 := K_F.out.c 4 rfl; have kfF_4 := K_F.out.free
    go_wp2_with fail
    refine bp_forget (fun w' => BlkL w' w.heap.size 30 [.int .i64 t, .int .i64 m, .int .i64 dd, .int .i64 u, .int .i64 b] ∧ Dr w g w') ?_ ?_
    · exact ⟨(((((K_R.out.set 0 _).set 1 _).set 2 _).set 3 _).set 4 _), (((((D_4.out.set (p := ⟨w.heap.size, 0, none⟩) (Nat.le_refl _) hl _).set (p := ⟨w.heap.size, 1, none⟩) (Nat.le_refl _) hl _).set (p := ⟨w.heap.size, 2, none⟩) (Nat.le_refl _) hl _).set (p := ⟨w.heap.size, 3, none⟩) (Nat.le_refl _) hl _).set (p := ⟨w.heap.size, 4, none⟩) (Nat.le_refl _) hl _)⟩
    rintro wz ⟨kz, dz⟩
    have q0 := kz.c 0 rfl
    have q1 := kz.c 1 rfl
    have q2 := kz.c 2 rfl
    have q3 := kz.c 3 rfl
    have q4 := kz.c 4 rfl
    exact bodyPost_ret (v := .agg #[.int .i64 t, .int .i64 m, .int .i64 dd, .int .i64 u, .int .i64 b]) (by simp [results, Tryz.results85, go_sem, q0, q1, q2, q3, q4]) rfl ⟨_, _, _, _, _, rfl, dz⟩
  have b3 : ((x : Int) == 3) = false := by simp; omega
  by_cases h4 : x = 4
  case pos =>
    subst h4
    go_wp2_with fail
    refine (next_any g 2 _ (D_2.out.alloc _).src).mono ?_
    rintro e w3 ⟨y, rfl, hx_y, d⟩
    replace K_R := Lib.hid (show BlkL w3 (w.heap.size) 30 [.int .i64 0, .int .i64 0, .int .i64 0, .int .i64 0, .int .i64 0] from BlkL.dr (K_R.out.alloc _) d hne_R)
    replace K_F := Lib.hid (show BlkL w3 (w1.heap.size) 30 [.int .i64 t, .int .i64 m, .int .i64 dd, .int .i64 sl, .int .i64 b] from BlkL.dr (K_F.out.alloc _) d hne_F)
    have D_3 := Lib.hid (d.next (D_2.out.alloc _))
    obtain ⟨u, _, hc⟩ := pick_cell (L := [-1, 4294967296]) d.gr D_2.out.lt (x := y) (by simp; omega)
    have hb_y : y < 2 := by omega
    clear d
    have kR0_1 := K_R.out.c 0 rfl; have kR1_1 := K_R.out.c 1 rfl; have kR2_1 := K_R.out.c 2 rfl; have kR3_1 := K_R.out.c 3 rfl; have kR4_1 := K_R.out.c 4 rfl; have kfR_1 := K_R.out.free
    have kF0_2 := K_F.out.c 0 rfl; have kF1_2 := K_F.out.c 1 rfl; have kF2_2 := K_F.out.c 2 rfl; have kF3_2 := K_F.out.c 3 rfl; have kF4_2 := K_F.out.c 4 rfl; have kfF_2 := K_F.out.free
    go_upto_region 13 with fail
    obtain ⟨wS, hwS⟩ : ∃ x, (w3.setCell ⟨w1.heap.size, 4, none⟩ (.int .i64 u)) = x := ⟨_, rfl⟩
    clear kR0_1 kR1_1 kR2_1 kR3_1 kR4_1 kfR_1
    clear kF0_2 kF1_2 kF2_2 kF3_2 kF4_2 kfF_2
    replace K_R := Lib.hid (show BlkL wS (w.heap.size) 30 [.int .i64 0, .int .i64 0, .int .i64 0, .int .i64 0, .int .i64 0] from hwS ▸ (K_R.out.other (p := ⟨w1.heap.size, 4, none⟩) ne_FR _))
    replace K_F := Lib.hid (show BlkL wS (w1.heap.size) 30 [.int .i64 t, .int .i64 m, .int .i64 dd, .int .i64 sl, .int .i64 u] from hwS ▸ (K_F.out.set 4 _))
    have D_4 := Lib.hid (show Dr w g wS from hwS ▸ (D_3.out.set (p := ⟨w1.heap.size, 4, none⟩) hle_F hl _))
    rw [hwS]
    clear hwS
    have kR0_3 := K_R.out.c 0 rfl; have kR1_3 := K_R.out.c 1 rfl; have kR2_3 := K_R.out.c 2 rfl; have kR3_3 := K_R.out.c 3 rfl; have kR4_3 := K_R.out.c 4 rfl; have kfR_3 := K_R.out.free
    have kF0_4 := K_F.out.c 0 rfl; have kF1_4 := K_F.out.c 1 rfl; have kF2_4 := K_F.out.c 2 rfl; have kF3_4 := K_F.out.c 3 rfl; have kF4_4 := K_F.out.c 4 rfl; have kfF_4 := K_F.out.free
    go_wp2_with fail
    refine bp_forget (fun w' => BlkL w' w.heap.size 30 [.int .i64 t, .int .i64 m, .int .i64 dd, .int .i64 sl, .int .i64 u] ∧ Dr w g w') ?_ ?_
    · exact ⟨(((((K_R.out.set 0 _).set 1 _).set 2 _).set 3 _).set 4 _), (((((D_4.out.set (p := ⟨w.heap.size, 0, none⟩) (Nat.le_refl _) hl _).set (p := ⟨w.heap.size, 1, none⟩) (Nat.le_refl _) hl _).set (p := ⟨w.heap.size, 2, none⟩) (Nat.le_refl _) hl _).set (p := ⟨w.heap.size, 3, none⟩) (Nat.le_refl _) hl _).set (p := ⟨w.heap.size, 4, none⟩) (Nat.le_refl _) hl _)⟩
    rintro wz ⟨kz, dz⟩
    have q0 := kz.c 0 rfl
    have q1 := kz.c 1 rfl
    have q2 := kz.c 2 rfl
    have q3 := kz.c 3 rfl
    have q4 := kz.c 4 rfl
    exact bodyPost_ret (v := .agg #[.int .i64 t, .int .i64 m, .int .i64 dd, .int .i64 sl, .int .i64 u]) (by simp [results, Tryz.results85, go_sem, q0, q1, q2, q3, q4]) rfl ⟨_, _, _, _, _, rfl, dz⟩
  have b4 : ((x : Int) == 4) = false := by simp; omega
  have kR0_1 := K_R.out.c 0 rfl; have kR1_1 := K_R.out.c 1 rfl; have kR2_1 := K_R.out.c 2 rfl; have kR3_1 := K_R.out.c 3 rfl; have kR4_1 := K_R.out.c 4 rfl; have kfR_1 := K_R.out.free
  have kF0_2 := K_F.out.c 0 rfl; have kF1_2 := K_F.out.c 1 rfl; have kF2_2 := K_F.out.c 2 rfl; have kF3_2 := K_F.out.c 3 rfl; have kF4_2 := K_F.out.c 4 rfl; have kfF_2 := K_F.out.free
  go_wp2_with fail
  refine bp_forget (fun w' => BlkL w' w.heap.size 30 [.int .i64 t, .int .i64 m, .int .i64 dd, .int .i64 sl, .int .i64 b] ∧ Dr w g w') ?_ ?_
  · exact ⟨(((((K_R.out.set 0 _).set 1 _).set 2 _).set 3 _).set 4 _), (((((D_2.out.set (p := ⟨w.heap.size, 0, none⟩) (Nat.le_refl _) hl _).set (p := ⟨w.heap.size, 1, none⟩) (Nat.le_refl _) hl _).set (p := ⟨w.heap.size, 2, none⟩) (Nat.le_refl _) hl _).set (p := ⟨w.heap.size, 3, none⟩) (Nat.le_refl _) hl _).set (p := ⟨w.heap.size, 4, none⟩) (Nat.le_refl _) hl _)⟩
  rintro wz ⟨kz, dz⟩
  have q0 := kz.c 0 rfl
  have q1 := kz.c 1 rfl
  have q2 := kz.c 2 rfl
  have q3 := kz.c 3 rfl
  have q4 := kz.c 4 rfl
  exact bodyPost_ret (v := .agg #[.int .i64 t, .int .i64 m, .int .i64 dd, .int .i64 sl, .int .i64 b]) (by simp [results, Tryz.results85, go_sem, q0, q1, q2, q3, q4]) rfl ⟨_, _, _, _, _, rfl, dz⟩

end Go.Proofs.YtbaojbheopcjhaaGreatDoor

namespace Go.Proofs.YtbaojbheopcjhaaGreatDoor
open Go.RowKit

set_option maxHeartbeats 1000000 in
theorem l06State_any (k : Int) (w : World) : Calls Tryz.prog 77 #[.int .i64 k] w fun e w' => e = .returned (.bool (k != 0)) ∧ w = w' := by
  go_enter Tryz.func77, Tryz.ntmps77
  go_wp2
  go_ret
  exact ⟨rfl, rfl⟩
set_option maxHeartbeats 1000000 in
theorem l06Data_any (k : Int) (w : World) : Calls Tryz.prog 130 #[.int .i64 k] w fun e w' => e = .returned (.bool (decide (k = 0 ∨ k = 2))) ∧ w = w' := by
  rcases num_cases k 0 with ⟨h1, rfl⟩ | ⟨h1, h1'⟩
  · clear h1
    go_enter Tryz.func130, Tryz.ntmps130
    go_wp2
    go_ret
    exact ⟨rfl, rfl⟩
  · have E := Lib.hid h1'
    rcases num_cases k 2 with ⟨h2, rfl⟩ | ⟨h2, h2'⟩
    · clear h1 h1' h2
      go_enter Tryz.func130, Tryz.ntmps130
      go_wp2
      go_ret
      exact ⟨rfl, rfl⟩
    · have E2 := Lib.hid h2'
      clear h1' h2'
      go_enter Tryz.func130, Tryz.ntmps130
      go_wp2
      go_ret
      exact ⟨ret_bool (by simp [E.out, E2.out]), rfl⟩

set_option maxRecDepth 6000 in
set_option maxHeartbeats 8000000 in
theorem drawFrame_any (g : Nat) (w : World) (h : Src w g) :
    Calls Tryz.prog 87 #[.pointer (some ⟨g, 0, none⟩)] w (DrFr w g) := by
  have hl := h.lt
  have hne : g ≠ w.heap.size := by omega
  go_enter Tryz.func87, Tryz.ntmps87
  go_wp2_with fail
  refine (next_any g 4 _ ((Dr.refl h).alloc _).src).mono ?_
  rintro e w1 ⟨k, rfl, hxk, d1⟩
  have K1 := Lib.hid (show BlkL w1 w.heap.size 33 [.int .i64 0, .int .i64 0, .int .i64 0, .int .i64 0, .int .i64 0, .int .i64 0, .int .i64 0, .slice none 0 0] from (BlkL.new w 33 _ rfl).dr d1 hne)
  have D1 := Lib.hid (d1.next ((Dr.refl h).alloc _))
  have hk4 : k < 4 := by omega
  clear d1 hxk
  go_wp2_with fail
  refine (next_any g 8 _ D1.out.src).mono ?_
  rintro e w2 ⟨r, rfl, hxr, d2⟩
  have R2 := Lib.hid (K1.out.dr d2 hne)
  have D2 := Lib.hid (d2.next D1.out)
  clear d2 hxr K1 D1
  have hRF : ¬ w.heap.size = w2.heap.size := by have := R2.out.lt; omega
  have hFR : ¬ w2.heap.size = w.heap.size := fun e => hRF e.symm
  have hneF : g ≠ w2.heap.size := by have := D2.out.lt; omega
  have hleF : w.heap.size ≤ w2.heap.size := D2.out.size
  rcases (show k = 0 ∨ k = 1 ∨ k = 2 ∨ k = 3 by omega) with rfl | rfl | rfl | rfl
  case inl =>
    clear hk4
    obtain ⟨wF, hwF⟩ : ∃ x, w2.alloc (.cells #[.int .i64 0, .int .i64 r, .int .i64 0, .int .i64 0, .int .i64 0, .int .i64 0, .int .i64 0, .slice none 0 0] 33) = x := ⟨_, rfl⟩
    have KF := Lib.hid (show BlkL wF w2.heap.size 33 [.int .i64 0, .int .i64 r, .int .i64 0, .int .i64 0, .int .i64 0, .int .i64 0, .int .i64 0, .slice none 0 0] from hwF ▸ BlkL.new w2 33 _ rfl)
    have KR := Lib.hid (show BlkL wF w.heap.size 33 [.int .i64 0, .int .i64 0, .int .i64 0, .int .i64 0, .int .i64 0, .int .i64 0, .int .i64 0, .slice none 0 0] from hwF ▸ R2.out.alloc _)
    have DF := Lib.hid (show Dr w g wF from hwF ▸ D2.out.alloc _)
    have HWF := Lib.hid hwF
    clear hwF R2 D2
    have lt_F := KF.out.lt
    have lt_R := KR.out.lt
    have a0 := KF.out.c 0 rfl; have a1 := KF.out.c 1 rfl; have a2 := KF.out.c 2 rfl; have a3 := KF.out.c 3 rfl; have a4 := KF.out.c 4 rfl; have a5 := KF.out.c 5 rfl; have a6 := KF.out.c 6 rfl; have a7 := KF.out.c 7 rfl; have af := KF.out.free
    have KFS := KF; have KRS := KR; have DS := DF
    clear KF KR DF
    have O0 := Lib.hid (OwnI.empty (T := 2) wF (base := wF.heap.size) (Nat.le_refl _))
    have no_R := KRS.out.lt
    have no_F := KFS.out.lt
    have hleS : w.heap.size ≤ wF.heap.size := DS.out.size
    have hgS := DS.out.lt
    go_upto_region 5 with (first | rw [HWF.out] | (go_at_call 77; refine (l06State_any _ _).mono ?_; rintro e w' ⟨rfl, rfl⟩) | (go_at_call 130; refine (l06Data_any _ _).mono ?_; rintro e w' ⟨rfl, rfl⟩))
    obtain ⟨wT, hwT⟩ : ∃ x, wF.alloc (.cells #[] 2) = x := ⟨_, rfl⟩
    have KFT := Lib.hid (show BlkL wT w2.heap.size 33 [.int .i64 0, .int .i64 r, .int .i64 0, .int .i64 0, .int .i64 0, .int .i64 0, .int .i64 0, .slice none 0 0] from hwT ▸ KFS.out.alloc _)
    have KRT := Lib.hid (show BlkL wT w.heap.size 33 [.int .i64 0, .int .i64 0, .int .i64 0, .int .i64 0, .int .i64 0, .int .i64 0, .int .i64 0, .slice none 0 0] from hwT ▸ KRS.out.alloc _)
    have DT := Lib.hid (show Dr w g wT from hwT ▸ DS.out.alloc _)
    have OT := Lib.hid (show OwnI 2 wT wF.heap.size (some ⟨wF.heap.size, 0, none⟩) 0 0 [] from hwT ▸ O0.out)
    try rw [hwT]
    clear a0 a1 a2 a3 a4 a5 a6 a7 af
    clear hwT O0 KFS KRS DS
    have a0 := KFT.out.c 0 rfl; have a1 := KFT.out.c 1 rfl; have a2 := KFT.out.c 2 rfl; have a3 := KFT.out.c 3 rfl; have a4 := KFT.out.c 4 rfl; have a5 := KFT.out.c 5 rfl; have a6 := KFT.out.c 6 rfl; have a7 := KFT.out.c 7 rfl; have af := KFT.out.free
    have b0 := KRT.out.c 0 rfl; have b1 := KRT.out.c 1 rfl; have b2 := KRT.out.c 2 rfl; have b3 := KRT.out.c 3 rfl; have b4 := KRT.out.c 4 rfl; have b5 := KRT.out.c 5 rfl; have b6 := KRT.out.c 6 rfl; have b7 := KRT.out.c 7 rfl; have bf := KRT.out.free
    go_wp2_with (first | (go_at_call 77; refine (l06State_any _ _).mono ?_; rintro e w' ⟨rfl, rfl⟩) | (go_at_call 130; refine (l06Data_any _ _).mono ?_; rintro e w' ⟨rfl, rfl⟩))
    refine (next_any g 6 _ DT.out.src).mono ?_
    rintro e w5 ⟨q, rfl, hxq, d5⟩
    have O5 := Lib.hid (OT.out.dr d5 hgS)
    have KF5 := Lib.hid (KFT.out.dr d5 hneF)
    have KR5 := Lib.hid (KRT.out.dr d5 hne)
    have D5 := Lib.hid (d5.next DT.out)
    have hq6 : q < 6 := by omega
    clear a0 a1 a2 a3 a4 a5 a6 a7 af
    clear b0 b1 b2 b3 b4 b5 b6 b7 bf
    clear d5 hxq KFT KRT OT DT
    go_wp2_with fail
    go_loopw [4, 5] (fun o i wr => ∃ (m1 q1 : Nat) (A' : Option Addr) (c' : Nat) (zs : List Int), m1 + q1 ≤ 6 ∧ o = .slice A' m1 c' ∧ i = .int .i64 q1 ∧ OwnI 2 wr wF.heap.size A' m1 c' zs ∧ BlkL wr w.heap.size 33 [.int .i64 0, .int .i64 0, .int .i64 0, .int .i64 0, .int .i64 0, .int .i64 0, .int .i64 0, .slice none 0 0] ∧ BlkL wr w2.heap.size 33 [.int .i64 0, .int .i64 r, .int .i64 0, .int .i64 0, .int .i64 0, .int .i64 0, .int .i64 0, .slice none 0 0] ∧ Dr w g wr ∧ wF.heap.size ≤ wr.heap.size) (fun _ i _ => (intOf i).toNat)
    case atStart => exact ⟨0, 1 + q, _, _, _, by omega, rfl, by first | rfl | go_num | exact vint (by omega), O5.out, KR5.out, KF5.out, D5.out, (by have := O5.out.block _ _ rfl; omega)⟩
    case round =>
      clear O5 KR5 KF5 D5
      obtain ⟨m1, q1, A1, c1, zs, hmq, rfl, rfl, hown, kR, kF, dq, hsz⟩ := hrel
      have KR6 := Lib.hid kR; have KF6 := Lib.hid kF; have D6 := Lib.hid dq
      clear kR kF dq
      by_cases hq : 0 < q1
      · go_wp2_with fail
        refine (next_any g 256 _ D6.out.src).mono ?_
        rintro e w7 ⟨y, rfl, hy, d7⟩
        have own7 := hown.dr d7 hgS
        have KR7 := Lib.hid (KR6.out.dr d7 hne)
        have KF7 := Lib.hid (KF6.out.dr d7 hneF)
        have D7 := Lib.hid (d7.next D6.out)
        have hs7 : wF.heap.size ≤ w7.heap.size := Nat.le_trans hsz d7.size
        clear d7 hown KR6 KF6 D6
        go_wp2_with (at_builtin; refine wpl_appI _ _ Tryz.underlying31 infoInt rfl _ _ rfl wF.heap.size _ m1 _ _ rfl own7 y rfl (by omega) hs7 ?_; intro A3 c3 w8 hown3 hB3 hg3)
        go_roundw
        case rel => exact ⟨m1 + 1, q1 - 1, A3, c3, _, by omega, rfl, by congr 1; omega, hown3, ((hB3 _ (Nat.le_refl _)).block _ no_R).trans KR7.out, ((hB3 _ (Nat.le_refl _)).block _ no_F).trans KF7.out, D7.out.app (own7.weaken hleS) hg3 hl, Nat.le_trans hs7 hg3.size⟩
        case measure => simp [intOf]; omega
      · obtain rfl : q1 = 0 := by omega
        have O6 := Lib.hid hown
        clear hown
        have a0 := KF6.out.c 0 rfl; have a1 := KF6.out.c 1 rfl; have a2 := KF6.out.c 2 rfl; have a3 := KF6.out.c 3 rfl; have a4 := KF6.out.c 4 rfl; have a5 := KF6.out.c 5 rfl; have a6 := KF6.out.c 6 rfl; have a7 := KF6.out.c 7 rfl; have af := KF6.out.free
        have b0 := KR6.out.c 0 rfl; have b1 := KR6.out.c 1 rfl; have b2 := KR6.out.c 2 rfl; have b3 := KR6.out.c 3 rfl; have b4 := KR6.out.c 4 rfl; have b5 := KR6.out.c 5 rfl; have b6 := KR6.out.c 6 rfl; have b7 := KR6.out.c 7 rfl; have bf := KR6.out.free
        go_wp2_with fail
        refine bp_forget (fun w' => BlkL w' w.heap.size 33 [.int .i64 0, .int .i64 r, .int .i64 0, .int .i64 0, .int .i64 0, .int .i64 0, .int .i64 0, .slice A1 m1 c1] ∧ OwnI 2 w' wF.heap.size A1 m1 c1 zs ∧ Dr w g w') ?_ ?_
        · exact ⟨((((((((KR6.out.set 0 _).set 1 _).set 2 _).set 3 _).set 4 _).set 5 _).set 6 _).set 7 _), ((((((((O6.out.other (p := ⟨w.heap.size, 0, none⟩) no_R _).other (p := ⟨w.heap.size, 1, none⟩) no_R _).other (p := ⟨w.heap.size, 2, none⟩) no_R _).other (p := ⟨w.heap.size, 3, none⟩) no_R _).other (p := ⟨w.heap.size, 4, none⟩) no_R _).other (p := ⟨w.heap.size, 5, none⟩) no_R _).other (p := ⟨w.heap.size, 6, none⟩) no_R _).other (p := ⟨w.heap.size, 7, none⟩) no_R _), ((((((((D6.out.set (p := ⟨w.heap.size, 0, none⟩) (Nat.le_refl _) hl _).set (p := ⟨w.heap.size, 1, none⟩) (Nat.le_refl _) hl _).set (p := ⟨w.heap.size, 2, none⟩) (Nat.le_refl _) hl _).set (p := ⟨w.heap.size, 3, none⟩) (Nat.le_refl _) hl _).set (p := ⟨w.heap.size, 4, none⟩) (Nat.le_refl _) hl _).set (p := ⟨w.heap.size, 5, none⟩) (Nat.le_refl _) hl _).set (p := ⟨w.heap.size, 6, none⟩) (Nat.le_refl _) hl _).set (p := ⟨w.heap.size, 7, none⟩) (Nat.le_refl _) hl _)⟩
        rintro wz ⟨kz, oz, dz⟩
        have q0 := kz.c 0 rfl
        have q1 := kz.c 1 rfl
        have q2 := kz.c 2 rfl
        have q3 := kz.c 3 rfl
        have q4 := kz.c 4 rfl
        have q5 := kz.c 5 rfl
        have q6 := kz.c 6 rfl
        have q7 := kz.c 7 rfl
        exact bodyPost_ret (v := .agg #[.int .i64 0, .int .i64 r, .int .i64 0, .int .i64 0, .int .i64 0, .int .i64 0, .int .i64 0, .slice A1 m1 c1]) (by simp [results, Tryz.results87, go_sem, q0, q1, q2, q3, q4, q5, q6, q7]) rfl ⟨_, _, _, _, _, _, _, _, _, _, _, rfl, oz.weaken hleS, by omega, dz⟩
  case inr.inl =>
    clear hk4
    obtain ⟨wF, hwF⟩ : ∃ x, w2.alloc (.cells #[.int .i64 1, .int .i64 r, .int .i64 0, .int .i64 0, .int .i64 0, .int .i64 0, .int .i64 0, .slice none 0 0] 33) = x := ⟨_, rfl⟩
    have KF := Lib.hid (show BlkL wF w2.heap.size 33 [.int .i64 1, .int .i64 r, .int .i64 0, .int .i64 0, .int .i64 0, .int .i64 0, .int .i64 0, .slice none 0 0] from hwF ▸ BlkL.new w2 33 _ rfl)
    have KR := Lib.hid (show BlkL wF w.heap.size 33 [.int .i64 0, .int .i64 0, .int .i64 0, .int .i64 0, .int .i64 0, .int .i64 0, .int .i64 0, .slice none 0 0] from hwF ▸ R2.out.alloc _)
    have DF := Lib.hid (show Dr w g wF from hwF ▸ D2.out.alloc _)
    have HWF := Lib.hid hwF
    clear hwF R2 D2
    have lt_F := KF.out.lt
    have lt_R := KR.out.lt
    have a0 := KF.out.c 0 rfl; have a1 := KF.out.c 1 rfl; have a2 := KF.out.c 2 rfl; have a3 := KF.out.c 3 rfl; have a4 := KF.out.c 4 rfl; have a5 := KF.out.c 5 rfl; have a6 := KF.out.c 6 rfl; have a7 := KF.out.c 7 rfl; have af := KF.out.free
    go_wp2_with (first | rw [HWF.out] | (go_at_call 77; refine (l06State_any _ _).mono ?_; rintro e w' ⟨rfl, rfl⟩) | (go_at_call 130; refine (l06Data_any _ _).mono ?_; rintro e w' ⟨rfl, rfl⟩))
    refine (drawState_any g _ DF.out.src).mono ?_
    rintro e w3 ⟨t, m, dd, sl, b, rfl, d3⟩
    clear a0 a1 a2 a3 a4 a5 a6 a7 af
    have KF3 := Lib.hid (KF.out.dr d3 hneF)
    have KR3 := Lib.hid (KR.out.dr d3 hne)
    have D3 := Lib.hid (d3.next DF.out)
    clear d3 KF KR DF
    have a0 := KF3.out.c 0 rfl; have a1 := KF3.out.c 1 rfl; have a2 := KF3.out.c 2 rfl; have a3 := KF3.out.c 3 rfl; have a4 := KF3.out.c 4 rfl; have a5 := KF3.out.c 5 rfl; have a6 := KF3.out.c 6 rfl; have a7 := KF3.out.c 7 rfl; have af := KF3.out.free
    obtain ⟨wS, hwS⟩ : ∃ x, (((((w3.setCell ⟨w2.heap.size, 2, none⟩ (.int .i64 t)).setCell ⟨w2.heap.size, 3, none⟩ (.int .i64 m)).setCell ⟨w2.heap.size, 4, none⟩ (.int .i64 dd)).setCell ⟨w2.heap.size, 5, none⟩ (.int .i64 sl)).setCell ⟨w2.heap.size, 6, none⟩ (.int .i64 b)) = x := ⟨_, rfl⟩
    have KFS := Lib.hid (show BlkL wS w2.heap.size 33 [.int .i64 1, .int .i64 r, .int .i64 t, .int .i64 m, .int .i64 dd, .int .i64 sl, .int .i64 b, .slice none 0 0] from hwS ▸ (((((KF3.out.set 2 _).set 3 _).set 4 _).set 5 _).set 6 _))
    have KRS := Lib.hid (show BlkL wS w.heap.size 33 [.int .i64 0, .int .i64 0, .int .i64 0, .int .i64 0, .int .i64 0, .int .i64 0, .int .i64 0, .slice none 0 0] from hwS ▸ (((((KR3.out.other (p := ⟨w2.heap.size, 2, none⟩) hFR _).other (p := ⟨w2.heap.size, 3, none⟩) hFR _).other (p := ⟨w2.heap.size, 4, none⟩) hFR _).other (p := ⟨w2.heap.size, 5, none⟩) hFR _).other (p := ⟨w2.heap.size, 6, none⟩) hFR _))
    have DS := Lib.hid (show Dr w g wS from hwS ▸ (((((D3.out.set (p := ⟨w2.heap.size, 2, none⟩) hleF hl _).set (p := ⟨w2.heap.size, 3, none⟩) hleF hl _).set (p := ⟨w2.heap.size, 4, none⟩) hleF hl _).set (p := ⟨w2.heap.size, 5, none⟩) hleF hl _).set (p := ⟨w2.heap.size, 6, none⟩) hleF hl _))
    go_upto_region 4 with fail
    try rw [hwS]
    clear hwS KF3 KR3 D3
    clear a0 a1 a2 a3 a4 a5 a6 a7 af
    have a0 := KFS.out.c 0 rfl; have a1 := KFS.out.c 1 rfl; have a2 := KFS.out.c 2 rfl; have a3 := KFS.out.c 3 rfl; have a4 := KFS.out.c 4 rfl; have a5 := KFS.out.c 5 rfl; have a6 := KFS.out.c 6 rfl; have a7 := KFS.out.c 7 rfl; have af := KFS.out.free
    have b0 := KRS.out.c 0 rfl; have b1 := KRS.out.c 1 rfl; have b2 := KRS.out.c 2 rfl; have b3 := KRS.out.c 3 rfl; have b4 := KRS.out.c 4 rfl; have b5 := KRS.out.c 5 rfl; have b6 := KRS.out.c 6 rfl; have b7 := KRS.out.c 7 rfl; have bf := KRS.out.free
    have O0 := Lib.hid (OwnI.empty (T := 2) wS (base := wS.heap.size) (Nat.le_refl _))
    have no_R := KRS.out.lt
    have no_F := KFS.out.lt
    have hleS : w.heap.size ≤ wS.heap.size := DS.out.size
    have hgS := DS.out.lt
    go_upto_region 5 with fail
    obtain ⟨wT, hwT⟩ : ∃ x, wS.alloc (.cells #[] 2) = x := ⟨_, rfl⟩
    have KFT := Lib.hid (show BlkL wT w2.heap.size 33 [.int .i64 1, .int .i64 r, .int .i64 t, .int .i64 m, .int .i64 dd, .int .i64 sl, .int .i64 b, .slice none 0 0] from hwT ▸ KFS.out.alloc _)
    have KRT := Lib.hid (show BlkL wT w.heap.size 33 [.int .i64 0, .int .i64 0, .int .i64 0, .int .i64 0, .int .i64 0, .int .i64 0, .int .i64 0, .slice none 0 0] from hwT ▸ KRS.out.alloc _)
    have DT := Lib.hid (show Dr w g wT from hwT ▸ DS.out.alloc _)
    have OT := Lib.hid (show OwnI 2 wT wS.heap.size (some ⟨wS.heap.size, 0, none⟩) 0 0 [] from hwT ▸ O0.out)
    try rw [hwT]
    clear a0 a1 a2 a3 a4 a5 a6 a7 af
    clear b0 b1 b2 b3 b4 b5 b6 b7 bf
    clear hwT O0 KFS KRS DS
    have a0 := KFT.out.c 0 rfl; have a1 := KFT.out.c 1 rfl; have a2 := KFT.out.c 2 rfl; have a3 := KFT.out.c 3 rfl; have a4 := KFT.out.c 4 rfl; have a5 := KFT.out.c 5 rfl; have a6 := KFT.out.c 6 rfl; have a7 := KFT.out.c 7 rfl; have af := KFT.out.free
    have b0 := KRT.out.c 0 rfl; have b1 := KRT.out.c 1 rfl; have b2 := KRT.out.c 2 rfl; have b3 := KRT.out.c 3 rfl; have b4 := KRT.out.c 4 rfl; have b5 := KRT.out.c 5 rfl; have b6 := KRT.out.c 6 rfl; have b7 := KRT.out.c 7 rfl; have bf := KRT.out.free
    go_wp2_with (first | (go_at_call 77; refine (l06State_any _ _).mono ?_; rintro e w' ⟨rfl, rfl⟩) | (go_at_call 130; refine (l06Data_any _ _).mono ?_; rintro e w' ⟨rfl, rfl⟩))
    refine bp_forget (fun w' => BlkL w' w.heap.size 33 [.int .i64 1, .int .i64 r, .int .i64 t, .int .i64 m, .int .i64 dd, .int .i64 sl, .int .i64 b, .slice (some ⟨wS.heap.size, 0, none⟩) 0 0] ∧ OwnI 2 w' wS.heap.size (some ⟨wS.heap.size, 0, none⟩) 0 0 [] ∧ Dr w g w') ?_ ?_
    · exact ⟨((((((((KRT.out.set 0 _).set 1 _).set 2 _).set 3 _).set 4 _).set 5 _).set 6 _).set 7 _), ((((((((OT.out.other (p := ⟨w.heap.size, 0, none⟩) no_R _).other (p := ⟨w.heap.size, 1, none⟩) no_R _).other (p := ⟨w.heap.size, 2, none⟩) no_R _).other (p := ⟨w.heap.size, 3, none⟩) no_R _).other (p := ⟨w.heap.size, 4, none⟩) no_R _).other (p := ⟨w.heap.size, 5, none⟩) no_R _).other (p := ⟨w.heap.size, 6, none⟩) no_R _).other (p := ⟨w.heap.size, 7, none⟩) no_R _), ((((((((DT.out.set (p := ⟨w.heap.size, 0, none⟩) (Nat.le_refl _) hl _).set (p := ⟨w.heap.size, 1, none⟩) (Nat.le_refl _) hl _).set (p := ⟨w.heap.size, 2, none⟩) (Nat.le_refl _) hl _).set (p := ⟨w.heap.size, 3, none⟩) (Nat.le_refl _) hl _).set (p := ⟨w.heap.size, 4, none⟩) (Nat.le_refl _) hl _).set (p := ⟨w.heap.size, 5, none⟩) (Nat.le_refl _) hl _).set (p := ⟨w.heap.size, 6, none⟩) (Nat.le_refl _) hl _).set (p := ⟨w.heap.size, 7, none⟩) (Nat.le_refl _) hl _)⟩
    rintro wz ⟨kz, oz, dz⟩
    have q0 := kz.c 0 rfl
    have q1 := kz.c 1 rfl
    have q2 := kz.c 2 rfl
    have q3 := kz.c 3 rfl
    have q4 := kz.c 4 rfl
    have q5 := kz.c 5 rfl
    have q6 := kz.c 6 rfl
    have q7 := kz.c 7 rfl
    exact bodyPost_ret (v := .agg #[.int .i64 1, .int .i64 r, .int .i64 t, .int .i64 m, .int .i64 dd, .int .i64 sl, .int .i64 b, .slice (some ⟨wS.heap.size, 0, none⟩) 0 0]) (by simp [results, Tryz.results87, go_sem, q0, q1, q2, q3, q4, q5, q6, q7]) rfl ⟨_, _, _, _, _, _, _, _, _, _, _, rfl, oz.weaken hleS, by omega, dz⟩
  case inr.inr.inl =>
    clear hk4
    obtain ⟨wF, hwF⟩ : ∃ x, w2.alloc (.cells #[.int .i64 2, .int .i64 r, .int .i64 0, .int .i64 0, .int .i64 0, .int .i64 0, .int .i64 0, .slice none 0 0] 33) = x := ⟨_, rfl⟩
    have KF := Lib.hid (show BlkL wF w2.heap.size 33 [.int .i64 2, .int .i64 r, .int .i64 0, .int .i64 0, .int .i64 0, .int .i64 0, .int .i64 0, .slice none 0 0] from hwF ▸ BlkL.new w2 33 _ rfl)
    have KR := Lib.hid (show BlkL wF w.heap.size 33 [.int .i64 0, .int .i64 0, .int .i64 0, .int .i64 0, .int .i64 0, .int .i64 0, .int .i64 0, .slice none 0 0] from hwF ▸ R2.out.alloc _)
    have DF := Lib.hid (show Dr w g wF from hwF ▸ D2.out.alloc _)
    have HWF := Lib.hid hwF
    clear hwF R2 D2
    have lt_F := KF.out.lt
    have lt_R := KR.out.lt
    have a0 := KF.out.c 0 rfl; have a1 := KF.out.c 1 rfl; have a2 := KF.out.c 2 rfl; have a3 := KF.out.c 3 rfl; have a4 := KF.out.c 4 rfl; have a5 := KF.out.c 5 rfl; have a6 := KF.out.c 6 rfl; have a7 := KF.out.c 7 rfl; have af := KF.out.free
    go_wp2_with (first | rw [HWF.out] | (go_at_call 77; refine (l06State_any _ _).mono ?_; rintro e w' ⟨rfl, rfl⟩) | (go_at_call 130; refine (l06Data_any _ _).mono ?_; rintro e w' ⟨rfl, rfl⟩))
    refine (drawState_any g _ DF.out.src).mono ?_
    rintro e w3 ⟨t, m, dd, sl, b, rfl, d3⟩
    clear a0 a1 a2 a3 a4 a5 a6 a7 af
    have KF3 := Lib.hid (KF.out.dr d3 hneF)
    have KR3 := Lib.hid (KR.out.dr d3 hne)
    have D3 := Lib.hid (d3.next DF.out)
    clear d3 KF KR DF
    have a0 := KF3.out.c 0 rfl; have a1 := KF3.out.c 1 rfl; have a2 := KF3.out.c 2 rfl; have a3 := KF3.out.c 3 rfl; have a4 := KF3.out.c 4 rfl; have a5 := KF3.out.c 5 rfl; have a6 := KF3.out.c 6 rfl; have a7 := KF3.out.c 7 rfl; have af := KF3.out.free
    obtain ⟨wS, hwS⟩ : ∃ x, (((((w3.setCell ⟨w2.heap.size, 2, none⟩ (.int .i64 t)).setCell ⟨w2.heap.size, 3, none⟩ (.int .i64 m)).setCell ⟨w2.heap.size, 4, none⟩ (.int .i64 dd)).setCell ⟨w2.heap.size, 5, none⟩ (.int .i64 sl)).setCell ⟨w2.heap.size, 6, none⟩ (.int .i64 b)) = x := ⟨_, rfl⟩
    have KFS := Lib.hid (show BlkL wS w2.heap.size 33 [.int .i64 2, .int .i64 r, .int .i64 t, .int .i64 m, .int .i64 dd, .int .i64 sl, .int .i64 b, .slice none 0 0] from hwS ▸ (((((KF3.out.set 2 _).set 3 _).set 4 _).set 5 _).set 6 _))
    have KRS := Lib.hid (show BlkL wS w.heap.size 33 [.int .i64 0, .int .i64 0, .int .i64 0, .int .i64 0, .int .i64 0, .int .i64 0, .int .i64 0, .slice none 0 0] from hwS ▸ (((((KR3.out.other (p := ⟨w2.heap.size, 2, none⟩) hFR _).other (p := ⟨w2.heap.size, 3, none⟩) hFR _).other (p := ⟨w2.heap.size, 4, none⟩) hFR _).other (p := ⟨w2.heap.size, 5, none⟩) hFR _).other (p := ⟨w2.heap.size, 6, none⟩) hFR _))
    have DS := Lib.hid (show Dr w g wS from hwS ▸ (((((D3.out.set (p := ⟨w2.heap.size, 2, none⟩) hleF hl _).set (p := ⟨w2.heap.size, 3, none⟩) hleF hl _).set (p := ⟨w2.heap.size, 4, none⟩) hleF hl _).set (p := ⟨w2.heap.size, 5, none⟩) hleF hl _).set (p := ⟨w2.heap.size, 6, none⟩) hleF hl _))
    go_upto_region 4 with fail
    try rw [hwS]
    clear hwS KF3 KR3 D3
    clear a0 a1 a2 a3 a4 a5 a6 a7 af
    have a0 := KFS.out.c 0 rfl; have a1 := KFS.out.c 1 rfl; have a2 := KFS.out.c 2 rfl; have a3 := KFS.out.c 3 rfl; have a4 := KFS.out.c 4 rfl; have a5 := KFS.out.c 5 rfl; have a6 := KFS.out.c 6 rfl; have a7 := KFS.out.c 7 rfl; have af := KFS.out.free
    have b0 := KRS.out.c 0 rfl; have b1 := KRS.out.c 1 rfl; have b2 := KRS.out.c 2 rfl; have b3 := KRS.out.c 3 rfl; have b4 := KRS.out.c 4 rfl; have b5 := KRS.out.c 5 rfl; have b6 := KRS.out.c 6 rfl; have b7 := KRS.out.c 7 rfl; have bf := KRS.out.free
    have O0 := Lib.hid (OwnI.empty (T := 2) wS (base := wS.heap.size) (Nat.le_refl _))
    have no_R := KRS.out.lt
    have no_F := KFS.out.lt
    have hleS : w.heap.size ≤ wS.heap.size := DS.out.size
    have hgS := DS.out.lt
    go_upto_region 5 with fail
    obtain ⟨wT, hwT⟩ : ∃ x, wS.alloc (.cells #[] 2) = x := ⟨_, rfl⟩
    have KFT := Lib.hid (show BlkL wT w2.heap.size 33 [.int .i64 2, .int .i64 r, .int .i64 t, .int .i64 m, .int .i64 dd, .int .i64 sl, .int .i64 b, .slice none 0 0] from hwT ▸ KFS.out.alloc _)
    have KRT := Lib.hid (show BlkL wT w.heap.size 33 [.int .i64 0, .int .i64 0, .int .i64 0, .int .i64 0, .int .i64 0, .int .i64 0, .int .i64 0, .slice none 0 0] from hwT ▸ KRS.out.alloc _)
    have DT := Lib.hid (show Dr w g wT from hwT ▸ DS.out.alloc _)
    have OT := Lib.hid (show OwnI 2 wT wS.heap.size (some ⟨wS.heap.size, 0, none⟩) 0 0 [] from hwT ▸ O0.out)
    try rw [hwT]
    clear a0 a1 a2 a3 a4 a5 a6 a7 af
    clear b0 b1 b2 b3 b4 b5 b6 b7 bf
    clear hwT O0 KFS KRS DS
    have a0 := KFT.out.c 0 rfl; have a1 := KFT.out.c 1 rfl; have a2 := KFT.out.c 2 rfl; have a3 := KFT.out.c 3 rfl; have a4 := KFT.out.c 4 rfl; have a5 := KFT.out.c 5 rfl; have a6 := KFT.out.c 6 rfl; have a7 := KFT.out.c 7 rfl; have af := KFT.out.free
    have b0 := KRT.out.c 0 rfl; have b1 := KRT.out.c 1 rfl; have b2 := KRT.out.c 2 rfl; have b3 := KRT.out.c 3 rfl; have b4 := KRT.out.c 4 rfl; have b5 := KRT.out.c 5 rfl; have b6 := KRT.out.c 6 rfl; have b7 := KRT.out.c 7 rfl; have bf := KRT.out.free
    go_wp2_with (first | (go_at_call 77; refine (l06State_any _ _).mono ?_; rintro e w' ⟨rfl, rfl⟩) | (go_at_call 130; refine (l06Data_any _ _).mono ?_; rintro e w' ⟨rfl, rfl⟩))
    refine (next_any g 6 _ DT.out.src).mono ?_
    rintro e w5 ⟨q, rfl, hxq, d5⟩
    have O5 := Lib.hid (OT.out.dr d5 hgS)
    have KF5 := Lib.hid (KFT.out.dr d5 hneF)
    have KR5 := Lib.hid (KRT.out.dr d5 hne)
    have D5 := Lib.hid (d5.next DT.out)
    have hq6 : q < 6 := by omega
    clear a0 a1 a2 a3 a4 a5 a6 a7 af
    clear b0 b1 b2 b3 b4 b5 b6 b7 bf
    clear d5 hxq KFT KRT OT DT
    go_wp2_with fail
    go_loopw [4, 5] (fun o i wr => ∃ (m1 q1 : Nat) (A' : Option Addr) (c' : Nat) (zs : List Int), m1 + q1 ≤ 6 ∧ o = .slice A' m1 c' ∧ i = .int .i64 q1 ∧ OwnI 2 wr wS.heap.size A' m1 c' zs ∧ BlkL wr w.heap.size 33 [.int .i64 0, .int .i64 0, .int .i64 0, .int .i64 0, .int .i64 0, .int .i64 0, .int .i64 0, .slice none 0 0] ∧ BlkL wr w2.heap.size 33 [.int .i64 2, .int .i64 r, .int .i64 t, .int .i64 m, .int .i64 dd, .int .i64 sl, .int .i64 b, .slice none 0 0] ∧ Dr w g wr ∧ wS.heap.size ≤ wr.heap.size) (fun _ i _ => (intOf i).toNat)
    case atStart => exact ⟨0, 1 + q, _, _, _, by omega, rfl, by first | rfl | go_num | exact vint (by omega), O5.out, KR5.out, KF5.out, D5.out, (by have := O5.out.block _ _ rfl; omega)⟩
    case round =>
      clear O5 KR5 KF5 D5
      obtain ⟨m1, q1, A1, c1, zs, hmq, rfl, rfl, hown, kR, kF, dq, hsz⟩ := hrel
      have KR6 := Lib.hid kR; have KF6 := Lib.hid kF; have D6 := Lib.hid dq
      clear kR kF dq
      by_cases hq : 0 < q1
      · go_wp2_with fail
        refine (next_any g 256 _ D6.out.src).mono ?_
        rintro e w7 ⟨y, rfl, hy, d7⟩
        have own7 := hown.dr d7 hgS
        have KR7 := Lib.hid (KR6.out.dr d7 hne)
        have KF7 := Lib.hid (KF6.out.dr d7 hneF)
        have D7 := Lib.hid (d7.next D6.out)
        have hs7 : wS.heap.size ≤ w7.heap.size := Nat.le_trans hsz d7.size
        clear d7 hown KR6 KF6 D6
        go_wp2_with (at_builtin; refine wpl_appI _ _ Tryz.underlying31 infoInt rfl _ _ rfl wS.heap.size _ m1 _ _ rfl own7 y rfl (by omega) hs7 ?_; intro A3 c3 w8 hown3 hB3 hg3)
        go_roundw
        case rel => exact ⟨m1 + 1, q1 - 1, A3, c3, _, by omega, rfl, by congr 1; omega, hown3, ((hB3 _ (Nat.le_refl _)).block _ no_R).trans KR7.out, ((hB3 _ (Nat.le_refl _)).block _ no_F).trans KF7.out, D7.out.app (own7.weaken hleS) hg3 hl, Nat.le_trans hs7 hg3.size⟩
        case measure => simp [intOf]; omega
      · obtain rfl : q1 = 0 := by omega
        have O6 := Lib.hid hown
        clear hown
        have a0 := KF6.out.c 0 rfl; have a1 := KF6.out.c 1 rfl; have a2 := KF6.out.c 2 rfl; have a3 := KF6.out.c 3 rfl; have a4 := KF6.out.c 4 rfl; have a5 := KF6.out.c 5 rfl; have a6 := KF6.out.c 6 rfl; have a7 := KF6.out.c 7 rfl; have af := KF6.out.free
        have b0 := KR6.out.c 0 rfl; have b1 := KR6.out.c 1 rfl; have b2 := KR6.out.c 2 rfl; have b3 := KR6.out.c 3 rfl; have b4 := KR6.out.c 4 rfl; have b5 := KR6.out.c 5 rfl; have b6 := KR6.out.c 6 rfl; have b7 := KR6.out.c 7 rfl; have bf := KR6.out.free
        go_wp2_with fail
        refine bp_forget (fun w' => BlkL w' w.heap.size 33 [.int .i64 2, .int .i64 r, .int .i64 t, .int .i64 m, .int .i64 dd, .int .i64 sl, .int .i64 b, .slice A1 m1 c1] ∧ OwnI 2 w' wS.heap.size A1 m1 c1 zs ∧ Dr w g w') ?_ ?_
        · exact ⟨((((((((KR6.out.set 0 _).set 1 _).set 2 _).set 3 _).set 4 _).set 5 _).set 6 _).set 7 _), ((((((((O6.out.other (p := ⟨w.heap.size, 0, none⟩) no_R _).other (p := ⟨w.heap.size, 1, none⟩) no_R _).other (p := ⟨w.heap.size, 2, none⟩) no_R _).other (p := ⟨w.heap.size, 3, none⟩) no_R _).other (p := ⟨w.heap.size, 4, none⟩) no_R _).other (p := ⟨w.heap.size, 5, none⟩) no_R _).other (p := ⟨w.heap.size, 6, none⟩) no_R _).other (p := ⟨w.heap.size, 7, none⟩) no_R _), ((((((((D6.out.set (p := ⟨w.heap.size, 0, none⟩) (Nat.le_refl _) hl _).set (p := ⟨w.heap.size, 1, none⟩) (Nat.le_refl _) hl _).set (p := ⟨w.heap.size, 2, none⟩) (Nat.le_refl _) hl _).set (p := ⟨w.heap.size, 3, none⟩) (Nat.le_refl _) hl _).set (p := ⟨w.heap.size, 4, none⟩) (Nat.le_refl _) hl _).set (p := ⟨w.heap.size, 5, none⟩) (Nat.le_refl _) hl _).set (p := ⟨w.heap.size, 6, none⟩) (Nat.le_refl _) hl _).set (p := ⟨w.heap.size, 7, none⟩) (Nat.le_refl _) hl _)⟩
        rintro wz ⟨kz, oz, dz⟩
        have q0 := kz.c 0 rfl
        have q1 := kz.c 1 rfl
        have q2 := kz.c 2 rfl
        have q3 := kz.c 3 rfl
        have q4 := kz.c 4 rfl
        have q5 := kz.c 5 rfl
        have q6 := kz.c 6 rfl
        have q7 := kz.c 7 rfl
        exact bodyPost_ret (v := .agg #[.int .i64 2, .int .i64 r, .int .i64 t, .int .i64 m, .int .i64 dd, .int .i64 sl, .int .i64 b, .slice A1 m1 c1]) (by simp [results, Tryz.results87, go_sem, q0, q1, q2, q3, q4, q5, q6, q7]) rfl ⟨_, _, _, _, _, _, _, _, _, _, _, rfl, oz.weaken hleS, by omega, dz⟩
  case inr.inr.inr =>
    clear hk4
    obtain ⟨wF, hwF⟩ : ∃ x, w2.alloc (.cells #[.int .i64 3, .int .i64 r, .int .i64 0, .int .i64 0, .int .i64 0, .int .i64 0, .int .i64 0, .slice none 0 0] 33) = x := ⟨_, rfl⟩
    have KF := Lib.hid (show BlkL wF w2.heap.size 33 [.int .i64 3, .int .i64 r, .int .i64 0, .int .i64 0, .int .i64 0, .int .i64 0, .int .i64 0, .slice none 0 0] from hwF ▸ BlkL.new w2 33 _ rfl)
    have KR := Lib.hid (show BlkL wF w.heap.size 33 [.int .i64 0, .int .i64 0, .int .i64 0, .int .i64 0, .int .i64 0, .int .i64 0, .int .i64 0, .slice none 0 0] from hwF ▸ R2.out.alloc _)
    have DF := Lib.hid (show Dr w g wF from hwF ▸ D2.out.alloc _)
    have HWF := Lib.hid hwF
    clear hwF R2 D2
    have lt_F := KF.out.lt
    have lt_R := KR.out.lt
    have a0 := KF.out.c 0 rfl; have a1 := KF.out.c 1 rfl; have a2 := KF.out.c 2 rfl; have a3 := KF.out.c 3 rfl; have a4 := KF.out.c 4 rfl; have a5 := KF.out.c 5 rfl; have a6 := KF.out.c 6 rfl; have a7 := KF.out.c 7 rfl; have af := KF.out.free
    go_wp2_with (first | rw [HWF.out] | (go_at_call 77; refine (l06State_any _ _).mono ?_; rintro e w' ⟨rfl, rfl⟩) | (go_at_call 130; refine (l06Data_any _ _).mono ?_; rintro e w' ⟨rfl, rfl⟩))
    refine (drawState_any g _ DF.out.src).mono ?_
    rintro e w3 ⟨t, m, dd, sl, b, rfl, d3⟩
    clear a0 a1 a2 a3 a4 a5 a6 a7 af
    have KF3 := Lib.hid (KF.out.dr d3 hneF)
    have KR3 := Lib.hid (KR.out.dr d3 hne)
    have D3 := Lib.hid (d3.next DF.out)
    clear d3 KF KR DF
    have a0 := KF3.out.c 0 rfl; have a1 := KF3.out.c 1 rfl; have a2 := KF3.out.c 2 rfl; have a3 := KF3.out.c 3 rfl; have a4 := KF3.out.c 4 rfl; have a5 := KF3.out.c 5 rfl; have a6 := KF3.out.c 6 rfl; have a7 := KF3.out.c 7 rfl; have af := KF3.out.free
    obtain ⟨wS, hwS⟩ : ∃ x, (((((w3.setCell ⟨w2.heap.size, 2, none⟩ (.int .i64 t)).setCell ⟨w2.heap.size, 3, none⟩ (.int .i64 m)).setCell ⟨w2.heap.size, 4, none⟩ (.int .i64 dd)).setCell ⟨w2.heap.size, 5, none⟩ (.int .i64 sl)).setCell ⟨w2.heap.size, 6, none⟩ (.int .i64 b)) = x := ⟨_, rfl⟩
    have KFS := Lib.hid (show BlkL wS w2.heap.size 33 [.int .i64 3, .int .i64 r, .int .i64 t, .int .i64 m, .int .i64 dd, .int .i64 sl, .int .i64 b, .slice none 0 0] from hwS ▸ (((((KF3.out.set 2 _).set 3 _).set 4 _).set 5 _).set 6 _))
    have KRS := Lib.hid (show BlkL wS w.heap.size 33 [.int .i64 0, .int .i64 0, .int .i64 0, .int .i64 0, .int .i64 0, .int .i64 0, .int .i64 0, .slice none 0 0] from hwS ▸ (((((KR3.out.other (p := ⟨w2.heap.size, 2, none⟩) hFR _).other (p := ⟨w2.heap.size, 3, none⟩) hFR _).other (p := ⟨w2.heap.size, 4, none⟩) hFR _).other (p := ⟨w2.heap.size, 5, none⟩) hFR _).other (p := ⟨w2.heap.size, 6, none⟩) hFR _))
    have DS := Lib.hid (show Dr w g wS from hwS ▸ (((((D3.out.set (p := ⟨w2.heap.size, 2, none⟩) hleF hl _).set (p := ⟨w2.heap.size, 3, none⟩) hleF hl _).set (p := ⟨w2.heap.size, 4, none⟩) hleF hl _).set (p := ⟨w2.heap.size, 5, none⟩) hleF hl _).set (p := ⟨w2.heap.size, 6, none⟩) hleF hl _))
    go_upto_region 4 with fail
    try rw [hwS]
    clear hwS KF3 KR3 D3
    clear a0 a1 a2 a3 a4 a5 a6 a7 af
    have a0 := KFS.out.c 0 rfl; have a1 := KFS.out.c 1 rfl; have a2 := KFS.out.c 2 rfl; have a3 := KFS.out.c 3 rfl; have a4 := KFS.out.c 4 rfl; have a5 := KFS.out.c 5 rfl; have a6 := KFS.out.c 6 rfl; have a7 := KFS.out.c 7 rfl; have af := KFS.out.free
    have b0 := KRS.out.c 0 rfl; have b1 := KRS.out.c 1 rfl; have b2 := KRS.out.c 2 rfl; have b3 := KRS.out.c 3 rfl; have b4 := KRS.out.c 4 rfl; have b5 := KRS.out.c 5 rfl; have b6 := KRS.out.c 6 rfl; have b7 := KRS.out.c 7 rfl; have bf := KRS.out.free
    have O0 := Lib.hid (OwnI.empty (T := 2) wS (base := wS.heap.size) (Nat.le_refl _))
    have no_R := KRS.out.lt
    have no_F := KFS.out.lt
    have hleS : w.heap.size ≤ wS.heap.size := DS.out.size
    have hgS := DS.out.lt
    go_upto_region 5 with fail
    obtain ⟨wT, hwT⟩ : ∃ x, wS.alloc (.cells #[] 2) = x := ⟨_, rfl⟩
    have KFT := Lib.hid (show BlkL wT w2.heap.size 33 [.int .i64 3, .int .i64 r, .int .i64 t, .int .i64 m, .int .i64 dd, .int .i64 sl, .int .i64 b, .slice none 0 0] from hwT ▸ KFS.out.alloc _)
    have KRT := Lib.hid (show BlkL wT w.heap.size 33 [.int .i64 0, .int .i64 0, .int .i64 0, .int .i64 0, .int .i64 0, .int .i64 0, .int .i64 0, .slice none 0 0] from hwT ▸ KRS.out.alloc _)
    have DT := Lib.hid (show Dr w g wT from hwT ▸ DS.out.alloc _)
    have OT := Lib.hid (show OwnI 2 wT wS.heap.size (some ⟨wS.heap.size, 0, none⟩) 0 0 [] from hwT ▸ O0.out)
    try rw [hwT]
    clear a0 a1 a2 a3 a4 a5 a6 a7 af
    clear b0 b1 b2 b3 b4 b5 b6 b7 bf
    clear hwT O0 KFS KRS DS
    have a0 := KFT.out.c 0 rfl; have a1 := KFT.out.c 1 rfl; have a2 := KFT.out.c 2 rfl; have a3 := KFT.out.c 3 rfl; have a4 := KFT.out.c 4 rfl; have a5 := KFT.out.c 5 rfl; have a6 := KFT.out.c 6 rfl; have a7 := KFT.out.c 7 rfl; have af := KFT.out.free
    have b0 := KRT.out.c 0 rfl; have b1 := KRT.out.c 1 rfl; have b2 := KRT.out.c 2 rfl; have b3 := KRT.out.c 3 rfl; have b4 := KRT.out.c 4 rfl; have b5 := KRT.out.c 5 rfl; have b6 := KRT.out.c 6 rfl; have b7 := KRT.out.c 7 rfl; have bf := KRT.out.free
    go_wp2_with (first | (go_at_call 77; refine (l06State_any _ _).mono ?_; rintro e w' ⟨rfl, rfl⟩) | (go_at_call 130; refine (l06Data_any _ _).mono ?_; rintro e w' ⟨rfl, rfl⟩))
    refine (next_any g 10 _ ((DT.out.set (p := ⟨w2.heap.size, 1, none⟩) hleF hl _).set (p := ⟨w2.heap.size, 3, none⟩) hleF hl _).src).mono ?_
    rintro e w5 ⟨y, rfl, hxy, d5⟩
    have KF5 := Lib.hid (show BlkL w5 w2.heap.size 33 [.int .i64 3, .int .i64 0, .int .i64 t, .int .i64 0, .int .i64 dd, .int .i64 sl, .int .i64 b, .slice none 0 0] from BlkL.dr ((KFT.out.set 1 _).set 3 _) d5 hneF)
    have KR5 := Lib.hid (BlkL.dr ((KRT.out.other (p := ⟨w2.heap.size, 1, none⟩) hFR _).other (p := ⟨w2.heap.size, 3, none⟩) hFR _) d5 hne)
    have O5 := Lib.hid (((OT.out.other (p := ⟨w2.heap.size, 1, none⟩) no_F _).other (p := ⟨w2.heap.size, 3, none⟩) no_F _).dr d5 hgS)
    have D5 := Lib.hid (d5.next ((DT.out.set (p := ⟨w2.heap.size, 1, none⟩) hleF hl _).set (p := ⟨w2.heap.size, 3, none⟩) hleF hl _))
    have hy10 : y < 10 := by omega
    clear a0 a1 a2 a3 a4 a5 a6 a7 af
    clear b0 b1 b2 b3 b4 b5 b6 b7 bf
    clear d5 hxy KFT KRT OT DT
    have a0 := KF5.out.c 0 rfl; have a1 := KF5.out.c 1 rfl; have a2 := KF5.out.c 2 rfl; have a3 := KF5.out.c 3 rfl; have a4 := KF5.out.c 4 rfl; have a5 := KF5.out.c 5 rfl; have a6 := KF5.out.c 6 rfl; have a7 := KF5.out.c 7 rfl; have af := KF5.out.free
    have b0 := KR5.out.c 0 rfl; have b1 := KR5.out.c 1 rfl; have b2 := KR5.out.c 2 rfl; have b3 := KR5.out.c 3 rfl; have b4 := KR5.out.c 4 rfl; have b5 := KR5.out.c 5 rfl; have b6 := KR5.out.c 6 rfl; have b7 := KR5.out.c 7 rfl; have bf := KR5.out.free
    go_upto_region 14 with fail
    obtain ⟨V, hV⟩ : ∃ V, wrap64 (2 ^ y) = V := ⟨_, rfl⟩
    obtain ⟨wU, hwU⟩ : ∃ x, w5.setCell ⟨w2.heap.size, 6, none⟩ (.int .i64 V) = x := ⟨_, rfl⟩
    have KF6 := Lib.hid (show BlkL wU w2.heap.size 33 [.int .i64 3, .int .i64 0, .int .i64 t, .int .i64 0, .int .i64 dd, .int .i64 sl, .int .i64 V, .slice none 0 0] from hwU ▸ KF5.out.set 6 _)
    have KR6 := Lib.hid (show BlkL wU w.heap.size 33 [.int .i64 0, .int .i64 0, .int .i64 0, .int .i64 0, .int .i64 0, .int .i64 0, .int .i64 0, .slice none 0 0] from hwU ▸ KR5.out.other (p := ⟨w2.heap.size, 6, none⟩) hFR _)
    have O6 := Lib.hid (show OwnI 2 wU wS.heap.size (some ⟨wS.heap.size, 0, none⟩) 0 0 [] from hwU ▸ O5.out.other (p := ⟨w2.heap.size, 6, none⟩) no_F _)
    have D6 := Lib.hid (show Dr w g wU from hwU ▸ D5.out.set (p := ⟨w2.heap.size, 6, none⟩) hleF hl _)
    rw [hV, hwU]
    clear hV hwU KF5 KR5 O5 D5
    clear a0 a1 a2 a3 a4 a5 a6 a7 af
    clear b0 b1 b2 b3 b4 b5 b6 b7 bf
    have a0 := KF6.out.c 0 rfl; have a1 := KF6.out.c 1 rfl; have a2 := KF6.out.c 2 rfl; have a3 := KF6.out.c 3 rfl; have a4 := KF6.out.c 4 rfl; have a5 := KF6.out.c 5 rfl; have a6 := KF6.out.c 6 rfl; have a7 := KF6.out.c 7 rfl; have af := KF6.out.free
    have b0 := KR6.out.c 0 rfl; have b1 := KR6.out.c 1 rfl; have b2 := KR6.out.c 2 rfl; have b3 := KR6.out.c 3 rfl; have b4 := KR6.out.c 4 rfl; have b5 := KR6.out.c 5 rfl; have b6 := KR6.out.c 6 rfl; have b7 := KR6.out.c 7 rfl; have bf := KR6.out.free
    go_wp2_with fail
    refine bp_forget (fun w' => BlkL w' w.heap.size 33 [.int .i64 3, .int .i64 0, .int .i64 t, .int .i64 0, .int .i64 dd, .int .i64 sl, .int .i64 V, .slice (some ⟨wS.heap.size, 0, none⟩) 0 0] ∧ OwnI 2 w' wS.heap.size (some ⟨wS.heap.size, 0, none⟩) 0 0 [] ∧ Dr w g w') ?_ ?_
    · exact ⟨((((((((KR6.out.set 0 _).set 1 _).set 2 _).set 3 _).set 4 _).set 5 _).set 6 _).set 7 _), ((((((((O6.out.other (p := ⟨w.heap.size, 0, none⟩) no_R _).other (p := ⟨w.heap.size, 1, none⟩) no_R _).other (p := ⟨w.heap.size, 2, none⟩) no_R _).other (p := ⟨w.heap.size, 3, none⟩) no_R _).other (p := ⟨w.heap.size, 4, none⟩) no_R _).other (p := ⟨w.heap.size, 5, none⟩) no_R _).other (p := ⟨w.heap.size, 6, none⟩) no_R _).other (p := ⟨w.heap.size, 7, none⟩) no_R _), ((((((((D6.out.set (p := ⟨w.heap.size, 0, none⟩) (Nat.le_refl _) hl _).set (p := ⟨w.heap.size, 1, none⟩) (Nat.le_refl _) hl _).set (p := ⟨w.heap.size, 2, none⟩) (Nat.le_refl _) hl _).set (p := ⟨w.heap.size, 3, none⟩) (Nat.le_refl _) hl _).set (p := ⟨w.heap.size, 4, none⟩) (Nat.le_refl _) hl _).set (p := ⟨w.heap.size, 5, none⟩) (Nat.le_refl _) hl _).set (p := ⟨w.heap.size, 6, none⟩) (Nat.le_refl _) hl _).set (p := ⟨w.heap.size, 7, none⟩) (Nat.le_refl _) hl _)⟩
    rintro wz ⟨kz, oz, dz⟩
    have q0 := kz.c 0 rfl
    have q1 := kz.c 1 rfl
    have q2 := kz.c 2 rfl
    have q3 := kz.c 3 rfl
    have q4 := kz.c 4 rfl
    have q5 := kz.c 5 rfl
    have q6 := kz.c 6 rfl
    have q7 := kz.c 7 rfl
    exact bodyPost_ret (v := .agg #[.int .i64 3, .int .i64 0, .int .i64 t, .int .i64 0, .int .i64 dd, .int .i64 sl, .int .i64 V, .slice (some ⟨wS.heap.size, 0, none⟩) 0 0]) (by simp [results, Tryz.results87, go_sem, q0, q1, q2, q3, q4, q5, q6, q7]) rfl ⟨_, _, _, _, _, _, _, _, _, _, _, rfl, oz.weaken hleS, by omega, dz⟩

set_option maxRecDepth 6000 in
set_option maxHeartbeats 8000000 in
theorem drawFrameAny_any (g : Nat) (w : World) (h : Src w g) :
    Calls Tryz.prog 51 #[.pointer (some ⟨g, 0, none⟩)] w (DrFr w g) := by
  have hl := h.lt
  have hne_R : g ≠ w.heap.size := by omega
  go_enter Tryz.func51, Tryz.ntmps51
  go_wp2_with fail
  refine (drawFrame_any g _ ((Dr.refl h).alloc _).src).mono ?_
  rintro e w1 ⟨k, r, t, m, dd, sl, b, A, n, c, zs, rfl, ho, hn, d⟩
  have K_R := Lib.hid (show BlkL w1 (w.heap.size) 33 [.int .i64 0, .int .i64 0, .int .i64 0, .int .i64 0, .int .i64 0, .int .i64 0, .int .i64 0, .slice none 0 0] from BlkL.dr (BlkL.new _ 33 _ rfl) d hne_R)
  have D_1 := Lib.hid (d.next ((Dr.refl h).alloc _))
  have O := Lib.hid ho
  have OB := Lib.hid (own_row ho)
  have no_R : (Value.slice A n c).ownBlock ≠ some w.heap.size := fun e => by have := (OB.out _ e).1; simp at this; omega
  have no_F : (Value.slice A n c).ownBlock ≠ some w1.heap.size := fun e => absurd (OB.out _ e).2 (Nat.lt_irrefl _)
  clear ho
  clear d
  have hne_F : g ≠ w1.heap.size := by have := D_1.out.lt; omega
  have ne_RF : ¬ w.heap.size = w1.heap.size := by have := K_R.out.lt; omega
  have ne_FR : ¬ w1.heap.size = w.heap.size := fun e => ne_RF e.symm
  go_wp2_with fail
  refine (next_any g 30 _ (D_1.out.alloc _).src).mono ?_
  rintro e w2 ⟨x, rfl, hx_x, d⟩
  replace K_R := Lib.hid (show BlkL w2 (w.heap.size) 33 [.int .i64 0, .int .i64 0, .int .i64 0, .int .i64 0, .int .i64 0, .int .i64 0, .int .i64 0, .slice none 0 0] from BlkL.dr (K_R.out.alloc _) d hne_R)
  have K_F := Lib.hid (show BlkL w2 (w1.heap.size) 33 [.int .i64 k, .int .i64 r, .int .i64 t, .int .i64 m, .int .i64 dd, .int .i64 sl, .int .i64 b, .slice A n c] from BlkL.dr (BlkL.new _ 33 _ rfl) d hne_F)
  replace O := Lib.hid ((O.out.alloc _).dr d (by simp; omega))
  have D_2 := Lib.hid (d.next (D_1.out.alloc _))
  have hle_F : w.heap.size ≤ w1.heap.size := by have := D_1.out.size; omega
  have hb_x : x < 30 := by omega
  clear d
  by_cases h0 : x = 0
  case pos =>
    subst h0
    go_wp2_with fail
    refine (next_any g 6 _ D_2.out.src).mono ?_
    rintro e w3 ⟨y, rfl, hx_y, d⟩
    replace K_R := Lib.hid (show BlkL w3 (w.heap.size) 33 [.int .i64 0, .int .i64 0, .int .i64 0, .int .i64 0, .int .i64 0, .int .i64 0, .int .i64 0, .slice none 0 0] from BlkL.dr K_R.out d hne_R)
    replace K_F := Lib.hid (show BlkL w3 (w1.heap.size) 33 [.int .i64 k, .int .i64 r, .int .i64 t, .int .i64 m, .int .i64 dd, .int .i64 sl, .int .i64 b, .slice A n c] from BlkL.dr K_F.out d hne_F)
    replace O := Lib.hid (O.out.dr d (by simp; omega))
    have D_3 := Lib.hid (d.next D_2.out)
    have hb_y : y < 6 := by omega
    clear d
    obtain ⟨V, hV⟩ : ∃ V : Int, V = (y : Int) - 1 := ⟨_, rfl⟩
    have kR0_1 := K_R.out.c 0 rfl; have kR1_1 := K_R.out.c 1 rfl; have kR2_1 := K_R.out.c 2 rfl; have kR3_1 := K_R.out.c 3 rfl; have kR4_1 := K_R.out.c 4 rfl; have kR5_1 := K_R.out.c 5 rfl; have kR6_1 := K_R.out.c 6 rfl; have kR7_1 := K_R.out.c 7 rfl; have kfR_1 := K_R.out.free
    have kF0_2 := K_F.out.c 0 rfl; have kF1_2 := K_F.out.c 1 rfl; have kF2_2 := K_F.out.c 2 rfl; have kF3_2 := K_F.out.c 3 rfl; have kF4_2 := K_F.out.c 4 rfl; have kF5_2 := K_F.out.c 5 rfl; have kF6_2 := K_F.out.c 6 rfl; have kF7_2 := K_F.out.c 7 rfl; have kfF_2 := K_F.out.free
    go_upto_region 13 with fail
    obtain ⟨wS, hwS⟩ : ∃ x, (w3.setCell ⟨w1.heap.size, 0, none⟩ (.int .i64 ((y : Int) - 1))) = x := ⟨_, rfl⟩
    clear kR0_1 kR1_1 kR2_1 kR3_1 kR4_1 kR5_1 kR6_1 kR7_1 kfR_1
    clear kF0_2 kF1_2 kF2_2 kF3_2 kF4_2 kF5_2 kF6_2 kF7_2 kfF_2
    replace K_R := Lib.hid (show BlkL wS (w.heap.size) 33 [.int .i64 0, .int .i64 0, .int .i64 0, .int .i64 0, .int .i64 0, .int .i64 0, .int .i64 0, .slice none 0 0] from hwS ▸ (K_R.out.other (p := ⟨w1.heap.size, 0, none⟩) ne_FR _))
    replace K_F := Lib.hid (show BlkL wS (w1.heap.size) 33 [.int .i64 ((y : Int) - 1), .int .i64 r, .int .i64 t, .int .i64 m, .int .i64 dd, .int .i64 sl, .int .i64 b, .slice A n c] from hwS ▸ (K_F.out.set 0 _))
    replace O := Lib.hid (show OwnI 2 wS _ _ _ _ _ from hwS ▸ (O.out.aside (p := ⟨w1.heap.size, 0, none⟩) no_F _))
    have D_4 := Lib.hid (show Dr w g wS from hwS ▸ (D_3.out.set (p := ⟨w1.heap.size, 0, none⟩) hle_F hl _))
    rw [hwS]
    clear hwS
    have kR0_3 := K_R.out.c 0 rfl; have kR1_3 := K_R.out.c 1 rfl; have kR2_3 := K_R.out.c 2 rfl; have kR3_3 := K_R.out.c 3 rfl; have kR4_3 := K_R.out.c 4 rfl; have kR5_3 := K_R.out.c 5 rfl; have kR6_3 := K_R.out.c 6 rfl; have kR7_3 := K_R.out.c 7 rfl; have kfR_3 := K_R.out.free
    have kF0_4 := K_F.out.c 0 rfl; have kF1_4 := K_F.out.c 1 rfl; have kF2_4 := K_F.out.c 2 rfl; have kF3_4 := K_F.out.c 3 rfl; have kF4_4 := K_F.out.c 4 rfl; have kF5_4 := K_F.out.c 5 rfl; have kF6_4 := K_F.out.c 6 rfl; have kF7_4 := K_F.out.c 7 rfl; have kfF_4 := K_F.out.free
    go_wp2_with fail
    refine bp_forget (fun w' => BlkL w' w.heap.size 33 [.int .i64 ((y : Int) - 1), .int .i64 r, .int .i64 t, .int .i64 m, .int .i64 dd, .int .i64 sl, .int .i64 b, .slice A n c] ∧ OwnI 2 w' ((w.alloc (.cells #[.int .i64 0, .int .i64 0, .int .i64 0, .int .i64 0, .int .i64 0, .int .i64 0, .int .i64 0, .slice none 0 0] 33)).heap.size) A n c zs ∧ Dr w g w') ?_ ?_
    · exact ⟨((((((((K_R.out.set 0 _).set 1 _).set 2 _).set 3 _).set 4 _).set 5 _).set 6 _).set 7 _), ((((((((O.out.aside (p := ⟨w.heap.size, 0, none⟩) no_R _).aside (p := ⟨w.heap.size, 1, none⟩) no_R _).aside (p := ⟨w.heap.size, 2, none⟩) no_R _).aside (p := ⟨w.heap.size, 3, none⟩) no_R _).aside (p := ⟨w.heap.size, 4, none⟩) no_R _).aside (p := ⟨w.heap.size, 5, none⟩) no_R _).aside (p := ⟨w.heap.size, 6, none⟩) no_R _).aside (p := ⟨w.heap.size, 7, none⟩) no_R _), ((((((((D_4.out.set (p := ⟨w.heap.size, 0, none⟩) (Nat.le_refl _) hl _).set (p := ⟨w.heap.size, 1, none⟩) (Nat.le_refl _) hl _).set (p := ⟨w.heap.size, 2, none⟩) (Nat.le_refl _) hl _).set (p := ⟨w.heap.size, 3, none⟩) (Nat.le_refl _) hl _).set (p := ⟨w.heap.size, 4, none⟩) (Nat.le_refl _) hl _).set (p := ⟨w.heap.size, 5, none⟩) (Nat.le_refl _) hl _).set (p := ⟨w.heap.size, 6, none⟩) (Nat.le_refl _) hl _).set (p := ⟨w.heap.size, 7, none⟩) (Nat.le_refl _) hl _)⟩
    rintro wz ⟨kz, oz, dz⟩
    have q0 := kz.c 0 rfl
    have q1 := kz.c 1 rfl
    have q2 := kz.c 2 rfl
    have q3 := kz.c 3 rfl
    have q4 := kz.c 4 rfl
    have q5 := kz.c 5 rfl
    have q6 := kz.c 6 rfl
    have q7 := kz.c 7 rfl
    exact bodyPost_ret (v := .agg #[.int .i64 ((y : Int) - 1), .int .i64 r, .int .i64 t, .int .i64 m, .int .i64 dd, .int .i64 sl, .int .i64 b, .slice A n c]) (by simp [results, Tryz.results51, go_sem, q0, q1, q2, q3, q4, q5, q6, q7]) rfl ⟨_, _, _, _, _, _, _, _, _, _, _, rfl, oz.weaken (by simp), by omega, dz⟩
  have b0 : ((x : Int) == 0) = false := by simp; omega
  by_cases h1 : x = 1
  case pos =>
    subst h1
    go_wp2_with fail
    refine (next_any g 3 _ (D_2.out.alloc _).src).mono ?_
    rintro e w3 ⟨y, rfl, hx_y, d⟩
    replace K_R := Lib.hid (show BlkL w3 (w.heap.size) 33 [.int .i64 0, .int .i64 0, .int .i64 0, .int .i64 0, .int .i64 0, .int .i64 0, .int .i64 0, .slice none 0 0] from BlkL.dr (K_R.out.alloc _) d hne_R)
    replace K_F := Lib.hid (show BlkL w3 (w1.heap.size) 33 [.int .i64 k, .int .i64 r, .int .i64 t, .int .i64 m, .int .i64 dd, .int .i64 sl, .int .i64 b, .slice A n c] from BlkL.dr (K_F.out.alloc _) d hne_F)
    replace O := Lib.hid ((O.out.alloc _).dr d (by simp; omega))
    have D_3 := Lib.hid (d.next (D_2.out.alloc _))
    obtain ⟨u, _, hc⟩ := pick_cell (L := [-1, 1, 8]) d.gr D_2.out.lt (x := y) (by simp; omega)
    have hb_y : y < 3 := by omega
    clear d
    have kR0_1 := K_R.out.c 0 rfl; have kR1_1 := K_R.out.c 1 rfl; have kR2_1 := K_R.out.c 2 rfl; have kR3_1 := K_R.out.c 3 rfl; have kR4_1 := K_R.out.c 4 rfl; have kR5_1 := K_R.out.c 5 rfl; have kR6_1 := K_R.out.c 6 rfl; have kR7_1 := K_R.out.c 7 rfl; have kfR_1 := K_R.out.free
    have kF0_2 := K_F.out.c 0 rfl; have kF1_2 := K_F.out.c 1 rfl; have kF2_2 := K_F.out.c 2 rfl; have kF3_2 := K_F.out.c 3 rfl; have kF4_2 := K_F.out.c 4 rfl; have kF5_2 := K_F.out.c 5 rfl; have kF6_2 := K_F.out.c 6 rfl; have kF7_2 := K_F.out.c 7 rfl; have kfF_2 := K_F.out.free
    go_upto_region 13 with fail
    obtain ⟨wS, hwS⟩ : ∃ x, (w3.setCell ⟨w1.heap.size, 1, none⟩ (.int .i64 u)) = x := ⟨_, rfl⟩
    clear kR0_1 kR1_1 kR2_1 kR3_1 kR4_1 kR5_1 kR6_1 kR7_1 kfR_1
    clear kF0_2 kF1_2 kF2_2 kF3_2 kF4_2 kF5_2 kF6_2 kF7_2 kfF_2
    replace K_R := Lib.hid (show BlkL wS (w.heap.size) 33 [.int .i64 0, .int .i64 0, .int .i64 0, .int .i64 0, .int .i64 0, .int .i64 0, .int .i64 0, .slice none 0 0] from hwS ▸ (K_R.out.other (p := ⟨w1.heap.size, 1, none⟩) ne_FR _))
    replace K_F := Lib.hid (show BlkL wS (w1.heap.size) 33 [.int .i64 k, .int .i64 u, .int .i64 t, .int .i64 m, .int .i64 dd, .int .i64 sl, .int .i64 b, .slice A n c] from hwS ▸ (K_F.out.set 1 _))
    replace O := Lib.hid (show OwnI 2 wS _ _ _ _ _ from hwS ▸ (O.out.aside (p := ⟨w1.heap.size, 1, none⟩) no_F _))
    have D_4 := Lib.hid (show Dr w g wS from hwS ▸ (D_3.out.set (p := ⟨w1.heap.size, 1, none⟩) hle_F hl _))
    rw [hwS]
    clear hwS
    have kR0_3 := K_R.out.c 0 rfl; have kR1_3 := K_R.out.c 1 rfl; have kR2_3 := K_R.out.c 2 rfl; have kR3_3 := K_R.out.c 3 rfl; have kR4_3 := K_R.out.c 4 rfl; have kR5_3 := K_R.out.c 5 rfl; have kR6_3 := K_R.out.c 6 rfl; have kR7_3 := K_R.out.c 7 rfl; have kfR_3 := K_R.out.free
    have kF0_4 := K_F.out.c 0 rfl; have kF1_4 := K_F.out.c 1 rfl; have kF2_4 := K_F.out.c 2 rfl; have kF3_4 := K_F.out.c 3 rfl; have kF4_4 := K_F.out.c 4 rfl; have kF5_4 := K_F.out.c 5 rfl; have kF6_4 := K_F.out.c 6 rfl; have kF7_4 := K_F.out.c 7 rfl; have kfF_4 := K_F.out.free
    go_wp2_with fail
    refine bp_forget (fun w' => BlkL w' w.heap.size 33 [.int .i64 k, .int .i64 u, .int .i64 t, .int .i64 m, .int .i64 dd, .int .i64 sl, .int .i64 b, .slice A n c] ∧ OwnI 2 w' ((w.alloc (.cells #[.int .i64 0, .int .i64 0, .int .i64 0, .int .i64 0, .int .i64 0, .int .i64 0, .int .i64 0, .slice none 0 0] 33)).heap.size) A n c zs ∧ Dr w g w') ?_ ?_
    · exact ⟨((((((((K_R.out.set 0 _).set 1 _).set 2 _).set 3 _).set 4 _).set 5 _).set 6 _).set 7 _), ((((((((O.out.aside (p := ⟨w.heap.size, 0, none⟩) no_R _).aside (p := ⟨w.heap.size, 1, none⟩) no_R _).aside (p := ⟨w.heap.size, 2, none⟩) no_R _).aside (p := ⟨w.heap.size, 3, none⟩) no_R _).aside (p := ⟨w.heap.size, 4, none⟩) no_R _).aside (p := ⟨w.heap.size, 5, none⟩) no_R _).aside (p := ⟨w.heap.size, 6, none⟩) no_R _).aside (p := ⟨w.heap.size, 7, none⟩) no_R _), ((((((((D_4.out.set (p := ⟨w.heap.size, 0, none⟩) (Nat.le_refl _) hl _).set (p := ⟨w.heap.size, 1, none⟩) (Nat.le_refl _) hl _).set (p := ⟨w.heap.size, 2, none⟩) (Nat.le_refl _) hl _).set (p := ⟨w.heap.size, 3, none⟩) (Nat.le_refl _) hl _).set (p := ⟨w.heap.size, 4, none⟩) (Nat.le_refl _) hl _).set (p := ⟨w.heap.size, 5, none⟩) (Nat.le_refl _) hl _).set (p := ⟨w.heap.size, 6, none⟩) (Nat.le_refl _) hl _).set (p := ⟨w.heap.size, 7, none⟩) (Nat.le_refl _) hl _)⟩
    rintro wz ⟨kz, oz, dz⟩
    have q0 := kz.c 0 rfl
    have q1 := kz.c 1 rfl
    have q2 := kz.c 2 rfl
    have q3 := kz.c 3 rfl
    have q4 := kz.c 4 rfl
    have q5 := kz.c 5 rfl
    have q6 := kz.c 6 rfl
    have q7 := kz.c 7 rfl
    exact bodyPost_ret (v := .agg #[.int .i64 k, .int .i64 u, .int .i64 t, .int .i64 m, .int .i64 dd, .int .i64 sl, .int .i64 b, .slice A n c]) (by simp [results, Tryz.results51, go_sem, q0, q1, q2, q3, q4, q5, q6, q7]) rfl ⟨_, _, _, _, _, _, _, _, _, _, _, rfl, oz.weaken (by simp), by omega, dz⟩
  have b1 : ((x : Int) == 1) = false := by simp; omega
  by_cases h2 : x = 2
  case pos =>
    subst h2
    go_wp2_with fail
    refine (drawStateAny_any g _ D_2.out.src).mono ?_
    rintro e w3 ⟨t2, m2, dd2, sl2, b2, rfl, d⟩
    replace K_R := Lib.hid (show BlkL w3 (w.heap.size) 33 [.int .i64 0, .int .i64 0, .int .i64 0, .int .i64 0, .int .i64 0, .int .i64 0, .int .i64 0, .slice none 0 0] from BlkL.dr K_R.out d hne_R)
    replace K_F := Lib.hid (show BlkL w3 (w1.heap.size) 33 [.int .i64 k, .int .i64 r, .int .i64 t, .int .i64 m, .int .i64 dd, .int .i64 sl, .int .i64 b, .slice A n c] from BlkL.dr K_F.out d hne_F)
    replace O := Lib.hid (O.out.dr d (by simp; omega))
    have D_3 := Lib.hid (d.next D_2.out)
    clear d
    have kR0_1 := K_R.out.c 0 rfl; have kR1_1 := K_R.out.c 1 rfl; have kR2_1 := K_R.out.c 2 rfl; have kR3_1 := K_R.out.c 3 rfl; have kR4_1 := K_R.out.c 4 rfl; have kR5_1 := K_R.out.c 5 rfl; have kR6_1 := K_R.out.c 6 rfl; have kR7_1 := K_R.out.c 7 rfl; have kfR_1 := K_R.out.free
    have kF0_2 := K_F.out.c 0 rfl; have kF1_2 := K_F.out.c 1 rfl; have kF2_2 := K_F.out.c 2 rfl; have kF3_2 := K_F.out.c 3 rfl; have kF4_2 := K_F.out.c 4 rfl; have kF5_2 := K_F.out.c 5 rfl; have kF6_2 := K_F.out.c 6 rfl; have kF7_2 := K_F.out.c 7 rfl; have kfF_2 := K_F.out.free
    go_upto_region 13 with fail
    obtain ⟨wS, hwS⟩ : ∃ x, (((((w3.setCell ⟨w1.heap.size, 2, none⟩ (.int .i64 t2)).setCell ⟨w1.heap.size, 3, none⟩ (.int .i64 m2)).setCell ⟨w1.heap.size, 4, none⟩ (.int .i64 dd2)).setCell ⟨w1.heap.size, 5, none⟩ (.int .i64 sl2)).setCell ⟨w1.heap.size, 6, none⟩ (.int .i64 b2)) = x := ⟨_, rfl⟩
    clear kR0_1 kR1_1 kR2_1 kR3_1 kR4_1 kR5_1 kR6_1 kR7_1 kfR_1
    clear kF0_2 kF1_2 kF2_2 kF3_2 kF4_2 kF5_2 kF6_2 kF7_2 kfF_2
    replace K_R := Lib.hid (show BlkL wS (w.heap.size) 33 [.int .i64 0, .int .i64 0, .int .i64 0, .int .i64 0, .int .i64 0, .int .i64 0, .int .i64 0, .slice none 0 0] from hwS ▸ (((((K_R.out.other (p := ⟨w1.heap.size, 2, none⟩) ne_FR _).other (p := ⟨w1.heap.size, 3, none⟩) ne_FR _).other (p := ⟨w1.heap.size, 4, none⟩) ne_FR _).other (p := ⟨w1.heap.size, 5, none⟩) ne_FR _).other (p := ⟨w1.heap.size, 6, none⟩) ne_FR _))
    replace K_F := Lib.hid (show BlkL wS (w1.heap.size) 33 [.int .i64 k, .int .i64 r, .int .i64 t2, .int .i64 m2, .int .i64 dd2, .int .i64 sl2, .int .i64 b2, .slice A n c] from hwS ▸ (((((K_F.out.set 2 _).set 3 _).set 4 _).set 5 _).set 6 _))
    replace O := Lib.hid (show OwnI 2 wS _ _ _ _ _ from hwS ▸ (((((O.out.aside (p := ⟨w1.heap.size, 2, none⟩) no_F _).aside (p := ⟨w1.heap.size, 3, none⟩) no_F _).aside (p := ⟨w1.heap.size, 4, none⟩) no_F _).aside (p := ⟨w1.heap.size, 5, none⟩) no_F _).aside (p := ⟨w1.heap.size, 6, none⟩) no_F _))
    have D_4 := Lib.hid (show Dr w g wS from hwS ▸ (((((D_3.out.set (p := ⟨w1.heap.size, 2, none⟩) hle_F hl _).set (p := ⟨w1.heap.size, 3, none⟩) hle_F hl _).set (p := ⟨w1.heap.size, 4, none⟩) hle_F hl _).set (p := ⟨w1.heap.size, 5, none⟩) hle_F hl _).set (p := ⟨w1.heap.size, 6, none⟩) hle_F hl _))
    rw [hwS]
    clear hwS
    have kR0_3 := K_R.out.c 0 rfl; have kR1_3 := K_R.out.c 1 rfl; have kR2_3 := K_R.out.c 2 rfl; have kR3_3 := K_R.out.c 3 rfl; have kR4_3 := K_R.out.c 4 rfl; have kR5_3 := K_R.out.c 5 rfl; have kR6_3 := K_R.out.c 6 rfl; have kR7_3 := K_R.out.c 7 rfl; have kfR_3 := K_R.out.free
    have kF0_4 := K_F.out.c 0 rfl; have kF1_4 := K_F.out.c 1 rfl; have kF2_4 := K_F.out.c 2 rfl; have kF3_4 := K_F.out.c 3 rfl; have kF4_4 := K_F.out.c 4 rfl; have kF5_4 := K_F.out.c 5 rfl; have kF6_4 := K_F.out.c 6 rfl; have kF7_4 := K_F.out.c 7 rfl; have kfF_4 := K_F.out.free
    go_wp2_with fail
    refine bp_forget (fun w' => BlkL w' w.heap.size 33 [.int .i64 k, .int .i64 r, .int .i64 t2, .int .i64 m2, .int .i64 dd2, .int .i64 sl2, .int .i64 b2, .slice A n c] ∧ OwnI 2 w' ((w.alloc (.cells #[.int .i64 0, .int .i64 0, .int .i64 0, .int .i64 0, .int .i64 0, .int .i64 0, .int .i64 0, .slice none 0 0] 33)).heap.size) A n c zs ∧ Dr w g w') ?_ ?_
    · exact ⟨((((((((K_R.out.set 0 _).set 1 _).set 2 _).set 3 _).set 4 _).set 5 _).set 6 _).set 7 _), ((((((((O.out.aside (p := ⟨w.heap.size, 0, none⟩) no_R _).aside (p := ⟨w.heap.size, 1, none⟩) no_R _).aside (p := ⟨w.heap.size, 2, none⟩) no_R _).aside (p := ⟨w.heap.size, 3, none⟩) no_R _).aside (p := ⟨w.heap.size, 4, none⟩) no_R _).aside (p := ⟨w.heap.size, 5, none⟩) no_R _).aside (p := ⟨w.heap.size, 6, none⟩) no_R _).aside (p := ⟨w.heap.size, 7, none⟩) no_R _), ((((((((D_4.out.set (p := ⟨w.heap.size, 0, none⟩) (Nat.le_refl _) hl _).set (p := ⟨w.heap.size, 1, none⟩) (Nat.le_refl _) hl _).set (p := ⟨w.heap.size, 2, none⟩) (Nat.le_refl _) hl _).set (p := ⟨w.heap.size, 3, none⟩) (Nat.le_refl _) hl _).set (p := ⟨w.heap.size, 4, none⟩) (Nat.le_refl _) hl _).set (p := ⟨w.heap.size, 5, none⟩) (Nat.le_refl _) hl _).set (p := ⟨w.heap.size, 6, none⟩) (Nat.le_refl _) hl _).set (p := ⟨w.heap.size, 7, none⟩) (Nat.le_refl _) hl _)⟩
    rintro wz ⟨kz, oz, dz⟩
    have q0 := kz.c 0 rfl
    have q1 := kz.c 1 rfl
    have q2 := kz.c 2 rfl
    have q3 := kz.c 3 rfl
    have q4 := kz.c 4 rfl
    have q5 := kz.c 5 rfl
    have q6 := kz.c 6 rfl
    have q7 := kz.c 7 rfl
    exact bodyPost_ret (v := .agg #[.int .i64 k, .int .i64 r, .int .i64 t2, .int .i64 m2, .int .i64 dd2, .int .i64 sl2, .int .i64 b2, .slice A n c]) (by simp [results, Tryz.results51, go_sem, q0, q1, q2, q3, q4, q5, q6, q7]) rfl ⟨_, _, _, _, _, _, _, _, _, _, _, rfl, oz.weaken (by simp), by omega, dz⟩
  have b2 : ((x : Int) == 2) = false := by simp; omega
  by_cases h3 : x = 3
  case pos =>
    subst h3
    have ltR := K_R.out.lt
    have ltF := K_F.out.lt
    go_wp2_with fail
    refine (drawBytes_any g 3 _ D_2.out.src (by omega)).mono ?_
    rintro e w3 ⟨A2, n2, c2, zs2, rfl, ho, hn2, d⟩
    replace K_R := Lib.hid (show BlkL w3 (w.heap.size) 33 [.int .i64 0, .int .i64 0, .int .i64 0, .int .i64 0, .int .i64 0, .int .i64 0, .int .i64 0, .slice none 0 0] from BlkL.dr K_R.out d hne_R)
    replace K_F := Lib.hid (show BlkL w3 (w1.heap.size) 33 [.int .i64 k, .int .i64 r, .int .i64 t, .int .i64 m, .int .i64 dd, .int .i64 sl, .int .i64 b, .slice A n c] from BlkL.dr K_F.out d hne_F)
    replace O := Lib.hid (O.out.dr d (by simp; omega))
    have D_3 := Lib.hid (d.next D_2.out)
    have O2 := Lib.hid ho
    clear ho
    clear d
    have kR0_1 := K_R.out.c 0 rfl; have kR1_1 := K_R.out.c 1 rfl; have kR2_1 := K_R.out.c 2 rfl; have kR3_1 := K_R.out.c 3 rfl; have kR4_1 := K_R.out.c 4 rfl; have kR5_1 := K_R.out.c 5 rfl; have kR6_1 := K_R.out.c 6 rfl; have kR7_1 := K_R.out.c 7 rfl; have kfR_1 := K_R.out.free
    have kF0_2 := K_F.out.c 0 rfl; have kF1_2 := K_F.out.c 1 rfl; have kF2_2 := K_F.out.c 2 rfl; have kF3_2 := K_F.out.c 3 rfl; have kF4_2 := K_F.out.c 4 rfl; have kF5_2 := K_F.out.c 5 rfl; have kF6_2 := K_F.out.c 6 rfl; have kF7_2 := K_F.out.c 7 rfl; have kfF_2 := K_F.out.free
    clear no_R no_F
    have no_R : w.heap.size < w2.heap.size := ltR
    have no_F : w1.heap.size < w2.heap.size := ltF
    go_wp2_with fail
    refine bp_forget (fun w' => BlkL w' w.heap.size 33 [.int .i64 k, .int .i64 r, .int .i64 t, .int .i64 m, .int .i64 dd, .int .i64 sl, .int .i64 b, .slice A2 n2 c2] ∧ OwnI 2 w' (w2.heap.size) A2 n2 c2 zs2 ∧ Dr w g w') ?_ ?_
    · exact ⟨(((((((((K_R.out.other (p := ⟨w1.heap.size, 7, none⟩) ne_FR _).set 0 _).set 1 _).set 2 _).set 3 _).set 4 _).set 5 _).set 6 _).set 7 _), (((((((((O2.out.other (p := ⟨w1.heap.size, 7, none⟩) no_F _).other (p := ⟨w.heap.size, 0, none⟩) no_R _).other (p := ⟨w.heap.size, 1, none⟩) no_R _).other (p := ⟨w.heap.size, 2, none⟩) no_R _).other (p := ⟨w.heap.size, 3, none⟩) no_R _).other (p := ⟨w.heap.size, 4, none⟩) no_R _).other (p := ⟨w.heap.size, 5, none⟩) no_R _).other (p := ⟨w.heap.size, 6, none⟩) no_R _).other (p := ⟨w.heap.size, 7, none⟩) no_R _), (((((((((D_3.out.set (p := ⟨w1.heap.size, 7, none⟩) hle_F hl _).set (p := ⟨w.heap.size, 0, none⟩) (Nat.le_refl _) hl _).set (p := ⟨w.heap.size, 1, none⟩) (Nat.le_refl _) hl _).set (p := ⟨w.heap.size, 2, none⟩) (Nat.le_refl _) hl _).set (p := ⟨w.heap.size, 3, none⟩) (Nat.le_refl _) hl _).set (p := ⟨w.heap.size, 4, none⟩) (Nat.le_refl _) hl _).set (p := ⟨w.heap.size, 5, none⟩) (Nat.le_refl _) hl _).set (p := ⟨w.heap.size, 6, none⟩) (Nat.le_refl _) hl _).set (p := ⟨w.heap.size, 7, none⟩) (Nat.le_refl _) hl _)⟩
    rintro wz ⟨kz, oz, dz⟩
    have q0 := kz.c 0 rfl
    have q1 := kz.c 1 rfl
    have q2 := kz.c 2 rfl
    have q3 := kz.c 3 rfl
    have q4 := kz.c 4 rfl
    have q5 := kz.c 5 rfl
    have q6 := kz.c 6 rfl
    have q7 := kz.c 7 rfl
    exact bodyPost_ret (v := .agg #[.int .i64 k, .int .i64 r, .int .i64 t, .int .i64 m, .int .i64 dd, .int .i64 sl, .int .i64 b, .slice A2 n2 c2]) (by simp [results, Tryz.results51, go_sem, q0, q1, q2, q3, q4, q5, q6, q7]) rfl ⟨_, _, _, _, _, _, _, _, _, _, _, rfl, oz.weaken (Nat.le_of_lt ltR), by omega, dz⟩
  have b3 : ((x : Int) == 3) = false := by simp; omega
  by_cases h4 : x = 4
  case pos =>
    subst h4
    go_wp2_with fail
    refine (next_any g 2 _ D_2.out.src).mono ?_
    rintro e w3 ⟨y, rfl, hx_y, d⟩
    replace K_R := Lib.hid (show BlkL w3 (w.heap.size) 33 [.int .i64 0, .int .i64 0, .int .i64 0, .int .i64 0, .int .i64 0, .int .i64 0, .int .i64 0, .slice none 0 0] from BlkL.dr K_R.out d hne_R)
    replace K_F := Lib.hid (show BlkL w3 (w1.heap.size) 33 [.int .i64 k, .int .i64 r, .int .i64 t, .int .i64 m, .int .i64 dd, .int .i64 sl, .int .i64 b, .slice A n c] from BlkL.dr K_F.out d hne_F)
    replace O := Lib.hid (O.out.dr d (by simp; omega))
    have D_3 := Lib.hid (d.next D_2.out)
    have hb_y : y < 2 := by omega
    clear d
    clear hx_y
    have kR0_1 := K_R.out.c 0 rfl; have kR1_1 := K_R.out.c 1 rfl; have kR2_1 := K_R.out.c 2 rfl; have kR3_1 := K_R.out.c 3 rfl; have kR4_1 := K_R.out.c 4 rfl; have kR5_1 := K_R.out.c 5 rfl; have kR6_1 := K_R.out.c 6 rfl; have kR7_1 := K_R.out.c 7 rfl; have kfR_1 := K_R.out.free
    have kF0_2 := K_F.out.c 0 rfl; have kF1_2 := K_F.out.c 1 rfl; have kF2_2 := K_F.out.c 2 rfl; have kF3_2 := K_F.out.c 3 rfl; have kF4_2 := K_F.out.c 4 rfl; have kF5_2 := K_F.out.c 5 rfl; have kF6_2 := K_F.out.c 6 rfl; have kF7_2 := K_F.out.c 7 rfl; have kfF_2 := K_F.out.free
    have ltR := K_R.out.lt
    have ltF := K_F.out.lt
    clear no_R no_F
    have no_R : w.heap.size < w3.heap.size := ltR
    have no_F : w1.heap.size < w3.heap.size := ltF
    go_upto_region 13 with (at_make; refine wpl_make _ Tryz.underlying31 infoInt rfl _ _ rfl (32 + y) (vint (by omega)) (vint (by omega)) (by omega) ?_; intro wm hown4 hg4; have KFm := Lib.hid (show BlkL wm w1.heap.size 33 [.int .i64 k, .int .i64 r, .int .i64 t, .int .i64 m, .int .i64 dd, .int .i64 sl, .int .i64 b, .slice A n c] from (hg4.block _ K_F.out.lt (fun e => by cases e)).trans K_F.out); have KRm := Lib.hid (show BlkL wm w.heap.size 33 [.int .i64 0, .int .i64 0, .int .i64 0, .int .i64 0, .int .i64 0, .int .i64 0, .int .i64 0, .slice none 0 0] from (hg4.block _ K_R.out.lt (fun e => by cases e)).trans K_R.out); have Dm := Lib.hid (D_3.out.own hg4 (fun j e => by cases e) hl); have Om := Lib.hid hown4; clear hown4 hg4; have a0 := KFm.out.c 0 rfl; have a1 := KFm.out.c 1 rfl; have a2 := KFm.out.c 2 rfl; have a3 := KFm.out.c 3 rfl; have a4 := KFm.out.c 4 rfl; have a5 := KFm.out.c 5 rfl; have a6 := KFm.out.c 6 rfl; have a7 := KFm.out.c 7 rfl; have af := KFm.out.free; have b0 := KRm.out.c 0 rfl; have b1 := KRm.out.c 1 rfl; have b2 := KRm.out.c 2 rfl; have b3 := KRm.out.c 3 rfl; have b4 := KRm.out.c 4 rfl; have b5 := KRm.out.c 5 rfl; have b6 := KRm.out.c 6 rfl; have b7 := KRm.out.c 7 rfl; have bf := KRm.out.free)
    obtain ⟨wS, hwS⟩ : ∃ x, wm.setCell ⟨w1.heap.size, 7, none⟩ (.slice (some ⟨w3.heap.size, 0, none⟩) (32 + y) (32 + y)) = x := ⟨_, rfl⟩
    have KFS := Lib.hid (show BlkL wS w1.heap.size 33 [.int .i64 k, .int .i64 r, .int .i64 t, .int .i64 m, .int .i64 dd, .int .i64 sl, .int .i64 b, .slice (some ⟨w3.heap.size, 0, none⟩) (32 + y) (32 + y)] from hwS ▸ KFm.out.set 7 _)
    replace K_R := Lib.hid (show BlkL wS w.heap.size 33 [.int .i64 0, .int .i64 0, .int .i64 0, .int .i64 0, .int .i64 0, .int .i64 0, .int .i64 0, .slice none 0 0] from hwS ▸ KRm.out.other (p := ⟨w1.heap.size, 7, none⟩) ne_FR _)
    have O2 := Lib.hid (show OwnI 2 wS w3.heap.size _ _ _ _ from hwS ▸ Om.out.other (p := ⟨w1.heap.size, 7, none⟩) no_F _)
    have D_9 := Lib.hid (show Dr w g wS from hwS ▸ Dm.out.set (p := ⟨w1.heap.size, 7, none⟩) hle_F hl _)
    try rw [hwS]
    clear a0 a1 a2 a3 a4 a5 a6 a7 af
    clear b0 b1 b2 b3 b4 b5 b6 b7 bf
    clear kR0_1 kR1_1 kR2_1 kR3_1 kR4_1 kR5_1 kR6_1 kR7_1 kfR_1
    clear kF0_2 kF1_2 kF2_2 kF3_2 kF4_2 kF5_2 kF6_2 kF7_2 kfF_2
    clear hwS K_F
    have a0 := KFS.out.c 0 rfl; have a1 := KFS.out.c 1 rfl; have a2 := KFS.out.c 2 rfl; have a3 := KFS.out.c 3 rfl; have a4 := KFS.out.c 4 rfl; have a5 := KFS.out.c 5 rfl; have a6 := KFS.out.c 6 rfl; have a7 := KFS.out.c 7 rfl; have af := KFS.out.free
    have b0 := K_R.out.c 0 rfl; have b1 := K_R.out.c 1 rfl; have b2 := K_R.out.c 2 rfl; have b3 := K_R.out.c 3 rfl; have b4 := K_R.out.c 4 rfl; have b5 := K_R.out.c 5 rfl; have b6 := K_R.out.c 6 rfl; have b7 := K_R.out.c 7 rfl; have bf := K_R.out.free
    go_wp2_with fail
    refine bp_forget (fun w' => BlkL w' w.heap.size 33 [.int .i64 k, .int .i64 r, .int .i64 t, .int .i64 m, .int .i64 dd, .int .i64 sl, .int .i64 b, .slice (some ⟨w3.heap.size, 0, none⟩) (32 + y) (32 + y)] ∧ OwnI 2 w' (w3.heap.size) (some ⟨w3.heap.size, 0, none⟩) (32 + y) (32 + y) (List.replicate (32 + y) 0) ∧ Dr w g w') ?_ ?_
    · exact ⟨((((((((K_R.out.set 0 _).set 1 _).set 2 _).set 3 _).set 4 _).set 5 _).set 6 _).set 7 _), ((((((((O2.out.other (p := ⟨w.heap.size, 0, none⟩) no_R _).other (p := ⟨w.heap.size, 1, none⟩) no_R _).other (p := ⟨w.heap.size, 2, none⟩) no_R _).other (p := ⟨w.heap.size, 3, none⟩) no_R _).other (p := ⟨w.heap.size, 4, none⟩) no_R _).other (p := ⟨w.heap.size, 5, none⟩) no_R _).other (p := ⟨w.heap.size, 6, none⟩) no_R _).other (p := ⟨w.heap.size, 7, none⟩) no_R _), ((((((((D_9.out.set (p := ⟨w.heap.size, 0, none⟩) (Nat.le_refl _) hl _).set (p := ⟨w.heap.size, 1, none⟩) (Nat.le_refl _) hl _).set (p := ⟨w.heap.size, 2, none⟩) (Nat.le_refl _) hl _).set (p := ⟨w.heap.size, 3, none⟩) (Nat.le_refl _) hl _).set (p := ⟨w.heap.size, 4, none⟩) (Nat.le_refl _) hl _).set (p := ⟨w.heap.size, 5, none⟩) (Nat.le_refl _) hl _).set (p := ⟨w.heap.size, 6, none⟩) (Nat.le_refl _) hl _).set (p := ⟨w.heap.size, 7, none⟩) (Nat.le_refl _) hl _)⟩
    rintro wz ⟨kz, oz, dz⟩
    have q0 := kz.c 0 rfl
    have q1 := kz.c 1 rfl
    have q2 := kz.c 2 rfl
    have q3 := kz.c 3 rfl
    have q4 := kz.c 4 rfl
    have q5 := kz.c 5 rfl
    have q6 := kz.c 6 rfl
    have q7 := kz.c 7 rfl
    exact bodyPost_ret (v := .agg #[.int .i64 k, .int .i64 r, .int .i64 t, .int .i64 m, .int .i64 dd, .int .i64 sl, .int .i64 b, .slice (some ⟨w3.heap.size, 0, none⟩) (32 + y) (32 + y)]) (by simp [results, Tryz.results51, go_sem, q0, q1, q2, q3, q4, q5, q6, q7]) rfl ⟨_, _, _, _, _, _, _, _, _, _, _, rfl, oz.weaken (Nat.le_of_lt ltR), by omega, dz⟩
  have b4 : ((x : Int) == 4) = false := by simp; omega
  have kR0_1 := K_R.out.c 0 rfl; have kR1_1 := K_R.out.c 1 rfl; have kR2_1 := K_R.out.c 2 rfl; have kR3_1 := K_R.out.c 3 rfl; have kR4_1 := K_R.out.c 4 rfl; have kR5_1 := K_R.out.c 5 rfl; have kR6_1 := K_R.out.c 6 rfl; have kR7_1 := K_R.out.c 7 rfl; have kfR_1 := K_R.out.free
  have kF0_2 := K_F.out.c 0 rfl; have kF1_2 := K_F.out.c 1 rfl; have kF2_2 := K_F.out.c 2 rfl; have kF3_2 := K_F.out.c 3 rfl; have kF4_2 := K_F.out.c 4 rfl; have kF5_2 := K_F.out.c 5 rfl; have kF6_2 := K_F.out.c 6 rfl; have kF7_2 := K_F.out.c 7 rfl; have kfF_2 := K_F.out.free
  go_wp2_with fail
  refine bp_forget (fun w' => BlkL w' w.heap.size 33 [.int .i64 k, .int .i64 r, .int .i64 t, .int .i64 m, .int .i64 dd, .int .i64 sl, .int .i64 b, .slice A n c] ∧ OwnI 2 w' ((w.alloc (.cells #[.int .i64 0, .int .i64 0, .int .i64 0, .int .i64 0, .int .i64 0, .int .i64 0, .int .i64 0, .slice none 0 0] 33)).heap.size) A n c zs ∧ Dr w g w') ?_ ?_
  · exact ⟨((((((((K_R.out.set 0 _).set 1 _).set 2 _).set 3 _).set 4 _).set 5 _).set 6 _).set 7 _), ((((((((O.out.aside (p := ⟨w.heap.size, 0, none⟩) no_R _).aside (p := ⟨w.heap.size, 1, none⟩) no_R _).aside (p := ⟨w.heap.size, 2, none⟩) no_R _).aside (p := ⟨w.heap.size, 3, none⟩) no_R _).aside (p := ⟨w.heap.size, 4, none⟩) no_R _).aside (p := ⟨w.heap.size, 5, none⟩) no_R _).aside (p := ⟨w.heap.size, 6, none⟩) no_R _).aside (p := ⟨w.heap.size, 7, none⟩) no_R _), ((((((((D_2.out.set (p := ⟨w.heap.size, 0, none⟩) (Nat.le_refl _) hl _).set (p := ⟨w.heap.size, 1, none⟩) (Nat.le_refl _) hl _).set (p := ⟨w.heap.size, 2, none⟩) (Nat.le_refl _) hl _).set (p := ⟨w.heap.size, 3, none⟩) (Nat.le_refl _) hl _).set (p := ⟨w.heap.size, 4, none⟩) (Nat.le_refl _) hl _).set (p := ⟨w.heap.size, 5, none⟩) (Nat.le_refl _) hl _).set (p := ⟨w.heap.size, 6, none⟩) (Nat.le_refl _) hl _).set (p := ⟨w.heap.size, 7, none⟩) (Nat.le_refl _) hl _)⟩
  rintro wz ⟨kz, oz, dz⟩
  have q0 := kz.c 0 rfl
  have q1 := kz.c 1 rfl
  have q2 := kz.c 2 rfl
  have q3 := kz.c 3 rfl
  have q4 := kz.c 4 rfl
  have q5 := kz.c 5 rfl
  have q6 := kz.c 6 rfl
  have q7 := kz.c 7 rfl
  exact bodyPost_ret (v := .agg #[.int .i64 k, .int .i64 r, .int .i64 t, .int .i64 m, .int .i64 dd, .int .i64 sl, .int .i64 b, .slice A n c]) (by simp [results, Tryz.results51, go_sem, q0, q1, q2, q3, q4, q5, q6, q7]) rfl ⟨_, _, _, _, _, _, _, _, _, _, _, rfl, oz.weaken (by simp), by omega, dz⟩

end Go.Proofs.YtbaojbheopcjhaaGreatDoor
