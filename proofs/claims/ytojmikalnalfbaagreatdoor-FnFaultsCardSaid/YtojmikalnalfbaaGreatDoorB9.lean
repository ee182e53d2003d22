/- Walks, laws and small notions for the claims of this seat, several texts as one (Drw, DrwA, DrwF, DrwG, RowB, Like, LikF). Conditions: as each theorem states them. -/
import Derived.Test.YtojmikalnalfbaaGreatDoorB2
import Derived.Test.YtojmikalnalfbaaGreatDoorB1
import Derived.Maps.Range
import Derived.Deep.DeepCutAuto
import Derived.Deep.QuietTactic
import Derived.BigQuiet
import Derived.IntWalk
import Derived.Test.YtojmikalnalfbaaGreatDoorB5
namespace Go.Proofs.YtojmikalnalfbaaGreatDoor
open Go.RowKit

/-- the slice value '.slice A n c' reads as the bytes bs, below block B -/
def RB (w : World) (B : Nat) (A : Option Addr) (n : Nat) (bs : List Int) : Prop :=
  bs.length = n ∧ (∀ i, i < n → 0 ≤ gi bs i ∧ gi bs i ≤ 255) ∧ (0 < n → ∃ b o, A = some ⟨b, o, none⟩ ∧ b < B ∧ ∀ i, i < n → w.cell? ⟨b, o + i, none⟩ = some (.int .u8 (gi bs i)))
section
variable {w w' : World} {B B' n : Nat} {A : Option Addr} {bs : List Int}
theorem RB.get (h : RB w B A n bs) (hn : 0 < n) : ∃ b o, A = some ⟨b, o, none⟩ ∧ b < B ∧ ∀ i, i < n → w.cell? ⟨b, o + i, none⟩ = some (.int .u8 (gi bs i)) := h.2.2 hn
theorem RB.byte (h : RB w B A n bs) {i : Nat} (hi : i < n) : 0 ≤ gi bs i ∧ gi bs i ≤ 255 := h.2.1 i hi
theorem RB.below (h : RB w B A n bs) (hb : Below B' w w') (hB : B ≤ B') : RB w' B A n bs :=
  ⟨h.1, h.2.1, fun hn => let ⟨b, o, e, hlt, hc⟩ := h.2.2 hn; ⟨b, o, e, hlt, fun i hi => (hb.cell (p := ⟨b, o + i, none⟩) (Nat.lt_of_lt_of_le hlt hB)).trans (hc i hi)⟩⟩
theorem RB.more (h : RB w B A n bs) (hB : B ≤ B') : RB w B' A n bs :=
  ⟨h.1, h.2.1, fun hn => let ⟨b, o, e, hlt, hc⟩ := h.2.2 hn; ⟨b, o, e, Nat.lt_of_lt_of_le hlt hB, hc⟩⟩
theorem RB.grown {g : Nat} (h : RB w g A n bs) (hg : w.grownBy w' (some g)) : RB w' g A n bs :=
  ⟨h.1, h.2.1, fun hn => let ⟨b, o, e, hlt, hc⟩ := h.2.2 hn; ⟨b, o, e, hlt, fun i hi => World.grownBy.cell hg (hc i hi) (fun e => by injection e with e; dsimp only at e; omega)⟩⟩
end

/-- block g is a source of numbers -/
def Src (w : World) (g : Nat) : Prop :=
  ∃ (A : Option Addr) (n c : Nat) (bs : List Int) (k : Nat) (z : Int), Blk3 w g 76 (.slice A n c) (.int .i64 k) (.int .i64 z) ∧ RB w g A n bs ∧ k ≤ n ∧ n ≤ 1099511627776 ∧ 0 ≤ z ∧ z < 2147483647
theorem Src.lt {w : World} {g : Nat} (h : Src w g) : g < w.heap.size := by
  obtain ⟨A, n, c, bs, k, z, hb, _⟩ := h
  exact hb.lt
theorem Src.below {w w' : World} {g B : Nat} (h : Src w g) (hb : Below B w w') (hB : g < B) : Src w' g := by
  obtain ⟨A, n, c, bs, k, z, h1, h2, h3⟩ := h
  exact ⟨A, n, c, bs, k, z, h1.below hb hB, h2.below hb (Nat.le_of_lt hB), h3⟩
theorem grown_of_below {w w' : World} (h : Below w.heap.size w w') (row : Option Nat) : w.grownBy w' row :=
  ⟨h.os, h.tape, h.output, h.size, fun k hk _ => h.block k hk⟩

theorem grown_set (w : World) (p : Addr) (v : Value) : w.grownBy (w.setCell p v) (some p.block) := by
  refine ⟨rfl, rfl, rfl, by simp, fun k hk hne => ?_⟩
  show (w.heap.modify p.block _)[k]? = _
  rw [Array.getElem?_modify, if_neg (fun e => hne (by rw [e]))]

theorem grown_dN {w w' : World} {row : Option Nat} (h : w.grownBy w' row) (m : Nat) : w.grownBy (w'.drewN m) row := ⟨h.os, h.tape, h.output, h.size, h.block⟩

/-- the world w0 with what draws from the source g, and memory of the call's own, have made of it -/
structure Dr (w0 : World) (g : Nat) (w : World) : Prop where
  src : Src w g
  gr : w0.grownBy w (some g)
namespace Dr
variable {w0 w w' : World} {g : Nat}
theorem refl (h : Src w g) : Dr w g w := ⟨h, World.grownBy.refl _ _⟩
theorem lt (h : Dr w0 g w) : g < w.heap.size := h.src.lt
theorem size (h : Dr w0 g w) : w0.heap.size ≤ w.heap.size := h.gr.size
theorem next (k : Dr w g w') (h : Dr w0 g w) : Dr w0 g w' := ⟨k.src, grown_tr h.gr k.gr⟩
theorem below (hb : Below w.heap.size w w') (h : Dr w0 g w) : Dr w0 g w' := ⟨h.src.below hb h.lt, grown_tr h.gr (grown_of_below hb _)⟩
theorem alloc (h : Dr w0 g w) (o : Obj) : Dr w0 g (w.alloc o) := h.below ((Below.refl _ _).alloc (Nat.le_refl _) _)
theorem drewN (h : Dr w0 g w) (k : Nat) : Dr w0 g (w.drewN k) := ⟨h.src, ⟨h.gr.os, h.gr.tape, h.gr.output, h.gr.size, h.gr.block⟩⟩
theorem drew (h : Dr w0 g w) : Dr w0 g w.drew := ⟨h.src, ⟨h.gr.os, h.gr.tape, h.gr.output, h.gr.size, h.gr.block⟩⟩
/-- an own row is written, or grown -/
theorem own {row : Option Nat} (h : Dr w0 g w) (hg : w.grownBy w' row) (hr : ∀ j, row = some j → w0.heap.size ≤ j) (hl : g < w0.heap.size) : Dr w0 g w' := by
  have hb : Below w0.heap.size w w' := (Below.refl _ _).grown hg h.size hr
  exact ⟨h.src.below hb hl, World.grownBy.andThen h.gr hg (fun j e => .inl (hr j e))⟩
theorem set (h : Dr w0 g w) {p : Addr} (hp : w0.heap.size ≤ p.block) (hl : g < w0.heap.size) (v : Value) : Dr w0 g (w.setCell p v) := by
  have hb : Below w0.heap.size w (w.setCell p v) := (Below.refl _ _).setCell hp v
  exact ⟨h.src.below hb hl, World.grownBy.andThen (row' := some p.block) h.gr (grown_set _ _ _) (fun j e => .inl (by cases e; exact hp))⟩
theorem app {T : TypeId} {A : Option Addr} {n c : Nat} {zs : List Int} (h : Dr w0 g w) (hown : OwnI T w w0.heap.size A n c zs) (hg : w.grownBy w' (Value.slice A n c).ownBlock) (hl : g < w0.heap.size) : Dr w0 g w' :=
  h.own hg (fun j e => (own_row hown j e).1) hl
/-- at the law's level: behind l01From -/
theorem top {W : World} (h : Dr w0 g w) (hb : Below W.heap.size W w0) (hg : W.heap.size ≤ g) : Below W.heap.size W w :=
  hb.grown h.gr hb.size (fun j e => by cases e; exact hg)
end Dr
section
variable {T : TypeId} {w w' : World} {B n c g : Nat} {A : Option Addr} {zs : List Int}
theorem OwnI.grownOther {row : Option Nat} (h : OwnI T w B A n c zs) (hg : w.grownBy w' row) (hB : ∀ j, row = some j → j < B) : OwnI T w' B A n c zs :=
  h.kept hg (fun b o e hro => by
    subst e
    have := (own_row h b rfl).1
    have := hB b hro.symm
    omega)
theorem OwnI.dr (h : OwnI T w B A n c zs) (d : Dr w g w') (hB : g < B) : OwnI T w' B A n c zs := h.grownOther d.gr (fun j e => by cases e; exact hB)
end
section
variable {α : Type} {enc : α → List Value} {sz : Nat} {T : TypeId} {w w' : World} {B n c g : Nat} {A : Option Addr} {zs : List α}
theorem OwnE.grownOther {row : Option Nat} (h : OwnE enc sz T w B A n c zs) (hg : w.grownBy w' row) (hB : ∀ j, row = some j → j < B) : OwnE enc sz T w' B A n c zs :=
  h.kept hg (by
    rcases hv : (Value.slice A n c).ownBlock with _ | b
    · exact .inl rfl
    · refine .inr fun e => ?_
      have := (h.row b hv).1
      have := hB b e.symm
      omega)
theorem OwnE.dr (h : OwnE enc sz T w B A n c zs) (d : Dr w g w') (hB : g < B) : OwnE enc sz T w' B A n c zs := h.grownOther d.gr (fun j e => by cases e; exact hB)
end
/-- all of a few written numbers, behind a draw -/
theorem lit_cells {w w' : World} {g : Nat} {L : List Int} {t : TypeId} (hg : (w.alloc (.cells (L.map (Value.int .i64)).toArray t)).grownBy w' (some g)) (hl : g < w.heap.size) {j : Nat} {u : Int} (hu : L[j]? = some u) :
    w'.cell? ⟨w.heap.size, j, none⟩ = some (.int .i64 u) := by
  refine World.grownBy.cell hg ?_ (fun e => by injection e with e; dsimp only at e; omega)
  have hx' := new_heap w (.cells (L.map (Value.int .i64)).toArray t)
  unfold World.cell?
  rw [hx']
  simp [hu]
/-- one of a few written numbers, picked by a draw -/
theorem pick_cell {w w' : World} {g x : Nat} {L : List Int} {t : TypeId} (hg : (w.alloc (.cells (L.map (Value.int .i64)).toArray t)).grownBy w' (some g)) (hl : g < w.heap.size) (hx : x < L.length) :
    ∃ v, v ∈ L ∧ w'.cell? ⟨w.heap.size, x, none⟩ = some (.int .i64 v) := by
  refine ⟨gi L x, mem_gi hx, World.grownBy.cell hg ?_ (fun e => by injection e with e; dsimp only at e; omega)⟩
  have hx' := new_heap w (.cells (L.map (Value.int .i64)).toArray t)
  unfold World.cell?
  rw [hx']
  simp [hx, gi]

theorem mod_out {x n : Int} (hn : 1 < n) : ∃ q : Nat, x % n = (q : Int) ∧ ((q : Int) < n ∨ q = 0) := by
  have h1 := Int.emod_nonneg x (b := n) (by omega)
  have h2 := Int.emod_lt_of_pos x (b := n) (by omega)
  exact ⟨(x % n).toNat, by omega, .inl (by omega)⟩

set_option maxHeartbeats 4000000 in
theorem next_any (g : Nat) (n : Int) (w : World) (h : Src w g) :
    Calls Tryz.prog 42 #[.pointer (some ⟨g, 0, none⟩), .int .i64 n] w fun e w' => ∃ x : Nat, e = .returned (.int .i64 x) ∧ ((x : Int) < n ∨ x = 0) ∧ Dr w g w' := by
  by_cases hn : n ≤ 1
  · go_enter Tryz.func42, Tryz.ntmps42
    go_wp2
    go_ret
    exact ⟨0, rfl, .inr rfl, Dr.refl h⟩
  · obtain ⟨A, nc, cc, bs, k, z, hb, hr, hk, hnc, hz0, hz1⟩ := h
    have c0 := hb.c0
    have c1 := hb.c1
    have c2 := hb.c2
    have f1 := hb.free 1
    have f2 := hb.free 2
    go_enter Tryz.func42, Tryz.ntmps42
    go_upto_region 4 with fail
    refine wp_forget (fun w' => ∃ z' : Int, Blk3 w' g 76 (.slice A nc cc) (.int .i64 k) (.int .i64 z') ∧ 0 ≤ z' ∧ z' < 2147483647 ∧ w.grownBy w' (some g)) ⟨_, hb.set2 _, by omega, by omega, grown_set _ _ _⟩ ?_
    clear c0 c1 c2 f1 f2 hb
    rintro w1 ⟨z', hb, hz0', hz1', hg1⟩
    have c0 := hb.c0
    have c1 := hb.c1
    have c2 := hb.c2
    have f1 := hb.free 1
    by_cases hlt : k < nc
    · obtain ⟨b, o, rfl, hbg, hc⟩ := (hr.grown hg1).get (by omega)
      have hb0 := hr.byte hlt
      have hcell := hc k hlt
      have hne : ¬ b = g := by omega
      clear hc
      have fin : ∀ m, Dr w g ((w1.drewN m).setCell ⟨g, 1, none⟩ (.int .i64 (↑k + 1))) := fun m => ⟨⟨some ⟨b, o, none⟩, nc, cc, bs, k + 1, z', by simpa using (hb.drewN m).set1 (.int .i64 (↑k + 1)), (hr.grown (grown_dN hg1 m)).grown (grown_set _ _ _), by omega, hnc, hz0', hz1'⟩, grown_tr (grown_dN hg1 m) (grown_set _ _ _)⟩
      by_cases h256 : n ≤ 256
      · by_cases hodd : (k + 1) % 2 = 0
        · have ho : (((k : Int) + 1) % 2 == 0) = true := by simp; omega
          go_wp2
          go_quiet (fail)
          go_wp2
          go_quiet (fail)
          go_wp2
          go_quiet (fail)
          go_wp2
          obtain ⟨q, hq, hq2⟩ := mod_out (x := gi bs k) (n := n) (by omega)
          go_ret
          exact ⟨q, ret_int hq, hq2, (fin _).drewN _⟩
        · have ho : (((k : Int) + 1) % 2 == 0) = false := by simp; omega
          go_wp2
          go_quiet (fail)
          go_wp2
          go_quiet (fail)
          go_wp2
          obtain ⟨q, hq, hq2⟩ := mod_out (x := z' / 23 + gi bs k) (n := n) (by omega)
          go_ret
          exact ⟨q, ret_int hq, hq2, fin _⟩
      · go_wp2
        go_quiet (fail)
        go_wp2
        go_quiet (fail)
        go_wp2
        obtain ⟨q, hq, hq2⟩ := mod_out (x := z' / 23 + gi bs k) (n := n) (by omega)
        go_ret
        exact ⟨q, ret_int hq, hq2, fin _⟩
    · go_wp2
      go_quiet (fail)
      go_wp2
      obtain ⟨q, hq, hq2⟩ := mod_out (x := z' / 23) (n := n) (by omega)
      go_ret
      exact ⟨q, ret_int hq, hq2, ⟨⟨A, nc, cc, bs, k, z', hb.drewN _, hr.grown (grown_dN hg1 _), hk, hnc, hz0', hz1'⟩, grown_dN hg1 _⟩⟩
end Go.Proofs.YtojmikalnalfbaaGreatDoor

namespace Go.Proofs.YtojmikalnalfbaaGreatDoor
open Go.RowKit

set_option maxHeartbeats 4000000 in
theorem from_any (A : Option Addr) (n c : Nat) (bs : List Int) (w : World) (h : RB w w.heap.size A n bs) (hn : n ≤ 1099511627776) :
    Calls Tryz.prog 30 #[.slice A n c] w fun e w' => ∃ g, e = .returned (.pointer (some ⟨g, 0, none⟩)) ∧ Src w' g ∧ w.heap.size ≤ g ∧ Below w.heap.size w w' := by
  go_enter Tryz.func30, Tryz.ntmps30
  go_wp2
  go_loopw [4] (fun i wr => ∃ (k : Nat) (z : Int), k ≤ n ∧ i = .int .i64 k ∧ Blk3 wr w.heap.size 76 (.slice A n c) (.int .i64 (0 : Nat)) (.int .i64 z) ∧ 0 ≤ z ∧ z < 2147483647 ∧ Below w.heap.size w wr) (fun i _ => n - (intOf i).toNat)
  case atStart => exact ⟨0, 40009, Nat.zero_le _, rfl, Blk3.new w _ _ _ _, by omega, by omega, below_alloc (Below.refl _ _) (Nat.le_refl _) _⟩
  case round =>
    obtain ⟨k, z, hk, rfl, hblk, hz0, hz1, hb⟩ := hrel
    have c2 := hblk.c2
    have f2 := hblk.free 2
    by_cases hlt : k < n
    · by_cases h64 : k < 64
      · obtain ⟨b, o, rfl, hbg, hc⟩ := (h.below hb (Nat.le_refl _)).get (by omega)
        have hb0 := h.byte hlt
        have hcell := hc k hlt
        have hne : ¬ b = w.heap.size := by omega
        clear hc
        go_wp2
        go_region
        all_goals
          go_wp2
          go_roundw
          case rel => exact ⟨k + 1, _, by omega, by go_num, (hblk.drewN _).set2 _, by omega, by omega, (below_drewN hb _).setCell (Nat.le_refl _) _⟩
          case measure => simp [intOf]; omega
      · go_wp2
        go_ret
        exact ⟨w.heap.size, rfl, ⟨A, n, c, bs, 0, z, hblk, (h.below hb (Nat.le_refl _)), Nat.zero_le _, hn, hz0, hz1⟩, Nat.le_refl _, hb⟩
    · go_wp2
      go_ret
      exact ⟨w.heap.size, rfl, ⟨A, n, c, bs, 0, z, hblk, (h.below hb (Nat.le_refl _)), Nat.zero_le _, hn, hz0, hz1⟩, Nat.le_refl _, hb⟩

theorem vint {a b : Int} (h : a = b) : Value.int .i64 a = Value.int .i64 b := by rw [h]
/-- a drawn list of at most N numbers -/
def DrI (w : World) (g N : Nat) (e : Ending) (w' : World) : Prop :=
  ∃ A n c zs, e = .returned (.slice A n c) ∧ OwnI 2 w' w.heap.size A n c zs ∧ n ≤ N ∧ Dr w g w'

set_option maxHeartbeats 4000000 in
theorem drawBits_any (g : Nat) (most : Nat) (w : World) (h : Src w g) (hm : most ≤ 4096) :
    Calls Tryz.prog 31 #[.pointer (some ⟨g, 0, none⟩), .int .i64 most] w (DrI w g 8200) := by
  have hl := h.lt
  go_enter Tryz.func31, Tryz.ntmps31
  go_wp2_with fail
  refine (next_any g _ _ ((Dr.refl h).alloc _).src).mono ?_
  rintro e w1 ⟨x, rfl, hx, d1⟩
  have hown1 := (OwnI.empty (T := 2) w (base := w.heap.size) (Nat.le_refl _)).dr d1 hl
  have d1' := d1.next ((Dr.refl h).alloc _)
  clear d1
  go_wp2_with fail
  go_loopw [5, 6] (fun o i wr => ∃ (m q : Nat) (A' : Option Addr) (c' : Nat) (zs : List Int), m + q ≤ 4097 ∧ o = .slice A' m c' ∧ i = .int .i64 q ∧ OwnI 2 wr w.heap.size A' m c' zs ∧ Dr w g wr) (fun _ i _ => (intOf i).toNat)
  case atStart => exact ⟨0, x, _, _, _, by omega, rfl, rfl, hown1, d1'⟩
  case round =>
    obtain ⟨m, q, A', c', zs, hmq, rfl, rfl, hown, d⟩ := hrel
    by_cases hq : 0 < q
    · go_wp2_with fail
      refine (next_any g _ _ d.src).mono ?_
      rintro e w2 ⟨y, rfl, hy, d2⟩
      have hown2 := hown.dr d2 hl
      have d2' := d2.next d
      go_wp2_with (at_builtin; refine wpl_appI _ _ Tryz.underlying24 infoInt rfl _ _ rfl w.heap.size _ m _ _ rfl hown2 y rfl (by omega) d2'.size ?_; intro A3 c3 w3 hown3 hB3 hg3)
      go_roundw
      case rel => exact ⟨m + 1, q - 1, A3, c3, _, by omega, rfl, by congr 1; omega, hown3, d2'.app hown2 hg3 hl⟩
      case measure => simp [intOf]; omega
    · obtain rfl : q = 0 := by omega
      go_wp2_with fail
      refine (next_any g _ _ d.src).mono ?_
      rintro e w2 ⟨y, rfl, hy, d2⟩
      have hown2 := hown.dr d2 hl
      have d2' := d2.next d
      by_cases h0 : y = 0
      · subst h0
        go_wp2_with fail
        refine (next_any g _ _ (d2'.alloc _).src).mono ?_
        rintro e w3 ⟨v, rfl, hv, d3⟩
        obtain ⟨u, _, hc⟩ := pick_cell (L := [2, -1]) d3.gr d2'.lt (x := v) (by simp; omega)
        have hown3 := (hown2.alloc _).dr d3 hl
        have d3' := d3.next (d2'.alloc _)
        have hv2 : v < 2 := by omega
        go_wp2_with (at_builtin; refine wpl_appI _ _ Tryz.underlying24 infoInt rfl _ _ rfl w.heap.size _ m _ _ rfl hown3 u rfl (by omega) d3'.size ?_; intro A4 c4 w4 hown4 hB4 hg4)
        go_ret
        exact ⟨A4, m + 1, c4, _, rfl, hown4, by omega, d3'.app hown3 hg4 hl⟩
      · have b0 : ((y : Int) == 0) = false := by simp; omega
        by_cases h1 : y = 1
        · subst h1
          go_wp2_with fail
          refine (next_any g _ _ d2'.src).mono ?_
          rintro e w3 ⟨v, rfl, hv, d3⟩
          have hv2 : v < 3 := by omega
          have d3' := d3.next d2'
          go_wp2_with (at_make; refine wpl_make _ Tryz.underlying24 infoInt rfl _ _ rfl (8191 + v) (vint (by omega)) (vint (by omega)) (by omega) ?_; intro w4 hown4 hg4)
          go_ret
          exact ⟨_, 8191 + v, _, _, rfl, hown4.weaken d3'.size, by omega, d3'.own hg4 (fun j e => by cases e) hl⟩
        · have b1 : ((y : Int) == 1) = false := by simp; omega
          go_wp2
          go_ret
          exact ⟨A', m, c', zs, rfl, hown2, by omega, d2'⟩
end Go.Proofs.YtojmikalnalfbaaGreatDoor

namespace Go.Proofs.YtojmikalnalfbaaGreatDoor
open Go.RowKit

theorem Blk4.dr {w w' : World} {b g : Nat} {t : TypeId} {u0 u1 u2 u3 : Value} (h : Blk4 w b t u0 u1 u2 u3) (d : Dr w g w') (hne : g ≠ b) : Blk4 w' b t u0 u1 u2 u3 :=
  (d.gr.block b h.lt (fun e => by injection e with e; exact hne e.symm)).trans h
theorem Blk4.other {w : World} {b : Nat} {t : TypeId} {u0 u1 u2 u3 : Value} (h : Blk4 w b t u0 u1 u2 u3) {p : Addr} (hp : p.block ≠ b) (u : Value) : Blk4 (w.setCell p u) b t u0 u1 u2 u3 := by
  unfold Blk4 at h ⊢
  show (w.heap.modify p.block _)[b]? = _
  rw [Array.getElem?_modify, if_neg hp]; exact h
theorem Blk4.free {w : World} {b : Nat} {t : TypeId} {u0 u1 u2 u3 : Value} (h : Blk4 w b t u0 u1 u2 u3) (j : Nat) : w.frozen? ⟨b, j, none⟩ = false := by unfold Blk4 at h; simp [World.frozen?, h]

set_option maxHeartbeats 1000000 in
theorem fields_any (k : Int) (w : World) :
    Calls Tryz.prog 48 #[.int .i64 k] w fun e w' => e = .returned (.tuple #[.bool (hasLen k), .bool (hasVal k)]) ∧ w = w' := by
  rcases (show k = 2 ∨ k = 3 ∨ k = 4 ∨ k = 6 ∨ ((k == 2) = false ∧ (k == 3) = false ∧ (k == 4) = false ∧ (k == 6) = false ∧ hasLen k = false ∧ hasVal k = false) by
    by_cases h2 : k = 2
    · exact .inl h2
    by_cases h3 : k = 3
    · exact .inr (.inl h3)
    by_cases h4 : k = 4
    · exact .inr (.inr (.inl h4))
    by_cases h6 : k = 6
    · exact .inr (.inr (.inr (.inl h6)))
    exact .inr (.inr (.inr (.inr (by simp [hasLen, hasVal, h2, h3, h4, h6]))))) with rfl | rfl | rfl | rfl | ⟨b2, b3, b4, b6, hl, hv⟩
  case inr.inr.inr.inr =>
    have HL := Lib.hid hl
    have HV := Lib.hid hv
    clear hl hv
    go_enter Tryz.func48, Tryz.ntmps48
    go_wp2
    go_ret2
    exact ⟨by rw [HL.out, HV.out]; rfl, rfl⟩
  all_goals
    go_enter Tryz.func48, Tryz.ntmps48
    go_wp2
    go_ret2
    exact ⟨rfl, rfl⟩

/-- a drawn fault -/
def DrF (w : World) (g : Nat) (e : Ending) (w' : World) : Prop :=
  ∃ f : Flt, e = .returned (.agg #[.int .i64 f.kd, .int .i64 f.pos, .int .i64 f.len, .int .i64 f.val]) ∧ Dr w g w'

set_option maxRecDepth 20000 in
set_option maxHeartbeats 8000000 in
theorem drawFaultAt_any (g n : Nat) (w : World) (h : Src w g) (hn : n ≤ 1099511627776) :
    Calls Tryz.prog 56 #[.pointer (some ⟨g, 0, none⟩), .int .i64 n] w (DrF w g) := by
  have hl := h.lt
  have hne : g ≠ w.heap.size := by omega
  go_enter Tryz.func56, Tryz.ntmps56
  go_wp2_with fail
  refine (next_any g _ _ ((Dr.refl h).alloc _).src).mono ?_
  rintro e w1 ⟨x, rfl, hx, d1⟩
  have K1 := Lib.hid ((Blk4.new w _ _ _ _ _).dr d1 hne)
  have D1 := Lib.hid (d1.next ((Dr.refl h).alloc _))
  clear d1
  go_wp2_with fail
  refine (next_any g _ _ D1.out.src).mono ?_
  rintro e w2 ⟨y, rfl, hy, d2⟩
  have K2 := Lib.hid (K1.out.dr d2 hne)
  have D2 := Lib.hid (d2.next D1.out)
  have hg2 := D2.out.lt
  have hk2 := K2.out.lt
  have hne2 : g ≠ w2.heap.size := by omega
  have hne3 : ¬ w.heap.size = w2.heap.size := by omega
  clear d2 hx hy
  generalize (y : Int) = Y
  by_cases hy : Y < 8192
  · go_wp2_with fail
    refine (fields_any _ _).mono ?_
    rintro e w3 ⟨rfl, rfl⟩
    rcases bool_cases (hasLen (1 + x)) with hL | hL <;> rcases bool_cases (hasVal (1 + x)) with hV | hV <;> rw [hL, hV] <;> clear hL hV
    · go_wp2_with fail
      refine (next_any g _ _ (D2.out.alloc _).src).mono ?_
      rintro e w3 ⟨z3, rfl, hz3, d3⟩
      have F3 := Lib.hid ((Blk4.new w2 _ _ _ _ _).dr d3 hne2)
      have K3 := Lib.hid ((K2.out.alloc _).dr d3 hne)
      have D3 := Lib.hid (d3.next (D2.out.alloc _))
      have hz3b : z3 ≤ 12 := by omega
      clear d3 hz3
      have f0 := F3.out.c0; have f1 := F3.out.c1; have f2 := F3.out.c2; have f3 := F3.out.c3; have ff := F3.out.free
      go_wp2_with fail
      clear f0 f1 f2 f3 ff
      have D3s := Lib.hid (D3.out.set (p := ⟨w2.heap.size, 2, none⟩) (Nat.le_of_lt hk2) hl (.int .i64 (1 + z3)))
      have F3s := Lib.hid (show Blk4 (w3.setCell ⟨w2.heap.size, 2, none⟩ (.int .i64 (1 + z3))) w2.heap.size _ _ _ _ _ from F3.out.set 2 (.int .i64 (1 + z3)))
      have K3s := Lib.hid (K3.out.other (p := ⟨w2.heap.size, 2, none⟩) (fun e => hne3 e.symm) (.int .i64 (1 + z3)))
      refine (next_any g _ _ D3s.out.src).mono ?_
      rintro e w4 ⟨z4, rfl, hz4, d4⟩
      have F4 := Lib.hid (F3s.out.dr d4 hne2)
      have K4 := Lib.hid (K3s.out.dr d4 hne)
      have D4 := Lib.hid (d4.next D3s.out)
      clear d4 hz4
      have f0 := F4.out.c0; have f1 := F4.out.c1; have f2 := F4.out.c2; have f3 := F4.out.c3; have ff := F4.out.free
      have k0 := K4.out.c0; have k1 := K4.out.c1; have k2 := K4.out.c2; have k3 := K4.out.c3; have fk := K4.out.free
      go_wp2_with fail
      refine bp_forget (fun w' => Blk4 w' w.heap.size 26 (.int .i64 (1 + (x : Int))) (.int .i64 Y) (.int .i64 (1 + (z3 : Int))) (.int .i64 (z4 : Int)) ∧ Dr w g w') ?_ ?_
      · have e := ((K4.out.other (p := ⟨w2.heap.size, 3, none⟩) (fun e => hne3 e.symm) (.int .i64 (z4 : Int)))).all (x0 := .int .i64 (1 + (x : Int))) (x1 := .int .i64 Y) (x2 := .int .i64 (1 + (z3 : Int))) (x3 := .int .i64 (z4 : Int))
        exact ⟨e, (((((D4.out.set (p := ⟨w2.heap.size, 3, none⟩) (Nat.le_of_lt hk2) hl _).set (p := ⟨w.heap.size, 0, none⟩) (Nat.le_refl _) hl _).set (p := ⟨w.heap.size, 1, none⟩) (Nat.le_refl _) hl _).set (p := ⟨w.heap.size, 2, none⟩) (Nat.le_refl _) hl _).set (p := ⟨w.heap.size, 3, none⟩) (Nat.le_refl _) hl _)⟩
      rintro wz ⟨kz, dz⟩
      have q0 := kz.c0
      have q1 := kz.c1
      have q2 := kz.c2
      have q3 := kz.c3
      exact bodyPost_ret (v := .agg #[.int .i64 (1 + (x : Int)), .int .i64 Y, .int .i64 (1 + (z3 : Int)), .int .i64 (z4 : Int)]) (by simp [results, Tryz.results56, go_sem, q0, q1, q2, q3]) rfl ⟨⟨1 + (x : Int), Y, (1 + (z3 : Int)), (z4 : Int)⟩, rfl, dz⟩
    · go_wp2_with fail
      refine (next_any g _ _ (D2.out.alloc _).src).mono ?_
      rintro e w3 ⟨z3, rfl, hz3, d3⟩
      have F3 := Lib.hid ((Blk4.new w2 _ _ _ _ _).dr d3 hne2)
      have K3 := Lib.hid ((K2.out.alloc _).dr d3 hne)
      have D3 := Lib.hid (d3.next (D2.out.alloc _))
      have hz3b : z3 ≤ 12 := by omega
      clear d3 hz3
      have f0 := F3.out.c0; have f1 := F3.out.c1; have f2 := F3.out.c2; have f3 := F3.out.c3; have ff := F3.out.free
      have k0 := K3.out.c0; have k1 := K3.out.c1; have k2 := K3.out.c2; have k3 := K3.out.c3; have fk := K3.out.free
      go_wp2_with fail
      refine bp_forget (fun w' => Blk4 w' w.heap.size 26 (.int .i64 (1 + (x : Int))) (.int .i64 Y) (.int .i64 (1 + (z3 : Int))) (.int .i64 0) ∧ Dr w g w') ?_ ?_
      · have e := ((K3.out.other (p := ⟨w2.heap.size, 2, none⟩) (fun e => hne3 e.symm) (.int .i64 (1 + (z3 : Int))))).all (x0 := .int .i64 (1 + (x : Int))) (x1 := .int .i64 Y) (x2 := .int .i64 (1 + (z3 : Int))) (x3 := .int .i64 0)
        exact ⟨e, (((((D3.out.set (p := ⟨w2.heap.size, 2, none⟩) (Nat.le_of_lt hk2) hl _).set (p := ⟨w.heap.size, 0, none⟩) (Nat.le_refl _) hl _).set (p := ⟨w.heap.size, 1, none⟩) (Nat.le_refl _) hl _).set (p := ⟨w.heap.size, 2, none⟩) (Nat.le_refl _) hl _).set (p := ⟨w.heap.size, 3, none⟩) (Nat.le_refl _) hl _)⟩
      rintro wz ⟨kz, dz⟩
      have q0 := kz.c0
      have q1 := kz.c1
      have q2 := kz.c2
      have q3 := kz.c3
      exact bodyPost_ret (v := .agg #[.int .i64 (1 + (x : Int)), .int .i64 Y, .int .i64 (1 + (z3 : Int)), .int .i64 0]) (by simp [results, Tryz.results56, go_sem, q0, q1, q2, q3]) rfl ⟨⟨1 + (x : Int), Y, (1 + (z3 : Int)), 0⟩, rfl, dz⟩
    · go_wp2_with fail
      refine (next_any g _ _ (D2.out.alloc _).src).mono ?_
      rintro e w3 ⟨z3, rfl, hz3, d3⟩
      have F3 := Lib.hid ((Blk4.new w2 _ _ _ _ _).dr d3 hne2)
      have K3 := Lib.hid ((K2.out.alloc _).dr d3 hne)
      have D3 := Lib.hid (d3.next (D2.out.alloc _))
      have hz3b : z3 ≤ 12 := by omega
      clear d3 hz3
      have f0 := F3.out.c0; have f1 := F3.out.c1; have f2 := F3.out.c2; have f3 := F3.out.c3; have ff := F3.out.free
      have k0 := K3.out.c0; have k1 := K3.out.c1; have k2 := K3.out.c2; have k3 := K3.out.c3; have fk := K3.out.free
      go_wp2_with fail
      refine bp_forget (fun w' => Blk4 w' w.heap.size 26 (.int .i64 (1 + (x : Int))) (.int .i64 Y) (.int .i64 0) (.int .i64 (z3 : Int)) ∧ Dr w g w') ?_ ?_
      · have e := ((K3.out.other (p := ⟨w2.heap.size, 3, none⟩) (fun e => hne3 e.symm) (.int .i64 (z3 : Int)))).all (x0 := .int .i64 (1 + (x : Int))) (x1 := .int .i64 Y) (x2 := .int .i64 0) (x3 := .int .i64 (z3 : Int))
        exact ⟨e, (((((D3.out.set (p := ⟨w2.heap.size, 3, none⟩) (Nat.le_of_lt hk2) hl _).set (p := ⟨w.heap.size, 0, none⟩) (Nat.le_refl _) hl _).set (p := ⟨w.heap.size, 1, none⟩) (Nat.le_refl _) hl _).set (p := ⟨w.heap.size, 2, none⟩) (Nat.le_refl _) hl _).set (p := ⟨w.heap.size, 3, none⟩) (Nat.le_refl _) hl _)⟩
      rintro wz ⟨kz, dz⟩
      have q0 := kz.c0
      have q1 := kz.c1
      have q2 := kz.c2
      have q3 := kz.c3
      exact bodyPost_ret (v := .agg #[.int .i64 (1 + (x : Int)), .int .i64 Y, .int .i64 0, .int .i64 (z3 : Int)]) (by simp [results, Tryz.results56, go_sem, q0, q1, q2, q3]) rfl ⟨⟨1 + (x : Int), Y, 0, (z3 : Int)⟩, rfl, dz⟩
    · have k0 := K2.out.c0; have k1 := K2.out.c1; have k2 := K2.out.c2; have k3 := K2.out.c3; have fk := K2.out.free
      go_wp2_with fail
      refine bp_forget (fun w' => Blk4 w' w.heap.size 26 (.int .i64 (1 + (x : Int))) (.int .i64 Y) (.int .i64 0) (.int .i64 0) ∧ Dr w g w') ?_ ?_
      · have e := ((K2.out).all (x0 := .int .i64 (1 + (x : Int))) (x1 := .int .i64 Y) (x2 := .int .i64 0) (x3 := .int .i64 0)).alloc (.cells #[.int .i64 (1 + (x : Int)), .int .i64 Y, .int .i64 0, .int .i64 0] 26)
        exact ⟨e, (((((D2.out.set (p := ⟨w.heap.size, 0, none⟩) (Nat.le_refl _) hl _).set (p := ⟨w.heap.size, 1, none⟩) (Nat.le_refl _) hl _).set (p := ⟨w.heap.size, 2, none⟩) (Nat.le_refl _) hl _).set (p := ⟨w.heap.size, 3, none⟩) (Nat.le_refl _) hl _).alloc _)⟩
      rintro wz ⟨kz, dz⟩
      have q0 := kz.c0
      have q1 := kz.c1
      have q2 := kz.c2
      have q3 := kz.c3
      exact bodyPost_ret (v := .agg #[.int .i64 (1 + (x : Int)), .int .i64 Y, .int .i64 0, .int .i64 0]) (by simp [results, Tryz.results56, go_sem, q0, q1, q2, q3]) rfl ⟨⟨1 + (x : Int), Y, 0, 0⟩, rfl, dz⟩
  · go_wp2_with fail
    refine (fields_any _ _).mono ?_
    rintro e w3 ⟨rfl, rfl⟩
    rcases bool_cases (hasLen (1 + x)) with hL | hL <;> rcases bool_cases (hasVal (1 + x)) with hV | hV <;> rw [hL, hV] <;> clear hL hV
    · go_wp2_with fail
      refine (next_any g _ _ (D2.out.alloc _).src).mono ?_
      rintro e w3 ⟨z3, rfl, hz3, d3⟩
      have F3 := Lib.hid ((Blk4.new w2 _ _ _ _ _).dr d3 hne2)
      have K3 := Lib.hid ((K2.out.alloc _).dr d3 hne)
      have D3 := Lib.hid (d3.next (D2.out.alloc _))
      have hz3b : z3 ≤ 12 := by omega
      clear d3 hz3
      have f0 := F3.out.c0; have f1 := F3.out.c1; have f2 := F3.out.c2; have f3 := F3.out.c3; have ff := F3.out.free
      go_wp2_with fail
      clear f0 f1 f2 f3 ff
      have D3s := Lib.hid (D3.out.set (p := ⟨w2.heap.size, 2, none⟩) (Nat.le_of_lt hk2) hl (.int .i64 (1 + z3)))
      have F3s := Lib.hid (show Blk4 (w3.setCell ⟨w2.heap.size, 2, none⟩ (.int .i64 (1 + z3))) w2.heap.size _ _ _ _ _ from F3.out.set 2 (.int .i64 (1 + z3)))
      have K3s := Lib.hid (K3.out.other (p := ⟨w2.heap.size, 2, none⟩) (fun e => hne3 e.symm) (.int .i64 (1 + z3)))
      refine (next_any g _ _ D3s.out.src).mono ?_
      rintro e w4 ⟨z4, rfl, hz4, d4⟩
      have F4 := Lib.hid (F3s.out.dr d4 hne2)
      have K4 := Lib.hid (K3s.out.dr d4 hne)
      have D4 := Lib.hid (d4.next D3s.out)
      clear d4 hz4
      have f0 := F4.out.c0; have f1 := F4.out.c1; have f2 := F4.out.c2; have f3 := F4.out.c3; have ff := F4.out.free
      have k0 := K4.out.c0; have k1 := K4.out.c1; have k2 := K4.out.c2; have k3 := K4.out.c3; have fk := K4.out.free
      go_wp2_with fail
      refine bp_forget (fun w' => Blk4 w' w.heap.size 26 (.int .i64 (1 + (x : Int))) (.int .i64 8192) (.int .i64 (1 + (z3 : Int))) (.int .i64 (z4 : Int)) ∧ Dr w g w') ?_ ?_
      · have e := ((K4.out.other (p := ⟨w2.heap.size, 3, none⟩) (fun e => hne3 e.symm) (.int .i64 (z4 : Int)))).all (x0 := .int .i64 (1 + (x : Int))) (x1 := .int .i64 8192) (x2 := .int .i64 (1 + (z3 : Int))) (x3 := .int .i64 (z4 : Int))
        exact ⟨e, (((((D4.out.set (p := ⟨w2.heap.size, 3, none⟩) (Nat.le_of_lt hk2) hl _).set (p := ⟨w.heap.size, 0, none⟩) (Nat.le_refl _) hl _).set (p := ⟨w.heap.size, 1, none⟩) (Nat.le_refl _) hl _).set (p := ⟨w.heap.size, 2, none⟩) (Nat.le_refl _) hl _).set (p := ⟨w.heap.size, 3, none⟩) (Nat.le_refl _) hl _)⟩
      rintro wz ⟨kz, dz⟩
      have q0 := kz.c0
      have q1 := kz.c1
      have q2 := kz.c2
      have q3 := kz.c3
      exact bodyPost_ret (v := .agg #[.int .i64 (1 + (x : Int)), .int .i64 8192, .int .i64 (1 + (z3 : Int)), .int .i64 (z4 : Int)]) (by simp [results, Tryz.results56, go_sem, q0, q1, q2, q3]) rfl ⟨⟨1 + (x : Int), 8192, (1 + (z3 : Int)), (z4 : Int)⟩, rfl, dz⟩
    · go_wp2_with fail
      refine (next_any g _ _ (D2.out.alloc _).src).mono ?_
      rintro e w3 ⟨z3, rfl, hz3, d3⟩
      have F3 := Lib.hid ((Blk4.new w2 _ _ _ _ _).dr d3 hne2)
      have K3 := Lib.hid ((K2.out.alloc _).dr d3 hne)
      have D3 := Lib.hid (d3.next (D2.out.alloc _))
      have hz3b : z3 ≤ 12 := by omega
      clear d3 hz3
      have f0 := F3.out.c0; have f1 := F3.out.c1; have f2 := F3.out.c2; have f3 := F3.out.c3; have ff := F3.out.free
      have k0 := K3.out.c0; have k1 := K3.out.c1; have k2 := K3.out.c2; have k3 := K3.out.c3; have fk := K3.out.free
      go_wp2_with fail
      refine bp_forget (fun w' => Blk4 w' w.heap.size 26 (.int .i64 (1 + (x : Int))) (.int .i64 8192) (.int .i64 (1 + (z3 : Int))) (.int .i64 0) ∧ Dr w g w') ?_ ?_
      · have e := ((K3.out.other (p := ⟨w2.heap.size, 2, none⟩) (fun e => hne3 e.symm) (.int .i64 (1 + (z3 : Int))))).all (x0 := .int .i64 (1 + (x : Int))) (x1 := .int .i64 8192) (x2 := .int .i64 (1 + (z3 : Int))) (x3 := .int .i64 0)
        exact ⟨e, (((((D3.out.set (p := ⟨w2.heap.size, 2, none⟩) (Nat.le_of_lt hk2) hl _).set (p := ⟨w.heap.size, 0, none⟩) (Nat.le_refl _) hl _).set (p := ⟨w.heap.size, 1, none⟩) (Nat.le_refl _) hl _).set (p := ⟨w.heap.size, 2, none⟩) (Nat.le_refl _) hl _).set (p := ⟨w.heap.size, 3, none⟩) (Nat.le_refl _) hl _)⟩
      rintro wz ⟨kz, dz⟩
      have q0 := kz.c0
      have q1 := kz.c1
      have q2 := kz.c2
      have q3 := kz.c3
      exact bodyPost_ret (v := .agg #[.int .i64 (1 + (x : Int)), .int .i64 8192, .int .i64 (1 + (z3 : Int)), .int .i64 0]) (by simp [results, Tryz.results56, go_sem, q0, q1, q2, q3]) rfl ⟨⟨1 + (x : Int), 8192, (1 + (z3 : Int)), 0⟩, rfl, dz⟩
    · go_wp2_with fail
      refine (next_any g _ _ (D2.out.alloc _).src).mono ?_
      rintro e w3 ⟨z3, rfl, hz3, d3⟩
      have F3 := Lib.hid ((Blk4.new w2 _ _ _ _ _).dr d3 hne2)
      have K3 := Lib.hid ((K2.out.alloc _).dr d3 hne)
      have D3 := Lib.hid (d3.next (D2.out.alloc _))
      have hz3b : z3 ≤ 12 := by omega
      clear d3 hz3
      have f0 := F3.out.c0; have f1 := F3.out.c1; have f2 := F3.out.c2; have f3 := F3.out.c3; have ff := F3.out.free
      have k0 := K3.out.c0; have k1 := K3.out.c1; have k2 := K3.out.c2; have k3 := K3.out.c3; have fk := K3.out.free
      go_wp2_with fail
      refine bp_forget (fun w' => Blk4 w' w.heap.size 26 (.int .i64 (1 + (x : Int))) (.int .i64 8192) (.int .i64 0) (.int .i64 (z3 : Int)) ∧ Dr w g w') ?_ ?_
      · have e := ((K3.out.other (p := ⟨w2.heap.size, 3, none⟩) (fun e => hne3 e.symm) (.int .i64 (z3 : Int)))).all (x0 := .int .i64 (1 + (x : Int))) (x1 := .int .i64 8192) (x2 := .int .i64 0) (x3 := .int .i64 (z3 : Int))
        exact ⟨e, (((((D3.out.set (p := ⟨w2.heap.size, 3, none⟩) (Nat.le_of_lt hk2) hl _).set (p := ⟨w.heap.size, 0, none⟩) (Nat.le_refl _) hl _).set (p := ⟨w.heap.size, 1, none⟩) (Nat.le_refl _) hl _).set (p := ⟨w.heap.size, 2, none⟩) (Nat.le_refl _) hl _).set (p := ⟨w.heap.size, 3, none⟩) (Nat.le_refl _) hl _)⟩
      rintro wz ⟨kz, dz⟩
      have q0 := kz.c0
      have q1 := kz.c1
      have q2 := kz.c2
      have q3 := kz.c3
      exact bodyPost_ret (v := .agg #[.int .i64 (1 + (x : Int)), .int .i64 8192, .int .i64 0, .int .i64 (z3 : Int)]) (by simp [results, Tryz.results56, go_sem, q0, q1, q2, q3]) rfl ⟨⟨1 + (x : Int), 8192, 0, (z3 : Int)⟩, rfl, dz⟩
    · have k0 := K2.out.c0; have k1 := K2.out.c1; have k2 := K2.out.c2; have k3 := K2.out.c3; have fk := K2.out.free
      go_wp2_with fail
      refine bp_forget (fun w' => Blk4 w' w.heap.size 26 (.int .i64 (1 + (x : Int))) (.int .i64 8192) (.int .i64 0) (.int .i64 0) ∧ Dr w g w') ?_ ?_
      · have e := ((K2.out).all (x0 := .int .i64 (1 + (x : Int))) (x1 := .int .i64 8192) (x2 := .int .i64 0) (x3 := .int .i64 0)).alloc (.cells #[.int .i64 (1 + (x : Int)), .int .i64 8192, .int .i64 0, .int .i64 0] 26)
        exact ⟨e, (((((D2.out.set (p := ⟨w.heap.size, 0, none⟩) (Nat.le_refl _) hl _).set (p := ⟨w.heap.size, 1, none⟩) (Nat.le_refl _) hl _).set (p := ⟨w.heap.size, 2, none⟩) (Nat.le_refl _) hl _).set (p := ⟨w.heap.size, 3, none⟩) (Nat.le_refl _) hl _).alloc _)⟩
      rintro wz ⟨kz, dz⟩
      have q0 := kz.c0
      have q1 := kz.c1
      have q2 := kz.c2
      have q3 := kz.c3
      exact bodyPost_ret (v := .agg #[.int .i64 (1 + (x : Int)), .int .i64 8192, .int .i64 0, .int .i64 0]) (by simp [results, Tryz.results56, go_sem, q0, q1, q2, q3]) rfl ⟨⟨1 + (x : Int), 8192, 0, 0⟩, rfl, dz⟩
end Go.Proofs.YtojmikalnalfbaaGreatDoor

namespace Go.Proofs.YtojmikalnalfbaaGreatDoor
open Go.RowKit

set_option maxRecDepth 20000 in
set_option maxHeartbeats 8000000 in
theorem drawFault_any (g n : Nat) (w : World) (h : Src w g) (hn : n ≤ 1099511627776) :
    Calls Tryz.prog 32 #[.pointer (some ⟨g, 0, none⟩), .int .i64 n] w (DrF w g) := by
  have hl := h.lt
  have hne : g ≠ w.heap.size := by omega
  go_enter Tryz.func32, Tryz.ntmps32
  go_wp2_with fail
  refine (drawFaultAt_any g n _ ((Dr.refl h).alloc _).src hn).mono ?_
  rintro e w1 ⟨⟨k, p, l, v⟩, rfl, d1⟩
  have K1 := Lib.hid ((Blk4.new w _ _ _ _ _).dr d1 hne)
  have D1 := Lib.hid (d1.next ((Dr.refl h).alloc _))
  have hg1 := D1.out.lt
  have hk1 := K1.out.lt
  have hne2 : g ≠ w1.heap.size := by omega
  have hne3 : ¬ w.heap.size = w1.heap.size := by omega
  clear d1
  dsimp only
  go_wp2_with fail
  refine (next_any g 30 _ (D1.out.alloc _).src).mono ?_
  rintro e w2 ⟨x, rfl, hx, d2⟩
  have F2 := Lib.hid ((Blk4.new w1 _ _ _ _ _).dr d2 hne2)
  have K2 := Lib.hid ((K1.out.alloc _).dr d2 hne)
  have D2 := Lib.hid (d2.next (D1.out.alloc _))
  have hg2 := D2.out.lt
  have hk2 := K2.out.lt
  have hf2 := F2.out.lt
  have hne4 : g ≠ w2.heap.size := by omega
  clear d2
  by_cases h0 : x = 0
  · subst h0
    go_wp2_with fail
    refine (next_any g 2 _ (D2.out.alloc _).src).mono ?_
    rintro e w3 ⟨y, rfl, hy, d3⟩
    obtain ⟨u, _, hc⟩ := pick_cell (L := [0, 7]) d3.gr D2.out.lt (x := y) (by simp; omega)
    have hy2 : y < 2 := by omega
    have F3 := Lib.hid ((F2.out.alloc _).dr d3 hne2)
    have K3 := Lib.hid ((K2.out.alloc _).dr d3 hne)
    have D3 := Lib.hid (d3.next (D2.out.alloc _))
    clear d3 hy hx
    have f0 := F3.out.c0; have f1 := F3.out.c1; have f2 := F3.out.c2; have f3 := F3.out.c3; have ff := F3.out.free
    have k0 := K3.out.c0; have k1 := K3.out.c1; have k2 := K3.out.c2; have k3 := K3.out.c3; have fk := K3.out.free
    go_wp2_with fail
    refine bp_forget (fun w' => Blk4 w' w.heap.size 26 (.int .i64 (u)) (.int .i64 (p)) (.int .i64 (l)) (.int .i64 (v)) ∧ Dr w g w') ?_ ?_
    · have e := (K3.out.other (p := ⟨w1.heap.size, 0, none⟩) (fun e => hne3 e.symm) (.int .i64 u)).all (x0 := .int .i64 (u)) (x1 := .int .i64 (p)) (x2 := .int .i64 (l)) (x3 := .int .i64 (v))
      exact ⟨e, (((((D3.out.set (p := ⟨w1.heap.size, 0, none⟩) (Nat.le_of_lt hk1) hl _).set (p := ⟨w.heap.size, 0, none⟩) (Nat.le_refl _) hl _).set (p := ⟨w.heap.size, 1, none⟩) (Nat.le_refl _) hl _).set (p := ⟨w.heap.size, 2, none⟩) (Nat.le_refl _) hl _).set (p := ⟨w.heap.size, 3, none⟩) (Nat.le_refl _) hl _)⟩
    rintro wz ⟨kz, dz⟩
    have q0 := kz.c0
    have q1 := kz.c1
    have q2 := kz.c2
    have q3 := kz.c3
    exact bodyPost_ret (v := .agg #[.int .i64 (u), .int .i64 (p), .int .i64 (l), .int .i64 (v)]) (by simp [results, Tryz.results32, go_sem, q0, q1, q2, q3]) rfl ⟨⟨u, p, l, v⟩, rfl, dz⟩
  have b0 : ((x : Int) == 0) = false := by simp; omega
  by_cases h1 : x = 1
  · subst h1
    go_wp2_with fail
    refine (next_any g 3 _ (D2.out.alloc _).src).mono ?_
    rintro e w3 ⟨y, rfl, hy, d3⟩
    obtain ⟨u, _, hc⟩ := pick_cell (L := [-1, 8192, 8193]) d3.gr D2.out.lt (x := y) (by simp; omega)
    have hy2 : y < 3 := by omega
    have F3 := Lib.hid ((F2.out.alloc _).dr d3 hne2)
    have K3 := Lib.hid ((K2.out.alloc _).dr d3 hne)
    have D3 := Lib.hid (d3.next (D2.out.alloc _))
    clear d3 hy hx
    have f0 := F3.out.c0; have f1 := F3.out.c1; have f2 := F3.out.c2; have f3 := F3.out.c3; have ff := F3.out.free
    have k0 := K3.out.c0; have k1 := K3.out.c1; have k2 := K3.out.c2; have k3 := K3.out.c3; have fk := K3.out.free
    go_wp2_with fail
    refine bp_forget (fun w' => Blk4 w' w.heap.size 26 (.int .i64 (k)) (.int .i64 (u)) (.int .i64 (l)) (.int .i64 (v)) ∧ Dr w g w') ?_ ?_
    · have e := (K3.out.other (p := ⟨w1.heap.size, 1, none⟩) (fun e => hne3 e.symm) (.int .i64 u)).all (x0 := .int .i64 (k)) (x1 := .int .i64 (u)) (x2 := .int .i64 (l)) (x3 := .int .i64 (v))
      exact ⟨e, (((((D3.out.set (p := ⟨w1.heap.size, 1, none⟩) (Nat.le_of_lt hk1) hl _).set (p := ⟨w.heap.size, 0, none⟩) (Nat.le_refl _) hl _).set (p := ⟨w.heap.size, 1, none⟩) (Nat.le_refl _) hl _).set (p := ⟨w.heap.size, 2, none⟩) (Nat.le_refl _) hl _).set (p := ⟨w.heap.size, 3, none⟩) (Nat.le_refl _) hl _)⟩
    rintro wz ⟨kz, dz⟩
    have q0 := kz.c0
    have q1 := kz.c1
    have q2 := kz.c2
    have q3 := kz.c3
    exact bodyPost_ret (v := .agg #[.int .i64 (k), .int .i64 (u), .int .i64 (l), .int .i64 (v)]) (by simp [results, Tryz.results32, go_sem, q0, q1, q2, q3]) rfl ⟨⟨k, u, l, v⟩, rfl, dz⟩
  have b1 : ((x : Int) == 1) = false := by simp; omega
  by_cases h2 : x = 2
  · subst h2
    go_wp2_with fail
    refine (next_any g 4 _ (D2.out.alloc _).src).mono ?_
    rintro e w3 ⟨y, rfl, hy, d3⟩
    obtain ⟨u, _, hc⟩ := pick_cell (L := [-1, 0, 8192, 8193]) d3.gr D2.out.lt (x := y) (by simp; omega)
    have hy2 : y < 4 := by omega
    have F3 := Lib.hid ((F2.out.alloc _).dr d3 hne2)
    have K3 := Lib.hid ((K2.out.alloc _).dr d3 hne)
    have D3 := Lib.hid (d3.next (D2.out.alloc _))
    clear d3 hy hx
    have f0 := F3.out.c0; have f1 := F3.out.c1; have f2 := F3.out.c2; have f3 := F3.out.c3; have ff := F3.out.free
    have k0 := K3.out.c0; have k1 := K3.out.c1; have k2 := K3.out.c2; have k3 := K3.out.c3; have fk := K3.out.free
    go_wp2_with fail
    refine bp_forget (fun w' => Blk4 w' w.heap.size 26 (.int .i64 (k)) (.int .i64 (p)) (.int .i64 (u)) (.int .i64 (v)) ∧ Dr w g w') ?_ ?_
    · have e := (K3.out.other (p := ⟨w1.heap.size, 2, none⟩) (fun e => hne3 e.symm) (.int .i64 u)).all (x0 := .int .i64 (k)) (x1 := .int .i64 (p)) (x2 := .int .i64 (u)) (x3 := .int .i64 (v))
      exact ⟨e, (((((D3.out.set (p := ⟨w1.heap.size, 2, none⟩) (Nat.le_of_lt hk1) hl _).set (p := ⟨w.heap.size, 0, none⟩) (Nat.le_refl _) hl _).set (p := ⟨w.heap.size, 1, none⟩) (Nat.le_refl _) hl _).set (p := ⟨w.heap.size, 2, none⟩) (Nat.le_refl _) hl _).set (p := ⟨w.heap.size, 3, none⟩) (Nat.le_refl _) hl _)⟩
    rintro wz ⟨kz, dz⟩
    have q0 := kz.c0
    have q1 := kz.c1
    have q2 := kz.c2
    have q3 := kz.c3
    exact bodyPost_ret (v := .agg #[.int .i64 (k), .int .i64 (p), .int .i64 (u), .int .i64 (v)]) (by simp [results, Tryz.results32, go_sem, q0, q1, q2, q3]) rfl ⟨⟨k, p, u, v⟩, rfl, dz⟩
  have b2 : ((x : Int) == 2) = false := by simp; omega
  by_cases h3 : x = 3
  · subst h3
    go_wp2_with fail
    refine (next_any g 3 _ (D2.out.alloc _).src).mono ?_
    rintro e w3 ⟨y, rfl, hy, d3⟩
    obtain ⟨u, _, hc⟩ := pick_cell (L := [-1, 1, 2]) d3.gr D2.out.lt (x := y) (by simp; omega)
    have hy2 : y < 3 := by omega
    have F3 := Lib.hid ((F2.out.alloc _).dr d3 hne2)
    have K3 := Lib.hid ((K2.out.alloc _).dr d3 hne)
    have D3 := Lib.hid (d3.next (D2.out.alloc _))
    clear d3 hy hx
    have f0 := F3.out.c0; have f1 := F3.out.c1; have f2 := F3.out.c2; have f3 := F3.out.c3; have ff := F3.out.free
    have k0 := K3.out.c0; have k1 := K3.out.c1; have k2 := K3.out.c2; have k3 := K3.out.c3; have fk := K3.out.free
    go_wp2_with fail
    refine bp_forget (fun w' => Blk4 w' w.heap.size 26 (.int .i64 (k)) (.int .i64 (p)) (.int .i64 (l)) (.int .i64 (u)) ∧ Dr w g w') ?_ ?_
    · have e := (K3.out.other (p := ⟨w1.heap.size, 3, none⟩) (fun e => hne3 e.symm) (.int .i64 u)).all (x0 := .int .i64 (k)) (x1 := .int .i64 (p)) (x2 := .int .i64 (l)) (x3 := .int .i64 (u))
      exact ⟨e, (((((D3.out.set (p := ⟨w1.heap.size, 3, none⟩) (Nat.le_of_lt hk1) hl _).set (p := ⟨w.heap.size, 0, none⟩) (Nat.le_refl _) hl _).set (p := ⟨w.heap.size, 1, none⟩) (Nat.le_refl _) hl _).set (p := ⟨w.heap.size, 2, none⟩) (Nat.le_refl _) hl _).set (p := ⟨w.heap.size, 3, none⟩) (Nat.le_refl _) hl _)⟩
    rintro wz ⟨kz, dz⟩
    have q0 := kz.c0
    have q1 := kz.c1
    have q2 := kz.c2
    have q3 := kz.c3
    exact bodyPost_ret (v := .agg #[.int .i64 (k), .int .i64 (p), .int .i64 (l), .int .i64 (u)]) (by simp [results, Tryz.results32, go_sem, q0, q1, q2, q3]) rfl ⟨⟨k, p, l, u⟩, rfl, dz⟩
  have b3 : ((x : Int) == 3) = false := by simp; omega
  have f0 := F2.out.c0; have f1 := F2.out.c1; have f2 := F2.out.c2; have f3 := F2.out.c3; have ff := F2.out.free
  have k0 := K2.out.c0; have k1 := K2.out.c1; have k2 := K2.out.c2; have k3 := K2.out.c3; have fk := K2.out.free
  go_wp2_with fail
  refine bp_forget (fun w' => Blk4 w' w.heap.size 26 (.int .i64 (k)) (.int .i64 (p)) (.int .i64 (l)) (.int .i64 (v)) ∧ Dr w g w') ?_ ?_
  · have e := K2.out.all (x0 := .int .i64 (k)) (x1 := .int .i64 (p)) (x2 := .int .i64 (l)) (x3 := .int .i64 (v))
    exact ⟨e, ((((D2.out.set (p := ⟨w.heap.size, 0, none⟩) (Nat.le_refl _) hl _).set (p := ⟨w.heap.size, 1, none⟩) (Nat.le_refl _) hl _).set (p := ⟨w.heap.size, 2, none⟩) (Nat.le_refl _) hl _).set (p := ⟨w.heap.size, 3, none⟩) (Nat.le_refl _) hl _)⟩
  rintro wz ⟨kz, dz⟩
  have q0 := kz.c0
  have q1 := kz.c1
  have q2 := kz.c2
  have q3 := kz.c3
  exact bodyPost_ret (v := .agg #[.int .i64 (k), .int .i64 (p), .int .i64 (l), .int .i64 (v)]) (by simp [results, Tryz.results32, go_sem, q0, q1, q2, q3]) rfl ⟨⟨k, p, l, v⟩, rfl, dz⟩

/-- a drawn list of at most N faults -/
def DrE (w : World) (g N : Nat) (e : Ending) (w' : World) : Prop :=
  ∃ A n c fs, e = .returned (.slice A n c) ∧ OwnE encF 4 26 w' w.heap.size A n c fs ∧ n ≤ N ∧ Dr w g w'
theorem Dr.appE {T : TypeId} {A : Option Addr} {n c : Nat} {fs : List Flt} {w0 w w' : World} {g : Nat} (h : Dr w0 g w) (hown : OwnE encF 4 T w w0.heap.size A n c fs) (hg : w.grownBy w' (Value.slice A n c).ownBlock) (hl : g < w0.heap.size) : Dr w0 g w' :=
  h.own hg (fun j e => (hown.row j e).1) hl

set_option maxRecDepth 20000 in
set_option maxHeartbeats 8000000 in
theorem drawScript_any (g n : Nat) (w : World) (h : Src w g) (hn : n ≤ 1099511627776) :
    Calls Tryz.prog 51 #[.pointer (some ⟨g, 0, none⟩), .int .i64 n] w (DrE w g 40) := by
  have hl := h.lt
  go_enter Tryz.func51, Tryz.ntmps51
  go_wp2_with fail
  refine (next_any g _ _ ((Dr.refl h).alloc _).src).mono ?_
  rintro e w1 ⟨x, rfl, hx, d1⟩
  have hown1 := (OwnE.empty (enc := encF) (sz := 4) (T := 26) w (base := w.heap.size) (Nat.le_refl _)).dr d1 hl
  have d1' := d1.next ((Dr.refl h).alloc _)
  have hx5 : x ≤ 5 := by omega
  clear d1 hx
  go_wp2_with fail
  go_loopw [5, 6] (fun o i wr => ∃ (m q : Nat) (A' : Option Addr) (c' : Nat) (fs : List Flt), m + q ≤ 5 ∧ o = .slice A' m c' ∧ i = .int .i64 q ∧ OwnE encF 4 26 wr w.heap.size A' m c' fs ∧ Dr w g wr) (fun _ i _ => (intOf i).toNat)
  case atStart => exact ⟨0, x, _, _, _, by omega, rfl, rfl, hown1, d1'⟩
  case round =>
    obtain ⟨m, q, A', c', fs, hmq, rfl, rfl, hown, d⟩ := hrel
    by_cases hq : 0 < q
    · go_wp2_with fail
      refine (drawFault_any g n _ d.src hn).mono ?_
      rintro e w2 ⟨⟨k, p, l, v⟩, rfl, d2⟩
      have hown2 := hown.dr d2 hl
      have d2' := d2.next d
      have hg2 := d2'.lt
      have hne2 : g ≠ w2.heap.size := by omega
      clear d2 hown d
      dsimp only
      go_wp2_with fail
      refine (sIsFault_any k p l v _).mono ?_
      obtain ⟨b, hb⟩ : ∃ b, isFault ⟨k, p, l, v⟩ = b := ⟨_, rfl⟩
      rw [hb]
      clear hb
      rintro e w3 ⟨rfl, hb3⟩
      have F3 := Lib.hid ((Blk4.new w2 26 (.int .i64 k) (.int .i64 p) (.int .i64 l) (.int .i64 v)).next hb3)
      have hown3 := (hown2.alloc (.cells #[.int .i64 k, .int .i64 p, .int .i64 l, .int .i64 v] 26)).below hb3
      have d3 := (d2'.alloc (.cells #[.int .i64 k, .int .i64 p, .int .i64 l, .int .i64 v] 26)).below hb3
      clear hb3 hown2 d2'
      cases b
      case true =>
        have f0 := F3.out.c0; have f1 := F3.out.c1; have f2 := F3.out.c2; have f3 := F3.out.c3
        go_wp2_with (at_builtin; refine wpl_appF _ _ Tryz.underlying38 infoFault rfl _ _ rfl w.heap.size _ m _ _ rfl hown3 ⟨k, p, l, v⟩ rfl (by omega) d3.size ?_; intro A4 c4 w4 hown4 hB4 hg4)
        go_roundw
        case rel => exact ⟨m + 1, q - 1, A4, c4, _, by omega, rfl, by congr 1; omega, hown4, d3.appE hown3 hg4 hl⟩
        case measure => simp [intOf]; omega
      case false =>
        go_wp2_with fail
        refine (next_any g 4 _ d3.src).mono ?_
        rintro e w4 ⟨y, rfl, hy, d4⟩
        have F4 := Lib.hid (F3.out.dr d4 hne2)
        have hown4 := hown3.dr d4 hl
        have d4' := d4.next d3
        clear d4 hown3 d3
        by_cases h0 : y = 0
        · subst h0
          have f0 := F4.out.c0; have f1 := F4.out.c1; have f2 := F4.out.c2; have f3 := F4.out.c3
          go_wp2_with (at_builtin; refine wpl_appF _ _ Tryz.underlying38 infoFault rfl _ _ rfl w.heap.size _ m _ _ rfl hown4 ⟨k, p, l, v⟩ rfl (by omega) d4'.size ?_; intro A5 c5 w5 hown5 hB5 hg5)
          go_roundw
          case rel => exact ⟨m + 1, q - 1, A5, c5, _, by omega, rfl, by congr 1; omega, hown5, d4'.appE hown4 hg5 hl⟩
          case measure => simp [intOf]; omega
        · have b0 : ((y : Int) == 0) = false := by simp; omega
          go_wp2
          go_roundw
          case rel => exact ⟨m, q - 1, A', c', fs, by omega, rfl, by congr 1; omega, hown4, d4'⟩
          case measure => simp [intOf]; omega
    · obtain rfl : q = 0 := by omega
      go_wp2_with fail
      refine (next_any g 40 _ d.src).mono ?_
      rintro e w2 ⟨y, rfl, hy, d2⟩
      have hown2 := hown.dr d2 hl
      have d2' := d2.next d
      clear d2 hown d
      by_cases h0 : y = 0
      · subst h0
        go_wp2
        go_loopw [5] (fun o wr => ∃ (m : Nat) (A' : Option Addr) (c' : Nat) (fs : List Flt), m ≤ 31 ∧ o = .slice A' m c' ∧ OwnE encF 4 26 wr w.heap.size A' m c' fs ∧ Dr w g wr) (fun o _ => 32 - (match o with | .slice _ m _ => m | _ => 0))
        case atStart => exact ⟨m, A', c', fs, by omega, rfl, hown2, d2'⟩
        case round =>
          obtain ⟨m, A', c', fs, hm31, rfl, hown, d⟩ := hrel
          go_wp2_with fail
          refine (next_any g 2 _ d.src).mono ?_
          rintro e w3 ⟨y, rfl, hy, d3⟩
          have hown3 := hown.dr d3 hl
          have d3' := d3.next d
          have hy2 : y < 2 := by omega
          clear d3 hown d hy
          by_cases hlt : (m : Int) < 30 + (y : Int)
          · go_wp2_with (at_builtin; refine wpl_appF _ _ Tryz.underlying38 infoFault rfl _ _ rfl w.heap.size _ m _ _ rfl hown3 ⟨1, 3, 0, 0⟩ rfl (by omega) d3'.size ?_; intro A5 c5 w5 hown5 hB5 hg5)
            go_roundw
            case rel => exact ⟨m + 1, A5, c5, _, by omega, rfl, hown5, d3'.appE hown3 hg5 hl⟩
            case measure => simp; omega
          · go_wp2
            go_ret
            exact ⟨A', m, c', fs, rfl, hown3, by omega, d3'⟩
      · have b0 : ((y : Int) == 0) = false := by simp; omega
        go_wp2
        go_ret
        exact ⟨A', m, c', fs, rfl, hown2, by omega, d2'⟩
end Go.Proofs.YtojmikalnalfbaaGreatDoor

namespace Go.Proofs.YtojmikalnalfbaaGreatDoor
open Go.ChangeShapes Go.WideShapes Go.ChangeAt Go.RowKit

section
variable {H : Type} {enc : TypeId × Value → H} {P : Program} {W : World}
theorem byte_wf {n : Int} (h : (Lit.int .u8 n).wf = true) : 0 ≤ n ∧ n ≤ 255 := by
  simpa [Lit.wf, IntKind.min, IntKind.max, IntKind.signed, IntKind.bits] using h
theorem arg_bytes {TS T : TypeId} (ht : P.underlying TS = some (.slice T)) (he : P.underlying T = some (.int .u8)) (hc : P.cellsOf T = 1) {base : Nat} {r : Reach} {v : Value} {d : DataW H} {p : List MemPlace}
    (hv : Value.okWide P W r base TS v) (h : DataW.Trod enc P W 0 (fun _ => true) true TS v d p) :
    ∃ A n c zs, v = .slice A n c ∧ RB W W.heap.size A n zs ∧ n ≤ maxLen := by
  obtain ⟨a0, len, cap, rfl⟩ := okWide_slice ht hv
  obtain ⟨fuel, hf⟩ := h
  rcases open_ints ht he hc hf with ⟨hcs, _⟩ | ⟨a, len', cap', zs, hcs, _, hl, hm, hz, _, hcell, hwz⟩
  · have e : Value.slice a0 len cap = .slice none 0 0 := by simpa [Value.cells] using hcs
    injection e with e1 e2 e3
    subst e1; subst e2; subst e3
    exact ⟨none, 0, 0, [], rfl, ⟨rfl, fun i hi => absurd hi (by omega), fun h0 => absurd h0 (by omega)⟩, Nat.zero_le _⟩
  · have e : Value.slice a0 len cap = .slice (some a) len' cap' := by simpa [Value.cells] using hcs
    injection e with e1 e2 e3
    subst e1; subst e2; subst e3
    simp only [if_true] at hz
    refine ⟨some a, len, cap, zs.take len, rfl, ⟨by rw [List.length_take]; omega, fun i hi => ?_, fun hn => ?_⟩, Nat.le_trans hl hm⟩
    · rw [gi_take hi]
      exact byte_wf (hwz _ (mem_gi (by omega)))
    · obtain ⟨b, o, rfl, hc'⟩ := ints_at hcell (by omega)
      refine ⟨b, o, rfl, World.block_lt_of_cell? W ⟨b, o + 0, none⟩ (hc' 0 (by omega)), fun i hi => ?_⟩
      rw [hc' i (by omega), gi_take hi]; rfl
end

theorem big_any (A : Option Addr) (n c : Nat) (w : World) (hn : n ≤ maxLen) :
    Calls Tryz.prog 5 #[.slice A n c] w fun e w' => e = .returned (.bool (decide (4096 < n))) ∧ w = w' := by
  unfold maxLen at hn
  by_cases h : 4096 < n
  all_goals
    go_enter Tryz.func5, Tryz.ntmps5
    go_wp2
    go_ret
    exact ⟨ret_bool (by simp; omega), rfl⟩

theorem drewN_two (w : World) (a b : Nat) : ∃ m, (w.drewN a).drewN b = w.drewN m := ⟨a + b, World.drewN_drewN _ _ _⟩

set_option maxHeartbeats 400000 in
theorem likeInts_any (A A' : Option Addr) (n n' c c' : Nat) (xs ys : List Int) (w : World) (hx : RI w w.heap.size A n xs) (hy : RI w w.heap.size A' n' ys) (hn : n ≤ 1099511627776) (hn' : n' ≤ 1099511627776) :
    Calls Tryz.prog 15 #[.slice A n c, .slice A' n' c'] w fun e w' => e = .returned (.bool (eqI xs ys)) ∧ ∃ m, w' = w.drewN m := by
  by_cases hnn : n = n'
  · subst hnn
    go_enter Tryz.func15, Tryz.ntmps15
    go_wp2
    go_loopw [5] (fun i wr => ∃ k m : Nat, k ≤ n ∧ i = .int .i64 k ∧ xs.take k = ys.take k ∧ wr = w.drewN m) (fun i _ => n - (intOf i).toNat)
    case atStart => exact ⟨0, 0, Nat.zero_le _, rfl, rfl, rfl⟩
    case round =>
      obtain ⟨k, m, hk, rfl, heq, rfl⟩ := hrel
      have Heq := Lib.hid heq
      clear heq
      by_cases hlt : k < n
      · obtain ⟨b, o, rfl, _, hc⟩ := hx.get (by omega)
        have hcell := hc k hlt
        clear hc
        obtain ⟨b', o', rfl, _, hc⟩ := hy.get (by omega)
        have hcell' := hc k hlt
        clear hc
        by_cases hr : gi xs k = gi ys k
        · have HR := Lib.hid hr
          have hbn : (gi xs k != gi ys k) = false := by simp [hr]
          clear hr
          go_wp2
          go_quiet (fail)
          go_wp2
          go_roundw
          case rel => exact ⟨k + 1, _, by omega, by go_num, by rw [take_gi (by rw [hx.len]; exact hlt), take_gi (by rw [hy.len]; exact hlt), Heq.out, HR.out], rfl⟩
          case measure => simp [intOf]; omega
        · have hbn : (gi xs k != gi ys k) = true := by simp [hr]
          have HR := Lib.hid hr
          clear hr
          go_wp2
          go_quiet (fail)
          go_wp2
          go_ret
          exact ⟨ret_bool (eqI_no HR.out).symm, drewN_two _ _ _⟩
      · have hkn : k = n := by omega
        have HK := Lib.hid hkn
        clear hkn
        go_wp2
        go_ret
        refine ⟨ret_bool (eqI_take hx.len hy.len ?_).symm, _, rfl⟩
        have := Heq.out
        rwa [HK.out] at this
  · have hbn : ((n : Int) != (n' : Int)) = true := by simp; omega
    go_enter Tryz.func15, Tryz.ntmps15
    go_wp2
    go_ret
    exact ⟨ret_bool (eqI_len (by rw [hx.len, hy.len]; exact hnn)).symm, 0, rfl⟩
end Go.Proofs.YtojmikalnalfbaaGreatDoor

namespace Go.Proofs.YtojmikalnalfbaaGreatDoor
open Go.RowKit
theorem likeIntsV (A A' : Option Addr) (n n' c c' : Nat) (xs ys : List Int) (w : World) (hx : RI w w.heap.size A n xs) (hy : RI w w.heap.size A' n' ys) (hn : n ≤ 1099511627776) (hn' : n' ≤ 1099511627776) :
    Calls Tryz.prog 15 #[.slice A n c, .slice A' n' c'] w (RetV w (.bool (eqI xs ys))) :=
  (likeInts_any A A' n n' c c' xs ys w hx hy hn hn').mono fun _ _ ⟨he, m, hm⟩ => ⟨he, by subst hm; exact below_drewN (Below.refl _ _) m⟩

end Go.Proofs.YtojmikalnalfbaaGreatDoor

namespace Go.Proofs.YtojmikalnalfbaaGreatDoor
open Go.RowKit
set_option maxHeartbeats 4000000 in
theorem likeFaultsV (A A' : Option Addr) (n c c' : Nat) (fs : List Flt) (w : World) (hx : RE encF 4 w w.heap.size A n fs) (hy : RE encF 4 w w.heap.size A' n fs) (hn : n ≤ 1099511627776) :
    Calls Tryz.prog 29 #[.slice A n c, .slice A' n c'] w (RetV w (.bool true)) := by
  go_enter Tryz.func29, Tryz.ntmps29
  go_wp2
  go_loopw [5] (fun i wr => ∃ k m : Nat, k ≤ n ∧ i = .int .i64 k ∧ wr = w.drewN m) (fun i _ => n - (intOf i).toNat)
  case atStart => exact ⟨0, 0, Nat.zero_le _, rfl, rfl⟩
  case round =>
    obtain ⟨k, m, hk, rfl, rfl⟩ := hrel
    by_cases hlt : k < n
    · obtain ⟨b, o, rfl, _, hc⟩ := hx.get (by omega)
      have hc0 := hc k hlt 0 _ rfl
      have hc1 := hc k hlt 1 _ rfl
      have hc2 := hc k hlt 2 _ rfl
      have hc3 := hc k hlt 3 _ rfl
      clear hc
      rw [Nat.add_zero] at hc0
      obtain ⟨b', o', rfl, _, hd⟩ := hy.get (by omega)
      have hd0 := hd k hlt 0 _ rfl
      have hd1 := hd k hlt 1 _ rfl
      have hd2 := hd k hlt 2 _ rfl
      have hd3 := hd k hlt 3 _ rfl
      clear hd
      rw [Nat.add_zero] at hd0
      go_wp2
      go_quiet (fail)
      go_wp2
      go_roundw
      case rel => exact ⟨k + 1, _, by omega, by go_num, rfl⟩
      case measure => simp [intOf]; omega
    · have hkn : k = n := by omega
      clear hkn
      go_wp2
      go_ret
      exact ⟨rfl, below_drewN (Below.refl _ _) m⟩
end Go.Proofs.YtojmikalnalfbaaGreatDoor
