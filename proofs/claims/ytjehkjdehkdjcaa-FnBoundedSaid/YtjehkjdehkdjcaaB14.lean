/- Walks, laws and small notions for the claims of this seat, several texts as one (DrwX). Conditions: as each theorem states them. -/
import Derived.Test.YtjehkjdehkdjcaaB13
import Derived.Test.YtjehkjdehkdjcaaB1
import Derived.Deep.RegionWith
namespace Go.Proofs.Ytjehkjdehkdjcaa
open Go.RowKit

/-- a drawn list and a number -/
def TopIZ (w : World) (N : Nat) (e : Ending) (w' : World) : Prop :=
  ∃ A n c zs p, e = .returned (.tuple #[.slice A n c, .int .i64 p]) ∧ OwnI 2 w' w.heap.size A n c zs ∧ n ≤ N ∧ (-1 ≤ p ∧ p ≤ 8193) ∧ Below w.heap.size w w'
/-- two drawn lists -/
def TopII (w : World) (N : Nat) (e : Ending) (w' : World) : Prop :=
  ∃ A n c zs A' m c' ys, e = .returned (.tuple #[.slice A n c, .slice A' m c']) ∧ OwnI 2 w' w.heap.size A n c zs ∧ n ≤ N ∧ OwnI 2 w' w.heap.size A' m c' ys ∧ m ≤ N ∧ Below w.heap.size w w'

theorem OwnI.pair (w : World) (a b : Int) : OwnI 2 (w.alloc (.cells #[.int .i64 a, .int .i64 b] 2)) w.heap.size (some ⟨w.heap.size, 0, none⟩) 2 2 [a, b] :=
  OwnI.shut (cur := [.int .i64 a, .int .i64 b]) (new_heap w _) (Nat.le_refl _) (Nat.le_refl _) (by decide) rfl rfl

set_option maxRecDepth 20000 in
set_option maxHeartbeats 4000000 in
theorem drawFlipsOf_any (A : Option Addr) (n c : Nat) (bs : List Int) (w : World) (h : RB w w.heap.size A n bs) (hn : n ≤ 1099511627776) :
    Calls Try.prog 65 #[.slice A n c] w (TopE w) := by
  go_enter Try.func65, Try.ntmps65
  go_wp2_with fail
  refine (from_any A n c bs _ h hn).mono ?_
  rintro e w0 ⟨g, rfl, hs1, hg, hb1⟩
  have hl := hs1.lt
  clear h hn
  go_wp2_with fail
  refine (next_any g 4 _ hs1).mono ?_
  rintro e w1 ⟨x, rfl, hx, d1⟩
  by_cases h0 : x = 0
  · subst h0
    go_wp2_with fail
    refine (drawScript_any g 30 _ d1.src (by omega)).mono ?_
    rintro e w2 ⟨A2, n2, c2, fs2, rfl, hown2, hn2, d2⟩
    go_wp2
    go_ret
    exact ⟨A2, n2, c2, fs2, rfl, (hown2.weaken d1.size).weaken hb1.size, hn2, (d2.next d1).top hb1 hg⟩
  have b0 : ((x : Int) == 0) = false := by simp; omega
  go_wp2_with fail
  refine (next_any g 7 _ (d1.alloc _).src).mono ?_
  rintro e w2 ⟨q, rfl, hq7, d2⟩
  have hown2 := ((OwnE.empty (enc := encF) (sz := 4) (T := 82) w1 (base := w1.heap.size) (Nat.le_refl _)).weaken d1.size).dr d2 hl
  have d2' := d2.next (d1.alloc _)
  have hq6 : q ≤ 7 := by omega
  clear d2 d1 hq7 hx h0 b0
  go_wp2_with fail
  go_loopw [4, 5] (fun o i wr => ∃ (m q : Nat) (A' : Option Addr) (c' : Nat) (fs : List Flt), m + q ≤ 7 ∧ o = .slice A' m c' ∧ i = .int .i64 q ∧ OwnE encF 4 82 wr w0.heap.size A' m c' fs ∧ Dr w0 g wr) (fun _ i _ => (intOf i).toNat)
  case atStart => exact ⟨0, q, _, _, _, by omega, rfl, rfl, hown2, d2'⟩
  case round =>
    obtain ⟨m, q, A', c', fs, hmq, rfl, rfl, hown, d⟩ := hrel
    by_cases hq : 0 < q
    · go_wp2_with fail
      refine (next_any g 9 _ d.src).mono ?_
      rintro e w3 ⟨y1, rfl, hy1, d3⟩
      have hown3 := hown.dr d3 hl
      have d3' := d3.next d
      clear d3 hown d
      go_wp2_with fail
      refine (next_any g 9 _ d3'.src).mono ?_
      rintro e w4 ⟨y2, rfl, hy2, d4⟩
      have hown4 := hown3.dr d4 hl
      have d4' := d4.next d3'
      have hg4 := d4'.lt
      clear d4 hown3 d3'
      go_wp2_with fail
      refine (next_any g 3 _ (d4'.alloc _).src).mono ?_
      rintro e w5 ⟨x, rfl, hx, d5⟩
      obtain ⟨u, _, hc⟩ := pick_cell (L := [(y1 : Int), (y2 : Int), 8192]) d5.gr hg4 (x := x) (by simp; omega)
      have hx3 : x < 3 := by omega
      have hown5 := (hown4.alloc (.cells #[.int .i64 (y1 : Int), .int .i64 (y2 : Int), .int .i64 8192] 2)).dr d5 hl
      have d5' := d5.next (d4'.alloc _)
      clear d5 hown4 d4' hx hy1 hy2
      go_wp2_with (at_builtin; refine wpl_appF _ _ Try.underlying60 infoFault rfl _ _ rfl w0.heap.size _ m _ _ rfl hown5 ⟨1, u, 0, 0⟩ rfl (by omega) d5'.size ?_; intro A6 c6 w6 hown6 hB6 hg6)
      go_roundw
      case rel => exact ⟨m + 1, q - 1, A6, c6, _, by omega, rfl, by congr 1; omega, hown6, d5'.appE hown5 hg6 hl⟩
      case measure => simp [intOf]; omega
    · obtain rfl : q = 0 := by omega
      go_wp2
      go_ret
      exact ⟨A', m, c', fs, rfl, hown.weaken hb1.size, by omega, d.top hb1 hg⟩

set_option maxRecDepth 20000 in
set_option maxHeartbeats 4000000 in
theorem drawFlipScript_any (A : Option Addr) (n c : Nat) (bs : List Int) (w : World) (h : RB w w.heap.size A n bs) (hn : n ≤ 1099511627776) :
    Calls Try.prog 68 #[.slice A n c] w (TopI w 8200) := by
  go_enter Try.func68, Try.ntmps68
  go_wp2_with fail
  refine (from_any A n c bs _ h hn).mono ?_
  rintro e w0 ⟨g, rfl, hs1, hg, hb1⟩
  have hl := hs1.lt
  clear h hn
  go_wp2_with fail
  refine (next_any g 12 _ hs1).mono ?_
  rintro e w1 ⟨x, rfl, hx, d1⟩
  by_cases h0 : x = 0
  · subst h0
    go_wp2_with fail
    refine (next_any g 2 _ d1.src).mono ?_
    rintro e w2 ⟨y, rfl, hy, d2⟩
    have d2' := d2.next d1
    have hy2 : y < 2 := by omega
    go_wp2
    go_ret
    exact ⟨_, 2, 2, _, rfl, ((OwnI.pair _ _ _).weaken d2'.size).weaken hb1.size, by omega, (d2'.alloc _).top hb1 hg⟩
  have b0 : ((x : Int) == 0) = false := by simp; omega
  by_cases h1 : x = 1
  · subst h1
    have hown2 := ((OwnI.empty (T := 2) w1 (base := w1.heap.size) (Nat.le_refl _)).weaken d1.size)
    have d2' := d1.alloc (.cells #[] 2)
    clear hx h0 b0
    go_wp2_with fail
    go_loopw [4, 5] (fun o i wr => ∃ (m : Nat) (A' : Option Addr) (c' : Nat) (zs : List Int), m ≤ 31 ∧ o = .slice A' m c' ∧ i = .int .i64 m ∧ OwnI 2 wr w0.heap.size A' m c' zs ∧ Dr w0 g wr) (fun _ i _ => 32 - (intOf i).toNat)
    case atStart => exact ⟨0, _, _, _, by omega, rfl, rfl, hown2, d2'⟩
    case round =>
      obtain ⟨m, A', c', zs, hm31, rfl, rfl, hown, d⟩ := hrel
      go_wp2_with fail
      refine (next_any g 2 _ d.src).mono ?_
      rintro e w3 ⟨y, rfl, hy, d3⟩
      have hown3 := hown.dr d3 hl
      have d3' := d3.next d
      have hy2 : y < 2 := by omega
      clear d3 hown d hy
      by_cases hlt : (m : Int) < 30 + (y : Int)
      · go_wp2_with (at_builtin; refine wpl_appI _ _ Try.underlying24 infoInt rfl _ _ rfl w0.heap.size _ m _ _ rfl hown3 (2 * (m : Int)) rfl (by omega) d3'.size ?_; intro A5 c5 w5 hown5 hB5 hg5)
        go_roundw
        case rel => exact ⟨m + 1, A5, c5, _, by omega, rfl, by go_num, hown5, d3'.app hown3 hg5 hl⟩
        case measure => simp [intOf]; omega
      · go_wp2
        go_ret
        exact ⟨A', m, c', zs, rfl, hown3.weaken hb1.size, by omega, d3'.top hb1 hg⟩
  have b1 : ((x : Int) == 1) = false := by simp; omega
  go_wp2_with fail
  refine (drawIndices_any g 60 6 _ d1.src (by omega) (by omega) (by omega)).mono ?_
  rintro e w2 ⟨A2, n2, c2, zs2, rfl, hown2, hn2, d2⟩
  go_wp2
  go_ret
  exact ⟨A2, n2, c2, zs2, rfl, (hown2.weaken d1.size).weaken hb1.size, by omega, (d2.next d1).top hb1 hg⟩

set_option maxRecDepth 20000 in
set_option maxHeartbeats 4000000 in
theorem drawCellErrors_any (A : Option Addr) (n c : Nat) (bs : List Int) (w : World) (h : RB w w.heap.size A n bs) (hn : n ≤ 1099511627776) :
    Calls Try.prog 43 #[.slice A n c] w (TopIE w 8200) := by
  go_enter Try.func43, Try.ntmps43
  go_wp2_with fail
  refine (from_any A n c bs _ h hn).mono ?_
  rintro e w0 ⟨g, rfl, hs1, hg, hb1⟩
  have hl := hs1.lt
  clear h hn
  go_wp2_with fail
  refine (drawBits_any g 80 _ hs1 (by omega)).mono ?_
  rintro e w1 ⟨A1, n1, c1, zs1, rfl, hown1, hn1, d1⟩
  go_wp2_with fail
  refine (next_any g 4 _ (d1.alloc _).src).mono ?_
  rintro e w2 ⟨q, rfl, hq4, d2⟩
  have hl1 := d1.lt
  have hbk : ∀ g' o, A1 = some ⟨g', o, none⟩ → g' < w1.heap.size := fun g' o e => (hown1.block g' o e).2.2
  have hown2 := (OwnE.empty (enc := encF) (sz := 4) (T := 82) w1 (base := w1.heap.size) (Nat.le_refl _)).dr d2 hl1
  have hz2 := (hown1.alloc (.cells #[] 82)).dr d2 hl
  have d2' := d2.next ((Dr.refl d1.src).alloc _)
  have hq6 : q ≤ 4 := by omega
  clear d2 hq4 hown1
  go_wp2_with fail
  go_loopw [6, 7] (fun o i wr => ∃ (m q : Nat) (A' : Option Addr) (c' : Nat) (fs : List Flt), m + q ≤ 4 ∧ o = .slice A' m c' ∧ i = .int .i64 q ∧ OwnE encF 4 82 wr w1.heap.size A' m c' fs ∧ OwnI 2 wr w0.heap.size A1 n1 c1 zs1 ∧ Dr w1 g wr) (fun _ i _ => (intOf i).toNat)
  case atStart => exact ⟨0, q, _, _, _, by omega, rfl, rfl, hown2, hz2, d2'⟩
  case round =>
    obtain ⟨m, q, A', c', fs, hmq, rfl, rfl, hown, hz, d⟩ := hrel
    by_cases hq : 0 < q
    · go_wp2_with fail
      refine (next_any g 11 _ d.src).mono ?_
      rintro e w3 ⟨y1, rfl, hy1, d3⟩
      have hown3 := hown.dr d3 hl1
      have hz3 := hz.dr d3 hl
      have d3' := d3.next d
      have hy1' : y1 ≤ 11 := by omega
      clear d3 hown hz d hy1
      go_wp2_with fail
      refine (next_any g 3 _ d3'.src).mono ?_
      rintro e w4 ⟨y2, rfl, hy2, d4⟩
      have hown4 := hown3.dr d4 hl1
      have hz4 := hz3.dr d4 hl
      have d4' := d4.next d3'
      have hy2' : y2 ≤ 3 := by omega
      clear d4 hown3 hz3 d3' hy2
      go_wp2_with (at_builtin; refine wpl_appF _ _ Try.underlying60 infoFault rfl _ _ rfl w1.heap.size _ m _ _ rfl hown4 ⟨2, 8 * (y1 : Int), 8 * (1 + (y2 : Int)), 0⟩ rfl (by omega) d4'.size ?_; intro A6 c6 w6 hown6 hB6 hg6)
      go_roundw
      case rel => exact ⟨m + 1, q - 1, A6, c6, _, by omega, rfl, by congr 1; omega, hown6, hz4.kept hg6 (fun g' o e e2 => by have h1 := hbk g' o e; have h2 := (hown4.row g' e2.symm).1; omega), d4'.appE hown4 hg6 hl1⟩
      case measure => simp [intOf]; omega
    · obtain rfl : q = 0 := by omega
      go_wp2_with fail
      refine (next_any g 8 _ d.src).mono ?_
      rintro e w3 ⟨x, rfl, hx, d3⟩
      have hown3 := hown.dr d3 hl1
      have hz3 := hz.dr d3 hl
      have d3' := d3.next d
      clear d3 hown hz d hx
      by_cases h0 : x = 0
      · subst h0
        go_wp2_with fail
        refine (drawFault_any g 80 _ d3'.src (by omega)).mono ?_
        rintro e w4 ⟨⟨k, p, l, v⟩, rfl, d4⟩
        have hown4 := hown3.dr d4 hl1
        have hz4 := hz3.dr d4 hl
        have d4' := d4.next d3'
        dsimp only
        go_wp2_with (at_builtin; refine wpl_appF _ _ Try.underlying60 infoFault rfl _ _ rfl w1.heap.size _ m _ _ rfl hown4 ⟨k, p, l, v⟩ rfl (by omega) d4'.size ?_; intro A6 c6 w6 hown6 hB6 hg6)
        go_ret2
        exact ⟨A1, n1, c1, zs1, A6, m + 1, c6, _, rfl, (hz4.kept hg6 (fun g' o e e2 => by have h1 := hbk g' o e; have h2 := (hown4.row g' e2.symm).1; omega)).weaken hb1.size, by omega, (hown6.weaken d1.size).weaken hb1.size, by omega, ((d4'.appE hown4 hg6 hl1).next d1).top hb1 hg⟩
      · have b0 : ((x : Int) == 0) = false := by simp; omega
        go_wp2
        go_ret2
        exact ⟨A1, n1, c1, zs1, A', m, c', fs, rfl, hz3.weaken hb1.size, by omega, (hown3.weaken d1.size).weaken hb1.size, by omega, (d3'.next d1).top hb1 hg⟩

set_option maxHeartbeats 4000000 in
theorem drawInvertCells_any (A : Option Addr) (n c : Nat) (bs : List Int) (w : World) (h : RB w w.heap.size A n bs) (hn : n ≤ 1099511627776) :
    Calls Try.prog 51 #[.slice A n c] w (TopII w 8200) := by
  go_enter Try.func51, Try.ntmps51
  go_wp2_with fail
  refine (from_any A n c bs _ h hn).mono ?_
  rintro e w0 ⟨g, rfl, hs1, hg, hb1⟩
  have hl := hs1.lt
  clear h hn
  go_wp2_with fail
  refine (drawBits_any g 60 _ hs1 (by omega)).mono ?_
  rintro e w1 ⟨A1, n1, c1, zs1, rfl, hown1, hn1, d1⟩
  have hn1' : n1 ≤ 8200 := by omega
  go_wp2_with fail
  refine (drawIndices_any g _ 3 _ d1.src (by omega) (by omega) (by omega)).mono ?_
  rintro e w2 ⟨A2, n2, c2, zs2, rfl, hown2, hn2, d2⟩
  have hz2 := hown1.dr d2 hl
  go_wp2
  go_ret2
  exact ⟨A2, n2, c2, zs2, A1, n1, c1, zs1, rfl, (hown2.weaken d1.size).weaken hb1.size, hn2, hz2.weaken hb1.size, hn1', (d2.next d1).top hb1 hg⟩
end Go.Proofs.Ytjehkjdehkdjcaa
