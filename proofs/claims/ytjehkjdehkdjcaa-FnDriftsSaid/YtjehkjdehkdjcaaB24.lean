/- Walks, laws and small notions for the claims of this seat, several texts as one (DrwE). Conditions: as each theorem states them. -/
import Derived.Test.YtjehkjdehkdjcaaB22
import Derived.OwnWalk
namespace Go.Proofs.Ytjehkjdehkdjcaa
open Go.RowKit

/-- a drawn number -/
def TopV (w : World) (e : Ending) (w' : World) : Prop := ∃ v : Int, e = .returned (.int .i64 v) ∧ Below w.heap.size w w'
/-- a drawn list and a number of either sign -/
def TopIZe (w : World) (N : Nat) (e : Ending) (w' : World) : Prop :=
  ∃ A n c zs, ∃ v : Int, e = .returned (.tuple #[.slice A n c, .int .i64 v]) ∧ OwnI 2 w' w.heap.size A n c zs ∧ n ≤ N ∧ Below w.heap.size w w'
/-- a drawn list and two numbers -/
def TopIZeZ (w : World) (N : Nat) (e : Ending) (w' : World) : Prop :=
  ∃ A n c zs, ∃ a b : Int, e = .returned (.tuple #[.slice A n c, .int .i64 a, .int .i64 b]) ∧ OwnI 2 w' w.heap.size A n c zs ∧ n ≤ N ∧ Below w.heap.size w w'

set_option maxHeartbeats 4000000 in
theorem drawRoundCells_any (A : Option Addr) (n c : Nat) (bs : List Int) (w : World) (h : RB w w.heap.size A n bs) (hn : n ≤ 1099511627776) :
    Calls Try.prog 101 #[.slice A n c] w (TopV w) := by
  go_enter Try.func101, Try.ntmps101
  go_wp2_with fail
  refine (from_any A n c bs _ h hn).mono ?_
  rintro e w1 ⟨g, rfl, hs1, hg, hb1⟩
  have hl := hs1.lt
  go_wp2_with fail
  refine (next_any g 6 _ hs1).mono ?_
  rintro e w2 ⟨x, rfl, hx, d2⟩
  by_cases h0 : x = 0
  · subst h0
    go_wp2_with fail
    refine (next_any g 4 _ (d2.alloc _).src).mono ?_
    rintro e w3 ⟨y, rfl, hy, d3⟩
    obtain ⟨v, hv, hc⟩ := pick_cell (L := [-1, 0, 8192, 8193]) d3.gr d2.lt (x := y) (by simp; omega)
    go_wp2
    go_ret
    exact ⟨v, rfl, (d3.next (d2.alloc _)).top hb1 hg⟩
  · have b0 : ((x : Int) == 0) = false := by simp; omega
    go_wp2_with fail
    refine (next_any g 60 _ d2.src).mono ?_
    rintro e w3 ⟨y, rfl, hy, d3⟩
    go_wp2
    go_ret
    exact ⟨y, rfl, (d3.next d2).top hb1 hg⟩

set_option maxHeartbeats 4000000 in
theorem drawNextEdge_any (A : Option Addr) (n c : Nat) (bs : List Int) (w : World) (h : RB w w.heap.size A n bs) (hn : n ≤ 1099511627776) :
    Calls Try.prog 104 #[.slice A n c] w (TopIZe w 8200) := by
  go_enter Try.func104, Try.ntmps104
  go_wp2_with fail
  refine (from_any A n c bs _ h hn).mono ?_
  rintro e w1 ⟨g, rfl, hs1, hg, hb1⟩
  have hl := hs1.lt
  go_wp2_with fail
  refine (l21Draw_any g _ hs1).mono ?_
  rintro e w2 ⟨A2, n2, c2, zs2, rfl, hown2, hn2, d2⟩
  have f1 : IntKind.i64.wrap ((n2 : Int) + 2) = (n2 : Int) + 2 := IntWalk.i64_in _ (by omega)
  go_wp2_with fail
  refine (next_any g _ _ d2.src).mono ?_
  rintro e w3 ⟨x, rfl, hx, d3⟩
  have hown3 := hown2.dr d3 hl
  have d3' := d3.next d2
  go_wp2_with fail
  refine (next_any g 20 _ d3'.src).mono ?_
  rintro e w4 ⟨y, rfl, hy, d4⟩
  have hown4 := hown3.dr d4 hl
  have d4' := d4.next d3'
  go_wp2
  go_ret2
  exact ⟨A2, n2, c2, zs2, _, rfl, hown4.weaken hb1.size, hn2, d4'.top hb1 hg⟩

set_option maxRecDepth 20000 in
set_option maxHeartbeats 4000000 in
theorem drawEdgeDrift_any (A : Option Addr) (n c : Nat) (bs : List Int) (w : World) (h : RB w w.heap.size A n bs) (hn : n ≤ 1099511627776) :
    Calls Try.prog 98 #[.slice A n c] w (TopIZeZ w 8200) := by
  go_enter Try.func98, Try.ntmps98
  go_wp2_with fail
  refine (from_any A n c bs _ h hn).mono ?_
  rintro e w1 ⟨g, rfl, hs1, hg, hb1⟩
  have hl := hs1.lt
  go_wp2_with fail
  refine (l21Draw_any g _ hs1).mono ?_
  rintro e w2 ⟨A2, n2, c2, zs2, rfl, hown2, hn2, d2⟩
  have fin : ∀ w3, OwnI 2 w3 w1.heap.size A2 n2 c2 zs2 → Dr w1 g w3 → Calls Try.prog 125 #[.pointer (some ⟨g, 0, none⟩), .int .i64 20] w3 fun e w' => ∃ x : Nat, e = .returned (.int .i64 x) ∧ OwnI 2 w' w1.heap.size A2 n2 c2 zs2 ∧ Dr w1 g w' := fun w3 ho d =>
    (next_any g 20 w3 d.src).mono fun e w' ⟨x, he, hx, d'⟩ => ⟨x, he, ho.dr d' hl, d'.next d⟩
  have fin2 : ∀ w3, OwnI 2 w3 w1.heap.size A2 n2 c2 zs2 → Dr w1 g w3 → Calls Try.prog 125 #[.pointer (some ⟨g, 0, none⟩), .int .i64 40] w3 fun e w' => ∃ x : Nat, e = .returned (.int .i64 x) ∧ OwnI 2 w' w1.heap.size A2 n2 c2 zs2 ∧ Dr w1 g w' := fun w3 ho d =>
    (next_any g 40 w3 d.src).mono fun e w' ⟨x, he, hx, d'⟩ => ⟨x, he, ho.dr d' hl, d'.next d⟩
  go_wp2_with fail
  refine (sIsBits_any A2 n2 c2 zs2 _ hown2.reads (by omega)).mono ?_
  rintro e w3 ⟨rfl, rfl⟩
  rcases bool_cases (isBits zs2) with hz | hz
  case inr =>
    rw [hz]
    go_wp2_with fail
    refine (fin _ hown2 d2).mono ?_
    rintro e w4 ⟨x, rfl, o4, d4⟩
    go_wp2_with fail
    refine (fin2 _ o4 d4).mono ?_
    rintro e w5 ⟨y, rfl, o5, d5⟩
    go_wp2
    go_ret3
    exact ⟨A2, n2, c2, zs2, x, y, rfl, o5.weaken hb1.size, hn2, d5.top hb1 hg⟩
  rw [hz]
  by_cases h3 : (n2 : Int) < 300
  case neg =>
    go_wp2_with fail
    refine (fin _ hown2 d2).mono ?_
    rintro e w4 ⟨x, rfl, o4, d4⟩
    go_wp2_with fail
    refine (fin2 _ o4 d4).mono ?_
    rintro e w5 ⟨y, rfl, o5, d5⟩
    go_wp2
    go_ret3
    exact ⟨A2, n2, c2, zs2, x, y, rfl, o5.weaken hb1.size, hn2, d5.top hb1 hg⟩
  go_wp2_with fail
  refine (next_any g 8 _ d2.src).mono ?_
  rintro e w3 ⟨x, rfl, hx, d3⟩
  have o3 := hown2.dr d3 hl
  have d3' := d3.next d2
  clear hown2 d2 d3
  by_cases hx0 : 0 < x
  case neg =>
    obtain rfl : x = 0 := by omega
    go_wp2_with fail
    refine (fin _ o3 d3').mono ?_
    rintro e w4 ⟨x, rfl, o4, d4⟩
    go_wp2_with fail
    refine (fin2 _ o4 d4).mono ?_
    rintro e w5 ⟨y, rfl, o5, d5⟩
    go_wp2
    go_ret3
    exact ⟨A2, n2, c2, zs2, x, y, rfl, o5.weaken hb1.size, hn2, d5.top hb1 hg⟩
  have hx1 : (0 : Int) < (x : Int) := by omega
  obtain ⟨xs, hxs⟩ : ∃ xs, chgL zs2 = xs := ⟨_, rfl⟩
  go_wp2_with fail
  refine (l22Edges_any A2 n2 c2 zs2 _ o3.reads (by omega)).mono ?_
  rw [hxs]
  rintro e w4 ⟨A4, m, c4, rfl, hown4, hb4⟩
  have o4 := o3.below hb4
  have d4 := d3'.below hb4
  have hl3 := d3'.lt
  clear o3 hb4 d3'
  by_cases hm0 : 0 < m
  case neg =>
    obtain rfl : m = 0 := by omega
    go_wp2_with fail
    refine (fin _ o4 d4).mono ?_
    rintro e w4 ⟨x, rfl, o4, d4⟩
    go_wp2_with fail
    refine (fin2 _ o4 d4).mono ?_
    rintro e w5 ⟨y, rfl, o5, d5⟩
    go_wp2
    go_ret3
    exact ⟨A2, n2, c2, zs2, x, y, rfl, o5.weaken hb1.size, hn2, d5.top hb1 hg⟩
  obtain ⟨ge, rfl, hga, hgb⟩ := hown4.form hm0
  have hm1 : (0 : Int) < (m : Int) := by omega
  have HE := Lib.hid hown4.drew
  have HL := Lib.hid o4.drew
  have D4 := Lib.hid d4.drew
  clear hown4 o4 d4 fin fin2 hxs
  go_wp2_with fail
  go_region_with (first
    | ((with_reducible refine (next_any g m _ D4.out.src).mono ?_); rintro e w5 ⟨p, rfl, hp, d5⟩; (have D5 := Lib.hid (d5.next D4.out)); (have HE5 := Lib.hid (HE.out.dr d5 hl3)); (have HL5 := Lib.hid (HL.out.dr d5 hl)); (have hp5 : p < m := (by omega)); (have hp6 : (p : Int) < (m : Int) := (by omega)); (have qp := HE5.out.cell hp5))
    | ((with_reducible refine (next_any g m _ D5.out.src).mono ?_); rintro e w6 ⟨q, rfl, hq, d6⟩; (have D6 := Lib.hid (d6.next D5.out)); (have HE6 := Lib.hid (HE5.out.dr d6 hl3)); (have HL6 := Lib.hid (HL5.out.dr d6 hl)); (have hq5 : q < m := (by omega)); (have hq6 : (q : Int) < (m : Int) := (by omega)); (have qp6 := HE6.out.cell hp5); (have qq6 := HE6.out.cell hq5)))
  all_goals
    obtain ⟨a, ha⟩ : ∃ a, gi xs p = a := ⟨_, rfl⟩
    obtain ⟨b, hb⟩ : ∃ b, gi xs q = b := ⟨_, rfl⟩
    simp only [ha, hb]
    clear ha hb qp qp6 qq6
    go_wp2_with fail
    refine (next_any g 8 _ D6.out.src).mono ?_
    rintro e w7 ⟨z, rfl, hz, d7⟩
    have o7 := HL6.out.dr d7 hl
    have d7' := d7.next D6.out
    by_cases hz0 : z = 0
    · subst hz0
      go_wp2
      go_ret3
      exact ⟨A2, n2, c2, zs2, _, _, rfl, o7.weaken hb1.size, hn2, d7'.top hb1 hg⟩
    · have b0 : ((z : Int) == 0) = false := by simp; omega
      rcases Int.lt_trichotomy a b with hab | hab | hab
      · go_wp2
        go_ret3
        exact ⟨A2, n2, c2, zs2, _, _, rfl, o7.weaken hb1.size, hn2, d7'.top hb1 hg⟩
      · subst hab
        go_wp2
        go_ret3
        exact ⟨A2, n2, c2, zs2, _, _, rfl, o7.weaken hb1.size, hn2, d7'.top hb1 hg⟩
      · go_wp2
        go_ret3
        exact ⟨A2, n2, c2, zs2, _, _, rfl, o7.weaken hb1.size, hn2, d7'.top hb1 hg⟩
end Go.Proofs.Ytjehkjdehkdjcaa
