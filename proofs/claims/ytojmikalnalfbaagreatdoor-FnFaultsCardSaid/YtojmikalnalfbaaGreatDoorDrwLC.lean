/- What the reference's draws of FnScriptText and FnFaults hand back, at the law's level. Conditions: codes of at most 2^40 bytes. -/
import Derived.Test.YtojmikalnalfbaaGreatDoorDrwKC
import Derived.Test.YtojmikalnalfbaaGreatDoorTxSC
namespace Go.Proofs.YtojmikalnalfbaaGreatDoor
open Go.Lib Go.RowKit
/-- a drawn script -/
def TopE' (w : World) (e : Ending) (w' : World) : Prop :=
  ∃ A n c fs, e = .returned (.slice A n c) ∧ OwnE encF 4 26 w' w.heap.size A n c fs ∧ n ≤ 40 ∧ Below w.heap.size w w'
/-- a drawn number and a drawn script -/
def TopNE (w : World) (e : Ending) (w' : World) : Prop :=
  ∃ (m : Int) (A : Option Addr) (n c : Nat) (fs : List Flt), e = .returned (.tuple #[.int .i64 m, .slice A n c]) ∧ OwnE encF 4 26 w' w.heap.size A n c fs ∧ n ≤ 40 ∧ Below w.heap.size w w'
/-- a drawn text -/
def TopS (w : World) (e : Ending) (w' : World) : Prop := ∃ r : ByteArray, e = .returned (.string r) ∧ r.size ≤ 1048576 ∧ Below w.heap.size w w'
theorem stxt_len (fs : List Flt) : (stxt fs).length ≤ 1410 := by
  unfold stxt
  split
  · rename_i h
    have h1 := stx_len (isScr_all h) fs.length (Nat.le_refl _)
    rw [List.take_length] at h1
    have h2 := isScr_len h
    have h3 : (stxtL fs).length ≤ 47 * fs.length := h1
    omega
  · simp
theorem ftxt_len (f : Flt) : (ftxt f).length ≤ 46 := by
  unfold ftxt
  split
  · rename_i h; exact ftxtL_len h
  · simp
theorem mk_size (l : List UInt8) : (⟨l.toArray⟩ : ByteArray).size = l.length := by rw [Lib.size_eq]

set_option maxHeartbeats 4000000 in
theorem drawScriptText_any (A : Option Addr) (n c : Nat) (bs : List Int) (w : World) (h : RB w w.heap.size A n bs) (hn : n ≤ 1099511627776) :
    Calls Tryz.prog 19 #[.slice A n c] w (TopE' w) := by
  go_enter Tryz.func19, Tryz.ntmps19
  go_wp2_with fail
  refine (from_any A n c bs _ h hn).mono ?_
  rintro e w1 ⟨g, rfl, hs1, hg, hb1⟩
  go_wp2_with fail
  refine (drawScript_any g 30 _ hs1 (by omega)).mono ?_
  rintro e w2 ⟨A2, n2, c2, fs2, rfl, hown2, hn2, d2⟩
  go_wp2
  go_ret
  exact ⟨A2, n2, c2, fs2, rfl, hown2.weaken hb1.size, hn2, d2.top hb1 hg⟩

set_option maxHeartbeats 8000000 in
theorem drawReadScript_any (A : Option Addr) (n c : Nat) (bs : List Int) (w : World) (h : RB w w.heap.size A n bs) (hn : n ≤ 1099511627776) :
    Calls Tryz.prog 22 #[.slice A n c] w (TopS w) := by
  go_enter Tryz.func22, Tryz.ntmps22
  go_wp2_with fail
  refine (from_any A n c bs _ h hn).mono ?_
  rintro e w1 ⟨g, rfl, hs1, hg, hb1⟩
  go_wp2_with fail
  refine (drawScript_any g 30 _ hs1 (by omega)).mono ?_
  rintro e w2 ⟨A2, n2, c2, fs, rfl, hown2, hn2, d2⟩
  go_wp2_with fail
  refine (sScriptText_any A2 n2 c2 fs _ (hown2.reads encF_len) (by omega)).mono ?_
  have hT := stxt_len fs
  rintro e w3 ⟨rfl, hb3⟩
  have d3 := d2.below hb3
  obtain ⟨T, hTT⟩ : ∃ T : ByteArray, (⟨(stxt fs).toArray⟩ : ByteArray) = T := ⟨_, rfl⟩
  have hTs : T.size ≤ 1410 := by rw [← hTT, mk_size]; exact hT
  rw [hTT]
  clear hTT hT
  go_wp2_with fail
  refine (next_any g _ _ d3.src).mono ?_
  rintro e w4 ⟨x, rfl, hx, d4⟩
  have d5 := d4.next d3
  rcases Nat.eq_zero_or_pos x with h0 | h0
  · subst h0
    go_wp2_with fail
    refine (damage_any g T _ d5.src (by omega)).mono ?_
    rintro e w5 ⟨r, rfl, hr, d6⟩
    go_wp2
    go_ret
    exact ⟨r, rfl, by omega, (d6.next d5).top hb1 hg⟩
  · have hx0 : ((x : Int) == 0) = false := by rw [beq_eq_false_iff_ne]; omega
    go_wp2_with fail
    go_ret
    exact ⟨T, rfl, by omega, d5.top hb1 hg⟩

theorem lit5_get {a b c d e : Int} {x : Nat} (h : x < 5) : ∃ v : Int, [Value.int .i64 a, .int .i64 b, .int .i64 c, .int .i64 d, .int .i64 e][x]? = some (.int .i64 v) := by
  have hc : x = 0 ∨ x = 1 ∨ x = 2 ∨ x = 3 ∨ x = 4 := by omega
  rcases hc with rfl | rfl | rfl | rfl | rfl <;> exact ⟨_, rfl⟩
set_option maxHeartbeats 8000000 in
theorem drawLengthAfter_any (A : Option Addr) (n c : Nat) (bs : List Int) (w : World) (h : RB w w.heap.size A n bs) (hn : n ≤ 1099511627776) :
    Calls Tryz.prog 24 #[.slice A n c] w (TopNE w) := by
  go_enter Tryz.func24, Tryz.ntmps24
  go_wp2_with fail
  refine (from_any A n c bs _ h hn).mono ?_
  rintro e w1 ⟨g, rfl, hs1, hg, hb1⟩
  have hl := hs1.lt
  go_wp2_with fail
  refine (next_any g _ _ hs1).mono ?_
  rintro e w2 ⟨x, rfl, hx, d2⟩
  go_wp2_with fail
  refine (next_any g _ _ d2.src).mono ?_
  rintro e w3 ⟨y, rfl, hy, d3⟩
  have D3 := d3.next d2
  go_wp2_with fail
  refine (next_any g _ _ D3.src).mono ?_
  rintro e w4 ⟨z, rfl, hz, d4⟩
  have D4 := d4.next D3
  have hz9 : z < 9 := by omega
  have hw : IntKind.i64.wrap (8192 - (z : Int)) = 8192 - (z : Int) := IntWalk.i64_in _ (by omega)
  go_wp2_with fail
  refine (next_any g _ _ (D4.alloc _).src).mono ?_
  rintro e w5 ⟨q, rfl, hq, d5⟩
  have hq5 : q < 5 := by omega
  have hne : w4.heap.size ≠ g := by have := D4.lt; omega
  obtain ⟨v, hv⟩ := lit5_get (a := x) (b := y) (c := 8192 - (z : Int)) (d := 8193) (e := -1) hq5
  have hcell := ((BlkL.new w4 _ #[.int .i64 (x : Int), .int .i64 (y : Int), .int .i64 (8192 - (z : Int)), .int .i64 8193, .int .i64 (-1)] rfl).dr d5 hne).c q hv
  have D5 := d5.next (D4.alloc _)
  have hq0 : (0 : Int) ≤ q := by omega
  have hq6 : (q : Int) < 5 := by omega
  go_wp2_with fail
  refine (drawScript_any g 40 _ D5.src (by omega)).mono ?_
  rintro e w6 ⟨A2, n2, c2, fs2, rfl, hown2, hn2, d6⟩
  go_wp2
  go_ret2
  exact ⟨v, A2, n2, c2, fs2, rfl, (hown2.weaken D5.size).weaken hb1.size, hn2, (d6.next D5).top hb1 hg⟩
end Go.Proofs.YtojmikalnalfbaaGreatDoor
