/- Walks, laws and small notions for the claims of this seat, several texts as one (DrwG, DrwV, LikF). Conditions: as each theorem states them. -/
import Derived.Test.YtjehkjdehkdjcaaB9
import Derived.Test.YtjehkjdehkdjcaaB5
import Derived.Test.YtjehkjdehkdjcaaB12
import Derived.BigQuiet
namespace Go.Proofs.Ytjehkjdehkdjcaa
open Go.RowKit

set_option maxRecDepth 20000 in
set_option maxHeartbeats 8000000 in
theorem drawFault_any (g n : Nat) (w : World) (h : Src w g) (hn : n ≤ 1099511627776) :
    Calls Try.prog 140 #[.pointer (some ⟨g, 0, none⟩), .int .i64 n] w (DrF w g) := by
  have hl := h.lt
  have hne : g ≠ w.heap.size := by omega
  go_enter Try.func140, Try.ntmps140
  go_wp2_with fail
  refine (drawFaultAt_any g n _ ((Dr.refl h).alloc _).src hn).mono ?_
  rintro e w1 ⟨⟨k, p, l, v⟩, rfl, d1⟩
  have K1 := Lib.hid ((Blk4.new w _ _ _ _ _).dr d1 hne)
  have D1 := Lib.hid (d1.next ((Dr.refl h).alloc _))
  have hg1 := D1.out.lt
  have hk1 := K1.out.lt
  have hne2 : g ≠ w1.heap.size := by omega
  have hne3 : ¬ w.heap.size = w1.heap.size := by omega
  clear d1
  dsimp only
  go_wp2_with fail
  refine (next_any g 30 _ (D1.out.alloc _).src).mono ?_
  rintro e w2 ⟨x, rfl, hx, d2⟩
  have F2 := Lib.hid ((Blk4.new w1 _ _ _ _ _).dr d2 hne2)
  have K2 := Lib.hid ((K1.out.alloc _).dr d2 hne)
  have D2 := Lib.hid (d2.next (D1.out.alloc _))
  have hg2 := D2.out.lt
  have hk2 := K2.out.lt
  have hf2 := F2.out.lt
  have hne4 : g ≠ w2.heap.size := by omega
  clear d2
  by_cases h0 : x = 0
  · subst h0
    go_wp2_with fail
    refine (next_any g 2 _ (D2.out.alloc _).src).mono ?_
    rintro e w3 ⟨y, rfl, hy, d3⟩
    obtain ⟨u, _, hc⟩ := pick_cell (L := [0, 7]) d3.gr D2.out.lt (x := y) (by simp; omega)
    have hy2 : y < 2 := by omega
    have F3 := Lib.hid ((F2.out.alloc _).dr d3 hne2)
    have K3 := Lib.hid ((K2.out.alloc _).dr d3 hne)
    have D3 := Lib.hid (d3.next (D2.out.alloc _))
    clear d3 hy hx
    have f0 := F3.out.c0; have f1 := F3.out.c1; have f2 := F3.out.c2; have f3 := F3.out.c3; have ff := F3.out.free
    have k0 := K3.out.c0; have k1 := K3.out.c1; have k2 := K3.out.c2; have k3 := K3.out.c3; have fk := K3.out.free
    go_wp2_with fail
    refine bp_forget (fun w' => Blk4 w' w.heap.size 82 (.int .i64 (u)) (.int .i64 (p)) (.int .i64 (l)) (.int .i64 (v)) ∧ Dr w g w') ?_ ?_
    · have e := (K3.out.other (p := ⟨w1.heap.size, 0, none⟩) (fun e => hne3 e.symm) (.int .i64 u)).all (x0 := .int .i64 (u)) (x1 := .int .i64 (p)) (x2 := .int .i64 (l)) (x3 := .int .i64 (v))
      exact ⟨e, (((((D3.out.set (p := ⟨w1.heap.size, 0, none⟩) (Nat.le_of_lt hk1) hl _).set (p := ⟨w.heap.size, 0, none⟩) (Nat.le_refl _) hl _).set (p := ⟨w.heap.size, 1, none⟩) (Nat.le_refl _) hl _).set (p := ⟨w.heap.size, 2, none⟩) (Nat.le_refl _) hl _).set (p := ⟨w.heap.size, 3, none⟩) (Nat.le_refl _) hl _)⟩
    rintro wz ⟨kz, dz⟩
    have q0 := kz.c0
    have q1 := kz.c1
    have q2 := kz.c2
    have q3 := kz.c3
    exact bodyPost_ret (v := .agg #[.int .i64 (u), .int .i64 (p), .int .i64 (l), .int .i64 (v)]) (by simp [results, Try.results140, go_sem, q0, q1, q2, q3]) rfl ⟨⟨u, p, l, v⟩, rfl, dz⟩
  have b0 : ((x : Int) == 0) = false := by simp; omega
  by_cases h1 : x = 1
  · subst h1
    go_wp2_with fail
    refine (next_any g 3 _ (D2.out.alloc _).src).mono ?_
    rintro e w3 ⟨y, rfl, hy, d3⟩
    obtain ⟨u, _, hc⟩ := pick_cell (L := [-1, 8192, 8193]) d3.gr D2.out.lt (x := y) (by simp; omega)
    have hy2 : y < 3 := by omega
    have F3 := Lib.hid ((F2.out.alloc _).dr d3 hne2)
    have K3 := Lib.hid ((K2.out.alloc _).dr d3 hne)
    have D3 := Lib.hid (d3.next (D2.out.alloc _))
    clear d3 hy hx
    have f0 := F3.out.c0; have f1 := F3.out.c1; have f2 := F3.out.c2; have f3 := F3.out.c3; have ff := F3.out.free
    have k0 := K3.out.c0; have k1 := K3.out.c1; have k2 := K3.out.c2; have k3 := K3.out.c3; have fk := K3.out.free
    go_wp2_with fail
    refine bp_forget (fun w' => Blk4 w' w.heap.size 82 (.int .i64 (k)) (.int .i64 (u)) (.int .i64 (l)) (.int .i64 (v)) ∧ Dr w g w') ?_ ?_
    · have e := (K3.out.other (p := ⟨w1.heap.size, 1, none⟩) (fun e => hne3 e.symm) (.int .i64 u)).all (x0 := .int .i64 (k)) (x1 := .int .i64 (u)) (x2 := .int .i64 (l)) (x3 := .int .i64 (v))
      exact ⟨e, (((((D3.out.set (p := ⟨w1.heap.size, 1, none⟩) (Nat.le_of_lt hk1) hl _).set (p := ⟨w.heap.size, 0, none⟩) (Nat.le_refl _) hl _).set (p := ⟨w.heap.size, 1, none⟩) (Nat.le_refl _) hl _).set (p := ⟨w.heap.size, 2, none⟩) (Nat.le_refl _) hl _).set (p := ⟨w.heap.size, 3, none⟩) (Nat.le_refl _) hl _)⟩
    rintro wz ⟨kz, dz⟩
    have q0 := kz.c0
    have q1 := kz.c1
    have q2 := kz.c2
    have q3 := kz.c3
    exact bodyPost_ret (v := .agg #[.int .i64 (k), .int .i64 (u), .int .i64 (l), .int .i64 (v)]) (by simp [results, Try.results140, go_sem, q0, q1, q2, q3]) rfl ⟨⟨k, u, l, v⟩, rfl, dz⟩
  have b1 : ((x : Int) == 1) = false := by simp; omega
  by_cases h2 : x = 2
  · subst h2
    go_wp2_with fail
    refine (next_any g 4 _ (D2.out.alloc _).src).mono ?_
    rintro e w3 ⟨y, rfl, hy, d3⟩
    obtain ⟨u, _, hc⟩ := pick_cell (L := [-1, 0, 8192, 8193]) d3.gr D2.out.lt (x := y) (by simp; omega)
    have hy2 : y < 4 := by omega
    have F3 := Lib.hid ((F2.out.alloc _).dr d3 hne2)
    have K3 := Lib.hid ((K2.out.alloc _).dr d3 hne)
    have D3 := Lib.hid (d3.next (D2.out.alloc _))
    clear d3 hy hx
    have f0 := F3.out.c0; have f1 := F3.out.c1; have f2 := F3.out.c2; have f3 := F3.out.c3; have ff := F3.out.free
    have k0 := K3.out.c0; have k1 := K3.out.c1; have k2 := K3.out.c2; have k3 := K3.out.c3; have fk := K3.out.free
    go_wp2_with fail
    refine bp_forget (fun w' => Blk4 w' w.heap.size 82 (.int .i64 (k)) (.int .i64 (p)) (.int .i64 (u)) (.int .i64 (v)) ∧ Dr w g w') ?_ ?_
    · have e := (K3.out.other (p := ⟨w1.heap.size, 2, none⟩) (fun e => hne3 e.symm) (.int .i64 u)).all (x0 := .int .i64 (k)) (x1 := .int .i64 (p)) (x2 := .int .i64 (u)) (x3 := .int .i64 (v))
      exact ⟨e, (((((D3.out.set (p := ⟨w1.heap.size, 2, none⟩) (Nat.le_of_lt hk1) hl _).set (p := ⟨w.heap.size, 0, none⟩) (Nat.le_refl _) hl _).set (p := ⟨w.heap.size, 1, none⟩) (Nat.le_refl _) hl _).set (p := ⟨w.heap.size, 2, none⟩) (Nat.le_refl _) hl _).set (p := ⟨w.heap.size, 3, none⟩) (Nat.le_refl _) hl _)⟩
    rintro wz ⟨kz, dz⟩
    have q0 := kz.c0
    have q1 := kz.c1
    have q2 := kz.c2
    have q3 := kz.c3
    exact bodyPost_ret (v := .agg #[.int .i64 (k), .int .i64 (p), .int .i64 (u), .int .i64 (v)]) (by simp [results, Try.results140, go_sem, q0, q1, q2, q3]) rfl ⟨⟨k, p, u, v⟩, rfl, dz⟩
  have b2 : ((x : Int) == 2) = false := by simp; omega
  by_cases h3 : x = 3
  · subst h3
    go_wp2_with fail
    refine (next_any g 3 _ (D2.out.alloc _).src).mono ?_
    rintro e w3 ⟨y, rfl, hy, d3⟩
    obtain ⟨u, _, hc⟩ := pick_cell (L := [-1, 1, 2]) d3.gr D2.out.lt (x := y) (by simp; omega)
    have hy2 : y < 3 := by omega
    have F3 := Lib.hid ((F2.out.alloc _).dr d3 hne2)
    have K3 := Lib.hid ((K2.out.alloc _).dr d3 hne)
    have D3 := Lib.hid (d3.next (D2.out.alloc _))
    clear d3 hy hx
    have f0 := F3.out.c0; have f1 := F3.out.c1; have f2 := F3.out.c2; have f3 := F3.out.c3; have ff := F3.out.free
    have k0 := K3.out.c0; have k1 := K3.out.c1; have k2 := K3.out.c2; have k3 := K3.out.c3; have fk := K3.out.free
    go_wp2_with fail
    refine bp_forget (fun w' => Blk4 w' w.heap.size 82 (.int .i64 (k)) (.int .i64 (p)) (.int .i64 (l)) (.int .i64 (u)) ∧ Dr w g w') ?_ ?_
    · have e := (K3.out.other (p := ⟨w1.heap.size, 3, none⟩) (fun e => hne3 e.symm) (.int .i64 u)).all (x0 := .int .i64 (k)) (x1 := .int .i64 (p)) (x2 := .int .i64 (l)) (x3 := .int .i64 (u))
      exact ⟨e, (((((D3.out.set (p := ⟨w1.heap.size, 3, none⟩) (Nat.le_of_lt hk1) hl _).set (p := ⟨w.heap.size, 0, none⟩) (Nat.le_refl _) hl _).set (p := ⟨w.heap.size, 1, none⟩) (Nat.le_refl _) hl _).set (p := ⟨w.heap.size, 2, none⟩) (Nat.le_refl _) hl _).set (p := ⟨w.heap.size, 3, none⟩) (Nat.le_refl _) hl _)⟩
    rintro wz ⟨kz, dz⟩
    have q0 := kz.c0
    have q1 := kz.c1
    have q2 := kz.c2
    have q3 := kz.c3
    exact bodyPost_ret (v := .agg #[.int .i64 (k), .int .i64 (p), .int .i64 (l), .int .i64 (u)]) (by simp [results, Try.results140, go_sem, q0, q1, q2, q3]) rfl ⟨⟨k, p, l, u⟩, rfl, dz⟩
  have b3 : ((x : Int) == 3) = false := by simp; omega
  have f0 := F2.out.c0; have f1 := F2.out.c1; have f2 := F2.out.c2; have f3 := F2.out.c3; have ff := F2.out.free
  have k0 := K2.out.c0; have k1 := K2.out.c1; have k2 := K2.out.c2; have k3 := K2.out.c3; have fk := K2.out.free
  go_wp2_with fail
  refine bp_forget (fun w' => Blk4 w' w.heap.size 82 (.int .i64 (k)) (.int .i64 (p)) (.int .i64 (l)) (.int .i64 (v)) ∧ Dr w g w') ?_ ?_
  · have e := K2.out.all (x0 := .int .i64 (k)) (x1 := .int .i64 (p)) (x2 := .int .i64 (l)) (x3 := .int .i64 (v))
    exact ⟨e, ((((D2.out.set (p := ⟨w.heap.size, 0, none⟩) (Nat.le_refl _) hl _).set (p := ⟨w.heap.size, 1, none⟩) (Nat.le_refl _) hl _).set (p := ⟨w.heap.size, 2, none⟩) (Nat.le_refl _) hl _).set (p := ⟨w.heap.size, 3, none⟩) (Nat.le_refl _) hl _)⟩
  rintro wz ⟨kz, dz⟩
  have q0 := kz.c0
  have q1 := kz.c1
  have q2 := kz.c2
  have q3 := kz.c3
  exact bodyPost_ret (v := .agg #[.int .i64 (k), .int .i64 (p), .int .i64 (l), .int .i64 (v)]) (by simp [results, Try.results140, go_sem, q0, q1, q2, q3]) rfl ⟨⟨k, p, l, v⟩, rfl, dz⟩

/-- a drawn list of at most N faults -/
def DrE (w : World) (g N : Nat) (e : Ending) (w' : World) : Prop :=
  ∃ A n c fs, e = .returned (.slice A n c) ∧ OwnE encF 4 82 w' w.heap.size A n c fs ∧ n ≤ N ∧ Dr w g w'
theorem Dr.appE {T : TypeId} {A : Option Addr} {n c : Nat} {fs : List Flt} {w0 w w' : World} {g : Nat} (h : Dr w0 g w) (hown : OwnE encF 4 T w w0.heap.size A n c fs) (hg : w.grownBy w' (Value.slice A n c).ownBlock) (hl : g < w0.heap.size) : Dr w0 g w' :=
  h.own hg (fun j e => (hown.row j e).1) hl

set_option maxRecDepth 20000 in
set_option maxHeartbeats 8000000 in
theorem drawScript_any (g n : Nat) (w : World) (h : Src w g) (hn : n ≤ 1099511627776) :
    Calls Try.prog 150 #[.pointer (some ⟨g, 0, none⟩), .int .i64 n] w (DrE w g 40) := by
  have hl := h.lt
  go_enter Try.func150, Try.ntmps150
  go_wp2_with fail
  refine (next_any g _ _ ((Dr.refl h).alloc _).src).mono ?_
  rintro e w1 ⟨x, rfl, hx, d1⟩
  have hown1 := (OwnE.empty (enc := encF) (sz := 4) (T := 82) w (base := w.heap.size) (Nat.le_refl _)).dr d1 hl
  have d1' := d1.next ((Dr.refl h).alloc _)
  have hx5 : x ≤ 5 := by omega
  clear d1 hx
  go_wp2_with fail
  go_loopw [5, 6] (fun o i wr => ∃ (m q : Nat) (A' : Option Addr) (c' : Nat) (fs : List Flt), m + q ≤ 5 ∧ o = .slice A' m c' ∧ i = .int .i64 q ∧ OwnE encF 4 82 wr w.heap.size A' m c' fs ∧ Dr w g wr) (fun _ i _ => (intOf i).toNat)
  case atStart => exact ⟨0, x, _, _, _, by omega, rfl, rfl, hown1, d1'⟩
  case round =>
    obtain ⟨m, q, A', c', fs, hmq, rfl, rfl, hown, d⟩ := hrel
    by_cases hq : 0 < q
    · go_wp2_with fail
      refine (drawFault_any g n _ d.src hn).mono ?_
      rintro e w2 ⟨⟨k, p, l, v⟩, rfl, d2⟩
      have hown2 := hown.dr d2 hl
      have d2' := d2.next d
      have hg2 := d2'.lt
      have hne2 : g ≠ w2.heap.size := by omega
      clear d2 hown d
      dsimp only
      go_wp2_with fail
      refine (sIsFault_any k p l v _).mono ?_
      obtain ⟨b, hb⟩ : ∃ b, isFault ⟨k, p, l, v⟩ = b := ⟨_, rfl⟩
      rw [hb]
      clear hb
      rintro e w3 ⟨rfl, hb3⟩
      have F3 := Lib.hid ((Blk4.new w2 82 (.int .i64 k) (.int .i64 p) (.int .i64 l) (.int .i64 v)).next hb3)
      have hown3 := (hown2.alloc (.cells #[.int .i64 k, .int .i64 p, .int .i64 l, .int .i64 v] 82)).below hb3
      have d3 := (d2'.alloc (.cells #[.int .i64 k, .int .i64 p, .int .i64 l, .int .i64 v] 82)).below hb3
      clear hb3 hown2 d2'
      cases b
      case true =>
        have f0 := F3.out.c0; have f1 := F3.out.c1; have f2 := F3.out.c2; have f3 := F3.out.c3
        go_wp2_with (at_builtin; refine wpl_appF _ _ Try.underlying60 infoFault rfl _ _ rfl w.heap.size _ m _ _ rfl hown3 ⟨k, p, l, v⟩ rfl (by omega) d3.size ?_; intro A4 c4 w4 hown4 hB4 hg4)
        go_roundw
        case rel => exact ⟨m + 1, q - 1, A4, c4, _, by omega, rfl, by congr 1; omega, hown4, d3.appE hown3 hg4 hl⟩
        case measure => simp [intOf]; omega
      case false =>
        go_wp2_with fail
        refine (next_any g 4 _ d3.src).mono ?_
        rintro e w4 ⟨y, rfl, hy, d4⟩
        have F4 := Lib.hid (F3.out.dr d4 hne2)
        have hown4 := hown3.dr d4 hl
        have d4' := d4.next d3
        clear d4 hown3 d3
        by_cases h0 : y = 0
        · subst h0
          have f0 := F4.out.c0; have f1 := F4.out.c1; have f2 := F4.out.c2; have f3 := F4.out.c3
          go_wp2_with (at_builtin; refine wpl_appF _ _ Try.underlying60 infoFault rfl _ _ rfl w.heap.size _ m _ _ rfl hown4 ⟨k, p, l, v⟩ rfl (by omega) d4'.size ?_; intro A5 c5 w5 hown5 hB5 hg5)
          go_roundw
          case rel => exact ⟨m + 1, q - 1, A5, c5, _, by omega, rfl, by congr 1; omega, hown5, d4'.appE hown4 hg5 hl⟩
          case measure => simp [intOf]; omega
        · have b0 : ((y : Int) == 0) = false := by simp; omega
          go_wp2
          go_roundw
          case rel => exact ⟨m, q - 1, A', c', fs, by omega, rfl, by congr 1; omega, hown4, d4'⟩
          case measure => simp [intOf]; omega
    · obtain rfl : q = 0 := by omega
      go_wp2_with fail
      refine (next_any g 40 _ d.src).mono ?_
      rintro e w2 ⟨y, rfl, hy, d2⟩
      have hown2 := hown.dr d2 hl
      have d2' := d2.next d
      clear d2 hown d
      by_cases h0 : y = 0
      · subst h0
        go_wp2
        go_loopw [5] (fun o wr => ∃ (m : Nat) (A' : Option Addr) (c' : Nat) (fs : List Flt), m ≤ 31 ∧ o = .slice A' m c' ∧ OwnE encF 4 82 wr w.heap.size A' m c' fs ∧ Dr w g wr) (fun o _ => 32 - (match o with | .slice _ m _ => m | _ => 0))
        case atStart => exact ⟨m, A', c', fs, by omega, rfl, hown2, d2'⟩
        case round =>
          obtain ⟨m, A', c', fs, hm31, rfl, hown, d⟩ := hrel
          go_wp2_with fail
          refine (next_any g 2 _ d.src).mono ?_
          rintro e w3 ⟨y, rfl, hy, d3⟩
          have hown3 := hown.dr d3 hl
          have d3' := d3.next d
          have hy2 : y < 2 := by omega
          clear d3 hown d hy
          by_cases hlt : (m : Int) < 30 + (y : Int)
          · go_wp2_with (at_builtin; refine wpl_appF _ _ Try.underlying60 infoFault rfl _ _ rfl w.heap.size _ m _ _ rfl hown3 ⟨1, 3, 0, 0⟩ rfl (by omega) d3'.size ?_; intro A5 c5 w5 hown5 hB5 hg5)
            go_roundw
            case rel => exact ⟨m + 1, A5, c5, _, by omega, rfl, hown5, d3'.appE hown3 hg5 hl⟩
            case measure => simp; omega
          · go_wp2
            go_ret
            exact ⟨A', m, c', fs, rfl, hown3, by omega, d3'⟩
      · have b0 : ((y : Int) == 0) = false := by simp; omega
        go_wp2
        go_ret
        exact ⟨A', m, c', fs, rfl, hown2, by omega, d2'⟩
end Go.Proofs.Ytjehkjdehkdjcaa

namespace Go.Proofs.Ytjehkjdehkdjcaa
open Go.RowKit

/-- a drawn list and a drawn script -/
def TopIE (w : World) (N : Nat) (e : Ending) (w' : World) : Prop :=
  ∃ A n c zs A' m c' fs, e = .returned (.tuple #[.slice A n c, .slice A' m c']) ∧ OwnI 2 w' w.heap.size A n c zs ∧ n ≤ N ∧ OwnE encF 4 82 w' w.heap.size A' m c' fs ∧ m ≤ 40 ∧ Below w.heap.size w w'
/-- two drawn scripts -/
def TopEE (w : World) (e : Ending) (w' : World) : Prop :=
  ∃ A n c fs A' m c' gs, e = .returned (.tuple #[.slice A n c, .slice A' m c']) ∧ OwnE encF 4 82 w' w.heap.size A n c fs ∧ n ≤ 40 ∧ OwnE encF 4 82 w' w.heap.size A' m c' gs ∧ m ≤ 40 ∧ Below w.heap.size w w'
/-- a drawn script -/
def TopE (w : World) (e : Ending) (w' : World) : Prop :=
  ∃ A n c fs, e = .returned (.slice A n c) ∧ OwnE encF 4 82 w' w.heap.size A n c fs ∧ n ≤ 40 ∧ Below w.heap.size w w'
theorem OwnE.weaken' {α : Type} {enc : α → List Value} {sz : Nat} {T : TypeId} {w : World} {base base' n c : Nat} {A : Option Addr} {xs : List α} (h : OwnE enc sz T w base A n c xs) (hb : base' ≤ base) : OwnE enc sz T w base' A n c xs := h.weaken hb

set_option maxHeartbeats 4000000 in
theorem drawApplyScript_any (A : Option Addr) (n c : Nat) (bs : List Int) (w : World) (h : RB w w.heap.size A n bs) (hn : n ≤ 1099511627776) :
    Calls Try.prog 57 #[.slice A n c] w (TopIE w 8200) := by
  go_enter Try.func57, Try.ntmps57
  go_wp2_with fail
  refine (from_any A n c bs _ h hn).mono ?_
  rintro e w1 ⟨g, rfl, hs1, hg, hb1⟩
  have hl := hs1.lt
  go_wp2_with fail
  refine (drawBits_any g 30 _ hs1 (by omega)).mono ?_
  rintro e w2 ⟨A2, n2, c2, zs2, rfl, hown2, hn2, d2⟩
  go_wp2_with fail
  refine (drawScript_any g n2 _ d2.src (by omega)).mono ?_
  rintro e w3 ⟨A3, n3, c3, fs, rfl, hown3, hn3, d3⟩
  have hown23 := hown2.dr d3 hl
  go_wp2
  go_ret2
  exact ⟨A2, n2, c2, zs2, A3, n3, c3, fs, rfl, hown23.weaken hb1.size, hn2, (hown3.weaken d2.size).weaken hb1.size, hn3, (d3.next d2).top hb1 hg⟩

set_option maxHeartbeats 4000000 in
theorem drawJoinScripts_any (A : Option Addr) (n c : Nat) (bs : List Int) (w : World) (h : RB w w.heap.size A n bs) (hn : n ≤ 1099511627776) :
    Calls Try.prog 59 #[.slice A n c] w (TopEE w) := by
  go_enter Try.func59, Try.ntmps59
  go_wp2_with fail
  refine (from_any A n c bs _ h hn).mono ?_
  rintro e w1 ⟨g, rfl, hs1, hg, hb1⟩
  have hl := hs1.lt
  go_wp2_with fail
  refine (drawScript_any g 30 _ hs1 (by omega)).mono ?_
  rintro e w2 ⟨A2, n2, c2, fs2, rfl, hown2, hn2, d2⟩
  go_wp2_with fail
  refine (drawScript_any g 30 _ d2.src (by omega)).mono ?_
  rintro e w3 ⟨A3, n3, c3, fs, rfl, hown3, hn3, d3⟩
  have hown23 := hown2.dr d3 hl
  go_wp2
  go_ret2
  exact ⟨A2, n2, c2, fs2, A3, n3, c3, fs, rfl, hown23.weaken hb1.size, hn2, (hown3.weaken d2.size).weaken hb1.size, hn3, (d3.next d2).top hb1 hg⟩

set_option maxHeartbeats 4000000 in
theorem drawCountSlips_any (A : Option Addr) (n c : Nat) (bs : List Int) (w : World) (h : RB w w.heap.size A n bs) (hn : n ≤ 1099511627776) :
    Calls Try.prog 88 #[.slice A n c] w (TopE w) := by
  go_enter Try.func88, Try.ntmps88
  go_wp2_with fail
  refine (from_any A n c bs _ h hn).mono ?_
  rintro e w1 ⟨g, rfl, hs1, hg, hb1⟩
  go_wp2_with fail
  refine (drawScript_any g 30 _ hs1 (by omega)).mono ?_
  rintro e w2 ⟨A2, n2, c2, fs2, rfl, hown2, hn2, d2⟩
  go_wp2
  go_ret
  exact ⟨A2, n2, c2, fs2, rfl, hown2.weaken hb1.size, hn2, d2.top hb1 hg⟩

end Go.Proofs.Ytjehkjdehkdjcaa

namespace Go.Proofs.Ytjehkjdehkdjcaa
open Go.RowKit
set_option maxHeartbeats 4000000 in
theorem likeFaultsV (A A' : Option Addr) (n c c' : Nat) (fs : List Flt) (w : World) (hx : RE encF 4 w w.heap.size A n fs) (hy : RE encF 4 w w.heap.size A' n fs) (hn : n ≤ 1099511627776) :
    Calls Try.prog 54 #[.slice A n c, .slice A' n c'] w (RetV w (.bool true)) := by
  go_enter Try.func54, Try.ntmps54
  go_wp2
  go_loopw [5] (fun i wr => ∃ k m : Nat, k ≤ n ∧ i = .int .i64 k ∧ wr = w.drewN m) (fun i _ => n - (intOf i).toNat)
  case atStart => exact ⟨0, 0, Nat.zero_le _, rfl, rfl⟩
  case round =>
    obtain ⟨k, m, hk, rfl, rfl⟩ := hrel
    by_cases hlt : k < n
    · obtain ⟨b, o, rfl, _, hc⟩ := hx.get (by omega)
      have hc0 := hc k hlt 0 _ rfl
      have hc1 := hc k hlt 1 _ rfl
      have hc2 := hc k hlt 2 _ rfl
      have hc3 := hc k hlt 3 _ rfl
      clear hc
      rw [Nat.add_zero] at hc0
      obtain ⟨b', o', rfl, _, hd⟩ := hy.get (by omega)
      have hd0 := hd k hlt 0 _ rfl
      have hd1 := hd k hlt 1 _ rfl
      have hd2 := hd k hlt 2 _ rfl
      have hd3 := hd k hlt 3 _ rfl
      clear hd
      rw [Nat.add_zero] at hd0
      go_wp2
      go_quiet (fail)
      go_wp2
      go_roundw
      case rel => exact ⟨k + 1, _, by omega, by go_num, rfl⟩
      case measure => simp [intOf]; omega
    · have hkn : k = n := by omega
      clear hkn
      go_wp2
      go_ret
      exact ⟨rfl, below_drewN (Below.refl _ _) m⟩
end Go.Proofs.Ytjehkjdehkdjcaa
