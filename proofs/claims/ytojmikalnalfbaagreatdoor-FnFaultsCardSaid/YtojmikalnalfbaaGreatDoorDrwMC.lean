/- What the reference's draws of FnFaults hand back, at the law's level. Conditions: codes of at most 2^40 bytes. -/
import Derived.Test.YtojmikalnalfbaaGreatDoorDrwLC
import Derived.Test.YtojmikalnalfbaaGreatDoorTxFC
namespace Go.Proofs.YtojmikalnalfbaaGreatDoor
open Go.RowKit
/-- a drawn list and a drawn fault -/
def TopIF' (w : World) (N : Nat) (e : Ending) (w' : World) : Prop :=
  ∃ A n c zs f, e = .returned (.tuple #[.slice A n c, .agg #[.int .i64 (Flt.kd f), .int .i64 f.pos, .int .i64 f.len, .int .i64 f.val]]) ∧ OwnI 2 w' w.heap.size A n c zs ∧ n ≤ N ∧ Below w.heap.size w w'

set_option maxRecDepth 20000 in
set_option maxHeartbeats 8000000 in
theorem drawApplyFault_any (A : Option Addr) (n c : Nat) (bs : List Int) (w : World) (h : RB w w.heap.size A n bs) (hn : n ≤ 1099511627776) :
    Calls Tryz.prog 6 #[.slice A n c] w (TopIF' w 8200) := by
  have hba := (Below.refl w.heap.size w).alloc (Nat.le_refl _) (o := .cells #[.int .i64 0, .int .i64 0, .int .i64 0, .int .i64 0] 26)
  have hz := w.size_alloc (.cells #[.int .i64 0, .int .i64 0, .int .i64 0, .int .i64 0] 26)
  go_enter Tryz.func6, Tryz.ntmps6
  go_wp2_with fail
  refine (from_any A n c bs _ ((h.below hba (Nat.le_refl _)).more hba.size) hn).mono ?_
  rintro e w0 ⟨g, rfl, hs1, hg, hb1⟩
  have hl := hs1.lt
  have K0 := Lib.hid ((Blk4.new w 26 (.int .i64 0) (.int .i64 0) (.int .i64 0) (.int .i64 0)).next hb1)
  have hgR : g ≠ w.heap.size := by omega
  have hb0 : Below w.heap.size w w0 := below_next hb1 hba (Nat.le_refl _)
  have HB0 := Lib.hid hb0
  have hR0 : w.heap.size < w0.heap.size := K0.out.lt
  have hgw : w.heap.size ≤ g := by omega
  clear h hn hba hb1 hb0
  go_wp2_with fail
  refine (drawBits_any g 30 _ hs1 (by omega)).mono ?_
  rintro e w1 ⟨A1, n1, c1, zs1, rfl, hown1, hn1, d1⟩
  have K1 := Lib.hid (K0.out.dr d1 hgR)
  go_wp2_with fail
  refine (drawFault_any g n1 _ d1.src (by omega)).mono ?_
  rintro e w2 ⟨⟨k, p, l, v⟩, rfl, d2⟩
  have K2 := Lib.hid (K1.out.dr d2 hgR)
  have HO2 := Lib.hid (hown1.dr d2 hl)
  have D2 := Lib.hid (d2.next d1)
  clear d1 d2 hown1 K0 K1
  dsimp only
  have k0 := K2.out.c0; have k1 := K2.out.c1; have k2 := K2.out.c2; have k3 := K2.out.c3; have fk := K2.out.free
  go_wp2_with fail
  refine bp_forget (fun w' => Blk4 w' w.heap.size 26 (.int .i64 k) (.int .i64 p) (.int .i64 l) (.int .i64 v) ∧ OwnI 2 w' w0.heap.size A1 n1 c1 zs1 ∧ Below w.heap.size w w') ?_ ?_
  · exact ⟨K2.out.all, ((((HO2.out.other (p := ⟨w.heap.size, 0, none⟩) hR0 _).other (p := ⟨w.heap.size, 1, none⟩) hR0 _).other (p := ⟨w.heap.size, 2, none⟩) hR0 _).other (p := ⟨w.heap.size, 3, none⟩) hR0 _),
      (((((D2.out.top HB0.out hgw).setCell (p := ⟨w.heap.size, 0, none⟩) (Nat.le_refl _) _).setCell (p := ⟨w.heap.size, 1, none⟩) (Nat.le_refl _) _).setCell (p := ⟨w.heap.size, 2, none⟩) (Nat.le_refl _) _).setCell (p := ⟨w.heap.size, 3, none⟩) (Nat.le_refl _) _)⟩
  rintro wz ⟨kz, oz, bz⟩
  have q0 := kz.c0
  have q1 := kz.c1
  have q2 := kz.c2
  have q3 := kz.c3
  exact bodyPost_ret (v := .tuple #[.slice A1 n1 c1, .agg #[.int .i64 k, .int .i64 p, .int .i64 l, .int .i64 v]]) (by simp [results, Tryz.results6, go_sem, q0, q1, q2, q3]) rfl ⟨A1, n1, c1, zs1, ⟨k, p, l, v⟩, rfl, oz.weaken (Nat.le_of_lt hR0), by omega, bz⟩

set_option maxHeartbeats 8000000 in
theorem drawReadFault_any (A : Option Addr) (n c : Nat) (bs : List Int) (w : World) (h : RB w w.heap.size A n bs) (hn : n ≤ 1099511627776) :
    Calls Tryz.prog 13 #[.slice A n c] w (TopS w) := by
  go_enter Tryz.func13, Tryz.ntmps13
  go_wp2_with fail
  refine (from_any A n c bs _ h hn).mono ?_
  rintro e w1 ⟨g, rfl, hs1, hg, hb1⟩
  go_wp2_with fail
  refine (drawFault_any g 30 _ hs1 (by omega)).mono ?_
  rintro e w2 ⟨⟨k, p, l, v⟩, rfl, d2⟩
  dsimp only
  go_wp2_with fail
  refine (sFaultText_any k p l v _).mono ?_
  have hT := ftxt_len ⟨k, p, l, v⟩
  rintro e w3 ⟨rfl, hb3⟩
  have d3 := d2.below hb3
  obtain ⟨T, hTT⟩ : ∃ T : ByteArray, (⟨(ftxt ⟨k, p, l, v⟩).toArray⟩ : ByteArray) = T := ⟨_, rfl⟩
  have hTs : T.size ≤ 46 := by rw [← hTT, mk_size]; exact hT
  rw [hTT]
  clear hTT hT
  go_wp2_with fail
  refine (next_any g _ _ d3.src).mono ?_
  rintro e w4 ⟨x, rfl, hx, d4⟩
  have d5 := d4.next d3
  rcases Nat.eq_zero_or_pos x with h0 | h0
  · subst h0
    go_wp2_with fail
    refine (damage_any g T _ d5.src (by omega)).mono ?_
    rintro e w5 ⟨r, rfl, hr, d6⟩
    go_wp2
    go_ret
    exact ⟨r, rfl, by omega, (d6.next d5).top hb1 hg⟩
  · have hx0 : ((x : Int) == 0) = false := by rw [beq_eq_false_iff_ne]; omega
    go_wp2_with fail
    go_ret
    exact ⟨T, rfl, by omega, d5.top hb1 hg⟩
end Go.Proofs.YtojmikalnalfbaaGreatDoor
