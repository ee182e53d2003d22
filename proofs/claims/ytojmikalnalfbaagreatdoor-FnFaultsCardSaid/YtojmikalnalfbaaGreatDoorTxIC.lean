/- The walk of the program's ReadFault. Conditions: texts of at most 2^20 bytes; the library's variables hold what its text lays. -/
import Derived.Test.YtojmikalnalfbaaGreatDoorTxMC
import Derived.Deep.LoopGhost
namespace Go.Proofs.YtojmikalnalfbaaGreatDoor
open Go.Lib Go.RowKit

/-- what stands behind the first blank -/
def restL (l : List UInt8) : List UInt8 := (Lib.cut l [32]).2.1
theorem rest_len (l : List UInt8) : (restL l).length ≤ l.length := by
  unfold restL
  by_cases h : (32 : UInt8) ∈ l
  · obtain ⟨p, r, rfl, hp⟩ := first_at h
    rw [cut_yes hp]; simp; omega
  · rw [cut_no h]; simp
/-- the numbers behind the first blank are the numbers behind the first word -/
theorem rest_nums (l : List UInt8) : allNum iNum (spl 32 (restL l)) = allNum iNum (spl 32 l).tail ∨ ((spl 32 l).tail = [] ∧ allNum iNum (spl 32 (restL l)) = none) := by
  unfold restL
  rcases spl_cut 32 l with ⟨h, e⟩ | ⟨p, r, rfl, hp, e⟩
  · refine Or.inr ⟨by rw [e]; rfl, ?_⟩
    rw [cut_no h]
    simp [spl, allNum, iNum, parseIntB]
  · refine Or.inl ?_
    rw [cut_yes hp, e]; rfl
/-- nothing is read -/
theorem rdI_none {s : List UInt8} (h : allNum iNum (spl 32 (restL s)) = none) : rdF s = (⟨0, 0, 0, 0⟩, false) := by
  rcases rest_nums s with h1 | ⟨h1, _⟩
  · exact rdF_nums (f := iNum) (fun u hu => iNum_dec hu) (h1.symm.trans h)
  · exact rdF_many (f := iNum) (L := []) (fun u hu => iNum_dec hu) (by rw [h1]; rfl) (Or.inl (by simp))
theorem rdI_some {s : List UInt8} {L : List Int} (h : allNum iNum (spl 32 (restL s)) = some L) : allNum iNum (spl 32 s).tail = some L ∧ 1 ≤ L.length ∧ s ≠ [] := by
  rcases rest_nums s with h1 | ⟨_, h1⟩
  · refine ⟨h1.symm.trans h, ?_, ?_⟩
    · rw [allNum_len h]
      have := spl_ne 32 (restL s)
      cases hs : spl 32 (restL s) with
      | nil => exact absurd hs this
      | cons a b => simp
    · rintro rfl
      have h2 : restL [] = [] := rfl
      rw [h2] at h
      have h3 : allNum iNum (spl 32 ([] : List UInt8)) = none := by simp [spl, allNum, iNum, parseIntB]
      rw [h3] at h; cases h
  · rw [h1] at h; cases h

set_option maxRecDepth 20000 in
set_option maxHeartbeats 16000000 in
theorem iReadFault_any (s : ByteArray) (w : World) (hs : s.size ≤ 1048576) (hl : LF w) :
    Calls Tryz.prog 12 #[.string s] w (RetV w (aggR (rdF s.data.toList))) := by
  obtain ⟨u1, hu1⟩ : ∃ X, w.alloc (.cells #[.int .i64 0, .int .i64 0, .int .i64 0, .int .i64 0] 26) = X := ⟨_, rfl⟩
  have K := Lib.hid (show BlkL u1 w.heap.size 26 [.int .i64 0, .int .i64 0, .int .i64 0, .int .i64 0] from hu1 ▸ BlkL.new w _ _ rfl)
  have B := Lib.hid (show Below w.heap.size w u1 from hu1 ▸ below_alloc (Below.refl _ _) (Nat.le_refl _) _)
  have HL := Lib.hid (hl.up B.out)
  obtain ⟨_, _, m, hm⟩ := HL.out.er u1 (Below.refl _ _)
  have HC := Lib.hid (Tryz.strings_Cut s ⟨#[32]⟩ m u1 (by omega) hm)
  have HU := Lib.hid hu1
  clear hu1 hl hm
  go_enter Tryz.func12, Tryz.ntmps12
  go_wp2_with (rw [HU.out])
  refine HC.out.mono ?_
  rintro e w1 ⟨rfl, nd, rfl⟩
  have hb : Below u1.heap.size u1 (u1.drewN nd) := below_drewN (Below.refl _ _) nd
  replace K := Lib.hid (K.out.next hb)
  replace B := Lib.hid (below_next hb B.out (Nat.le_refl _))
  replace HL := Lib.hid (HL.out.up hb)
  obtain ⟨w1, hw1⟩ : ∃ x, u1.drewN nd = x := ⟨_, rfl⟩
  rw [hw1] at K B HL ⊢
  clear hb HC HU hw1
  obtain ⟨R, hR⟩ : ∃ R : ByteArray, (⟨(Lib.cut s.data.toList (⟨#[32]⟩ : ByteArray).data.toList).2.1.toArray⟩ : ByteArray) = R := ⟨_, rfl⟩
  have HRL := Lib.hid (show R.data.toList = restL s.data.toList by rw [← hR]; rfl)
  have hRs : R.size ≤ 1048576 := by
    have := rest_len s.data.toList
    rw [← HRL.out, ← Lib.size_eq, ← Lib.size_eq] at this
    omega
  rw [hR]
  obtain ⟨c1, hc1⟩ : ∃ x, (⟨(Lib.cut s.data.toList (⟨#[32]⟩ : ByteArray).data.toList).1.toArray⟩ : ByteArray) = x := ⟨_, rfl⟩
  obtain ⟨c2, hc2⟩ : ∃ x, (Lib.cut s.data.toList (⟨#[32]⟩ : ByteArray).data.toList).2.2 = x := ⟨_, rfl⟩
  rw [hc1, hc2]
  clear hR hc1 hc2
  go_wp2_with fail
  obtain ⟨Q, hQ⟩ : ∃ Q, allNum iNum (spl 32 (restL s.data.toList)) = Q := ⟨_, rfl⟩
  have HQ := Lib.hid hQ
  refine (numbersIn_any R hRs _ HL.out).mono ?_
  rw [HRL.out, hQ]
  intro e w2 h2
  obtain ⟨v5, v6, rfl, hN, hb⟩ := h2.parts
  have K1 := K
  have B1 := B
  have HL1 := HL
  replace K := Lib.hid (K.out.next hb)
  replace B := Lib.hid (below_next hb B.out (Nat.le_refl _))
  replace HL := Lib.hid (HL.out.up hb)
  have HB1 := Lib.hid hb
  have hz2 := hb.size
  have lt1 : w.heap.size < w1.heap.size := K1.out.lt
  clear h2 hb hQ
  have k0 := K.out.c 0 rfl; have k1 := K.out.c 1 rfl; have k2 := K.out.c 2 rfl; have k3 := K.out.c 3 rfl
  have kf := K.out.free
  have lt0 : w.heap.size < w2.heap.size := K.out.lt
  rcases Q with _ | L
  case none =>
    obtain ⟨rfl, rfl⟩ := hN
    have E := Lib.hid (rdI_none HQ.out)
    go_wp2_with fail
    rw [E.out]
    exact bodyPost_ret (v := aggR (⟨0, 0, 0, 0⟩, false)) (by simp [aggR, results, Tryz.results12, go_sem, *]) rfl ⟨rfl, below_set4 B.out (Nat.le_refl _) _ _ _ _⟩
  obtain ⟨A3, c3, rfl, rfl, hown3⟩ := hN
  obtain ⟨hq1, hq2, hq3⟩ := rdI_some HQ.out
  have HRS := Lib.hid hq1
  have HNE := Lib.hid hq3
  clear hq1 hq3
  by_cases hL : 3 < L.length
  case pos =>
    have E := Lib.hid (rdF_many (f := iNum) (fun u hu => iNum_dec hu) HRS.out (Or.inr hL))
    have hq : (3 : Int) < (L.length : Int) := by omega
    go_wp2_with fail
    rw [E.out]
    exact bodyPost_ret (v := aggR (⟨0, 0, 0, 0⟩, false)) (by simp [aggR, results, Tryz.results12, go_sem, *]) rfl ⟨rfl, below_set4 B.out (Nat.le_refl _) _ _ _ _⟩
  have hL3 : ¬ (3 : Int) < (L.length : Int) := by omega
  have hoa := hown3.alloc (.cells #[.int .i64 0, .int .i64 0] 2)
  have hr2 := RI.two w2 2
  have hza : w1.heap.size ≤ (w2.alloc (.cells #[.int .i64 0, .int .i64 0] 2)).heap.size := by simp; omega
  have hbw : Below w1.heap.size w1 (w2.alloc (.cells #[.int .i64 0, .int .i64 0] 2)) := below_alloc HB1.out (Nat.le_refl _) _
  clear k0 k1 k2 k3 kf K B
  go_wp2_with (at_builtin; refine wpl_appR _ Tryz.underlying24 infoInt rfl _ _ rfl w1.heap.size _ L.length _ L rfl hoa _ 2 _ _ [0, 0] rfl hr2 (fun h => by cases h) (by omega) hza ?_; intro A4 c4 w4 hown4 hB4 hg4)
  obtain ⟨g4, rfl, hg5, hg6⟩ := hown4.form (by omega)
  have HO5 := Lib.hid hown4
  have HB5 := Lib.hid (hbw.trans (hB4 _ (Nat.le_refl _)))
  have m0 := hown4.cell (show 0 < L.length + 2 by omega)
  have m1 := hown4.cell (show 1 < L.length + 2 by omega)
  have m2 := hown4.cell (show 2 < L.length + 2 by omega)
  obtain ⟨a, ha⟩ : ∃ a, gi (L ++ [0, 0]) 0 = a := ⟨_, rfl⟩
  obtain ⟨b, hb'⟩ : ∃ a, gi (L ++ [0, 0]) 1 = a := ⟨_, rfl⟩
  obtain ⟨d, hd⟩ : ∃ a, gi (L ++ [0, 0]) 2 = a := ⟨_, rfl⟩
  have HF := Lib.hid (show ∀ k : Int, fOf L k = ⟨k, a, b, d⟩ by intro k; unfold fOf; rw [ha, hb', hd])
  rw [ha] at m0
  rw [hb'] at m1
  rw [hd] at m2
  have hl0 : (0 : Int) < (L.length : Int) + 2 := by omega
  have hl1 : (1 : Int) < (L.length : Int) + 2 := by omega
  have hl2 : (2 : Int) < (L.length : Int) + 2 := by omega
  have n0 : ∀ o, (w4.alloc o).cell? ⟨g4, 0, none⟩ = some (.int .i64 a) := fun o => cell?_alloc_old o m0
  have n1 : ∀ o, (w4.alloc o).cell? ⟨g4, 1, none⟩ = some (.int .i64 b) := fun o => cell?_alloc_old o m1
  have n2 : ∀ o, (w4.alloc o).cell? ⟨g4, 2, none⟩ = some (.int .i64 d) := fun o => cell?_alloc_old o m2
  clear hown4 hB4 hg4 hbw hoa hr2 hza hown3 HB1 ha hb' hd hg6 lt0 HL
  go_wp2_with fail
  go_cut [9] (fun v wd => ∃ gb, v = .pointer (some ⟨gb, 0, none⟩) ∧ w1.heap.size ≤ gb ∧ BlkL wd gb 26 [.int .i64 0, .int .i64 a, .int .i64 b, .int .i64 d] ∧ Below w1.heap.size w1 wd)
  case first =>
    go_region
    all_goals
      go_wp2_with fail
      go_meet
      first
      | exact ⟨_, rfl, HB5.out.size, BlkL.new w4 _ _ rfl, below_alloc HB5.out (Nat.le_refl _) _⟩
      | exact ⟨_, rfl, HB5.out.size, BlkL.new w4 _ _ rfl, (below_alloc HB5.out (Nat.le_refl _) _).drew⟩
  case rest =>
    obtain ⟨gb, rfl, hgb, hk6, hb6⟩ := hcut
    have KB := Lib.hid hk6
    have HB6 := Lib.hid hb6
    have f0 := hk6.c 0 rfl
    have ff := hk6.free
    clear m0 m1 m2 n0 n1 n2 HO5 HB5 hk6 hb6
    go_wp2_with fail
    have KB2 := Lib.hid (KB.out.set 0 (.int .i64 1))
    have HB7 := Lib.hid (HB6.out.setCell (p := ⟨gb, 0, none⟩) hgb (.int .i64 1))
    clear f0 ff KB HB6
    go_loopg [10] 6 (fun gk t wr => ∃ k : Nat, gk = 7 - k ∧ 1 ≤ k ∧ k ≤ 7 ∧ BlkL wr gb 26 [.int .i64 (k : Int), .int .i64 a, .int .i64 b, .int .i64 d] ∧ Below w1.heap.size w1 wr ∧ (∀ j : Nat, j + 1 < k → ftxt (fOf L ((j : Int) + 1)) = s.data.toList → s.data.toList = []))
    case atStart => exact ⟨1, rfl, by omega, by omega, KB2.out, HB7.out, fun j hj => by omega⟩
    case round =>
      obtain ⟨k, rfl, hk1, hk7, hkb, hb, hno⟩ := hrel
      have HNO := Lib.hid hno
      have KB := Lib.hid hkb
      have HB := Lib.hid hb
      have f0 := hkb.c 0 rfl; have f1 := hkb.c 1 rfl; have f2 := hkb.c 2 rfl; have f3 := hkb.c 3 rfl
      clear hno hkb hb KB2 HB7
      by_cases hlt : k ≤ 6
      case neg =>
        have E := Lib.hid (rdF_none (f := iNum) (fun u hu => iNum_dec hu) HRS.out (fun j hj => HNO.out j (by omega)))
        have K := Lib.hid (K1.out.next HB.out)
        have B := Lib.hid (below_next HB.out B1.out (Nat.le_refl _))
        have k0 := K.out.c 0 rfl; have k1 := K.out.c 1 rfl; have k2 := K.out.c 2 rfl; have k3 := K.out.c 3 rfl
        have kf := K.out.free
        have lt0 : w.heap.size < wr.heap.size := K.out.lt
        go_wp2_with fail
        rw [E.out]
        exact bodyPost_ret (v := aggR (⟨0, 0, 0, 0⟩, false)) (by simp [aggR, results, Tryz.results12, go_sem, *]) rfl ⟨rfl, below_set4 B.out (Nat.le_refl _) _ _ _ _⟩
      have hk6 : (k : Int) ≤ 6 := by omega
      obtain ⟨T, hT⟩ : ∃ T, ftxt ⟨(k : Int), a, b, d⟩ = T := ⟨_, rfl⟩
      have HT := Lib.hid hT
      clear hT
      go_wp2_with fail
      refine (iFaultText_any _ _ _ _ _ (HL1.out.up HB.out).tb).mono ?_
      rw [HT.out]
      rintro e w7 ⟨rfl, hb⟩
      have HB8 := Lib.hid (HB.out.trans (hb.mono HB.out.size))
      have KB8 := Lib.hid (KB.out.next hb)
      clear hb f0 f1 f2 f3 KB HB
      have f0 := KB8.out.c 0 rfl; have f1 := KB8.out.c 1 rfl; have f2 := KB8.out.c 2 rfl; have f3 := KB8.out.c 3 rfl
      by_cases he : T = s.data.toList
      case neg =>
        have hq : (T == s.toList) = false := by rw [beq_eq_false_iff_ne, Lib.toList_data]; exact he
        have E := Lib.hid (show ∀ j : Nat, j + 1 < k + 1 → ftxt (fOf L ((j : Int) + 1)) = s.data.toList → s.data.toList = [] by
          intro j hj
          rcases (by omega : j + 1 < k ∨ j + 1 = k) with h1 | h1
          · exact HNO.out j h1
          · intro h2
            rw [HF.out, show ((j : Int) + 1) = (k : Int) by omega, HT.out] at h2
            exact absurd h2 he)
        have ff := KB8.out.free
        have hwk : IntKind.i64.wrap ((k : Int) + 1) = (k : Int) + 1 := IntWalk.i64_in _ (by omega)
        have KB9 := Lib.hid (KB8.out.set 0 (.int .i64 ((k : Int) + 1)))
        have HB9 := Lib.hid (HB8.out.setCell (p := ⟨gb, 0, none⟩) hgb (.int .i64 ((k : Int) + 1)))
        clear he
        go_wp2_with fail
        all_goals go_roundg (7 - (k + 1))
        all_goals first
          | exact ⟨k + 1, rfl, by omega, by omega, KB9.out, HB9.out, E.out⟩
          | omega
      · have hq : (T == s.toList) = true := by rw [beq_iff_eq, Lib.toList_data]; exact he
        have hT0 : T.isEmpty = false := by rw [he]; cases hs' : s.data.toList with
          | nil => exact absurd hs' HNE.out
          | cons x y => rfl
        have E := Lib.hid (ftxt_hit (g := ⟨(k : Int), a, b, d⟩) (HT.out.trans he) HNE.out)
        have K := Lib.hid (K1.out.next HB8.out)
        have Bz := Lib.hid (below_next HB8.out B1.out (Nat.le_refl _))
        have k0 := K.out.c 0 rfl; have k1 := K.out.c 1 rfl; have k2 := K.out.c 2 rfl; have k3 := K.out.c 3 rfl
        have kf := K.out.free
        have lt0 : w.heap.size < w7.heap.size := K.out.lt
        clear he
        go_wp2_with fail
        rw [E.out]
        exact bodyPost_ret (v := aggR (⟨(k : Int), a, b, d⟩, true)) (by simp [aggR, results, Tryz.results12, go_sem, *]) rfl ⟨rfl, below_set4 Bz.out (Nat.le_refl _) _ _ _ _⟩
end Go.Proofs.YtojmikalnalfbaaGreatDoor
