/- The walk of the reference's FaultText. Conditions: none. -/
import Derived.Test.YtojmikalnalfbaaGreatDoorTxDC
import Derived.Deep.DeepCutAuto
namespace Go.Proofs.YtojmikalnalfbaaGreatDoor
open Go.Lib Go.RowKit

theorem ftxt_no {f : Flt} (h : isFault f = false) : ftxt f = [] := by unfold ftxt; rw [h]; rfl
theorem ftxt_yes {f : Flt} (h : isFault f = true) : ftxt f = ftxtL f := by unfold ftxt; rw [h]; rfl
theorem str_app2 (a b : List UInt8) : (⟨a.toArray⟩ : ByteArray) ++ ⟨#[32]⟩ ++ ⟨b.toArray⟩ = ⟨(a ++ 32 :: b).toArray⟩ := by
  rw [show (⟨#[32]⟩ : ByteArray) = ⟨[32].toArray⟩ from rfl, str_app, str_app]; simp
theorem ret_str {a b : ByteArray} (h : a = b) : Ending.returned (Value.string a) = Ending.returned (Value.string b) := by rw [h]
theorem ftxtL_1 {f : Flt} (h1 : hasLen f.kd = false) (h2 : hasVal f.kd = false) : ftxtL f = fword f.kd ++ 32 :: decDigits f.pos.toNat := by
  unfold ftxtL fnums; rw [h1, h2]; simp [glue]
theorem ftxtL_2 {f : Flt} (h1 : hasLen f.kd = true) (h2 : hasVal f.kd = false) : ftxtL f = fword f.kd ++ 32 :: decDigits f.pos.toNat ++ 32 :: decDigits f.len.toNat := by
  unfold ftxtL fnums; rw [h1, h2]; simp [glue]
theorem ftxtL_3 {f : Flt} (h1 : hasLen f.kd = true) (h2 : hasVal f.kd = true) : ftxtL f = fword f.kd ++ 32 :: decDigits f.pos.toNat ++ 32 :: decDigits f.len.toNat ++ 32 :: decDigits f.val.toNat := by
  unfold ftxtL fnums; rw [h1, h2]; simp [glue]
theorem fword_len (k : Int) : (fword k).length ≤ 7 := by
  unfold fword
  repeat' split
  all_goals decide

set_option maxRecDepth 20000 in
set_option maxHeartbeats 8000000 in
theorem sFaultText_any (k p l v : Int) (w : World) :
    Calls Tryz.prog 16 #[.agg #[.int .i64 k, .int .i64 p, .int .i64 l, .int .i64 v]] w (RetV w (.string ⟨(ftxt ⟨k, p, l, v⟩).toArray⟩)) := by
  rcases bool_cases (isFault ⟨k, p, l, v⟩) with hf | hf
  case inr =>
    have E := Lib.hid (ftxt_no hf)
    go_enter Tryz.func16, Tryz.ntmps16
    go_wp2_with (go_at_call 18; refine (sIsFault_any _ _ _ _ _).mono ?_; rw [hf]; rintro e w1 ⟨rfl, hb1⟩)
    go_ret
    exact ⟨by rw [E.out]; rfl, below_next hb1 (below_alloc (Below.refl _ _) (Nat.le_refl _) _) (Nat.le_refl _)⟩
  obtain ⟨a1, a2, a3, a4, a5, a6, a7, a8, a9, a10⟩ := isFault_fields hf
  dsimp only at a1 a2 a3 a4 a5 a6 a7 a8
  obtain ⟨j, rfl⟩ : ∃ j : Nat, k = (j : Int) + 1 := ⟨(k - 1).toNat, by omega⟩
  obtain ⟨p, rfl⟩ : ∃ u : Nat, p = (u : Int) := ⟨p.toNat, by omega⟩
  obtain ⟨l, rfl⟩ : ∃ u : Nat, l = (u : Int) := ⟨l.toNat, by omega⟩
  obtain ⟨v, rfl⟩ : ∃ u : Nat, v = (u : Int) := ⟨v.toNat, by omega⟩
  have hj6 : j < 6 := by omega
  have E := Lib.hid (ftxt_yes hf)
  clear a9 a10
  go_enter Tryz.func16, Tryz.ntmps16
  obtain ⟨u1, hu1⟩ : ∃ X, w.alloc (.cells #[.int .i64 ((j : Int) + 1), .int .i64 (p : Int), .int .i64 (l : Int), .int .i64 (v : Int)] 26) = X := ⟨_, rfl⟩
  have K := Lib.hid (show BlkL u1 w.heap.size 26 [.int .i64 ((j : Int) + 1), .int .i64 (p : Int), .int .i64 (l : Int), .int .i64 (v : Int)] from hu1 ▸ BlkL.new w _ _ rfl)
  have B := Lib.hid (show Below w.heap.size w u1 from hu1 ▸ below_alloc (Below.refl _ _) (Nat.le_refl _) _)
  have c0 := K.out.c 0 rfl; have c1 := K.out.c 1 rfl; have c2 := K.out.c 2 rfl; have c3 := K.out.c 3 rfl
  go_wp2_with (first | rw [hu1] | (go_at_call 18; refine (sIsFault_any _ _ _ _ _).mono ?_; rw [hf]; rintro e w1 ⟨rfl, hb1⟩))
  replace K := Lib.hid (K.out.next hb1)
  replace B := Lib.hid (below_next hb1 B.out (Nat.le_refl _))
  clear c0 c1 c2 c3 hb1 hu1
  have c0 := K.out.c 0 rfl; have c1 := K.out.c 1 rfl
  obtain ⟨W, hW⟩ : ∃ x, fword ((j : Int) + 1) = x := ⟨_, rfl⟩
  have hWl : W.length ≤ 7 := hW ▸ fword_len _
  have hPl : (decDigits p).length ≤ 12 := dec_len_le (by omega)
  have HW0 := Lib.hid hW
  have hi1 : IntKind.i64.wrap (j : Int) = (j : Int) := IntWalk.i64_in _ (by omega)
  have hj0 : (0 : Int) ≤ (j : Int) := by omega
  have hj7 : (j : Int) < 6 := by omega
  have hs1 : ¬ 9223372036854775807 < W.length + 1 := by omega
  have hs2 : ¬ 9223372036854775807 < W.length + 1 + (decDigits p).length := by omega
  have hwj := Lib.hid (wordCells_get hj6)
  go_cut [3] (fun v3 wc => v3 = .string ⟨(W ++ 32 :: decDigits p).toArray⟩ ∧ BlkL wc w.heap.size 26 [.int .i64 ((j : Int) + 1), .int .i64 (p : Int), .int .i64 (l : Int), .int .i64 (v : Int)] ∧ Below w.heap.size w wc)
  case first =>
    go_region_law (first
      | (go_simp; (refine (words_any _).mono ?_); rintro e cc ⟨bw, rfl, hbk, hb⟩; (have K1 := Lib.hid (BlkL.next hb K.out)); (have B1 := Lib.hid (below_next hb B.out.drew (Nat.le_refl _))); (have k0 := K1.out.c 0 rfl); (have k1 := K1.out.c 1 rfl); (have cw := hbk.c j (hwj.out.trans (by rw [HW0.out]))); (have HBK := Lib.hid hbk); clear hbk hb)
      | (go_simp; (refine (l01Dec_any p p _ (Nat.le_refl _) (by omega)).mono ?_); rintro e cd ⟨rfl, hd⟩; (have K2 := Lib.hid (BlkL.next hd K1.out)); (have B2 := Lib.hid (below_next hd B1.out (Nat.le_refl _))); (have m0 := K2.out.c 0 rfl); (have cv := (BlkL.next hd HBK.out).c j (hwj.out.trans (by rw [HW0.out]))); clear hd))
    all_goals
      go_wp2_with fail
      go_meet
      exact ⟨by rw [show (32 :: decDigits p) = [32] ++ decDigits p from rfl, ← List.append_assoc, ← str_app, ← str_app], K2.out, B2.out⟩
  case rest =>
    obtain ⟨rfl, hk, hb⟩ := hcut
    replace K := Lib.hid hk
    replace B := Lib.hid hb
    clear hk hb c0 c1 hi1
    have c0 := K.out.c 0 rfl
    go_wp2_with fail
    refine (kflags_any _ _).mono ?_
    rintro e w2 ⟨rfl, hb⟩
    replace K := Lib.hid (K.out.next hb)
    replace B := Lib.hid (below_next hb B.out (Nat.le_refl _))
    clear c0 hb
    have c2 := K.out.c 2 rfl; have c3 := K.out.c 3 rfl
    rcases kd_flags ⟨a1, a2⟩ with ⟨h1, h2⟩ | ⟨h1, h2⟩ | ⟨h1, h2⟩
    all_goals
      have hLl : (decDigits l).length ≤ 12 := dec_len_le (by omega)
      have hVl : (decDigits v).length ≤ 12 := dec_len_le (by omega)
    · replace E := Lib.hid (E.out.trans (ftxtL_1 h1 h2))
      rw [h1, h2]
      clear h1 h2
      go_wp2_with fail
      go_ret
      exact ⟨by rw [E.out, ← HW0.out]; rfl, B.out⟩
    · replace E := Lib.hid (E.out.trans (ftxtL_2 h1 h2))
      rw [h1, h2]
      clear h1 h2
      have q1 : ¬ 9223372036854775807 < W.length + ((decDigits p).length + 1) + 1 := by omega
      have q2 : ¬ 9223372036854775807 < W.length + ((decDigits p).length + 1) + 1 + (decDigits l).length := by omega
      go_wp2_with fail
      refine (l01Dec_any l l _ (Nat.le_refl _) (by omega)).mono ?_
      rintro e w3 ⟨rfl, hb⟩
      replace B := Lib.hid (below_next hb B.out (Nat.le_refl _))
      go_wp2_with fail
      go_ret
      exact ⟨ret_str (by rw [E.out, HW0.out]; exact str_app2 _ _), B.out⟩
    · replace E := Lib.hid (E.out.trans (ftxtL_3 h1 h2))
      rw [h1, h2]
      clear h1 h2
      have q1 : ¬ 9223372036854775807 < W.length + ((decDigits p).length + 1) + 1 := by omega
      have q2 : ¬ 9223372036854775807 < W.length + ((decDigits p).length + 1) + 1 + (decDigits l).length := by omega
      have q3 : ¬ 9223372036854775807 < W.length + ((decDigits p).length + 1) + ((decDigits l).length + 1) + 1 := by omega
      have q4 : ¬ 9223372036854775807 < W.length + ((decDigits p).length + 1) + ((decDigits l).length + 1) + 1 + (decDigits v).length := by omega
      go_wp2_with fail
      refine (l01Dec_any l l _ (Nat.le_refl _) (by omega)).mono ?_
      rintro e w3 ⟨rfl, hb⟩
      replace K := Lib.hid (K.out.next hb)
      replace B := Lib.hid (below_next hb B.out (Nat.le_refl _))
      clear c2 c3
      have c3 := K.out.c 3 rfl
      have hS := str_app2 (W ++ 32 :: decDigits p) (decDigits l)
      go_wp2_with fail
      refine (l01Dec_any v v _ (Nat.le_refl _) (by omega)).mono ?_
      rintro e w4 ⟨rfl, hb⟩
      replace B := Lib.hid (below_next hb B.out (Nat.le_refl _))
      go_wp2_with fail
      go_ret
      exact ⟨ret_str (by rw [E.out, HW0.out]; first | exact str_app2 _ _ | (rw [str_app2]; simp [List.append_assoc])), B.out⟩
end Go.Proofs.YtojmikalnalfbaaGreatDoor
