/- The walks of the program's text of a number and of its FaultText. Conditions: the library's table of powers of ten holds what its text lays. -/
import Derived.Test.YtojmikalnalfbaaGreatDoorTxFC
import Derived.Test.YtojmikalnalfbaaGreatDoorShA
import Derived.Lib.AppendIntMem
namespace Go.Proofs.YtojmikalnalfbaaGreatDoor
open Go.Lib Go.RowKit

theorem str_app3 (a b : List UInt8) : (⟨a.toArray⟩ : ByteArray) ++ (⟨#[32]⟩ ++ ⟨b.toArray⟩) = ⟨(a ++ 32 :: b).toArray⟩ := by
  rw [show (⟨#[32]⟩ : ByteArray) = ⟨[32].toArray⟩ from rfl, str_app, str_app]; rfl
/-- the table of powers reads as laid, now and in every later world -/
def TB (w : World) : Prop := Lib.TabBelow Tryz.prog w.heap.size w "internal/strconv.uint64pow10" .u64 Lib.pow10Tab
theorem TB.up {w w' : World} (h : TB w) (hb : Below w.heap.size w w') : TB w' := fun w'' h' => h w'' (below_next h' hb (Nat.le_refl _))
theorem TB.drew {w : World} (h : TB w) : TB w.drew := h.up (Below.refl _ _).drew

set_option maxHeartbeats 1000000 in
theorem text_any (u : Nat) (hu : u < 9223372036854775808) (w : World) (ht : TB w) :
    Calls Tryz.prog 37 #[.int .i64 (u : Int)] w (RetV w (.string ⟨(decDigits u).toArray⟩)) := by
  have hT := ht.here
  have hI := Lib.hid (itoa_nonneg u)
  go_enter Tryz.func37, Tryz.ntmps37
  go_wp2_with (go_at_call 69; refine (Tryz.strconv_FormatInt_10 (u : Int) (by omega) (by omega) _ hT).mono ?_; rintro e w1 ⟨rfl, k, os, rfl⟩)
  go_ret
  exact ⟨ret_str (by rw [hI.out]), Lib.below_grow _ _ (Nat.le_refl _) _ _⟩

set_option maxHeartbeats 1000000 in
theorem iHasLen_any (k : Int) (h : 1 ≤ k ∧ k ≤ 6) (w : World) : Calls Tryz.prog 38 #[.int .i64 k] w (RetV w (.bool (hasLen k))) := by
  have ca : k = 1 ∨ k = 2 ∨ k = 3 ∨ k = 4 ∨ k = 5 ∨ k = 6 := by omega
  clear h
  rcases ca with rfl | rfl | rfl | rfl | rfl | rfl
  all_goals
    go_enter Tryz.func38, Tryz.ntmps38
    go_wp2
    go_ret
    exact ⟨rfl, by go_grown⟩

set_option maxHeartbeats 1000000 in
theorem iHasVal_any (k : Int) (h : 1 ≤ k ∧ k ≤ 6) (w : World) : Calls Tryz.prog 39 #[.int .i64 k] w (RetV w (.bool (hasVal k))) := by
  have ca : k = 1 ∨ k = 2 ∨ k = 3 ∨ k = 4 ∨ k = 5 ∨ k = 6 := by omega
  clear h
  rcases ca with rfl | rfl | rfl | rfl | rfl | rfl
  all_goals
    go_enter Tryz.func39, Tryz.ntmps39
    go_wp2
    go_ret
    exact ⟨rfl, by go_grown⟩

set_option maxRecDepth 20000 in
set_option maxHeartbeats 8000000 in
theorem iFaultText_any (k p l v : Int) (w : World) (ht : TB w) :
    Calls Tryz.prog 11 #[.agg #[.int .i64 k, .int .i64 p, .int .i64 l, .int .i64 v]] w (RetV w (.string ⟨(ftxt ⟨k, p, l, v⟩).toArray⟩)) := by
  rcases bool_cases (isFault ⟨k, p, l, v⟩) with hf | hf
  case inr =>
    have E := Lib.hid (ftxt_no hf)
    clear ht
    go_enter Tryz.func11, Tryz.ntmps11
    go_wp2_with (go_at_call 17; refine (iIsFault_any _ _ _ _ _).mono ?_; rw [hf]; rintro e w1 ⟨rfl, hb1⟩)
    go_ret
    exact ⟨ret_str (by rw [E.out]), below_next hb1 (below_alloc (below_alloc (Below.refl _ _) (Nat.le_refl _) _) (Nat.le_refl _) _) (Nat.le_refl _)⟩
  obtain ⟨a1, a2, a3, a4, a5, a6, a7, a8, a9, a10⟩ := isFault_fields hf
  dsimp only at a1 a2 a3 a4 a5 a6 a7 a8
  obtain ⟨j, rfl⟩ : ∃ j : Nat, k = (j : Int) + 1 := ⟨(k - 1).toNat, by omega⟩
  obtain ⟨p, rfl⟩ : ∃ u : Nat, p = (u : Int) := ⟨p.toNat, by omega⟩
  obtain ⟨l, rfl⟩ : ∃ u : Nat, l = (u : Int) := ⟨l.toNat, by omega⟩
  obtain ⟨v, rfl⟩ : ∃ u : Nat, v = (u : Int) := ⟨v.toNat, by omega⟩
  have hj6 : j < 6 := by omega
  have E := Lib.hid (ftxt_yes hf)
  clear a9 a10
  obtain ⟨u1, hu1⟩ : ∃ X, (w.alloc (.cells #[.int .i64 ((j : Int) + 1), .int .i64 (p : Int), .int .i64 (l : Int), .int .i64 (v : Int)] 26)).alloc (.cells #[.string ⟨#[102, 108, 105, 112]⟩, .string ⟨#[105, 110, 118, 101, 114, 116]⟩, .string ⟨#[100, 114, 111, 112]⟩, .string ⟨#[105, 110, 115, 101, 114, 116]⟩, .string ⟨#[115, 105, 108, 101, 110, 99, 101]⟩, .string ⟨#[114, 101, 112, 108, 97, 99, 101]⟩] 55) = X := ⟨_, rfl⟩
  have K := Lib.hid (show BlkL u1 w.heap.size 26 [.int .i64 ((j : Int) + 1), .int .i64 (p : Int), .int .i64 (l : Int), .int .i64 (v : Int)] from hu1 ▸ (BlkL.new w _ _ rfl).alloc _)
  have KW := Lib.hid (show BlkL u1 (w.heap.size + 1) 55 wordCells from hu1 ▸ BlkL.new (w.alloc _) _ _ (by simp))
  have B := Lib.hid (show Below w.heap.size w u1 from hu1 ▸ below_alloc (below_alloc (Below.refl _ _) (Nat.le_refl _) _) (Nat.le_refl _) _)
  have HT := Lib.hid (ht.up B.out)
  clear ht
  have c0 := K.out.c 0 rfl; have c1 := K.out.c 1 rfl; have c2 := K.out.c 2 rfl; have c3 := K.out.c 3 rfl
  go_enter Tryz.func11, Tryz.ntmps11
  go_wp2_with fail
  refine (iIsFault_any _ _ _ _ _).mono ?_
  rw [hf]
  rintro e w1 ⟨rfl, hb⟩
  replace K := Lib.hid (K.out.next hb)
  replace KW := Lib.hid (KW.out.next hb)
  replace B := Lib.hid (below_next hb B.out (Nat.le_refl _))
  replace HT := Lib.hid (HT.out.up hb)
  clear hb hu1 c0 c1 c2 c3
  have c0 := K.out.c 0 rfl; have c1 := K.out.c 1 rfl
  obtain ⟨W, hW⟩ : ∃ x, fword ((j : Int) + 1) = x := ⟨_, rfl⟩
  have hWl : W.length ≤ 7 := hW ▸ fword_len _
  have hPl : (decDigits p).length ≤ 12 := dec_len_le (by omega)
  have HW0 := Lib.hid hW
  have hwj := Lib.hid ((wordCells_get hj6).trans (by rw [HW0.out]))
  have cw := KW.out.c j hwj.out
  have hi1 : IntKind.i64.wrap (j : Int) = (j : Int) := IntWalk.i64_in _ (by omega)
  have hj0 : (0 : Int) ≤ (j : Int) := by omega
  have hj7 : (j : Int) < 6 := by omega
  have hs1 : ¬ 9223372036854775807 < W.length + 1 := by omega
  have hs2 : ¬ 9223372036854775807 < W.length + 1 + (decDigits p).length := by omega
  clear hW
  go_wp2_with fail
  go_cut [4] (fun v3 wc => v3 = .string ⟨(W ++ 32 :: decDigits p).toArray⟩ ∧ BlkL wc w.heap.size 26 [.int .i64 ((j : Int) + 1), .int .i64 (p : Int), .int .i64 (l : Int), .int .i64 (v : Int)] ∧ Below w.heap.size w wc ∧ TB wc)
  case first =>
    go_region_law (first
      | (go_simp; (refine (text_any p (by omega) _ HT.out.drew).mono ?_); rintro e cc ⟨rfl, hb⟩; (have K1 := Lib.hid (BlkL.next hb K.out)); (have KW1 := Lib.hid (BlkL.next hb KW.out)); (have B1 := Lib.hid (below_next hb B.out.drew (Nat.le_refl _))); (have HT1 := Lib.hid (HT.out.drew.up hb)); (have k0 := K1.out.c 0 rfl); (have k1 := KW1.out.c j hwj.out); clear hb))
    all_goals
      go_wp2_with fail
      go_meet
      exact ⟨by rw [show (32 :: decDigits p) = [32] ++ decDigits p from rfl, ← List.append_assoc, ← str_app, ← str_app], K1.out, B1.out, HT1.out⟩
  case rest =>
    obtain ⟨rfl, hk, hb, ht⟩ := hcut
    replace K := Lib.hid hk
    replace B := Lib.hid hb
    replace HT := Lib.hid ht
    clear hk hb ht c0 c1 hi1 cw
    have c0 := K.out.c 0 rfl; have c2 := K.out.c 2 rfl; have c3 := K.out.c 3 rfl
    have hLl : (decDigits l).length ≤ 12 := dec_len_le (by omega)
    have hVl : (decDigits v).length ≤ 12 := dec_len_le (by omega)
    go_wp2_with fail
    refine (iHasLen_any _ ⟨a1, a2⟩ _).mono ?_
    rintro e w2 ⟨rfl, hb⟩
    replace K := Lib.hid (K.out.next hb)
    replace B := Lib.hid (below_next hb B.out (Nat.le_refl _))
    replace HT := Lib.hid (HT.out.up hb)
    clear hb c0 c2 c3
    have c0 := K.out.c 0 rfl; have c2 := K.out.c 2 rfl; have c3 := K.out.c 3 rfl
    rcases kd_flags ⟨a1, a2⟩ with ⟨h1, h2⟩ | ⟨h1, h2⟩ | ⟨h1, h2⟩
    · replace E := Lib.hid (E.out.trans (ftxtL_1 h1 h2))
      rw [h1]
      go_wp2_with fail
      refine (iHasVal_any _ ⟨a1, a2⟩ _).mono ?_
      rw [h2]
      clear h1 h2
      rintro e w3 ⟨rfl, hb⟩
      replace K := Lib.hid (K.out.next hb)
      replace B := Lib.hid (below_next hb B.out (Nat.le_refl _))
      replace HT := Lib.hid (HT.out.up hb)
      clear hb c0 c2 c3
      have c0 := K.out.c 0 rfl; have c2 := K.out.c 2 rfl; have c3 := K.out.c 3 rfl
      go_wp2_with fail
      go_ret
      exact ⟨ret_str (by rw [E.out, HW0.out]; rfl), B.out⟩
    · replace E := Lib.hid (E.out.trans (ftxtL_2 h1 h2))
      rw [h1]
      have q0 : ¬ 9223372036854775807 < 1 + (decDigits l).length := by omega
      have q1 : ¬ 9223372036854775807 < W.length + ((decDigits p).length + 1) + (1 + (decDigits l).length) := by omega
      go_wp2_with fail
      refine (text_any l (by omega) _ HT.out).mono ?_
      rintro e w3 ⟨rfl, hb⟩
      replace K := Lib.hid (K.out.next hb)
      replace B := Lib.hid (below_next hb B.out (Nat.le_refl _))
      replace HT := Lib.hid (HT.out.up hb)
      clear hb c0 c2 c3
      have c0 := K.out.c 0 rfl; have c2 := K.out.c 2 rfl; have c3 := K.out.c 3 rfl
      go_wp2_with fail
      refine (iHasVal_any _ ⟨a1, a2⟩ _).mono ?_
      rw [h2]
      clear h1 h2
      rintro e w4 ⟨rfl, hb⟩
      replace K := Lib.hid (K.out.next hb)
      replace B := Lib.hid (below_next hb B.out (Nat.le_refl _))
      replace HT := Lib.hid (HT.out.up hb)
      clear hb c0 c2 c3
      have c0 := K.out.c 0 rfl; have c2 := K.out.c 2 rfl; have c3 := K.out.c 3 rfl
      go_wp2_with fail
      go_ret
      exact ⟨ret_str (by rw [E.out, HW0.out]; exact str_app3 _ _), B.out⟩
    · replace E := Lib.hid (E.out.trans (ftxtL_3 h1 h2))
      rw [h1]
      have q0 : ¬ 9223372036854775807 < 1 + (decDigits l).length := by omega
      have q1 : ¬ 9223372036854775807 < W.length + ((decDigits p).length + 1) + (1 + (decDigits l).length) := by omega
      have q2 : ¬ 9223372036854775807 < 1 + (decDigits v).length := by omega
      have q3 : ¬ 9223372036854775807 < W.length + ((decDigits p).length + 1) + (1 + (decDigits l).length) + (1 + (decDigits v).length) := by omega
      go_wp2_with fail
      refine (text_any l (by omega) _ HT.out).mono ?_
      rintro e w3 ⟨rfl, hb⟩
      replace K := Lib.hid (K.out.next hb)
      replace B := Lib.hid (below_next hb B.out (Nat.le_refl _))
      replace HT := Lib.hid (HT.out.up hb)
      clear hb c0 c2 c3
      have c0 := K.out.c 0 rfl; have c2 := K.out.c 2 rfl; have c3 := K.out.c 3 rfl
      go_wp2_with fail
      refine (iHasVal_any _ ⟨a1, a2⟩ _).mono ?_
      rw [h2]
      clear h1 h2
      rintro e w4 ⟨rfl, hb⟩
      replace K := Lib.hid (K.out.next hb)
      replace B := Lib.hid (below_next hb B.out (Nat.le_refl _))
      replace HT := Lib.hid (HT.out.up hb)
      clear hb c0 c2 c3
      have c0 := K.out.c 0 rfl; have c2 := K.out.c 2 rfl; have c3 := K.out.c 3 rfl
      go_wp2_with fail
      refine (text_any v (by omega) _ HT.out).mono ?_
      rintro e w5 ⟨rfl, hb⟩
      replace K := Lib.hid (K.out.next hb)
      replace B := Lib.hid (below_next hb B.out (Nat.le_refl _))
      replace HT := Lib.hid (HT.out.up hb)
      clear hb c0 c2 c3
      have c0 := K.out.c 0 rfl; have c2 := K.out.c 2 rfl; have c3 := K.out.c 3 rfl
      go_wp2_with fail
      go_ret
      exact ⟨ret_str (by rw [E.out, HW0.out]; first | (rw [str_app3]; exact str_app3 _ _) | (rw [str_app3]; simp [List.append_assoc])), B.out⟩
end Go.Proofs.YtojmikalnalfbaaGreatDoor
