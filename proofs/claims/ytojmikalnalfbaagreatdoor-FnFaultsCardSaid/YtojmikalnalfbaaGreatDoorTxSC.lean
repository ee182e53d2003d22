/- The walk of the reference's ScriptText. Conditions: lists of at most 2^40 faults. -/
import Derived.Test.YtojmikalnalfbaaGreatDoorTxFC
import Derived.Test.YtojmikalnalfbaaGreatDoorB34
namespace Go.Proofs.YtojmikalnalfbaaGreatDoor
open Go.Lib Go.RowKit

theorem joinC_snoc (c : UInt8) : ∀ (ps : List (List UInt8)) (p : List UInt8), ps ≠ [] → joinC c (ps ++ [p]) = joinC c ps ++ c :: p
  | [], _, h => absurd rfl h
  | q :: ps, p, _ => by rw [List.cons_append, joinC, joinC, glue_append, glue, glue]; simp
theorem stx_take0 {fs : List Flt} (h : 0 < fs.length) : joinC 59 ((fs.take (0 + 1)).map ftxtL) = ftxtL (ge fs 0) := by
  rw [take_ge h, List.take_zero]; simp [joinC, glue]
theorem stx_take {fs : List Flt} {k : Nat} (hk : k < fs.length) (h0 : 0 < k) : joinC 59 ((fs.take (k + 1)).map ftxtL) = joinC 59 ((fs.take k).map ftxtL) ++ 59 :: ftxtL (ge fs k) := by
  rw [take_ge hk, List.map_append]
  refine joinC_snoc 59 _ _ ?_
  intro h
  have := congrArg List.length h
  rw [List.length_map, List.length_take, List.length_nil] at this
  omega
theorem ftxtL_len {f : Flt} (h : isFault f = true) : (ftxtL f).length ≤ 46 := by
  obtain ⟨a1, a2, a3, a4, a5, a6, a7, a8, a9, a10⟩ := isFault_fields h
  have h1 := fword_len f.kd
  have h2 := dec_len_le (u := f.pos.toNat) (by omega)
  have h3 := dec_len_le (u := f.len.toNat) (by omega)
  have h4 := dec_len_le (u := f.val.toNat) (by omega)
  rcases kd_flags ⟨a1, a2⟩ with ⟨hl, hv⟩ | ⟨hl, hv⟩ | ⟨hl, hv⟩
  · rw [ftxtL_1 hl hv]; simp only [List.length_append, List.length_cons]; omega
  · rw [ftxtL_2 hl hv]; simp only [List.length_append, List.length_cons]; omega
  · rw [ftxtL_3 hl hv]; simp only [List.length_append, List.length_cons]; omega
theorem stx_len {fs : List Flt} (h : allF fs = true) : ∀ k, k ≤ fs.length → (joinC 59 ((fs.take k).map ftxtL)).length ≤ 47 * k
  | 0, _ => by simp [joinC]
  | k + 1, hk => by
    have hf := ftxtL_len (allF_ge h (show k < fs.length by omega))
    rcases Nat.eq_zero_or_pos k with rfl | h0
    · rw [stx_take0 (by omega)]; omega
    · rw [stx_take (by omega) h0, List.length_append, List.length_cons]
      have := stx_len h k (by omega)
      omega
theorem stxt_no {fs : List Flt} (h : isScript fs = false) : stxt fs = [] := by unfold stxt; rw [h]; rfl
theorem stxt_yes {fs : List Flt} (h : isScript fs = true) : stxt fs = stxtL fs := by unfold stxt; rw [h]; rfl
theorem str_semi (a b : List UInt8) : (⟨a.toArray⟩ : ByteArray) ++ ⟨#[59]⟩ ++ ⟨b.toArray⟩ = ⟨(a ++ 59 :: b).toArray⟩ := by
  rw [show (⟨#[59]⟩ : ByteArray) = ⟨[59].toArray⟩ from rfl, str_app, str_app]; simp
theorem val_str {a b : ByteArray} (h : a = b) : Value.string a = Value.string b := by rw [h]

set_option maxRecDepth 20000 in
set_option maxHeartbeats 8000000 in
theorem sScriptText_any (A : Option Addr) (n c : Nat) (fs : List Flt) (w : World) (h : RE encF 4 w w.heap.size A n fs) (hn : n ≤ 1099511627776) :
    Calls Tryz.prog 27 #[.slice A n c] w (RetV w (.string ⟨(stxt fs).toArray⟩)) := by
  have L := Lib.hid h.len
  rcases bool_cases (isScript fs) with hf | hf
  case inr =>
    have E := Lib.hid (stxt_no hf)
    go_enter Tryz.func27, Tryz.ntmps27
    go_wp2_with (go_at_call 28; refine (sIsScript_any _ _ _ fs _ h hn).mono ?_; rw [hf]; rintro e w1 ⟨rfl, hb1⟩)
    go_ret
    exact ⟨ret_str (by rw [E.out]), hb1⟩
  have E := Lib.hid (stxt_yes hf)
  have HA := Lib.hid (isScr_all hf)
  have hn30 : n ≤ 30 := by have := isScr_len hf; have := L.out; omega
  go_enter Tryz.func27, Tryz.ntmps27
  go_wp2_with (go_at_call 28; refine (sIsScript_any _ _ _ fs _ h hn).mono ?_; rw [hf]; rintro e w1 ⟨rfl, hb1⟩)
  clear hf
  go_loopw [3, 4] (fun s i wr => ∃ k : Nat, k ≤ n ∧ i = .int .i64 k ∧ s = .string ⟨(joinC 59 ((fs.take k).map ftxtL)).toArray⟩ ∧ Below w.heap.size w wr) (fun _ i _ => n - (intOf i).toNat)
  case atStart => exact ⟨0, Nat.zero_le _, rfl, rfl, hb1⟩
  case round =>
    obtain ⟨k, hk, rfl, rfl, hb⟩ := hrel
    by_cases hlt : k < n
    · obtain ⟨b, o, rfl, hbl, hc⟩ := (h.below hb (Nat.le_refl _)).get (by omega)
      have hc0 := hc k hlt 0 _ rfl
      have hc1 := hc k hlt 1 _ rfl
      have hc2 := hc k hlt 2 _ rfl
      have hc3 := hc k hlt 3 _ rfl
      rw [Nat.add_zero] at hc0
      clear hc
      have hkl : k < fs.length := by rw [L.out]; exact hlt
      have hff := allF_ge HA.out hkl
      have HFT := Lib.hid (ftxt_yes hff)
      have hfl := ftxtL_len hff
      obtain ⟨T, hT⟩ : ∃ T, ftxtL (ge fs k) = T := ⟨_, rfl⟩
      have hJl := stx_len HA.out k (by omega)
      obtain ⟨J, hJ⟩ : ∃ J, joinC 59 ((fs.take k).map ftxtL) = J := ⟨_, rfl⟩
      rw [hT] at hfl
      rw [hJ] at hJl
      have q0 : ¬ 9223372036854775807 < J.length + T.length := by omega
      have q1 : ¬ 9223372036854775807 < J.length + 1 := by omega
      have q2 : ¬ 9223372036854775807 < J.length + 1 + T.length := by omega
      have HK := Lib.hid hT.symm
      have HTJ := Lib.hid hJ
      rw [hJ]
      clear hT hJ hff
      rcases Nat.eq_zero_or_pos k with h0 | h0
      · have hz : ¬ (0 : Int) < (k : Int) := by omega
        have hJ0 : J = [] := by rw [← HTJ.out, h0]; rfl
        have HE := Lib.hid (show joinC 59 ((fs.take (k + 1)).map ftxtL) = J ++ T by rw [hJ0, HK.out, h0]; exact stx_take0 (by omega))
        clear h0 hJ0
        go_wp2_with (go_at_call 16; refine (sFaultText_any _ _ _ _ _).mono ?_; rw [show ftxt ⟨(ge fs k).kd, (ge fs k).pos, (ge fs k).len, (ge fs k).val⟩ = _ from HFT.out.trans HK.out.symm]; rintro e w2 ⟨rfl, hb2⟩)
        go_roundw
        case rel => exact ⟨k + 1, by omega, by go_num, val_str (by rw [HE.out]; exact str_app _ _), below_next hb2 hb (Nat.le_refl _)⟩
        case measure => simp [intOf]; omega
      · have hz : (0 : Int) < (k : Int) := by omega
        have HE := Lib.hid (show joinC 59 ((fs.take (k + 1)).map ftxtL) = J ++ 59 :: T by rw [HK.out, ← HTJ.out]; exact stx_take hkl h0)
        clear h0
        go_wp2_with (go_at_call 16; refine (sFaultText_any _ _ _ _ _).mono ?_; rw [show ftxt ⟨(ge fs k).kd, (ge fs k).pos, (ge fs k).len, (ge fs k).val⟩ = _ from HFT.out.trans HK.out.symm]; rintro e w2 ⟨rfl, hb2⟩)
        go_roundw
        case rel => exact ⟨k + 1, by omega, by go_num, val_str (by rw [HE.out]; exact str_semi _ _), below_next hb2 hb (Nat.le_refl _)⟩
        case measure => simp [intOf]; omega
    · have hkn : k = n := by omega
      have HE := Lib.hid (show joinC 59 ((fs.take k).map ftxtL) = stxtL fs by rw [List.take_of_length_le (by rw [L.out]; omega)]; rfl)
      clear hkn
      go_wp2
      go_ret
      exact ⟨ret_str (by rw [HE.out, E.out]), hb⟩
end Go.Proofs.YtojmikalnalfbaaGreatDoor
