/- The walk of the reference's l01Split. Conditions: texts of at most 2^40 bytes. -/
import Derived.Test.YtojmikalnalfbaaGreatDoorTxNC
namespace Go.Proofs.YtojmikalnalfbaaGreatDoor
open Go.Lib Go.RowKit

theorem infoStr2 : (Tryz.prog.info? 9).map (fun i => (i.zero, i.size, i.bytes)) = some (some (.string ByteArray.empty), 1, 16) := by kernel_rfl
theorem spl_snoc_eq (c : UInt8) : ∀ (l : List UInt8), spl c (l ++ [c]) = spl c l ++ [[]]
  | [] => by simp [spl]
  | x :: l => by
    rw [List.cons_append]
    conv => lhs; unfold spl
    conv => rhs; unfold spl
    rw [spl_snoc_eq c l]
    by_cases hx : x = c
    · rw [if_pos hx, if_pos hx]; rfl
    · rw [if_neg hx, if_neg hx]
      cases hs : spl c l with
      | nil => exact absurd hs (spl_ne c l)
      | cons p ps => rfl
/-- where a cutting stands behind k bytes -/
def CutAt (c : UInt8) (l : List UInt8) (k fr : Nat) (ps : List (List UInt8)) : Prop :=
  (k ≤ l.length ∧ fr ≤ k ∧ ps ++ [(l.take k).drop fr] = spl c (l.take k)) ∨ (k = l.length + 1 ∧ ps = spl c l)
theorem CutAt.hit {c : UInt8} {l : List UInt8} {k fr : Nat} {ps : List (List UInt8)} (h : CutAt c l k fr ps) (hk : k < l.length) (hc : l[k] = c) : CutAt c l (k + 1) (k + 1) (ps ++ [(l.take k).drop fr]) := by
  rcases h with ⟨_, h2, h3⟩ | ⟨h1, _⟩
  · refine Or.inl ⟨hk, Nat.le_refl _, ?_⟩
    rw [h3, List.take_succ_eq_append_getElem hk, hc, spl_snoc_eq]
    congr 1
    rw [List.drop_eq_nil_of_le (by rw [List.length_append, List.length_take, List.length_singleton]; omega)]
  · omega
theorem CutAt.miss {c : UInt8} {l : List UInt8} {k fr : Nat} {ps : List (List UInt8)} (h : CutAt c l k fr ps) (hk : k < l.length) (hc : l[k] ≠ c) : CutAt c l (k + 1) fr ps := by
  rcases h with ⟨_, h2, h3⟩ | ⟨h1, _⟩
  · refine Or.inl ⟨hk, by omega, ?_⟩
    obtain ⟨qs, q, e1, e2⟩ := spl_snoc_ne hc (l.take k)
    rw [List.take_succ_eq_append_getElem hk, e2]
    rw [e1] at h3
    obtain ⟨e3, e4⟩ := List.append_inj' h3 rfl
    rw [e3, List.drop_append_of_le_length (by rw [List.length_take]; omega)]
    rw [List.cons.injEq] at e4
    rw [e4.1]
  · omega
theorem CutAt.last {c : UInt8} {l : List UInt8} {fr : Nat} {ps : List (List UInt8)} (h : CutAt c l l.length fr ps) : CutAt c l (l.length + 1) (l.length + 1) (ps ++ [(l.take l.length).drop fr]) := by
  rcases h with ⟨_, h2, h3⟩ | ⟨h1, _⟩
  · refine Or.inr ⟨rfl, ?_⟩
    rw [h3, List.take_length]
  · omega
theorem CutAt.fr {c : UInt8} {l : List UInt8} {k fr : Nat} {ps : List (List UInt8)} (h : CutAt c l k fr ps) (hk : k ≤ l.length) : fr ≤ k := by
  rcases h with ⟨_, h2, _⟩ | ⟨h1, _⟩
  · exact h2
  · omega
theorem dat_snoc (bs : List ByteArray) (y : ByteArray) : dat (bs ++ [y]) = dat bs ++ [y.data.toList] := by simp [dat]
theorem piece_data (s : ByteArray) (a b : Nat) : (s.extract a b).data.toList = (s.data.toList.take b).drop a := by
  rw [Lib.extract_data, List.drop_take]

/-- a row of strings of the call's own -/
def RetS (w0 : World) (ps : List (List UInt8)) (e : Ending) (w' : World) : Prop :=
  ∃ A n c bs, e = .returned (.slice A n c) ∧ OwnE encS 1 9 w' w0.heap.size A n c bs ∧ dat bs = ps ∧ Below w0.heap.size w0 w'

set_option maxRecDepth 20000 in
set_option maxHeartbeats 8000000 in
theorem l01Split_any (s : ByteArray) (c : UInt8) (w : World) (hs : s.size ≤ 1099511627770) :
    Calls Tryz.prog 44 #[.string s, .int .u8 (c.toNat : Int)] w (RetS w (spl c s.data.toList)) := by
  have hsz : s.size = s.data.toList.length := Lib.size_eq s
  have HS := Lib.hid hsz
  have hO := OwnE.room (enc := encS) (sz := 1) (T := 9) w (base := w.heap.size) (cap := 0) (cur := #[]) (Nat.le_refl _) (by simp [maxLen]) rfl
  have HO := Lib.hid hO
  have HB := Lib.hid (below_alloc (Below.refl w.heap.size w) (Nat.le_refl _) (.cells #[] 9))
  clear hO hsz
  go_enter Tryz.func44, Tryz.ntmps44
  go_wp2_with fail
  go_loopw [5, 6, 7] (fun p f i wr => ∃ (k fr : Nat) (A2 : Option Addr) (n c2 : Nat) (bs : List ByteArray), k ≤ s.size + 1 ∧ n ≤ k ∧ i = .int .i64 k ∧ f = .int .i64 fr ∧ p = .slice A2 n c2 ∧ CutAt c s.data.toList k fr (dat bs) ∧ OwnE encS 1 9 wr w.heap.size A2 n c2 bs ∧ Below w.heap.size w wr) (fun _ _ i _ => s.size + 1 - (RowKit.intOf i).toNat)
  case atStart => exact ⟨0, 0, _, 0, _, [], by omega, by omega, rfl, rfl, rfl, Or.inl ⟨by omega, by omega, rfl⟩, HO.out, HB.out⟩
  case round =>
    obtain ⟨k, fr, A2, n, c2, bs, hk, hnk, rfl, rfl, rfl, hcut, hown, hb⟩ := hrel
    have HC := Lib.hid hcut
    have hz3 := hb.size
    clear hcut HO HB
    rcases (show k = s.size + 1 ∨ k = s.size ∨ k < s.size by omega) with h1 | h1 | h1
    · have E := Lib.hid (show dat bs = spl c s.data.toList by rcases HC.out with ⟨h2, _⟩ | ⟨_, h2⟩ <;> first | exact h2 | (have := HS.out; omega))
      have h1' : ¬ ((k : Int) ≤ s.size) := by omega
      go_wp2_with fail
      go_ret
      exact ⟨A2, n, c2, bs, rfl, hown, E.out, hb⟩
    · subst h1
      have hfr := HC.out.fr (by have := HS.out; omega)
      obtain ⟨y, hy⟩ : ∃ y, s.extract fr s.size = y := ⟨_, rfl⟩
      have E := Lib.hid (show CutAt c s.data.toList (s.size + 1) (s.size + 1) (dat (bs ++ [y])) by
        have h2 := HC.out
        rw [dat_snoc, ← hy, piece_data]
        rw [HS.out] at h2 ⊢
        exact h2.last)
      have hf0 : (0 : Int) ≤ fr := by omega
      have hf1 : (fr : Int) ≤ s.size := by omega
      go_wp2_with (at_builtin; refine wpl_appS _ _ Tryz.underlying64 infoStr2 rfl _ _ rfl w.heap.size _ n _ _ rfl hown y rfl (by omega) hz3 ?_; intro A4 c4 w4 hown4 hB4 hg4)
      go_roundw
      case rel => exact ⟨s.size + 1, s.size + 1, A4, n + 1, c4, bs ++ [y], by omega, by omega, by go_num, by go_num, rfl, E.out, hown4, hb.trans (hB4 _ (Nat.le_refl _))⟩
      case measure => simp [RowKit.intOf] <;> omega
    · have hkl : k < s.data.toList.length := by rw [← HS.out]; exact h1
      have hfr := HC.out.fr (by have := HS.out; omega)
      have hsk : s.data.toList[k] = s[k] := rfl
      have hne : ((k : Int) == (s.size : Int)) = false := by rw [beq_eq_false_iff_ne]; omega
      by_cases hc : s[k] = c
      · obtain ⟨y, hy⟩ : ∃ y, s.extract fr k = y := ⟨_, rfl⟩
        have E := Lib.hid (show CutAt c s.data.toList (k + 1) (k + 1) (dat (bs ++ [y])) by
          rw [dat_snoc, ← hy, piece_data]
          exact HC.out.hit hkl (hsk.trans hc))
        have hf0 : (0 : Int) ≤ fr := by omega
        have hf1 : (fr : Int) ≤ k := by omega
        have hf2 : (k : Int) ≤ s.size := by omega
        have hq : ((s[k].toNat : Int) == (c.toNat : Int)) = true := by rw [hc]; exact beq_self_eq_true _
        clear hc hsk
        go_wp2_with (at_builtin; refine wpl_appS _ _ Tryz.underlying64 infoStr2 rfl _ _ rfl w.heap.size _ n _ _ rfl hown y rfl (by omega) hz3 ?_; intro A4 c4 w4 hown4 hB4 hg4)
        go_roundw
        case rel => exact ⟨k + 1, k + 1, A4, n + 1, c4, bs ++ [y], by omega, by omega, by go_num, by go_num, rfl, E.out, hown4, hb.trans (hB4 _ (Nat.le_refl _))⟩
        case measure => simp [RowKit.intOf] <;> omega
      · have E := Lib.hid (HC.out.miss hkl (by rw [hsk]; exact hc))
        have hq : ((s[k].toNat : Int) == (c.toNat : Int)) = false := by
          rw [beq_eq_false_iff_ne]
          intro e
          exact hc (UInt8.toNat_inj.1 (by omega))
        clear hc hsk
        go_wp2_with fail
        go_roundw
        case rel => exact ⟨k + 1, fr, A2, n, c2, bs, by omega, by omega, by go_num, rfl, rfl, E.out, hown, hb⟩
        case measure => simp [RowKit.intOf] <;> omega
end Go.Proofs.YtojmikalnalfbaaGreatDoor
