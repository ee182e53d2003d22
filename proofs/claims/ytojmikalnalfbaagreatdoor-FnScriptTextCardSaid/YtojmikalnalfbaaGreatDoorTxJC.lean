/- The walk of the program's ScriptText. Conditions: lists of at most 2^40 faults; the library's table of powers of ten holds what its text lays. -/
import Derived.Test.YtojmikalnalfbaaGreatDoorTxSC
import Derived.Test.YtojmikalnalfbaaGreatDoorTxGC
import Derived.Test.YtojmikalnalfbaaGreatDoorB34
import Derived.Test.YtojmikalnalfbaaGreatDoorShB
import Derived.Lib.Join
namespace Go.Proofs.YtojmikalnalfbaaGreatDoor
open Go.Lib Go.RowKit

theorem infoStr : (Tryz.prog.info? 9).map (fun i => (i.zero, i.size, i.bytes)) = some (some (.string ByteArray.empty), 1, 16) := by kernel_rfl
theorem OwnS.cap {T : TypeId} {w : World} {base n c : Nat} {A : Option Addr} {zs : List ByteArray} (h : OwnE encS 1 T w base A n c zs) : n ≤ c := by
  rcases h.2.2 with ⟨h1, h2⟩ | ⟨g, cap, cur, hv, _, _, hnc, hm, _⟩
  · injection h1 with _ h3 h4
    omega
  · injection hv with _ _ h3
    subst h3
    exact hnc
theorem glue_tail (c : UInt8) : ∀ ps : List (List UInt8), joinTail [c] ps = glue c ps
  | [] => rfl
  | p :: ps => by
    have := glue_tail c ps
    unfold joinTail at this ⊢
    rw [List.map_cons, List.flatten_cons, this, glue]; rfl
theorem join_joinC (c : UInt8) (ps : List (List UInt8)) : Lib.join ps [c] = joinC c ps := by
  cases ps with
  | nil => rfl
  | cons p ps => rw [join_cons, glue_tail, joinC]
/-- the texts of faults as strings -/
def bsT (fs : List Flt) : List ByteArray := fs.map fun f => ⟨(ftxtL f).toArray⟩
theorem bsT_take {fs : List Flt} {k : Nat} (h : k < fs.length) : bsT (fs.take (k + 1)) = bsT (fs.take k) ++ [⟨(ftxtL (ge fs k)).toArray⟩] := by
  rw [take_ge h]; simp [bsT]
theorem bsT_data (fs : List Flt) : (bsT fs).map (·.data.toList) = fs.map ftxtL := by
  unfold bsT; rw [List.map_map]; rfl

set_option maxRecDepth 20000 in
set_option maxHeartbeats 16000000 in
theorem iScriptText_any (A : Option Addr) (n c : Nat) (fs : List Flt) (w : World) (h : RE encF 4 w w.heap.size A n fs) (hn : n ≤ 1099511627776) (ht : TB w) :
    Calls Tryz.prog 20 #[.slice A n c] w (RetV w (.string ⟨(stxt fs).toArray⟩)) := by
  have L := Lib.hid h.len
  rcases bool_cases (isScript fs) with hf | hf
  case inr =>
    have E := Lib.hid (stxt_no hf)
    clear ht
    go_enter Tryz.func20, Tryz.ntmps20
    go_wp2_with (go_at_call 52; refine (iIsScript_any _ _ _ fs _ h hn).mono ?_; rw [hf]; rintro e w1 ⟨rfl, hb1⟩)
    go_ret
    exact ⟨ret_str (by rw [E.out]), hb1⟩
  have E := Lib.hid (stxt_yes hf)
  have HA := Lib.hid (isScr_all hf)
  have hn30 : n ≤ 30 := by have := isScr_len hf; have := L.out; omega
  have HT := Lib.hid ht
  clear ht
  go_enter Tryz.func20, Tryz.ntmps20
  go_wp2_with (go_at_call 52; refine (iIsScript_any _ _ _ fs _ h hn).mono ?_; rw [hf]; rintro e w1 ⟨rfl, hb1⟩)
  clear hf
  have hO := OwnE.room (enc := encS) (sz := 1) (T := 9) w1 (base := w.heap.size) (cap := 0) (cur := #[]) hb1.size (by simp [maxLen]) rfl
  have HO := Lib.hid hO
  have hb2 := below_alloc hb1 (Nat.le_refl _) (.cells #[] 9)
  clear hO hb1
  go_loopw [3, 12] (fun p i wr => ∃ (k : Nat) (A2 : Option Addr) (c2 : Nat), k ≤ n ∧ i = .int .i64 k ∧ p = .slice A2 k c2 ∧ OwnE encS 1 9 wr w.heap.size A2 k c2 (bsT (fs.take k)) ∧ Below w.heap.size w wr) (fun _ i _ => n - (RowKit.intOf i).toNat)
  case atStart => exact ⟨0, _, _, Nat.zero_le _, rfl, rfl, HO.out, hb2⟩
  case round =>
    obtain ⟨k, A2, c2, hk, rfl, rfl, hown, hb⟩ := hrel
    by_cases hlt : k < n
    · obtain ⟨b, o, rfl, hbl, hc⟩ := (h.below hb (Nat.le_refl _)).get (by omega)
      have hc0 := hc k hlt 0 _ rfl
      have hc1 := hc k hlt 1 _ rfl
      have hc2 := hc k hlt 2 _ rfl
      have hc3 := hc k hlt 3 _ rfl
      rw [Nat.add_zero] at hc0
      clear hc
      have hkl : k < fs.length := by rw [L.out]; exact hlt
      have hff := allF_ge HA.out hkl
      have HFT := Lib.hid (ftxt_yes hff)
      have HBT := Lib.hid (bsT_take hkl)
      obtain ⟨T, hT⟩ : ∃ T : ByteArray, ⟨(ftxtL (ge fs k)).toArray⟩ = T := ⟨_, rfl⟩
      have HTT := Lib.hid hT
      clear hff hT
      have hba := below_alloc hb (Nat.le_refl _) (.cells #[.int .i64 (ge fs k).kd, .int .i64 (ge fs k).pos, .int .i64 (ge fs k).len, .int .i64 (ge fs k).val] 26)
      have hoa := hown.alloc (.cells #[.int .i64 (ge fs k).kd, .int .i64 (ge fs k).pos, .int .i64 (ge fs k).len, .int .i64 (ge fs k).val] 26)
      have HB := Lib.hid hba
      have HO2 := Lib.hid hoa
      clear hba hoa hown hb
      go_wp2_with fail
      refine (iFaultText_any _ _ _ _ _ (HT.out.up HB.out)).mono ?_
      rw [show ftxt ⟨(ge fs k).kd, (ge fs k).pos, (ge fs k).len, (ge fs k).val⟩ = _ from HFT.out, HTT.out]
      rintro e w2 ⟨rfl, hb2⟩
      have hown2 := HO2.out.below hb2
      have hb3 := below_next hb2 HB.out (Nat.le_refl _)
      clear hb2
      have hz3 := hb3.size
      go_wp2_with (at_builtin; refine wpl_appS _ _ Tryz.underlying64 infoStr rfl _ _ rfl w.heap.size _ k _ _ rfl hown2 T rfl (by omega) hz3 ?_; intro A4 c4 w4 hown4 hB4 hg4)
      go_roundw
      case rel => exact ⟨k + 1, A4, c4, by omega, by go_num, rfl, by rw [HBT.out, HTT.out]; exact hown4, hb3.trans (hB4 _ (Nat.le_refl _))⟩
      case measure => simp [RowKit.intOf]; omega
    · have hkn : k = n := by omega
      subst hkn
      have hfull : fs.take k = fs := List.take_of_length_le (by rw [L.out]; exact Nat.le_refl _)
      rw [hfull] at hown
      clear hfull
      have hlen : (bsT fs).length = k := hown.len
      have hJ : Lib.join ((bsT fs).map (·.data.toList)) (⟨#[59]⟩ : ByteArray).data.toList = stxtL fs := by rw [bsT_data]; exact join_joinC 59 _
      have hJl := stx_len HA.out fs.length (Nat.le_refl _)
      rw [List.take_of_length_le (Nat.le_refl _), L.out] at hJl
      have hJl2 : (stxtL fs).length ≤ 1500 := by have : (stxtL fs).length ≤ 47 * k := hJl; omega
      rcases Nat.eq_zero_or_pos k with h0 | h0
      · subst h0
        have hfs : fs = [] := List.length_eq_zero_iff.1 L.out
        have HE := Lib.hid (show stxt fs = [] by rw [E.out, hfs]; rfl)
        clear hfs hJ hJl hJl2 hlen
        go_wp2_with (go_at_call 53; refine (Tryz.strings_Join_none _ _ _ _).mono ?_; rintro e w2 ⟨rfl, rfl⟩)
        go_ret
        exact ⟨ret_str (by rw [HE.out]), hb⟩
      · obtain ⟨g, rfl, hg1, hg2⟩ := hown.form h0
        have hcap := OwnS.cap hown
        have hcells : ∀ (j : Nat) x, (bsT fs)[j]? = some x → wr.cell? ⟨g, 0 + j, none⟩ = some (.string x) := by
          intro j x hx
          have hj : j < (bsT fs).length := (List.getElem?_eq_some_iff.1 hx).1
          have hc := hown.cell encS_len (i := j) (j := 0) (by omega) (by omega)
          have hgx : ge (bsT fs) j = x := by
            have := ge_some hj
            rw [hx] at this
            exact (Option.some.inj this).symm
          rw [hgx, Nat.mul_one, Nat.add_zero] at hc
          rw [Nat.zero_add]
          exact hc
        have hjn := Tryz.strings_Join g 0 c2 (bsT fs) ⟨#[59]⟩ wr hcells hg2 (by omega) (by omega) (by rw [hJ]; omega)
        rw [hJ, hlen] at hjn
        have HJ := Lib.hid hjn
        clear hjn hcells hJ hJl hJl2 hlen
        go_wp2_with (go_at_call 53; refine HJ.out.mono ?_; rintro e w2 ⟨rfl, hb2⟩)
        go_ret
        exact ⟨ret_str (by rw [E.out]), below_next hb2 hb (Nat.le_refl _)⟩
end Go.Proofs.YtojmikalnalfbaaGreatDoor
