/- The walk of the program's numbersIn at a blank. Conditions: texts of at most 2^20 bytes; the library's variables hold what its text lays. -/
import Derived.Test.YtojmikalnalfbaaGreatDoorTxHC
namespace Go.Proofs.YtojmikalnalfbaaGreatDoor
open Go.Lib Go.RowKit

/-- the pieces of a text at a byte, as strings -/
def spB (c : UInt8) (s : ByteArray) : List ByteArray := Lib.splitB ⟨#[c]⟩ 0 (Lib.countB s ⟨#[c]⟩) s
theorem dat_spB (c : UInt8) (s : ByteArray) : dat (spB c s) = spl c s.data.toList := by
  unfold dat spB
  rw [splitB_data]
  exact split_spl c s.data.toList
theorem spB_len (c : UInt8) (s : ByteArray) : (spB c s).length = Lib.countB s ⟨#[c]⟩ + 1 := splitB_all _ (by show 1 ≤ (1 : Nat); omega) 0 _ s rfl
theorem OwnI.ne_blk {T T' : TypeId} {w : World} {base n c b : Nat} {A : Option Addr} {zs : List Int} {M : List Value} (h : OwnI T w base A n c zs) (hb : BlkL w b T' M) (hT : T ≠ T') : some b ≠ (Value.slice A n c).ownBlock := by
  rcases h.2 with ⟨h1, h2⟩ | ⟨g, cap, cur, hv, hg, hh, _⟩
  · injection h1 with h3
    subst h3
    intro e; cases e
  · injection hv with h3
    subst h3
    intro e
    have e2 : b = g := Option.some.inj e
    subst e2
    unfold BlkL at hb
    rw [hb] at hh
    injection Option.some.inj hh with _ h5
    exact hT h5.symm
theorem BlkL.grown {w w' : World} {g : Nat} {t : TypeId} {L : List Value} {row : Option Nat} (h : BlkL w g t L) (hg : w.grownBy w' row) (hne : some g ≠ row) : BlkL w' g t L :=
  (hg.block g h.lt hne).trans h
theorem strs_get {bs : List ByteArray} {k : Nat} (h : k < bs.length) : (bs.map Value.string)[k]? = some (.string (ge bs k)) := by
  rw [List.getElem?_map, ge_some h]; rfl
theorem split_any (s : ByteArray) (c : UInt8) (hs : s.size ≤ 1048576) (w : World) (hl : LF w) :
    Calls Tryz.prog 54 #[.string s, .string ⟨#[c]⟩] w fun e w' => ∃ b, e = .returned (.slice (some ⟨b, 0, none⟩) (spB c s).length (spB c s).length) ∧ BlkL w' b 9 ((spB c s).map Value.string) ∧ Below w.heap.size w w' := by
  obtain ⟨_, _, m, hm⟩ := hl.er w (Below.refl _ _)
  refine (Tryz.strings_Split s ⟨#[c]⟩ m w (by omega) hm (by show 1 ≤ (1 : Nat); omega)).mono ?_
  rintro e w' ⟨rfl, rfl⟩
  refine ⟨w.heap.size, by rw [spB_len], ?_, below_alloc (Below.refl _ _) (Nat.le_refl _) _⟩
  exact BlkL.new w 9 ((spB c s).map Value.string).toArray rfl

set_option maxRecDepth 20000 in
set_option maxHeartbeats 8000000 in
theorem numbersIn_any (s : ByteArray) (hs : s.size ≤ 1048576) (w : World) (hl : LF w) :
    Calls Tryz.prog 41 #[.string s, .string ⟨#[32]⟩] w (RetNums w (allNum iNum (spl 32 s.data.toList))) := by
  have hO := OwnI.empty (T := 2) w (base := w.heap.size) (Nat.le_refl _)
  have HO := Lib.hid hO
  have HB := Lib.hid (below_alloc (Below.refl w.heap.size w) (Nat.le_refl _) (.cells #[] 2))
  have HL := Lib.hid hl
  have HD := Lib.hid (dat_spB 32 s)
  have hlen := spl_len 32 s.data.toList
  have HSL := Lib.hid (pieces_ok (bs := spB 32 s) (m := s.size) (by
    intro p hp
    rw [dat_spB] at hp
    have := spl_mem_len 32 _ p hp
    rw [← Lib.size_eq] at this
    exact this) (by unfold maxLen; omega))
  have HSB := Lib.hid (show ∀ i, i < (spB 32 s).length → (ge (spB 32 s) i).size ≤ 1048576 by
    intro i hi
    have := spl_mem_len 32 s.data.toList (ge (spB 32 s) i).data.toList (by rw [← dat_spB]; exact List.mem_map.2 ⟨_, mem_ge hi, rfl⟩)
    rw [← Lib.size_eq, ← Lib.size_eq] at this
    omega)
  obtain ⟨bs, hbs⟩ : ∃ bs, spB 32 s = bs := ⟨_, rfl⟩
  rw [hbs] at HD HSB
  have hbl : bs.length ≤ 1048577 := by
    rw [← HD.out] at hlen
    unfold dat at hlen
    rw [List.length_map, ← Lib.size_eq] at hlen
    omega
  have HBS := Lib.hid hbs
  rw [← HD.out]
  clear hO hl hlen hbs HSL
  go_enter Tryz.func41, Tryz.ntmps41
  go_wp2_with fail
  refine (split_any s 32 hs _ (HL.out.up HB.out)).mono ?_
  rintro e w1 ⟨b, rfl, hr, hb1⟩
  rw [HBS.out] at hr ⊢
  have HR := Lib.hid hr
  have hb := below_next hb1 HB.out (Nat.le_refl _)
  have HO1 := Lib.hid (HO.out.below hb1)
  clear hb1 HB HO hr
  go_wp2_with fail
  go_loopw [6, 16] (fun p i wr => ∃ (k : Nat) (A2 : Option Addr) (c2 : Nat) (M : List Int), k ≤ bs.length ∧ i = .int .i64 k ∧ p = .slice A2 k c2 ∧ allNum iNum (dat (bs.take k)) = some M ∧ OwnI 2 wr w.heap.size A2 k c2 M ∧ BlkL wr b 9 (bs.map Value.string) ∧ Below w.heap.size w wr) (fun _ i _ => bs.length - (RowKit.intOf i).toNat)
  case atStart => exact ⟨0, _, _, [], Nat.zero_le _, rfl, rfl, rfl, HO1.out, HR.out, hb⟩
  case round =>
    obtain ⟨k, A2, c2, M, hk, rfl, rfl, hM, hown, hr, hb⟩ := hrel
    have HMM := Lib.hid hM
    clear hM HO1 HR
    by_cases hlt : k < bs.length
    · have hc0 := hr.c k (strs_get hlt)
      have hms := HSB.out k hlt
      obtain ⟨S, hS⟩ : ∃ S, ge bs k = S := ⟨_, rfl⟩
      obtain ⟨v, q, hvq⟩ : ∃ v q, iNum S.data.toList = (v, q) := ⟨_, _, rfl⟩
      have HV := Lib.hid hvq
      have HDT := Lib.hid ((dat_take hlt).trans (by rw [hS]))
      have HSP := Lib.hid (show dat bs = dat (bs.take k) ++ [S.data.toList] ++ dat (bs.drop (k + 1)) by
        rw [← hS, ← dat_take hlt]; unfold dat; rw [← List.map_append, List.take_append_drop])
      rw [hS] at hc0 hms
      clear hS hvq
      go_wp2_with fail
      refine (number_any S hms _ (HL.out.up hb)).mono ?_
      rw [HV.out]
      rintro e w2 ⟨rfl, hb2⟩
      have hown2 := hown.below hb2
      have hr2 := hr.next hb2
      have hb3 := below_next hb2 hb (Nat.le_refl _)
      have hz3 := hb3.size
      clear hown hb hc0 hr
      cases q
      · have E := Lib.hid (show allNum iNum (dat bs) = none by rw [HSP.out]; exact allNum_bad HMM.out (by rw [HV.out]))
        go_wp2_with fail
        go_ret2
        exact RetNums.no hb3 E.out rfl
      · have E := Lib.hid (show allNum iNum (dat (bs.take (k + 1))) = some (M ++ [v]) by rw [HDT.out, allNum_snoc _ _ HMM.out, HV.out]; rfl)
        have HR2 := Lib.hid hr2
        have HNE := Lib.hid (OwnI.ne_blk hown2 hr2 (by decide))
        clear hr2
        go_wp2_with (at_builtin; refine wpl_appI _ _ Tryz.underlying24 infoInt rfl _ _ rfl w.heap.size _ k _ _ rfl hown2 v rfl (by omega) hz3 ?_; intro A4 c4 w4 hown4 hB4 hg4)
        go_roundw
        case rel => exact ⟨k + 1, A4, c4, M ++ [v], by omega, by go_num, rfl, E.out, hown4, HR2.out.grown hg4 HNE.out, hb3.trans (hB4 _ (Nat.le_refl _))⟩
        case measure => simp [RowKit.intOf] <;> omega
    · have hkn : k = bs.length := by omega
      have hfull : bs.take k = bs := List.take_of_length_le (by omega)
      have E := Lib.hid (show allNum iNum (dat bs) = some M by rw [← HMM.out, hfull])
      clear hfull
      go_wp2_with fail
      go_ret2
      exact RetNums.yes hb E.out rfl hown
end Go.Proofs.YtojmikalnalfbaaGreatDoor
