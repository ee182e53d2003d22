/- The walk of the reference's l04Numbers. Conditions: lists of at most 2^40 words. -/
import Derived.Test.YtojmikalnalfbaaGreatDoorTxVC
import Derived.Test.YtojmikalnalfbaaGreatDoorB34
namespace Go.Proofs.YtojmikalnalfbaaGreatDoor
open Go.Lib Go.RowKit

/-- the bytes of strings -/
def dat (bs : List ByteArray) : List (List UInt8) := bs.map (·.data.toList)
theorem dat_take {bs : List ByteArray} {k : Nat} (h : k < bs.length) : dat (bs.take (k + 1)) = dat (bs.take k) ++ [(ge bs k).data.toList] := by
  rw [take_ge h]; simp [dat]
theorem allNum_bad {f : List UInt8 → Int × Bool} {ps qs : List (List UInt8)} {p : List UInt8} {L : List Int} (h : allNum f ps = some L) (hp : (f p).2 = false) : allNum f (ps ++ [p] ++ qs) = none := by
  refine allNum_none_append ?_ qs
  rw [allNum_snoc f p h, hp]; rfl

/-- the numbers of words, or none -/
def RetNums (w0 : World) (r : Option (List Int)) (e : Ending) (w' : World) : Prop :=
  Below w0.heap.size w0 w' ∧ match r with
    | none => e = .returned (.tuple #[.slice none 0 0, .bool false])
    | some L => ∃ A c, e = .returned (.tuple #[.slice A L.length c, .bool true]) ∧ OwnI 2 w' w0.heap.size A L.length c L
/-- the same, value for value -/
def NumsAt (B : Nat) (w' : World) (r : Option (List Int)) (v5 v6 : Value) : Prop := match r with
  | none => v5 = .slice none 0 0 ∧ v6 = .bool false
  | some L => ∃ A c, v5 = .slice A L.length c ∧ v6 = .bool true ∧ OwnI 2 w' B A L.length c L
theorem RetNums.parts {w0 w' : World} {r : Option (List Int)} {e : Ending} (h : RetNums w0 r e w') : ∃ v5 v6, e = .returned (.tuple #[v5, v6]) ∧ NumsAt w0.heap.size w' r v5 v6 ∧ Below w0.heap.size w0 w' := by
  obtain ⟨hb, hr⟩ := h
  cases r with
  | none => exact ⟨_, _, hr, ⟨rfl, rfl⟩, hb⟩
  | some L =>
    obtain ⟨A, c, he, ho⟩ := hr
    exact ⟨_, _, he, ⟨A, c, rfl, rfl, ho⟩, hb⟩
theorem RetNums.no {w0 w' : World} {r : Option (List Int)} {e : Ending} (hb : Below w0.heap.size w0 w') (hr : r = none) (he : e = .returned (.tuple #[.slice none 0 0, .bool false])) : RetNums w0 r e w' := by
  subst hr; exact ⟨hb, he⟩
theorem RetNums.yes {w0 w' : World} {r : Option (List Int)} {L : List Int} {e : Ending} {A : Option Addr} {c n : Nat} (hb : Below w0.heap.size w0 w') (hr : r = some L) (he : e = .returned (.tuple #[.slice A n c, .bool true])) (ho : OwnI 2 w' w0.heap.size A n c L) : RetNums w0 r e w' := by
  have hl := ho.len
  subst hl
  subst hr; exact ⟨hb, A, c, he, ho⟩

set_option maxRecDepth 20000 in
set_option maxHeartbeats 8000000 in
theorem l04Numbers_any (A : Option Addr) (n c : Nat) (bs : List ByteArray) (w : World) (h : RE encS 1 w w.heap.size A n bs) (hn : n ≤ 1099511627775) (hm : ∀ i, i < n → (ge bs i).size ≤ maxLen) :
    Calls Tryz.prog 45 #[.slice A n c] w (RetNums w (allNum sNum (dat bs))) := by
  have L := Lib.hid h.len
  have HM := Lib.hid hm
  clear hm
  have hO := OwnI.empty (T := 2) w (base := w.heap.size) (Nat.le_refl _)
  have HO := Lib.hid hO
  have HB := Lib.hid (below_alloc (Below.refl w.heap.size w) (Nat.le_refl _) (.cells #[] 2))
  clear hO
  go_enter Tryz.func45, Tryz.ntmps45
  go_wp2_with fail
  go_loopw [4, 5] (fun p i wr => ∃ (k : Nat) (A2 : Option Addr) (c2 : Nat) (M : List Int), k ≤ n ∧ i = .int .i64 k ∧ p = .slice A2 k c2 ∧ allNum sNum (dat (bs.take k)) = some M ∧ OwnI 2 wr w.heap.size A2 k c2 M ∧ Below w.heap.size w wr) (fun _ i _ => n - (RowKit.intOf i).toNat)
  case atStart => exact ⟨0, _, _, [], Nat.zero_le _, rfl, rfl, rfl, HO.out, HB.out⟩
  case round =>
    obtain ⟨k, A2, c2, M, hk, rfl, rfl, hM, hown, hb⟩ := hrel
    have HMM := Lib.hid hM
    clear hM HO HB
    by_cases hlt : k < n
    · obtain ⟨b, o, rfl, hbl, hc⟩ := (h.below hb (Nat.le_refl _)).get (by omega)
      have hc0 := hc k hlt 0 _ rfl
      rw [Nat.add_zero, Nat.mul_one] at hc0
      clear hc
      have hkl : k < bs.length := by rw [L.out]; exact hlt
      have hms := HM.out k hlt
      obtain ⟨S, hS⟩ : ∃ S, ge bs k = S := ⟨_, rfl⟩
      obtain ⟨v, q, hvq⟩ : ∃ v q, sNum S.data.toList = (v, q) := ⟨_, _, rfl⟩
      have HV := Lib.hid hvq
      have HD := Lib.hid ((dat_take hkl).trans (by rw [hS]))
      have HSP := Lib.hid (show dat bs = dat (bs.take k) ++ [S.data.toList] ++ dat (bs.drop (k + 1)) by
        rw [← hS, ← dat_take hkl]; unfold dat; rw [← List.map_append, List.take_append_drop])
      rw [hS] at hc0 hms
      clear hS hvq hkl
      go_wp2_with fail
      refine (l01Value_any S _ hms).mono ?_
      rw [HV.out]
      rintro e w2 ⟨rfl, hb2⟩
      have hown2 := hown.below hb2
      have hb3 := below_next hb2 hb (Nat.le_refl _)
      have hz3 := hb3.size
      clear hb2 hown hb hc0
      cases q
      · have E := Lib.hid (show allNum sNum (dat bs) = none by rw [HSP.out]; exact allNum_bad HMM.out (by rw [HV.out]))
        go_wp2_with fail
        go_ret2
        exact RetNums.no hb3 E.out rfl
      · have E := Lib.hid (show allNum sNum (dat (bs.take (k + 1))) = some (M ++ [v]) by rw [HD.out, allNum_snoc _ _ HMM.out, HV.out]; rfl)
        go_wp2_with (at_builtin; refine wpl_appI _ _ Tryz.underlying24 infoInt rfl _ _ rfl w.heap.size _ k _ _ rfl hown2 v rfl (by omega) hz3 ?_; intro A4 c4 w4 hown4 hB4 hg4)
        go_roundw
        case rel => exact ⟨k + 1, A4, c4, M ++ [v], by omega, by go_num, rfl, E.out, hown4, hb3.trans (hB4 _ (Nat.le_refl _))⟩
        case measure => simp [RowKit.intOf]; omega
    · have hkn : k = n := by omega
      subst hkn
      have hfull : bs.take k = bs := List.take_of_length_le (by rw [L.out]; exact Nat.le_refl _)
      have E := Lib.hid (show allNum sNum (dat bs) = some M by rw [← HMM.out, hfull])
      clear hfull
      go_wp2_with fail
      go_ret2
      exact RetNums.yes hb E.out rfl hown
end Go.Proofs.YtojmikalnalfbaaGreatDoor
