/- Walks, laws and small notions for the claims of this seat, several texts as one (Off, Oel). Conditions: as each theorem states them. -/
import Derived.Test.YtjgmpiefndbnaaaGreatDoorB32
import Derived.Test.YtjgmpiefndbnaaaGreatDoorB3
import Derived.Test.YtjgmpiefndbnaaaGreatDoorB24
import Derived.Deep.RegionWith
import Derived.Test.YtjgmpiefndbnaaaGreatDoorB16
import Derived.Laws.StructEq
import Derived.IntWalk
namespace Go.Proofs.YtjgmpiefndbnaaaGreatDoor
open Go.RowKit
/-- a slice value of numbers that may be cut again -/
structure SL (w : World) (A : Option Addr) (n c : Nat) (zs : List Int) : Prop where
  ri : RI w w.heap.size A n zs
  none : A = none → c = 0
  le : n ≤ c
  cap : c ≤ maxLen
theorem SL.next {w w' : World} {A : Option Addr} {n c : Nat} {zs : List Int} (h : SL w A n c zs) (hb : Below w.heap.size w w') : SL w' A n c zs := ⟨h.ri.up hb, h.none, h.le, h.cap⟩
theorem SL.suf {w : World} {b o n c k : Nat} {zs : List Int} (h : SL w (some ⟨b, o, .none⟩) n c zs) (hk : k ≤ n) : SL w (some ⟨b, o + k, .none⟩) (n - k) (c - k) (zs.drop k) :=
  ⟨h.ri.suf hk, fun e => (by cases e), (by have := h.le; omega), Nat.le_trans (Nat.sub_le _ _) h.cap⟩
theorem SL.end {w : World} {A B : Option Addr} {n c k d m : Nat} {zs : List Int} (h : SL w A n c zs) (hk : n ≤ k) (hm : m = 0) (hB : B = .none → d = 0) (hd : d ≤ maxLen) : SL w B m d (zs.drop k) := by
  subst hm
  have hz : zs.drop k = [] := List.drop_eq_nil_of_le (by rw [h.ri.len]; exact hk)
  rw [hz]
  exact ⟨RI.nil _ _ _, hB, Nat.zero_le _, hd⟩
theorem grown_dr {w w' : World} {row : Option Nat} (h : w.grownBy w' row) : w.grownBy w'.drew row := ⟨h.os, h.tape, h.output, h.size, h.block⟩
theorem grown_ofB {w w' : World} (h : Below w.heap.size w w') (row : Option Nat) : w.grownBy w' row := ⟨h.os, h.tape, h.output, h.size, fun k hk _ => h.block k hk⟩
theorem grown_setB (w : World) (p : Addr) (v : Value) : w.grownBy (w.setCell p v) (some p.block) := by
  refine ⟨rfl, rfl, rfl, by simp, fun k hk hne => ?_⟩
  show (w.heap.modify p.block _)[k]? = _
  rw [Array.getElem?_modify, if_neg (fun e => hne (by rw [e]))]
theorem own_ne {w : World} {g base n c : Nat} {T T2 : TypeId} {L : List Value} {A : Option Addr} {zs : List Int} (h : BlkL w g T L) (hT : T ≠ T2) (ho : OwnI T2 w base A n c zs) : ∀ (g' o : Nat), A = some ⟨g', o, none⟩ → some g' ≠ some g := by
  intro g' o e e2
  rcases ho.2 with ⟨h1, h2⟩ | ⟨g3, cap, cur, hv, hb, hh, _⟩
  · injection h1 with h1
    rw [h1] at e; cases e
  · injection hv with h1
    rw [h1] at e
    injection e with e
    injection e with e
    injection e2 with e2
    subst e
    subst e2
    unfold BlkL at h
    rw [h] at hh
    injection hh with hh
    injection hh with _ hh
    exact hT hh
theorem RI.grow1 {w w' : World} {B g n : Nat} {A : Option Addr} {zs : List Int} (h : RI w B A n zs) (hg : w.grownBy w' (some g)) (hB : B ≤ w'.heap.size) (hgB : B ≤ g := by exact Nat.le_refl _) : RI w' w'.heap.size A n zs := by
  refine ⟨h.1, fun hn => ?_⟩
  obtain ⟨b, o, e, hlt, hc⟩ := h.2 hn
  exact ⟨b, o, e, by omega, fun i hi => World.grownBy.cell hg (hc i hi) (fun e => by injection e with e; dsimp only at e; omega)⟩
theorem isFr_zero {k r : Nat} {zs : List Int} : isFrame (k : Nat) (r : Nat) ((0 : Nat) : Int) ((0 : Nat) : Int) ((0 : Nat) : Int) ((0 : Nat) : Int) ((0 : Nat) : Int) zs = isFrame k r 0 0 0 0 0 zs := rfl
/-- the head of a body of bytes -/
theorem head_eq {zs : List Int} (h : 0 < zs.length) (hz : allR zs 0 255 = true) : 0 ≤ gi zs 0 ∧ gi zs 0 ≤ 255 ∧ gi zs 0 / 64 = ((bk zs : Nat) : Int) ∧ gi zs 0 / 8 % 8 = ((br zs : Nat) : Int) ∧ bk zs ≤ 3 ∧ br zs ≤ 7 := by
  have h1 := allR_gi hz h
  unfold bk br
  omega
theorem bq_none {zs : List Int} (h : bk zs = 0) (a w : Nat) : bq zs a w = 0 := by unfold bq; rw [if_pos h]
theorem bq_nw {zs : List Int} (h : bk zs ≠ 0) (a w : Nat) : nw (((zs.drop 1).take 8).flatMap bits8) a w = bq zs a w := by unfold bq nw; rw [if_neg h]

theorem sBits_at (A : Option Addr) (n c N : Nat) (zs : List Int) (hN : 8 * n = N) (w : World) (h : RI w w.heap.size A n zs) (hn : n ≤ 1048576) (hz : allR zs 0 255 = true) :
    Calls Tryz.prog 211 #[.slice A n c] w (RetI 2 w N (zs.flatMap bits8)) := hN ▸ l01Bits_any A n c zs w h hn hz
theorem iBits_at (A : Option Addr) (n c N : Nat) (zs : List Int) (hN : 8 * n = N) (w : World) (h : RI w w.heap.size A n zs) (hn : n ≤ 1048576) (hz : allR zs 0 255 = true) :
    Calls Tryz.prog 218 #[.slice A n c] w (RetI 2 w N (zs.flatMap bits8)) := hN ▸ toBits_any A n c zs w h hn hz
end Go.Proofs.YtjgmpiefndbnaaaGreatDoor

namespace Go.Proofs.YtjgmpiefndbnaaaGreatDoor
open Go.RowKit
theorem isId_is {k : Int} {b : Bool} (h : inR k 0 16777215 = b) (w : World) : Calls Tryz.prog 186 #[.int .i64 k] w fun e w' => e = .returned (.bool b) ∧ w = w' := by
  go_enter Tryz.func186, Tryz.ntmps186
  go_wp2_with (go_at_call 73; refine (within_is h _).mono ?_; rintro e w' ⟨rfl, rfl⟩)
  go_ret
  exact ⟨rfl, rfl⟩
theorem opC_short {zs : List Int} {id t md rn sl mb : Nat} (h : zs.length < 4) : opC zs id t md rn sl mb = 6 := by unfold opC; rw [if_pos h]
/-- the code of a list that is not too short -/
theorem opC_eq {zs : List Int} {id t md rn sl mb N : Nat} (h : zs.length = N + 3) (hN : 1 ≤ N) : opC zs id t md rn sl mb = (if gi zs N * 65536 + gi zs (N + 1) * 256 + gi zs (N + 2) = ((chkN (bk zs) (bdy zs) id t md rn sl mb : Nat) : Int) then
      (if bok (bdy zs) = true then
        (if bk zs = 0 ∨ (bq (bdy zs) 0 16 = t ∧ bq (bdy zs) 16 4 = md ∧ bq (bdy zs) 20 4 = rn ∧ bq (bdy zs) 24 8 = sl ∧ bq (bdy zs) 32 32 = mb) then 0 else 5)
      else 6)
    else 7) := by
  have e : zs.length - 3 = N := by omega
  unfold opC bdy
  rw [if_neg (by omega), e]
theorem bdy_eq {zs : List Int} {N : Nat} (h : zs.length = N + 3) : bdy zs = zs.take N := by unfold bdy; rw [h]; rfl
theorem bk_bdy {zs : List Int} {N : Nat} (h : zs.length = N + 3) (hN : 1 ≤ N) : bk (bdy zs) = bk zs := by rw [bdy_eq h]; exact bk_take hN
theorem last3 {zs : List Int} {N : Nat} (h : zs.length = N + 3) : zs.drop N = [gi zs N, gi zs (N + 1), gi zs (N + 2)] := by
  refine ext_gi (by rw [List.length_drop, h]; simp) fun i hi => ?_
  rw [List.length_drop, h] at hi
  rw [gi_drop]
  match i, hi with
  | 0, _ => rfl
  | 1, _ => rfl
  | 2, _ => rfl
  | k + 3, hi => omega
theorem OF_ok {zs : List Int} {x0 x1 x2 x3 x4 x5 x6 : Int} {w w' : World} (A : Option Addr) (n c : Nat) (h : x0 = bk (bdy zs) ∧ x1 = br (bdy zs) ∧ x2 = bq (bdy zs) 0 16 ∧ x3 = bq (bdy zs) 16 4 ∧ x4 = bq (bdy zs) 20 4 ∧ x5 = bq (bdy zs) 24 8 ∧ x6 = bq (bdy zs) 32 32) (ho : OwnI 2 w' w.heap.size A n c (bdt (bdy zs))) (hb : Below w.heap.size w w') (e : Ending) (he : e = .returned (.tuple #[.agg #[.int .i64 x0, .int .i64 x1, .int .i64 x2, .int .i64 x3, .int .i64 x4, .int .i64 x5, .int .i64 x6, .slice A n c], .int .i64 0])) : OF zs 0 w e w' := by
  obtain ⟨rfl, rfl, rfl, rfl, rfl, rfl, rfl⟩ := h
  exact ⟨A, n, c, he, ho, hb⟩
end Go.Proofs.YtjgmpiefndbnaaaGreatDoor
