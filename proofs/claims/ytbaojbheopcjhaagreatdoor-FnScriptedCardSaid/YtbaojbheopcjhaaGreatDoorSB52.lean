/- Walks, laws and small notions for the claims of this seat, several texts as one (Len, RowB, Like). Conditions: as each theorem states them. -/
import Derived.Test.YtbaojbheopcjhaaGreatDoorSB27
import Derived.Test.YtbaojbheopcjhaaGreatDoorB2
import Derived.Test.YtbaojbheopcjhaaGreatDoorB48
import Derived.Test.YtbaojbheopcjhaaGreatDoorSB30
namespace Go.Proofs.YtbaojbheopcjhaaGreatDoor
open Go.RowKit
namespace LengthAfter
def val (a : Int) (fs : List Flt) : Int := if inR a 0 8192 = true ∧ isScript fs = true then (lenS a.toNat fs : Int) else 0
def cod (a : Int) (fs : List Flt) : Int := if inR a 0 8192 then (if isScript fs then 0 else 2) else 1

theorem zeros_bits {N : Nat} (h : N ≤ 8192) : isBits (List.replicate N 0) = true := by
  refine isBits_iff.2 ⟨by simpa using h, fun z hz => ?_⟩
  have := List.eq_of_mem_replicate hz
  omega

set_option maxHeartbeats 4000000 in
theorem impl_any (a : Int) (A : Option Addr) (n c : Nat) (fs : List Flt) (w : World) (h : RE encF 4 w w.heap.size A n fs) (hn : n ≤ 1099511627776) :
    Calls Tryz.prog 12 #[.int .i64 a, .slice A n c] w (RetV w (.tuple #[.int .i64 (val a fs), .int .i64 (cod a fs)])) := by
  have L := Lib.hid h.len
  rcases bool_cases (inR a 0 8192) with hr | hr
  case inr =>
    have E1 := Lib.hid (show val a fs = 0 from by simp [val, hr])
    have E2 := Lib.hid (show cod a fs = 1 from by simp [cod, hr])
    go_enter Tryz.func12, Tryz.ntmps12
    go_wp2_with fail
    refine (within_any a 0 8192 _).mono ?_
    rw [show inR a 0 8192 = false from hr]
    rintro e w' ⟨rfl, rfl⟩
    go_wp2
    go_ret2
    rw [E1.out, E2.out]
    exact ⟨rfl, Below.refl _ _⟩
  rcases bool_cases (isScript fs) with hz | hz
  case inr =>
    have E1 := Lib.hid (show val a fs = 0 from by simp [val, hz])
    have E2 := Lib.hid (show cod a fs = 2 from by simp [cod, hr, hz])
    go_enter Tryz.func12, Tryz.ntmps12
    go_wp2_with fail
    refine (within_any a 0 8192 _).mono ?_
    rw [show inR a 0 8192 = true from hr]
    rintro e w' ⟨rfl, rfl⟩
    go_wp2_with fail
    refine (iIsScript_any A n c fs _ h hn).mono ?_
    rw [hz]
    rintro e w1 ⟨rfl, hb1⟩
    go_wp2
    go_ret2
    rw [E1.out, E2.out]
    exact ⟨rfl, hb1⟩
  have hr' := inR_iff.1 hr
  obtain ⟨N, rfl⟩ : ∃ N : Nat, a = N := ⟨a.toNat, by omega⟩
  have hN : N ≤ 8192 := by omega
  have E1 := Lib.hid (show val N fs = (lenS N fs : Int) from by simp [val, hr, hz])
  have E2 := Lib.hid (show cod N fs = 0 from by simp [cod, hr, hz])
  have HA := Lib.hid (isScript_all hz)
  clear hr'
  go_enter Tryz.func12, Tryz.ntmps12
  go_wp2_with fail
  refine (within_any N 0 8192 _).mono ?_
  rw [show inR N 0 8192 = true from hr]
  rintro e w' ⟨rfl, rfl⟩
  go_wp2_with fail
  refine (iIsScript_any A n c fs _ h hn).mono ?_
  rw [hz]
  clear hz hr
  rintro e w1 ⟨rfl, hb1⟩
  go_wp2_with (with_reducible refine wpl_make _ Tryz.underlying31 infoInt rfl _ _ rfl N rfl rfl (by omega) ?_; intro w2 hown2 hg2)
  have hb2 : Below w.heap.size w w2 := hb1.grown hg2 hb1.size (fun g e => by cases e)
  refine (ApplyScript.applyScript_any _ N N _ A n c fs _ hown2.reads (zeros_bits hN) (fun e => by cases e) (h.up hb2) HA.out hn).mono ?_
  rintro e w3 ⟨A3, c3, rfl, hown3, hb3⟩
  have HL := Lib.hid (show (List.replicate N (0 : Int)).length = N by simp)
  go_wp2
  go_ret2
  rw [E1.out, E2.out]
  exact ⟨rfl, below_next hb3 hb2 (Nat.le_refl _)⟩
end LengthAfter
end Go.Proofs.YtbaojbheopcjhaaGreatDoor

namespace Go.Proofs.YtbaojbheopcjhaaGreatDoor
open Go.ChangeShapes Go.WideShapes Go.ChangeAt Go.RowKit

section
variable {H : Type} {enc : TypeId × Value → H} {P : Program} {W : World}
theorem byte_wf {n : Int} (h : (Lit.int .u8 n).wf = true) : 0 ≤ n ∧ n ≤ 255 := by
  simpa [Lit.wf, IntKind.min, IntKind.max, IntKind.signed, IntKind.bits] using h
theorem arg_bytes {TS T : TypeId} (ht : P.underlying TS = some (.slice T)) (he : P.underlying T = some (.int .u8)) (hc : P.cellsOf T = 1) {base : Nat} {r : Reach} {v : Value} {d : DataW H} {p : List MemPlace}
    (hv : Value.okWide P W r base TS v) (h : DataW.Trod enc P W 0 (fun _ => true) true TS v d p) :
    ∃ A n c zs, v = .slice A n c ∧ RB W W.heap.size A n zs ∧ n ≤ maxLen := by
  obtain ⟨a0, len, cap, rfl⟩ := okWide_slice ht hv
  obtain ⟨fuel, hf⟩ := h
  rcases open_ints ht he hc hf with ⟨hcs, _⟩ | ⟨a, len', cap', zs, hcs, _, hl, hm, hz, _, hcell, hwz⟩
  · have e : Value.slice a0 len cap = .slice none 0 0 := by simpa [Value.cells] using hcs
    injection e with e1 e2 e3
    subst e1; subst e2; subst e3
    exact ⟨none, 0, 0, [], rfl, ⟨rfl, fun i hi => absurd hi (by omega), fun h0 => absurd h0 (by omega)⟩, Nat.zero_le _⟩
  · have e : Value.slice a0 len cap = .slice (some a) len' cap' := by simpa [Value.cells] using hcs
    injection e with e1 e2 e3
    subst e1; subst e2; subst e3
    simp only [if_true] at hz
    refine ⟨some a, len, cap, zs.take len, rfl, ⟨by rw [List.length_take]; omega, fun i hi => ?_, fun hn => ?_⟩, Nat.le_trans hl hm⟩
    · rw [gi_take hi]
      exact byte_wf (hwz _ (mem_gi (by omega)))
    · obtain ⟨b, o, rfl, hc'⟩ := ints_at hcell (by omega)
      refine ⟨b, o, rfl, World.block_lt_of_cell? W ⟨b, o + 0, none⟩ (hc' 0 (by omega)), fun i hi => ?_⟩
      rw [hc' i (by omega), gi_take hi]; rfl
end

theorem big_any (A : Option Addr) (n c : Nat) (w : World) (hn : n ≤ maxLen) :
    Calls Tryz.prog 5 #[.slice A n c] w fun e w' => e = .returned (.bool (decide (4096 < n))) ∧ w = w' := by
  unfold maxLen at hn
  by_cases h : 4096 < n
  all_goals
    go_enter Tryz.func5, Tryz.ntmps5
    go_wp2
    go_ret
    exact ⟨ret_bool (by simp; omega), rfl⟩

theorem drewN_two (w : World) (a b : Nat) : ∃ m, (w.drewN a).drewN b = w.drewN m := ⟨a + b, World.drewN_drewN _ _ _⟩

set_option maxHeartbeats 400000 in
theorem likeInts_any (A A' : Option Addr) (n n' c c' : Nat) (xs ys : List Int) (w : World) (hx : RI w w.heap.size A n xs) (hy : RI w w.heap.size A' n' ys) (hn : n ≤ 1099511627776) (hn' : n' ≤ 1099511627776) :
    Calls Tryz.prog 9 #[.slice A n c, .slice A' n' c'] w fun e w' => e = .returned (.bool (eqI xs ys)) ∧ ∃ m, w' = w.drewN m := by
  by_cases hnn : n = n'
  · subst hnn
    go_enter Tryz.func9, Tryz.ntmps9
    go_wp2
    go_loopw [5] (fun i wr => ∃ k m : Nat, k ≤ n ∧ i = .int .i64 k ∧ xs.take k = ys.take k ∧ wr = w.drewN m) (fun i _ => n - (intOf i).toNat)
    case atStart => exact ⟨0, 0, Nat.zero_le _, rfl, rfl, rfl⟩
    case round =>
      obtain ⟨k, m, hk, rfl, heq, rfl⟩ := hrel
      have Heq := Lib.hid heq
      clear heq
      by_cases hlt : k < n
      · obtain ⟨b, o, rfl, _, hc⟩ := hx.get (by omega)
        have hcell := hc k hlt
        clear hc
        obtain ⟨b', o', rfl, _, hc⟩ := hy.get (by omega)
        have hcell' := hc k hlt
        clear hc
        by_cases hr : gi xs k = gi ys k
        · have HR := Lib.hid hr
          have hbn : (gi xs k != gi ys k) = false := by simp [hr]
          clear hr
          go_wp2
          go_quiet (fail)
          go_wp2
          go_roundw
          case rel => exact ⟨k + 1, _, by omega, by go_num, by rw [take_gi (by rw [hx.len]; exact hlt), take_gi (by rw [hy.len]; exact hlt), Heq.out, HR.out], rfl⟩
          case measure => simp [intOf]; omega
        · have hbn : (gi xs k != gi ys k) = true := by simp [hr]
          have HR := Lib.hid hr
          clear hr
          go_wp2
          go_quiet (fail)
          go_wp2
          go_ret
          exact ⟨ret_bool (eqI_no HR.out).symm, drewN_two _ _ _⟩
      · have hkn : k = n := by omega
        have HK := Lib.hid hkn
        clear hkn
        go_wp2
        go_ret
        refine ⟨ret_bool (eqI_take hx.len hy.len ?_).symm, _, rfl⟩
        have := Heq.out
        rwa [HK.out] at this
  · have hbn : ((n : Int) != (n' : Int)) = true := by simp; omega
    go_enter Tryz.func9, Tryz.ntmps9
    go_wp2
    go_ret
    exact ⟨ret_bool (eqI_len (by rw [hx.len, hy.len]; exact hnn)).symm, 0, rfl⟩
end Go.Proofs.YtbaojbheopcjhaaGreatDoor

namespace Go.Proofs.YtbaojbheopcjhaaGreatDoor
open Go.RowKit
theorem likeIntsV (A A' : Option Addr) (n n' c c' : Nat) (xs ys : List Int) (w : World) (hx : RI w w.heap.size A n xs) (hy : RI w w.heap.size A' n' ys) (hn : n ≤ 1099511627776) (hn' : n' ≤ 1099511627776) :
    Calls Tryz.prog 9 #[.slice A n c, .slice A' n' c'] w (RetV w (.bool (eqI xs ys))) :=
  (likeInts_any A A' n n' c c' xs ys w hx hy hn hn').mono fun _ _ ⟨he, m, hm⟩ => ⟨he, by subst hm; exact below_drewN (Below.refl _ _) m⟩

namespace VoteSamples
end VoteSamples
end Go.Proofs.YtbaojbheopcjhaaGreatDoor
