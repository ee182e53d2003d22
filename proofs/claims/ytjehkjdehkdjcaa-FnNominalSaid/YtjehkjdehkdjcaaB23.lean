/- Walks, laws and small notions for the claims of this seat, several texts as one (Sum). Conditions: as each theorem states them. -/
import Derived.Test.YtjehkjdehkdjcaaB21
import Derived.Test.YtjehkjdehkdjcaaB11
import Derived.Test.YtjehkjdehkdjcaaB8
namespace Go.Proofs.Ytjehkjdehkdjcaa
open Go.RowKit

theorem sum_take_gi {xs : List Int} {k : Nat} (h : k < xs.length) : (xs.take (k + 1)).sum = (xs.take k).sum + gi xs k := by rw [take_gi h]; simp
theorem sum_take_bd {xs : List Int} {n : Nat} (hb : ∀ i, i < n → 0 ≤ gi xs i ∧ gi xs i ≤ 8192) (hl : xs.length = n) : ∀ k, k ≤ n → 0 ≤ (xs.take k).sum ∧ (xs.take k).sum ≤ 8192 * (k : Int) := by
  intro k
  induction k with
  | zero => intro _; simp
  | succ k ih =>
    intro hk
    have h1 := ih (by omega)
    have h2 := hb k (by omega)
    rw [sum_take_gi (by omega)]
    omega
set_option maxHeartbeats 4000000 in
theorem sumL_any (A : Option Addr) (n c : Nat) (xs : List Int) (w : World) (hx : RI w w.heap.size A n xs) (hb : ∀ i, i < n → 0 ≤ gi xs i ∧ gi xs i ≤ 8192) (hn : n ≤ 1048576) :
    Calls Try.prog 56 #[.slice A n c] w fun e w' => e = .returned (.int .i64 xs.sum) ∧ w = w' := by
  have L := Lib.hid hx.len
  have HB := Lib.hid (sum_take_bd hb L.out)
  have HC := Lib.hid hb
  clear hb
  go_enter Try.func56, Try.ntmps56
  go_wp2
  go_loop [3, 4] (fun s i => ∃ k : Nat, k ≤ n ∧ s = .int .i64 (xs.take k).sum ∧ i = .int .i64 k) (fun _ i => n - (intOf i).toNat)
  case atStart => exact ⟨0, by omega, rfl, rfl⟩
  case round =>
    obtain ⟨k, hk, rfl, rfl⟩ := hrel
    by_cases hlt : k < n
    · obtain ⟨b, o, rfl, _, hc⟩ := hx.get (by omega)
      have hcell := hc k hlt
      clear hc
      have h1 := HB.out k (by omega)
      have h2 := HC.out k hlt
      have HS := Lib.hid (sum_take_gi (xs := xs) (k := k) (by rw [L.out]; exact hlt))
      obtain ⟨s, hs⟩ : ∃ s, (xs.take k).sum = s := ⟨_, rfl⟩
      obtain ⟨x, hx'⟩ : ∃ x, gi xs k = x := ⟨_, rfl⟩
      rw [hs] at h1 HS ⊢
      rw [hx'] at h2 hcell HS
      clear hs hx'
      have f1 : IntKind.i64.wrap (s + x) = s + x := IntWalk.i64_in _ (by omega)
      go_wp2
      go_round
      case rel => exact ⟨k + 1, by omega, by rw [HS.out], by go_num⟩
      case measure => simp [intOf]; omega
    · have hkn : k = xs.length := by have := L.out; omega
      have HS := Lib.hid (show (xs.take k).sum = xs.sum by rw [hkn, List.take_length])
      clear hkn
      go_wp2
      go_ret
      exact ⟨ret_int HS.out, rfl⟩
theorem nomi_ok {cs : List Int} (h : NominalSamples.cod cs = 0) : isBits cs = true ∧ cs.length * 8 ≤ 8192 ∧ NominalSamples.res cs = nom cs ∧ isBits (nom cs) = true := by
  have h0 := h
  unfold NominalSamples.cod at h
  split at h
  · rename_i h1
    split at h
    · rename_i h2
      exact ⟨h1, h2, by unfold NominalSamples.res; rw [if_pos h0], nom_bits (isBits_iff.1 h1).2 (by omega)⟩
    · cases h
  · cases h
theorem nomi_len (cs : List Int) : (NominalSamples.res cs).length ≤ 8192 := by
  unfold NominalSamples.res
  split
  · rename_i h
    have := nomi_ok h
    rw [nom_len]
    omega
  · simp
theorem crL_nom {cs : List Int} (h : isBits (nom cs) = true) : crC (nom cs) = 0 ∧ (crL (nom cs)).sum = (cs.length : Int) ∧ (crL (nom cs)).length ≤ 8192 ∧ ∀ i, i < (crL (nom cs)).length → 0 ≤ gi (crL (nom cs)) i ∧ gi (crL (nom cs)) i ≤ 8192 := by
  have e : crL (nom cs) = (runsTo (nom cs) (8 * cs.length)).map rnd := by unfold crL; rw [if_pos h, nom_len]
  have hl : 8 * cs.length ≤ 8192 := by have := isBits_len h; rwa [nom_len] at this
  refine ⟨by unfold crC; rw [if_pos h], by rw [e]; exact runs_law cs, ?_, ?_⟩
  · rw [e, List.length_map]; have := (runsTo_len (nom cs) (8 * cs.length)).1; omega
  · rw [e]
    intro i hi
    rw [List.length_map] at hi
    have := runsTo_bd (nom cs) (8 * cs.length) i hi
    have e2 : gi ((runsTo (nom cs) (8 * cs.length)).map rnd) i = rnd (gi (runsTo (nom cs) (8 * cs.length)) i) := by
      rw [gi_lt (by simpa using hi), gi_lt hi, List.getElem_map]
    rw [e2]
    unfold rnd
    omega
end Go.Proofs.Ytjehkjdehkdjcaa
