/- Walks, laws and small notions for the claims of this seat, several texts as one (CelP). Conditions: as each theorem states them. -/
import Derived.Test.YtjehkjdehkdjcaaB7
import Derived.Test.YtjehkjdehkdjcaaB6
import Derived.IntWalk
namespace Go.Proofs.Ytjehkjdehkdjcaa
open Go.RowKit

theorem wrong_mem {fs : List Flt} {k M : Nat} : (k : Int) ∈ wrongTo fs M ↔ k < M ∧ odd fs k = true := by
  induction M with
  | zero => simp [wrongTo]
  | succ M ih =>
    unfold wrongTo
    rw [List.mem_append, ih]
    by_cases h : odd fs M = true
    · rw [if_pos h]
      constructor
      · rintro (⟨h1, h2⟩ | h1)
        · exact ⟨by omega, h2⟩
        · have : (k : Int) = (M : Int) := by simpa using h1
          obtain rfl : k = M := by omega
          exact ⟨by omega, h⟩
      · rintro ⟨h1, h2⟩
        by_cases hk : k = M
        · right; subst hk; simp
        · left; exact ⟨by omega, h2⟩
    · rw [if_neg h]
      constructor
      · rintro (⟨h1, h2⟩ | h1)
        · exact ⟨by omega, h2⟩
        · exact absurd h1 (by simp)
      · rintro ⟨h1, h2⟩
        by_cases hk : k = M
        · subst hk; exact absurd h2 h
        · left; exact ⟨by omega, h2⟩
theorem hits_cons (f : Flt) (fs : List Flt) (k : Nat) : hits (f :: fs) k = (if hit f k then 1 else 0) + hits fs k := by
  unfold hits
  rw [List.filter_cons]
  split <;> simp <;> omega

theorem cell_rel (z0 : List Int) : ∀ (fs : List Flt) (zs : List Int) (c : Nat → Nat), allC fs = true → allF fs = true → zs.length = z0.length →
    (∀ i, i < z0.length → gi zs i = if c i % 2 = 1 then 1 - gi z0 i else gi z0 i) →
    (appS zs fs).length = z0.length ∧ ∀ i, i < z0.length → gi (appS zs fs) i = if (c i + hits fs (i / 8)) % 2 = 1 then 1 - gi z0 i else gi z0 i := by
  intro fs
  induction fs with
  | nil => intro zs c _ _ h hr; exact ⟨h, hr⟩
  | cons f fs ih =>
    intro zs c ha h hz hr
    have h2 : isFault f = true ∧ allF fs = true := by
      unfold allF at h ⊢
      rw [List.all_cons, Bool.and_eq_true] at h
      exact h
    have ha2 : cellF f = true ∧ allC fs = true := by
      unfold allC at ha ⊢
      rw [List.all_cons, Bool.and_eq_true] at ha
      exact ha
    obtain ⟨a, e, hk, hp, hl, hae, he⟩ := CellErrors.cell_split ha2.1 h2.1
    have ef : appF zs f = chg inv zs f.pos.toNat (min (f.pos.toNat + f.len.toNat) zs.length) := by unfold appF; rw [if_neg (by omega), if_pos hk]
    show (appS (appF zs f) fs).length = _ ∧ ∀ i, i < z0.length → gi (appS (appF zs f) fs) i = _
    rw [ef]
    have key := ih (chg inv zs f.pos.toNat (min (f.pos.toNat + f.len.toNat) zs.length)) (fun i => c i + (if hit f (i / 8) then 1 else 0)) ha2.2 h2.2 (by rw [chg_len, hz]) (fun i hi => by
      rw [chg_gi (by omega), hr i hi]
      have hh : hit f (i / 8) = true ↔ f.pos.toNat ≤ i ∧ i < min (f.pos.toNat + f.len.toNat) zs.length := by
        unfold hit
        rw [inR_iff]
        omega
      by_cases hx : hit f (i / 8) = true
      · rw [if_pos (hh.1 hx), if_pos hx]
        unfold inv
        by_cases hc : c i % 2 = 1
        · rw [if_pos hc, if_neg (by omega)]; omega
        · rw [if_neg hc, if_pos (by omega)]
      · rw [if_neg (fun hq => hx (hh.2 hq)), if_neg hx, Nat.add_zero])
    refine ⟨key.1, fun i hi => ?_⟩
    rw [key.2 i hi, hits_cons, Nat.add_assoc]
/-- a sample differs where its cell is wrong -/
theorem cells_law {zs : List Int} {fs : List Flt} (h : CellErrors.cod zs fs = 0) : bsCode zs fs = 0 ∧ (appS zs fs).length = zs.length ∧
    ∀ i, i < 8 * (zs.length / 8) → (gi (appS zs fs) i = gi zs i ↔ ¬ ((i / 8 : Nat) : Int) ∈ CellErrors.res zs fs) := by
  unfold CellErrors.cod at h
  split at h
  · rename_i h1
    split at h
    · rename_i h2
      have ho := CellErrors.code_ok h1
      have hz := isBits_iff.1 ho.1
      obtain ⟨k1, k2⟩ := cell_rel zs fs zs (fun _ => 0) h2 (CellErrors.allF_of ho.2) rfl (fun i _ => by simp)
      refine ⟨h1, k1, fun i hi => ?_⟩
      have e : CellErrors.res zs fs = wrongTo fs (zs.length / 8) := by unfold CellErrors.res; rw [if_pos ⟨h1, h2⟩]
      rw [e, wrong_mem, k2 i (by omega), Nat.zero_add]
      unfold odd
      rw [decide_eq_true_eq]
      by_cases ho : hits fs (i / 8) % 2 = 1
      · rw [if_pos ho]
        have := hz.2 (gi zs i) (mem_gi (by omega))
        constructor
        · intro hh; omega
        · intro hh; exact absurd ⟨by omega, ho⟩ hh
      · rw [if_neg ho]
        exact ⟨fun _ hh => ho hh.2, fun _ => rfl⟩
    · exact absurd h (by decide)
  · rename_i h1; exact absurd h h1

theorem quiet_plus {P : Program} {f : FuncId} {args : Array Value} {w : World} {m n : Nat} {v : Value}
    (h : Calls P f args (w.drewN (m + n)) fun e w' => e = .returned v ∧ w.drewN (m + n) = w') : Calls P f args (w.drewN (m + n)) fun e w'' => e = .returned v ∧ ∃ j, w'' = w.drewN (m + j) :=
  h.mono fun _ _ ⟨he, hm⟩ => ⟨he, n, hm.symm⟩
set_option maxHeartbeats 4000000 in
theorem hasInt_any (A : Option Addr) (n c : Nat) (zs : List Int) (v : Int) (w : World) (h : RI w w.heap.size A n zs) (hn : n ≤ 1099511627776) :
    Calls Try.prog 47 #[.slice A n c, .int .i64 v] w fun e w' => e = .returned (.bool (decide (v ∈ zs))) ∧ w = w' := by
  have L := Lib.hid h.len
  go_enter Try.func47, Try.ntmps47
  go_wp2
  go_loop [5] (fun i => ∃ k : Nat, k ≤ n ∧ i = .int .i64 k ∧ ∀ j, j < k → gi zs j ≠ v) (fun i => n - (intOf i).toNat)
  case atStart => exact ⟨0, Nat.zero_le _, rfl, fun j hj => absurd hj (by omega)⟩
  case round =>
    obtain ⟨k, hk, rfl, hno⟩ := hrel
    have HNO := Lib.hid hno
    clear hno
    by_cases hlt : k < n
    · obtain ⟨b, o, rfl, _, hc⟩ := h.get (by omega)
      have hcell := hc k hlt
      clear hc
      by_cases hv : gi zs k = v
      · have hm : v ∈ zs := by rw [← hv]; exact mem_gi (by rw [L.out]; exact hlt)
        have HM := Lib.hid hm
        have bv : (gi zs k == v) = true := by simp [hv]
        clear hv hm
        go_wp2
        go_ret
        exact ⟨ret_bool (by simp [HM.out]), rfl⟩
      · have HV := Lib.hid hv
        have bv : (gi zs k == v) = false := by simp [hv]
        clear hv
        go_wp2
        go_round
        case rel => exact ⟨k + 1, by omega, by go_num, fun j hj => by
          by_cases hjk : j = k
          · subst hjk; exact HV.out
          · exact HNO.out j (by omega)⟩
        case measure => simp [intOf]; omega
    · have hkn : k = n := by omega
      have hm : ¬ v ∈ zs := by
        intro hm
        obtain ⟨j, hj, hjv⟩ := List.getElem_of_mem hm
        exact HNO.out j (by rw [hkn, ← L.out]; exact hj) (by rw [gi_lt hj, hjv])
      have HM := Lib.hid hm
      clear hkn hm
      go_wp2
      go_ret
      exact ⟨ret_bool (by simp [HM.out]), rfl⟩
end Go.Proofs.Ytjehkjdehkdjcaa
