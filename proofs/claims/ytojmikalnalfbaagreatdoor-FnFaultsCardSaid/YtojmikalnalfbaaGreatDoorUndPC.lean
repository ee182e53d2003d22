/- A plain law: an undone fault leaves the samples as they were. No program. Conditions: as the theorem states them. -/
import Derived.Test.YtojmikalnalfbaaGreatDoorB7
import Derived.Test.YtojmikalnalfbaaGreatDoorB35
namespace Go.Proofs.YtojmikalnalfbaaGreatDoor
open Go.RowKit
open UndoFault

theorem chg_twice {φ : Int → Int} (hφ : ∀ z, φ (φ z) = z) (zs : List Int) (p k : Nat) : chg φ (chg φ zs p k) p k = zs := by
  refine ext_gi (by rw [chg_len, chg_len]) fun i hi => ?_
  rw [chg_len, chg_len] at hi
  rw [chg_gi (by rw [chg_len]; exact hi), chg_gi hi]
  split
  · exact hφ _
  · rfl
theorem inv_inv' (z : Int) : inv (inv z) = z := by unfold inv; omega
theorem undo_law {zs : List Int} {f u : Flt} (h : undo zs.length (isBits zs) f = ⟨u, true⟩) : isFault f = true ∧ isFault u = true ∧ appF (appF zs f) u = zs := by
  unfold undo at h
  split at h
  · rename_i hb
    have hf := hb.2
    refine ⟨hf, ?_⟩
    split at h
    · rename_i hk
      have e : f = u := congrArg Und.f h
      subst e
      refine ⟨hf, ?_⟩
      rcases hk with hk | hk
      · unfold appF
        rw [if_pos hk, if_pos hk, chg_len]
        exact chg_twice inv_inv' _ _ _
      · have hn1 : ¬ f.kd = 1 := by omega
        unfold appF
        rw [if_neg hn1, if_pos hk, if_neg hn1, if_pos hk, chg_len]
        exact chg_twice inv_inv' _ _ _
    · split at h
      · rename_i hk1 hk
        have e : (⟨3, f.pos, f.len, 0⟩ : Flt) = u := congrArg Und.f h
        subst e
        obtain ⟨k4, kp, kl⟩ := hk
        have hp := isFault_pos hf
        have hl := isFault_len hf
        have hlen : inR f.len 1 8192 = true := by
          have h2 := hf
          unfold isFault at h2
          simp only [Bool.and_eq_true] at h2
          have h3 := h2.2.2.1
          rw [k4] at h3
          simpa [hasLen] using h3
        refine ⟨?_, ?_⟩
        · unfold isFault
          rw [hlen]
          have hp2 : inR f.pos 0 8192 = true := inR_iff.2 hp
          rw [hp2]
          rfl
        · have hn1 : ¬ f.kd = 1 := by omega
          have hn2 : ¬ f.kd = 2 := by omega
          have hn3 : ¬ f.kd = 3 := by omega
          have e4 : appF zs f = zs.take f.pos.toNat ++ List.replicate f.len.toNat f.val ++ zs.drop f.pos.toNat := by
            unfold appF
            rw [if_neg hn1, if_neg hn2, if_neg hn3, if_pos k4, if_pos (by omega)]
            refine List.take_of_length_le ?_
            simp only [List.length_append, List.length_take, List.length_replicate, List.length_drop]
            omega
          rw [e4]
          show (zs.take f.pos.toNat ++ List.replicate f.len.toNat f.val ++ zs.drop f.pos.toNat).take f.pos.toNat ++ (zs.take f.pos.toNat ++ List.replicate f.len.toNat f.val ++ zs.drop f.pos.toNat).drop (f.pos.toNat + f.len.toNat) = zs
          have hlt : (zs.take f.pos.toNat).length = f.pos.toNat := by rw [List.length_take]; omega
          have hl2 : (zs.take f.pos.toNat ++ List.replicate f.len.toNat f.val).length = f.pos.toNat + f.len.toNat := by rw [List.length_append, hlt, List.length_replicate]
          rw [List.append_assoc, List.take_left' hlt, ← List.append_assoc, List.drop_left' hl2, List.take_append_drop]
      · cases h
  · cases h
end Go.Proofs.YtojmikalnalfbaaGreatDoor
