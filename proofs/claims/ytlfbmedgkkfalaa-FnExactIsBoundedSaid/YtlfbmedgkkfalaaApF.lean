/- What a fault makes of samples, with no program in sight. Conditions: none. -/
import Derived.Test.YtlfbmedgkkfalaaChg
import Derived.Test.YtlfbmedgkkfalaaScript
namespace Go.Proofs.Ytlfbmedgkkfalaa
open Go.RowKit

/-- the samples after a valid fault -/
def appF (zs : List Int) (f : Flt) : List Int :=
  if f.kd = 1 then chg inv zs f.pos.toNat (min (f.pos.toNat + 1) zs.length)
  else if f.kd = 2 then chg inv zs f.pos.toNat (min (f.pos.toNat + f.len.toNat) zs.length)
  else if f.kd = 3 then zs.take f.pos.toNat ++ zs.drop (f.pos.toNat + f.len.toNat)
  else if f.kd = 4 then (if f.pos.toNat ≤ zs.length then (zs.take f.pos.toNat ++ List.replicate f.len.toNat f.val ++ zs.drop f.pos.toNat).take 8192 else zs)
  else if f.kd = 5 then silF zs f.pos.toNat zs.length
  else chg (fun _ => f.val) zs f.pos.toNat (min (f.pos.toNat + f.len.toNat) zs.length)
/-- how many they are -/
def lenF (n : Nat) (f : Flt) : Nat :=
  if f.kd = 3 then n - (min n (f.pos.toNat + f.len.toNat) - min n f.pos.toNat)
  else if f.kd = 4 then (if f.pos.toNat ≤ n then min 8192 (n + f.len.toNat) else n)
  else n

theorem appF_len (zs : List Int) (f : Flt) : (appF zs f).length = lenF zs.length f := by
  unfold appF lenF
  by_cases h1 : f.kd = 1
  · rw [if_pos h1, if_neg (by omega), if_neg (by omega), chg_len]
  by_cases h2 : f.kd = 2
  · rw [if_neg h1, if_pos h2, if_neg (by omega), if_neg (by omega), chg_len]
  by_cases h3 : f.kd = 3
  · rw [if_neg h1, if_neg h2, if_pos h3, if_pos h3, List.length_append, List.length_take, List.length_drop]; omega
  by_cases h4 : f.kd = 4
  · rw [if_neg h1, if_neg h2, if_neg h3, if_pos h4, if_neg h3, if_pos h4]
    by_cases h : f.pos.toNat ≤ zs.length
    · rw [if_pos h, if_pos h]
      simp only [List.length_take, List.length_append, List.length_replicate, List.length_drop]
      omega
    · rw [if_neg h, if_neg h]
  by_cases h5 : f.kd = 5
  · rw [if_neg h1, if_neg h2, if_neg h3, if_neg h4, if_pos h5, if_neg h3, if_neg h4, silF_len]
  · rw [if_neg h1, if_neg h2, if_neg h3, if_neg h4, if_neg h5, if_neg h3, if_neg h4, chg_len]

theorem isBits_iff {zs : List Int} : isBits zs = true ↔ zs.length ≤ 8192 ∧ ∀ z ∈ zs, 0 ≤ z ∧ z ≤ 1 := by
  unfold isBits allR
  rw [Bool.and_eq_true, decide_eq_true_eq, List.all_eq_true]
  constructor
  · exact fun ⟨a, b⟩ => ⟨a, fun z hz => inR_iff.1 (b z hz)⟩
  · exact fun ⟨a, b⟩ => ⟨a, fun z hz => inR_iff.2 (b z hz)⟩

theorem lenF_le {n : Nat} (f : Flt) (h : n ≤ 8192) : lenF n f ≤ 8192 := by
  unfold lenF
  split
  · omega
  · split
    · split <;> omega
    · omega

theorem chg_mem {φ : Int → Int} {zs : List Int} {p k : Nat} {z : Int} (h : z ∈ chg φ zs p k) : (∃ y ∈ zs, z = φ y) ∨ z ∈ zs := by
  unfold chg at h
  obtain ⟨i, hi, rfl⟩ := List.mem_map.1 h
  have hi' : i < zs.length := by simpa using hi
  split
  · exact .inl ⟨_, mem_gi hi', rfl⟩
  · exact .inr (mem_gi hi')

theorem isFault_val {f : Flt} (h : isFault f = true) : 0 ≤ f.val ∧ f.val ≤ 1 := by
  unfold isFault at h
  simp only [Bool.and_eq_true] at h
  have h4 := h.2.2.2
  split at h4
  · exact inR_iff.1 h4
  · have := of_decide_eq_true h4; omega
theorem isFault_pos {f : Flt} (h : isFault f = true) : 0 ≤ f.pos ∧ f.pos ≤ 8192 := by
  unfold isFault at h
  simp only [Bool.and_eq_true] at h
  exact inR_iff.1 h.2.1
theorem isFault_len {f : Flt} (h : isFault f = true) : 0 ≤ f.len ∧ f.len ≤ 8192 := by
  unfold isFault at h
  simp only [Bool.and_eq_true] at h
  have h3 := h.2.2.1
  split at h3
  · have := inR_iff.1 h3; omega
  · have := of_decide_eq_true h3; omega
theorem isFault_kd {f : Flt} (h : isFault f = true) : 1 ≤ f.kd ∧ f.kd ≤ 6 := by
  unfold isFault at h
  simp only [Bool.and_eq_true] at h
  exact inR_iff.1 h.1

theorem appF_bits {zs : List Int} {f : Flt} (hz : isBits zs = true) (hf : isFault f = true) : isBits (appF zs f) = true := by
  obtain ⟨hl, hb⟩ := isBits_iff.1 hz
  have hv := isFault_val hf
  refine isBits_iff.2 ⟨by rw [appF_len]; exact lenF_le f hl, fun z hm => ?_⟩
  unfold appF at hm
  have hinv : ∀ {p k : Nat}, z ∈ chg inv zs p k → 0 ≤ z ∧ z ≤ 1 := by
    intro p k hm
    rcases chg_mem hm with ⟨y, hy, rfl⟩ | hy
    · have := hb y hy; unfold inv; omega
    · exact hb z hy
  split at hm
  · exact hinv hm
  split at hm
  · exact hinv hm
  split at hm
  · rcases List.mem_append.1 hm with h | h
    · exact hb z (List.mem_of_mem_take h)
    · exact hb z (List.mem_of_mem_drop h)
  split at hm
  · split at hm
    · have hm := List.mem_of_mem_take hm
      rcases List.mem_append.1 hm with h | h
      · rcases List.mem_append.1 h with h | h
        · exact hb z (List.mem_of_mem_take h)
        · have := List.eq_of_mem_replicate h; omega
      · exact hb z (List.mem_of_mem_drop h)
    · exact hb z hm
  split at hm
  · have hm : z ∈ chg (fun _ => 1) zs f.pos.toNat zs.length := hm
    rcases chg_mem hm with ⟨y, hy, rfl⟩ | hy
    · omega
    · exact hb z hy
  · rcases chg_mem hm with ⟨y, hy, rfl⟩ | hy
    · omega
    · exact hb z hy

/-- the samples after a script -/
def appS (zs : List Int) (fs : List Flt) : List Int := fs.foldl appF zs
def lenS (n : Nat) (fs : List Flt) : Nat := fs.foldl lenF n
theorem appS_take {zs : List Int} {fs : List Flt} {k : Nat} (h : k < fs.length) : appS zs (fs.take (k + 1)) = appF (appS zs (fs.take k)) (ge fs k) := by
  unfold appS
  rw [take_ge h, List.foldl_append]
  rfl
theorem appS_len (fs : List Flt) : ∀ zs : List Int, (appS zs fs).length = lenS zs.length fs := by
  induction fs with
  | nil => intro zs; rfl
  | cons f fs ih =>
    intro zs
    show (appS (appF zs f) fs).length = lenS (lenF zs.length f) fs
    rw [ih, appF_len]
theorem lenS_take {n : Nat} {fs : List Flt} {k : Nat} (h : k < fs.length) : lenS n (fs.take (k + 1)) = lenF (lenS n (fs.take k)) (ge fs k) := by
  unfold lenS
  rw [take_ge h, List.foldl_append]
  rfl
theorem lenS_le (fs : List Flt) : ∀ n : Nat, n ≤ 8192 → lenS n fs ≤ 8192 := by
  induction fs with
  | nil => intro n h; exact h
  | cons f fs ih => intro n h; exact ih _ (lenF_le f h)
theorem appS_bits {fs : List Flt} : ∀ {zs : List Int}, isBits zs = true → allF fs = true → isBits (appS zs fs) = true := by
  induction fs with
  | nil => intro zs h _; exact h
  | cons f fs ih =>
    intro zs h ha
    simp only [allF, List.all_cons, Bool.and_eq_true] at ha
    exact ih (appF_bits h ha.1) ha.2
theorem allF_take' {fs : List Flt} (k : Nat) (h : allF fs = true) : allF (fs.take k) = true := by
  unfold allF at h ⊢
  rw [List.all_eq_true] at h ⊢
  exact fun x hx => h x (List.mem_of_mem_take hx)
end Go.Proofs.Ytlfbmedgkkfalaa
