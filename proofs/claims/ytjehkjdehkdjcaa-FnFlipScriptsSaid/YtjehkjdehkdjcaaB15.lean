/- Walks, laws and small notions for the claims of this seat, several texts as one (FlpP). Conditions: as each theorem states them. -/
import Derived.Test.YtjehkjdehkdjcaaB5
import Derived.Test.YtjehkjdehkdjcaaB7
import Derived.Test.YtjehkjdehkdjcaaB6
namespace Go.Proofs.Ytjehkjdehkdjcaa
open Go.RowKit
namespace FlipP
open FlipScript (flt)

theorem rises_pw {zs : List Int} (h : rises zs 8193 = true) : zs.Pairwise (· < ·) ∧ ∀ z ∈ zs, 0 ≤ z ∧ z ≤ 8192 := by
  have step : ∀ k, k + 1 < zs.length → gi zs k < gi zs (k + 1) := by
    intro k hk
    have := List.all_eq_true.1 h (k + 1) (by simpa using hk)
    unfold okAt at this
    rw [Bool.and_eq_true] at this
    have h2 := this.2
    rw [Bool.or_eq_true, decide_eq_true_eq, decide_eq_true_eq] at h2
    rcases h2 with h2 | h2
    · omega
    · exact h2
  have far : ∀ d k, k + d + 1 < zs.length → gi zs k < gi zs (k + d + 1) := by
    intro d
    induction d with
    | zero => intro k hk; exact step k hk
    | succ d ih => intro k hk; have h1 := ih k (by omega); have h2 := step (k + d + 1) (by omega); exact Int.lt_trans h1 h2
  refine ⟨List.pairwise_iff_getElem.2 fun i j hi hj hij => ?_, fun z hz => ?_⟩
  · have := far (j - i - 1) i (by omega)
    rw [show i + (j - i - 1) + 1 = j by omega, gi_lt hi, gi_lt hj] at this
    exact this
  · obtain ⟨k, hk, rfl⟩ := List.getElem_of_mem hz
    have := rises_gi h hk
    rw [gi_lt hk] at this
    omega
theorem pw_rises {zs : List Int} (h : zs.Pairwise (· < ·)) (hb : ∀ z ∈ zs, 0 ≤ z ∧ z ≤ 8192) : rises zs 8193 = true := by
  refine List.all_eq_true.2 fun k hk => ?_
  have hk' : k < zs.length := by simpa using hk
  have h1 := hb _ (mem_gi hk')
  unfold okAt
  rw [Bool.and_eq_true]
  refine ⟨inR_iff.2 (by omega), ?_⟩
  by_cases h0 : k = 0
  · simp [h0]
  · have := List.pairwise_iff_getElem.1 h (k - 1) k (by omega) hk' (by omega)
    rw [← gi_lt, ← gi_lt] at this
    simp [this]
theorem pw_eq : ∀ {xs ys : List Int}, xs.Pairwise (· < ·) → ys.Pairwise (· < ·) → (∀ z, z ∈ xs ↔ z ∈ ys) → xs = ys := by
  intro xs
  induction xs with
  | nil =>
    intro ys _ _ h
    cases ys with
    | nil => rfl
    | cons y ys => exact absurd ((h y).2 (by simp)) (by simp)
  | cons x xs ih =>
    intro ys h1 h2 h
    cases ys with
    | nil => exact absurd ((h x).1 (by simp)) (by simp)
    | cons y ys =>
      obtain ⟨a1, a2⟩ := List.pairwise_cons.1 h1
      obtain ⟨b1, b2⟩ := List.pairwise_cons.1 h2
      have hxy : x = y := by
        have e1 := (h x).1 (by simp)
        have e2 := (h y).2 (by simp)
        rcases List.mem_cons.1 e1 with e | e
        · exact e
        · rcases List.mem_cons.1 e2 with e' | e'
          · exact e'.symm
          · have := b1 x e; have := a1 y e'; omega
      subst hxy
      congr 1
      refine ih a2 b2 fun z => ⟨fun hz => ?_, fun hz => ?_⟩
      · rcases List.mem_cons.1 ((h z).1 (List.mem_cons_of_mem _ hz)) with e | e
        · have := a1 z hz; omega
        · exact e
      · rcases List.mem_cons.1 ((h z).2 (List.mem_cons_of_mem _ hz)) with e | e
        · have := b1 z hz; omega
        · exact e
theorem posF_pw (ms : List Int) (a n : Nat) : (posF ms a n).Pairwise (· < ·) := by
  unfold posF
  refine List.pairwise_map.2 ((List.Pairwise.filter _ (List.pairwise_lt_range' (s := a) (n := n))).imp fun h => ?_)
  omega
theorem posF_mem {ms : List Int} {n : Nat} {z : Int} : z ∈ posF ms 0 n ↔ ∃ i : Nat, i < n ∧ gi ms i = 1 ∧ z = i := by
  unfold posF
  constructor
  · intro h
    obtain ⟨i, hi, rfl⟩ := List.mem_map.1 h
    obtain ⟨h1, h2⟩ := List.mem_filter.1 hi
    rw [List.mem_range'_1] at h1
    exact ⟨i, by omega, by simpa using h2, rfl⟩
  · rintro ⟨i, h1, h2, rfl⟩
    refine List.mem_map.2 ⟨i, List.mem_filter.2 ⟨?_, by simpa using h2⟩, rfl⟩
    rw [List.mem_range'_1]; omega

/-- what a list of distinct places turns -/
theorem fold_flt : ∀ (zs ms : List Int), zs.Pairwise (· < ·) → (∀ z ∈ zs, 0 ≤ z ∧ z ≤ 8192) → ms.length = 8193 → ∀ i, i < 8193 →
    gi ((zs.map flt).foldl (fun ms f => togM ms f.pos.toNat) ms) i = if (i : Int) ∈ zs then 1 - gi ms i else gi ms i := by
  intro zs
  induction zs with
  | nil => intro ms _ _ _ i _; simp
  | cons z zs ih =>
    intro ms h hb hl i hi
    obtain ⟨h1, h2⟩ := List.pairwise_cons.1 h
    have hz := hb z (by simp)
    rw [List.map_cons, List.foldl_cons, ih _ h2 (fun y hy => hb y (by simp [hy])) (by rw [togM_len, hl]) i hi]
    rw [togM_gi (by omega)]
    have e : (flt z).pos.toNat = z.toNat := rfl
    rw [e]
    by_cases hiz : i = z.toNat
    · subst hiz
      have hc : ((z.toNat : Nat) : Int) = z := by omega
      rw [hc, if_neg (fun hm => by have := h1 z hm; omega), if_pos rfl, if_pos (by simp)]
    · rw [if_neg hiz]
      by_cases hm : (i : Int) ∈ zs
      · rw [if_pos hm, if_pos (by simp [hm])]
      · rw [if_neg hm, if_neg (fun hh => by rcases List.mem_cons.1 hh with e | e; · omega
                                            · exact hm e)]
theorem gi_zero {i : Nat} : gi (List.replicate 8193 (0 : Int)) i = 0 := by
  unfold gi
  rw [List.getD_eq_getElem?_getD, List.getElem?_replicate]
  split <;> rfl
theorem marks_flt {zs : List Int} (h : zs.Pairwise (· < ·)) (hb : ∀ z ∈ zs, 0 ≤ z ∧ z ≤ 8192) {i : Nat} (hi : i < 8193) : gi (marksOf (zs.map flt)) i = if (i : Int) ∈ zs then 1 else 0 := by
  unfold marksOf
  rw [fold_flt zs _ h hb List.length_replicate i hi, gi_zero]; rfl
theorem posF_flt {zs : List Int} (h : zs.Pairwise (· < ·)) (hb : ∀ z ∈ zs, 0 ≤ z ∧ z ≤ 8192) : posF (marksOf (zs.map flt)) 0 8193 = zs := by
  refine pw_eq (posF_pw _ _ _) h fun z => ?_
  rw [posF_mem]
  constructor
  · rintro ⟨i, hi, h1, rfl⟩
    rw [marks_flt h hb hi] at h1
    by_cases hm : (i : Int) ∈ zs
    · exact hm
    · rw [if_neg hm] at h1; omega
  · intro hz
    have := hb z hz
    have hc : ((z.toNat : Nat) : Int) = z := by omega
    exact ⟨z.toNat, by omega, by rw [marks_flt h hb (by omega), hc, if_pos hz], hc.symm⟩
theorem script_flt {zs : List Int} (hb : ∀ z ∈ zs, 0 ≤ z ∧ z ≤ 8192) (hl : zs.length ≤ 30) : isScript (zs.map flt) = true ∧ allFl (zs.map flt) = true := by
  constructor
  · unfold isScript
    rw [List.length_map, Bool.and_eq_true]
    refine ⟨by simpa using hl, List.all_eq_true.2 fun f hf => ?_⟩
    obtain ⟨z, hz, rfl⟩ := List.mem_map.1 hf
    have := hb z hz
    have h1 : inR z 0 8192 = true := inR_iff.2 (by omega)
    show (inR 1 1 6 && (inR z 0 8192 && (_ && _))) = true
    rw [h1]; rfl
  · refine List.all_eq_true.2 fun f hf => ?_
    obtain ⟨z, hz, rfl⟩ := List.mem_map.1 hf
    rfl
/-- a list of flips, made a script, leads back -/
theorem back {zs : List Int} (h : FlipScript.cod zs = 0) : FlipsOf.cod (FlipScript.res zs) = 0 ∧ FlipsOf.res (FlipScript.res zs) = zs := by
  unfold FlipScript.cod at h
  split at h
  · rename_i h1
    split at h
    · rename_i h2
      obtain ⟨p1, p2⟩ := rises_pw h1
      obtain ⟨s1, s2⟩ := script_flt p2 h2
      have e : FlipScript.res zs = zs.map flt := by unfold FlipScript.res; rw [if_pos ⟨h1, h2⟩]
      rw [e]
      exact ⟨by simp [FlipsOf.cod, s1, s2], by unfold FlipsOf.res; rw [if_pos ⟨s1, s2⟩, posF_flt p1 p2]⟩
    · exact absurd h (by decide)
  · exact absurd h (by decide)

theorem fold_len : ∀ (fs : List Flt) (ms : List Int), allF fs = true → ms.length = 8193 → (∀ i, i < ms.length → gi ms i = 0 ∨ gi ms i = 1) →
    (posF (fs.foldl (fun ms f => togM ms f.pos.toNat) ms) 0 8193).length ≤ (posF ms 0 8193).length + fs.length := by
  intro fs
  induction fs with
  | nil => intro ms _ _ _; simp
  | cons f fs ih =>
    intro ms h hl hb
    obtain ⟨q, hq, hq2⟩ := FlipsOf.pos_parts h (k := 0) (by simp)
    rw [ge_cons_zero] at hq
    have hpos : f.pos.toNat < 8193 := by omega
    have h2 : allF fs = true := by
      unfold allF at h ⊢
      rw [List.all_cons, Bool.and_eq_true] at h
      exact h.2
    rw [List.foldl_cons]
    have hb2 : ∀ i, i < (togM ms f.pos.toNat).length → gi (togM ms f.pos.toNat) i = 0 ∨ gi (togM ms f.pos.toNat) i = 1 := by
      intro i hi
      rw [togM_len] at hi
      rw [togM_gi hi]
      split
      · have := hb f.pos.toNat (by omega); omega
      · exact hb i hi
    have := ih (togM ms f.pos.toNat) h2 (by rw [togM_len, hl]) hb2
    have h3 : (posF (togM ms f.pos.toNat) 0 8193).length ≤ (posF ms 0 8193).length + 1 := by
      rw [posF_tog hpos (by omega) (hb _ (by omega)), posF_split ms f.pos.toNat 8193 hpos]
      simp only [List.length_append]
      split <;> simp <;> omega
    rw [List.length_cons]
    omega
theorem marks_len {fs : List Flt} (h : allF fs = true) : (posF (marksOf fs) 0 8193).length ≤ fs.length := by
  have h0 : posF (List.replicate 8193 0) 0 8193 = [] := by
    refine List.eq_nil_iff_forall_not_mem.2 fun z hz => ?_
    obtain ⟨i, _, h1, _⟩ := posF_mem.1 hz
    rw [gi_zero] at h1; omega
  have := fold_len fs (List.replicate 8193 0) h List.length_replicate (fun i _ => .inl gi_zero)
  rw [h0] at this
  rw [List.length_nil, Nat.zero_add] at this
  exact this

/-- the samples that a script of flips leaves -/
theorem flip_rel (z0 : List Int) (hl0 : z0.length ≤ 8193) : ∀ (fs : List Flt) (zs ms : List Int), allFl fs = true → allF fs = true → zs.length = z0.length → ms.length = 8193 →
    (∀ i, i < 8193 → gi ms i = 0 ∨ gi ms i = 1) → (∀ i, i < z0.length → gi zs i = if gi ms i = 1 then 1 - gi z0 i else gi z0 i) →
    (appS zs fs).length = z0.length ∧ ∀ i, i < z0.length → gi (appS zs fs) i = if gi (fs.foldl (fun ms f => togM ms f.pos.toNat) ms) i = 1 then 1 - gi z0 i else gi z0 i := by
  intro fs
  induction fs with
  | nil => intro zs ms _ _ h _ _ hr; exact ⟨h, hr⟩
  | cons f fs ih =>
    intro zs ms ha h hz hl hb hr
    obtain ⟨q, hq, hq2⟩ := FlipsOf.pos_parts h (k := 0) (by simp)
    rw [ge_cons_zero] at hq
    have hpos : f.pos.toNat < 8193 := by omega
    have h2 : allF fs = true := by
      unfold allF at h ⊢
      rw [List.all_cons, Bool.and_eq_true] at h
      exact h.2
    have ha2 : f.kd = 1 ∧ allFl fs = true := by
      unfold allFl at ha ⊢
      rw [List.all_cons, Bool.and_eq_true] at ha
      exact ⟨by simpa using ha.1, ha.2⟩
    have ef : appF zs f = chg inv zs f.pos.toNat (min (f.pos.toNat + 1) zs.length) := by unfold appF; rw [if_pos ha2.1]
    show (appS (appF zs f) fs).length = _ ∧ ∀ i, i < z0.length → gi (appS (appF zs f) fs) i = _
    rw [ef, List.foldl_cons]
    refine ih _ _ ha2.2 h2 (by rw [chg_len, hz]) (by rw [togM_len, hl]) (fun i hi => ?_) fun i hi => ?_
    · rw [togM_gi (by omega)]
      split
      · have := hb f.pos.toNat hpos; omega
      · exact hb i hi
    · rw [chg_gi (by omega), togM_gi (by omega)]
      have h1 := hr i hi
      have h3 := hb i (by omega)
      by_cases hip : i = f.pos.toNat
      · rw [if_pos (by omega), if_pos hip, ← hip, h1]
        unfold inv
        rcases h3 with e | e
        · rw [e]; simp
        · rw [e]; simp; omega
      · rw [if_neg (by omega), if_neg hip, h1]
theorem appS_flips {zs : List Int} {fs : List Flt} (hz : zs.length ≤ 8193) (ha : allFl fs = true) (h : allF fs = true) :
    (appS zs fs).length = zs.length ∧ ∀ i, i < zs.length → gi (appS zs fs) i = if gi (marksOf fs) i = 1 then 1 - gi zs i else gi zs i :=
  flip_rel zs hz fs zs _ ha h rfl List.length_replicate (fun i _ => .inl gi_zero) (fun i _ => by rw [gi_zero]; simp)

/-- the flips of a script, made a script again, do the same -/
theorem again {fs : List Flt} (h : FlipsOf.cod fs = 0) : isScript fs = true ∧ FlipScript.cod (FlipsOf.res fs) = 0 ∧ isScript (FlipScript.res (FlipsOf.res fs)) = true ∧
    ∀ zs : List Int, zs.length ≤ 8193 → appS zs (FlipScript.res (FlipsOf.res fs)) = appS zs fs := by
  unfold FlipsOf.cod at h
  split at h
  · rename_i h1
    split at h
    · rename_i h2
      have e : FlipsOf.res fs = posF (marksOf fs) 0 8193 := by unfold FlipsOf.res; rw [if_pos ⟨h1, h2⟩]
      obtain ⟨s1, s2⟩ := FlipsOf.isScript_parts h1
      have hl : (posF (marksOf fs) 0 8193).length ≤ 30 := Nat.le_trans (marks_len s2) s1
      have hp := posF_pw (marksOf fs) 0 8193
      have hb : ∀ z ∈ posF (marksOf fs) 0 8193, 0 ≤ z ∧ z ≤ 8192 := fun z hz => by have := posF_lt hz; omega
      have hr := pw_rises hp hb
      have e2 : FlipScript.res (FlipsOf.res fs) = (posF (marksOf fs) 0 8193).map flt := by rw [e]; unfold FlipScript.res; rw [if_pos ⟨hr, hl⟩]
      obtain ⟨t1, t2⟩ := script_flt hb hl
      refine ⟨h1, by rw [e]; simp [FlipScript.cod, hr, hl], by rw [e2]; exact t1, fun zs hz => ?_⟩
      rw [e2]
      obtain ⟨u1, u2⟩ := appS_flips hz t2 (FlipsOf.isScript_parts t1).2
      obtain ⟨v1, v2⟩ := appS_flips hz h2 s2
      refine ext_gi (by rw [u1, v1]) fun i hi => ?_
      rw [u1] at hi
      rw [u2 i hi, v2 i hi, marks_flt hp hb (by omega)]
      have hm : (i : Int) ∈ posF (marksOf fs) 0 8193 ↔ gi (marksOf fs) i = 1 := by
        rw [posF_mem]
        exact ⟨fun ⟨j, _, hj, e⟩ => by obtain rfl : i = j := by omega
                                       exact hj, fun hh => ⟨i, by omega, hh, rfl⟩⟩
      by_cases hg : gi (marksOf fs) i = 1
      · rw [if_pos (hm.2 hg), if_pos rfl, if_pos hg]
      · rw [if_neg (fun hh => hg (hm.1 hh)), if_neg (by decide), if_neg hg]
    · exact absurd h (by decide)
  · exact absurd h (by decide)
end FlipP
end Go.Proofs.Ytjehkjdehkdjcaa
