/- Walks, laws and small notions for the claims of this seat, several texts as one (EdgP, NomP, Edg, Edh, Edi). Conditions: as each theorem states them. -/
import Derived.Test.YtjehkjdehkdjcaaB18
import Derived.Test.YtjehkjdehkdjcaaB8
import Derived.Test.YtjehkjdehkdjcaaB11
import Derived.BigQuiet
import Derived.IntWalk
import Derived.Test.YtjehkjdehkdjcaaB3
import Derived.Test.YtjehkjdehkdjcaaB16
namespace Go.Proofs.Ytjehkjdehkdjcaa
open Go.RowKit

/-- the numbers below n with a property -/
def pick (p : Nat → Bool) : Nat → List Int
  | 0 => []
  | n + 1 => pick p n ++ (if p n then [(n : Int)] else [])
theorem pick_yes {p : Nat → Bool} {n : Nat} (h : p n = true) : pick p (n + 1) = pick p n ++ [(n : Int)] := by simp [pick, h]
theorem pick_no {p : Nat → Bool} {n : Nat} (h : p n = false) : pick p (n + 1) = pick p n := by simp [pick, h]
theorem pick_len (p : Nat → Bool) (n : Nat) : (pick p n).length ≤ n := by
  induction n with
  | zero => exact Nat.le_refl _
  | succ n ih => unfold pick; rw [List.length_append]; split <;> simp <;> omega
theorem pick_mem {p : Nat → Bool} {n : Nat} {z : Int} : z ∈ pick p n ↔ ∃ i : Nat, z = (i : Int) ∧ i < n ∧ p i = true := by
  induction n with
  | zero => simp [pick]
  | succ n ih =>
    unfold pick
    rw [List.mem_append, ih]
    constructor
    · rintro (⟨i, h1, h2, h3⟩ | h)
      · exact ⟨i, h1, by omega, h3⟩
      · by_cases hp : p n = true
        · rw [if_pos hp, List.mem_singleton] at h; exact ⟨n, h, by omega, hp⟩
        · rw [if_neg hp] at h; cases h
    · rintro ⟨i, h1, h2, h3⟩
      by_cases hi : i = n
      · right; subst hi; rw [if_pos h3, List.mem_singleton]; exact h1
      · left; exact ⟨i, h1, by omega, h3⟩
theorem pick_rises (p : Nat → Bool) (n : Nat) : (pick p n).Pairwise (· ≤ ·) := by
  induction n with
  | zero => exact List.Pairwise.nil
  | succ n ih =>
    unfold pick
    refine List.pairwise_append.2 ⟨ih, by split <;> simp, ?_⟩
    intro a ha b hb
    obtain ⟨i, rfl, hi, _⟩ := pick_mem.1 ha
    split at hb
    · rw [List.mem_singleton] at hb; omega
    · cases hb
theorem pick_perm {p q r : Nat → Bool} (n : Nat) (h : ∀ i, i < n → r i = (p i || q i)) (hx : ∀ i, p i = true → q i = true → False) : List.Perm (pick p n ++ pick q n) (pick r n) := by
  induction n with
  | zero => exact List.Perm.refl _
  | succ n ih =>
    have ih := ih fun i hi => h i (by omega)
    have hr := h n (by omega)
    rcases hp : p n with _ | _
    · rcases hq : q n with _ | _
      · rw [hp, hq] at hr
        rw [pick_no hp, pick_no hq, pick_no hr]; exact ih
      · rw [hp, hq] at hr
        rw [pick_no hp, pick_yes hq, pick_yes hr, ← List.append_assoc]; exact ih.append_right _
    · rcases hq : q n with _ | _
      · rw [hp, hq] at hr
        rw [pick_yes hp, pick_no hq, pick_yes hr, List.append_assoc]
        exact (List.Perm.append_left _ List.perm_append_comm).trans (by rw [← List.append_assoc]; exact ih.append_right _)
      · exact absurd (hx n hp hq) id
theorem perm_eq : ∀ {xs ys : List Int}, List.Perm xs ys → xs.Pairwise (· ≤ ·) → ys.Pairwise (· ≤ ·) → xs = ys := by
  intro xs
  induction xs with
  | nil => intro ys h _ _; exact h.nil_eq
  | cons x xs ih =>
    intro ys h h1 h2
    cases ys with
    | nil => exact absurd h.length_eq (by simp)
    | cons y ys =>
      have hx : x ∈ y :: ys := h.subset (List.mem_cons_self ..)
      have hy : y ∈ x :: xs := h.symm.subset (List.mem_cons_self ..)
      have e : x = y := by
        rcases List.mem_cons.1 hx with e | hx
        · exact e
        · rcases List.mem_cons.1 hy with e | hy
          · exact e.symm
          · have a1 := (List.pairwise_cons.1 h2).1 x hx
            have a2 := (List.pairwise_cons.1 h1).1 y hy
            omega
      subst e
      rw [ih h.cons_inv (List.pairwise_cons.1 h1).2 (List.pairwise_cons.1 h2).2]

/-- does a list become a value at a place -/
def eTo (zs : List Int) (v : Int) (i : Nat) : Bool := decide (0 < i) && ((gi zs (i - 1) != v) && (gi zs i == v))
/-- does a list change at a place -/
def eAny (zs : List Int) (i : Nat) : Bool := decide (0 < i) && (gi zs i != gi zs (i - 1))
/-- the edges of a list -/
def chgL (zs : List Int) : List Int := pick (eAny zs) zs.length
theorem chgL_len (zs : List Int) : (chgL zs).length ≤ zs.length := pick_len _ _
theorem chgL_rises (zs : List Int) : (chgL zs).Pairwise (· ≤ ·) := pick_rises _ _
theorem chgL_mem {zs : List Int} {z : Int} : z ∈ chgL zs ↔ ∃ i : Nat, z = (i : Int) ∧ i < zs.length ∧ 0 < i ∧ gi zs i ≠ gi zs (i - 1) := by
  unfold chgL
  rw [pick_mem]
  constructor
  · rintro ⟨i, h1, h2, h3⟩
    simp only [eAny, Bool.and_eq_true, decide_eq_true_eq, bne_iff_ne] at h3
    exact ⟨i, h1, h2, h3.1, h3.2⟩
  · rintro ⟨i, h1, h2, h3, h4⟩
    exact ⟨i, h1, h2, by simp [eAny, h3, h4]⟩
theorem chgL_gi {zs : List Int} {k : Nat} (hk : k < (chgL zs).length) : ∃ i : Nat, gi (chgL zs) k = (i : Int) ∧ i < zs.length ∧ 0 < i ∧ gi zs i ≠ gi zs (i - 1) := by
  rw [gi_lt hk]
  exact chgL_mem.1 (List.getElem_mem hk)
theorem chgL_step {zs : List Int} {k : Nat} (hk : k + 1 < (chgL zs).length) : gi (chgL zs) k ≤ gi (chgL zs) (k + 1) := by
  rw [gi_lt hk, gi_lt (by omega)]
  exact List.pairwise_iff_getElem.1 (chgL_rises zs) k (k + 1) (by omega) hk (by omega)
theorem sort_edges {zs : List Int} (hz : ∀ i, i < zs.length → gi zs i = 0 ∨ gi zs i = 1) : (pick (eTo zs 0) zs.length ++ pick (eTo zs 1) zs.length).mergeSort (fun x y => decide (x ≤ y)) = chgL zs := by
  refine perm_eq ((List.mergeSort_perm _ _).trans (pick_perm _ ?_ ?_)) ?_ (chgL_rises zs)
  · intro i hi
    unfold eAny eTo
    by_cases h0 : 0 < i
    · have h1 := hz i hi
      have h2 := hz (i - 1) (by omega)
      rcases h1 with e1 | e1 <;> rcases h2 with e2 | e2 <;> rw [e1, e2] <;> simp [h0]
    · simp [h0]
  · intro i h1 h2
    simp only [eTo, Bool.and_eq_true, decide_eq_true_eq, beq_iff_eq] at h1 h2
    omega
  · have h := List.pairwise_mergeSort (le := fun x y : Int => decide (x ≤ y)) (fun a b c h1 h2 => by simp only [decide_eq_true_eq] at *; omega) (fun a b => by simp only [Bool.or_eq_true, decide_eq_true_eq]; omega) (pick (eTo zs 0) zs.length ++ pick (eTo zs 1) zs.length)
    exact h.imp fun h => by simpa using h

/-- a length, rounded to cells -/
def rnd (n : Int) : Int := (n + 4) / 8
theorem rnd_pos {n : Int} (_ : 0 ≤ n) : rnd n = (n + 4) / 8 := rfl
def drf (n : Int) : Int := n - 8 * rnd n

/-- the first number above a bound -/
def above (xs : List Int) (v : Int) : Nat → Option Int
  | 0 => none
  | k + 1 => match above xs v k with
    | some z => some z
    | none => if v < gi xs k then some (gi xs k) else none
theorem above_hit {xs : List Int} {v : Int} {k : Nat} (h : above xs v k = none) (hv : v < gi xs k) : ∀ n, k < n → above xs v n = some (gi xs k) := by
  intro n
  induction n with
  | zero => intro hn; omega
  | succ n ih =>
    intro hn
    unfold above
    by_cases hk : k = n
    · subst hk; rw [h]; dsimp only; rw [if_pos hv]
    · rw [ih (by omega)]
theorem above_miss {xs : List Int} {v : Int} {k : Nat} (h : above xs v k = none) (hv : ¬ v < gi xs k) : above xs v (k + 1) = none := by
  unfold above; rw [h]; dsimp only; rw [if_neg hv]
/-- what NextEdge answers: a number and a code -/
def nxE (zs : List Int) (v : Int) : Int × Int := if isBits zs then (if inR v 0 zs.length then (match above (chgL zs) v (chgL zs).length with | some z => (z, 0) | none => (0, 4)) else (0, 2)) else (0, 1)
/-- what EdgeDrift answers -/
def edD (zs : List Int) (a b : Int) : Int × Int := if isBits zs then (if a ∈ chgL zs ∧ b ∈ chgL zs ∧ a ≤ b then (drf (b - a), 0) else (0, 2)) else (0, 1)
/-- what RoundCells answers -/
def rdC (n : Int) : Int × Int := if inR n 0 8192 then (rnd n, 0) else (0, 2)
/-- what CellRuns answers -/
def crL (zs : List Int) : List Int := if isBits zs then (runsTo zs zs.length).map rnd else []
def crC (zs : List Int) : Int := if isBits zs then 0 else 1
end Go.Proofs.Ytjehkjdehkdjcaa

namespace Go.Proofs.Ytjehkjdehkdjcaa
open Go.RowKit

/-- the first k numbers turned by a function -/
def mapTo (f : Int → Int) (xs : List Int) (k : Nat) : List Int := (xs.take k).map f ++ xs.drop k
theorem mapTo_len (f : Int → Int) (xs : List Int) (k : Nat) : (mapTo f xs k).length = xs.length := by
  unfold mapTo; rw [List.length_append, List.length_map, List.length_take, List.length_drop]; omega
theorem mapTo_all (f : Int → Int) (xs : List Int) : mapTo f xs xs.length = xs.map f := by simp [mapTo]
theorem mapTo_gi {f : Int → Int} {xs : List Int} {k : Nat} (h : k < xs.length) : gi (mapTo f xs k) k = gi xs k := by
  unfold mapTo gi
  rw [List.getD_eq_getElem?_getD, List.getElem?_append_right (by simp; omega), List.getD_eq_getElem?_getD]
  simp [Nat.min_eq_left (Nat.le_of_lt h)]
theorem mapTo_step {f : Int → Int} {xs : List Int} {k : Nat} (h : k < xs.length) : (mapTo f xs k).set k (f (gi xs k)) = mapTo f xs (k + 1) := by
  unfold mapTo
  have hl : ((xs.take k).map f).length = k := by simp; omega
  rw [List.set_append_right _ _ (by rw [hl]; exact Nat.le_refl _), hl, Nat.sub_self, take_gi h, List.map_append, List.append_assoc]
  congr 1
  rw [List.drop_eq_getElem_cons h, List.set_cons_zero]
  simp [gi, h]

/-- the middles of the first k cells -/
def midTo (zs : List Int) (k : Nat) : List Int := (List.range k).map fun j => gi zs (4 + 8 * j)
theorem midTo_succ (zs : List Int) (k : Nat) : midTo zs (k + 1) = midTo zs k ++ [gi zs (4 + 8 * k)] := by simp [midTo, List.range_succ]
theorem mid_nom (cs : List Int) : midTo (nom cs) ((8 * cs.length + 3) / 8) = cs := by
  refine ext_gi (by simp [midTo]; omega) fun k hk => ?_
  have hk' : k < cs.length := by simp [midTo] at hk; omega
  have e : gi (midTo (nom cs) ((8 * cs.length + 3) / 8)) k = gi (nom cs) (4 + 8 * k) := by
    unfold midTo
    rw [show (gi (List.map (fun j => gi (nom cs) (4 + 8 * j)) (List.range ((8 * cs.length + 3) / 8))) k) = _ from gi_lt (by simp; omega)]
    simp
  rw [e, nom_gi (by omega)]
  congr 1
  omega

theorem nom_edge {cs : List Int} {i : Nat} (h0 : 0 < i) (hi : i < 8 * cs.length) (h : gi (nom cs) i ≠ gi (nom cs) (i - 1)) : i % 8 = 0 := by
  refine Decidable.byContradiction fun hm => h ?_
  rw [nom_gi hi, nom_gi (by omega)]
  congr 1
  omega
theorem inc_snoc (ys : List Int) (v : Int) : inc (ys ++ [v]) = ys ++ [v + 1] := by
  unfold inc
  have e : gi (ys ++ [v]) ((ys ++ [v]).length - 1) = v := by simp [gi]
  rw [e, List.length_append, List.length_singleton, Nat.add_sub_cancel, List.set_append_right _ _ (Nat.le_refl _), Nat.sub_self]
  rfl
theorem runs_nom (cs : List Int) : ∀ k, k < 8 * cs.length → ∃ ys v, runsTo (nom cs) (k + 1) = ys ++ [v] ∧ (∀ y ∈ ys, 8 ∣ y ∧ 0 ≤ y) ∧ 8 ∣ v - ((k + 1 : Nat) : Int) ∧ 0 ≤ v ∧ ys.sum + v = ((k + 1 : Nat) : Int) := by
  intro k
  induction k with
  | zero => intro _; exact ⟨[], 1, rfl, by simp, by simp, by omega, by simp⟩
  | succ k ih =>
    intro hk
    obtain ⟨ys, v, h1, h2, h3, h4, h5⟩ := ih (by omega)
    rcases bool_cases (brk (nom cs) (k + 1)) with hb | hb
    · have hne : gi (nom cs) (k + 1) ≠ gi (nom cs) (k + 1 - 1) := by simpa [brk] using hb
      have hm := nom_edge (by omega) hk hne
      refine ⟨ys ++ [v], 1, ?_, ?_, by omega, by omega, ?_⟩
      · show inc (if brk (nom cs) (k + 1) = true then _ else _) = _
        rw [if_pos hb, h1, inc_snoc]; rfl
      · intro y hy
        rcases List.mem_append.1 hy with hy | hy
        · exact h2 y hy
        · rw [List.mem_singleton] at hy; subst hy; exact ⟨by omega, h4⟩
      · rw [List.sum_append, List.sum_singleton]; omega
    · refine ⟨ys, v + 1, ?_, h2, by omega, by omega, by omega⟩
      show inc (if brk (nom cs) (k + 1) = true then _ else _) = _
      rw [if_neg (by rw [hb]; decide), h1, inc_snoc]
theorem rnd_sum : ∀ ys : List Int, (∀ y ∈ ys, 8 ∣ y ∧ 0 ≤ y) → 8 * (ys.map rnd).sum = ys.sum
  | [], _ => by simp
  | y :: ys, h => by
    have ih := rnd_sum ys fun z hz => h z (List.mem_cons_of_mem _ hz)
    obtain ⟨h1, h2⟩ := h y (List.mem_cons_self ..)
    rw [List.map_cons, List.sum_cons, List.sum_cons, rnd_pos h2]
    omega
theorem runs_law (cs : List Int) : ((runsTo (nom cs) (8 * cs.length)).map rnd).sum = (cs.length : Int) := by
  rcases Nat.eq_zero_or_pos cs.length with h0 | h0
  · rw [h0]; rfl
  · obtain ⟨ys, v, h1, h2, h3, h4, h5⟩ := runs_nom cs (8 * cs.length - 1) (by omega)
    rw [Nat.sub_add_cancel (by omega)] at h1 h3 h5
    have := rnd_sum (ys ++ [v]) (fun y hy => by
      rcases List.mem_append.1 hy with hy | hy
      · exact h2 y hy
      · rw [List.mem_singleton] at hy; subst hy; exact ⟨by omega, h4⟩)
    rw [List.sum_append, List.sum_singleton] at this
    rw [h1]
    omega
theorem drift_nom {cs : List Int} {k : Nat} (hk : k + 1 < (chgL (nom cs)).length) : drf (gi (chgL (nom cs)) (k + 1) - gi (chgL (nom cs)) k) = 0 := by
  have hs := chgL_step hk
  obtain ⟨i, e1, i1, i2, i3⟩ := chgL_gi (zs := nom cs) (k := k) (by omega)
  obtain ⟨j, e2, j1, j2, j3⟩ := chgL_gi (zs := nom cs) (k := k + 1) hk
  rw [nom_len] at i1 j1
  have m1 := nom_edge i2 i1 i3
  have m2 := nom_edge j2 j1 j3
  rw [e1, e2] at hs ⊢
  unfold drf
  rw [rnd_pos (by omega)]
  omega
end Go.Proofs.Ytjehkjdehkdjcaa

namespace Go.Proofs.Ytjehkjdehkdjcaa
open Go.RowKit

theorem eTo_one (zs : List Int) (v : Int) : pick (eTo zs v) 1 = [] := by simp [pick, eTo]
theorem eAny_one (zs : List Int) : pick (eAny zs) 1 = [] := by simp [pick, eAny]

set_option maxRecDepth 20000 in
set_option maxHeartbeats 2000000 in
theorem edgesTo_any (A : Option Addr) (n c : Nat) (v : Int) (zs : List Int) (w : World) (h : RI w w.heap.size A n zs) (hn : n ≤ 1099511627776) :
    Calls Try.prog 233 #[.slice A n c, .int .i64 v] w (RetS 2 w (pick (eTo zs v) zs.length)) := by
  have L := Lib.hid h.len
  go_enter Try.func233, Try.ntmps233
  go_wp2
  go_loopw [5, 6] (fun o i wr => ∃ (k m : Nat) (A' : Option Addr) (c' : Nat), 1 ≤ k ∧ (k ≤ n ∨ k = 1) ∧ m ≤ k ∧ i = .int .i64 k ∧ o = .slice A' m c' ∧ OwnI 2 wr w.heap.size A' m c' (pick (eTo zs v) k) ∧ Below w.heap.size w wr) (fun _ i _ => n - (intOf i).toNat)
  case atStart => exact ⟨1, 0, some ⟨w.heap.size, 0, none⟩, 0, Nat.le_refl _, .inr rfl, by omega, rfl, rfl, by rw [eTo_one]; exact OwnI.empty _ (Nat.le_refl _), (Below.refl _ _).alloc (Nat.le_refl _) _⟩
  case round =>
    obtain ⟨k, m, A', c', h1, hk, hmk, rfl, rfl, hown, hb⟩ := hrel
    by_cases hlt : k < n
    · obtain ⟨b, o, rfl, _, hc⟩ := (h.below hb (Nat.le_refl _)).get (by omega)
      have hcell := hc k hlt
      have hcellp := hc (k - 1) (by omega)
      clear hc
      have f0 : 0 < k := by omega
      have f1 : IntKind.i64.wrap ((k : Int) - 1) = ((k - 1 : Nat) : Int) := by rw [IntWalk.i64_in _ (by omega)]; omega
      have f4 : ((k - 1 : Nat) : Int) < (n : Int) := by omega
      have hE : eTo zs v k = ((gi zs (k - 1) != v) && (gi zs k == v)) := by simp [eTo, f0]
      obtain ⟨x, hx⟩ : ∃ x, gi zs (k - 1) = x := ⟨_, rfl⟩
      obtain ⟨y, hy⟩ : ∃ y, gi zs k = y := ⟨_, rfl⟩
      rw [hx] at hcellp hE
      rw [hy] at hcell hE
      clear hx hy
      rcases bool_cases (x != v) with e1 | e1
      · rcases bool_cases (y == v) with e2 | e2
        · rw [e1, e2] at hE
          have HE := Lib.hid (pick_yes (p := eTo zs v) (n := k) hE)
          clear hE
          go_wp2_with (at_builtin; refine wpl_appI _ _ Try.underlying24 infoInt rfl _ _ rfl w.heap.size _ m _ _ rfl hown (k : Int) rfl (by omega) hb.size ?_; intro A2 c2 w2 hown2 hB2 hg2)
          go_roundw
          case rel => exact ⟨k + 1, m + 1, A2, c2, by omega, by omega, by omega, by go_num, rfl, by rw [HE.out]; exact hown2, hb.trans (hB2 _ (Nat.le_refl _))⟩
          case measure => simp [intOf]; omega
        · rw [e1, e2] at hE
          have HE := Lib.hid (pick_no (p := eTo zs v) (n := k) hE)
          clear hE
          go_wp2
          go_roundw
          case rel => exact ⟨k + 1, m, A', c', by omega, by omega, by omega, by go_num, rfl, by rw [HE.out]; exact hown, hb⟩
          case measure => simp [intOf]; omega
      · rw [e1] at hE
        have HE := Lib.hid (pick_no (p := eTo zs v) (n := k) hE)
        clear hE
        go_wp2
        go_roundw
        case rel => exact ⟨k + 1, m, A', c', by omega, by omega, by omega, by go_num, rfl, by rw [HE.out]; exact hown, hb⟩
        case measure => simp [intOf]; omega
    · have hE : pick (eTo zs v) k = pick (eTo zs v) zs.length := by
        rcases hk with hk | hk
        · rw [show k = zs.length from by have := L.out; omega]
        · rw [hk, eTo_one]
          have := L.out
          rcases (show zs.length = 0 ∨ zs.length = 1 by omega) with e | e
          · rw [e]; rfl
          · rw [e, eTo_one]
      have HE := Lib.hid hE
      clear hE
      go_wp2
      go_ret
      exact ⟨A', m, c', rfl, by rw [← HE.out]; exact hown, hb⟩

set_option maxRecDepth 20000 in
set_option maxHeartbeats 2000000 in
theorem l22Edges_any (A : Option Addr) (n c : Nat) (zs : List Int) (w : World) (h : RI w w.heap.size A n zs) (hn : n ≤ 1099511627776) :
    Calls Try.prog 176 #[.slice A n c, .int .i64 (-1)] w (RetS 2 w (chgL zs)) := by
  have L := Lib.hid h.len
  go_enter Try.func176, Try.ntmps176
  go_wp2
  go_loopw [5, 6] (fun o i wr => ∃ (k m : Nat) (A' : Option Addr) (c' : Nat), 1 ≤ k ∧ (k ≤ n ∨ k = 1) ∧ m ≤ k ∧ i = .int .i64 k ∧ o = .slice A' m c' ∧ OwnI 2 wr w.heap.size A' m c' (pick (eAny zs) k) ∧ Below w.heap.size w wr) (fun _ i _ => n - (intOf i).toNat)
  case atStart => exact ⟨1, 0, some ⟨w.heap.size, 0, none⟩, 0, Nat.le_refl _, .inr rfl, by omega, rfl, rfl, by rw [eAny_one]; exact OwnI.empty _ (Nat.le_refl _), (Below.refl _ _).alloc (Nat.le_refl _) _⟩
  case round =>
    obtain ⟨k, m, A', c', h1, hk, hmk, rfl, rfl, hown, hb⟩ := hrel
    by_cases hlt : k < n
    · obtain ⟨b, o, rfl, _, hc⟩ := (h.below hb (Nat.le_refl _)).get (by omega)
      have hcell := hc k hlt
      have hcellp := hc (k - 1) (by omega)
      clear hc
      have f0 : 0 < k := by omega
      have f1 : IntKind.i64.wrap ((k : Int) - 1) = ((k - 1 : Nat) : Int) := by rw [IntWalk.i64_in _ (by omega)]; omega
      have f4 : ((k - 1 : Nat) : Int) < (n : Int) := by omega
      have hE : eAny zs k = (gi zs k != gi zs (k - 1)) := by simp [eAny, f0]
      obtain ⟨x, hx⟩ : ∃ x, gi zs (k - 1) = x := ⟨_, rfl⟩
      obtain ⟨y, hy⟩ : ∃ y, gi zs k = y := ⟨_, rfl⟩
      rw [hx] at hcellp hE
      rw [hy] at hcell hE
      clear hx hy
      rcases bool_cases (y != x) with e1 | e1
      · rw [e1] at hE
        have HE := Lib.hid (pick_yes (p := eAny zs) (n := k) hE)
        clear hE
        go_wp2_with fail
        go_region
        all_goals
          go_wp2_with (at_builtin; refine wpl_appI _ _ Try.underlying24 infoInt rfl _ _ rfl w.heap.size _ m _ _ rfl (OwnI.drew hown) (k : Int) rfl (by omega) hb.drew.size ?_; intro A2 c2 w2 hown2 hB2 hg2)
          go_roundw
          case rel => exact ⟨k + 1, m + 1, A2, c2, by omega, by omega, by omega, by go_num, rfl, by rw [HE.out]; exact hown2, hb.drew.trans (hB2 _ (Nat.le_refl _))⟩
          case measure => simp [intOf]; omega
      · rw [e1] at hE
        have HE := Lib.hid (pick_no (p := eAny zs) (n := k) hE)
        clear hE
        go_wp2_with fail
        go_region
        all_goals
          go_wp2
          go_roundw
          case rel => exact ⟨k + 1, m, A', c', by omega, by omega, by omega, by go_num, rfl, by rw [HE.out]; exact hown.drew, hb.drew⟩
          case measure => simp [intOf]; omega
    · have hE : pick (eAny zs) k = chgL zs := by
        unfold chgL
        rcases hk with hk | hk
        · rw [show k = zs.length from by have := L.out; omega]
        · rw [hk, eAny_one]
          have := L.out
          rcases (show zs.length = 0 ∨ zs.length = 1 by omega) with e | e
          · rw [e]; rfl
          · rw [e, eAny_one]
      have HE := Lib.hid hE
      clear hE
      go_wp2
      go_ret
      exact ⟨A', m, c', rfl, by rw [← HE.out]; exact hown, hb⟩
end Go.Proofs.Ytjehkjdehkdjcaa

namespace Go.Proofs.Ytjehkjdehkdjcaa
open Go.RowKit

theorem rndI_any (n : Int) (w : World) (h0 : 0 ≤ n) (h1 : n ≤ 1099511627776) : Calls Try.prog 173 #[.int .i64 n] w fun e w' => e = .returned (.int .i64 (rnd n)) ∧ w = w' := roundCells_any n w h0 h1
theorem rndS_any (n : Int) (w : World) (h0 : 0 ≤ n) (h1 : n ≤ 1099511627776) : Calls Try.prog 180 #[.int .i64 n] w fun e w' => e = .returned (.int .i64 (rnd n)) ∧ w = w' := l22Round_any n w h0 h1
theorem drift_any (n : Int) (w : World) (h0 : 0 ≤ n) (h1 : n ≤ 1099511627776) : Calls Try.prog 175 #[.int .i64 n] w fun e w' => e = .returned (.int .i64 (drf n)) ∧ w = w' := by
  obtain ⟨r, hr⟩ : ∃ r, rnd n = r := ⟨_, rfl⟩
  have hd : drf n = n - 8 * r := by rw [← hr]; rfl
  have hb : 0 ≤ r ∧ r ≤ n + 4 := by rw [← hr]; unfold rnd; omega
  have f1 : IntKind.i64.wrap (8 * r) = 8 * r := IntWalk.i64_in _ (by have := hr; unfold rnd at this; omega)
  have f2 : IntKind.i64.wrap (n - 8 * r) = n - 8 * r := IntWalk.i64_in _ (by have := hr; unfold rnd at this; omega)
  rw [hd]
  clear hd
  go_enter Try.func175, Try.ntmps175
  go_wp2_with (go_at_call 173; refine (rndI_any n _ h0 h1).mono ?_; rw [hr]; rintro e w' ⟨rfl, rfl⟩)
  go_ret
  exact ⟨rfl, rfl⟩
theorem l22Drift_any (n : Int) (w : World) (h0 : 0 ≤ n) (h1 : n ≤ 1099511627776) : Calls Try.prog 179 #[.int .i64 n] w fun e w' => e = .returned (.int .i64 (drf n)) ∧ w = w' := by
  obtain ⟨r, hr⟩ : ∃ r, rnd n = r := ⟨_, rfl⟩
  have hd : drf n = n - 8 * r := by rw [← hr]; rfl
  have hb : 0 ≤ r ∧ r ≤ n + 4 := by rw [← hr]; unfold rnd; omega
  have f1 : IntKind.i64.wrap (8 * r) = 8 * r := IntWalk.i64_in _ (by have := hr; unfold rnd at this; omega)
  have f2 : IntKind.i64.wrap (n - 8 * r) = n - 8 * r := IntWalk.i64_in _ (by have := hr; unfold rnd at this; omega)
  rw [hd]
  clear hd
  go_enter Try.func179, Try.ntmps179
  go_wp2_with (go_at_call 180; refine (rndS_any n _ h0 h1).mono ?_; rw [hr]; rintro e w' ⟨rfl, rfl⟩)
  go_ret
  exact ⟨rfl, rfl⟩

theorem iRoundCells_any (n : Int) (w : World) : Calls Try.prog 102 #[.int .i64 n] w fun e w' => e = .returned (.tuple #[.int .i64 (rdC n).1, .int .i64 (rdC n).2]) ∧ w = w' := by
  rcases bool_cases (inR n 0 8192) with h | h
  · have hb := inR_iff.1 h
    have E : rdC n = (rnd n, 0) := by unfold rdC; rw [if_pos h]
    rw [E]
    clear E
    go_enter Try.func102, Try.ntmps102
    go_wp2_with (first
      | (go_at_call 120; refine (within_any _ _ _ _).mono ?_; rw [h]; rintro e w' ⟨rfl, rfl⟩)
      | (go_at_call 173; refine (rndI_any n _ (by omega) (by omega)).mono ?_; rintro e w' ⟨rfl, rfl⟩))
    go_ret2
    exact ⟨rfl, rfl⟩
  · have E : rdC n = (0, 2) := by unfold rdC; rw [if_neg (by rw [h]; decide)]
    rw [E]
    clear E
    go_enter Try.func102, Try.ntmps102
    go_wp2_with (go_at_call 120; refine (within_any _ _ _ _).mono ?_; rw [h]; rintro e w' ⟨rfl, rfl⟩)
    go_ret2
    exact ⟨rfl, rfl⟩
theorem sRoundCells_any (n : Int) (w : World) : Calls Try.prog 103 #[.int .i64 n] w fun e w' => e = .returned (.tuple #[.int .i64 (rdC n).1, .int .i64 (rdC n).2]) ∧ w = w' := by
  rcases bool_cases (inR n 0 8192) with h | h
  · have hb := inR_iff.1 h
    have E : rdC n = (rnd n, 0) := by unfold rdC; rw [if_pos h]
    rw [E]
    clear E
    go_enter Try.func103, Try.ntmps103
    go_wp2_with (first
      | (go_at_call 116; refine (l01In_any _ _ _ _).mono ?_; rw [h]; rintro e w' ⟨rfl, rfl⟩)
      | (go_at_call 180; refine (rndS_any n _ (by omega) (by omega)).mono ?_; rintro e w' ⟨rfl, rfl⟩))
    go_ret2
    exact ⟨rfl, rfl⟩
  · have E : rdC n = (0, 2) := by unfold rdC; rw [if_neg (by rw [h]; decide)]
    rw [E]
    clear E
    go_enter Try.func103, Try.ntmps103
    go_wp2_with (go_at_call 116; refine (l01In_any _ _ _ _).mono ?_; rw [h]; rintro e w' ⟨rfl, rfl⟩)
    go_ret2
    exact ⟨rfl, rfl⟩

set_option maxHeartbeats 4000000 in
theorem l01Has_any (A : Option Addr) (n c : Nat) (zs : List Int) (v : Int) (w : World) (h : RI w w.heap.size A n zs) (hn : n ≤ 1099511627776) :
    Calls Try.prog 178 #[.slice A n c, .int .i64 v] w fun e w' => e = .returned (.bool (decide (v ∈ zs))) ∧ w = w' := by
  have L := Lib.hid h.len
  go_enter Try.func178, Try.ntmps178
  go_wp2
  go_loop [5] (fun i => ∃ k : Nat, k ≤ n ∧ i = .int .i64 k ∧ ∀ j, j < k → gi zs j ≠ v) (fun i => n - (intOf i).toNat)
  case atStart => exact ⟨0, Nat.zero_le _, rfl, fun j hj => absurd hj (by omega)⟩
  case round =>
    obtain ⟨k, hk, rfl, hno⟩ := hrel
    have HNO := Lib.hid hno
    clear hno
    by_cases hlt : k < n
    · obtain ⟨b, o, rfl, _, hc⟩ := h.get (by omega)
      have hcell := hc k hlt
      clear hc
      by_cases hv : gi zs k = v
      · have hm : v ∈ zs := by rw [← hv]; exact mem_gi (by rw [L.out]; exact hlt)
        have HM := Lib.hid hm
        have bv : (gi zs k == v) = true := by simp [hv]
        clear hv hm
        go_wp2
        go_ret
        exact ⟨ret_bool (by simp [HM.out]), rfl⟩
      · have HV := Lib.hid hv
        have bv : (gi zs k == v) = false := by simp [hv]
        clear hv
        go_wp2
        go_round
        case rel => exact ⟨k + 1, by omega, by go_num, fun j hj => by
          by_cases hjk : j = k
          · subst hjk; exact HV.out
          · exact HNO.out j (by omega)⟩
        case measure => simp [intOf]; omega
    · have hm : ¬ v ∈ zs := fun hm => by
        obtain ⟨j, hj, hjv⟩ := List.getElem_of_mem hm
        exact HNO.out j (by have := L.out; omega) (by rw [gi_lt hj, hjv])
      have HM := Lib.hid hm
      clear hm
      go_wp2
      go_ret
      exact ⟨ret_bool (by simp [HM.out]), rfl⟩

set_option maxHeartbeats 4000000 in
theorem indexI_any (A : Option Addr) (n c : Nat) (zs : List Int) (v : Int) (w : World) (h : RI w w.heap.size A n zs) (hn : n ≤ 1099511627776) :
    Calls Try.prog 235 #[.slice A n c, .int .i64 v] w fun e w' => (∃ z : Int, e = .returned (.int .i64 z) ∧ decide (0 ≤ z) = decide (v ∈ zs)) ∧ w = w' := by
  have L := Lib.hid h.len
  go_enter Try.func235, Try.ntmps235
  go_wp2
  go_loop [5, 8] (fun _ i => ∃ k : Nat, k ≤ n ∧ i = .int .i64 k ∧ ∀ j, j < k → gi zs j ≠ v) (fun _ i => n - (intOf i).toNat)
  case atStart => exact ⟨0, Nat.zero_le _, rfl, fun j hj => absurd hj (by omega)⟩
  case round =>
    obtain ⟨k, hk, rfl, hno⟩ := hrel
    have HNO := Lib.hid hno
    clear hno
    by_cases hlt : k < n
    · obtain ⟨b, o, rfl, _, hc⟩ := h.get (by omega)
      have hcell := hc k hlt
      clear hc
      by_cases hv : v = gi zs k
      · have hm : v ∈ zs := by rw [hv]; exact mem_gi (by rw [L.out]; exact hlt)
        have HM := Lib.hid hm
        have bv : (v == gi zs k) = true := by simp [hv]
        clear hv hm
        go_wp2
        go_ret
        exact ⟨⟨k, rfl, by simp [HM.out]⟩, rfl⟩
      · have HV := Lib.hid hv
        have bv : (v == gi zs k) = false := by simp [hv]
        clear hv
        go_wp2
        go_round
        case rel => exact ⟨k + 1, by omega, by go_num, fun j hj => by
          by_cases hjk : j = k
          · subst hjk; exact fun e => HV.out e.symm
          · exact HNO.out j (by omega)⟩
        case measure => simp [intOf]; omega
    · have hm : ¬ v ∈ zs := fun hm => by
        obtain ⟨j, hj, hjv⟩ := List.getElem_of_mem hm
        exact HNO.out j (by have := L.out; omega) (by rw [gi_lt hj, hjv])
      have HM := Lib.hid hm
      clear hm
      go_wp2
      go_ret
      exact ⟨⟨-1, rfl, by simp [HM.out]⟩, rfl⟩
theorem contI_any (A : Option Addr) (n c : Nat) (zs : List Int) (v : Int) (w : World) (h : RI w w.heap.size A n zs) (hn : n ≤ 1099511627776) :
    Calls Try.prog 177 #[.slice A n c, .int .i64 v] w fun e w' => e = .returned (.bool (decide (v ∈ zs))) ∧ w = w' := by
  go_enter Try.func177, Try.ntmps177
  go_wp2_with fail
  refine (indexI_any A n c zs v _ h hn).mono ?_
  rintro e w' ⟨⟨z, rfl, hz⟩, rfl⟩
  have HZ := Lib.hid hz
  clear hz
  go_wp2
  go_ret
  exact ⟨ret_bool HZ.out, rfl⟩
end Go.Proofs.Ytjehkjdehkdjcaa

namespace Go.Proofs.Ytjehkjdehkdjcaa
open Go.RowKit

set_option maxRecDepth 20000 in
set_option maxHeartbeats 4000000 in
theorem sNextEdge_any (A : Option Addr) (n c : Nat) (zs : List Int) (v : Int) (w : World) (h : RI w w.heap.size A n zs) (hn : n ≤ 1099511627776) :
    Calls Try.prog 106 #[.slice A n c, .int .i64 v] w (RetV w (.tuple #[.int .i64 (nxE zs v).1, .int .i64 (nxE zs v).2])) := by
  have L := Lib.hid h.len
  rcases bool_cases (isBits zs) with hz | hz
  case inr =>
    have E : nxE zs v = (0, 1) := by unfold nxE; rw [if_neg (by rw [hz]; decide)]
    rw [E]
    clear E
    go_enter Try.func106, Try.ntmps106
    go_wp2_with (go_at_call 130; refine (sIsBits_any _ _ _ _ _ h hn).mono ?_; rw [hz]; rintro e w' ⟨rfl, rfl⟩)
    go_ret2
    exact ⟨rfl, Below.refl _ _⟩
  rcases bool_cases (inR v 0 n) with hr | hr
  case inr =>
    have E : nxE zs v = (0, 2) := by unfold nxE; rw [if_pos hz, if_neg (by rw [L.out, hr]; decide)]
    rw [E]
    clear E
    go_enter Try.func106, Try.ntmps106
    go_wp2_with (first
      | (go_at_call 130; refine (sIsBits_any _ _ _ _ _ h hn).mono ?_; rw [hz]; rintro e w' ⟨rfl, rfl⟩)
      | (go_at_call 116; refine (l01In_any _ _ _ _).mono ?_; rw [hr]; rintro e w' ⟨rfl, rfl⟩))
    go_ret2
    exact ⟨rfl, Below.refl _ _⟩
  have hE : nxE zs v = match above (chgL zs) v (chgL zs).length with | some z => (z, 0) | none => (0, 4) := by unfold nxE; rw [if_pos hz, if_pos (by rw [L.out]; exact hr)] <;> rfl
  have hxl := chgL_len zs
  obtain ⟨xs, hxs⟩ : ∃ xs, chgL zs = xs := ⟨_, rfl⟩
  rw [hxs] at hE hxl
  have HE := Lib.hid hE
  clear hE
  go_enter Try.func106, Try.ntmps106
  go_wp2_with (first
    | (go_at_call 130; refine (sIsBits_any _ _ _ _ _ h hn).mono ?_; rw [hz]; rintro e w' ⟨rfl, rfl⟩)
    | (go_at_call 116; refine (l01In_any _ _ _ _).mono ?_; rw [hr]; rintro e w' ⟨rfl, rfl⟩)
    | (go_at_call 176; refine (l22Edges_any A n c zs _ h hn).mono ?_; rw [hxs]; rintro e w1 ⟨B, m, d, rfl, hown, hb⟩))
  have M := Lib.hid hown.len
  have hm : m ≤ n := by have := M.out; have := L.out; omega
  have hrd := hown.reads
  clear hxl hown
  go_loop [7] (fun i => ∃ k : Nat, k ≤ m ∧ i = .int .i64 k ∧ above xs v k = none) (fun i => m - (intOf i).toNat)
  case atStart => exact ⟨0, Nat.zero_le _, rfl, rfl⟩
  case round =>
    obtain ⟨k, hk, rfl, hno⟩ := hrel
    have HNO := Lib.hid hno
    clear hno
    by_cases hlt : k < m
    · obtain ⟨b, o, rfl, _, hc⟩ := hrd.get (by omega)
      have hcell := hc k hlt
      clear hc
      by_cases hv : v < gi xs k
      · have EE := Lib.hid (show nxE zs v = (gi xs k, 0) by rw [HE.out, above_hit HNO.out hv _ (by rw [M.out]; exact hlt)])
        obtain ⟨x, hx⟩ : ∃ x, gi xs k = x := ⟨_, rfl⟩
        rw [hx] at hcell hv EE
        clear hx
        go_wp2
        go_ret2
        exact ⟨by rw [EE.out]; rfl, hb⟩
      · have EE := Lib.hid (above_miss HNO.out hv)
        obtain ⟨x, hx⟩ : ∃ x, gi xs k = x := ⟨_, rfl⟩
        rw [hx] at hcell hv
        clear hx
        go_wp2
        go_round
        case rel => exact ⟨k + 1, by omega, by go_num, EE.out⟩
        case measure => simp [intOf]; omega
    · have hkm : k = m := by omega
      have EE := Lib.hid (show nxE zs v = (0, 4) by rw [HE.out, M.out, ← hkm, HNO.out])
      clear hkm
      go_wp2
      go_ret2
      exact ⟨by rw [EE.out]; rfl, hb⟩

theorem edL_bd {zs : List Int} {a : Int} {n : Nat} (h : a ∈ chgL zs) (hl : zs.length = n) : 0 ≤ a ∧ a < (n : Int) := by
  obtain ⟨i, rfl, h1, _⟩ := chgL_mem.1 h
  omega

set_option maxRecDepth 20000 in
set_option maxHeartbeats 4000000 in
theorem sEdgeDrift_any (A : Option Addr) (n c : Nat) (zs : List Int) (a b : Int) (w : World) (h : RI w w.heap.size A n zs) (hn : n ≤ 1099511627776) :
    Calls Try.prog 100 #[.slice A n c, .int .i64 a, .int .i64 b] w (RetV w (.tuple #[.int .i64 (edD zs a b).1, .int .i64 (edD zs a b).2])) := by
  have L := Lib.hid h.len
  rcases bool_cases (isBits zs) with hz | hz
  case inr =>
    have E : edD zs a b = (0, 1) := by unfold edD; rw [if_neg (by rw [hz]; decide)]
    rw [E]
    clear E
    go_enter Try.func100, Try.ntmps100
    go_wp2_with (go_at_call 130; refine (sIsBits_any _ _ _ _ _ h hn).mono ?_; rw [hz]; rintro e w' ⟨rfl, rfl⟩)
    go_ret2
    exact ⟨rfl, Below.refl _ _⟩
  have hE : edD zs a b = if a ∈ chgL zs ∧ b ∈ chgL zs ∧ a ≤ b then (drf (b - a), 0) else (0, 2) := by unfold edD; rw [if_pos hz]
  have hxl := chgL_len zs
  have ha1 : a ∈ chgL zs → 0 ≤ a ∧ a < (n : Int) := fun h => edL_bd h L.out
  have hb1 : b ∈ chgL zs → 0 ≤ b ∧ b < (n : Int) := fun h => edL_bd h L.out
  obtain ⟨xs, hxs⟩ : ∃ xs, chgL zs = xs := ⟨_, rfl⟩
  rw [hxs] at hE hxl ha1 hb1
  have HE := Lib.hid hE
  have HA := Lib.hid ha1
  have HB := Lib.hid hb1
  clear hE ha1 hb1
  go_enter Try.func100, Try.ntmps100
  go_wp2_with (first
    | (go_at_call 130; refine (sIsBits_any _ _ _ _ _ h hn).mono ?_; rw [hz]; rintro e w' ⟨rfl, rfl⟩)
    | (go_at_call 176; refine (l22Edges_any A n c zs _ h hn).mono ?_; rw [hxs]; rintro e w1 ⟨B, m, d, rfl, hown, hb⟩))
  have M := Lib.hid hown.len
  have hm : m ≤ n := by have := M.out; have := L.out; omega
  have RD := Lib.hid hown.reads
  clear hxl hown
  by_cases ga : a ∈ xs
  case neg =>
    have EE := Lib.hid (show edD zs a b = (0, 2) by rw [HE.out, if_neg (fun h => ga h.1)])
    have ga := decide_eq_false ga
    go_wp2_with (go_at_call 178; refine (l01Has_any B m d xs a _ RD.out (by omega)).mono ?_; rw [ga]; rintro e w' ⟨rfl, rfl⟩)
    go_ret2
    exact ⟨by rw [EE.out]; rfl, hb⟩
  by_cases gb : b ∈ xs
  case neg =>
    have EE := Lib.hid (show edD zs a b = (0, 2) by rw [HE.out, if_neg (fun h => gb h.2.1)])
    have ga := decide_eq_true ga
    have gb := decide_eq_false gb
    go_wp2_with (go_at_call 178; refine (l01Has_any B m d xs _ _ RD.out (by omega)).mono ?_; (first | rw [ga] | rw [gb]); rintro e w' ⟨rfl, rfl⟩)
    go_ret2
    exact ⟨by rw [EE.out]; rfl, hb⟩
  by_cases gc : b < a
  case pos =>
    have EE := Lib.hid (show edD zs a b = (0, 2) by rw [HE.out, if_neg (fun h => by omega)])
    have ga := decide_eq_true ga
    have gb := decide_eq_true gb
    go_wp2_with (go_at_call 178; refine (l01Has_any B m d xs _ _ RD.out (by omega)).mono ?_; (first | rw [ga] | rw [gb]); rintro e w' ⟨rfl, rfl⟩)
    go_ret2
    exact ⟨by rw [EE.out]; rfl, hb⟩
  have ba := HA.out ga
  have bb := HB.out gb
  have EE := Lib.hid (show edD zs a b = (drf (b - a), 0) by rw [HE.out, if_pos ⟨ga, gb, by omega⟩])
  have ga := decide_eq_true ga
  have gb := decide_eq_true gb
  have f1 : IntKind.i64.wrap (b - a) = b - a := IntWalk.i64_in _ (by omega)
  go_wp2_with (first
    | (go_at_call 178; refine (l01Has_any B m d xs _ _ RD.out (by omega)).mono ?_; (first | rw [ga] | rw [gb]); rintro e w' ⟨rfl, rfl⟩)
    | (go_at_call 179; refine (l22Drift_any (b - a) _ (by omega) (by omega)).mono ?_; rintro e w' ⟨rfl, rfl⟩))
  go_ret2
  exact ⟨by rw [EE.out]; rfl, hb⟩

set_option maxRecDepth 20000 in
set_option maxHeartbeats 4000000 in
theorem l20Runs_any (A : Option Addr) (n c : Nat) (zs : List Int) (w : World) (h : RI w w.heap.size A n zs) (hn : n ≤ 8192) :
    Calls Try.prog 181 #[.slice A n c] w fun e w' => ∃ B d, e = .returned (.slice B (runsTo zs n).length d) ∧ OwnI 2 w' w.heap.size B (runsTo zs n).length d (runsTo zs n) ∧ Below w.heap.size w w' := by
  have hown0 := OwnI.empty (T := 2) w (base := w.heap.size) (Nat.le_refl _)
  have hb0 := (Below.refl w.heap.size w).alloc (Nat.le_refl _) (o := .cells #[] 2)
  go_enter Try.func181, Try.ntmps181
  go_wp2
  go_loopw [3, 4] (fun o i wr => ∃ (k : Nat) (B : Option Addr) (d : Nat), k ≤ n ∧ o = .slice B (runsTo zs k).length d ∧ i = .int .i64 k ∧ OwnI 2 wr w.heap.size B (runsTo zs k).length d (runsTo zs k) ∧ Below w.heap.size w wr) (fun _ i _ => n - (intOf i).toNat)
  case atStart => exact ⟨0, _, _, by omega, rfl, rfl, hown0, hb0⟩
  case round =>
    obtain ⟨k, B, d, hk, rfl, rfl, hown, hb⟩ := hrel
    by_cases hlt : k < n
    · obtain ⟨b, o, rfl, _, hc⟩ := (h.below hb (Nat.le_refl _)).get (by omega)
      have hcell := hc k hlt
      have hcellp := hc (k - 1) (by omega)
      clear hc
      have hln := runsTo_len zs k
      have hbd := runsTo_bd zs k
      obtain ⟨xs, hxs⟩ : ∃ xs, runsTo zs k = xs := ⟨_, rfl⟩
      obtain ⟨M, hM⟩ : ∃ M, xs.length = M := ⟨_, rfl⟩
      rcases bool_cases (brk zs k) with hd | hd
      · have hr : runsTo zs (k + 1) = xs ++ [1] := by rw [← hxs]; show inc (if brk zs k = true then _ else _) = _; rw [if_pos hd, inc_snoc]; rfl
        have HR := Lib.hid hr
        have HRL := Lib.hid (show (runsTo zs (k + 1)).length = M + 1 by rw [hr, List.length_append, hM]; rfl)
        rw [hxs] at hown hln ⊢
        rw [hM] at hown hln ⊢
        have hM8 : M ≤ 8192 := by omega
        by_cases hk0 : k = 0
        · subst hk0
          rw [Nat.add_zero] at hcell
          clear hcellp hr hd hbd
          go_wp2_with fail
          go_region
          all_goals
            go_wp2_with (at_builtin; refine wpl_appI _ _ Try.underlying24 infoInt rfl _ _ rfl w.heap.size _ M _ _ rfl (OwnI.drew hown) 1 rfl (by omega) hb.drew.size ?_; intro A4 c4 w4 hown4 hB4 hg4)
            go_roundw
            case rel => exact ⟨1, _, c4, by omega, by rw [HRL.out], by go_num, by rw [HRL.out, HR.out]; exact hown4, hb.drew.trans (hB4 _ (Nat.le_refl _))⟩
            case measure => simp [intOf]; omega
        · have hne : (gi zs k == gi zs (k - 1)) = false := by
            have : (gi zs k != gi zs (k - 1)) = true := by simpa [brk, hk0] using hd
            simpa using this
          have f0 : 0 < k := by omega
          have f9 : (0 : Int) < (k : Int) := by omega
          have f1 : IntKind.i64.wrap ((k : Int) - 1) = ((k - 1 : Nat) : Int) := by rw [IntWalk.i64_in _ (by omega)]; omega
          have f4 : ((k - 1 : Nat) : Int) < (n : Int) := by omega
          clear hr hd hbd
          go_wp2_with fail
          go_region
          all_goals
            go_wp2_with (at_builtin; refine wpl_appI _ _ Try.underlying24 infoInt rfl _ _ rfl w.heap.size _ M _ _ rfl (OwnI.drew hown) 1 rfl (by omega) hb.drew.size ?_; intro A4 c4 w4 hown4 hB4 hg4)
            go_roundw
            case rel => exact ⟨k + 1, _, c4, by omega, by rw [HRL.out], by go_num, by rw [HRL.out, HR.out]; exact hown4, hb.drew.trans (hB4 _ (Nat.le_refl _))⟩
            case measure => simp [intOf]; omega
      · have hk0 : k ≠ 0 := by intro e; subst e; cases hd
        have f0 : 0 < k := by omega
        have f9 : (0 : Int) < (k : Int) := by omega
        have hne : (gi zs k == gi zs (k - 1)) = true := by
          have : (gi zs k != gi zs (k - 1)) = false := by simpa [brk, hk0] using hd
          simpa using this
        have hr : runsTo zs (k + 1) = inc xs := by rw [← hxs]; show inc (if brk zs k = true then _ else _) = _; rw [if_neg (by rw [hd]; decide)]
        have HRL := Lib.hid (show (runsTo zs (k + 1)).length = M by rw [hr, inc_len, hM])
        rw [hxs] at hown hln hbd ⊢
        rw [hM] at hown hln hbd ⊢
        have hM0 : 0 < M := hln.2 f0
        have hM8 : M ≤ 8192 := by omega
        have g1 : IntKind.i64.wrap ((M : Int) - 1) = ((M - 1 : Nat) : Int) := by rw [IntWalk.i64_in _ (by omega)]; omega
        have g2 : ((M - 1 : Nat) : Int) < (M : Int) := by omega
        obtain ⟨g, rfl, hgb, _⟩ := hown.form hM0
        have hold := hown.cell (j := M - 1) (by omega)
        have hfr := hown.frozen (M - 1)
        have hv := hbd (M - 1) (by omega)
        obtain ⟨v, hvv⟩ : ∃ v, gi xs (M - 1) = v := ⟨_, rfl⟩
        have hr2 : inc xs = xs.set (M - 1) (v + 1) := by unfold inc; rw [hM, hvv]
        have HR := Lib.hid (hr.trans hr2)
        rw [hvv] at hold hv
        obtain ⟨hv1, hv2⟩ := hv
        have f1 : IntKind.i64.wrap ((k : Int) - 1) = ((k - 1 : Nat) : Int) := by rw [IntWalk.i64_in _ (by omega)]; omega
        have f4 : ((k - 1 : Nat) : Int) < (n : Int) := by omega
        have f5 : IntKind.i64.wrap (v + 1) = v + 1 := IntWalk.i64_in _ (by omega)
        have HOWN := Lib.hid (OwnI.drew hown)
        clear hr hr2 hd hbd hvv hown
        go_wp2_with fail
        go_region
        all_goals
          go_wp2
          go_roundw
          case rel =>
            have st := HOWN.out.stored (M - 1) (v + 1)
            exact ⟨k + 1, _, d, by omega, by rw [HRL.out], by go_num, by rw [HRL.out, HR.out]; exact st.1, hb.drew.grown st.2 hb.drew.size (fun g' e => (own_row HOWN.out g' e).1)⟩
          case measure => simp [intOf]; omega
    · have hkn : k = n := by omega
      subst hkn
      go_wp2
      go_ret
      exact ⟨B, d, rfl, hown, hb⟩

set_option maxRecDepth 20000 in
set_option maxHeartbeats 4000000 in
theorem sCellRuns_any (A : Option Addr) (n c : Nat) (zs : List Int) (w : World) (h : RI w w.heap.size A n zs) (hn : n ≤ 1099511627776) :
    Calls Try.prog 108 #[.slice A n c] w (RetIC 2 w (crL zs) (crC zs)) := by
  have L := Lib.hid h.len
  rcases bool_cases (isBits zs) with hz | hz
  case inr =>
    have E1 : crL zs = [] := by unfold crL; rw [if_neg (by rw [hz]; decide)]
    have E2 : crC zs = 1 := by unfold crC; rw [if_neg (by rw [hz]; decide)]
    rw [E1, E2]
    clear E1 E2
    go_enter Try.func108, Try.ntmps108
    go_wp2_with (go_at_call 130; refine (sIsBits_any _ _ _ _ _ h hn).mono ?_; rw [hz]; rintro e w' ⟨rfl, rfl⟩)
    go_ret2
    exact ⟨none, 0, 0, rfl, OwnI.nil _ _ _, Below.refl _ _⟩
  have hn8 : n ≤ 8192 := by have := isBits_len hz; have := L.out; omega
  have E1 : crL zs = (runsTo zs n).map rnd := by unfold crL; rw [if_pos hz, L.out]
  have E2 : crC zs = 0 := by unfold crC; rw [if_pos hz]
  have hln := runsTo_len zs n
  have hbd := runsTo_bd zs n
  have hrun := fun w1 (h1 : RI w1 w1.heap.size A n zs) => l20Runs_any A n c zs w1 h1 hn8
  obtain ⟨xs, hxs⟩ : ∃ xs, runsTo zs n = xs := ⟨_, rfl⟩
  rw [hxs] at E1 hln hbd hrun
  rw [E1, E2]
  obtain ⟨M, hM⟩ : ∃ M, xs.length = M := ⟨_, rfl⟩
  rw [hM] at hln hbd hrun
  have HBD := Lib.hid hbd
  have HM := Lib.hid hM
  clear E1 E2 hbd hM hxs
  go_enter Try.func108, Try.ntmps108
  go_wp2_with (first
    | (go_at_call 130; refine (sIsBits_any _ _ _ _ _ h hn).mono ?_; rw [hz]; rintro e w' ⟨rfl, rfl⟩)
    | (go_at_call 181; refine (hrun _ h).mono ?_; rintro e w1 ⟨B, d, rfl, hown, hb⟩))
  clear hrun
  have hM8 : M ≤ 8192 := by omega
  go_loopw [5] (fun i wr => ∃ k : Nat, k ≤ M ∧ i = .int .i64 k ∧ OwnI 2 wr w.heap.size B M d (mapTo rnd xs k) ∧ Below w.heap.size w wr) (fun i _ => M - (intOf i).toNat)
  case atStart => exact ⟨0, Nat.zero_le _, rfl, by simpa [mapTo] using hown, hb⟩
  case round =>
    obtain ⟨k, hk, rfl, hw, hbw⟩ := hrel
    by_cases hlt : k < M
    · obtain ⟨g, rfl, hgb, _⟩ := hw.form (by omega)
      have hold := hw.cell (j := k) hlt
      rw [mapTo_gi (by rw [HM.out]; exact hlt)] at hold
      have hfr := hw.frozen k
      have hv := HBD.out k hlt
      have ST := Lib.hid (mapTo_step (f := rnd) (xs := xs) (k := k) (by rw [HM.out]; exact hlt))
      obtain ⟨x, hx⟩ : ∃ x, gi xs k = x := ⟨_, rfl⟩
      rw [hx] at hold hv ST
      clear hx
      go_wp2_with (go_at_call 180; refine (rndS_any x _ (by omega) (by omega)).mono ?_; rintro e w' ⟨rfl, rfl⟩)
      go_roundw
      case rel =>
        have st := hw.stored k (rnd x)
        rw [ST.out] at st
        exact ⟨k + 1, by omega, by go_num, st.1, hbw.grown st.2 hbw.size (fun g' e => (own_row hw g' e).1)⟩
      case measure => simp [intOf]; omega
    · have hkm : k = xs.length := by have := HM.out; omega
      have EE := Lib.hid (show mapTo rnd xs k = xs.map rnd by rw [hkm, mapTo_all])
      clear hkm
      go_wp2
      go_ret2
      exact ⟨B, M, d, rfl, by rw [← EE.out]; exact hw, hbw⟩
end Go.Proofs.Ytjehkjdehkdjcaa
