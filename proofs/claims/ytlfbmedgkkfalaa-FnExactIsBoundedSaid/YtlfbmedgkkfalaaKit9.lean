/- Own rows of numbers, laid open: their block's cells; cut, spliced. Conditions: none. -/
import Derived.Test.YtlfbmedgkkfalaaKit7
import Derived.Laws.CopyOwn
import Derived.Deep.RegionLaw
namespace Go.Proofs.Ytlfbmedgkkfalaa
open Go.RowKit

def ci (zs : List Int) : List Value := zs.map (Value.int .i64)
theorem ci_len (zs : List Int) : (ci zs).length = zs.length := by simp [ci]
theorem ci_one (zs : List Int) : ∀ u ∈ ci zs, u.oneCell' = true := by
  intro u hu
  obtain ⟨z, _, rfl⟩ := List.mem_map.1 hu
  rfl
theorem ci_get {zs : List Int} {j : Nat} {u : Value} (h : (ci zs)[j]? = some u) : j < zs.length ∧ u = .int .i64 (gi zs j) := by
  unfold ci at h
  rw [List.getElem?_map] at h
  rcases Nat.lt_or_ge j zs.length with hj | hj
  · rw [gi_some hj] at h
    exact ⟨hj, (Option.some.inj h).symm⟩
  · rw [List.getElem?_eq_none hj] at h; cases h
theorem ci_app (xs ys : List Int) : ci (xs ++ ys) = ci xs ++ ci ys := by simp [ci]
theorem ci_take (xs : List Int) (k : Nat) : ci (xs.take k) = (ci xs).take k := by simp [ci, List.map_take]
theorem ci_drop (xs : List Int) (k : Nat) : ci (xs.drop k) = (ci xs).drop k := by simp [ci, List.map_drop]

section
variable {T : TypeId} {w w' : World} {base n c g : Nat} {zs : List Int}
theorem OwnI.open (h : OwnI T w base (some ⟨g, 0, none⟩) n c zs) :
    ∃ cur : List Value, w.heap[g]? = some (.cells cur.toArray T (0, 0)) ∧ base ≤ g ∧ n ≤ c ∧ c ≤ maxLen ∧ cur.length = c ∧ cur.take n = ci zs := by
  rcases h.2 with ⟨h1, h2⟩ | ⟨g', cap, cur, hv, hb, hh, hn, hm, hs, ht⟩
  · injection h1 with h1; cases h1
  · injection hv with h1 _ h3
    injection h1 with h1
    injection h1 with h1
    subst h1; subst h3
    exact ⟨cur.toList, by simpa using hh, hb, hn, hm, by simpa using hs, by unfold ci; simpa using ht⟩
theorem OwnI.shut {cur : List Value} (hh : w.heap[g]? = some (.cells cur.toArray T (0, 0))) (hb : base ≤ g) (hn : n ≤ c) (hm : c ≤ maxLen) (hl : cur.length = c) (ht : cur.take n = ci zs) :
    OwnI T w base (some ⟨g, 0, none⟩) n c zs := by
  have hz : zs.length = n := by
    have := congrArg List.length ht
    rw [ci_len, List.length_take] at this
    omega
  exact ⟨by simpa using hz, .inr ⟨g, c, cur.toArray, rfl, hb, hh, hn, hm, by simpa using hl, by unfold ci at ht; simpa using ht⟩⟩
theorem OwnI.cut {A : Option Addr} (h : OwnI T w base A n c zs) {k : Nat} (hk : k ≤ n) : OwnI T w base A k c (zs.take k) := by
  rcases h.2 with ⟨h1, h2⟩ | ⟨g', cap, cur, hv, hb, hh, hn, hm, hs, ht⟩
  · obtain rfl : k = 0 := by omega
    injection h1 with h1 h3 h4
    subst h1; subst h4
    rw [List.take_zero]
    exact OwnI.nil T w base
  · injection hv with h1 h2 h3
    subst h1; subst h3
    have hz := h.len
    refine ⟨by rw [List.length_map, List.length_take]; omega, .inr ⟨g', c, cur, rfl, hb, hh, by omega, hm, hs, ?_⟩⟩
    rw [Nat.mul_one] at ht ⊢
    rw [List.map_take, ← ht, List.take_take, Nat.min_eq_left hk]
theorem cells_of_row {cur : List Value} {t : TypeId} {j : Nat} {u : Value} (hh : w.heap[g]? = some (.cells cur.toArray t (0, 0))) (h : cur[j]? = some u) : w.cell? ⟨g, j, none⟩ = some u := by
  unfold World.cell?
  rw [hh]
  simpa using h
theorem grown_setRow (w : World) (g : Nat) (cs : Array Value) : w.grownBy (w.setRow g cs) (some g) :=
  ⟨rfl, rfl, rfl, by simp [World.setRow], fun k _ hk => setRow_other w g k cs (fun e => hk (by rw [e]))⟩
end

theorem splice_take {L Z : List Value} {k : Nat} (h : k ≤ L.length) : (splice L k Z).take k = L.take k := by
  unfold splice
  rw [List.take_append_of_le_length (by rw [List.length_take]; omega), List.take_take, Nat.min_self]
theorem grown_drew {w w' : World} {row : Option Nat} (h : w.drew.grownBy w' row) : w.grownBy w' row := ⟨h.os, h.tape, h.output, h.size, h.block⟩
theorem grown_drewN {w w' : World} {row : Option Nat} {k : Nat} (h : (w.drewN k).grownBy w' row) : w.grownBy w' row := ⟨h.os, h.tape, h.output, h.size, h.block⟩
/-- what a row holds behind an insertion in place -/
theorem splice_ins {cur X1 X2 : List Value} {i m n : Nat} (h1 : X1.length = m) (h2 : X2.length = n - i) (hi : i ≤ n) (hc : n + m ≤ cur.length) :
    (splice (splice cur (i + m) X2) i X1).take (n + m) = cur.take i ++ X1 ++ X2 := by
  have e1 : (splice cur (i + m) X2) = cur.take (i + m) ++ X2 ++ cur.drop (n + m) := by
    unfold splice
    rw [h2, show i + m + (n - i) = n + m from by omega, List.append_assoc]
  have e2 : (splice cur (i + m) X2).take i = cur.take i := by
    rw [e1, List.append_assoc, List.take_append_of_le_length (by rw [List.length_take]; omega), List.take_take, Nat.min_eq_left (by omega)]
  have e3 : (splice cur (i + m) X2).drop (i + m) = X2 ++ cur.drop (n + m) := by
    rw [e1, List.append_assoc]
    have : (cur.take (i + m)).length = i + m := by rw [List.length_take]; omega
    rw [List.drop_append_of_le_length (by omega), List.drop_of_length_le (by omega), List.nil_append]
  show (List.take i (splice cur (i + m) X2) ++ (X1 ++ List.drop (i + X1.length) (splice cur (i + m) X2))).take (n + m) = _
  rw [e2, h1, e3, ← List.append_assoc, ← List.append_assoc]
  have : (cur.take i ++ X1 ++ X2).length = n + m := by
    rw [List.length_append, List.length_append, List.length_take, h1, h2]; omega
  rw [List.take_append_of_le_length (by omega), List.take_of_length_le (by omega)]
/-- what a new row holds behind two copies -/
theorem splice_two {cur X1 X2 : List Value} {i m n : Nat} (h1 : X1.length = m) (h2 : X2.length = n - i) (hi : i ≤ n) (hc : n + m ≤ cur.length) :
    (splice (splice cur i X1) (i + m) X2).take (n + m) = cur.take i ++ X1 ++ X2 := by
  have e1 : (splice cur i X1).take (i + m) = cur.take i ++ X1 := by
    unfold splice
    rw [← List.append_assoc]
    have : (cur.take i ++ X1).length = i + m := by rw [List.length_append, List.length_take, h1]; omega
    rw [List.take_append_of_le_length (by omega), List.take_of_length_le (by omega)]
  show (List.take (i + m) (splice cur i X1) ++ (X2 ++ List.drop (i + m + X2.length) (splice cur i X1))).take (n + m) = _
  rw [e1, ← List.append_assoc]
  have : (cur.take i ++ X1 ++ X2).length = n + m := by
    rw [List.length_append, List.length_append, List.length_take, h1, h2]; omega
  rw [List.take_append_of_le_length (by omega), List.take_of_length_le (by omega)]
theorem splice_cut {cur X : List Value} {i n j : Nat} (h : X.length = n - j) (hj : j ≤ n) (hi : i ≤ j) (hc : n ≤ cur.length) :
    (splice cur i X).take (n - (j - i)) = cur.take i ++ X := by
  unfold splice
  rw [← List.append_assoc]
  have : (cur.take i ++ X).length = n - (j - i) := by rw [List.length_append, List.length_take, h]; omega
  rw [List.take_append_of_le_length (by omega), List.take_of_length_le (by omega)]
end Go.Proofs.Ytlfbmedgkkfalaa
