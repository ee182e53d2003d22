/- Slices whose elements take several cells (structs): how one reads ('RE'), how one that the call has made is owned ('OwnE'). Conditions: none. -/
import Derived.Test.YtlfbmedgkkfalaaKit
namespace Go.Proofs.Ytlfbmedgkkfalaa
open Go.RowKit

section
variable {α : Type} [Inhabited α]
/-- the i-th element -/
def ge (xs : List α) (i : Nat) : α := xs.getD i default
theorem ge_lt {xs : List α} {i : Nat} (h : i < xs.length) : ge xs i = xs[i] := by simp [ge, h]
theorem ge_some {xs : List α} {i : Nat} (h : i < xs.length) : xs[i]? = some (ge xs i) := by simp [ge, h]
theorem ge_app_lt {xs ys : List α} {i : Nat} (h : i < xs.length) : ge (xs ++ ys) i = ge xs i := by simp [ge, List.getElem?_append_left h]
theorem ge_cons_zero (x : α) (xs : List α) : ge (x :: xs) 0 = x := rfl
theorem ge_cons_succ (x : α) (xs : List α) (i : Nat) : ge (x :: xs) (i + 1) = ge xs i := by simp [ge]
theorem take_ge {xs : List α} {k : Nat} (h : k < xs.length) : xs.take (k + 1) = xs.take k ++ [ge xs k] := by
  rw [List.take_add_one, ge_some h]; rfl
theorem drop_ge {xs : List α} {k : Nat} (h : k < xs.length) : xs.drop k = ge xs k :: xs.drop (k + 1) := by
  rw [List.drop_eq_getElem_cons h, ge_lt h]
theorem ext_ge {xs ys : List α} (hl : xs.length = ys.length) (h : ∀ i, i < xs.length → ge xs i = ge ys i) : xs = ys := by
  apply List.ext_getElem hl
  intro i h1 h2
  have := h i h1
  rwa [ge_lt h1, ge_lt h2] at this
theorem mem_ge {xs : List α} {i : Nat} (h : i < xs.length) : ge xs i ∈ xs := by rw [ge_lt h]; exact List.getElem_mem h
end

theorem flat_len {α : Type} {enc : α → List Value} {sz : Nat} (hk : ∀ x, (enc x).length = sz) (xs : List α) : (xs.flatMap enc).length = xs.length * sz := by
  induction xs with
  | nil => simp
  | cons x xs ih => rw [List.flatMap_cons, List.length_append, ih, hk, List.length_cons, Nat.add_mul]; omega

theorem flat_get {α : Type} [Inhabited α] {enc : α → List Value} {sz : Nat} (hk : ∀ x, (enc x).length = sz) :
    ∀ (xs : List α) (i j : Nat), i < xs.length → j < sz → (xs.flatMap enc)[i * sz + j]? = (enc (ge xs i))[j]? := by
  intro xs
  induction xs with
  | nil => intro i j h; simp at h
  | cons x xs ih =>
    intro i j h hj
    rw [List.flatMap_cons]
    cases i with
    | zero => rw [Nat.zero_mul, Nat.zero_add, List.getElem?_append_left (by rw [hk]; exact hj)]; rfl
    | succ i =>
      rw [List.getElem?_append_right (by rw [hk, Nat.add_mul]; omega), hk, show (i + 1) * sz + j - sz = i * sz + j from by rw [Nat.add_mul]; omega, ih i j (by simpa using h) hj, ge_cons_succ]

theorem flat_set {α : Type} [Inhabited α] {enc : α → List Value} {sz : Nat} (hk : ∀ x, (enc x).length = sz) :
    ∀ (xs : List α) (i j : Nat) (u : Value) (x' : α), i < xs.length → j < sz → enc x' = (enc (ge xs i)).set j u → (xs.flatMap enc).set (i * sz + j) u = (xs.set i x').flatMap enc := by
  intro xs
  induction xs with
  | nil => intro i j _ _ h; simp at h
  | cons x xs ih =>
    intro i j u x' h hj he
    rw [List.flatMap_cons]
    cases i with
    | zero =>
      rw [Nat.zero_mul, Nat.zero_add, List.set_append_left _ _ (by rw [hk]; exact hj), List.set_cons_zero, List.flatMap_cons, he]; rfl
    | succ i =>
      rw [List.set_append_right _ _ (by rw [hk, Nat.add_mul]; omega), hk, show (i + 1) * sz + j - sz = i * sz + j from by rw [Nat.add_mul]; omega, ih i j u x' (by simpa using h) hj (by rw [he, ge_cons_succ]), List.set_cons_succ, List.flatMap_cons]

section
variable {α : Type} {enc : α → List Value} {sz : Nat} {w w' : World} {T : TypeId} {base n c : Nat} {A : Option Addr} {xs : List α}
/-- a row that the call itself has made, from block 'base' on -/
def OwnE (enc : α → List Value) (sz : Nat) (T : TypeId) (w : World) (base : Nat) (A : Option Addr) (n c : Nat) (xs : List α) : Prop :=
  xs.length = n ∧ w.ownsRow base T sz (.slice A n c) n (xs.flatMap enc)
theorem OwnE.len (h : OwnE enc sz T w base A n c xs) : xs.length = n := h.1
theorem OwnE.nil (enc : α → List Value) (sz : Nat) (T : TypeId) (w : World) (base : Nat) : OwnE enc sz T w base none 0 0 ([] : List α) := ⟨rfl, World.ownsRow_nil w base T sz⟩
theorem OwnE.form (h : OwnE enc sz T w base A n c xs) (hn : 0 < n) : ∃ g, A = some ⟨g, 0, none⟩ ∧ base ≤ g ∧ g < w.heap.size := by
  rcases h.2.2 with ⟨h1, h2⟩ | ⟨g, cap, cur, hv, hb, hh, _⟩
  · omega
  · injection hv with h1
    exact ⟨g, h1, hb, (Array.getElem?_eq_some_iff.1 hh).1⟩
theorem OwnE.row (h : OwnE enc sz T w base A n c xs) : ∀ g, (Value.slice A n c).ownBlock = some g → base ≤ g ∧ g < w.heap.size := World.ownsRow.lt h.2
theorem OwnE.frozen {g : Nat} (h : OwnE enc sz T w base (some ⟨g, 0, none⟩) n c xs) (j : Nat) : w.frozen? ⟨g, j, none⟩ = false := World.ownsRow.frozenAt h.2 j
theorem OwnE.kept {row : Option Nat} (h : OwnE enc sz T w base A n c xs) (hg : w.grownBy w' row) (hne : (Value.slice A n c).ownBlock = none ∨ (Value.slice A n c).ownBlock ≠ row) : OwnE enc sz T w' base A n c xs :=
  ⟨h.1, World.ownsRow.kept h.2 hg hne⟩
theorem OwnE.below (h : OwnE enc sz T w base A n c xs) (hb : Below w.heap.size w w') : OwnE enc sz T w' base A n c xs :=
  h.kept (row := none) ⟨hb.os, hb.tape, hb.output, hb.size, fun k hk _ => hb.block k hk⟩ (by cases hv : (Value.slice A n c).ownBlock <;> simp)
theorem OwnE.alloc (h : OwnE enc sz T w base A n c xs) (o : Obj) : OwnE enc sz T (w.alloc o) base A n c xs := ⟨h.1, World.ownsRow.alloc h.2 o⟩
theorem OwnE.drewN (h : OwnE enc sz T w base A n c xs) (k : Nat) : OwnE enc sz T (w.drewN k) base A n c xs := h
theorem OwnE.weaken {base' : Nat} (h : OwnE enc sz T w base A n c xs) (hb : base' ≤ base) : OwnE enc sz T w base' A n c xs := by
  refine ⟨h.1, h.2.1, ?_⟩
  rcases h.2.2 with h1 | ⟨g, cap, cur, hv, hb', r⟩
  · exact .inl h1
  · exact .inr ⟨g, cap, cur, hv, Nat.le_trans hb hb', r⟩
end

section
variable {α : Type} [Inhabited α]
/-- the slice value '.slice A n c' reads as xs, below block B -/
def RE (enc : α → List Value) (sz : Nat) (w : World) (B : Nat) (A : Option Addr) (n : Nat) (xs : List α) : Prop :=
  xs.length = n ∧ (0 < n → ∃ b o, A = some ⟨b, o, none⟩ ∧ b < B ∧ ∀ i, i < n → ∀ j u, (enc (ge xs i))[j]? = some u → w.cell? ⟨b, o + i * sz + j, none⟩ = some u)

variable {enc : α → List Value} {sz : Nat} {w w' : World} {B B' n : Nat} {A : Option Addr} {xs : List α}
theorem RE.len (h : RE enc sz w B A n xs) : xs.length = n := h.1
theorem RE.get (h : RE enc sz w B A n xs) (hn : 0 < n) :
    ∃ b o, A = some ⟨b, o, none⟩ ∧ b < B ∧ ∀ i, i < n → ∀ j u, (enc (ge xs i))[j]? = some u → w.cell? ⟨b, o + i * sz + j, none⟩ = some u := h.2 hn
theorem RE.nil (enc : α → List Value) (sz : Nat) (w : World) (B : Nat) (A : Option Addr) : RE enc sz w B A 0 ([] : List α) := ⟨rfl, fun h => absurd h (by omega)⟩
theorem RE.below (h : RE enc sz w B A n xs) (hb : Below B' w w') (hB : B ≤ B') : RE enc sz w' B A n xs :=
  ⟨h.1, fun hn => let ⟨b, o, e, hlt, hc⟩ := h.2 hn; ⟨b, o, e, hlt, fun i hi j u hu => (hb.cell (p := ⟨b, o + i * sz + j, none⟩) (Nat.lt_of_lt_of_le hlt hB)).trans (hc i hi j u hu)⟩⟩
theorem RE.more (h : RE enc sz w B A n xs) (hB : B ≤ B') : RE enc sz w B' A n xs :=
  ⟨h.1, fun hn => let ⟨b, o, e, hlt, hc⟩ := h.2 hn; ⟨b, o, e, Nat.lt_of_lt_of_le hlt hB, hc⟩⟩
theorem RE.up (h : RE enc sz w w.heap.size A n xs) (hb : Below w.heap.size w w') : RE enc sz w' w'.heap.size A n xs :=
  (h.below hb (Nat.le_refl _)).more hb.size
theorem RE.drewN (h : RE enc sz w B A n xs) (k : Nat) : RE enc sz (w.drewN k) B A n xs := h

variable {T : TypeId} {base c : Nat}
theorem OwnE.cell {g : Nat} (hk : ∀ x, (enc x).length = sz) (h : OwnE enc sz T w base (some ⟨g, 0, none⟩) n c xs) {i j : Nat} (hi : i < n) (hj : j < sz) :
    w.cell? ⟨g, i * sz + j, none⟩ = (enc (ge xs i))[j]? := by
  have hlt : i * sz + j < n * sz := by
    have : (i + 1) * sz ≤ n * sz := Nat.mul_le_mul_right _ hi
    rw [Nat.add_mul] at this; omega
  rw [World.ownsRow.cellAt h.2 _ hlt, flat_get hk xs i j (by rw [h.1]; exact hi) hj]
theorem OwnE.reads (hk : ∀ x, (enc x).length = sz) (h : OwnE enc sz T w base A n c xs) : RE enc sz w w.heap.size A n xs := by
  refine ⟨h.len, fun hn => ?_⟩
  obtain ⟨g, rfl, _, hg⟩ := h.form hn
  refine ⟨g, 0, rfl, hg, fun i hi j u hu => ?_⟩
  have hj : j < sz := by
    rcases Nat.lt_or_ge j (enc (ge xs i)).length with hh | hh
    · rwa [hk] at hh
    · rw [List.getElem?_eq_none hh] at hu; cases hu
  rw [Nat.zero_add, h.cell hk hi hj, hu]
theorem OwnE.stored {g : Nat} (hk : ∀ x, (enc x).length = sz) (h : OwnE enc sz T w base (some ⟨g, 0, none⟩) n c xs) (i j : Nat) (u : Value) (x' : α) (hi : i < n) (hj : j < sz) (he : enc x' = (enc (ge xs i)).set j u) :
    OwnE enc sz T (w.setCell ⟨g, i * sz + j, none⟩ u) base (some ⟨g, 0, none⟩) n c (xs.set i x') ∧ w.grownBy (w.setCell ⟨g, i * sz + j, none⟩ u) (some g) := by
  have := World.ownsRow.stored h.2 (i * sz + j) u
  rw [flat_set hk xs i j u x' (by rw [h.1]; exact hi) hj he] at this
  exact ⟨⟨by rw [List.length_set]; exact h.1, this.1⟩, this.2⟩
end

theorem flat_rep {α : Type} {enc : α → List Value} {sz : Nat} {x0 : α} (hke : (enc x0).length = sz) {r : Nat} (hr : r < sz) :
    ∀ (k q : Nat), q < k → ((List.replicate k x0).flatMap enc)[q * sz + r]? = (enc x0)[r]? := by
  intro k
  induction k with
  | zero => intro q hq; omega
  | succ k ih =>
    intro q hq
    rw [List.replicate_succ, List.flatMap_cons]
    cases q with
    | zero => rw [Nat.zero_mul, Nat.zero_add, List.getElem?_append_left (by rw [hke]; exact hr)]
    | succ q => rw [List.getElem?_append_right (by rw [hke, Nat.add_mul]; omega), hke, show (q + 1) * sz + r - sz = q * sz + r from by rw [Nat.add_mul]; omega]; exact ih q (by omega)
theorem flat_rep_len {α : Type} {enc : α → List Value} {sz : Nat} {x0 : α} (hke : (enc x0).length = sz) (k : Nat) : ((List.replicate k x0).flatMap enc).length = k * sz := by
  induction k with
  | zero => simp
  | succ k ih => rw [List.replicate_succ, List.flatMap_cons, List.length_append, hke, ih, Nat.add_mul]; omega
theorem made_flat {α : Type} (enc : α → List Value) (sz : Nat) (x0 : α) (z : Value) (hzs : enc x0 = z.cells.toList) (hsz : z.cells.size = sz) (hsz0 : 0 < sz) (n : Nat) :
    (madeCells z.cells (n * sz)).toList = (List.replicate n x0).flatMap enc := by
  have hke : (enc x0).length = sz := by rw [hzs]; simpa using hsz
  apply List.ext_getElem?
  intro m
  rcases Nat.lt_or_ge m (n * sz) with hm | hm
  · obtain ⟨q, r, rfl, hr⟩ : ∃ q r, m = q * sz + r ∧ r < sz := ⟨m / sz, m % sz, by rw [Nat.mul_comm]; exact (Nat.div_add_mod m sz).symm, Nat.mod_lt _ hsz0⟩
    have hq : q < n := by
      rcases Nat.lt_or_ge q n with hh | hh
      · exact hh
      · have := Nat.mul_le_mul_right sz hh; omega
    rw [flat_rep hke hr n q hq, hzs]
    have hmod : (q * sz + r) % z.cells.size = r := by rw [hsz, Nat.add_comm, Nat.add_mul_mod_self_right, Nat.mod_eq_of_lt hr]
    have hr' : r < z.cells.size := by omega
    have h2 : (Array.range (n * sz))[q * sz + r]? = some (q * sz + r) := by simp [hm]
    simp only [madeCells, Array.getElem?_toList, Array.getElem?_map, h2, Option.map_some, hmod, getElem!_pos, hr', Array.getElem?_eq_getElem]
  · rw [List.getElem?_eq_none (by simpa [madeCells] using hm), List.getElem?_eq_none (by rw [flat_rep_len hke]; exact hm)]

section
variable {P : Program} {ops : Array Oper} {rest : List Oper} {o : Oper} {a : Act} {Q : Exit → Act → World → Prop} {α : Type}
/-- 'out = append(out, y)' on a row of the call's own -/
theorem wpl_app1E (enc : α → List Value) (sz : Nat) (hk : ∀ x, (enc x).length = sz) (h1c : ∀ x, ∀ u ∈ enc x, u.oneCell' = true) (W : World) {TS T : TypeId} {z : Value} {bytes : Nat}
    (ht : P.underlying TS = some (.slice T)) (hinfo : (P.info? T).map (fun i => (i.zero, i.size, i.bytes)) = some (some z, sz, bytes)) (hzs : z.cells.size = sz) (hsz : 0 < sz) (hby : bytes ≤ 128)
    (hgd : o.guard = none) (s x : Operand) (ho : o.op = .call { callee := .builtin .append, args := #[s, x], argTypes := #[TS, TS] })
    (base : Nat) (A : Option Addr) (n c : Nat) (xs : List α) (hs : a.eval s = .slice A n c) (hown : OwnE enc sz T W base A n c xs)
    (ad : Addr) (c' : Nat) (y : α) (hx : a.eval x = .slice (some ad) 1 c') (hcell : ∀ j u, (enc y)[j]? = some u → W.cell? (ad.add j) = some u)
    (hn : n + 1 ≤ 1099511627776) (hbase : base ≤ W.heap.size)
    (h : ∀ A' c' w', OwnE enc sz T w' base A' (n + 1) c' (xs ++ [y]) → W.grownBy w' (Value.slice A n c).ownBlock → wpList P ops Q rest (a.put o.dst (.slice A' (n + 1) c')) w') :
    wpList P ops Q (o :: rest) a W := by
  obtain ⟨i, hi, hz, hs1, hb1⟩ := info_split hinfo
  refine wpList_append_own W hgd s x TS ho base T i z sz bytes ht hi hz hs1 hb1 hzs hsz (.slice A n c) n _ hs hown.2 ad 1 c' (enc y) hx (by rw [hk, Nat.one_mul]) hcell (h1c y) ?_ ?_ hbase ?_
  · simp only [maxLen]; omega
  · have : (n + 1) * bytes ≤ (n + 1) * 128 := Nat.mul_le_mul_left _ hby
    omega
  · intro v' w' hown' hg _
    rcases hown'.2 with ⟨h1, h2⟩ | ⟨g, cap, cur, hv, hrest⟩
    · omega
    · subst hv
      exact h _ _ _ ⟨by rw [List.length_append, hown.1]; rfl, by rw [List.flatMap_append, List.flatMap_singleton]; exact hown'⟩ hg
/-- 'make([]T, n)' -/
theorem wpl_makeE (enc : α → List Value) (sz : Nat) (W : World) {TS T : TypeId} {z : Value} {bytes : Nat} (x0 : α)
    (ht : P.underlying TS = some (.slice T)) (hinfo : (P.info? T).map (fun i => (i.zero, i.size, i.bytes)) = some (some z, sz, bytes)) (hzs : enc x0 = z.cells.toList) (hsz : z.cells.size = sz) (hsz0 : 0 < sz) (hby : bytes ≤ 128)
    (hgd : o.guard = none) (l c : Operand) (hop : o.op = Op.makeSlice TS l c) (n : Nat) (hl : a.eval l = .int .i64 n) (hc : a.eval c = .int .i64 n) (hn : n ≤ 1099511627776)
    (h : ∀ w', OwnE enc sz T w' W.heap.size (some ⟨W.heap.size, 0, none⟩) n n (List.replicate n x0) → W.grownBy w' none → wpList P ops Q rest (a.put o.dst (.slice (some ⟨W.heap.size, 0, none⟩) n n)) w') :
    wpList P ops Q (o :: rest) a W := by
  obtain ⟨i, hi, hz, hs1, hb1⟩ := info_split hinfo
  refine wpList_make_full W hgd l c TS hop W.heap.size T i z sz ht hi hz hs1 .i64 .i64 n n n hl hc rfl rfl ?_ (by simp only [maxLen]; omega) (Nat.le_refl _) ?_
  · rw [hb1]
    have : bytes * n ≤ 128 * n := Nat.mul_le_mul_right _ hby
    omega
  · intro w' hown hg
    refine h w' ⟨by simp, ?_⟩ hg
    have := made_flat enc sz x0 z hzs hsz hsz0 n
    rw [← this]; exact hown
end

/-- what lay in memory reads as it did: two rules for the walk -/
theorem bcell {W w1 : World} (hb : Below W.heap.size W w1) : (∀ b o, b < W.heap.size → w1.cell? ⟨b, o, none⟩ = W.cell? ⟨b, o, none⟩) ∧ (∀ b o, b < W.heap.size → w1.frozen? ⟨b, o, none⟩ = W.frozen? ⟨b, o, none⟩) :=
  ⟨fun b o h => hb.cell (p := ⟨b, o, none⟩) h, fun b o h => hb.frozen (p := ⟨b, o, none⟩) h⟩
/-- 'Below' over two calls: what the first left is the second's start -/
theorem below_then {W w1 w2 : World} {B : Nat} (hb : Below B W w1) (hc : Below w1.heap.size w1 w2) (hB : B ≤ w1.heap.size) : Below B W w2 := hb.trans (hc.mono hB)
theorem isz_alloc (w : World) (o : Obj) : (w.alloc o).heap.size = w.heap.size + 1 := by simp

/-- a fault -/
structure Flt where
  kd : Int
  pos : Int
  len : Int
  val : Int
instance : Inhabited Flt := ⟨⟨0, 0, 0, 0⟩⟩
def encF (f : Flt) : List Value := [.int .i64 f.kd, .int .i64 f.pos, .int .i64 f.len, .int .i64 f.val]
theorem encF_len (f : Flt) : (encF f).length = 4 := rfl
theorem encF_one (f : Flt) : ∀ u ∈ encF f, u.oneCell' = true := by
  intro u hu
  simp only [encF, List.mem_cons, List.not_mem_nil, or_false] at hu
  rcases hu with rfl | rfl | rfl | rfl <;> rfl
end Go.Proofs.Ytlfbmedgkkfalaa
