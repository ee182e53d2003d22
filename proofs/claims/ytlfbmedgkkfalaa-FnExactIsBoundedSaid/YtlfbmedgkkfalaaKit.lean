/- Small notions and lemmas, with no program in sight: how a slice of int64 reads in memory ('RI'), and how a slice that the call itself has made is owned ('OwnI'). Conditions: none. -/
import Derived.WalkKit
import Derived.WalkSpells
import Derived.WalkLawsBesides
import Derived.Lib.Hide
import Derived.Deep.Draws
import Derived.WalkSmall
namespace Go.Proofs.Ytlfbmedgkkfalaa
open Go.RowKit

/-- the i-th number of a list, 0 behind its end -/
def gi (zs : List Int) (i : Nat) : Int := zs.getD i 0
theorem gi_lt {zs : List Int} {i : Nat} (h : i < zs.length) : gi zs i = zs[i] := by simp [gi, h]
theorem gi_some {zs : List Int} {i : Nat} (h : i < zs.length) : zs[i]? = some (gi zs i) := by simp [gi, h]
theorem gi_app_lt {zs ys : List Int} {i : Nat} (h : i < zs.length) : gi (zs ++ ys) i = gi zs i := by
  simp [gi, List.getElem?_append_left h]
theorem gi_cons_zero (z : Int) (zs : List Int) : gi (z :: zs) 0 = z := rfl
theorem gi_cons_succ (z : Int) (zs : List Int) (i : Nat) : gi (z :: zs) (i + 1) = gi zs i := by simp [gi]
theorem gi_drop (zs : List Int) (k i : Nat) : gi (zs.drop k) i = gi zs (k + i) := by simp [gi]
theorem gi_take {zs : List Int} {k i : Nat} (h : i < k) : gi (zs.take k) i = gi zs i := by simp [gi, h]
theorem take_gi {zs : List Int} {k : Nat} (h : k < zs.length) : zs.take (k + 1) = zs.take k ++ [gi zs k] := by
  rw [List.take_add_one, gi_some h]; rfl
theorem ext_gi {xs ys : List Int} (hl : xs.length = ys.length) (h : ∀ i, i < xs.length → gi xs i = gi ys i) : xs = ys := by
  apply List.ext_getElem hl
  intro i h1 h2
  have := h i h1
  rwa [gi_lt h1, gi_lt h2] at this
theorem mem_gi {zs : List Int} {i : Nat} (h : i < zs.length) : gi zs i ∈ zs := by rw [gi_lt h]; exact List.getElem_mem h

/-- the slice value '.slice A n c' reads as zs, below block B -/
def RI (w : World) (B : Nat) (A : Option Addr) (n : Nat) (zs : List Int) : Prop :=
  zs.length = n ∧ (0 < n → ∃ b o, A = some ⟨b, o, none⟩ ∧ b < B ∧ ∀ i, i < n → w.cell? ⟨b, o + i, none⟩ = some (.int .i64 (gi zs i)))

theorem RI.len {w : World} {B n : Nat} {A : Option Addr} {zs : List Int} (h : RI w B A n zs) : zs.length = n := h.1
theorem RI.get {w : World} {B n : Nat} {A : Option Addr} {zs : List Int} (h : RI w B A n zs) (hn : 0 < n) :
    ∃ b o, A = some ⟨b, o, none⟩ ∧ b < B ∧ ∀ i, i < n → w.cell? ⟨b, o + i, none⟩ = some (.int .i64 (gi zs i)) := h.2 hn
theorem RI.nil (w : World) (B : Nat) (A : Option Addr) : RI w B A 0 [] := ⟨rfl, fun h => absurd h (by omega)⟩
theorem RI.below {w w' : World} {B B' n : Nat} {A : Option Addr} {zs : List Int} (h : RI w B A n zs) (hb : Below B' w w') (hB : B ≤ B') : RI w' B A n zs :=
  ⟨h.1, fun hn => let ⟨b, o, e, hlt, hc⟩ := h.2 hn; ⟨b, o, e, hlt, fun i hi => (hb.cell (p := ⟨b, o + i, none⟩) (Nat.lt_of_lt_of_le hlt hB)).trans (hc i hi)⟩⟩
theorem RI.more {w : World} {B B' n : Nat} {A : Option Addr} {zs : List Int} (h : RI w B A n zs) (hB : B ≤ B') : RI w B' A n zs :=
  ⟨h.1, fun hn => let ⟨b, o, e, hlt, hc⟩ := h.2 hn; ⟨b, o, e, Nat.lt_of_lt_of_le hlt hB, hc⟩⟩
/-- an argument, asked for in a later world -/
theorem RI.up {w w' : World} {n : Nat} {A : Option Addr} {zs : List Int} (h : RI w w.heap.size A n zs) (hb : Below w.heap.size w w') : RI w' w'.heap.size A n zs :=
  (h.below hb (Nat.le_refl _)).more hb.size
theorem RI.drewN {w : World} {B n : Nat} {A : Option Addr} {zs : List Int} (h : RI w B A n zs) (k : Nat) : RI (w.drewN k) B A n zs := h
theorem RI.drew {w : World} {B n : Nat} {A : Option Addr} {zs : List Int} (h : RI w B A n zs) : RI w.drew B A n zs := h

theorem below_drewN {B : Nat} {a w : World} (h : Below B a w) (n : Nat) : Below B a (w.drewN n) := ⟨h.os, h.tape, h.output, h.size, h.block⟩

/-- a row of ints that the call itself has made, from block 'base' on; T: int64's type number -/
def OwnI (T : TypeId) (w : World) (base : Nat) (A : Option Addr) (n c : Nat) (zs : List Int) : Prop :=
  w.ownsRow base T 1 (.slice A n c) n (zs.map (Value.int .i64))

section
variable {T : TypeId} {w w' : World} {base n c : Nat} {A : Option Addr} {zs : List Int}
theorem OwnI.len (h : OwnI T w base A n c zs) : zs.length = n := by have := h.1; simpa using this
theorem OwnI.nil (T : TypeId) (w : World) (base : Nat) : OwnI T w base none 0 0 [] := World.ownsRow_nil w base T 1
theorem OwnI.form (h : OwnI T w base A n c zs) (hn : 0 < n) : ∃ g, A = some ⟨g, 0, none⟩ ∧ base ≤ g ∧ g < w.heap.size := by
  rcases h.2 with ⟨h1, h2⟩ | ⟨g, cap, cur, hv, hb, hh, _⟩
  · omega
  · injection hv with h1
    exact ⟨g, h1, hb, (Array.getElem?_eq_some_iff.1 hh).1⟩
theorem OwnI.block (h : OwnI T w base A n c zs) : ∀ g o, A = some ⟨g, o, none⟩ → o = 0 ∧ base ≤ g ∧ g < w.heap.size := by
  intro g o e
  subst e
  rcases h.2 with ⟨h1, h2⟩ | ⟨g', cap, cur, hv, hb, hh, _⟩
  · injection h1 with h1; cases h1
  · injection hv with h1
    injection h1 with h1
    injection h1 with h1 h2
    subst h1; subst h2
    exact ⟨rfl, hb, (Array.getElem?_eq_some_iff.1 hh).1⟩
theorem OwnI.cell {g : Nat} (h : OwnI T w base (some ⟨g, 0, none⟩) n c zs) {j : Nat} (hj : j < n) : w.cell? ⟨g, j, none⟩ = some (.int .i64 (gi zs j)) := by
  have h1 := World.ownsRow.cellAt h j (by omega)
  rw [h1, List.getElem?_map, gi_some (by rw [h.len]; exact hj)]
  rfl
theorem OwnI.frozen {g : Nat} (h : OwnI T w base (some ⟨g, 0, none⟩) n c zs) (j : Nat) : w.frozen? ⟨g, j, none⟩ = false := World.ownsRow.frozenAt h j
theorem OwnI.cap (h : OwnI T w base A n c zs) : n ≤ c ∧ c ≤ maxLen := by
  rcases h.2 with ⟨h1, h2⟩ | ⟨g, cap, cur, hv, _, _, hnc, hm, _⟩
  · injection h1 with _ _ h3
    omega
  · injection hv with _ _ h3
    subst h3
    exact ⟨hnc, hm⟩
theorem OwnI.reads (h : OwnI T w base A n c zs) : RI w w.heap.size A n zs := by
  refine ⟨h.len, fun hn => ?_⟩
  obtain ⟨g, rfl, _, hg⟩ := h.form hn
  exact ⟨g, 0, rfl, hg, fun i hi => by rw [Nat.zero_add]; exact h.cell hi⟩
theorem OwnI.kept {row : Option Nat} (h : OwnI T w base A n c zs) (hg : w.grownBy w' row) (hne : ∀ g o, A = some ⟨g, o, none⟩ → some g ≠ row) : OwnI T w' base A n c zs := by
  refine World.ownsRow.kept h hg ?_
  rcases A with _ | ⟨g, o, f⟩
  · exact .inl rfl
  · rcases h.2 with ⟨h1, h2⟩ | ⟨g', cap, cur, hv, hb, hh, _⟩
    · injection h1 with h1; cases h1
    · injection hv with h1
      injection h1 with h1
      injection h1 with h1 h2 h3
      subst h1; subst h2; subst h3
      exact .inr (hne g 0 rfl)
theorem OwnI.below (h : OwnI T w base A n c zs) (hb : Below w.heap.size w w') : OwnI T w' base A n c zs :=
  h.kept (row := none) ⟨hb.os, hb.tape, hb.output, hb.size, fun k hk _ => hb.block k hk⟩ (fun _ _ _ => by simp)
theorem OwnI.alloc (h : OwnI T w base A n c zs) (o : Obj) : OwnI T (w.alloc o) base A n c zs := World.ownsRow.alloc h o
theorem OwnI.drewN (h : OwnI T w base A n c zs) (k : Nat) : OwnI T (w.drewN k) base A n c zs := h
theorem OwnI.drew (h : OwnI T w base A n c zs) : OwnI T w.drew base A n c zs := h
theorem OwnI.stored {g : Nat} (h : OwnI T w base (some ⟨g, 0, none⟩) n c zs) (j : Nat) (z : Int) :
    OwnI T (w.setCell ⟨g, j, none⟩ (.int .i64 z)) base (some ⟨g, 0, none⟩) n c (zs.set j z) ∧ w.grownBy (w.setCell ⟨g, j, none⟩ (.int .i64 z)) (some g) := by
  have := World.ownsRow.stored h j (.int .i64 z)
  rw [← List.map_set] at this
  exact this
theorem OwnI.weaken {base' : Nat} (h : OwnI T w base A n c zs) (hb : base' ≤ base) : OwnI T w base' A n c zs := by
  refine ⟨h.1, ?_⟩
  rcases h.2 with h1 | ⟨g, cap, cur, hv, hb', r⟩
  · exact .inl h1
  · exact .inr ⟨g, cap, cur, hv, Nat.le_trans hb hb', r⟩
theorem grown_tr {a b c : World} {row : Option Nat} (h : a.grownBy b row) (k : b.grownBy c row) : a.grownBy c row :=
  ⟨k.os.trans h.os, k.tape.trans h.tape, k.output.trans h.output, Nat.le_trans h.size k.size, fun i hi hne => (k.block i (Nat.lt_of_lt_of_le hi h.size) hne).trans (h.block i hi hne)⟩
/-- what lies below stays where only an own row is written -/
theorem below_own {B : Nat} {a : World} {ro : Option Nat} (hb : Below B a w) (hg : w.grownBy w' ro) (hB : B ≤ w.heap.size) (hr : ∀ g, ro = some g → B ≤ g) : Below B a w' :=
  hb.grown hg hB hr
end

theorem info_split {P : Program} {T : TypeId} {z : Option Value} {s b : Nat} (h : (P.info? T).map (fun i => (i.zero, i.size, i.bytes)) = some (z, s, b)) :
    ∃ i, P.info? T = some i ∧ i.zero = z ∧ i.size = s ∧ i.bytes = b := by
  cases hi : P.info? T with
  | none => simp [hi] at h
  | some i => simp [hi] at h; exact ⟨i, rfl, h.1, h.2.1, h.2.2⟩

section
variable {P : Program} {ops : Array Oper} {rest : List Oper} {o : Oper} {a : Act} {Q : Exit → Act → World → Prop}
/-- 'out = append(out, y)' on a row of the call's own -/
theorem wpl_app1 (W : World) {TS T : TypeId} (ht : P.underlying TS = some (.slice T)) (hinfo : (P.info? T).map (fun i => (i.zero, i.size, i.bytes)) = some (some (.int .i64 0), 1, 8))
    (hgd : o.guard = none) (s x : Operand) (ho : o.op = .call { callee := .builtin .append, args := #[s, x], argTypes := #[TS, TS] })
    (base : Nat) (A : Option Addr) (n c : Nat) (zs : List Int) (hs : a.eval s = .slice A n c) (hown : OwnI T W base A n c zs)
    (ad : Addr) (c' : Nat) (y : Int) (hx : a.eval x = .slice (some ad) 1 c') (hcell : W.cell? ad = some (.int .i64 y))
    (hn : n + 1 ≤ 1099511627776) (hbase : base ≤ W.heap.size)
    (h : ∀ A' c' w', OwnI T w' base A' (n + 1) c' (zs ++ [y]) → W.grownBy w' (Value.slice A n c).ownBlock → wpList P ops Q rest (a.put o.dst (.slice A' (n + 1) c')) w') :
    wpList P ops Q (o :: rest) a W := by
  obtain ⟨i, hi, hz, hs1, hb1⟩ := info_split hinfo
  refine wpList_append_own W hgd s x TS ho base T i (.int .i64 0) 1 8 ht hi hz hs1 hb1 rfl (by omega) (.slice A n c) n _ hs hown ad 1 c' [.int .i64 y] hx rfl ?_ ?_ ?_ ?_ hbase ?_
  · intro j u hu
    rcases j with _ | j
    · simp at hu
      subst hu
      have : ad.add 0 = ad := by simp [Addr.add]
      rw [this]; exact hcell
    · simp at hu
  · intro u hu
    simp at hu
    subst hu
    rfl
  · simp only [maxLen]; omega
  · omega
  · intro v' w' hown' hg _
    rcases hown'.2 with ⟨h1, h2⟩ | ⟨g, cap, cur, hv, hrest⟩
    · omega
    · subst hv
      exact h _ _ _ (by unfold OwnI; rw [List.map_append]; exact hown') hg
end
/-- the block that an append writes is one of the call's own -/
theorem own_row {T : TypeId} {w : World} {base n c : Nat} {A : Option Addr} {zs : List Int} (h : OwnI T w base A n c zs) : ∀ g, (Value.slice A n c).ownBlock = some g → base ≤ g ∧ g < w.heap.size := by
  intro g hg
  rcases A with _ | ⟨b, o, f⟩
  · simp [Value.ownBlock] at hg
  · simp [Value.ownBlock] at hg
    subst hg
    rcases h.2 with ⟨h1, h2⟩ | ⟨g', cap, cur, hv, hb, hh, _⟩
    · injection h1 with h1; cases h1
    · injection hv with h1
      injection h1 with h1
      injection h1 with h1 h2 h3
      subst h1
      exact ⟨hb, (Array.getElem?_eq_some_iff.1 hh).1⟩

theorem ret_int {k : IntKind} {a b : Int} (h : a = b) : Ending.returned (.int k a) = .returned (.int k b) := by rw [h]
theorem ret_bool {a b : Bool} (h : a = b) : Ending.returned (.bool a) = .returned (.bool b) := by rw [h]

/-- is n from lo to hi -/
def inR (n lo hi : Int) : Bool := decide (lo ≤ n) && decide (n ≤ hi)
theorem inR_iff {n lo hi : Int} : inR n lo hi = true ↔ lo ≤ n ∧ n ≤ hi := by simp [inR]
theorem inR_no {n lo hi : Int} : inR n lo hi = false ↔ n < lo ∨ hi < n := by
  simp only [inR, Bool.and_eq_false_iff, decide_eq_false_iff_not]; omega
/-- are all numbers of a list from lo to hi -/
def allR (zs : List Int) (lo hi : Int) : Bool := zs.all fun z => inR z lo hi
theorem allR_take {zs : List Int} {lo hi : Int} {k : Nat} (hk : k < zs.length) : allR (zs.take (k + 1)) lo hi = (allR (zs.take k) lo hi && inR (gi zs k) lo hi) := by
  rw [take_gi hk]; simp [allR]
theorem allR_gi {zs : List Int} {lo hi : Int} (h : allR zs lo hi = true) {k : Nat} (hk : k < zs.length) : lo ≤ gi zs k ∧ gi zs k ≤ hi := by
  have := List.all_eq_true.1 h (gi zs k) (mem_gi hk)
  exact inR_iff.1 this
theorem allR_of {zs : List Int} {lo hi : Int} (h : ∀ k, k < zs.length → lo ≤ gi zs k ∧ gi zs k ≤ hi) : allR zs lo hi = true := by
  refine List.all_eq_true.2 fun z hz => ?_
  obtain ⟨i, hi', rfl⟩ := List.getElem_of_mem hz
  rw [← gi_lt hi']
  exact inR_iff.2 (h i hi')
theorem allR_no {zs : List Int} {lo hi : Int} {k : Nat} (hk : k < zs.length) (h : inR (gi zs k) lo hi = false) : allR zs lo hi = false := by
  refine Bool.eq_false_iff.2 fun ht => ?_
  have := allR_gi ht hk
  rw [inR_no] at h
  omega
/-- a list of bits; of bytes -/
def isBits (zs : List Int) : Bool := decide (zs.length ≤ 8192) && allR zs 0 1
def isBytes (zs : List Int) : Bool := decide (zs.length ≤ 1024) && allR zs 0 255
/-- 'make([]int64, n)' -/
theorem wpl_make (W : World) {P : Program} {ops : Array Oper} {rest : List Oper} {o : Oper} {a : Act} {Q : Exit → Act → World → Prop} {TS T : TypeId}
    (ht : P.underlying TS = some (.slice T)) (hinfo : (P.info? T).map (fun i => (i.zero, i.size, i.bytes)) = some (some (.int .i64 0), 1, 8))
    (hgd : o.guard = none) (l c : Operand) (hop : o.op = Op.makeSlice TS l c) (n : Nat) (hl : a.eval l = .int .i64 n) (hc : a.eval c = .int .i64 n) (hn : n ≤ 1099511627776)
    (h : ∀ w', OwnI T w' W.heap.size (some ⟨W.heap.size, 0, none⟩) n n (List.replicate n 0) → W.grownBy w' none → wpList P ops Q rest (a.put o.dst (.slice (some ⟨W.heap.size, 0, none⟩) n n)) w') :
    wpList P ops Q (o :: rest) a W := by
  obtain ⟨i, hi, hz, hs1, hb1⟩ := info_split hinfo
  refine wpList_make_full W hgd l c TS hop W.heap.size T i (.int .i64 0) 1 ht hi hz hs1 .i64 .i64 n n n hl hc rfl rfl (by rw [hb1]; omega) (by simp only [maxLen]; omega) (Nat.le_refl _) ?_
  intro w' hown hg
  refine h w' ?_ hg
  unfold OwnI
  have : (madeCells (Value.int IntKind.i64 0).cells (n * 1)).toList = (List.replicate n (0 : Int)).map (Value.int .i64) := by
    rw [List.map_replicate, Nat.mul_one]; exact toList_madeCells_one _ _
  rw [← this]; exact hown
/-- a copy that has come to k -/
def fillTo (zs : List Int) (n k : Nat) : List Int := zs.take k ++ List.replicate (n - k) 0
theorem fillTo_zero (zs : List Int) (n : Nat) : fillTo zs n 0 = List.replicate n 0 := by simp [fillTo]
theorem fillTo_all {zs : List Int} {n : Nat} (h : zs.length = n) : fillTo zs n n = zs := by simp [fillTo, ← h]
theorem fillTo_set {zs : List Int} {n k : Nat} (h : zs.length = n) (hk : k < n) : (fillTo zs n k).set k (gi zs k) = fillTo zs n (k + 1) := by
  have h1 : (zs.take k).length = k := by simp; omega
  unfold fillTo
  rw [take_gi (by omega), List.set_append_right _ _ (by omega), h1, Nat.sub_self, show n - k = (n - (k + 1)) + 1 from by omega, List.replicate_succ]
  simp
/-- the numbers k, k + 1, .., n of them -/
def marks (k : Int) (n : Nat) : List Int := (List.range n).map fun (i : Nat) => k + (i : Int)
theorem marks_len (k : Int) (n : Nat) : (marks k n).length = n := by simp [marks]
theorem marks_gi {k : Int} {n i : Nat} (h : i < n) : gi (marks k n) i = k + i := by simp [gi, marks, h]
/-- a list whose first k numbers are marked -/
def markTo (zs : List Int) (q : Int) (k : Nat) : List Int := marks q k ++ zs.drop k
theorem markTo_zero (zs : List Int) (q : Int) : markTo zs q 0 = zs := by simp [markTo, marks]
theorem markTo_all {zs : List Int} {q : Int} {n : Nat} (h : zs.length = n) : markTo zs q n = marks q n := by simp [markTo, ← h]
theorem markTo_set {zs : List Int} {q : Int} {n k : Nat} (h : zs.length = n) (hk : k < n) : (markTo zs q k).set k (q + k) = markTo zs q (k + 1) := by
  unfold markTo
  rw [List.set_append_right _ _ (by rw [marks_len]; omega), marks_len, Nat.sub_self, List.drop_eq_getElem_cons (by omega), List.set_cons_zero]
  simp [marks, List.range_succ]
/-- are two lists one -/
def eqI (xs ys : List Int) : Bool := decide (xs = ys)
theorem eqI_self (xs : List Int) : eqI xs xs = true := by simp [eqI]
theorem eqI_take {xs ys : List Int} {n : Nat} (hx : xs.length = n) (hy : ys.length = n) (h : xs.take n = ys.take n) : eqI xs ys = true := by
  rw [List.take_of_length_le (by omega), List.take_of_length_le (by omega)] at h
  simp [eqI, h]
theorem eqI_len {xs ys : List Int} (h : xs.length ≠ ys.length) : eqI xs ys = false := by
  simp only [eqI, decide_eq_false_iff_not]; intro e; exact h (by rw [e])
theorem eqI_no {xs ys : List Int} {k : Nat} (h : gi xs k ≠ gi ys k) : eqI xs ys = false := by
  simp only [eqI, decide_eq_false_iff_not]; intro e; exact h (by rw [e])
/-- a slice of the call's own is handed back -/
def RetI (T : TypeId) (w0 : World) (n : Nat) (zs : List Int) (e : Ending) (w' : World) : Prop :=
  ∃ A c, e = .returned (.slice A n c) ∧ OwnI T w' w0.heap.size A n c zs ∧ Below w0.heap.size w0 w'
/-- a slice of the call's own and a code are handed back -/
def RetIC (T : TypeId) (w0 : World) (zs : List Int) (code : Int) (e : Ending) (w' : World) : Prop :=
  ∃ A n c, e = .returned (.tuple #[.slice A n c, .int .i64 code]) ∧ OwnI T w' w0.heap.size A n c zs ∧ Below w0.heap.size w0 w'
/-- a value is handed back; nothing that was there has turned -/
def RetV (w0 : World) (v : Value) (e : Ending) (w' : World) : Prop := e = .returned v ∧ Below w0.heap.size w0 w'
end Go.Proofs.Ytlfbmedgkkfalaa
