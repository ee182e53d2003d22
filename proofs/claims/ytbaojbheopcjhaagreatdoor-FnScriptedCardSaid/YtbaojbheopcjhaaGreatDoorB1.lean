/- Walks, laws and small notions for the claims of this seat, several texts as one (Kit, KitE, Kit2, Kit3, Kit4, Kit5, Kit6, Kit7, Kit8, Kit9, Kit10, Kit11, Kit12). Conditions: as each theorem states them. -/
import Derived.WalkKit
import Derived.WalkSpells
import Derived.WalkLawsBesides
import Derived.Lib.Hide
import Derived.Deep.Draws
import Derived.WalkSmall
import Derived.OneCell
import Derived.Deep.QuietTactic
import Derived.WideShapes
import Derived.Laws.AppendOwnNone
import Derived.Laws.CopyOwn
import Derived.Deep.RegionLaw
import Derived.Lib.AppendZeros
namespace Go.Proofs.YtbaojbheopcjhaaGreatDoor
open Go.RowKit

/-- the i-th number of a list, 0 behind its end -/
def gi (zs : List Int) (i : Nat) : Int := zs.getD i 0
theorem gi_lt {zs : List Int} {i : Nat} (h : i < zs.length) : gi zs i = zs[i] := by simp [gi, h]
theorem gi_some {zs : List Int} {i : Nat} (h : i < zs.length) : zs[i]? = some (gi zs i) := by simp [gi, h]
theorem gi_app_lt {zs ys : List Int} {i : Nat} (h : i < zs.length) : gi (zs ++ ys) i = gi zs i := by
  simp [gi, List.getElem?_append_left h]
theorem gi_cons_zero (z : Int) (zs : List Int) : gi (z :: zs) 0 = z := rfl
theorem gi_cons_succ (z : Int) (zs : List Int) (i : Nat) : gi (z :: zs) (i + 1) = gi zs i := by simp [gi]
theorem gi_drop (zs : List Int) (k i : Nat) : gi (zs.drop k) i = gi zs (k + i) := by simp [gi]
theorem gi_take {zs : List Int} {k i : Nat} (h : i < k) : gi (zs.take k) i = gi zs i := by simp [gi, h]
theorem take_gi {zs : List Int} {k : Nat} (h : k < zs.length) : zs.take (k + 1) = zs.take k ++ [gi zs k] := by
  rw [List.take_add_one, gi_some h]; rfl
theorem ext_gi {xs ys : List Int} (hl : xs.length = ys.length) (h : ∀ i, i < xs.length → gi xs i = gi ys i) : xs = ys := by
  apply List.ext_getElem hl
  intro i h1 h2
  have := h i h1
  rwa [gi_lt h1, gi_lt h2] at this
theorem mem_gi {zs : List Int} {i : Nat} (h : i < zs.length) : gi zs i ∈ zs := by rw [gi_lt h]; exact List.getElem_mem h

/-- the slice value '.slice A n c' reads as zs, below block B -/
def RI (w : World) (B : Nat) (A : Option Addr) (n : Nat) (zs : List Int) : Prop :=
  zs.length = n ∧ (0 < n → ∃ b o, A = some ⟨b, o, none⟩ ∧ b < B ∧ ∀ i, i < n → w.cell? ⟨b, o + i, none⟩ = some (.int .i64 (gi zs i)))

theorem RI.len {w : World} {B n : Nat} {A : Option Addr} {zs : List Int} (h : RI w B A n zs) : zs.length = n := h.1
theorem RI.get {w : World} {B n : Nat} {A : Option Addr} {zs : List Int} (h : RI w B A n zs) (hn : 0 < n) :
    ∃ b o, A = some ⟨b, o, none⟩ ∧ b < B ∧ ∀ i, i < n → w.cell? ⟨b, o + i, none⟩ = some (.int .i64 (gi zs i)) := h.2 hn
theorem RI.nil (w : World) (B : Nat) (A : Option Addr) : RI w B A 0 [] := ⟨rfl, fun h => absurd h (by omega)⟩
theorem RI.below {w w' : World} {B B' n : Nat} {A : Option Addr} {zs : List Int} (h : RI w B A n zs) (hb : Below B' w w') (hB : B ≤ B') : RI w' B A n zs :=
  ⟨h.1, fun hn => let ⟨b, o, e, hlt, hc⟩ := h.2 hn; ⟨b, o, e, hlt, fun i hi => (hb.cell (p := ⟨b, o + i, none⟩) (Nat.lt_of_lt_of_le hlt hB)).trans (hc i hi)⟩⟩
theorem RI.more {w : World} {B B' n : Nat} {A : Option Addr} {zs : List Int} (h : RI w B A n zs) (hB : B ≤ B') : RI w B' A n zs :=
  ⟨h.1, fun hn => let ⟨b, o, e, hlt, hc⟩ := h.2 hn; ⟨b, o, e, Nat.lt_of_lt_of_le hlt hB, hc⟩⟩
/-- an argument, asked for in a later world -/
theorem RI.up {w w' : World} {n : Nat} {A : Option Addr} {zs : List Int} (h : RI w w.heap.size A n zs) (hb : Below w.heap.size w w') : RI w' w'.heap.size A n zs :=
  (h.below hb (Nat.le_refl _)).more hb.size
theorem RI.drewN {w : World} {B n : Nat} {A : Option Addr} {zs : List Int} (h : RI w B A n zs) (k : Nat) : RI (w.drewN k) B A n zs := h
theorem RI.drew {w : World} {B n : Nat} {A : Option Addr} {zs : List Int} (h : RI w B A n zs) : RI w.drew B A n zs := h

theorem below_drewN {B : Nat} {a w : World} (h : Below B a w) (n : Nat) : Below B a (w.drewN n) := ⟨h.os, h.tape, h.output, h.size, h.block⟩

/-- a row of ints that the call itself has made, from block 'base' on; T: int64's type number -/
def OwnI (T : TypeId) (w : World) (base : Nat) (A : Option Addr) (n c : Nat) (zs : List Int) : Prop :=
  w.ownsRow base T 1 (.slice A n c) n (zs.map (Value.int .i64))

section
variable {T : TypeId} {w w' : World} {base n c : Nat} {A : Option Addr} {zs : List Int}
theorem OwnI.len (h : OwnI T w base A n c zs) : zs.length = n := by have := h.1; simpa using this
theorem OwnI.nil (T : TypeId) (w : World) (base : Nat) : OwnI T w base none 0 0 [] := World.ownsRow_nil w base T 1
theorem OwnI.form (h : OwnI T w base A n c zs) (hn : 0 < n) : ∃ g, A = some ⟨g, 0, none⟩ ∧ base ≤ g ∧ g < w.heap.size := by
  rcases h.2 with ⟨h1, h2⟩ | ⟨g, cap, cur, hv, hb, hh, _⟩
  · omega
  · injection hv with h1
    exact ⟨g, h1, hb, (Array.getElem?_eq_some_iff.1 hh).1⟩
theorem OwnI.block (h : OwnI T w base A n c zs) : ∀ g o, A = some ⟨g, o, none⟩ → o = 0 ∧ base ≤ g ∧ g < w.heap.size := by
  intro g o e
  subst e
  rcases h.2 with ⟨h1, h2⟩ | ⟨g', cap, cur, hv, hb, hh, _⟩
  · injection h1 with h1; cases h1
  · injection hv with h1
    injection h1 with h1
    injection h1 with h1 h2
    subst h1; subst h2
    exact ⟨rfl, hb, (Array.getElem?_eq_some_iff.1 hh).1⟩
theorem OwnI.cell {g : Nat} (h : OwnI T w base (some ⟨g, 0, none⟩) n c zs) {j : Nat} (hj : j < n) : w.cell? ⟨g, j, none⟩ = some (.int .i64 (gi zs j)) := by
  have h1 := World.ownsRow.cellAt h j (by omega)
  rw [h1, List.getElem?_map, gi_some (by rw [h.len]; exact hj)]
  rfl
theorem OwnI.frozen {g : Nat} (h : OwnI T w base (some ⟨g, 0, none⟩) n c zs) (j : Nat) : w.frozen? ⟨g, j, none⟩ = false := World.ownsRow.frozenAt h j
theorem OwnI.cap (h : OwnI T w base A n c zs) : n ≤ c ∧ c ≤ maxLen := by
  rcases h.2 with ⟨h1, h2⟩ | ⟨g, cap, cur, hv, _, _, hnc, hm, _⟩
  · injection h1 with _ _ h3
    omega
  · injection hv with _ _ h3
    subst h3
    exact ⟨hnc, hm⟩
theorem OwnI.reads (h : OwnI T w base A n c zs) : RI w w.heap.size A n zs := by
  refine ⟨h.len, fun hn => ?_⟩
  obtain ⟨g, rfl, _, hg⟩ := h.form hn
  exact ⟨g, 0, rfl, hg, fun i hi => by rw [Nat.zero_add]; exact h.cell hi⟩
theorem OwnI.kept {row : Option Nat} (h : OwnI T w base A n c zs) (hg : w.grownBy w' row) (hne : ∀ g o, A = some ⟨g, o, none⟩ → some g ≠ row) : OwnI T w' base A n c zs := by
  refine World.ownsRow.kept h hg ?_
  rcases A with _ | ⟨g, o, f⟩
  · exact .inl rfl
  · rcases h.2 with ⟨h1, h2⟩ | ⟨g', cap, cur, hv, hb, hh, _⟩
    · injection h1 with h1; cases h1
    · injection hv with h1
      injection h1 with h1
      injection h1 with h1 h2 h3
      subst h1; subst h2; subst h3
      exact .inr (hne g 0 rfl)
theorem OwnI.below (h : OwnI T w base A n c zs) (hb : Below w.heap.size w w') : OwnI T w' base A n c zs :=
  h.kept (row := none) ⟨hb.os, hb.tape, hb.output, hb.size, fun k hk _ => hb.block k hk⟩ (fun _ _ _ => by simp)
theorem OwnI.alloc (h : OwnI T w base A n c zs) (o : Obj) : OwnI T (w.alloc o) base A n c zs := World.ownsRow.alloc h o
theorem OwnI.drewN (h : OwnI T w base A n c zs) (k : Nat) : OwnI T (w.drewN k) base A n c zs := h
theorem OwnI.drew (h : OwnI T w base A n c zs) : OwnI T w.drew base A n c zs := h
theorem OwnI.stored {g : Nat} (h : OwnI T w base (some ⟨g, 0, none⟩) n c zs) (j : Nat) (z : Int) :
    OwnI T (w.setCell ⟨g, j, none⟩ (.int .i64 z)) base (some ⟨g, 0, none⟩) n c (zs.set j z) ∧ w.grownBy (w.setCell ⟨g, j, none⟩ (.int .i64 z)) (some g) := by
  have := World.ownsRow.stored h j (.int .i64 z)
  rw [← List.map_set] at this
  exact this
theorem OwnI.weaken {base' : Nat} (h : OwnI T w base A n c zs) (hb : base' ≤ base) : OwnI T w base' A n c zs := by
  refine ⟨h.1, ?_⟩
  rcases h.2 with h1 | ⟨g, cap, cur, hv, hb', r⟩
  · exact .inl h1
  · exact .inr ⟨g, cap, cur, hv, Nat.le_trans hb hb', r⟩
theorem grown_tr {a b c : World} {row : Option Nat} (h : a.grownBy b row) (k : b.grownBy c row) : a.grownBy c row :=
  ⟨k.os.trans h.os, k.tape.trans h.tape, k.output.trans h.output, Nat.le_trans h.size k.size, fun i hi hne => (k.block i (Nat.lt_of_lt_of_le hi h.size) hne).trans (h.block i hi hne)⟩
/-- what lies below stays where only an own row is written -/
theorem below_own {B : Nat} {a : World} {ro : Option Nat} (hb : Below B a w) (hg : w.grownBy w' ro) (hB : B ≤ w.heap.size) (hr : ∀ g, ro = some g → B ≤ g) : Below B a w' :=
  hb.grown hg hB hr
end

theorem info_split {P : Program} {T : TypeId} {z : Option Value} {s b : Nat} (h : (P.info? T).map (fun i => (i.zero, i.size, i.bytes)) = some (z, s, b)) :
    ∃ i, P.info? T = some i ∧ i.zero = z ∧ i.size = s ∧ i.bytes = b := by
  cases hi : P.info? T with
  | none => simp [hi] at h
  | some i => simp [hi] at h; exact ⟨i, rfl, h.1, h.2.1, h.2.2⟩

section
variable {P : Program} {ops : Array Oper} {rest : List Oper} {o : Oper} {a : Act} {Q : Exit → Act → World → Prop}
/-- 'out = append(out, y)' on a row of the call's own -/
theorem wpl_app1 (W : World) {TS T : TypeId} (ht : P.underlying TS = some (.slice T)) (hinfo : (P.info? T).map (fun i => (i.zero, i.size, i.bytes)) = some (some (.int .i64 0), 1, 8))
    (hgd : o.guard = none) (s x : Operand) (ho : o.op = .call { callee := .builtin .append, args := #[s, x], argTypes := #[TS, TS] })
    (base : Nat) (A : Option Addr) (n c : Nat) (zs : List Int) (hs : a.eval s = .slice A n c) (hown : OwnI T W base A n c zs)
    (ad : Addr) (c' : Nat) (y : Int) (hx : a.eval x = .slice (some ad) 1 c') (hcell : W.cell? ad = some (.int .i64 y))
    (hn : n + 1 ≤ 1099511627776) (hbase : base ≤ W.heap.size)
    (h : ∀ A' c' w', OwnI T w' base A' (n + 1) c' (zs ++ [y]) → W.grownBy w' (Value.slice A n c).ownBlock → wpList P ops Q rest (a.put o.dst (.slice A' (n + 1) c')) w') :
    wpList P ops Q (o :: rest) a W := by
  obtain ⟨i, hi, hz, hs1, hb1⟩ := info_split hinfo
  refine wpList_append_own W hgd s x TS ho base T i (.int .i64 0) 1 8 ht hi hz hs1 hb1 rfl (by omega) (.slice A n c) n _ hs hown ad 1 c' [.int .i64 y] hx rfl ?_ ?_ ?_ ?_ hbase ?_
  · intro j u hu
    rcases j with _ | j
    · simp at hu
      subst hu
      have : ad.add 0 = ad := by simp [Addr.add]
      rw [this]; exact hcell
    · simp at hu
  · intro u hu
    simp at hu
    subst hu
    rfl
  · simp only [maxLen]; omega
  · omega
  · intro v' w' hown' hg _
    rcases hown'.2 with ⟨h1, h2⟩ | ⟨g, cap, cur, hv, hrest⟩
    · omega
    · subst hv
      exact h _ _ _ (by unfold OwnI; rw [List.map_append]; exact hown') hg
end
/-- the block that an append writes is one of the call's own -/
theorem own_row {T : TypeId} {w : World} {base n c : Nat} {A : Option Addr} {zs : List Int} (h : OwnI T w base A n c zs) : ∀ g, (Value.slice A n c).ownBlock = some g → base ≤ g ∧ g < w.heap.size := by
  intro g hg
  rcases A with _ | ⟨b, o, f⟩
  · simp [Value.ownBlock] at hg
  · simp [Value.ownBlock] at hg
    subst hg
    rcases h.2 with ⟨h1, h2⟩ | ⟨g', cap, cur, hv, hb, hh, _⟩
    · injection h1 with h1; cases h1
    · injection hv with h1
      injection h1 with h1
      injection h1 with h1 h2 h3
      subst h1
      exact ⟨hb, (Array.getElem?_eq_some_iff.1 hh).1⟩

theorem ret_int {k : IntKind} {a b : Int} (h : a = b) : Ending.returned (.int k a) = .returned (.int k b) := by rw [h]
theorem ret_bool {a b : Bool} (h : a = b) : Ending.returned (.bool a) = .returned (.bool b) := by rw [h]

/-- is n from lo to hi -/
def inR (n lo hi : Int) : Bool := decide (lo ≤ n) && decide (n ≤ hi)
theorem inR_iff {n lo hi : Int} : inR n lo hi = true ↔ lo ≤ n ∧ n ≤ hi := by simp [inR]
theorem inR_no {n lo hi : Int} : inR n lo hi = false ↔ n < lo ∨ hi < n := by
  simp only [inR, Bool.and_eq_false_iff, decide_eq_false_iff_not]; omega
/-- are all numbers of a list from lo to hi -/
def allR (zs : List Int) (lo hi : Int) : Bool := zs.all fun z => inR z lo hi
theorem allR_take {zs : List Int} {lo hi : Int} {k : Nat} (hk : k < zs.length) : allR (zs.take (k + 1)) lo hi = (allR (zs.take k) lo hi && inR (gi zs k) lo hi) := by
  rw [take_gi hk]; simp [allR]
theorem allR_gi {zs : List Int} {lo hi : Int} (h : allR zs lo hi = true) {k : Nat} (hk : k < zs.length) : lo ≤ gi zs k ∧ gi zs k ≤ hi := by
  have := List.all_eq_true.1 h (gi zs k) (mem_gi hk)
  exact inR_iff.1 this
theorem allR_of {zs : List Int} {lo hi : Int} (h : ∀ k, k < zs.length → lo ≤ gi zs k ∧ gi zs k ≤ hi) : allR zs lo hi = true := by
  refine List.all_eq_true.2 fun z hz => ?_
  obtain ⟨i, hi', rfl⟩ := List.getElem_of_mem hz
  rw [← gi_lt hi']
  exact inR_iff.2 (h i hi')
theorem allR_no {zs : List Int} {lo hi : Int} {k : Nat} (hk : k < zs.length) (h : inR (gi zs k) lo hi = false) : allR zs lo hi = false := by
  refine Bool.eq_false_iff.2 fun ht => ?_
  have := allR_gi ht hk
  rw [inR_no] at h
  omega
/-- a list of bits; of bytes -/
def isBits (zs : List Int) : Bool := decide (zs.length ≤ 8192) && allR zs 0 1
def isBytes (zs : List Int) : Bool := decide (zs.length ≤ 1024) && allR zs 0 255
/-- 'make([]int64, n)' -/
theorem wpl_make (W : World) {P : Program} {ops : Array Oper} {rest : List Oper} {o : Oper} {a : Act} {Q : Exit → Act → World → Prop} {TS T : TypeId}
    (ht : P.underlying TS = some (.slice T)) (hinfo : (P.info? T).map (fun i => (i.zero, i.size, i.bytes)) = some (some (.int .i64 0), 1, 8))
    (hgd : o.guard = none) (l c : Operand) (hop : o.op = Op.makeSlice TS l c) (n : Nat) (hl : a.eval l = .int .i64 n) (hc : a.eval c = .int .i64 n) (hn : n ≤ 1099511627776)
    (h : ∀ w', OwnI T w' W.heap.size (some ⟨W.heap.size, 0, none⟩) n n (List.replicate n 0) → W.grownBy w' none → wpList P ops Q rest (a.put o.dst (.slice (some ⟨W.heap.size, 0, none⟩) n n)) w') :
    wpList P ops Q (o :: rest) a W := by
  obtain ⟨i, hi, hz, hs1, hb1⟩ := info_split hinfo
  refine wpList_make_full W hgd l c TS hop W.heap.size T i (.int .i64 0) 1 ht hi hz hs1 .i64 .i64 n n n hl hc rfl rfl (by rw [hb1]; omega) (by simp only [maxLen]; omega) (Nat.le_refl _) ?_
  intro w' hown hg
  refine h w' ?_ hg
  unfold OwnI
  have : (madeCells (Value.int IntKind.i64 0).cells (n * 1)).toList = (List.replicate n (0 : Int)).map (Value.int .i64) := by
    rw [List.map_replicate, Nat.mul_one]; exact toList_madeCells_one _ _
  rw [← this]; exact hown
/-- a copy that has come to k -/
def fillTo (zs : List Int) (n k : Nat) : List Int := zs.take k ++ List.replicate (n - k) 0
theorem fillTo_zero (zs : List Int) (n : Nat) : fillTo zs n 0 = List.replicate n 0 := by simp [fillTo]
theorem fillTo_all {zs : List Int} {n : Nat} (h : zs.length = n) : fillTo zs n n = zs := by simp [fillTo, ← h]
theorem fillTo_set {zs : List Int} {n k : Nat} (h : zs.length = n) (hk : k < n) : (fillTo zs n k).set k (gi zs k) = fillTo zs n (k + 1) := by
  have h1 : (zs.take k).length = k := by simp; omega
  unfold fillTo
  rw [take_gi (by omega), List.set_append_right _ _ (by omega), h1, Nat.sub_self, show n - k = (n - (k + 1)) + 1 from by omega, List.replicate_succ]
  simp
/-- the numbers k, k + 1, .., n of them -/
def marks (k : Int) (n : Nat) : List Int := (List.range n).map fun (i : Nat) => k + (i : Int)
theorem marks_len (k : Int) (n : Nat) : (marks k n).length = n := by simp [marks]
theorem marks_gi {k : Int} {n i : Nat} (h : i < n) : gi (marks k n) i = k + i := by simp [gi, marks, h]
/-- a list whose first k numbers are marked -/
def markTo (zs : List Int) (q : Int) (k : Nat) : List Int := marks q k ++ zs.drop k
theorem markTo_zero (zs : List Int) (q : Int) : markTo zs q 0 = zs := by simp [markTo, marks]
theorem markTo_all {zs : List Int} {q : Int} {n : Nat} (h : zs.length = n) : markTo zs q n = marks q n := by simp [markTo, ← h]
theorem markTo_set {zs : List Int} {q : Int} {n k : Nat} (h : zs.length = n) (hk : k < n) : (markTo zs q k).set k (q + k) = markTo zs q (k + 1) := by
  unfold markTo
  rw [List.set_append_right _ _ (by rw [marks_len]; omega), marks_len, Nat.sub_self, List.drop_eq_getElem_cons (by omega), List.set_cons_zero]
  simp [marks, List.range_succ]
/-- are two lists one -/
def eqI (xs ys : List Int) : Bool := decide (xs = ys)
theorem eqI_self (xs : List Int) : eqI xs xs = true := by simp [eqI]
theorem eqI_take {xs ys : List Int} {n : Nat} (hx : xs.length = n) (hy : ys.length = n) (h : xs.take n = ys.take n) : eqI xs ys = true := by
  rw [List.take_of_length_le (by omega), List.take_of_length_le (by omega)] at h
  simp [eqI, h]
theorem eqI_len {xs ys : List Int} (h : xs.length ≠ ys.length) : eqI xs ys = false := by
  simp only [eqI, decide_eq_false_iff_not]; intro e; exact h (by rw [e])
theorem eqI_no {xs ys : List Int} {k : Nat} (h : gi xs k ≠ gi ys k) : eqI xs ys = false := by
  simp only [eqI, decide_eq_false_iff_not]; intro e; exact h (by rw [e])
/-- a slice of the call's own is handed back -/
def RetI (T : TypeId) (w0 : World) (n : Nat) (zs : List Int) (e : Ending) (w' : World) : Prop :=
  ∃ A c, e = .returned (.slice A n c) ∧ OwnI T w' w0.heap.size A n c zs ∧ Below w0.heap.size w0 w'
/-- a slice of the call's own and a code are handed back -/
def RetIC (T : TypeId) (w0 : World) (zs : List Int) (code : Int) (e : Ending) (w' : World) : Prop :=
  ∃ A n c, e = .returned (.tuple #[.slice A n c, .int .i64 code]) ∧ OwnI T w' w0.heap.size A n c zs ∧ Below w0.heap.size w0 w'
/-- a value is handed back; nothing that was there has turned -/
def RetV (w0 : World) (v : Value) (e : Ending) (w' : World) : Prop := e = .returned v ∧ Below w0.heap.size w0 w'
end Go.Proofs.YtbaojbheopcjhaaGreatDoor

namespace Go.Proofs.YtbaojbheopcjhaaGreatDoor
open Go.RowKit

section
variable {α : Type} [Inhabited α]
/-- the i-th element -/
def ge (xs : List α) (i : Nat) : α := xs.getD i default
theorem ge_lt {xs : List α} {i : Nat} (h : i < xs.length) : ge xs i = xs[i] := by simp [ge, h]
theorem ge_some {xs : List α} {i : Nat} (h : i < xs.length) : xs[i]? = some (ge xs i) := by simp [ge, h]
theorem ge_app_lt {xs ys : List α} {i : Nat} (h : i < xs.length) : ge (xs ++ ys) i = ge xs i := by simp [ge, List.getElem?_append_left h]
theorem ge_cons_zero (x : α) (xs : List α) : ge (x :: xs) 0 = x := rfl
theorem ge_cons_succ (x : α) (xs : List α) (i : Nat) : ge (x :: xs) (i + 1) = ge xs i := by simp [ge]
theorem take_ge {xs : List α} {k : Nat} (h : k < xs.length) : xs.take (k + 1) = xs.take k ++ [ge xs k] := by
  rw [List.take_add_one, ge_some h]; rfl
theorem drop_ge {xs : List α} {k : Nat} (h : k < xs.length) : xs.drop k = ge xs k :: xs.drop (k + 1) := by
  rw [List.drop_eq_getElem_cons h, ge_lt h]
theorem ext_ge {xs ys : List α} (hl : xs.length = ys.length) (h : ∀ i, i < xs.length → ge xs i = ge ys i) : xs = ys := by
  apply List.ext_getElem hl
  intro i h1 h2
  have := h i h1
  rwa [ge_lt h1, ge_lt h2] at this
theorem mem_ge {xs : List α} {i : Nat} (h : i < xs.length) : ge xs i ∈ xs := by rw [ge_lt h]; exact List.getElem_mem h
end

theorem flat_len {α : Type} {enc : α → List Value} {sz : Nat} (hk : ∀ x, (enc x).length = sz) (xs : List α) : (xs.flatMap enc).length = xs.length * sz := by
  induction xs with
  | nil => simp
  | cons x xs ih => rw [List.flatMap_cons, List.length_append, ih, hk, List.length_cons, Nat.add_mul]; omega

theorem flat_get {α : Type} [Inhabited α] {enc : α → List Value} {sz : Nat} (hk : ∀ x, (enc x).length = sz) :
    ∀ (xs : List α) (i j : Nat), i < xs.length → j < sz → (xs.flatMap enc)[i * sz + j]? = (enc (ge xs i))[j]? := by
  intro xs
  induction xs with
  | nil => intro i j h; simp at h
  | cons x xs ih =>
    intro i j h hj
    rw [List.flatMap_cons]
    cases i with
    | zero => rw [Nat.zero_mul, Nat.zero_add, List.getElem?_append_left (by rw [hk]; exact hj)]; rfl
    | succ i =>
      rw [List.getElem?_append_right (by rw [hk, Nat.add_mul]; omega), hk, show (i + 1) * sz + j - sz = i * sz + j from by rw [Nat.add_mul]; omega, ih i j (by simpa using h) hj, ge_cons_succ]

theorem flat_set {α : Type} [Inhabited α] {enc : α → List Value} {sz : Nat} (hk : ∀ x, (enc x).length = sz) :
    ∀ (xs : List α) (i j : Nat) (u : Value) (x' : α), i < xs.length → j < sz → enc x' = (enc (ge xs i)).set j u → (xs.flatMap enc).set (i * sz + j) u = (xs.set i x').flatMap enc := by
  intro xs
  induction xs with
  | nil => intro i j _ _ h; simp at h
  | cons x xs ih =>
    intro i j u x' h hj he
    rw [List.flatMap_cons]
    cases i with
    | zero =>
      rw [Nat.zero_mul, Nat.zero_add, List.set_append_left _ _ (by rw [hk]; exact hj), List.set_cons_zero, List.flatMap_cons, he]; rfl
    | succ i =>
      rw [List.set_append_right _ _ (by rw [hk, Nat.add_mul]; omega), hk, show (i + 1) * sz + j - sz = i * sz + j from by rw [Nat.add_mul]; omega, ih i j u x' (by simpa using h) hj (by rw [he, ge_cons_succ]), List.set_cons_succ, List.flatMap_cons]

section
variable {α : Type} {enc : α → List Value} {sz : Nat} {w w' : World} {T : TypeId} {base n c : Nat} {A : Option Addr} {xs : List α}
/-- a row that the call itself has made, from block 'base' on -/
def OwnE (enc : α → List Value) (sz : Nat) (T : TypeId) (w : World) (base : Nat) (A : Option Addr) (n c : Nat) (xs : List α) : Prop :=
  xs.length = n ∧ w.ownsRow base T sz (.slice A n c) n (xs.flatMap enc)
theorem OwnE.len (h : OwnE enc sz T w base A n c xs) : xs.length = n := h.1
theorem OwnE.nil (enc : α → List Value) (sz : Nat) (T : TypeId) (w : World) (base : Nat) : OwnE enc sz T w base none 0 0 ([] : List α) := ⟨rfl, World.ownsRow_nil w base T sz⟩
theorem OwnE.form (h : OwnE enc sz T w base A n c xs) (hn : 0 < n) : ∃ g, A = some ⟨g, 0, none⟩ ∧ base ≤ g ∧ g < w.heap.size := by
  rcases h.2.2 with ⟨h1, h2⟩ | ⟨g, cap, cur, hv, hb, hh, _⟩
  · omega
  · injection hv with h1
    exact ⟨g, h1, hb, (Array.getElem?_eq_some_iff.1 hh).1⟩
theorem OwnE.row (h : OwnE enc sz T w base A n c xs) : ∀ g, (Value.slice A n c).ownBlock = some g → base ≤ g ∧ g < w.heap.size := World.ownsRow.lt h.2
theorem OwnE.frozen {g : Nat} (h : OwnE enc sz T w base (some ⟨g, 0, none⟩) n c xs) (j : Nat) : w.frozen? ⟨g, j, none⟩ = false := World.ownsRow.frozenAt h.2 j
theorem OwnE.kept {row : Option Nat} (h : OwnE enc sz T w base A n c xs) (hg : w.grownBy w' row) (hne : (Value.slice A n c).ownBlock = none ∨ (Value.slice A n c).ownBlock ≠ row) : OwnE enc sz T w' base A n c xs :=
  ⟨h.1, World.ownsRow.kept h.2 hg hne⟩
theorem OwnE.below (h : OwnE enc sz T w base A n c xs) (hb : Below w.heap.size w w') : OwnE enc sz T w' base A n c xs :=
  h.kept (row := none) ⟨hb.os, hb.tape, hb.output, hb.size, fun k hk _ => hb.block k hk⟩ (by cases hv : (Value.slice A n c).ownBlock <;> simp)
theorem OwnE.alloc (h : OwnE enc sz T w base A n c xs) (o : Obj) : OwnE enc sz T (w.alloc o) base A n c xs := ⟨h.1, World.ownsRow.alloc h.2 o⟩
theorem OwnE.drewN (h : OwnE enc sz T w base A n c xs) (k : Nat) : OwnE enc sz T (w.drewN k) base A n c xs := h
theorem OwnE.weaken {base' : Nat} (h : OwnE enc sz T w base A n c xs) (hb : base' ≤ base) : OwnE enc sz T w base' A n c xs := by
  refine ⟨h.1, h.2.1, ?_⟩
  rcases h.2.2 with h1 | ⟨g, cap, cur, hv, hb', r⟩
  · exact .inl h1
  · exact .inr ⟨g, cap, cur, hv, Nat.le_trans hb hb', r⟩
end

section
variable {α : Type} [Inhabited α]
/-- the slice value '.slice A n c' reads as xs, below block B -/
def RE (enc : α → List Value) (sz : Nat) (w : World) (B : Nat) (A : Option Addr) (n : Nat) (xs : List α) : Prop :=
  xs.length = n ∧ (0 < n → ∃ b o, A = some ⟨b, o, none⟩ ∧ b < B ∧ ∀ i, i < n → ∀ j u, (enc (ge xs i))[j]? = some u → w.cell? ⟨b, o + i * sz + j, none⟩ = some u)

variable {enc : α → List Value} {sz : Nat} {w w' : World} {B B' n : Nat} {A : Option Addr} {xs : List α}
theorem RE.len (h : RE enc sz w B A n xs) : xs.length = n := h.1
theorem RE.get (h : RE enc sz w B A n xs) (hn : 0 < n) :
    ∃ b o, A = some ⟨b, o, none⟩ ∧ b < B ∧ ∀ i, i < n → ∀ j u, (enc (ge xs i))[j]? = some u → w.cell? ⟨b, o + i * sz + j, none⟩ = some u := h.2 hn
theorem RE.nil (enc : α → List Value) (sz : Nat) (w : World) (B : Nat) (A : Option Addr) : RE enc sz w B A 0 ([] : List α) := ⟨rfl, fun h => absurd h (by omega)⟩
theorem RE.below (h : RE enc sz w B A n xs) (hb : Below B' w w') (hB : B ≤ B') : RE enc sz w' B A n xs :=
  ⟨h.1, fun hn => let ⟨b, o, e, hlt, hc⟩ := h.2 hn; ⟨b, o, e, hlt, fun i hi j u hu => (hb.cell (p := ⟨b, o + i * sz + j, none⟩) (Nat.lt_of_lt_of_le hlt hB)).trans (hc i hi j u hu)⟩⟩
theorem RE.more (h : RE enc sz w B A n xs) (hB : B ≤ B') : RE enc sz w B' A n xs :=
  ⟨h.1, fun hn => let ⟨b, o, e, hlt, hc⟩ := h.2 hn; ⟨b, o, e, Nat.lt_of_lt_of_le hlt hB, hc⟩⟩
theorem RE.up (h : RE enc sz w w.heap.size A n xs) (hb : Below w.heap.size w w') : RE enc sz w' w'.heap.size A n xs :=
  (h.below hb (Nat.le_refl _)).more hb.size
theorem RE.drewN (h : RE enc sz w B A n xs) (k : Nat) : RE enc sz (w.drewN k) B A n xs := h

variable {T : TypeId} {base c : Nat}
theorem OwnE.cell {g : Nat} (hk : ∀ x, (enc x).length = sz) (h : OwnE enc sz T w base (some ⟨g, 0, none⟩) n c xs) {i j : Nat} (hi : i < n) (hj : j < sz) :
    w.cell? ⟨g, i * sz + j, none⟩ = (enc (ge xs i))[j]? := by
  have hlt : i * sz + j < n * sz := by
    have : (i + 1) * sz ≤ n * sz := Nat.mul_le_mul_right _ hi
    rw [Nat.add_mul] at this; omega
  rw [World.ownsRow.cellAt h.2 _ hlt, flat_get hk xs i j (by rw [h.1]; exact hi) hj]
theorem OwnE.reads (hk : ∀ x, (enc x).length = sz) (h : OwnE enc sz T w base A n c xs) : RE enc sz w w.heap.size A n xs := by
  refine ⟨h.len, fun hn => ?_⟩
  obtain ⟨g, rfl, _, hg⟩ := h.form hn
  refine ⟨g, 0, rfl, hg, fun i hi j u hu => ?_⟩
  have hj : j < sz := by
    rcases Nat.lt_or_ge j (enc (ge xs i)).length with hh | hh
    · rwa [hk] at hh
    · rw [List.getElem?_eq_none hh] at hu; cases hu
  rw [Nat.zero_add, h.cell hk hi hj, hu]
theorem OwnE.stored {g : Nat} (hk : ∀ x, (enc x).length = sz) (h : OwnE enc sz T w base (some ⟨g, 0, none⟩) n c xs) (i j : Nat) (u : Value) (x' : α) (hi : i < n) (hj : j < sz) (he : enc x' = (enc (ge xs i)).set j u) :
    OwnE enc sz T (w.setCell ⟨g, i * sz + j, none⟩ u) base (some ⟨g, 0, none⟩) n c (xs.set i x') ∧ w.grownBy (w.setCell ⟨g, i * sz + j, none⟩ u) (some g) := by
  have := World.ownsRow.stored h.2 (i * sz + j) u
  rw [flat_set hk xs i j u x' (by rw [h.1]; exact hi) hj he] at this
  exact ⟨⟨by rw [List.length_set]; exact h.1, this.1⟩, this.2⟩
end

theorem flat_rep {α : Type} {enc : α → List Value} {sz : Nat} {x0 : α} (hke : (enc x0).length = sz) {r : Nat} (hr : r < sz) :
    ∀ (k q : Nat), q < k → ((List.replicate k x0).flatMap enc)[q * sz + r]? = (enc x0)[r]? := by
  intro k
  induction k with
  | zero => intro q hq; omega
  | succ k ih =>
    intro q hq
    rw [List.replicate_succ, List.flatMap_cons]
    cases q with
    | zero => rw [Nat.zero_mul, Nat.zero_add, List.getElem?_append_left (by rw [hke]; exact hr)]
    | succ q => rw [List.getElem?_append_right (by rw [hke, Nat.add_mul]; omega), hke, show (q + 1) * sz + r - sz = q * sz + r from by rw [Nat.add_mul]; omega]; exact ih q (by omega)
theorem flat_rep_len {α : Type} {enc : α → List Value} {sz : Nat} {x0 : α} (hke : (enc x0).length = sz) (k : Nat) : ((List.replicate k x0).flatMap enc).length = k * sz := by
  induction k with
  | zero => simp
  | succ k ih => rw [List.replicate_succ, List.flatMap_cons, List.length_append, hke, ih, Nat.add_mul]; omega
theorem made_flat {α : Type} (enc : α → List Value) (sz : Nat) (x0 : α) (z : Value) (hzs : enc x0 = z.cells.toList) (hsz : z.cells.size = sz) (hsz0 : 0 < sz) (n : Nat) :
    (madeCells z.cells (n * sz)).toList = (List.replicate n x0).flatMap enc := by
  have hke : (enc x0).length = sz := by rw [hzs]; simpa using hsz
  apply List.ext_getElem?
  intro m
  rcases Nat.lt_or_ge m (n * sz) with hm | hm
  · obtain ⟨q, r, rfl, hr⟩ : ∃ q r, m = q * sz + r ∧ r < sz := ⟨m / sz, m % sz, by rw [Nat.mul_comm]; exact (Nat.div_add_mod m sz).symm, Nat.mod_lt _ hsz0⟩
    have hq : q < n := by
      rcases Nat.lt_or_ge q n with hh | hh
      · exact hh
      · have := Nat.mul_le_mul_right sz hh; omega
    rw [flat_rep hke hr n q hq, hzs]
    have hmod : (q * sz + r) % z.cells.size = r := by rw [hsz, Nat.add_comm, Nat.add_mul_mod_self_right, Nat.mod_eq_of_lt hr]
    have hr' : r < z.cells.size := by omega
    have h2 : (Array.range (n * sz))[q * sz + r]? = some (q * sz + r) := by simp [hm]
    simp only [madeCells, Array.getElem?_toList, Array.getElem?_map, h2, Option.map_some, hmod, getElem!_pos, hr', Array.getElem?_eq_getElem]
  · rw [List.getElem?_eq_none (by simpa [madeCells] using hm), List.getElem?_eq_none (by rw [flat_rep_len hke]; exact hm)]

section
variable {P : Program} {ops : Array Oper} {rest : List Oper} {o : Oper} {a : Act} {Q : Exit → Act → World → Prop} {α : Type}
/-- 'out = append(out, y)' on a row of the call's own -/
theorem wpl_app1E (enc : α → List Value) (sz : Nat) (hk : ∀ x, (enc x).length = sz) (h1c : ∀ x, ∀ u ∈ enc x, u.oneCell' = true) (W : World) {TS T : TypeId} {z : Value} {bytes : Nat}
    (ht : P.underlying TS = some (.slice T)) (hinfo : (P.info? T).map (fun i => (i.zero, i.size, i.bytes)) = some (some z, sz, bytes)) (hzs : z.cells.size = sz) (hsz : 0 < sz) (hby : bytes ≤ 128)
    (hgd : o.guard = none) (s x : Operand) (ho : o.op = .call { callee := .builtin .append, args := #[s, x], argTypes := #[TS, TS] })
    (base : Nat) (A : Option Addr) (n c : Nat) (xs : List α) (hs : a.eval s = .slice A n c) (hown : OwnE enc sz T W base A n c xs)
    (ad : Addr) (c' : Nat) (y : α) (hx : a.eval x = .slice (some ad) 1 c') (hcell : ∀ j u, (enc y)[j]? = some u → W.cell? (ad.add j) = some u)
    (hn : n + 1 ≤ 1099511627776) (hbase : base ≤ W.heap.size)
    (h : ∀ A' c' w', OwnE enc sz T w' base A' (n + 1) c' (xs ++ [y]) → W.grownBy w' (Value.slice A n c).ownBlock → wpList P ops Q rest (a.put o.dst (.slice A' (n + 1) c')) w') :
    wpList P ops Q (o :: rest) a W := by
  obtain ⟨i, hi, hz, hs1, hb1⟩ := info_split hinfo
  refine wpList_append_own W hgd s x TS ho base T i z sz bytes ht hi hz hs1 hb1 hzs hsz (.slice A n c) n _ hs hown.2 ad 1 c' (enc y) hx (by rw [hk, Nat.one_mul]) hcell (h1c y) ?_ ?_ hbase ?_
  · simp only [maxLen]; omega
  · have : (n + 1) * bytes ≤ (n + 1) * 128 := Nat.mul_le_mul_left _ hby
    omega
  · intro v' w' hown' hg _
    rcases hown'.2 with ⟨h1, h2⟩ | ⟨g, cap, cur, hv, hrest⟩
    · omega
    · subst hv
      exact h _ _ _ ⟨by rw [List.length_append, hown.1]; rfl, by rw [List.flatMap_append, List.flatMap_singleton]; exact hown'⟩ hg
/-- 'make([]T, n)' -/
theorem wpl_makeE (enc : α → List Value) (sz : Nat) (W : World) {TS T : TypeId} {z : Value} {bytes : Nat} (x0 : α)
    (ht : P.underlying TS = some (.slice T)) (hinfo : (P.info? T).map (fun i => (i.zero, i.size, i.bytes)) = some (some z, sz, bytes)) (hzs : enc x0 = z.cells.toList) (hsz : z.cells.size = sz) (hsz0 : 0 < sz) (hby : bytes ≤ 128)
    (hgd : o.guard = none) (l c : Operand) (hop : o.op = Op.makeSlice TS l c) (n : Nat) (hl : a.eval l = .int .i64 n) (hc : a.eval c = .int .i64 n) (hn : n ≤ 1099511627776)
    (h : ∀ w', OwnE enc sz T w' W.heap.size (some ⟨W.heap.size, 0, none⟩) n n (List.replicate n x0) → W.grownBy w' none → wpList P ops Q rest (a.put o.dst (.slice (some ⟨W.heap.size, 0, none⟩) n n)) w') :
    wpList P ops Q (o :: rest) a W := by
  obtain ⟨i, hi, hz, hs1, hb1⟩ := info_split hinfo
  refine wpList_make_full W hgd l c TS hop W.heap.size T i z sz ht hi hz hs1 .i64 .i64 n n n hl hc rfl rfl ?_ (by simp only [maxLen]; omega) (Nat.le_refl _) ?_
  · rw [hb1]
    have : bytes * n ≤ 128 * n := Nat.mul_le_mul_right _ hby
    omega
  · intro w' hown hg
    refine h w' ⟨by simp, ?_⟩ hg
    have := made_flat enc sz x0 z hzs hsz hsz0 n
    rw [← this]; exact hown
end

/-- what lay in memory reads as it did: two rules for the walk -/
theorem bcell {W w1 : World} (hb : Below W.heap.size W w1) : (∀ b o, b < W.heap.size → w1.cell? ⟨b, o, none⟩ = W.cell? ⟨b, o, none⟩) ∧ (∀ b o, b < W.heap.size → w1.frozen? ⟨b, o, none⟩ = W.frozen? ⟨b, o, none⟩) :=
  ⟨fun b o h => hb.cell (p := ⟨b, o, none⟩) h, fun b o h => hb.frozen (p := ⟨b, o, none⟩) h⟩
/-- 'Below' over two calls: what the first left is the second's start -/
theorem below_then {W w1 w2 : World} {B : Nat} (hb : Below B W w1) (hc : Below w1.heap.size w1 w2) (hB : B ≤ w1.heap.size) : Below B W w2 := hb.trans (hc.mono hB)
theorem isz_alloc (w : World) (o : Obj) : (w.alloc o).heap.size = w.heap.size + 1 := by simp

/-- a fault -/
structure Flt where
  kd : Int
  pos : Int
  len : Int
  val : Int
instance : Inhabited Flt := ⟨⟨0, 0, 0, 0⟩⟩
def encF (f : Flt) : List Value := [.int .i64 f.kd, .int .i64 f.pos, .int .i64 f.len, .int .i64 f.val]
theorem encF_len (f : Flt) : (encF f).length = 4 := rfl
theorem encF_one (f : Flt) : ∀ u ∈ encF f, u.oneCell' = true := by
  intro u hu
  simp only [encF, List.mem_cons, List.not_mem_nil, or_false] at hu
  rcases hu with rfl | rfl | rfl | rfl <;> rfl
end Go.Proofs.YtbaojbheopcjhaaGreatDoor

namespace Go.Proofs.YtbaojbheopcjhaaGreatDoor
open Go.RowKit
/-- one call more -/
theorem below_next {B : Nat} {W w1 w2 : World} (h2 : Below w1.heap.size w1 w2) (h : Below B W w1) (hB : B ≤ W.heap.size) : Below B W w2 := h.trans (h2.mono (Nat.le_trans hB h.size))
theorem below_next_drew {B : Nat} {W w1 w2 : World} (h2 : Below w1.heap.size w1.drew w2) (h : Below B W w1) (hB : B ≤ W.heap.size) : Below B W w2 := below_next (w1 := w1.drew) h2 h.drew hB
theorem RI.next {w1 w2 : World} {A : Option Addr} {n : Nat} {zs : List Int} (h2 : Below w1.heap.size w1 w2) (h : RI w1 w1.heap.size A n zs) : RI w2 w2.heap.size A n zs := h.up h2
theorem RI.next_drew {w1 w2 : World} {A : Option Addr} {n : Nat} {zs : List Int} (h2 : Below w1.heap.size w1.drew w2) (h : RI w1 w1.heap.size A n zs) : RI w2 w2.heap.size A n zs := RI.next (w1 := w1.drew) h2 h
theorem RI.alloc' {w : World} {A : Option Addr} {n : Nat} {zs : List Int} (h : RI w w.heap.size A n zs) (o : Obj) : RI (w.alloc o) (w.alloc o).heap.size A n zs := h.up ((Below.refl _ _).alloc (Nat.le_refl _) _)
theorem below_alloc {B : Nat} {W w : World} (h : Below B W w) (hB : B ≤ W.heap.size) (o : Obj) : Below B W (w.alloc o) := h.alloc (Nat.le_trans hB h.size) o
theorem RI.set' {w : World} {A : Option Addr} {n : Nat} {zs : List Int} {B : Nat} (h : RI w B A n zs) {p : Addr} (hp : B ≤ p.block) (v : Value) : RI (w.setCell p v) B A n zs :=
  h.below ((Below.refl B w).setCell hp v) (Nat.le_refl _)
end Go.Proofs.YtbaojbheopcjhaaGreatDoor

namespace Go.Proofs.YtbaojbheopcjhaaGreatDoor
open Go.RowKit

/-- a slice of elements of the call's own is handed back -/
def RetE {α : Type} (enc : α → List Value) (sz : Nat) (T : TypeId) (w0 : World) (n : Nat) (zs : List α) (e : Ending) (w' : World) : Prop :=
  ∃ A c, e = .returned (.slice A n c) ∧ OwnE enc sz T w' w0.heap.size A n c zs ∧ Below w0.heap.size w0 w'
/-- the same with a code -/
def RetEC {α : Type} (enc : α → List Value) (sz : Nat) (T : TypeId) (w0 : World) (zs : List α) (code : Int) (e : Ending) (w' : World) : Prop :=
  ∃ A n c, e = .returned (.tuple #[.slice A n c, .int .i64 code]) ∧ OwnE enc sz T w' w0.heap.size A n c zs ∧ Below w0.heap.size w0 w'

theorem apartI_lo {A1 : Option Addr} {n1 c1 B1 E1 B2 E2 : Nat} {ro : Option Nat} (r1 : ∀ g, (Value.slice A1 n1 c1).ownBlock = some g → B1 ≤ g ∧ g < E1) (r2 : ∀ g, ro = some g → B2 ≤ g ∧ g < E2) (h : E1 ≤ B2) :
    ∀ g o, A1 = some ⟨g, o, none⟩ → some g ≠ ro := by
  intro g o e hro
  subst e
  have a := r1 g rfl
  have b := r2 g hro.symm
  omega
theorem apartI_hi {A1 : Option Addr} {n1 c1 B1 E1 B2 E2 : Nat} {ro : Option Nat} (r1 : ∀ g, (Value.slice A1 n1 c1).ownBlock = some g → B1 ≤ g ∧ g < E1) (r2 : ∀ g, ro = some g → B2 ≤ g ∧ g < E2) (h : E2 ≤ B1) :
    ∀ g o, A1 = some ⟨g, o, none⟩ → some g ≠ ro := by
  intro g o e hro
  subst e
  have a := r1 g rfl
  have b := r2 g hro.symm
  omega
theorem apartE_lo {o1 : Option Nat} {B1 E1 B2 E2 : Nat} {ro : Option Nat} (r1 : ∀ g, o1 = some g → B1 ≤ g ∧ g < E1) (r2 : ∀ g, ro = some g → B2 ≤ g ∧ g < E2) (h : E1 ≤ B2) :
    o1 = none ∨ o1 ≠ ro := by
  rcases o1 with _ | g
  · exact .inl rfl
  · refine .inr fun e => ?_
    have a := r1 g rfl
    have b := r2 g e.symm
    omega
theorem apartE_hi {o1 : Option Nat} {B1 E1 B2 E2 : Nat} {ro : Option Nat} (r1 : ∀ g, o1 = some g → B1 ≤ g ∧ g < E1) (r2 : ∀ g, ro = some g → B2 ≤ g ∧ g < E2) (h : E2 ≤ B1) :
    o1 = none ∨ o1 ≠ ro := by
  rcases o1 with _ | g
  · exact .inl rfl
  · refine .inr fun e => ?_
    have a := r1 g rfl
    have b := r2 g e.symm
    omega

/-- a marked fault; faults marked from k on -/
def mkF (k : Int) : Flt := ⟨k, k + 1, k + 1 + 1, k + 1 + 1 + 1⟩
def marksF (k : Int) (n : Nat) : List Flt := (List.range n).map fun (i : Nat) => mkF (k + 4 * (i : Int))
theorem marksF_len (k : Int) (n : Nat) : (marksF k n).length = n := by simp [marksF]
theorem marksF_ge {k : Int} {n i : Nat} (h : i < n) : ge (marksF k n) i = mkF (k + 4 * i) := by simp [ge, marksF, h]
def markToF (zs : List Flt) (q : Int) (k : Nat) : List Flt := marksF q k ++ zs.drop k
theorem markToF_zero (zs : List Flt) (q : Int) : markToF zs q 0 = zs := by simp [markToF, marksF]
theorem markToF_all {zs : List Flt} {q : Int} {n : Nat} (h : zs.length = n) : markToF zs q n = marksF q n := by simp [markToF, ← h]
theorem markToF_len {zs : List Flt} {q : Int} {n k : Nat} (h : zs.length = n) (hk : k ≤ n) : (markToF zs q k).length = n := by
  simp [markToF, marksF]; omega
theorem markToF_set {zs : List Flt} {q : Int} {n k : Nat} (h : zs.length = n) (hk : k < n) : (markToF zs q k).set k (mkF (q + 4 * k)) = markToF zs q (k + 1) := by
  unfold markToF
  rw [List.set_append_right _ _ (by rw [marksF_len]; omega), marksF_len, Nat.sub_self, List.drop_eq_getElem_cons (by omega), List.set_cons_zero]
  simp [marksF, List.range_succ]
/-- a copy of elements that has come to k -/
def fillToE {α : Type} (x0 : α) (zs : List α) (n k : Nat) : List α := zs.take k ++ List.replicate (n - k) x0
theorem fillToE_zero {α : Type} (x0 : α) (zs : List α) (n : Nat) : fillToE x0 zs n 0 = List.replicate n x0 := by simp [fillToE]
theorem fillToE_all {α : Type} {x0 : α} {zs : List α} {n : Nat} (h : zs.length = n) : fillToE x0 zs n n = zs := by simp [fillToE, ← h]
theorem fillToE_set {α : Type} [Inhabited α] {x0 : α} {zs : List α} {n k : Nat} (h : zs.length = n) (hk : k < n) : (fillToE x0 zs n k).set k (ge zs k) = fillToE x0 zs n (k + 1) := by
  have h1 : (zs.take k).length = k := by simp; omega
  unfold fillToE
  rw [take_ge (by omega), List.set_append_right _ _ (by omega), h1, Nat.sub_self, show n - k = (n - (k + 1)) + 1 from by omega, List.replicate_succ]
  simp
theorem fillToE_ge {α : Type} [Inhabited α] {x0 : α} {zs : List α} {n k : Nat} (h : zs.length = n) (hk : k < n) : ge (fillToE x0 zs n k) k = x0 := by
  have h1 : (zs.take k).length = k := by simp; omega
  unfold ge fillToE
  rw [List.getD_eq_getElem?_getD, List.getElem?_append_right (by omega), h1, Nat.sub_self, show n - k = (n - (k + 1)) + 1 from by omega, List.replicate_succ]
  rfl
theorem ge_set_self {α : Type} [Inhabited α] {zs : List α} {k : Nat} (h : k < zs.length) (x : α) : ge (zs.set k x) k = x := by simp [ge, h]
end Go.Proofs.YtbaojbheopcjhaaGreatDoor

namespace Go.Proofs.YtbaojbheopcjhaaGreatDoor
open Go.RowKit

/-- a callee that leaves the world, in a region that draws -/
theorem quiet_same {P : Program} {f : FuncId} {args : Array Value} {w : World} {n : Nat} {v : Value}
    (h : Calls P f args (w.drewN n) fun e w' => e = .returned v ∧ w.drewN n = w') : Calls P f args (w.drewN n) fun e w'' => e = .returned v ∧ ∃ m, w'' = w.drewN m :=
  h.mono fun _ _ ⟨he, hm⟩ => ⟨he, n, hm.symm⟩
/-- a new row without elements -/
theorem new_heap (w : World) (o : Obj) : (w.alloc o).heap[w.heap.size]? = some o := by
  show (w.heap.push _)[w.heap.size]? = _
  simp
theorem OwnI.empty {T : TypeId} (w : World) {base : Nat} (hb : base ≤ w.heap.size) : OwnI T (w.alloc (.cells #[] T)) base (some ⟨w.heap.size, 0, none⟩) 0 0 [] :=
  ⟨rfl, .inr ⟨w.heap.size, 0, #[], rfl, hb, new_heap w _, Nat.le_refl _, Nat.zero_le _, rfl, rfl⟩⟩
theorem OwnE.empty {α : Type} {enc : α → List Value} {sz : Nat} {T : TypeId} (w : World) {base : Nat} (hb : base ≤ w.heap.size) : OwnE enc sz T (w.alloc (.cells #[] T)) base (some ⟨w.heap.size, 0, none⟩) 0 0 [] :=
  ⟨rfl, by simp, .inr ⟨w.heap.size, 0, #[], rfl, hb, new_heap w _, Nat.le_refl _, Nat.zero_le _, by simp, by simp⟩⟩
/-- block g is three cells -/
def Blk3 (w : World) (g : Nat) (t : TypeId) (u0 u1 u2 : Value) : Prop := w.heap[g]? = some (.cells #[u0, u1, u2] t (0, 0))
section
variable {w w' : World} {g : Nat} {t : TypeId} {u0 u1 u2 : Value}
theorem Blk3.lt (h : Blk3 w g t u0 u1 u2) : g < w.heap.size := lt_of_block h
theorem Blk3.c0 (h : Blk3 w g t u0 u1 u2) : w.cell? ⟨g, 0, none⟩ = some u0 := by unfold Blk3 at h; simp [World.cell?, h]
theorem Blk3.c1 (h : Blk3 w g t u0 u1 u2) : w.cell? ⟨g, 1, none⟩ = some u1 := by unfold Blk3 at h; simp [World.cell?, h]
theorem Blk3.c2 (h : Blk3 w g t u0 u1 u2) : w.cell? ⟨g, 2, none⟩ = some u2 := by unfold Blk3 at h; simp [World.cell?, h]
theorem Blk3.free (h : Blk3 w g t u0 u1 u2) (j : Nat) : w.frozen? ⟨g, j, none⟩ = false := by unfold Blk3 at h; simp [World.frozen?, h]
theorem Blk3.set (h : Blk3 w g t u0 u1 u2) (j : Nat) (u : Value) : (w.setCell ⟨g, j, none⟩ u).heap[g]? = some (.cells (#[u0, u1, u2].setIfInBounds j u) t (0, 0)) := by
  have hlt := lt_of_block h
  unfold Blk3 at h
  have h' : w.heap[g] = .cells #[u0, u1, u2] t (0, 0) := by simpa [Array.getElem?_eq_getElem hlt] using h
  show (w.heap.modify g _)[g]? = _
  rw [Array.getElem?_eq_getElem (by simpa using hlt), Array.getElem_modify_self, h']
  rfl
theorem Blk3.set1 (h : Blk3 w g t u0 u1 u2) (u : Value) : Blk3 (w.setCell ⟨g, 1, none⟩ u) g t u0 u u2 := h.set 1 u
theorem Blk3.set2 (h : Blk3 w g t u0 u1 u2) (u : Value) : Blk3 (w.setCell ⟨g, 2, none⟩ u) g t u0 u1 u := h.set 2 u
theorem Blk3.below {B : Nat} (h : Blk3 w g t u0 u1 u2) (hb : Below B w w') (hg : g < B) : Blk3 w' g t u0 u1 u2 := (hb.block g hg).trans h
theorem Blk3.kept {ro : Option Nat} (h : Blk3 w g t u0 u1 u2) (hg : w.grownBy w' ro) (hne : some g ≠ ro) : Blk3 w' g t u0 u1 u2 := (hg.block g h.lt hne).trans h
theorem Blk3.alloc (h : Blk3 w g t u0 u1 u2) (o : Obj) : Blk3 (w.alloc o) g t u0 u1 u2 := h.below ((Below.refl w.heap.size w).alloc (Nat.le_refl _) o) h.lt
theorem Blk3.drewN (h : Blk3 w g t u0 u1 u2) (k : Nat) : Blk3 (w.drewN k) g t u0 u1 u2 := h
theorem Blk3.new (w : World) (t : TypeId) (u0 u1 u2 : Value) : Blk3 (w.alloc (.cells #[u0, u1, u2] t)) w.heap.size t u0 u1 u2 := by
  unfold Blk3
  show (w.heap.push _)[w.heap.size]? = _
  simp
end

section
variable {P : Program} {ops : Array Oper} {rest : List Oper} {o : Oper} {a : Act} {Q : Exit → Act → World → Prop}
/-- 'out = append(out, y)' on a row of the call's own, y in a block that has just been made -/
theorem wpl_appI (W : World) (t1 : TypeId) {TS T : TypeId} (ht : P.underlying TS = some (.slice T)) (hinfo : (P.info? T).map (fun i => (i.zero, i.size, i.bytes)) = some (some (.int .i64 0), 1, 8))
    (hgd : o.guard = none) (s x : Operand) (ho : o.op = .call { callee := .builtin .append, args := #[s, x], argTypes := #[TS, TS] })
    (base : Nat) (A : Option Addr) (n c : Nat) (zs : List Int) (hs : a.eval s = .slice A n c) (hown : OwnI T W base A n c zs)
    (y : Int) (hx : a.eval x = .slice (some ⟨W.heap.size, 0, none⟩) 1 1)
    (hn : n + 1 ≤ 1099511627776) (hbase : base ≤ W.heap.size)
    (h : ∀ A' c' w', OwnI T w' base A' (n + 1) c' (zs ++ [y]) → (∀ B, B ≤ base → Below B W w') → W.grownBy w' (Value.slice A n c).ownBlock → wpList P ops Q rest (a.put o.dst (.slice A' (n + 1) c')) w') :
    wpList P ops Q (o :: rest) a (W.alloc (.cells #[.int .i64 y] t1)) := by
  refine wpl_app1 _ ht hinfo hgd s x ho base A n c zs hs (hown.alloc _) ⟨W.heap.size, 0, none⟩ 1 y hx ?_ hn (by rw [isz_alloc]; omega) ?_
  · have hx' : (W.alloc (.cells #[.int .i64 y] t1)).heap[W.heap.size]? = some (.cells #[.int .i64 y] t1) := by
      show (W.heap.push _)[W.heap.size]? = _
      simp
    unfold World.cell?
    rw [hx']
    rfl
  · intro A' c' w' hown' hg
    refine h A' c' w' hown' (fun B hB => ?_) (grown_tr (World.grownBy_alloc W _ _) hg)
    exact ((Below.refl B W).alloc (Nat.le_trans hB hbase) _).grown hg (by rw [isz_alloc]; omega) (fun g e => Nat.le_trans hB (own_row hown g e).1)
end
end Go.Proofs.YtbaojbheopcjhaaGreatDoor

namespace Go.Proofs.YtbaojbheopcjhaaGreatDoor
open Go.RowKit
section
variable {P : Program} {ops : Array Oper} {rest : List Oper} {o : Oper} {a : Act} {Q : Exit → Act → World → Prop}
/-- 'out = append(out, y)' on a row of faults of the call's own, y in a block that has just been made -/
theorem wpl_appF (W : World) (t1 : TypeId) {TS T : TypeId} (ht : P.underlying TS = some (.slice T)) (hinfo : (P.info? T).map (fun i => (i.zero, i.size, i.bytes)) = some (some (.agg #[.int .i64 0, .int .i64 0, .int .i64 0, .int .i64 0]), 4, 32))
    (hgd : o.guard = none) (s x : Operand) (ho : o.op = .call { callee := .builtin .append, args := #[s, x], argTypes := #[TS, TS] })
    (base : Nat) (A : Option Addr) (n c : Nat) (zs : List Flt) (hs : a.eval s = .slice A n c) (hown : OwnE encF 4 T W base A n c zs)
    (y : Flt) (hx : a.eval x = .slice (some ⟨W.heap.size, 0, none⟩) 1 1)
    (hn : n + 1 ≤ 1099511627776) (hbase : base ≤ W.heap.size)
    (h : ∀ A' c' w', OwnE encF 4 T w' base A' (n + 1) c' (zs ++ [y]) → (∀ B, B ≤ base → Below B W w') → W.grownBy w' (Value.slice A n c).ownBlock → wpList P ops Q rest (a.put o.dst (.slice A' (n + 1) c')) w') :
    wpList P ops Q (o :: rest) a (W.alloc (.cells #[.int .i64 y.kd, .int .i64 y.pos, .int .i64 y.len, .int .i64 y.val] t1)) := by
  refine wpl_app1E encF 4 encF_len encF_one _ ht hinfo rfl (by omega) (by omega) hgd s x ho base A n c zs hs (hown.alloc _) ⟨W.heap.size, 0, none⟩ 1 y hx ?_ hn (by rw [isz_alloc]; omega) ?_
  · intro j u hu
    have hj : j = 0 ∨ j = 1 ∨ j = 2 ∨ j = 3 := by
      rcases j with _ | _ | _ | _ | j
      · exact .inl rfl
      · exact .inr (.inl rfl)
      · exact .inr (.inr (.inl rfl))
      · exact .inr (.inr (.inr rfl))
      · simp [encF] at hu
    have hx' := new_heap W (.cells #[.int .i64 y.kd, .int .i64 y.pos, .int .i64 y.len, .int .i64 y.val] t1)
    rw [Go.WideShapes.add_plain, Nat.zero_add]
    unfold World.cell?
    rw [hx']
    rcases hj with rfl | rfl | rfl | rfl <;> exact hu
  · intro A' c' w' hown' hg
    refine h A' c' w' hown' (fun B hB => ?_) (grown_tr (World.grownBy_alloc W _ _) hg)
    exact ((Below.refl B W).alloc (Nat.le_trans hB hbase) _).grown hg (by rw [isz_alloc]; omega) (fun g e => Nat.le_trans hB (hown.row g e).1)
end
end Go.Proofs.YtbaojbheopcjhaaGreatDoor

namespace Go.Proofs.YtbaojbheopcjhaaGreatDoor
open Go.RowKit
theorem OwnI.other {T : TypeId} {w : World} {base n c : Nat} {A : Option Addr} {zs : List Int} (h : OwnI T w base A n c zs) {p : Addr} (hp : p.block < base) (v : Value) : OwnI T (w.setCell p v) base A n c zs :=
  ownsRow_setCell_other h (fun e => by have := (own_row h _ e).1; omega) v
theorem OwnE.other {α : Type} {enc : α → List Value} {sz : Nat} {T : TypeId} {w : World} {base n c : Nat} {A : Option Addr} {zs : List α} (h : OwnE enc sz T w base A n c zs) {p : Addr} (hp : p.block < base) (v : Value) : OwnE enc sz T (w.setCell p v) base A n c zs :=
  ⟨h.1, ownsRow_setCell_other h.2 (fun e => by have := (h.row _ e).1; omega) v⟩
end Go.Proofs.YtbaojbheopcjhaaGreatDoor

namespace Go.Proofs.YtbaojbheopcjhaaGreatDoor
open Go.RowKit
section
variable {P : Program} {ops : Array Oper} {rest : List Oper} {o : Oper} {a : Act} {Q : Exit → Act → World → Prop}
/-- 'out = append(out, ys...)' on a row of the call's own -/
theorem wpl_appR (W : World) {TS T : TypeId} (ht : P.underlying TS = some (.slice T)) (hinfo : (P.info? T).map (fun i => (i.zero, i.size, i.bytes)) = some (some (.int .i64 0), 1, 8))
    (hgd : o.guard = none) (s x : Operand) (ho : o.op = .call { callee := .builtin .append, args := #[s, x], argTypes := #[TS, TS] })
    (base : Nat) (A : Option Addr) (n c : Nat) (zs : List Int) (hs : a.eval s = .slice A n c) (hown : OwnI T W base A n c zs)
    (A2 : Option Addr) (n2 c2 B : Nat) (ys : List Int) (hx : a.eval x = .slice A2 n2 c2) (hr : RI W B A2 n2 ys) (hA2 : A2 = none → c2 = 0)
    (hn : n + n2 ≤ 1099511627776) (hbase : base ≤ W.heap.size)
    (h : ∀ A' c' w', OwnI T w' base A' (n + n2) c' (zs ++ ys) → (∀ B, B ≤ base → Below B W w') → W.grownBy w' (Value.slice A n c).ownBlock → wpList P ops Q rest (a.put o.dst (.slice A' (n + n2) c')) w') :
    wpList P ops Q (o :: rest) a W := by
  obtain ⟨i, hi, hz, hs1, hb1⟩ := info_split hinfo
  have fin : ∀ v' w', w'.ownsRow base T 1 v' (n + n2) (zs.map (Value.int .i64) ++ ys.map (Value.int .i64)) → W.grownBy w' (Value.slice A n c).ownBlock → wpList P ops Q rest (a.put o.dst v') w' := by
    intro v' w' hown' hg
    have hB : ∀ B, B ≤ base → Below B W w' := fun B hB => (Below.refl B W).grown hg (Nat.le_trans hB hbase) (fun g e => Nat.le_trans hB (own_row hown g e).1)
    rcases hown'.2 with ⟨h1, h2⟩ | ⟨g, cap, cur, hv, hrest⟩
    · subst h1
      have := h none 0 w' (by unfold OwnI; rw [List.map_append, h2]; rw [h2] at hown'; exact hown') hB hg
      rw [h2] at this
      exact this
    · subst hv
      exact h _ _ w' (by unfold OwnI; rw [List.map_append]; exact hown') hB hg
  rcases A2 with _ | ad
  · obtain rfl := hA2 rfl
    have h0 : n2 = 0 := by
      rcases Nat.eq_zero_or_pos n2 with hh | hh
      · exact hh
      · obtain ⟨b, o', e, _⟩ := hr.get hh; cases e
    subst h0
    obtain rfl : ys = [] := List.length_eq_zero_iff.1 hr.len
    refine wpList_append_own_none hgd s x TS ho base T i 1 ht hi (.slice A n c) n _ hs hown hx ?_
    have := fin (.slice A n c) W (by simpa [OwnI] using hown) (World.grownBy.refl _ _)
    exact this
  · refine wpList_append_own W hgd s x TS ho base T i (.int .i64 0) 1 8 ht hi hz hs1 hb1 rfl (by omega) (.slice A n c) n _ hs hown ad n2 c2 (ys.map (Value.int .i64)) hx (by rw [List.length_map, hr.len, Nat.mul_one]) ?_ ?_ (by simp only [maxLen]; omega) (by omega) hbase (fun v' w' h1 h2 _ => fin v' w' h1 h2)
    · intro j u hu
      rw [List.getElem?_map] at hu
      rcases Nat.lt_or_ge j n2 with hj | hj
      · rw [gi_some (by rw [hr.len]; exact hj)] at hu
        obtain rfl := Option.some.inj hu
        obtain ⟨b, o', e, _, hc⟩ := hr.get (by omega)
        obtain rfl := Option.some.inj e
        rw [Go.WideShapes.add_plain]
        exact hc j hj
      · rw [List.getElem?_eq_none (by rw [hr.len]; exact hj)] at hu; cases hu
    · intro u hu
      obtain ⟨z, _, rfl⟩ := List.mem_map.1 hu
      rfl
end
end Go.Proofs.YtbaojbheopcjhaaGreatDoor

namespace Go.Proofs.YtbaojbheopcjhaaGreatDoor
open Go.RowKit
/-- block g is four cells -/
def Blk4 (w : World) (g : Nat) (t : TypeId) (u0 u1 u2 u3 : Value) : Prop := w.heap[g]? = some (.cells #[u0, u1, u2, u3] t (0, 0))
section
variable {w w' : World} {g : Nat} {t : TypeId} {u0 u1 u2 u3 : Value}
theorem Blk4.lt (h : Blk4 w g t u0 u1 u2 u3) : g < w.heap.size := lt_of_block h
theorem Blk4.c0 (h : Blk4 w g t u0 u1 u2 u3) : w.cell? ⟨g, 0, none⟩ = some u0 := by unfold Blk4 at h; simp [World.cell?, h]
theorem Blk4.c1 (h : Blk4 w g t u0 u1 u2 u3) : w.cell? ⟨g, 1, none⟩ = some u1 := by unfold Blk4 at h; simp [World.cell?, h]
theorem Blk4.c2 (h : Blk4 w g t u0 u1 u2 u3) : w.cell? ⟨g, 2, none⟩ = some u2 := by unfold Blk4 at h; simp [World.cell?, h]
theorem Blk4.c3 (h : Blk4 w g t u0 u1 u2 u3) : w.cell? ⟨g, 3, none⟩ = some u3 := by unfold Blk4 at h; simp [World.cell?, h]
theorem Blk4.set (h : Blk4 w g t u0 u1 u2 u3) (j : Nat) (u : Value) : (w.setCell ⟨g, j, none⟩ u).heap[g]? = some (.cells (#[u0, u1, u2, u3].setIfInBounds j u) t (0, 0)) := by
  have hlt := lt_of_block h
  unfold Blk4 at h
  have h' : w.heap[g] = .cells #[u0, u1, u2, u3] t (0, 0) := by simpa [Array.getElem?_eq_getElem hlt] using h
  show (w.heap.modify g _)[g]? = _
  rw [Array.getElem?_eq_getElem (by simpa using hlt), Array.getElem_modify_self, h']
  rfl
theorem Blk4.all {x0 x1 x2 x3 : Value} (h : Blk4 w g t u0 u1 u2 u3) : Blk4 ((((w.setCell ⟨g, 0, none⟩ x0).setCell ⟨g, 1, none⟩ x1).setCell ⟨g, 2, none⟩ x2).setCell ⟨g, 3, none⟩ x3) g t x0 x1 x2 x3 := by
  have h1 : Blk4 (w.setCell ⟨g, 0, none⟩ x0) g t x0 u1 u2 u3 := h.set 0 x0
  have h2 : Blk4 ((w.setCell ⟨g, 0, none⟩ x0).setCell ⟨g, 1, none⟩ x1) g t x0 x1 u2 u3 := h1.set 1 x1
  have h3 : Blk4 (((w.setCell ⟨g, 0, none⟩ x0).setCell ⟨g, 1, none⟩ x1).setCell ⟨g, 2, none⟩ x2) g t x0 x1 x2 u3 := h2.set 2 x2
  exact h3.set 3 x3
theorem Blk4.next (hb : Below w.heap.size w w') (h : Blk4 w g t u0 u1 u2 u3) : Blk4 w' g t u0 u1 u2 u3 := (hb.block g h.lt).trans h
theorem Blk4.next_drew (hb : Below w.heap.size w.drew w') (h : Blk4 w g t u0 u1 u2 u3) : Blk4 w' g t u0 u1 u2 u3 := Blk4.next (w := w.drew) hb h
theorem Blk4.alloc (h : Blk4 w g t u0 u1 u2 u3) (o : Obj) : Blk4 (w.alloc o) g t u0 u1 u2 u3 := h.next ((Below.refl w.heap.size w).alloc (Nat.le_refl _) o)
theorem Blk4.drew (h : Blk4 w g t u0 u1 u2 u3) : Blk4 w.drew g t u0 u1 u2 u3 := h
theorem Blk4.new (w : World) (t : TypeId) (u0 u1 u2 u3 : Value) : Blk4 (w.alloc (.cells #[u0, u1, u2, u3] t)) w.heap.size t u0 u1 u2 u3 := by
  unfold Blk4
  show (w.heap.push _)[w.heap.size]? = _
  simp
theorem Blk4.new_at {w : World} {t : TypeId} {u0 u1 u2 u3 : Value} (hg : g = w.heap.size) : Blk4 (w.alloc (.cells #[u0, u1, u2, u3] t)) g t u0 u1 u2 u3 := by
  subst hg; exact Blk4.new _ _ _ _ _ _
end
end Go.Proofs.YtbaojbheopcjhaaGreatDoor

namespace Go.Proofs.YtbaojbheopcjhaaGreatDoor
open Go.RowKit

def ci (zs : List Int) : List Value := zs.map (Value.int .i64)
theorem ci_len (zs : List Int) : (ci zs).length = zs.length := by simp [ci]
theorem ci_one (zs : List Int) : ∀ u ∈ ci zs, u.oneCell' = true := by
  intro u hu
  obtain ⟨z, _, rfl⟩ := List.mem_map.1 hu
  rfl
theorem ci_get {zs : List Int} {j : Nat} {u : Value} (h : (ci zs)[j]? = some u) : j < zs.length ∧ u = .int .i64 (gi zs j) := by
  unfold ci at h
  rw [List.getElem?_map] at h
  rcases Nat.lt_or_ge j zs.length with hj | hj
  · rw [gi_some hj] at h
    exact ⟨hj, (Option.some.inj h).symm⟩
  · rw [List.getElem?_eq_none hj] at h; cases h
theorem ci_app (xs ys : List Int) : ci (xs ++ ys) = ci xs ++ ci ys := by simp [ci]
theorem ci_take (xs : List Int) (k : Nat) : ci (xs.take k) = (ci xs).take k := by simp [ci, List.map_take]
theorem ci_drop (xs : List Int) (k : Nat) : ci (xs.drop k) = (ci xs).drop k := by simp [ci, List.map_drop]

section
variable {T : TypeId} {w w' : World} {base n c g : Nat} {zs : List Int}
theorem OwnI.open (h : OwnI T w base (some ⟨g, 0, none⟩) n c zs) :
    ∃ cur : List Value, w.heap[g]? = some (.cells cur.toArray T (0, 0)) ∧ base ≤ g ∧ n ≤ c ∧ c ≤ maxLen ∧ cur.length = c ∧ cur.take n = ci zs := by
  rcases h.2 with ⟨h1, h2⟩ | ⟨g', cap, cur, hv, hb, hh, hn, hm, hs, ht⟩
  · injection h1 with h1; cases h1
  · injection hv with h1 _ h3
    injection h1 with h1
    injection h1 with h1
    subst h1; subst h3
    exact ⟨cur.toList, by simpa using hh, hb, hn, hm, by simpa using hs, by unfold ci; simpa using ht⟩
theorem OwnI.shut {cur : List Value} (hh : w.heap[g]? = some (.cells cur.toArray T (0, 0))) (hb : base ≤ g) (hn : n ≤ c) (hm : c ≤ maxLen) (hl : cur.length = c) (ht : cur.take n = ci zs) :
    OwnI T w base (some ⟨g, 0, none⟩) n c zs := by
  have hz : zs.length = n := by
    have := congrArg List.length ht
    rw [ci_len, List.length_take] at this
    omega
  exact ⟨by simpa using hz, .inr ⟨g, c, cur.toArray, rfl, hb, hh, hn, hm, by simpa using hl, by unfold ci at ht; simpa using ht⟩⟩
theorem OwnI.cut {A : Option Addr} (h : OwnI T w base A n c zs) {k : Nat} (hk : k ≤ n) : OwnI T w base A k c (zs.take k) := by
  rcases h.2 with ⟨h1, h2⟩ | ⟨g', cap, cur, hv, hb, hh, hn, hm, hs, ht⟩
  · obtain rfl : k = 0 := by omega
    injection h1 with h1 h3 h4
    subst h1; subst h4
    rw [List.take_zero]
    exact OwnI.nil T w base
  · injection hv with h1 h2 h3
    subst h1; subst h3
    have hz := h.len
    refine ⟨by rw [List.length_map, List.length_take]; omega, .inr ⟨g', c, cur, rfl, hb, hh, by omega, hm, hs, ?_⟩⟩
    rw [Nat.mul_one] at ht ⊢
    rw [List.map_take, ← ht, List.take_take, Nat.min_eq_left hk]
theorem cells_of_row {cur : List Value} {t : TypeId} {j : Nat} {u : Value} (hh : w.heap[g]? = some (.cells cur.toArray t (0, 0))) (h : cur[j]? = some u) : w.cell? ⟨g, j, none⟩ = some u := by
  unfold World.cell?
  rw [hh]
  simpa using h
theorem grown_setRow (w : World) (g : Nat) (cs : Array Value) : w.grownBy (w.setRow g cs) (some g) :=
  ⟨rfl, rfl, rfl, by simp [World.setRow], fun k _ hk => setRow_other w g k cs (fun e => hk (by rw [e]))⟩
end

theorem splice_take {L Z : List Value} {k : Nat} (h : k ≤ L.length) : (splice L k Z).take k = L.take k := by
  unfold splice
  rw [List.take_append_of_le_length (by rw [List.length_take]; omega), List.take_take, Nat.min_self]
theorem grown_drew {w w' : World} {row : Option Nat} (h : w.drew.grownBy w' row) : w.grownBy w' row := ⟨h.os, h.tape, h.output, h.size, h.block⟩
theorem grown_drewN {w w' : World} {row : Option Nat} {k : Nat} (h : (w.drewN k).grownBy w' row) : w.grownBy w' row := ⟨h.os, h.tape, h.output, h.size, h.block⟩
/-- what a row holds behind an insertion in place -/
theorem splice_ins {cur X1 X2 : List Value} {i m n : Nat} (h1 : X1.length = m) (h2 : X2.length = n - i) (hi : i ≤ n) (hc : n + m ≤ cur.length) :
    (splice (splice cur (i + m) X2) i X1).take (n + m) = cur.take i ++ X1 ++ X2 := by
  have e1 : (splice cur (i + m) X2) = cur.take (i + m) ++ X2 ++ cur.drop (n + m) := by
    unfold splice
    rw [h2, show i + m + (n - i) = n + m from by omega, List.append_assoc]
  have e2 : (splice cur (i + m) X2).take i = cur.take i := by
    rw [e1, List.append_assoc, List.take_append_of_le_length (by rw [List.length_take]; omega), List.take_take, Nat.min_eq_left (by omega)]
  have e3 : (splice cur (i + m) X2).drop (i + m) = X2 ++ cur.drop (n + m) := by
    rw [e1, List.append_assoc]
    have : (cur.take (i + m)).length = i + m := by rw [List.length_take]; omega
    rw [List.drop_append_of_le_length (by omega), List.drop_of_length_le (by omega), List.nil_append]
  show (List.take i (splice cur (i + m) X2) ++ (X1 ++ List.drop (i + X1.length) (splice cur (i + m) X2))).take (n + m) = _
  rw [e2, h1, e3, ← List.append_assoc, ← List.append_assoc]
  have : (cur.take i ++ X1 ++ X2).length = n + m := by
    rw [List.length_append, List.length_append, List.length_take, h1, h2]; omega
  rw [List.take_append_of_le_length (by omega), List.take_of_length_le (by omega)]
/-- what a new row holds behind two copies -/
theorem splice_two {cur X1 X2 : List Value} {i m n : Nat} (h1 : X1.length = m) (h2 : X2.length = n - i) (hi : i ≤ n) (hc : n + m ≤ cur.length) :
    (splice (splice cur i X1) (i + m) X2).take (n + m) = cur.take i ++ X1 ++ X2 := by
  have e1 : (splice cur i X1).take (i + m) = cur.take i ++ X1 := by
    unfold splice
    rw [← List.append_assoc]
    have : (cur.take i ++ X1).length = i + m := by rw [List.length_append, List.length_take, h1]; omega
    rw [List.take_append_of_le_length (by omega), List.take_of_length_le (by omega)]
  show (List.take (i + m) (splice cur i X1) ++ (X2 ++ List.drop (i + m + X2.length) (splice cur i X1))).take (n + m) = _
  rw [e1, ← List.append_assoc]
  have : (cur.take i ++ X1 ++ X2).length = n + m := by
    rw [List.length_append, List.length_append, List.length_take, h1, h2]; omega
  rw [List.take_append_of_le_length (by omega), List.take_of_length_le (by omega)]
theorem splice_cut {cur X : List Value} {i n j : Nat} (h : X.length = n - j) (hj : j ≤ n) (hi : i ≤ j) (hc : n ≤ cur.length) :
    (splice cur i X).take (n - (j - i)) = cur.take i ++ X := by
  unfold splice
  rw [← List.append_assoc]
  have : (cur.take i ++ X).length = n - (j - i) := by rw [List.length_append, List.length_take, h]; omega
  rw [List.take_append_of_le_length (by omega), List.take_of_length_le (by omega)]
end Go.Proofs.YtbaojbheopcjhaaGreatDoor

namespace Go.Proofs.YtbaojbheopcjhaaGreatDoor
open Go.RowKit
section
variable {P : Program} {ops : Array Oper} {rest : List Oper} {o : Oper} {a : Act} {Q : Exit → Act → World → Prop} {α : Type} [Inhabited α]
/-- 'out = append(out, ys...)' on a row of the call's own -/
theorem wpl_appRE (enc : α → List Value) (sz : Nat) (hk : ∀ x, (enc x).length = sz) (h1c : ∀ x, ∀ u ∈ enc x, u.oneCell' = true) (W : World) {TS T : TypeId} {z : Value} {bytes : Nat}
    (ht : P.underlying TS = some (.slice T)) (hinfo : (P.info? T).map (fun i => (i.zero, i.size, i.bytes)) = some (some z, sz, bytes)) (hzs : z.cells.size = sz) (hsz : 0 < sz) (hby : bytes ≤ 128)
    (hgd : o.guard = none) (s x : Operand) (ho : o.op = .call { callee := .builtin .append, args := #[s, x], argTypes := #[TS, TS] })
    (base : Nat) (A : Option Addr) (n c : Nat) (zs : List α) (hs : a.eval s = .slice A n c) (hown : OwnE enc sz T W base A n c zs)
    (A2 : Option Addr) (n2 c2 B : Nat) (ys : List α) (hx : a.eval x = .slice A2 n2 c2) (hr : RE enc sz W B A2 n2 ys) (hA2 : A2 = none → c2 = 0)
    (hn : n + n2 ≤ 1099511627776) (hbase : base ≤ W.heap.size)
    (h : ∀ A' c' w', OwnE enc sz T w' base A' (n + n2) c' (zs ++ ys) → (∀ B, B ≤ base → Below B W w') → W.grownBy w' (Value.slice A n c).ownBlock → wpList P ops Q rest (a.put o.dst (.slice A' (n + n2) c')) w') :
    wpList P ops Q (o :: rest) a W := by
  obtain ⟨i, hi, hz, hs1, hb1⟩ := info_split hinfo
  have fin : ∀ v' w', w'.ownsRow base T sz v' (n + n2) (zs.flatMap enc ++ ys.flatMap enc) → W.grownBy w' (Value.slice A n c).ownBlock → wpList P ops Q rest (a.put o.dst v') w' := by
    intro v' w' hown' hg
    have hB : ∀ B, B ≤ base → Below B W w' := fun B hB => (Below.refl B W).grown hg (Nat.le_trans hB hbase) (fun g e => Nat.le_trans hB (hown.row g e).1)
    have hl : (zs ++ ys).length = n + n2 := by rw [List.length_append, hown.1, hr.len]
    rcases hown'.2 with ⟨h1, h2⟩ | ⟨g, cap, cur, hv, hrest⟩
    · subst h1
      have := h none 0 w' ⟨hl, by rw [List.flatMap_append, h2]; rw [h2] at hown'; exact hown'⟩ hB hg
      rw [h2] at this
      exact this
    · subst hv
      exact h _ _ w' ⟨hl, by rw [List.flatMap_append]; exact hown'⟩ hB hg
  rcases A2 with _ | ad
  · obtain rfl := hA2 rfl
    have h0 : n2 = 0 := by
      rcases Nat.eq_zero_or_pos n2 with hh | hh
      · exact hh
      · obtain ⟨b, o', e, _⟩ := hr.get hh; cases e
    subst h0
    obtain rfl : ys = [] := List.length_eq_zero_iff.1 hr.len
    have hown2 := hown.2
    refine wpList_append_own_none hgd s x TS ho base T i sz ht hi (.slice A n c) n _ hs hown2 hx ?_
    have := fin (.slice A n c) W (by simpa using hown.2) (World.grownBy.refl _ _)
    exact this
  · refine wpList_append_own W hgd s x TS ho base T i z sz bytes ht hi hz hs1 hb1 hzs hsz (.slice A n c) n _ hs hown.2 ad n2 c2 (ys.flatMap enc) hx (by rw [flat_len hk, hr.len]) ?_ ?_ (by simp only [maxLen]; omega) ?_ hbase (fun v' w' h1 h2 _ => fin v' w' h1 h2)
    · intro j u hu
      rcases Nat.lt_or_ge j (n2 * sz) with hj | hj
      · obtain ⟨q, r, rfl, hr'⟩ : ∃ q r, j = q * sz + r ∧ r < sz := ⟨j / sz, j % sz, by rw [Nat.mul_comm]; exact (Nat.div_add_mod j sz).symm, Nat.mod_lt _ hsz⟩
        have hq : q < n2 := by
          rcases Nat.lt_or_ge q n2 with hh | hh
          · exact hh
          · have := Nat.mul_le_mul_right sz hh; omega
        rw [flat_get hk ys q r (by rw [hr.len]; exact hq) hr'] at hu
        obtain ⟨b, o', e, _, hc⟩ := hr.get (by omega)
        obtain rfl := Option.some.inj e
        rw [Go.WideShapes.add_plain, ← Nat.add_assoc]
        exact hc q hq r u hu
      · rw [List.getElem?_eq_none (by rw [flat_len hk, hr.len]; exact hj)] at hu; cases hu
    · intro u hu
      obtain ⟨y, _, hy⟩ := List.mem_flatMap.1 hu
      exact h1c y u hy
    · have : (n + n2) * bytes ≤ (n + n2) * 128 := Nat.mul_le_mul_left _ hby
      omega
end
theorem OwnE.room {α : Type} {enc : α → List Value} {sz : Nat} {T : TypeId} (w : World) {base cap : Nat} {cur : Array Value} (hb : base ≤ w.heap.size) (hm : cap ≤ maxLen) (hs : cur.size = cap * sz) :
    OwnE enc sz T (w.alloc (.cells cur T)) base (some ⟨w.heap.size, 0, none⟩) 0 cap ([] : List α) :=
  ⟨rfl, World.ownsRow_made w cur cap hb hm hs⟩
theorem OwnE.none_cap {α : Type} {enc : α → List Value} {sz : Nat} {T : TypeId} {w : World} {base n c : Nat} {A : Option Addr} {zs : List α} (h : OwnE enc sz T w base A n c zs) : A = none → c = 0 := by
  intro e
  subst e
  rcases h.2.2 with ⟨h1, _⟩ | ⟨g, cap, cur, hv, _⟩
  · injection h1
  · injection hv with h1; cases h1
end Go.Proofs.YtbaojbheopcjhaaGreatDoor

namespace Go.Proofs.YtbaojbheopcjhaaGreatDoor
open Go.RowKit
section
variable {P : Program} {ops : Array Oper} {o : Oper} {a : Act} {K : Act → World → Prop} {Q : Exit → Act → World → Prop} {E : Prop}
/-- a call of a Go function -/
theorem step_call {w : World} (f : FuncId) {fn : Func} (hf : P.funcs[f]? = some fn) (hname : (fn.name == "runtime.NumGoroutine") = false) (hb : fn.body.isSome = true) {xs : Array Operand} {tys : Array TypeId} (hgd : o.guard = none) (ho : o.op = .call { callee := .value (.func f), args := xs, argTypes := tys })
    (vals : Array Value) (hv : xs.map a.eval = vals) (h : Calls P f vals w fun e w' => ∃ v, e = .returned v ∧ K (a.put o.dst v) w') :
    if Region.wanted o (yielded ops a.tmps) = true then Oper.wp P o a w K Q else E := by
  have hw : Region.wanted o (yielded ops a.tmps) = true := by simp [Region.wanted, hgd]
  rw [if_pos hw]
  subst hv
  have he : (execOp a.eval o).run P w = .ok (.enter f (xs.map a.eval)) w := by
    obtain ⟨c, hc⟩ := Option.isSome_iff_exists.1 hb
    have h1 : fn.name ≠ "runtime.NumGoroutine" := by simpa using hname
    have hcf : (callFunc f (xs.map a.eval)).run P w = .ok (.enter f (xs.map a.eval)) w := by
      simp [callFunc, hf, h1, hc]
    simp [execOp, ho, resolve, invoke, Act.eval, go_sem]
    exact hcf
  unfold Oper.wp
  rw [he, Oper.upon_enter]
  refine h.mono ?_
  rintro e w' ⟨v, rfl, hk⟩
  exact hk
/-- 'append(out, ys...)' on a row of the call's own -/
theorem step_appR (W : World) {TS T : TypeId} (ht : P.underlying TS = some (.slice T)) (hinfo : (P.info? T).map (fun i => (i.zero, i.size, i.bytes)) = some (some (.int .i64 0), 1, 8))
    (hgd : o.guard = none) (s x : Operand) (ho : o.op = .call { callee := .builtin .append, args := #[s, x], argTypes := #[TS, TS] })
    (base : Nat) (A : Option Addr) (n c : Nat) (zs : List Int) (hs : a.eval s = .slice A n c) (hown : OwnI T W base A n c zs)
    (A2 : Option Addr) (n2 c2 B : Nat) (ys : List Int) (hx : a.eval x = .slice A2 n2 c2) (hr : RI W B A2 n2 ys) (hA2 : A2 = none → c2 = 0)
    (hn : n + n2 ≤ 1099511627776) (hbase : base ≤ W.heap.size)
    (h : ∀ A' c' w', OwnI T w' base A' (n + n2) c' (zs ++ ys) → (∀ B, B ≤ base → Below B W w') → W.grownBy w' (Value.slice A n c).ownBlock → K (a.put o.dst (.slice A' (n + n2) c')) w') :
    if Region.wanted o (yielded ops a.tmps) = true then Oper.wp P o a W K Q else E := by
  have hw : Region.wanted o (yielded ops a.tmps) = true := by simp [Region.wanted, hgd]
  rw [if_pos hw]
  obtain ⟨i, hi, hz, hs1, hb1⟩ := info_split hinfo
  have fin : ∀ v' w', w'.ownsRow base T 1 v' (n + n2) (zs.map (Value.int .i64) ++ ys.map (Value.int .i64)) → W.grownBy w' (Value.slice A n c).ownBlock → K (a.put o.dst v') w' := by
    intro v' w' hown' hg
    have hB : ∀ B, B ≤ base → Below B W w' := fun B hB => (Below.refl B W).grown hg (Nat.le_trans hB hbase) (fun g e => Nat.le_trans hB (own_row hown g e).1)
    rcases hown'.2 with ⟨h1, h2⟩ | ⟨g, cap, cur, hv, hrest⟩
    · subst h1
      have := h none 0 w' (by unfold OwnI; rw [List.map_append, h2]; rw [h2] at hown'; exact hown') hB hg
      rw [h2] at this
      exact this
    · subst hv
      exact h _ _ w' (by unfold OwnI; rw [List.map_append]; exact hown') hB hg
  rcases A2 with _ | ad
  · obtain rfl := hA2 rfl
    have h0 : n2 = 0 := by
      rcases Nat.eq_zero_or_pos n2 with hh | hh
      · exact hh
      · obtain ⟨b, o', e, _⟩ := hr.get hh; cases e
    subst h0
    obtain rfl : ys = [] := List.length_eq_zero_iff.1 hr.len
    have hrun : (Builtin.append_ #[TS, TS] o.type #[.slice A n c, .slice none 0 0]).run P W = .ok (.slice A n c) W := by
      obtain ⟨w2, hr2, _⟩ : ∃ w2, (Builtin.append_ #[TS, TS] o.type #[.slice A n c, .slice none 0 0]).run P W = .ok (.slice A n c) w2 ∧ w2 = W := by
        have hcn := hown.cap.1
        refine ⟨W, ?_, rfl⟩
        rcases A with _ | ad
        · have : c = 0 ∧ n = 0 := by
            rcases hown.2 with ⟨h1, h2⟩ | ⟨g, cap, cur, hv, _⟩
            · injection h1 with _ h3 h4; exact ⟨h4, h3⟩
            · injection hv with h1; cases h1
          obtain ⟨rfl, rfl⟩ := this
          simp [Builtin.append_, run_underlying ht, sizeOf, typeInfo, hi, Builtin.lenOf, Builtin.firstCells]
        · simp [Builtin.append_, run_underlying ht, sizeOf, typeInfo, hi, Builtin.lenOf, Builtin.firstCells, loadCells, hcn, storeCells]
      rw [hr2]; subst_vars; rfl
    unfold Oper.wp
    simp [execOp, ho, resolve, invoke, builtin, hs, hx, hrun, Result.andThen]
    have := fin (.slice A n c) W (by simpa [OwnI] using hown) (World.grownBy.refl _ _)
    exact this
  · refine wp_append_own W s x TS ho base T i (.int .i64 0) 1 8 ht hi hz hs1 hb1 rfl (by omega) (.slice A n c) n _ hs hown ad n2 c2 (ys.map (Value.int .i64)) hx (by rw [List.length_map, hr.len, Nat.mul_one]) ?_ ?_ (by simp only [maxLen]; omega) (by omega) hbase (fun v' w' h1 h2 _ => fin v' w' h1 h2)
    · intro j u hu
      rw [List.getElem?_map] at hu
      rcases Nat.lt_or_ge j n2 with hj | hj
      · rw [gi_some (by rw [hr.len]; exact hj)] at hu
        obtain rfl := Option.some.inj hu
        obtain ⟨b, o', e, _, hc⟩ := hr.get (by omega)
        obtain rfl := Option.some.inj e
        rw [Go.WideShapes.add_plain]
        exact hc j hj
      · rw [List.getElem?_eq_none (by rw [hr.len]; exact hj)] at hu; cases hu
    · intro u hu
      obtain ⟨z, _, rfl⟩ := List.mem_map.1 hu
      rfl
end
section
variable {P : Program} {ops : Array Oper} {o : Oper} {a : Act} {K : Act → World → Prop} {Q : Exit → Act → World → Prop} {E : Prop}
theorem step_appRN (W : World) {TS T : TypeId} (ht : P.underlying TS = some (.slice T)) (hinfo : (P.info? T).map (fun i => (i.zero, i.size, i.bytes)) = some (some (.int .i64 0), 1, 8))
    (hgd : o.guard = none) (s x : Operand) (ho : o.op = .call { callee := .builtin .append, args := #[s, x], argTypes := #[TS, TS] })
    (base : Nat) (A : Option Addr) (n c : Nat) (zs : List Int) (hs : a.eval s = .slice A n c) (hown : OwnI T W base A n c zs)
    (A2 : Option Addr) (n2 c2 B : Nat) (ys : List Int) (hx : a.eval x = .slice A2 n2 c2) (hr : RI W B A2 n2 ys) (hA2 : A2 = none → c2 = 0)
    (N : Nat) (hN : n + n2 = N) (hn : N ≤ 1099511627776) (hbase : base ≤ W.heap.size)
    (h : ∀ A' c' w', OwnI T w' base A' N c' (zs ++ ys) → (∀ B, B ≤ base → Below B W w') → W.grownBy w' (Value.slice A n c).ownBlock → K (a.put o.dst (.slice A' N c')) w') :
    if Region.wanted o (yielded ops a.tmps) = true then Oper.wp P o a W K Q else E := by
  subst hN
  exact step_appR W ht hinfo hgd s x ho base A n c zs hs hown A2 n2 c2 B ys hx hr hA2 hn hbase h
end
/-- a reslice of what can be read -/
theorem RI.pre {w : World} {B n k : Nat} {A : Option Addr} {zs : List Int} (h : RI w B A n zs) (hk : k ≤ n) : RI w B A k (zs.take k) := by
  refine ⟨by rw [List.length_take, h.len]; omega, fun h0 => ?_⟩
  obtain ⟨b, o, e, hb, hc⟩ := h.get (by omega)
  exact ⟨b, o, e, hb, fun i hi => by rw [gi_take hi]; exact hc i (by omega)⟩
theorem RI.suf {w : World} {B n k b o : Nat} {zs : List Int} (h : RI w B (some ⟨b, o, none⟩) n zs) (hk : k ≤ n) : RI w B (some ⟨b, o + k, none⟩) (n - k) (zs.drop k) := by
  refine ⟨by rw [List.length_drop, h.len], fun h0 => ?_⟩
  obtain ⟨b', o', e, hb, hc⟩ := h.get (by omega)
  cases e
  exact ⟨b, o + k, rfl, hb, fun i hi => by rw [gi_drop, Nat.add_assoc]; exact hc (k + i) (by omega)⟩
end Go.Proofs.YtbaojbheopcjhaaGreatDoor

namespace Go.Proofs.YtbaojbheopcjhaaGreatDoor
open Go.RowKit
/-- block g is these cells -/
def BlkL (w : World) (g : Nat) (t : TypeId) (L : List Value) : Prop := w.heap[g]? = some (.cells L.toArray t (0, 0))
section
variable {w w' : World} {g : Nat} {t : TypeId} {L : List Value}
theorem BlkL.lt (h : BlkL w g t L) : g < w.heap.size := lt_of_block h
theorem BlkL.c (h : BlkL w g t L) (j : Nat) {u : Value} (hu : L[j]? = some u) : w.cell? ⟨g, j, none⟩ = some u := by
  unfold BlkL at h; simp [World.cell?, h, hu]
theorem BlkL.free (h : BlkL w g t L) (j : Nat) : w.frozen? ⟨g, j, none⟩ = false := by unfold BlkL at h; simp [World.frozen?, h]
theorem BlkL.set (h : BlkL w g t L) (j : Nat) (u : Value) : BlkL (w.setCell ⟨g, j, none⟩ u) g t (L.set j u) := by
  have hlt := lt_of_block h
  unfold BlkL at h ⊢
  have h' : w.heap[g] = .cells L.toArray t (0, 0) := by simpa [Array.getElem?_eq_getElem hlt] using h
  show (w.heap.modify g _)[g]? = _
  rw [Array.getElem?_eq_getElem (by simpa using hlt), Array.getElem_modify_self, h']
  simp
theorem BlkL.next (hb : Below w.heap.size w w') (h : BlkL w g t L) : BlkL w' g t L := (hb.block g h.lt).trans h
theorem BlkL.alloc (h : BlkL w g t L) (o : Obj) : BlkL (w.alloc o) g t L := h.next ((Below.refl w.heap.size w).alloc (Nat.le_refl _) o)
theorem BlkL.drew (h : BlkL w g t L) : BlkL w.drew g t L := h
theorem BlkL.other (h : BlkL w g t L) {p : Addr} (hp : p.block ≠ g) (u : Value) : BlkL (w.setCell p u) g t L := by
  unfold BlkL at h ⊢
  show (w.heap.modify p.block _)[g]? = _
  rw [Array.getElem?_modify, if_neg hp]; exact h
theorem BlkL.new (w : World) (t : TypeId) (cs : Array Value) (hg : g = w.heap.size) : BlkL (w.alloc (.cells cs t)) g t cs.toList := by
  subst hg
  unfold BlkL
  show (w.heap.push _)[w.heap.size]? = _
  simp
end
/-- of the world behind a walk's first piece only this is kept -/
theorem wp_forget {P : Program} {c : Code} {Q : Exit → Act → World → Prop} {a : Act} {W : World} (R : World → Prop) (hR : R W) (h : ∀ w', R w' → c.wp P Q a w') : c.wp P Q a W := h W hR
theorem bp_forget {P : Program} {fn : Func} {Q : Ending → World → Prop} {x : Exit} {a : Act} {W : World} (R : World → Prop) (hR : R W) (h : ∀ w', R w' → bodyPost P fn Q x a w') : bodyPost P fn Q x a W := h W hR
end Go.Proofs.YtbaojbheopcjhaaGreatDoor
