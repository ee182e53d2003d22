/- Walks, laws and small notions for the claims of this seat, several texts as one (Med, MedP, MedB, MedA, Cls). Conditions: as each theorem states them. -/
import Derived.Test.YtbaojbheopcjhaaGreatDoorB1
import Derived.Test.YtbaojbheopcjhaaGreatDoorB3
import Derived.Test.YtbaojbheopcjhaaGreatDoorB2
import Derived.BigQuiet
namespace Go.Proofs.YtbaojbheopcjhaaGreatDoor
open Go.RowKit

/-- an entry of a node table -/
structure Nd where
  id : Int
  nm : ByteArray
  dr : Int
  ps : Bool
instance : Inhabited Nd := ⟨⟨0, ⟨#[]⟩, 0, false⟩⟩
def encNd (x : Nd) : List Value := [.int .i64 x.id, .string x.nm, .int .i64 x.dr, .bool x.ps]
theorem encNd_len (x : Nd) : (encNd x).length = 4 := rfl
/-- an entry of a slot table -/
structure Sl where
  md : Int
  rn : Int
  st : Int
  nd : Int
  kd : Int
  sz : Int
  du : Int
  ch : Bool
instance : Inhabited Sl := ⟨⟨0, 0, 0, 0, 0, 0, 0, false⟩⟩
def encSl (x : Sl) : List Value := [.int .i64 x.md, .int .i64 x.rn, .int .i64 x.st, .int .i64 x.nd, .int .i64 x.kd, .int .i64 x.sz, .int .i64 x.du, .bool x.ch]
theorem encSl_len (x : Sl) : (encSl x).length = 8 := rfl
/-- an entry of a mode table -/
structure Mk where
  rd : Int
  sl : Int
  nx : List Int
instance : Inhabited Mk := ⟨⟨0, 0, []⟩⟩
/-- the slice value '.slice A n c' reads as the modes ms, below block B -/
def RM (w : World) (B : Nat) (A : Option Addr) (n : Nat) (ms : List Mk) : Prop :=
  ms.length = n ∧ (0 < n → ∃ b o, A = some ⟨b, o, none⟩ ∧ b < B ∧ ∀ i, i < n →
    w.cell? ⟨b, o + i * 3, none⟩ = some (.int .i64 (ge ms i).rd) ∧ w.cell? ⟨b, o + i * 3 + 1, none⟩ = some (.int .i64 (ge ms i).sl) ∧
    ∃ A' n' c', w.cell? ⟨b, o + i * 3 + 2, none⟩ = some (.slice A' n' c') ∧ n' ≤ maxLen ∧ RI w B A' n' (ge ms i).nx)
section
variable {w w' : World} {B B' n : Nat} {A : Option Addr} {ms : List Mk}
theorem RM.len (h : RM w B A n ms) : ms.length = n := h.1
theorem RM.get (h : RM w B A n ms) {i : Nat} (hi : i < n) : ∃ b o A' n' c', A = some ⟨b, o, none⟩ ∧ b < B ∧
    w.cell? ⟨b, o + i * 3, none⟩ = some (.int .i64 (ge ms i).rd) ∧ w.cell? ⟨b, o + i * 3 + 1, none⟩ = some (.int .i64 (ge ms i).sl) ∧
    w.cell? ⟨b, o + i * 3 + 2, none⟩ = some (.slice A' n' c') ∧ n' ≤ maxLen ∧ RI w B A' n' (ge ms i).nx := by
  obtain ⟨b, o, e, hb, hc⟩ := h.2 (by omega)
  obtain ⟨h0, h1, A', n', c', h2, hn, hr⟩ := hc i hi
  exact ⟨b, o, A', n', c', e, hb, h0, h1, h2, hn, hr⟩
theorem RM.below (h : RM w B A n ms) (hb : Below B' w w') (hB : B ≤ B') : RM w' B A n ms :=
  ⟨h.1, fun hn => let ⟨b, o, e, hlt, hc⟩ := h.2 hn; ⟨b, o, e, hlt, fun i hi =>
    have hb' := fun j => hb.cell (p := ⟨b, j, none⟩) (Nat.lt_of_lt_of_le hlt hB)
    let ⟨h0, h1, A', n', c', h2, hm, hr⟩ := hc i hi
    ⟨(hb' _).trans h0, (hb' _).trans h1, A', n', c', (hb' _).trans h2, hm, hr.below hb hB⟩⟩⟩
theorem RM.more (h : RM w B A n ms) (hB : B ≤ B') : RM w B' A n ms :=
  ⟨h.1, fun hn => let ⟨b, o, e, hlt, hc⟩ := h.2 hn; ⟨b, o, e, Nat.lt_of_lt_of_le hlt hB, fun i hi =>
    let ⟨h0, h1, A', n', c', h2, hm, hr⟩ := hc i hi
    ⟨h0, h1, A', n', c', h2, hm, hr.more hB⟩⟩⟩
theorem RM.up (h : RM w w.heap.size A n ms) (hb : Below w.heap.size w w') : RM w' w'.heap.size A n ms := (h.below hb (Nat.le_refl _)).more hb.size
theorem RM.drewN (h : RM w B A n ms) (k : Nat) : RM (w.drewN k) B A n ms := h
end
/-- a schedule -/
structure Mdl where
  id : Int
  ns : List Nd
  ms : List Mk
  ss : List Sl
/-- a schedule as a value: its number and its three slices -/
structure Mdv where
  id : Int
  An : Option Addr
  nn : Nat
  cn : Nat
  Am : Option Addr
  nm : Nat
  cm : Nat
  As : Option Addr
  ns : Nat
  cs : Nat
def aggM (m : Mdv) : Value := .agg #[.int .i64 m.id, .slice m.An m.nn m.cn, .slice m.Am m.nm m.cm, .slice m.As m.ns m.cs]
/-- the value m reads as the schedule M, below block B -/
structure RD (w : World) (B : Nat) (m : Mdv) (M : Mdl) : Prop where
  id : M.id = m.id
  rn : RE encNd 4 w B m.An m.nn M.ns
  rm : RM w B m.Am m.nm M.ms
  rs : RE encSl 8 w B m.As m.ns M.ss
  bn : m.nn ≤ 1099511627776
  bm : m.nm ≤ 1099511627776
  bs : m.ns ≤ 1099511627776
theorem RD.below {w w' : World} {B B' : Nat} {m : Mdv} {M : Mdl} (h : RD w B m M) (hb : Below B' w w') (hB : B ≤ B') : RD w' B m M :=
  ⟨h.id, h.rn.below hb hB, h.rm.below hb hB, h.rs.below hb hB, h.bn, h.bm, h.bs⟩
theorem RD.more {w : World} {B B' : Nat} {m : Mdv} {M : Mdl} (h : RD w B m M) (hB : B ≤ B') : RD w B' m M :=
  ⟨h.id, h.rn.more hB, h.rm.more hB, h.rs.more hB, h.bn, h.bm, h.bs⟩
theorem RD.up {w w' : World} {m : Mdv} {M : Mdl} (h : RD w w.heap.size m M) (hb : Below w.heap.size w w') : RD w' w'.heap.size m M :=
  (h.below hb (Nat.le_refl _)).more hb.size

/- what makes a schedule well-formed -/
def nmCh (u : UInt8) : Bool := (decide (97 ≤ u.toNat) && decide (u.toNat ≤ 122)) || (decide (48 ≤ u.toNat) && decide (u.toNat ≤ 57))
def nameOk (s : ByteArray) : Bool := decide (1 ≤ s.size) && (decide (s.size ≤ 6) && s.data.toList.all nmCh)
def isNd (x : Nd) : Bool := inR x.id 0 31 && (nameOk x.nm && inR x.dr 0 1000)
def ntAt (l : List Nd) (i : Nat) : Bool := isNd (ge l i) && ((decide (i = 0) || decide ((ge l (i - 1)).id < (ge l i).id)) && !(l.take i).any (fun y => decide (y.nm = (ge l i).nm)))
def ntTo (l : List Nd) (k : Nat) : Bool := (List.range k).all (ntAt l)
def isNT (l : List Nd) : Bool := decide (1 ≤ l.length) && (decide (l.length ≤ 32) && ntTo l l.length)
def mtAt (l : List Mk) (i : Nat) : Bool := inR (ge l i).rd 1 8 && (inR (ge l i).sl 1 16 && (rises (ge l i).nx l.length && !decide ((i : Int) ∈ (ge l i).nx)))
def mtTo (l : List Mk) (k : Nat) : Bool := (List.range k).all (mtAt l)
def isMT (l : List Mk) : Bool := decide (1 ≤ l.length) && (decide (l.length ≤ 16) && mtTo l l.length)
def bodyN (kd sz : Int) : Int := (if kd = 0 then 1 else 9) + (if kd = 0 ∨ kd = 2 then 1 + sz else 0)
def cellsN (kd sz : Int) : Int := 11 + 10 * (bodyN kd sz + 3)
def isDs (nd kd sz du : Int) (ch : Bool) : Bool := inR nd 0 31 && (inR kd 0 3 && (frSize kd sz && (!(ch && decide (kd = 3)) && inR du (cellsN kd sz + 20) 1000)))
def isSl (x : Sl) : Bool := inR x.md 0 15 && (inR x.rn 0 7 && (inR x.st 0 15 && isDs x.nd x.kd x.sz x.du x.ch))
def cmpI (a b : Int) : Int := if a < b then -1 else if b < a then 1 else 0
def cmpS (a b : Sl) : Int := if a.md = b.md then (if a.rn = b.rn then cmpI a.st b.st else cmpI a.rn b.rn) else cmpI a.md b.md
def stAt (l : List Sl) (i : Nat) : Bool := isSl (ge l i) && (decide (i = 0) || decide (cmpS (ge l (i - 1)) (ge l i) < 0))
def stTo (l : List Sl) (k : Nat) : Bool := (List.range k).all (stAt l)
def isST (l : List Sl) : Bool := decide (l.length ≤ 120) && stTo l l.length
/-- a slot's place -/
def keyS (x : Sl) : Int × Int × Int := (x.md, x.rn, x.st)
/-- all places of a mode, of all modes -/
def enumOne (md : Nat) (x : Mk) : List (Int × Int × Int) := (List.range (x.rd * x.sl).toNat).map fun (i : Nat) => ((md : Int), (i : Int) / x.sl, (i : Int) % x.sl)
def enumM (ms : List Mk) : List (Int × Int × Int) := (List.range ms.length).flatMap fun md => enumOne md (ge ms md)
def compl (M : Mdl) : Bool := decide (M.ss.map keyS = enumM M.ms)
/-- the vector of the nodes that are not passive -/
def actV (l : List Nd) : Nat := l.foldl (fun v x => if x.ps then v else v ||| 2 ^ x.id.toNat) 0
def senders (M : Mdl) : Bool := M.ss.all fun x => decide (actV M.ns / 2 ^ x.nd.toNat % 2 = 1)
def steady (M : Mdl) : Bool := (List.range M.ss.length).all fun i => (List.range i).all fun k => !(decide ((ge M.ss i).md = (ge M.ss k).md) && (decide ((ge M.ss i).st = (ge M.ss k).st) && !decide ((ge M.ss i).du = (ge M.ss k).du)))
def sumD (l : List Sl) (md : Int) : Int := l.foldl (fun v x => if x.md = md then v + x.du else v) 0
def shortM (M : Mdl) : Bool := (List.range M.ms.length).all fun (md : Nat) => decide (sumD M.ss md ≤ 32000)
def sendV (l : List Sl) (md rn : Int) : Nat := l.foldl (fun v x => if x.md = md ∧ x.rn = rn then v ||| 2 ^ x.nd.toNat else v) 0
def servedAt (M : Mdl) (md : Nat) : Bool := (List.range (ge M.ms md).rd.toNat).all fun (rn : Nat) => decide (sendV M.ss md rn = actV M.ns)
def served (M : Mdl) : Bool := (List.range M.ms.length).all (servedAt M)
def cold (M : Mdl) : Bool := M.ss.any fun x => decide (x.kd = 3) && !decide (x.md = 0)
def isMedl (M : Mdl) : Bool := inR M.id 1 16777215 && (isNT M.ns && (isMT M.ms && (isST M.ss && (compl M && (senders M && (steady M && (shortM M && (served M && !cold M))))))))

theorem range_all_succ {f : Nat → Bool} (k : Nat) : (List.range (k + 1)).all f = ((List.range k).all f && f k) := by simp [List.range_succ]
theorem range_all_no {f : Nat → Bool} {n k : Nat} (hk : k < n) (h : f k = false) : (List.range n).all f = false := by
  refine Bool.eq_false_iff.2 fun ht => ?_
  have := List.all_eq_true.1 ht k (List.mem_range.2 hk)
  rw [h] at this; cases this
theorem range_all_get {f : Nat → Bool} {n k : Nat} (h : (List.range n).all f = true) (hk : k < n) : f k = true := List.all_eq_true.1 h k (List.mem_range.2 hk)
theorem ntTo_succ (l : List Nd) (k : Nat) : ntTo l (k + 1) = (ntTo l k && ntAt l k) := range_all_succ k
theorem mtTo_succ (l : List Mk) (k : Nat) : mtTo l (k + 1) = (mtTo l k && mtAt l k) := range_all_succ k
theorem stTo_succ (l : List Sl) (k : Nat) : stTo l (k + 1) = (stTo l k && stAt l k) := range_all_succ k
theorem isNT_no {l : List Nd} {k : Nat} (hk : k < l.length) (h : ntAt l k = false) : isNT l = false := by
  unfold isNT ntTo; rw [range_all_no hk h]; simp
theorem isMT_no {l : List Mk} {k : Nat} (hk : k < l.length) (h : mtAt l k = false) : isMT l = false := by
  unfold isMT mtTo; rw [range_all_no hk h]; simp
theorem isST_no {l : List Sl} {k : Nat} (hk : k < l.length) (h : stAt l k = false) : isST l = false := by
  unfold isST stTo; rw [range_all_no hk h]; simp
theorem isNT_len {l : List Nd} (h : isNT l = true) : 1 ≤ l.length ∧ l.length ≤ 32 := by
  unfold isNT at h; simp only [Bool.and_eq_true, decide_eq_true_eq] at h; exact ⟨h.1, h.2.1⟩
theorem isNT_nd {l : List Nd} (h : isNT l = true) {i : Nat} (hi : i < l.length) : isNd (ge l i) = true := by
  unfold isNT at h; simp only [Bool.and_eq_true] at h
  have := range_all_get h.2.2 hi
  unfold ntAt at this; simp only [Bool.and_eq_true] at this; exact this.1
theorem isMT_len {l : List Mk} (h : isMT l = true) : 1 ≤ l.length ∧ l.length ≤ 16 := by
  unfold isMT at h; simp only [Bool.and_eq_true, decide_eq_true_eq] at h; exact ⟨h.1, h.2.1⟩
theorem isMT_at {l : List Mk} (h : isMT l = true) {i : Nat} (hi : i < l.length) : 1 ≤ (ge l i).rd ∧ (ge l i).rd ≤ 8 ∧ 1 ≤ (ge l i).sl ∧ (ge l i).sl ≤ 16 := by
  unfold isMT at h; simp only [Bool.and_eq_true] at h
  have := range_all_get h.2.2 hi
  unfold mtAt at this; simp only [Bool.and_eq_true] at this
  have a := inR_iff.1 this.1
  have b := inR_iff.1 this.2.1
  exact ⟨a.1, a.2, b.1, b.2⟩
theorem isST_len {l : List Sl} (h : isST l = true) : l.length ≤ 120 := by
  unfold isST at h; simp only [Bool.and_eq_true, decide_eq_true_eq] at h; exact h.1
theorem isST_sl {l : List Sl} (h : isST l = true) {i : Nat} (hi : i < l.length) : isSl (ge l i) = true := by
  unfold isST at h; simp only [Bool.and_eq_true] at h
  have := range_all_get h.2 hi
  unfold stAt at this; simp only [Bool.and_eq_true] at this; exact this.1
theorem isST_lt {l : List Sl} (h : isST l = true) {i : Nat} (hi : i + 1 < l.length) : cmpS (ge l i) (ge l (i + 1)) < 0 := by
  unfold isST at h; simp only [Bool.and_eq_true] at h
  have := range_all_get h.2 hi
  unfold stAt at this; simp only [Bool.and_eq_true, Bool.or_eq_true, decide_eq_true_eq] at this
  rcases this.2 with h0 | h0
  · omega
  · exact h0
theorem isSl_bd {x : Sl} (h : isSl x = true) : (0 ≤ x.md ∧ x.md ≤ 15) ∧ (0 ≤ x.rn ∧ x.rn ≤ 7) ∧ (0 ≤ x.st ∧ x.st ≤ 15) ∧ (0 ≤ x.nd ∧ x.nd ≤ 31) ∧ (0 ≤ x.kd ∧ x.kd ≤ 3) ∧ x.du ≤ 1000 ∧ 0 ≤ x.du ∧ 0 ≤ x.sz ∧ x.sz ≤ 32 := by
  unfold isSl isDs at h; simp only [Bool.and_eq_true] at h
  obtain ⟨h1, h2, h3, h4, h5, h6, _, h8⟩ := h
  have a1 := inR_iff.1 h1; have a2 := inR_iff.1 h2; have a3 := inR_iff.1 h3; have a4 := inR_iff.1 h4; have a5 := inR_iff.1 h5; have a8 := inR_iff.1 h8
  have b : 0 ≤ x.sz ∧ x.sz ≤ 32 := by
    unfold frSize at h6
    split at h6
    · exact inR_iff.1 h6
    · split at h6
      · have := inR_iff.1 h6; omega
      · have := of_decide_eq_true h6; omega
  refine ⟨a1, a2, a3, a4, a5, a8.2, ?_, b⟩
  have : 0 ≤ cellsN x.kd x.sz := by
    unfold cellsN bodyN
    split <;> split <;> omega
  omega
end Go.Proofs.YtbaojbheopcjhaaGreatDoor

namespace Go.Proofs.YtbaojbheopcjhaaGreatDoor
open Go.RowKit

/- places in order -/
def ltK (a b : Int × Int × Int) : Prop := a.1 < b.1 ∨ (a.1 = b.1 ∧ (a.2.1 < b.2.1 ∨ (a.2.1 = b.2.1 ∧ a.2.2 < b.2.2)))
theorem ltK_irr (a : Int × Int × Int) : ¬ ltK a a := by unfold ltK; omega
theorem ltK_trans {a b c : Int × Int × Int} (h1 : ltK a b) (h2 : ltK b c) : ltK a c := by unfold ltK at *; omega
theorem cmpS_lt {a b : Sl} : cmpS a b < 0 ↔ ltK (keyS a) (keyS b) := by
  unfold cmpS cmpI ltK keyS
  constructor
  · intro h
    split at h
    · split at h
      · split at h
        · right; refine ⟨by assumption, Or.inr ⟨by assumption, by assumption⟩⟩
        · split at h <;> omega
      · split at h
        · right; exact ⟨by assumption, Or.inl (by assumption)⟩
        · split at h <;> omega
    · split at h
      · left; assumption
      · split at h <;> omega
  · intro h
    dsimp only at h
    split
    · split
      · rw [if_pos (by omega)]; omega
      · rw [if_pos (by omega)]; omega
    · rw [if_pos (by omega)]; omega
theorem cmpS_eq {a b : Sl} : cmpS a b = 0 ↔ keyS a = keyS b := by
  unfold cmpS cmpI keyS
  rw [Prod.mk.injEq, Prod.mk.injEq]
  constructor
  · intro h
    split at h
    · split at h
      · split at h
        · omega
        · split at h
          · omega
          · exact ⟨by assumption, by assumption, by omega⟩
      · split at h
        · omega
        · split at h <;> omega
    · split at h
      · omega
      · split at h <;> omega
  · rintro ⟨h1, h2, h3⟩
    rw [if_pos h1, if_pos h2, if_neg (by omega), if_neg (by omega)]
/-- two strictly rising lists, the one within the other and as long: they are equal -/
theorem sorted_eq : ∀ (K E : List (Int × Int × Int)), K.Pairwise ltK → E.Pairwise ltK → (∀ e, e ∈ E → e ∈ K) → E.length ≤ K.length ∧ (E.length = K.length → K = E)
  | [], [], _, _, _ => ⟨Nat.le_refl _, fun _ => rfl⟩
  | [], e :: _, _, _, h => absurd (h e (by simp)) (by simp)
  | a :: K, [], _, _, _ => ⟨by simp, fun h => by simp at h⟩
  | a :: K, b :: E, hK, hE, h => by
    rw [List.pairwise_cons] at hK hE
    by_cases hab : b = a
    · subst hab
      have hs : ∀ e, e ∈ E → e ∈ K := fun e he => by
        rcases List.mem_cons.1 (h e (List.mem_cons_of_mem _ he)) with h1 | h1
        · subst h1; exact absurd (hE.1 _ he) (ltK_irr _)
        · exact h1
      have ih := sorted_eq K E hK.2 hE.2 hs
      refine ⟨by simpa using ih.1, fun hl => ?_⟩
      rw [ih.2 (by simpa using hl)]
    · have hbK : b ∈ K := by
        rcases List.mem_cons.1 (h b (by simp)) with h1 | h1
        · exact absurd h1 hab
        · exact h1
      have hs : ∀ e, e ∈ b :: E → e ∈ K := fun e he => by
        rcases List.mem_cons.1 (h e he) with h1 | h1
        · subst h1
          rcases List.mem_cons.1 he with h2 | h2
          · exact absurd h2.symm hab
          · exact absurd (ltK_trans (hE.1 _ h2) (hK.1 _ hbK)) (ltK_irr _)
        · exact h1
      have ih := sorted_eq K (b :: E) hK.2 (List.pairwise_cons.2 hE) hs
      exact ⟨by have := ih.1; simp only [List.length_cons] at *; omega, fun hl => by have := ih.1; simp only [List.length_cons] at *; omega⟩
theorem chain_pw {α : Type} [Inhabited α] {R : α → α → Prop} (ht : ∀ {a b c}, R a b → R b c → R a c) (l : List α) (h : ∀ i, i + 1 < l.length → R (ge l i) (ge l (i + 1))) : l.Pairwise R := by
  rw [List.pairwise_iff_getElem]
  intro i j hi hj hij
  have key : ∀ d, i + (d + 1) < l.length → R (ge l i) (ge l (i + (d + 1))) := by
    intro d
    induction d with
    | zero => intro hd; exact h i hd
    | succ d ih => intro hd; exact ht (ih (by omega)) (h (i + (d + 1)) (by omega))
  have := key (j - i - 1) (by omega)
  rw [show i + (j - i - 1 + 1) = j by omega, ge_lt hi, ge_lt hj] at this
  exact this
theorem keys_pw {l : List Sl} (h : isST l = true) : (l.map keyS).Pairwise ltK := by
  rw [List.pairwise_map]
  exact chain_pw (R := fun a b => ltK (keyS a) (keyS b)) (fun h1 h2 => ltK_trans h1 h2) l (fun i hi => cmpS_lt.1 (isST_lt h hi))
theorem enumOne_pw (md : Nat) (x : Mk) (hs : 0 < x.sl) : (enumOne md x).Pairwise ltK := by
  unfold enumOne
  rw [List.pairwise_map]
  refine List.pairwise_lt_range.imp ?_
  intro a b hab
  right
  refine ⟨rfl, ?_⟩
  show (a : Int) / x.sl < (b : Int) / x.sl ∨ ((a : Int) / x.sl = (b : Int) / x.sl ∧ (a : Int) % x.sl < (b : Int) % x.sl)
  have h1 := Int.mul_ediv_add_emod (a : Int) x.sl
  have h2 := Int.mul_ediv_add_emod (b : Int) x.sl
  have h3 : (a : Int) / x.sl ≤ (b : Int) / x.sl := Int.ediv_le_ediv hs (by omega)
  rcases Int.lt_or_eq_of_le h3 with h4 | h4
  · exact Or.inl h4
  · right
    refine ⟨h4, ?_⟩
    rw [h4] at h1
    omega
theorem enum_fst {md : Nat} {x : Mk} {e : Int × Int × Int} (h : e ∈ enumOne md x) : e.1 = md := by
  unfold enumOne at h
  rw [List.mem_map] at h
  obtain ⟨i, _, rfl⟩ := h
  rfl
theorem enumM_pw {ms : List Mk} (h : ∀ i, i < ms.length → 0 < (ge ms i).sl) : (enumM ms).Pairwise ltK := by
  unfold enumM
  rw [List.pairwise_flatMap]
  refine ⟨fun md hm => enumOne_pw md _ (h md (List.mem_range.1 hm)), ?_⟩
  refine List.pairwise_lt_range.imp ?_
  intro a b hab x hx y hy
  left
  rw [enum_fst hx, enum_fst hy]
  omega
theorem mem_enum {ms : List Mk} (h : ∀ i, i < ms.length → 0 < (ge ms i).sl ∧ 0 ≤ (ge ms i).rd) {e : Int × Int × Int} :
    e ∈ enumM ms ↔ ∃ md : Nat, md < ms.length ∧ e.1 = md ∧ (0 ≤ e.2.1 ∧ e.2.1 < (ge ms md).rd) ∧ (0 ≤ e.2.2 ∧ e.2.2 < (ge ms md).sl) := by
  unfold enumM
  rw [List.mem_flatMap]
  constructor
  · rintro ⟨md, hm, he⟩
    have hm := List.mem_range.1 hm
    obtain ⟨hs, hr⟩ := h md hm
    unfold enumOne at he
    rw [List.mem_map] at he
    obtain ⟨i, hi, rfl⟩ := he
    have hi := List.mem_range.1 hi
    refine ⟨md, hm, rfl, ⟨Int.ediv_nonneg (by omega) (by omega), ?_⟩, Int.emod_nonneg _ (by omega), Int.emod_lt_of_pos _ hs⟩
    exact Int.ediv_lt_of_lt_mul hs (by omega)
  · rintro ⟨md, hm, h1, ⟨h2, h3⟩, h4, h5⟩
    obtain ⟨e1, e2, e3⟩ := e
    dsimp only at h1 h2 h3 h4 h5
    obtain ⟨hs, hr⟩ := h md hm
    refine ⟨md, List.mem_range.2 hm, ?_⟩
    unfold enumOne
    rw [List.mem_map]
    have hb : (0 : Int) ≤ e2 * (ge ms md).sl := Int.mul_nonneg h2 (by omega)
    have hb2 : e2 * (ge ms md).sl + (ge ms md).sl ≤ (ge ms md).rd * (ge ms md).sl := by
      have := Int.mul_le_mul_of_nonneg_right (show e2 + 1 ≤ (ge ms md).rd by omega) (show 0 ≤ (ge ms md).sl by omega)
      rw [Int.add_mul] at this; omega
    refine ⟨(e2 * (ge ms md).sl + e3).toNat, List.mem_range.2 (by omega), ?_⟩
    rw [Int.toNat_of_nonneg (by omega)]
    have d1 : (e2 * (ge ms md).sl + e3) / (ge ms md).sl = e2 := by
      rw [Int.add_comm, Int.add_mul_ediv_right _ _ (by omega), Int.ediv_eq_zero_of_lt h4 h5]; omega
    have d2 : (e2 * (ge ms md).sl + e3) % (ge ms md).sl = e3 := by
      rw [Int.add_comm, Int.add_mul_emod_self_right]; exact Int.emod_eq_of_lt h4 h5
    rw [d1, d2, h1]
/-- the reference's way to say that a table has exactly the slots of all modes -/
theorem compl_iff {M : Mdl} (hm : isMT M.ms = true) (hs : isST M.ss = true) :
    compl M = true ↔ ((∀ md : Nat, md < M.ms.length → ∀ r s : Nat, (r : Int) < (ge M.ms md).rd → (s : Int) < (ge M.ms md).sl → ((md : Int), (r : Int), (s : Int)) ∈ M.ss.map keyS) ∧ (enumM M.ms).length = M.ss.length) := by
  have hb : ∀ i, i < M.ms.length → 0 < (ge M.ms i).sl ∧ 0 ≤ (ge M.ms i).rd := fun i hi => by have := isMT_at hm hi; omega
  unfold compl
  rw [decide_eq_true_eq]
  constructor
  · intro h
    refine ⟨fun md hmd r s hr hs' => ?_, by rw [← h, List.length_map]⟩
    rw [h, mem_enum hb]
    exact ⟨md, hmd, rfl, ⟨show (0 : Int) ≤ (r : Int) by omega, hr⟩, show (0 : Int) ≤ (s : Int) by omega, hs'⟩
  · rintro ⟨h1, h2⟩
    refine (sorted_eq _ _ (keys_pw hs) (enumM_pw fun i hi => (hb i hi).1) fun e he => ?_).2 (by rw [h2, List.length_map])
    obtain ⟨md, hmd, e1, ⟨a, b⟩, c, d⟩ := (mem_enum hb).1 he
    obtain ⟨x, y, z⟩ := e
    dsimp only at e1 a b c d
    have := h1 md hmd y.toNat z.toNat (by omega) (by omega)
    rwa [Int.toNat_of_nonneg a, Int.toNat_of_nonneg c, ← e1] at this
end Go.Proofs.YtbaojbheopcjhaaGreatDoor

namespace Go.Proofs.YtbaojbheopcjhaaGreatDoor
open Go.RowKit

theorem ofInt_toNat (a : Nat) (ha : a < 9223372036854775808) : (BitVec.ofInt 64 (a : Int)).toNat = a := by
  rw [BitVec.ofInt_natCast, BitVec.toNat_ofNat]; exact Nat.mod_eq_of_lt (by omega)
theorem bits_or_i64_nat (a b : Nat) (ha : a < 9223372036854775808) (hb : b < 9223372036854775808) :
    bits .or .i64 (a : Int) (b : Int) = ((a ||| b : Nat) : Int) := by
  have hx : a ||| b < 2 ^ 63 := Nat.or_lt_two_pow (by omega) (by omega)
  show IntKind.i64.wrap ((BitVec.ofInt 64 (a : Int) ||| BitVec.ofInt 64 (b : Int)).toNat : Int) = _
  rw [BitVec.toNat_or, ofInt_toNat a ha, ofInt_toNat b hb, IntKind.wrap_i64]
  omega
theorem bits_xor_i64_nat (a b : Nat) (ha : a < 9223372036854775808) (hb : b < 9223372036854775808) :
    bits .xor .i64 (a : Int) (b : Int) = ((a ^^^ b : Nat) : Int) := by
  have hx : a ^^^ b < 2 ^ 63 := Nat.xor_lt_two_pow (by omega) (by omega)
  show IntKind.i64.wrap ((BitVec.ofInt 64 (a : Int) ^^^ BitVec.ofInt 64 (b : Int)).toNat : Int) = _
  rw [BitVec.toNat_xor, ofInt_toNat a ha, ofInt_toNat b hb, IntKind.wrap_i64]
  omega
theorem andNot_zero (x y : BitVec 64) : x &&& ~~~y = 0#64 ↔ x &&& y = x := by
  constructor
  · intro h
    refine BitVec.eq_of_getLsbD_eq fun i hi => ?_
    have := congrArg (fun z => z.getLsbD i) h
    simp only [BitVec.getLsbD_and, BitVec.getLsbD_not, hi, decide_true, Bool.true_and, BitVec.getLsbD_zero] at this
    rw [BitVec.getLsbD_and]
    cases hx : x.getLsbD i <;> cases hy : y.getLsbD i <;> simp_all
  · intro h
    refine BitVec.eq_of_getLsbD_eq fun i hi => ?_
    have := congrArg (fun z => z.getLsbD i) h
    simp only [BitVec.getLsbD_and] at this
    simp only [BitVec.getLsbD_and, BitVec.getLsbD_not, hi, decide_true, Bool.true_and, BitVec.getLsbD_zero]
    cases hx : x.getLsbD i <;> cases hy : y.getLsbD i <;> simp_all
theorem bits_andNot_zero (a b : Nat) (ha : a < 4294967296) (hb : b < 4294967296) :
    (bits .andNot .i64 (a : Int) (b : Int) == 0) = decide (a &&& b = a) := by
  have e : bits .andNot .i64 (a : Int) (b : Int) = IntKind.i64.wrap ((BitVec.ofInt 64 (a : Int) &&& ~~~BitVec.ofInt 64 (b : Int)).toNat : Int) := rfl
  have hlt : (BitVec.ofInt 64 (a : Int) &&& ~~~BitVec.ofInt 64 (b : Int)).toNat ≤ a := by
    rw [BitVec.toNat_and, ofInt_toNat a (by omega)]; exact Nat.and_le_left
  have hz := andNot_zero (BitVec.ofInt 64 (a : Int)) (BitVec.ofInt 64 (b : Int))
  have hab : (BitVec.ofInt 64 (a : Int) &&& BitVec.ofInt 64 (b : Int) = BitVec.ofInt 64 (a : Int)) ↔ a &&& b = a := by
    rw [← BitVec.toNat_inj, BitVec.toNat_and, ofInt_toNat a (by omega), ofInt_toNat b (by omega)]
  rw [hab, ← BitVec.toNat_inj] at hz
  obtain ⟨N, hN⟩ : ∃ N, (BitVec.ofInt 64 (a : Int) &&& ~~~BitVec.ofInt 64 (b : Int)).toNat = N := ⟨_, rfl⟩
  rw [hN] at e hlt hz
  rw [e, IntKind.wrap_i64]
  have z0 : (0#64 : BitVec 64).toNat = 0 := rfl
  rw [z0] at hz
  by_cases h0 : N = 0
  · rw [decide_eq_true (hz.1 h0), h0]; rfl
  · rw [decide_eq_false (fun h => h0 (hz.2 h))]
    rw [beq_eq_false_iff_ne]
    omega
theorem has_bit (B k : Nat) : decide (B / 2 ^ k % 2 = 1) = B.testBit k := Nat.testBit_eq_decide_div_mod_eq.symm
theorem pow_and {B k : Nat} (h : B.testBit k = true) : 2 ^ k &&& B = 2 ^ k := by
  refine Nat.eq_of_testBit_eq fun i => ?_
  rw [Nat.testBit_and, Nat.testBit_two_pow]
  by_cases hi : k = i
  · subst hi; simp [h]
  · simp [hi]
theorem xor_or {B k : Nat} (h : B.testBit k = false) : B ^^^ 2 ^ k = B ||| 2 ^ k := by
  refine Nat.eq_of_testBit_eq fun i => ?_
  rw [Nat.testBit_xor, Nat.testBit_or, Nat.testBit_two_pow]
  by_cases hi : k = i
  · subst hi; simp [h]
  · simp [hi]
theorem or_same {B k : Nat} (h : B.testBit k = true) : B ||| 2 ^ k = B := by
  refine Nat.eq_of_testBit_eq fun i => ?_
  rw [Nat.testBit_or, Nat.testBit_two_pow]
  by_cases hi : k = i
  · subst hi; simp [h]
  · simp [hi]
theorem or_lt32 {B k : Nat} (h : B < 4294967296) (hk : k < 32) : B ||| 2 ^ k < 4294967296 := by
  have : (2 : Nat) ^ k < 2 ^ 32 := Nat.pow_lt_pow_right (by omega) hk
  exact Nat.or_lt_two_pow (n := 32) h this
/- the vectors of a schedule -/
theorem actV_app (l : List Nd) (x : Nd) : actV (l ++ [x]) = if x.ps then actV l else actV l ||| 2 ^ x.id.toNat := by unfold actV; rw [List.foldl_append]; rfl
theorem sendV_app (l : List Sl) (x : Sl) (md rn : Int) : sendV (l ++ [x]) md rn = if x.md = md ∧ x.rn = rn then sendV l md rn ||| 2 ^ x.nd.toNat else sendV l md rn := by unfold sendV; rw [List.foldl_append]; rfl
theorem sumD_app (l : List Sl) (x : Sl) (md : Int) : sumD (l ++ [x]) md = if x.md = md then sumD l md + x.du else sumD l md := by unfold sumD; rw [List.foldl_append]; rfl
theorem actV_lt {l : List Nd} (h : ∀ i, i < l.length → isNd (ge l i) = true) : ∀ k, k ≤ l.length → actV (l.take k) < 4294967296
  | 0, _ => by simp [actV]
  | k + 1, hk => by
    have ih := actV_lt h k (by omega)
    rw [take_ge hk, actV_app]
    split
    · exact ih
    · have := h k hk
      unfold isNd at this; simp only [Bool.and_eq_true] at this
      have := inR_iff.1 this.1
      exact or_lt32 ih (by omega)
theorem actV_full {l : List Nd} (h : isNT l = true) : actV l < 4294967296 := by
  have := actV_lt (fun i hi => isNT_nd h hi) l.length (Nat.le_refl _)
  rwa [List.take_length] at this
theorem sendV_lt {l : List Sl} (h : ∀ i, i < l.length → isSl (ge l i) = true) (md rn : Int) : ∀ k, k ≤ l.length → sendV (l.take k) md rn < 4294967296
  | 0, _ => by simp [sendV]
  | k + 1, hk => by
    have ih := sendV_lt h md rn k (by omega)
    rw [take_ge hk, sendV_app]
    split
    · have := isSl_bd (h k hk)
      exact or_lt32 ih (by omega)
    · exact ih
theorem sendV_sub {l : List Sl} {a : Nat} (h : ∀ i, i < l.length → a.testBit (ge l i).nd.toNat = true) (md rn : Int) : ∀ k, k ≤ l.length → sendV (l.take k) md rn &&& a = sendV (l.take k) md rn
  | 0, _ => by simp [sendV]
  | k + 1, hk => by
    have ih := sendV_sub h md rn k (by omega)
    rw [take_ge hk, sendV_app]
    split
    · rw [Nat.and_or_distrib_right, ih, pow_and (h k hk)]
    · exact ih
/-- all active nodes send, and none else can: the vectors are equal -/
theorem send_act {M : Mdl} (hs : senders M = true) (md rn : Int) : decide (sendV M.ss md rn = actV M.ns) = decide (actV M.ns &&& sendV M.ss md rn = actV M.ns) := by
  have h1 : sendV M.ss md rn &&& actV M.ns = sendV M.ss md rn := by
    have := sendV_sub (l := M.ss) (a := actV M.ns) (fun i hi => by
      unfold senders at hs
      have := List.all_eq_true.1 hs (ge M.ss i) (mem_ge hi)
      rw [← has_bit]; exact this) md rn M.ss.length (Nat.le_refl _)
    rwa [List.take_length] at this
  by_cases h : sendV M.ss md rn = actV M.ns
  · rw [decide_eq_true h, decide_eq_true (by rw [h]; exact Nat.and_self _)]
  · rw [decide_eq_false h, decide_eq_false]
    intro h2
    rw [Nat.and_comm, h1] at h2
    exact h h2
theorem sumD_bd {l : List Sl} (h : ∀ i, i < l.length → isSl (ge l i) = true) (md : Int) : ∀ k, k ≤ l.length → 0 ≤ sumD (l.take k) md ∧ sumD (l.take k) md ≤ k * 1000
  | 0, _ => by simp [sumD]
  | k + 1, hk => by
    have ih := sumD_bd h md k (by omega)
    have := isSl_bd (h k hk)
    rw [take_ge hk, sumD_app]
    split <;> omega
/- the first slot of a place -/
def atKey (md rn st : Int) (x : Sl) : Bool := decide (x.md = md) && (decide (x.rn = rn) && decide (x.st = st))
def findI (l : List Sl) (md rn st : Int) : Nat := l.findIdx (atKey md rn st)
def findZ (l : List Sl) (md rn st : Int) : Int := if findI l md rn st < l.length then (findI l md rn st : Int) else -1
theorem atKey_iff {md rn st : Int} {x : Sl} : atKey md rn st x = true ↔ keyS x = (md, rn, st) := by
  unfold atKey keyS; simp
theorem findI_at {l : List Sl} {md rn st : Int} {k : Nat} (hk : k < l.length) (h : ∀ i, i < k → atKey md rn st (ge l i) = false) (h2 : atKey md rn st (ge l k) = true) : findI l md rn st = k := by
  unfold findI
  rw [List.findIdx_eq hk]
  refine ⟨by rw [← ge_lt hk]; exact h2, fun j hj => by rw [← ge_lt]; exact h j hj⟩
theorem findI_none {l : List Sl} {md rn st : Int} (h : ∀ i, i < l.length → atKey md rn st (ge l i) = false) : findI l md rn st = l.length := by
  unfold findI
  rw [List.findIdx_eq_length]
  intro x hx
  obtain ⟨i, hi, rfl⟩ := List.mem_iff_getElem.1 hx
  rw [← ge_lt hi]; exact h i hi
theorem findI_lt {l : List Sl} {md rn st : Int} : findI l md rn st < l.length ↔ (md, rn, st) ∈ l.map keyS := by
  unfold findI
  rw [List.findIdx_lt_length]
  constructor
  · rintro ⟨x, hx, h⟩; exact List.mem_map.2 ⟨x, hx, atKey_iff.1 h⟩
  · intro h
    obtain ⟨x, hx, e⟩ := List.mem_map.1 h
    exact ⟨x, hx, atKey_iff.2 e⟩
theorem findI_key {l : List Sl} {md rn st : Int} (h : findI l md rn st < l.length) : keyS (ge l (findI l md rn st)) = (md, rn, st) := by
  rw [ge_lt h]; exact atKey_iff.1 (List.findIdx_getElem (w := h))
/-- the first entry of a slot is there -/
theorem first_there {M : Mdl} (hm : isMT M.ms = true) (hc : compl M = true) {i : Nat} (hi : i < M.ss.length) : findI M.ss (ge M.ss i).md 0 (ge M.ss i).st < M.ss.length := by
  have hb : ∀ i, i < M.ms.length → 0 < (ge M.ms i).sl ∧ 0 ≤ (ge M.ms i).rd := fun i hi => by have := isMT_at hm hi; omega
  have e : M.ss.map keyS = enumM M.ms := of_decide_eq_true hc
  have h1 : keyS (ge M.ss i) ∈ enumM M.ms := by rw [← e]; exact List.mem_map.2 ⟨_, mem_ge hi, rfl⟩
  obtain ⟨md, hmd, e1, _, c, d⟩ := (mem_enum hb).1 h1
  rw [findI_lt, e, mem_enum hb]
  have := isMT_at hm hmd
  exact ⟨md, hmd, e1, ⟨Int.le_refl _, by show (0 : Int) < _; omega⟩, c, d⟩
theorem steady_first {M : Mdl} (hm : isMT M.ms = true) (hc : compl M = true) :
    steady M = (List.range M.ss.length).all fun i => decide ((ge M.ss i).du = (ge M.ss (findI M.ss (ge M.ss i).md 0 (ge M.ss i).st)).du) := by
  have key : ∀ i k, i < M.ss.length → k < i → steady M = true → (ge M.ss i).md = (ge M.ss k).md → (ge M.ss i).st = (ge M.ss k).st → (ge M.ss i).du = (ge M.ss k).du := by
    intro i k hi hk h h1 h2
    have := range_all_get (range_all_get h hi) hk
    rw [h1, h2] at this
    simpa using this
  rw [Bool.eq_iff_iff]
  constructor
  · intro h
    refine List.all_eq_true.2 fun i hi => ?_
    have hi := List.mem_range.1 hi
    have hf := first_there hm hc hi
    have hk := findI_key hf
    generalize findI M.ss (ge M.ss i).md 0 (ge M.ss i).st = f at hf hk
    have k1 : (ge M.ss f).md = (ge M.ss i).md := congrArg Prod.fst hk
    have k2 : (ge M.ss f).st = (ge M.ss i).st := congrArg (fun e => e.2.2) hk
    rw [decide_eq_true_eq]
    rcases Nat.lt_trichotomy f i with h1 | h1 | h1
    · exact key i f hi h1 h k1.symm k2.symm
    · rw [h1]
    · exact (key f i hf h1 h k1 k2).symm
  · intro h
    have g : ∀ i, i < M.ss.length → (ge M.ss i).du = (ge M.ss (findI M.ss (ge M.ss i).md 0 (ge M.ss i).st)).du := fun i hi => of_decide_eq_true (range_all_get h hi)
    refine List.all_eq_true.2 fun i hi => List.all_eq_true.2 fun k hk => ?_
    have hi := List.mem_range.1 hi
    have hk := List.mem_range.1 hk
    by_cases h1 : (ge M.ss i).md = (ge M.ss k).md
    · by_cases h2 : (ge M.ss i).st = (ge M.ss k).st
      · have a := g i hi
        have b := g k (by omega)
        rw [h1, h2, ← b] at a
        simp [a]
      · simp [h2]
    · simp [h1]
end Go.Proofs.YtbaojbheopcjhaaGreatDoor

namespace Go.Proofs.YtbaojbheopcjhaaGreatDoor
open Go.ChangeShapes Go.WideShapes Go.ChangeAt Go.RowKit

section
variable {H : Type} {enc : TypeId × Value → H} {P : Program} {W : World}
theorem list4 {α : Type} {l : List α} (h : l.length = 4) : ∃ a b c d, l = [a, b, c, d] := by
  match l, h with
  | [a, b, c, d], _ => exact ⟨a, b, c, d, rfl⟩
theorem list3 {α : Type} {l : List α} (h : l.length = 3) : ∃ a b c, l = [a, b, c] := by
  match l, h with
  | [a, b, c], _ => exact ⟨a, b, c, rfl⟩
theorem list8 {α : Type} {l : List α} (h : l.length = 8) : ∃ a b c d e f g k, l = [a, b, c, d, e, f, g, k] := by
  match l, h with
  | [a, b, c, d, e, f, g, k], _ => exact ⟨a, b, c, d, e, f, g, k, rfl⟩
theorem cell_bool {T : TypeId} {fuel : Nat} {u : Value} {x : DataW H × List MemPlace} (he : P.underlying T = some .bool) (h : DataW.trod enc P W 0 (fun _ => true) true fuel T [u] = some x) : ∃ b, u = .bool b := by
  obtain ⟨b, e0, _⟩ := DataW.trod_bool he h
  simp only [List.cons.injEq, and_true] at e0
  exact ⟨b, e0⟩
theorem cell_str {T : TypeId} {fuel : Nat} {u : Value} {x : DataW H × List MemPlace} (he : P.underlying T = some .string) (h : DataW.trod enc P W 0 (fun _ => true) true fuel T [u] = some x) : ∃ s : ByteArray, u = .string s ∧ s.size ≤ maxLen := by
  obtain ⟨s, e0, _, hs⟩ := DataW.trod_string he h
  simp only [List.cons.injEq, and_true] at e0
  exact ⟨s, e0, hs⟩
/-- a slice of elements of several cells, each read by 'hd' -/
theorem rows_of {α : Type} [Inhabited α] {en : α → List Value} {sz : Nat} {Q : α → Prop} {TS T : TypeId} (ht : P.underlying TS = some (.slice T)) (hC : P.cellsOf T = sz)
    (hd : ∀ (cs : List Value) (fuel : Nat) (x : DataW H × List MemPlace), cs.length = sz → DataW.trod enc P W 0 (fun _ => true) true fuel T cs = some x → ∃ e, cs = en e ∧ Q e) (hne : ∀ e, (en e)[0]? ≠ none)
    {fuel : Nat} {u : Value} {x : DataW H × List MemPlace} (hf : DataW.trod enc P W 0 (fun _ => true) true fuel TS [u] = some x) :
    ∃ A n c es, u = .slice A n c ∧ RE en sz W W.heap.size A n es ∧ (∀ i, i < n → Q (ge es i)) ∧ n ≤ maxLen := by
  rcases Deep.open_slice ht hf with ⟨hcs, _⟩ | ⟨a, len', cap', m, n, D, Pl, hcs, _, hl, hm, hmm, _, hel⟩
  · have e : u = .slice none 0 0 := by simpa using hcs
    exact ⟨none, 0, 0, [], e, RE.nil _ _ _ _ _, fun i hi => absurd hi (by omega), Nat.zero_le _⟩
  · have e : u = .slice (some a) len' cap' := by simpa using hcs
    simp only [if_true] at hmm
    have key : ∀ i, i < len' → ∃ e : α, (∀ j v, (en e)[j]? = some v → W.cell? ((a.add (i * sz)).add j) = some v) ∧ Q e := by
      intro i hi
      obtain ⟨cs', hcs', htr⟩ := hel i (by omega)
      rw [hC] at hcs'
      obtain ⟨_, hlen, hat⟩ := World.cells?_some hcs'
      obtain ⟨e, he, hq⟩ := hd cs' _ _ hlen htr
      subst he
      refine ⟨e, fun j v hu => ?_, hq⟩
      have hj : j < sz := by
        rcases Nat.lt_or_ge j (en e).length with hh | hh
        · omega
        · rw [List.getElem?_eq_none hh] at hu; cases hu
      rw [hat j hj]; exact hu
    obtain ⟨F, hF⟩ := Deep.choose_lt key
    have hge : ∀ i, i < len' → ge ((List.range len').map F) i = F i := by
      intro i hi
      rw [ge_lt (by simpa using hi)]; simp
    refine ⟨some a, len', cap', (List.range len').map F, e, ⟨by simp, fun hn => ?_⟩, fun i hi => by rw [hge i hi]; exact (hF i hi).2, Nat.le_trans hl hm⟩
    obtain ⟨u0, hu0⟩ := Option.ne_none_iff_exists'.1 (hne (F 0))
    have hsp := (hF 0 hn).1 0 _ hu0
    obtain ⟨b, o, s⟩ := a
    have hs' : s = none := by
      have := World.cell?_spot hsp
      simpa [Addr.add] using this
    subst hs'
    have hadd : ∀ i j, (((⟨b, o, none⟩ : Addr).add i).add j) = ⟨b, o + i + j, none⟩ := by
      intro i j
      rw [Go.WideShapes.add_plain, Go.WideShapes.add_plain]
    refine ⟨b, o, rfl, ?_, fun i hi j u hu => ?_⟩
    · have h9 := World.block_lt_of_cell? W _ hsp
      rw [hadd] at h9
      exact h9
    · rw [hge i hi] at hu
      have := (hF i hi).1 j u hu
      rwa [hadd] at this
def Nd.wf (x : Nd) : Prop := I64 x.id ∧ I64 x.dr ∧ x.nm.size ≤ maxLen
def Sl.wf (x : Sl) : Prop := I64 x.md ∧ I64 x.rn ∧ I64 x.st ∧ I64 x.nd ∧ I64 x.kd ∧ I64 x.sz ∧ I64 x.du
def Mk.wf (x : Mk) : Prop := I64 x.rd ∧ I64 x.sl ∧ ∀ i, i < x.nx.length → I64 (gi x.nx i)
/-- a mode with its slice's value -/
structure Mh where
  k : Mk
  A : Option Addr
  n : Nat
  c : Nat
instance : Inhabited Mh := ⟨⟨default, none, 0, 0⟩⟩
def encMh (x : Mh) : List Value := [.int .i64 x.k.rd, .int .i64 x.k.sl, .slice x.A x.n x.c]
theorem RM.of {w : World} {B n : Nat} {A : Option Addr} {es : List Mh} (h : RE encMh 3 w B A n es) (hq : ∀ i, i < n → RI w B (ge es i).A (ge es i).n (ge es i).k.nx ∧ (ge es i).n ≤ maxLen) : RM w B A n (es.map (·.k)) := by
  refine ⟨by rw [List.length_map]; exact h.len, fun hn => ?_⟩
  obtain ⟨b, o, e, hb, hc⟩ := h.get hn
  refine ⟨b, o, e, hb, fun i hi => ?_⟩
  have hg : ge (es.map (·.k)) i = (ge es i).k := by
    rw [ge_lt (by rw [List.length_map, h.len]; exact hi), ge_lt (by rw [h.len]; exact hi), List.getElem_map]
  rw [hg]
  exact ⟨hc i hi 0 _ rfl, hc i hi 1 _ rfl, _, _, _, hc i hi 2 _ rfl, (hq i hi).2, (hq i hi).1⟩

section
variable {TI TX TB : TypeId} (hti : P.underlying TI = some (.int .i64)) (hCi : P.cellsOf TI = 1)
variable (htx : P.underlying TX = some .string) (hCx : P.cellsOf TX = 1) (htb : P.underlying TB = some .bool) (hCb : P.cellsOf TB = 1)
include hti hCi
include htx hCx htb hCb in
theorem nd_of {T : TypeId} {f0 f1 f2 f3 : Field} (ht : P.underlying T = some (.struct #[f0, f1, f2, f3])) (h0 : f0.type = TI ∧ f0.offset = 0) (h1 : f1.type = TX ∧ f1.offset = 1) (h2 : f2.type = TI ∧ f2.offset = 2) (h3 : f3.type = TB ∧ f3.offset = 3)
    (cs : List Value) (fuel : Nat) (x : DataW H × List MemPlace) (hl : cs.length = 4) (h : DataW.trod enc P W 0 (fun _ => true) true fuel T cs = some x) : ∃ e : Nd, cs = encNd e ∧ e.wf := by
  obtain ⟨c0, c1, c2, c3, rfl⟩ := list4 hl
  obtain ⟨xs, n1, _, _, _, hl1, hg⟩ := DataW.trod_struct ht h
  have x0 := hg 0 f0 rfl
  have x1 := hg 1 f1 rfl
  have x2 := hg 2 f2 rfl
  have x3 := hg 3 f3 rfl
  rw [h0.1, h0.2, hCi] at x0
  rw [h1.1, h1.2, hCx] at x1
  rw [h2.1, h2.2, hCi] at x2
  rw [h3.1, h3.2, hCb] at x3
  rw [List.getElem?_eq_getElem (by rw [hl1]; simp)] at x0 x1 x2 x3
  obtain ⟨a0, rfl, w0⟩ := cell_int (u := c0) hti x0
  obtain ⟨a1, rfl, w1⟩ := cell_str (u := c1) htx x1
  obtain ⟨a2, rfl, w2⟩ := cell_int (u := c2) hti x2
  obtain ⟨a3, rfl⟩ := cell_bool (u := c3) htb x3
  exact ⟨⟨a0, a1, a2, a3⟩, rfl, w0, w2, w1⟩
theorem mk_of {T TL : TypeId} {f0 f1 f2 : Field} (ht : P.underlying T = some (.struct #[f0, f1, f2])) (h0 : f0.type = TI ∧ f0.offset = 0) (h1 : f1.type = TI ∧ f1.offset = 1) (h2 : f2.type = TL ∧ f2.offset = 2) (htl : P.underlying TL = some (.slice TI)) (hCl : P.cellsOf TL = 1)
    (cs : List Value) (fuel : Nat) (x : DataW H × List MemPlace) (hl : cs.length = 3) (h : DataW.trod enc P W 0 (fun _ => true) true fuel T cs = some x) : ∃ e : Mh, cs = encMh e ∧ (e.k.wf ∧ RI W W.heap.size e.A e.n e.k.nx ∧ e.n ≤ maxLen) := by
  obtain ⟨c0, c1, c2, rfl⟩ := list3 hl
  obtain ⟨xs, n1, _, _, _, hl1, hg⟩ := DataW.trod_struct ht h
  have x0 := hg 0 f0 rfl
  have x1 := hg 1 f1 rfl
  have x2 := hg 2 f2 rfl
  rw [h0.1, h0.2, hCi] at x0
  rw [h1.1, h1.2, hCi] at x1
  rw [h2.1, h2.2, hCl] at x2
  rw [List.getElem?_eq_getElem (by rw [hl1]; simp)] at x0 x1 x2
  obtain ⟨a0, rfl, w0⟩ := cell_int (u := c0) hti x0
  obtain ⟨a1, rfl, w1⟩ := cell_int (u := c1) hti x1
  obtain ⟨A, n, c, zs, rfl, hr, hi, hn⟩ := cell_ints (u := c2) htl hti hCi x2
  exact ⟨⟨⟨a0, a1, zs⟩, A, n, c⟩, rfl, ⟨w0, w1, fun i hi' => hi i (by rw [← hr.len]; exact hi')⟩, hr, hn⟩
include htb hCb in
theorem sl_of {T TD : TypeId} {f0 f1 f2 f3 g0 g1 g2 g3 g4 : Field} (ht : P.underlying T = some (.struct #[f0, f1, f2, f3])) (h0 : f0.type = TI ∧ f0.offset = 0) (h1 : f1.type = TI ∧ f1.offset = 1) (h2 : f2.type = TI ∧ f2.offset = 2) (h3 : f3.type = TD ∧ f3.offset = 3)
    (htd : P.underlying TD = some (.struct #[g0, g1, g2, g3, g4])) (hCd : P.cellsOf TD = 5) (k0 : g0.type = TI ∧ g0.offset = 0) (k1 : g1.type = TI ∧ g1.offset = 1) (k2 : g2.type = TI ∧ g2.offset = 2) (k3 : g3.type = TI ∧ g3.offset = 3) (k4 : g4.type = TB ∧ g4.offset = 4)
    (cs : List Value) (fuel : Nat) (x : DataW H × List MemPlace) (hl : cs.length = 8) (h : DataW.trod enc P W 0 (fun _ => true) true fuel T cs = some x) : ∃ e : Sl, cs = encSl e ∧ e.wf := by
  obtain ⟨c0, c1, c2, c3, c4, c5, c6, c7, rfl⟩ := list8 hl
  obtain ⟨xs, n1, _, _, _, hl1, hg⟩ := DataW.trod_struct ht h
  have x0 := hg 0 f0 rfl
  have x1 := hg 1 f1 rfl
  have x2 := hg 2 f2 rfl
  have x3 := hg 3 f3 rfl
  rw [h0.1, h0.2, hCi] at x0
  rw [h1.1, h1.2, hCi] at x1
  rw [h2.1, h2.2, hCi] at x2
  rw [h3.1, h3.2, hCd] at x3
  rw [List.getElem?_eq_getElem (by rw [hl1]; simp)] at x0 x1 x2 x3
  obtain ⟨ys, n2, _, _, _, hl2, hk⟩ := DataW.trod_struct htd x3
  have y0 := hk 0 g0 rfl
  have y1 := hk 1 g1 rfl
  have y2 := hk 2 g2 rfl
  have y3 := hk 3 g3 rfl
  have y4 := hk 4 g4 rfl
  rw [k0.1, k0.2, hCi] at y0
  rw [k1.1, k1.2, hCi] at y1
  rw [k2.1, k2.2, hCi] at y2
  rw [k3.1, k3.2, hCi] at y3
  rw [k4.1, k4.2, hCb] at y4
  rw [List.getElem?_eq_getElem (by rw [hl2]; simp)] at y0 y1 y2 y3 y4
  obtain ⟨a0, rfl, w0⟩ := cell_int (u := c0) hti x0
  obtain ⟨a1, rfl, w1⟩ := cell_int (u := c1) hti x1
  obtain ⟨a2, rfl, w2⟩ := cell_int (u := c2) hti x2
  obtain ⟨a3, rfl, w3⟩ := cell_int (u := c3) hti y0
  obtain ⟨a4, rfl, w4⟩ := cell_int (u := c4) hti y1
  obtain ⟨a5, rfl, w5⟩ := cell_int (u := c5) hti y2
  obtain ⟨a6, rfl, w6⟩ := cell_int (u := c6) hti y3
  obtain ⟨a7, rfl⟩ := cell_bool (u := c7) htb y4
  exact ⟨⟨a0, a1, a2, a3, a4, a5, a6, a7⟩, rfl, w0, w1, w2, w3, w4, w5, w6⟩
end
end
end Go.Proofs.YtbaojbheopcjhaaGreatDoor

namespace Go.Proofs.YtbaojbheopcjhaaGreatDoor
open Go.RowKit
/-- a world of a class -/
structure Cls (S : World → Prop) where
  w : World
  h : S w
section
variable {P : Program} {S : World → Prop}
theorem wp_region_cls {id : Nat} {Q : Exit → Act → World → Prop} {a : Act} {w : World} {l : List Oper} (S : World → Prop) (hm : P.follows .mixedOrders = true) (hB : Region.lexB .any l.toArray = true) (hS : S w.drew)
    (h : wpQuiet P l.toArray (fun w' => ∃ x : Cls S, w' = x.w) (fun a' => ∀ w', (∃ x : Cls S, w' = x.w) → Q .normal a' w') l a) : (Code.region id l.toArray true).wp P Q a w :=
  wp_region_quiet (C := fun w' => ∃ x : Cls S, w' = x.w) hm hB ⟨⟨_, hS⟩, rfl⟩ (by simpa using h)
/-- a callee that only makes memory of its own -/
theorem cls_call {f : FuncId} {args : Array Value} {v : Value} {x : Cls S} (hn : ∀ {u u' : World}, S u → Below u.heap.size u u' → S u') (h : Calls P f args x.w (RetV x.w v)) :
    Calls P f args x.w fun e w'' => e = .returned v ∧ ∃ y : Cls S, w'' = y.w := h.mono fun _ _ ⟨he, hb⟩ => ⟨he, ⟨_, hn x.h hb⟩, rfl⟩
/-- a callee that leaves the world as it is -/
theorem cls_same {f : FuncId} {args : Array Value} {v : Value} {x : Cls S} (h : Calls P f args x.w fun e w' => e = .returned v ∧ x.w = w') :
    Calls P f args x.w fun e w'' => e = .returned v ∧ ∃ y : Cls S, w'' = y.w := h.mono fun _ _ ⟨he, hb⟩ => ⟨he, x, hb.symm⟩
end
end Go.Proofs.YtbaojbheopcjhaaGreatDoor
