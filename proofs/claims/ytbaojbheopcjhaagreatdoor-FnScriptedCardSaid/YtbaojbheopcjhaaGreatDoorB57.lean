/- Walks, laws and small notions for the claims of this seat, several texts as one (Loo, DrGl, DrHs). Conditions: as each theorem states them. -/
import Derived.Orders
import Derived.Deep.RegionHeld
import Derived.Test.YtbaojbheopcjhaaGreatDoorB56
namespace Go.Proofs.YtbaojbheopcjhaaGreatDoor
/-- a statement that nothing looks into -/
structure Opq (p : Prop) : Prop where
  out : p
section
variable {P : Program} {ops : Array Oper} {Q : Exit → Act → World → Prop} {md : Region.Mode}
theorem countP_less {α : Type} {p q : α → Bool} (h : ∀ x, q x = true → p x = true) {l : List α} {i : α} (hi : i ∈ l) (h1 : p i = true) (h2 : q i = false) : l.countP q < l.countP p := by
  induction l with
  | nil => cases hi
  | cons x l ih =>
    have hle : l.countP q ≤ l.countP p := List.countP_mono_left fun y _ hy => h y hy
    rw [List.countP_cons, List.countP_cons]
    rcases List.mem_cons.1 hi with rfl | hm
    · rw [h1, h2]; simp; omega
    · have := ih hm
      by_cases hq : q x = true
      · rw [hq, h x hq]; simp; exact this
      · have : q x = false := by simpa using hq
        rw [this]; simp
        omega
/-- how many operations have not come up yet -/
def unl (ops : Array Oper) (listed : Array Bool) : Nat := (List.range ops.size).countP fun j => !listed.getD j true
/-- every operation waits for earlier ones alone -/
def early (md : Region.Mode) (l : List Oper) (k : Nat) : Bool :=
  match l with
  | [] => true
  | o :: l => (o.after.all fun e => !Region.binds md e || decide (e.on < k)) && early md l (k + 1)
theorem early_spec {l : List Oper} {k : Nat} (h : early md l k = true) {j : Nat} {o : Oper} (ho : l[j]? = some o) : ∀ e ∈ o.after, Region.binds md e = true → e.on < k + j := by
  induction l generalizing k j with
  | nil => simp at ho
  | cons x l ih =>
    simp only [early, Bool.and_eq_true] at h
    cases j with
    | zero =>
      simp only [List.getElem?_cons_zero, Option.some.injEq] at ho
      subst ho
      intro e he hb
      have := Array.all_eq_true_iff_forall_mem.1 h.1 e he
      simpa [hb] using this
    | succ j =>
      intro e he hb
      have := ih h.2 (by simpa using ho) e he hb
      omega
theorem ready_all {l : List Oper} {listed : Array Bool} (he : early md l 0 = true) (h : Region.ready md l.toArray listed = []) (hs : listed.size = l.length) : ∀ j, listed.getD j true = true := by
  intro j
  induction j using Nat.strongRecOn with
  | ind j ih =>
    by_cases hj : listed.getD j true = true
    · exact hj
    exfalso
    have hj' : listed.getD j true = false := by simpa using hj
    have hlt : j < l.length := by
      rcases Nat.lt_or_ge j l.length with h' | h'
      · exact h'
      · rw [Array.getD_eq_getD_getElem?, Array.getElem?_eq_none (by omega)] at hj'; simp at hj'
    have hm : j ∈ Region.ready md l.toArray listed := mem_ready.2 ⟨hj', l[j], by simp [hlt], fun e hee hb => by
      have h1 := early_spec he (j := j) (o := l[j]) (by simp [hlt]) e hee hb
      have h2 := ih e.on (by omega)
      rw [Array.getD_eq_getD_getElem?, Array.getElem?_eq_getElem (by omega)] at h2 ⊢
      simpa using h2⟩
    rw [h] at hm
    cases hm
/-- an invariant of what has come up, the frame and the world -/
theorem wpAny_inv {l : List Oper} (he : early md l 0 = true) (I : Array Bool → Act → World → Prop)
    (hend : ∀ listed a w, (∀ j, listed.getD j true = true) → I listed a w → Q .normal a w)
    (hstep : ∀ listed a w i, I listed a w → i ∈ Region.ready md l.toArray listed → wpOp P l.toArray Q i (I (listed.setIfInBounds i true)) a w) :
    ∀ (fuel : Nat) (listed : Array Bool) (a : Act) (w : World), listed.size = l.length → unl l.toArray listed ≤ fuel → I listed a w → wpAny P md l.toArray Q fuel listed a w
  | 0, listed, a, w, hs, hu, hI => by
    have hall : ∀ j, listed.getD j true = true := by
      intro j
      by_cases hj : listed.getD j true = true
      · exact hj
      exfalso
      have hj' : listed.getD j true = false := by simpa using hj
      have hlt : j < l.length := by
        rcases Nat.lt_or_ge j l.length with h' | h'
        · exact h'
        · rw [Array.getD_eq_getD_getElem?, Array.getElem?_eq_none (by omega)] at hj'; simp at hj'
      have h0 : unl l.toArray listed = 0 := by omega
      unfold unl at h0
      rw [List.countP_eq_zero] at h0
      have := h0 j (by simp [hlt])
      rw [hj'] at this
      simp at this
    refine ⟨?_, hend _ _ _ hall hI⟩
    cases hr : Region.ready md l.toArray listed with
    | nil => rfl
    | cons x xs =>
      have hx := (mem_ready.1 (show x ∈ Region.ready md l.toArray listed by rw [hr]; exact List.mem_cons_self)).1
      rw [hall x] at hx
      cases hx
  | fuel + 1, listed, a, w, hs, hu, hI => by
    refine ⟨fun h0 => hend _ _ _ (ready_all he h0 hs) hI, fun i hi => ?_⟩
    have hi1 := (mem_ready.1 hi).1
    have hlt : i < l.length := by
      rcases Nat.lt_or_ge i l.length with h' | h'
      · exact h'
      · rw [Array.getD_eq_getD_getElem?, Array.getElem?_eq_none (by omega)] at hi1; simp at hi1
    refine wpOp_mono (fun a' w' h => wpAny_inv he I hend hstep fuel (listed.setIfInBounds i true) a' w' (by simpa using hs) ?_ h) (hstep _ _ _ _ hI hi)
    have : unl l.toArray (listed.setIfInBounds i true) < unl l.toArray listed := by
      unfold unl
      refine countP_less (i := i) ?_ (by simp [hlt]) (by rw [hi1]; rfl) ?_
      · intro j hj
        by_cases hij : i = j
        · subst hij; rw [hi1]; rfl
        · rw [getD_set_ne true hij] at hj; exact hj
      · rw [Array.getD_eq_getD_getElem?, Array.getElem?_setIfInBounds_self_of_lt (by omega)]; rfl
    omega
/-- the frame with the values x in the operations' temporaries -/
def frX : List Oper → (Nat → Value) → Nat → Act → Act
  | [], _, _, a => a
  | o :: l, x, k, a => frX l x (k + 1) (a.put o.dst (x k))
def upd (x : Nat → Value) (i : Nat) (v : Value) : Nat → Value := fun j => if j = i then v else x j
/-- no two temporaries are the same, no operation is guarded -/
def plain : List Oper → Bool
  | [] => true
  | o :: l => (match o.dst with | none => true | some d => l.all fun p => p.dst != some d) && o.guard.isNone && plain l
theorem frX_far {l : List Oper} {x : Nat → Value} {i k : Nat} {v : Value} (h : i < k) (a : Act) : frX l (upd x i v) k a = frX l x k a := by
  induction l generalizing k a with
  | nil => rfl
  | cons o l ih =>
    simp only [frX]
    rw [ih (by omega)]
    have : upd x i v k = x k := by unfold upd; rw [if_neg (by omega)]
    rw [this]
theorem put_put (a : Act) (d : Option Tmp) (u v : Value) : (a.put d u).put d v = a.put d v := by
  cases d <;> simp [Act.put]
theorem frX_put {l : List Oper} {x : Nat → Value} {k : Nat} {d : Option Tmp} {v : Value} (h : ∀ o ∈ l, ∀ t, d = some t → o.dst ≠ some t) (a : Act) : frX l x k (a.put d v) = (frX l x k a).put d v := by
  induction l generalizing k a with
  | nil => rfl
  | cons o l ih =>
    simp only [frX]
    rw [Act.put_comm a v (x k) (fun t ht => h o List.mem_cons_self t ht)]
    exact ih (fun o' ho' => h o' (List.mem_cons_of_mem _ ho')) _
theorem plain_head {o : Oper} {l : List Oper} (h : plain (o :: l) = true) : ∀ p ∈ l, ∀ t, o.dst = some t → p.dst ≠ some t := by
  intro p hp t ht
  simp only [plain, Bool.and_eq_true] at h
  have h1 := h.1.1
  rw [ht] at h1
  have := List.all_eq_true.1 h1 p hp
  simpa using this
theorem frX_upd {l : List Oper} {x : Nat → Value} {k i : Nat} {o : Oper} {v : Value} (hp : plain l = true) (ho : l[i]? = some o) (a : Act) : frX l (upd x (k + i) v) k a = (frX l x k a).put o.dst v := by
  induction l generalizing k i a with
  | nil => simp at ho
  | cons q l ih =>
    have hp2 : plain l = true := by simp only [plain, Bool.and_eq_true] at hp; exact hp.2
    simp only [frX]
    cases i with
    | zero =>
      simp only [List.getElem?_cons_zero, Option.some.injEq] at ho
      subst ho
      have h1 : upd x (k + 0) v k = v := by unfold upd; simp
      rw [h1, frX_far (by omega), ← put_put a q.dst (x k) v, frX_put (plain_head hp)]
    | succ i =>
      have h1 : upd x (k + (i + 1)) v k = x k := by unfold upd; rw [if_neg (by omega)]
      rw [h1, show k + (i + 1) = (k + 1) + i by omega]
      exact ih hp2 (by simpa using ho) _
theorem frX_congr {l : List Oper} {x y : Nat → Value} {k : Nat} {a : Act} (h : ∀ j, k < j + 0 ∨ k = j → x j = y j) : frX l x k a = frX l y k a := by
  induction l generalizing k a with
  | nil => rfl
  | cons o l ih =>
    simp only [frX]
    rw [h k (by omega)]
    exact ih fun j hj => h j (by omega)
theorem frX_self (l : List Oper) (a : Act) (k : Nat) : frX l (fun j => match (l[j - k]?).bind (·.dst) with | some d => a.tmps.getD d undef | none => undef) k a = a := by
  induction l generalizing k with
  | nil => rfl
  | cons o l ih =>
    have e : a.put o.dst ((fun j => match ((o :: l)[j - k]?).bind (·.dst) with | some d => a.tmps.getD d undef | none => undef) k) = a := by
      simp only [Nat.sub_self, List.getElem?_cons_zero, Option.bind_some]
      cases hd : o.dst with
      | none => rfl
      | some d =>
        obtain ⟨t, ds⟩ := a
        simp only [Act.put, Act.mk.injEq, and_true]
        apply Array.ext_getElem?
        intro j
        by_cases hj : d = j
        · subst hj
          rcases Nat.lt_or_ge d t.size with h | h
          · rw [Array.getElem?_setIfInBounds_self_of_lt h, Array.getD_eq_getD_getElem?, Array.getElem?_eq_getElem h]; rfl
          · rw [Array.getElem?_eq_none (by simpa using h), Array.getElem?_eq_none h]
        · rw [Array.getElem?_setIfInBounds_ne hj]
    simp only [frX]
    rw [e]
    have := ih (k + 1)
    refine Eq.trans ?_ this
    refine frX_congr fun j hj => ?_
    rw [show j - k = (j - (k + 1)) + 1 by omega]
    rfl
/-- does the operation wait for number j? -/
def waits (o : Oper) (j : Nat) : Bool := o.after.any fun e => Region.binds .any e && e.on == j
/-- what is asked of one operation -/
def stepF (P : Program) (Q : Exit → Act → World → Prop) (C : World → Prop) (F : Nat → Value → World → Prop) (l : List Oper) (a : Act) (o : Oper) (k : Nat) : Prop :=
  ∀ (x : Nat → Value) (u : World), C u → (∀ j, waits o j = true → F j (x j) u) → ∀ K : Act → World → Prop,
    (∀ v u', C u' → F k v u' → (∀ j y, F j y u → F j y u') → K ((frX l x 0 a).put o.dst v) u') →
    Opq (if Region.wanted o (yielded l.toArray (frX l x 0 a).tmps) = true then Oper.wp P o (frX l x 0 a) u K Q else K ((frX l x 0 a).put o.dst undef) u)
def stepsF (P : Program) (Q : Exit → Act → World → Prop) (C : World → Prop) (F : Nat → Value → World → Prop) (l : List Oper) (a : Act) : List Oper → Nat → Prop
  | [], _ => True
  | o :: r, k => stepF P Q C F l a o k ∧ stepsF P Q C F l a r (k + 1)
theorem stepsF_nil {C : World → Prop} {F : Nat → Value → World → Prop} {l : List Oper} {a : Act} {k : Nat} : stepsF P Q C F l a [] k := trivial
theorem stepsF_cons {C : World → Prop} {F : Nat → Value → World → Prop} {l r : List Oper} {a : Act} {k k' : Nat} {o : Oper} (hk : k + 1 = k') (h : stepF P Q C F l a o k) (hr : stepsF P Q C F l a r k') : stepsF P Q C F l a (o :: r) k := ⟨h, hk ▸ hr⟩
theorem stepsF_get {C : World → Prop} {F : Nat → Value → World → Prop} {l r : List Oper} {a : Act} {k j : Nat} {o : Oper} (h : stepsF P Q C F l a r k) (ho : r[j]? = some o) : stepF P Q C F l a o (k + j) := by
  induction r generalizing k j with
  | nil => simp at ho
  | cons q r ih =>
    cases j with
    | zero =>
      simp only [List.getElem?_cons_zero, Option.some.injEq] at ho
      subst ho
      exact h.1
    | succ j =>
      have := ih h.2 (j := j) (by simpa using ho)
      rw [show k + (j + 1) = k + 1 + j by omega]
      exact this
/-- EVERY OPERATION ONCE: C holds of every world; F tells of each operation what it leaves in its temporary, in the worlds that follow too. -/
theorem wp_region_loose {id : Nat} {a : Act} {w : World} {l : List Oper} (C : World → Prop) (F : Nat → Value → World → Prop)
    (hm : P.follows .mixedOrders = true) (he : early .any l 0 = true) (hp : plain l = true) (hC : C w.drew) (hs : stepsF P Q C F l a l 0)
    (hend : ∀ x u, C u → (∀ i, i < l.length → F i (x i) u) → Opq (Q .normal (frX l x 0 a) u)) : (Code.region id l.toArray true).wp P Q a w := by
  refine wp_region_any hm (wpAny_inv he (fun listed a' u => listed.size = l.length ∧ ∃ x, a' = frX l x 0 a ∧ C u ∧ ∀ j, j < l.length → listed.getD j true = true → F j (x j) u) ?_ ?_ _ _ _ _ (by simp) ?_ ?_)
  · rintro listed a' u hall ⟨_, x, rfl, hCu, hF⟩
    exact (hend x u hCu fun j hj => hF j hj (hall j)).out
  · rintro listed a' u i ⟨hsz, x, rfl, hCu, hF⟩ hi
    obtain ⟨h0, o, ho, hall⟩ := mem_ready.1 hi
    have ho' : l[i]? = some o := by simpa using ho
    have hil : i < l.length := (List.getElem?_eq_some_iff.1 ho').1
    have hsf := stepsF_get hs ho'
    rw [Nat.zero_add] at hsf
    have hdep : ∀ j, waits o j = true → F j (x j) u := fun j hj => by
      unfold waits at hj
      obtain ⟨e, hee, hb⟩ := Array.any_eq_true'.1 hj
      rw [Bool.and_eq_true] at hb
      obtain ⟨hb, hej⟩ := hb
      have hej : e.on = j := by simpa using hej
      subst hej
      have h1 := early_spec he ho' e hee hb
      have h2 := hall e hee hb
      refine hF e.on (by omega) ?_
      rw [Array.getD_eq_getD_getElem?, Array.getElem?_eq_getElem (by omega)] at h2 ⊢
      simpa using h2
    have hK : ∀ v u', C u' → F i v u' → (∀ j y, F j y u → F j y u') → (fun a' u => (listed.setIfInBounds i true).size = l.length ∧ ∃ x, a' = frX l x 0 a ∧ C u ∧ ∀ j, j < l.length → (listed.setIfInBounds i true).getD j true = true → F j (x j) u) ((frX l x 0 a).put o.dst v) u' := by
      intro v u' hC' hFi hup
      refine ⟨by simpa using hsz, upd x i v, ?_, hC', fun j hj hl => ?_⟩
      · have := frX_upd (x := x) (k := 0) (v := v) hp ho' a
        rw [Nat.zero_add] at this
        exact this.symm
      · by_cases hij : j = i
        · subst hij; unfold upd; rw [if_pos rfl]; exact hFi
        · unfold upd
          rw [if_neg hij]
          rw [getD_set_ne true (Ne.symm hij)] at hl
          exact hup j _ (hF j hj hl)
    have hst := (hsf x u hCu hdep (fun a' u => (listed.setIfInBounds i true).size = l.length ∧ ∃ x, a' = frX l x 0 a ∧ C u ∧ ∀ j, j < l.length → (listed.setIfInBounds i true).getD j true = true → F j (x j) u) hK).out
    unfold wpOp
    rw [ho]
    simp only
    split
    · rename_i hw
      rw [if_pos hw] at hst
      exact .inl hst
    · rename_i hw
      rw [if_neg hw] at hst
      exact hst
  · unfold unl
    exact Nat.le_trans List.countP_le_length (by simp)
  · exact ⟨by simp, _, (frX_self l a 0).symm, hC, fun j hj h => by simp [hj] at h⟩
end
end Go.Proofs.YtbaojbheopcjhaaGreatDoor

namespace Go.Proofs.YtbaojbheopcjhaaGreatDoor
open Go.RowKit
theorem Dr.of_below {u u' : World} {g : Nat} (h : Src u g) (hb : Below u.heap.size u u') : Dr u g u' := Dr.below hb (Dr.refl h)
/-- a block's cells written one after the other -/
def setL (u : World) (b : Nat) : Nat → List Value → World
  | _, [] => u
  | j, v :: l => setL (u.setCell ⟨b, j, none⟩ v) b (j + 1) l
def putL : Nat → List Value → List Value → List Value
  | _, L, [] => L
  | j, L, v :: l => putL (j + 1) (L.set j v) l
theorem setL4 (u : World) (b : Nat) (v0 v1 v2 v3 : Value) : setL u b 0 [v0, v1, v2, v3] = (((u.setCell ⟨b, 0, none⟩ v0).setCell ⟨b, 1, none⟩ v1).setCell ⟨b, 2, none⟩ v2).setCell ⟨b, 3, none⟩ v3 := rfl
theorem setL5 (u : World) (b : Nat) (v0 v1 v2 v3 v4 : Value) : setL u b 0 [v0, v1, v2, v3, v4] = ((((u.setCell ⟨b, 0, none⟩ v0).setCell ⟨b, 1, none⟩ v1).setCell ⟨b, 2, none⟩ v2).setCell ⟨b, 3, none⟩ v3).setCell ⟨b, 4, none⟩ v4 := rfl
theorem setL8 (u : World) (b : Nat) (v0 v1 v2 v3 v4 v5 v6 v7 : Value) : setL u b 0 [v0, v1, v2, v3, v4, v5, v6, v7] = (((((((u.setCell ⟨b, 0, none⟩ v0).setCell ⟨b, 1, none⟩ v1).setCell ⟨b, 2, none⟩ v2).setCell ⟨b, 3, none⟩ v3).setCell ⟨b, 4, none⟩ v4).setCell ⟨b, 5, none⟩ v5).setCell ⟨b, 6, none⟩ v6).setCell ⟨b, 7, none⟩ v7 := rfl
theorem putL_all {l : List Value} : ∀ {j : Nat} {L : List Value}, L.length = j + l.length → putL j L l = L.take j ++ l := by
  induction l with
  | nil => intro j L h; simp only [putL, List.append_nil]; rw [List.take_of_length_le (by simp at h; omega)]
  | cons v l ih =>
    intro j L h
    simp only [List.length_cons] at h
    simp only [putL]
    rw [ih (by rw [List.length_set]; omega), List.take_add_one, List.getElem?_set_self (by omega), List.take_set_of_le (Nat.le_refl _)]
    simp
section
variable {u w0 : World} {b g : Nat} {T T' : TypeId} {L M : List Value}
theorem BlkL.setL (h : BlkL u b T L) (j : Nat) (l : List Value) : BlkL (Go.Proofs.YtbaojbheopcjhaaGreatDoor.setL u b j l) b T (putL j L l) := by
  induction l generalizing u j L with
  | nil => exact h
  | cons v l ih => exact ih (h.set j v) (j + 1)
theorem BlkL.put (h : BlkL u b T L) {l : List Value} (hl : L.length = l.length) : BlkL (Go.Proofs.YtbaojbheopcjhaaGreatDoor.setL u b 0 l) b T l := by
  have := h.setL 0 l
  rw [putL_all (by omega)] at this
  simpa using this
theorem BlkL.setLo (h : BlkL u g T L) (hb : ¬ b = g) (j : Nat) (l : List Value) : BlkL (Go.Proofs.YtbaojbheopcjhaaGreatDoor.setL u b j l) g T L := by
  induction l generalizing u j with
  | nil => exact h
  | cons v l ih => exact ih (h.other (p := ⟨b, j, none⟩) hb v) (j + 1)
theorem Dr.setL (h : Dr w0 g u) (hb : w0.heap.size ≤ b) (hl : g < w0.heap.size) (j : Nat) (l : List Value) : Dr w0 g (Go.Proofs.YtbaojbheopcjhaaGreatDoor.setL u b j l) := by
  induction l generalizing u j with
  | nil => exact h
  | cons v l ih => exact ih (h.set (p := ⟨b, j, none⟩) hb hl v) (j + 1)
theorem OwnI.setL {base n c : Nat} {A : Option Addr} {zs : List Int} (h : OwnI T u base A n c zs) (hb : BlkL u b T' M) (hT : T ≠ T') (j : Nat) (l : List Value) : OwnI T (Go.Proofs.YtbaojbheopcjhaaGreatDoor.setL u b j l) base A n c zs := by
  induction l generalizing u j M with
  | nil => exact h
  | cons v l ih => exact ih (h.boxed hb hT j v) (hb.set j v) (j + 1)
end
/-- a frame in a box of the call's own -/
def LDx (wB : World) (g : Nat) (u : World) (b : Nat) : Prop :=
  ∃ (k r ft fm fd fs fb : Int) (A : Option Addr) (n c : Nat) (zs : List Int), LD wB g u b [.int .i64 k, .int .i64 r, .int .i64 ft, .int .i64 fm, .int .i64 fd, .int .i64 fs, .int .i64 fb, .slice A n c] A n c zs ∧ n ≤ 8200
/-- a frame as a value -/
def FRx (wB u : World) (y : Value) : Prop :=
  ∃ (k r ft fm fd fs fb : Int) (A : Option Addr) (n c : Nat) (zs : List Int), y = .agg #[.int .i64 k, .int .i64 r, .int .i64 ft, .int .i64 fm, .int .i64 fd, .int .i64 fs, .int .i64 fb, .slice A n c] ∧ OwnI 2 u wB.heap.size A n c zs ∧ n ≤ 8200
section
variable {wB u u' : World} {g b b2 : Nat} {y : Value}
theorem LDx.next (h : LDx wB g u b) (d : Dr u g u') (hl : g < wB.heap.size) : LDx wB g u' b := by
  obtain ⟨k, r, ft, fm, fd, fs, fb, A, n, c, zs, ld, hn⟩ := h
  exact ⟨k, r, ft, fm, fd, fs, fb, A, n, c, zs, ld.draw d hl, hn⟩
theorem FRx.next (h : FRx wB u y) (d : Dr u g u') (hl : g < wB.heap.size) : FRx wB u' y := by
  obtain ⟨k, r, ft, fm, fd, fs, fb, A, n, c, zs, e, o, hn⟩ := h
  exact ⟨k, r, ft, fm, fd, fs, fb, A, n, c, zs, e, o.dr d hl, hn⟩
theorem LDx.new (d : Dr wB g u) : LDx wB g (u.alloc (.cells #[.int .i64 0, .int .i64 0, .int .i64 0, .int .i64 0, .int .i64 0, .int .i64 0, .int .i64 0, .slice none 0 0] 33)) u.heap.size :=
  ⟨0, 0, 0, 0, 0, 0, 0, none, 0, 0, [], ⟨d.alloc _, BlkL.new _ _ _ rfl, OwnI.nil _ _ _, d.size⟩, by omega⟩
theorem LDx.store (h : LDx wB g u b) (h2 : LDx wB g u b2) {k r ft fm fd fs fb : Int} {A : Option Addr} {n c : Nat} {zs : List Int} (o : OwnI 2 u wB.heap.size A n c zs) (hn : n ≤ 8200) (hl : g < wB.heap.size) :
    LDx wB g (setL u b 0 [.int .i64 k, .int .i64 r, .int .i64 ft, .int .i64 fm, .int .i64 fd, .int .i64 fs, .int .i64 fb, .slice A n c]) b2 := by
  obtain ⟨_, _, _, _, _, _, _, _, _, _, _, ld, _⟩ := h
  obtain ⟨k2, r2, ft2, fm2, fd2, fs2, fb2, A2, n2, c2, zs2, ld2, hn2⟩ := h2
  by_cases e : b = b2
  · subst e
    exact ⟨k, r, ft, fm, fd, fs, fb, A, n, c, zs, ⟨ld.d.setL ld.h hl _ _, ld.b.setL _ _, o.setL ld.b (by decide) _ _, ld.h⟩, hn⟩
  · exact ⟨k2, r2, ft2, fm2, fd2, fs2, fb2, A2, n2, c2, zs2, ⟨ld.d.setL ld.h hl _ _, ld2.b.setLo e _ _, ld2.o.setL ld.b (by decide) _ _, ld2.h⟩, hn2⟩
theorem FRx.store (h : FRx wB u y) (h2 : LDx wB g u b) (l : List Value) : FRx wB (setL u b 0 l) y := by
  obtain ⟨k, r, ft, fm, fd, fs, fb, A, n, c, zs, e, o, hn⟩ := h
  obtain ⟨_, _, _, _, _, _, _, _, _, _, _, ld, _⟩ := h2
  exact ⟨k, r, ft, fm, fd, fs, fb, A, n, c, zs, e, o.setL ld.b (by decide) _ _, hn⟩
end
/-- what is told of the operations, one after the other -/
def gL (S : List (Value → World → Prop)) (j : Nat) (y : Value) (u : World) : Prop := (S.getD j (fun _ _ => True)) y u
section
variable {S : List (Value → World → Prop)} {p : Value → World → Prop} {u u' : World}
theorem up_nil : ∀ q ∈ ([] : List (Value → World → Prop)), ∀ y, q y u → q y u' := fun _ h => by cases h
theorem up_cons (h : ∀ y, p y u → p y u') (hs : ∀ q ∈ S, ∀ y, q y u → q y u') : ∀ q ∈ p :: S, ∀ y, q y u → q y u' := by
  intro q hq
  rcases List.mem_cons.1 hq with rfl | hm
  · exact h
  · exact hs q hm
theorem gL_up (h : ∀ q ∈ S, ∀ y, q y u → q y u') : ∀ j y, gL S j y u → gL S j y u' := by
  intro j y hj
  unfold gL at hj ⊢
  rcases Nat.lt_or_ge j S.length with hl | hl
  · rw [List.getD_eq_getElem?_getD, List.getElem?_eq_getElem hl] at hj ⊢
    exact h _ (List.getElem_mem hl) y hj
  · rw [List.getD_eq_getElem?_getD, List.getElem?_eq_none hl]; trivial
end
/-- the operations of the region that makes the frame -/
def S8 (wB : World) (g : Nat) (cm cx : Value) : List (Value → World → Prop) :=
  [fun y _ => y = cm, fun y _ => y = cx,
   fun y _ => y = .pointer (some ⟨g, 0, none⟩), fun y _ => ∃ z : Nat, y = .int .i64 z,
   fun y _ => y = .pointer (some ⟨g, 0, none⟩), fun y _ => ∃ z : Nat, y = .int .i64 z,
   fun y _ => y = .pointer (some ⟨g, 0, none⟩), fun y _ => ∃ z : Nat, y = .int .i64 z,
   fun y _ => ∃ z : Int, y = .int .i64 z, fun y _ => ∃ z : Int, y = .int .i64 z,
   fun y u => FRx wB u y, fun y u => ∃ b : Nat, y = .pointer (some ⟨b, 0, none⟩) ∧ LDx wB g u b, fun _ _ => True]
theorem S8.up {wB : World} {g : Nat} {cm cx : Value} {u u' : World} (d : Dr u g u') (hl : g < wB.heap.size) : ∀ j y, gL (S8 wB g cm cx) j y u → gL (S8 wB g cm cx) j y u' :=
  gL_up (up_cons (fun _ h => h) (up_cons (fun _ h => h) (up_cons (fun _ h => h) (up_cons (fun _ h => h) (up_cons (fun _ h => h) (up_cons (fun _ h => h) (up_cons (fun _ h => h) (up_cons (fun _ h => h) (up_cons (fun _ h => h) (up_cons (fun _ h => h)
    (up_cons (fun _ h => FRx.next h d hl) (up_cons (fun _ ⟨b, e, h⟩ => ⟨b, e, h.next d hl⟩) (up_cons (fun _ h => h) up_nil)))))))))))))
theorem S8.store {wB : World} {g : Nat} {cm cx : Value} {u : World} {b : Nat} (h : LDx wB g u b) {k r ft fm fd fs fb : Int} {A : Option Addr} {n c : Nat} {zs : List Int} (o : OwnI 2 u wB.heap.size A n c zs) (hn : n ≤ 8200) (hl : g < wB.heap.size) :
    ∀ j y, gL (S8 wB g cm cx) j y u → gL (S8 wB g cm cx) j y (setL u b 0 [.int .i64 k, .int .i64 r, .int .i64 ft, .int .i64 fm, .int .i64 fd, .int .i64 fs, .int .i64 fb, .slice A n c]) :=
  gL_up (up_cons (fun _ h => h) (up_cons (fun _ h => h) (up_cons (fun _ h => h) (up_cons (fun _ h => h) (up_cons (fun _ h => h) (up_cons (fun _ h => h) (up_cons (fun _ h => h) (up_cons (fun _ h => h) (up_cons (fun _ h => h) (up_cons (fun _ h => h)
    (up_cons (fun _ h' => FRx.store h' h _) (up_cons (fun _ ⟨b, e, h'⟩ => ⟨b, e, h.store h' o hn hl⟩) (up_cons (fun _ h => h) up_nil)))))))))))))
end Go.Proofs.YtbaojbheopcjhaaGreatDoor

namespace Go.Proofs.YtbaojbheopcjhaaGreatDoor
open Go.RowKit
/-- no byte among these values -/
def nou8 (L : List Value) : Prop := ∀ v ∈ L, ∀ z, v ≠ .int .u8 z
theorem nou8_set {L : List Value} (h : nou8 L) (j : Nat) {v : Value} (hv : ∀ z, v ≠ .int .u8 z) : nou8 (L.set j v) := by
  intro x hx
  rcases List.mem_or_eq_of_mem_set hx with h1 | h1
  · exact h x h1
  · subst h1; exact hv
theorem src_ne {w : World} {g b : Nat} {T : TypeId} {L : List Value} (h : Src w g) (hb : BlkL w b T L) (hT : 78 ≠ T) : ¬ b = g := by
  intro e
  subst e
  obtain ⟨A, n, c, bs, k, z, hs, _⟩ := h
  unfold BlkL at hb
  have hs2 := hs
  unfold Blk3 at hs2
  rw [hs2] at hb
  injection Option.some.inj hb with _ h5
  exact hT h5
theorem Src.setB {u : World} {g b : Nat} {T : TypeId} {L : List Value} (h : Src u g) (hb : BlkL u b T L) (hL : nou8 L) (hT : 78 ≠ T) (j : Nat) (v : Value) : Src (u.setCell ⟨b, j, none⟩ v) g := by
  have hne := src_ne h hb hT
  obtain ⟨A, n, c, bs, k, z, h1, h2, h3⟩ := h
  refine ⟨A, n, c, bs, k, z, ?_, ⟨h2.1, h2.2.1, fun hn => ?_⟩, h3⟩
  · unfold Blk3 at h1 ⊢
    show (u.heap.modify b _)[g]? = _
    rw [Array.getElem?_modify, if_neg hne]; exact h1
  · obtain ⟨b', o, e, hlt, hc⟩ := h2.2.2 hn
    have hbb : ¬ b = b' := by
      intro e
      subst e
      have h0 := hc 0 hn
      unfold World.cell? at h0
      unfold BlkL at hb
      rw [hb] at h0
      simp at h0
      exact hL _ (List.mem_of_getElem? h0) _ rfl
    exact ⟨b', o, e, hlt, fun i hi => (World.cell?_setCell_far u ⟨b, j, none⟩ ⟨b', o + i, none⟩ v hbb).trans (hc i hi)⟩
/-- a drawn schedule and state in their boxes, beside the results' boxes -/
structure LY (w : World) (g B : Nat) (m : Mdv) (M : Mdl) (X : List Value) (k1 k2 : Nat) (u : World) : Prop where
  bel : Below w.heap.size w u
  src : Src u g
  v : DV u B m M
  k : BlkL u k1 28 (lM m)
  x : BlkL u k2 30 X
  h0 : w.heap.size ≤ g
  h1 : g < B
  h2 : B ≤ k1
  h3 : k1 < k2
namespace LY
variable {w u u' : World} {g B k1 k2 b : Nat} {m : Mdv} {M : Mdl} {X L : List Value} {T : TypeId}
theorem dr (h : LY w g B m M X k1 k2 u) (d : Dr u g u') : LY w g B m M X k1 k2 u' := by
  have a := h.h1; have c := h.h2; have e := h.h3
  exact ⟨h.bel.grown d.gr h.bel.size (fun j e => by cases e; exact h.h0), d.src, h.v.dr d h.h1, h.k.dr d (by omega), h.x.dr d (by omega), h.h0, a, c, e⟩
theorem set (h : LY w g B m M X k1 k2 u) (hb : BlkL u b T L) (hw : w.heap.size ≤ b) (hB : b < B) (hL : nou8 L) (hT : 78 ≠ T) (j : Nat) (v : Value) : LY w g B m M X k1 k2 (u.setCell ⟨b, j, none⟩ v) := by
  have a := h.h1; have c := h.h2; have e := h.h3
  exact ⟨h.bel.setCell (p := ⟨b, j, none⟩) hw v, h.src.setB hb hL hT j v, h.v.other (p := ⟨b, j, none⟩) hB v, h.k.other (p := ⟨b, j, none⟩) (by show ¬ b = k1; omega) v, h.x.other (p := ⟨b, j, none⟩) (by show ¬ b = k2; omega) v, h.h0, a, c, e⟩
theorem setL (h : LY w g B m M X k1 k2 u) (hb : BlkL u b T L) (hw : w.heap.size ≤ b) (hB : b < B) (hL : nou8 L) (hT : 78 ≠ T) (j : Nat) {l : List Value} (hl : nou8 l) : LY w g B m M X k1 k2 (Go.Proofs.YtbaojbheopcjhaaGreatDoor.setL u b j l) := by
  induction l generalizing u j L with
  | nil => exact h
  | cons v l ih => exact ih (h.set hb hw hB hL hT j v) (hb.set j v) (nou8_set hL j (hl v List.mem_cons_self)) (j + 1) (fun x hx => hl x (List.mem_cons_of_mem _ hx))
end LY
/-- the boxes of the results, whatever is in them -/
def bM (u : World) (b : Nat) : Prop := ∃ (i : Int) (A1 : Option Addr) (n1 c1 : Nat) (A2 : Option Addr) (n2 c2 : Nat) (A3 : Option Addr) (n3 c3 : Nat), BlkL u b 28 [.int .i64 i, .slice A1 n1 c1, .slice A2 n2 c2, .slice A3 n3 c3]
def bS (u : World) (b : Nat) : Prop := ∃ (a1 a2 a3 a4 a5 : Int), BlkL u b 30 [.int .i64 a1, .int .i64 a2, .int .i64 a3, .int .i64 a4, .int .i64 a5]
def bF (u : World) (b : Nat) : Prop := ∃ (a1 a2 a3 a4 a5 a6 a7 : Int) (A : Option Addr) (n c : Nat), BlkL u b 33 [.int .i64 a1, .int .i64 a2, .int .i64 a3, .int .i64 a4, .int .i64 a5, .int .i64 a6, .int .i64 a7, .slice A n c]
theorem nou8_M {i : Int} {A1 A2 A3 : Option Addr} {n1 c1 n2 c2 n3 c3 : Nat} : nou8 [.int .i64 i, .slice A1 n1 c1, .slice A2 n2 c2, .slice A3 n3 c3] := by intro v hv z; simp at hv; rcases hv with rfl | rfl | rfl | rfl <;> simp
theorem nou8_S {a1 a2 a3 a4 a5 : Int} : nou8 [.int .i64 a1, .int .i64 a2, .int .i64 a3, .int .i64 a4, .int .i64 a5] := by intro v hv z; simp at hv; rcases hv with rfl | rfl | rfl | rfl | rfl <;> simp
theorem nou8_F {a1 a2 a3 a4 a5 a6 a7 : Int} {A : Option Addr} {n c : Nat} : nou8 [.int .i64 a1, .int .i64 a2, .int .i64 a3, .int .i64 a4, .int .i64 a5, .int .i64 a6, .int .i64 a7, .slice A n c] := by intro v hv z; simp at hv; rcases hv with rfl | rfl | rfl | rfl | rfl | rfl | rfl | rfl <;> simp
section
variable {u u' : World} {g b b2 : Nat}
theorem bM.dr (h : bM u b) (d : Dr u g u') (hn : b ≠ g) : bM u' b := let ⟨i, A1, n1, c1, A2, n2, c2, A3, n3, c3, k⟩ := h; ⟨i, A1, n1, c1, A2, n2, c2, A3, n3, c3, k.dr d (Ne.symm hn)⟩
theorem bS.dr (h : bS u b) (d : Dr u g u') (hn : b ≠ g) : bS u' b := let ⟨a1, a2, a3, a4, a5, k⟩ := h; ⟨a1, a2, a3, a4, a5, k.dr d (Ne.symm hn)⟩
theorem bF.dr (h : bF u b) (d : Dr u g u') (hn : b ≠ g) : bF u' b := let ⟨a1, a2, a3, a4, a5, a6, a7, A, n, c, k⟩ := h; ⟨a1, a2, a3, a4, a5, a6, a7, A, n, c, k.dr d (Ne.symm hn)⟩
theorem bM.far (h : bM u b) (hn : ¬ b2 = b) (l : List Value) : bM (setL u b2 0 l) b := let ⟨i, A1, n1, c1, A2, n2, c2, A3, n3, c3, k⟩ := h; ⟨i, A1, n1, c1, A2, n2, c2, A3, n3, c3, k.setLo hn 0 l⟩
theorem bS.far (h : bS u b) (hn : ¬ b2 = b) (l : List Value) : bS (setL u b2 0 l) b := let ⟨a1, a2, a3, a4, a5, k⟩ := h; ⟨a1, a2, a3, a4, a5, k.setLo hn 0 l⟩
theorem bF.far (h : bF u b) (hn : ¬ b2 = b) (l : List Value) : bF (setL u b2 0 l) b := let ⟨a1, a2, a3, a4, a5, a6, a7, A, n, c, k⟩ := h; ⟨a1, a2, a3, a4, a5, a6, a7, A, n, c, k.setLo hn 0 l⟩
end
theorem DV.setLo {u : World} {b B : Nat} {m : Mdv} {M : Mdl} (h : DV u B m M) (hb : b < B) (j : Nat) (l : List Value) : DV (setL u b j l) B m M := by
  induction l generalizing u j with
  | nil => exact h
  | cons v l ih => exact ih (h.other (p := ⟨b, j, none⟩) hb v) (j + 1)
theorem OwnI.setLb {T : TypeId} {u : World} {base n c b : Nat} {A : Option Addr} {zs : List Int} (h : OwnI T u base A n c zs) (hb : b < base) (j : Nat) (l : List Value) : OwnI T (Go.Proofs.YtbaojbheopcjhaaGreatDoor.setL u b j l) base A n c zs := by
  induction l generalizing u j with
  | nil => exact h
  | cons v l ih => exact ih (h.other (p := ⟨b, j, none⟩) hb v) (j + 1)
/-- of the operations of a return of a schedule, a state and a frame -/
def S4 (w : World) (cm cx cy : Value) (Lm Lx Ly : List Value) : List (Value → World → Prop) :=
  [fun y _ => y = cm, fun y _ => y = cx, fun y _ => y = cy, fun _ u => BlkL u w.heap.size 28 Lm, fun _ u => BlkL u (w.heap.size + 1) 30 Lx, fun _ u => BlkL u (w.heap.size + 2) 33 Ly]
theorem S4.storeR {w : World} {cm cx cy : Value} {Lm Lx Ly : List Value} {u : World} (hk : BlkL (setL u w.heap.size 0 Lm) w.heap.size 28 Lm) : ∀ j y, gL (S4 w cm cx cy Lm Lx Ly) j y u → gL (S4 w cm cx cy Lm Lx Ly) j y (setL u w.heap.size 0 Lm) :=
  gL_up (up_cons (fun _ h => h) (up_cons (fun _ h => h) (up_cons (fun _ h => h) (up_cons (fun _ _ => hk) (up_cons (fun _ h => BlkL.setLo h (by omega) 0 _) (up_cons (fun _ h => BlkL.setLo h (by omega) 0 _) up_nil))))))
theorem S4.storeS {w : World} {cm cx cy : Value} {Lm Lx Ly : List Value} {u : World} (hk : BlkL (setL u (w.heap.size + 1) 0 Lx) (w.heap.size + 1) 30 Lx) : ∀ j y, gL (S4 w cm cx cy Lm Lx Ly) j y u → gL (S4 w cm cx cy Lm Lx Ly) j y (setL u (w.heap.size + 1) 0 Lx) :=
  gL_up (up_cons (fun _ h => h) (up_cons (fun _ h => h) (up_cons (fun _ h => h) (up_cons (fun _ h => BlkL.setLo h (by omega) 0 _) (up_cons (fun _ _ => hk) (up_cons (fun _ h => BlkL.setLo h (by omega) 0 _) up_nil))))))
theorem S4.storeT {w : World} {cm cx cy : Value} {Lm Lx Ly : List Value} {u : World} (hk : BlkL (setL u (w.heap.size + 2) 0 Ly) (w.heap.size + 2) 33 Ly) : ∀ j y, gL (S4 w cm cx cy Lm Lx Ly) j y u → gL (S4 w cm cx cy Lm Lx Ly) j y (setL u (w.heap.size + 2) 0 Ly) :=
  gL_up (up_cons (fun _ h => h) (up_cons (fun _ h => h) (up_cons (fun _ h => h) (up_cons (fun _ h => BlkL.setLo h (by omega) 0 _) (up_cons (fun _ h => BlkL.setLo h (by omega) 0 _) (up_cons (fun _ _ => hk) up_nil))))))
end Go.Proofs.YtbaojbheopcjhaaGreatDoor
