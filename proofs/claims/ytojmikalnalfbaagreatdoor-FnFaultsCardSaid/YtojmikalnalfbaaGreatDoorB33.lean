/- Walks, laws and small notions for the claims of this seat, several texts as one (Txt, FTx). Conditions: as each theorem states them. -/
import Derived.Lib.ParseIntBCases
import Derived.Lib.ItoaMem
import Derived.Lib.SplitLaws
import Derived.Lib.IndexLaws
import Derived.Test.YtojmikalnalfbaaGreatDoorB2
namespace Go.Proofs.YtojmikalnalfbaaGreatDoor
open Go.Lib

/-! digits -/
theorem u8_digit {d : Nat} (h : d < 10) : (UInt8.ofNat (48 + d)).toNat = 48 + d := by
  rw [UInt8.toNat_ofNat']; omega
theorem dec_small {u : Nat} (h : u < 10) : decDigits u = [UInt8.ofNat (48 + u)] := by rw [decDigits, dif_pos h]
theorem dec_big {u : Nat} (h : ¬ u < 10) : decDigits u = decDigits (u / 10) ++ [UInt8.ofNat (48 + u % 10)] := by rw [decDigits, dif_neg h]
theorem dec_digit (u : Nat) : ∀ c ∈ decDigits u, 48 ≤ c.toNat ∧ c.toNat ≤ 57 := by
  induction u using Nat.strongRecOn with
  | _ u ih =>
    by_cases h : u < 10
    · rw [dec_small h]; intro c hc
      rw [List.mem_singleton] at hc; subst hc
      rw [u8_digit h]; omega
    · rw [dec_big h]; intro c hc
      rw [List.mem_append, List.mem_singleton] at hc
      rcases hc with hc | hc
      · exact ih (u / 10) (by omega) c hc
      · subst hc; rw [u8_digit (by omega)]; omega
theorem dec_ne (u : Nat) : decDigits u ≠ [] := by
  by_cases h : u < 10
  · rw [dec_small h]; simp
  · rw [dec_big h]; simp
/-- the number that digits spell -/
def valD (l : List UInt8) : Nat := l.foldl (fun a c => 10 * a + (c.toNat - 48)) 0
theorem valD_snoc (l : List UInt8) (c : UInt8) : valD (l ++ [c]) = 10 * valD l + (c.toNat - 48) := by simp [valD]
theorem valD_dec (u : Nat) : valD (decDigits u) = u := by
  induction u using Nat.strongRecOn with
  | _ u ih =>
    by_cases h : u < 10
    · rw [dec_small h]; show 10 * 0 + ((UInt8.ofNat (48 + u)).toNat - 48) = u
      rw [u8_digit h]; omega
    · rw [dec_big h, valD_snoc, ih (u / 10) (by omega), u8_digit (by omega)]; omega
theorem dec_inj {u v : Nat} (h : decDigits u = decDigits v) : u = v := by rw [← valD_dec u, h, valD_dec]
theorem nDigits_le : ∀ (k u : Nat), u < 10 ^ (k + 1) → nDigits u ≤ k + 1
  | 0, u, hu => by rw [nDigits_small (by omega)]; omega
  | k + 1, u, hu => by
    by_cases hs : u < 10
    · rw [nDigits_small hs]; omega
    · rw [nDigits_big hs]
      have := nDigits_le k (u / 10) (by rw [Nat.pow_succ] at hu; omega)
      omega
theorem dec_len_le {u : Nat} (h : u < 1000000000000) : (decDigits u).length ≤ 12 := by
  rw [decDigits_length]; exact nDigits_le 11 u (by omega)
theorem dec_len_20 {u : Nat} (h : u < 9223372036854775808) : nDigits u ≤ 20 := nDigits_le 19 u (by omega)

theorem parseM_digits : ∀ (l : List UInt8) (M acc : Nat), (∀ c ∈ l, 48 ≤ c.toNat ∧ c.toNat ≤ 57) → M < 1844674407370955162 * 10 →
    l.foldl (fun a c => 10 * a + (c.toNat - 48)) acc ≤ M → parseUintM M acc l = .ok (l.foldl (fun a c => 10 * a + (c.toNat - 48)) acc)
  | [], M, acc, _, _, _ => rfl
  | c :: r, M, acc, hd, hM, hle => by
    have hc := hd c (by simp)
    have hgrow : ∀ (l : List UInt8) (a : Nat), a ≤ l.foldl (fun a c => 10 * a + (c.toNat - 48)) a := by
      intro l
      induction l with
      | nil => intro a; exact Nat.le_refl _
      | cons x xs ih => intro a; exact Nat.le_trans (show a ≤ 10 * a + (x.toNat - 48) by omega) (ih _)
    have hg := hgrow r (10 * acc + (c.toNat - 48))
    rw [List.foldl_cons] at hle ⊢
    rw [parseUintM, if_pos hc, if_neg (by omega), if_neg (by omega)]
    rw [show acc * 10 + (c.toNat - 48) = 10 * acc + (c.toNat - 48) by omega]
    exact parseM_digits r M _ (fun x hx => hd x (by simp [hx])) hM hle
theorem parse_dec {u : Nat} (h : u < 9223372036854775808) : parseIntB 64 (decDigits u) = .ok (u : Int) := by
  have hpu : parseUintB 64 (decDigits u) = .ok u := by
    unfold parseUintB
    rw [if_neg (dec_ne u)]
    have := parseM_digits (decDigits u) (2 ^ 64 - 1) 0 (dec_digit u) (by decide) (by rw [show List.foldl _ 0 (decDigits u) = u from valD_dec u]; omega)
    rw [this]; exact congrArg _ (valD_dec u)
  obtain ⟨c, r, hcr⟩ : ∃ c r, decDigits u = c :: r := by
    rcases hd : decDigits u with _ | ⟨c, r⟩
    · exact absurd hd (dec_ne u)
    · exact ⟨c, r, rfl⟩
  have hc := dec_digit u c (by rw [hcr]; simp)
  rw [hcr] at hpu ⊢
  unfold parseIntB
  simp only
  rw [if_neg (by omega), hpu]
  simp only
  rw [if_neg (by omega), if_neg (by omega), if_neg (by omega)]

/-! pieces -/
/-- a text cut at a byte -/
def spl (c : UInt8) : List UInt8 → List (List UInt8)
  | [] => [[]]
  | b :: l => if b = c then [] :: spl c l else match spl c l with
    | [] => [[b]]
    | p :: ps => (b :: p) :: ps
theorem spl_ne (c : UInt8) (l : List UInt8) : spl c l ≠ [] := by
  cases l with
  | nil => simp [spl]
  | cons b l =>
    unfold spl
    by_cases h : b = c
    · rw [if_pos h]; simp
    · rw [if_neg h]
      cases spl c l <;> simp
theorem spl_none {c : UInt8} : ∀ {l : List UInt8}, c ∉ l → spl c l = [l]
  | [], _ => rfl
  | b :: l, h => by
    unfold spl
    rw [if_neg (fun e => h (by simp [e])), spl_none (fun hm => h (by simp [hm]))]
theorem spl_app {c : UInt8} : ∀ {p : List UInt8} (l : List UInt8), c ∉ p → spl c (p ++ c :: l) = p :: spl c l
  | [], l, _ => by simp [spl]
  | b :: p, l, h => by
    rw [List.cons_append]
    conv => lhs; unfold spl
    rw [if_neg (fun e => h (by simp [e])), spl_app (p := p) l (fun hm => h (by simp [hm]))]
/-- a piece put behind: the last piece grows -/
theorem spl_snoc_ne {c b : UInt8} (h : b ≠ c) : ∀ (l : List UInt8), ∃ ps p, spl c l = ps ++ [p] ∧ spl c (l ++ [b]) = ps ++ [p ++ [b]]
  | [] => ⟨[], [], rfl, by simp [spl, h]⟩
  | x :: l => by
    obtain ⟨ps, p, h1, h2⟩ := spl_snoc_ne h l
    rw [List.cons_append]
    unfold spl
    by_cases hx : x = c
    · rw [if_pos hx, if_pos hx, h1, h2]; exact ⟨[] :: ps, p, rfl, rfl⟩
    · rw [if_neg hx, if_neg hx, h1, h2]
      cases ps with
      | nil => exact ⟨[], x :: p, rfl, rfl⟩
      | cons q qs => exact ⟨(x :: q) :: qs, p, rfl, rfl⟩
theorem first_at {c : UInt8} : ∀ {l : List UInt8}, c ∈ l → ∃ p r, l = p ++ c :: r ∧ c ∉ p
  | [], h => by cases h
  | b :: l, h => by
    by_cases hb : b = c
    · exact ⟨[], l, by simp [hb], by simp⟩
    · obtain ⟨p, r, h1, h2⟩ := first_at (l := l) (by simpa [Ne.symm hb] using h)
      exact ⟨b :: p, r, by simp [h1], by simp [h2, Ne.symm hb]⟩
/-- the first piece, and whether there are more -/
theorem spl_cut (c : UInt8) (l : List UInt8) : (c ∉ l ∧ spl c l = [l]) ∨ ∃ p r, l = p ++ c :: r ∧ c ∉ p ∧ spl c l = p :: spl c r := by
  by_cases h : c ∈ l
  · obtain ⟨p, r, hl, hp⟩ := first_at h
    exact Or.inr ⟨p, r, hl, hp, by rw [hl]; exact spl_app r hp⟩
  · exact Or.inl ⟨h, spl_none h⟩

theorem index_mem_no {c : UInt8} {l : List UInt8} (h : c ∉ l) : index l [c] = -1 := by
  rw [index_one]
  rcases Int.lt_or_le (indexByte l c) 0 with h0 | h0
  · have := indexByte_ge l c; omega
  · obtain ⟨h1, _⟩ := indexByte_some (show indexByte l c = ((indexByte l c).toNat : Int) by omega)
    exact absurd (List.mem_of_getElem? h1) h
theorem index_mem_yes {c : UInt8} {p r : List UInt8} (h : c ∉ p) : index (p ++ c :: r) [c] = p.length := by
  rw [index_one]
  induction p with
  | nil => simp [indexByte]
  | cons b p ih =>
    have hb : b ≠ c := fun e => h (by simp [e])
    rw [List.cons_append, indexByte, ih (fun hm => h (by simp [hm]))]
    simp [hb]
    try omega
/-- the library's cutting of a text at one byte -/
theorem splitK_spl (c : UInt8) : ∀ (n : Nat) (l : List UInt8), l.length ≤ n → splitK [c] 0 (l.count c) l = spl c l
  | n, l, hn => by
    rcases spl_cut c l with ⟨h, e⟩ | ⟨p, r, rfl, hp, e⟩
    · rw [e, List.count_eq_zero.2 h]; rfl
    · rw [e]
      have hcnt : (p ++ c :: r).count c = r.count c + 1 := by rw [List.count_append, List.count_eq_zero.2 hp, List.count_cons_self]; omega
      rw [hcnt, splitK, index_mem_yes hp]
      rw [if_neg (by rw [beq_iff_eq]; omega)]
      simp only [Int.toNat_natCast, Nat.add_zero, List.take_left, List.length_singleton]
      rw [show (p ++ c :: r).drop (p.length + 1) = r by rw [← List.drop_drop, List.drop_left]; rfl]
      rw [List.length_append, List.length_cons] at hn
      cases n with
      | zero => omega
      | succ n => rw [splitK_spl c n r (by omega)]
theorem split_spl (c : UInt8) (l : List UInt8) : splitK [c] 0 (count l [c]) l = spl c l := by rw [count_one]; exact splitK_spl c _ l (Nat.le_refl _)
theorem cut_no {c : UInt8} {l : List UInt8} (h : c ∉ l) : cut l [c] = (l, [], false) := by
  unfold cut; rw [index_mem_no h, if_neg (by omega)]
theorem cut_yes {c : UInt8} {p r : List UInt8} (h : c ∉ p) : cut (p ++ c :: r) [c] = (p, r, true) := by
  unfold cut; rw [index_mem_yes h, if_pos (by omega)]
  simp only [Int.toNat_natCast, List.take_left, List.length_singleton]
  rw [show (p ++ c :: r).drop (p.length + 1) = r by rw [← List.drop_drop, List.drop_left]; rfl]
/-- pieces, a byte ahead of each -/
def glue (c : UInt8) : List (List UInt8) → List UInt8
  | [] => []
  | p :: ps => c :: p ++ glue c ps
/-- pieces, a byte between them -/
def joinC (c : UInt8) : List (List UInt8) → List UInt8
  | [] => []
  | p :: ps => p ++ glue c ps
theorem glue_append (c : UInt8) : ∀ (ps qs : List (List UInt8)), glue c (ps ++ qs) = glue c ps ++ glue c qs
  | [], _ => rfl
  | p :: ps, qs => by rw [List.cons_append, glue, glue, glue_append c ps qs, List.append_assoc]
theorem spl_glue (c : UInt8) (w : List UInt8) (hw : c ∉ w) : ∀ (ps : List (List UInt8)), (∀ p ∈ ps, c ∉ p) → spl c (w ++ glue c ps) = w :: ps
  | [], _ => by simp [glue, spl_none hw]
  | p :: ps, h => by
    rw [glue, List.cons_append, spl_app _ hw, spl_glue c p (h p (by simp)) ps (fun q hq => h q (by simp [hq]))]
theorem joinC_spl (c : UInt8) : ∀ (n : Nat) (l : List UInt8), l.length ≤ n → joinC c (spl c l) = l
  | n, l, hn => by
    rcases spl_cut c l with ⟨_, e⟩ | ⟨p, r, rfl, hp, e⟩
    · rw [e]; simp [joinC, glue]
    · rw [e, joinC]
      rw [List.length_append, List.length_cons] at hn
      cases n with
      | zero => omega
      | succ n =>
        have ih := joinC_spl c n r (by omega)
        cases hs : spl c r with
        | nil => exact absurd hs (spl_ne c r)
        | cons q qs => rw [hs, joinC] at ih; rw [glue, List.cons_append, ih]
theorem spl_joinC (c : UInt8) {ps : List (List UInt8)} (h0 : ps ≠ []) (h : ∀ p ∈ ps, c ∉ p) : spl c (joinC c ps) = ps := by
  cases ps with
  | nil => exact absurd rfl h0
  | cons p ps => exact spl_glue c p (h p (by simp)) ps (fun q hq => h q (by simp [hq]))
end Go.Proofs.YtojmikalnalfbaaGreatDoor

namespace Go.Proofs.YtojmikalnalfbaaGreatDoor
open Go.Lib Go.RowKit

/-- the word of a kind -/
def fword (k : Int) : List UInt8 :=
  if k = 1 then [102, 108, 105, 112] else if k = 2 then [105, 110, 118, 101, 114, 116] else if k = 3 then [100, 114, 111, 112]
  else if k = 4 then [105, 110, 115, 101, 114, 116] else if k = 5 then [115, 105, 108, 101, 110, 99, 101] else [114, 101, 112, 108, 97, 99, 101]
/-- the numbers of a fault's text -/
def fnums (f : Flt) : List Nat := f.pos.toNat :: ((if hasLen f.kd then [f.len.toNat] else []) ++ (if hasVal f.kd then [f.val.toNat] else []))
/-- the text of a valid fault -/
def ftxtL (f : Flt) : List UInt8 := fword f.kd ++ glue 32 ((fnums f).map decDigits)
/-- the text of a fault: empty where it is not valid -/
def ftxt (f : Flt) : List UInt8 := if isFault f then ftxtL f else []

theorem fword_no {k : Int} {c : UInt8} (hc : c.toNat < 97) : c ∉ fword k := by
  intro h
  have : ∀ x ∈ fword k, 97 ≤ x.toNat := by
    unfold fword
    repeat' split
    all_goals decide
  have := this c h; omega
theorem fword_ne (k : Int) : fword k ≠ [] := by
  unfold fword
  repeat' split
  all_goals simp
theorem dec_no {u : Nat} {c : UInt8} (hc : c.toNat < 48 ∨ 57 < c.toNat) : c ∉ decDigits u := by
  intro h
  have := dec_digit u c h
  omega
theorem nums_no (L : List Nat) : ∀ p ∈ L.map decDigits, (32 : UInt8) ∉ p := by
  intro p hp
  rw [List.mem_map] at hp
  obtain ⟨u, _, rfl⟩ := hp
  exact dec_no (Or.inl (by decide))
theorem spl_ftxt (f : Flt) : spl 32 (ftxtL f) = fword f.kd :: (fnums f).map decDigits := spl_glue 32 _ (fword_no (by decide)) _ (nums_no _)
theorem ftxtL_ne (f : Flt) : ftxtL f ≠ [] := by
  unfold ftxtL
  intro h
  exact fword_ne f.kd (List.append_eq_nil_iff.1 h).1
theorem cut_ftxt (f : Flt) : ∃ r, ftxtL f = fword f.kd ++ 32 :: r ∧ spl 32 r = (fnums f).map decDigits := by
  refine ⟨decDigits f.pos.toNat ++ glue 32 (((if hasLen f.kd then [f.len.toNat] else []) ++ (if hasVal f.kd then [f.val.toNat] else [])).map decDigits), ?_, ?_⟩
  · unfold ftxtL fnums
    rw [List.map_cons, glue]; rfl
  · unfold fnums
    rw [List.map_cons]
    exact spl_glue 32 _ (dec_no (Or.inl (by decide))) _ (nums_no _)

theorem isFault_fields {f : Flt} (h : isFault f = true) : 1 ≤ f.kd ∧ f.kd ≤ 6 ∧ 0 ≤ f.pos ∧ f.pos ≤ 8192 ∧ 0 ≤ f.len ∧ f.len ≤ 8192 ∧ 0 ≤ f.val ∧ f.val ≤ 1 ∧ (hasLen f.kd = false → f.len = 0) ∧ (hasVal f.kd = false → f.val = 0) := by
  unfold isFault at h
  simp only [Bool.and_eq_true, inR_iff] at h
  obtain ⟨h1, h2, h3, h4⟩ := h
  rcases Bool.eq_false_or_eq_true (hasLen f.kd) with hl | hl <;> rcases Bool.eq_false_or_eq_true (hasVal f.kd) with hv | hv
  all_goals
    simp only [hl, hv, if_true, if_false, Bool.false_eq_true, decide_eq_true_eq, inR_iff] at h3 h4
    simp only [hl, hv]
    refine ⟨by omega, by omega, by omega, by omega, by omega, by omega, by omega, by omega, ?_, ?_⟩
  all_goals (intro hh; first | omega | cases hh)

theorem map_dec_inj : ∀ {L M : List Nat}, L.map decDigits = M.map decDigits → L = M
  | [], [], _ => rfl
  | [], _ :: _, h => by cases h
  | _ :: _, [], h => by cases h
  | a :: L, b :: M, h => by
    rw [List.map_cons, List.map_cons, List.cons.injEq] at h
    rw [dec_inj h.1, map_dec_inj h.2]
theorem fword_inj {a b : Int} (ha : 1 ≤ a ∧ a ≤ 6) (hb : 1 ≤ b ∧ b ≤ 6) (h : fword a = fword b) : a = b := by
  have ca : a = 1 ∨ a = 2 ∨ a = 3 ∨ a = 4 ∨ a = 5 ∨ a = 6 := by omega
  have cb : b = 1 ∨ b = 2 ∨ b = 3 ∨ b = 4 ∨ b = 5 ∨ b = 6 := by omega
  rcases ca with rfl | rfl | rfl | rfl | rfl | rfl <;> rcases cb with rfl | rfl | rfl | rfl | rfl | rfl
  all_goals first | rfl | exact absurd h (by decide)
theorem kd_flags {k : Int} (h : 1 ≤ k ∧ k ≤ 6) : (hasLen k = false ∧ hasVal k = false) ∨ (hasLen k = true ∧ hasVal k = false) ∨ (hasLen k = true ∧ hasVal k = true) := by
  have ca : k = 1 ∨ k = 2 ∨ k = 3 ∨ k = 4 ∨ k = 5 ∨ k = 6 := by omega
  rcases ca with rfl | rfl | rfl | rfl | rfl | rfl <;> decide
theorem flt_ext {f g : Flt} (h1 : f.kd = g.kd) (h2 : f.pos = g.pos) (h3 : f.len = g.len) (h4 : f.val = g.val) : f = g := by
  cases f; cases g; simp_all
/-- the numbers of a valid fault, in place -/
theorem fnums_get {f : Flt} (h : isFault f = true) : (fnums f).length ≤ 3 ∧ f.pos = ((fnums f).getD 0 0 : Nat) ∧ f.len = ((fnums f).getD 1 0 : Nat) ∧ f.val = ((fnums f).getD 2 0 : Nat) := by
  obtain ⟨a1, a2, a3, a4, a5, a6, a7, a8, a9, a10⟩ := isFault_fields h
  rcases kd_flags ⟨a1, a2⟩ with ⟨hl, hv⟩ | ⟨hl, hv⟩ | ⟨hl, hv⟩
  all_goals
    simp only [fnums, hl, hv, if_true, if_false, Bool.false_eq_true, List.append_nil, List.nil_append, List.cons_append]
    simp
    simp only [hl, hv] at a9 a10
    try have := a9 trivial
    try have := a10 trivial
    omega
theorem ftxtL_inj {f g : Flt} (hf : isFault f = true) (hg : isFault g = true) (h : ftxtL f = ftxtL g) : f = g := by
  have e := spl_ftxt f
  rw [h, spl_ftxt g, List.cons.injEq] at e
  obtain ⟨a1, a2, _⟩ := isFault_fields hf
  obtain ⟨b1, b2, _⟩ := isFault_fields hg
  have hk := fword_inj ⟨b1, b2⟩ ⟨a1, a2⟩ e.1
  have hn := map_dec_inj e.2
  obtain ⟨_, p1, p2, p3⟩ := fnums_get hf
  obtain ⟨_, q1, q2, q3⟩ := fnums_get hg
  rw [← hn] at p1 p2 p3
  exact flt_ext hk.symm (p1.trans q1.symm) (p2.trans q2.symm) (p3.trans q3.symm)
theorem fnums_le {f : Flt} (h : isFault f = true) : ∀ u ∈ fnums f, u ≤ 8192 := by
  obtain ⟨a1, a2, a3, a4, a5, a6, a7, a8, a9, a10⟩ := isFault_fields h
  rcases kd_flags ⟨a1, a2⟩ with ⟨hl, hv⟩ | ⟨hl, hv⟩ | ⟨hl, hv⟩
  all_goals
    intro u hu
    simp only [fnums, hl, hv, if_true, if_false, Bool.false_eq_true, List.append_nil, List.nil_append, List.cons_append, List.mem_cons, List.not_mem_nil, or_false] at hu
    omega

open Classical in
/-- what ReadFault answers: the valid fault with this text, and whether there is one -/
noncomputable def rdF (s : List UInt8) : Flt × Bool := if h : ∃ f, isFault f = true ∧ ftxtL f = s then (h.choose, true) else (⟨0, 0, 0, 0⟩, false)
theorem rdF_yes {s : List UInt8} {f : Flt} (hf : isFault f = true) (h : ftxtL f = s) : rdF s = (f, true) := by
  have hex : ∃ f, isFault f = true ∧ ftxtL f = s := ⟨f, hf, h⟩
  unfold rdF
  rw [dif_pos hex]
  rw [ftxtL_inj hex.choose_spec.1 hf (hex.choose_spec.2.trans h.symm)]
theorem rdF_no {s : List UInt8} (h : ∀ f, isFault f = true → ftxtL f ≠ s) : rdF s = (⟨0, 0, 0, 0⟩, false) := by
  unfold rdF
  rw [dif_neg (by rintro ⟨f, h1, h2⟩; exact h f h1 h2)]
theorem rdF_cases (s : List UInt8) : (∃ f, isFault f = true ∧ ftxtL f = s ∧ rdF s = (f, true)) ∨ ((∀ f, isFault f = true → ftxtL f ≠ s) ∧ rdF s = (⟨0, 0, 0, 0⟩, false)) := by
  by_cases h : ∃ f, isFault f = true ∧ ftxtL f = s
  · obtain ⟨f, h1, h2⟩ := h
    exact Or.inl ⟨f, h1, h2, rdF_yes h1 h2⟩
  · have h' : ∀ f, isFault f = true → ftxtL f ≠ s := fun f h1 h2 => h ⟨f, h1, h2⟩
    exact Or.inr ⟨h', rdF_no h'⟩
end Go.Proofs.YtojmikalnalfbaaGreatDoor
