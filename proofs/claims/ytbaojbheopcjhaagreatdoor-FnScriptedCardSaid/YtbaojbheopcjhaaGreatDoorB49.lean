/- Walks, laws and small notions for the claims of this seat, several texts as one (Dcm, DrN, DrNA). Conditions: as each theorem states them. -/
import Derived.Test.YtbaojbheopcjhaaGreatDoorB48
import Derived.Laws.IdiomStrings
import Derived.Laws.BytesString
import Derived.Laws.Concat
import Derived.Deep.RegionLaw
import Derived.Handy
import Derived.IntWalk
import Derived.Test.YtbaojbheopcjhaaGreatDoorB11
namespace Go.Proofs.YtbaojbheopcjhaaGreatDoor
open Go.Lib Go.RowKit
theorem conv1d (w : World) (b : Nat) (x : Int) (h : w.cell? ⟨b, 0, none⟩ = some (.int .u8 x)) :
    Sem.run Tryz.prog (convert 22 9 (.slice (some ⟨b, 0, none⟩) 1 1)) w = .ok (.string ⟨#[UInt8.ofNat x.toNat]⟩) w := by
  have := run_convert_bytes_arg (P := Tryz.prog) w 22 5 Tryz.underlying22 Tryz.underlying5 b 0 1 1 [x] rfl (fun i hi => by
    have : i = 0 := by omega
    subst this; exact h) 9 Tryz.underlying9
  rw [this]; rfl

set_option maxRecDepth 20000 in
set_option maxHeartbeats 4000000 in
theorem decS_one (u : Nat) (w : World) (hlt : u < 10) :
    Calls Tryz.prog 216 #[.int .i64 (u : Int)] w fun e w' => ∃ s : ByteArray, e = .returned (.string s) ∧ s.size = 1 ∧ Below w.heap.size w w' := by
  have hcv := conv1d
  go_enter Tryz.func216, Tryz.ntmps216
  go_wp2_with fail
  go_ret
  exact ⟨_, rfl, rfl, by go_grown⟩
set_option maxRecDepth 20000 in
set_option maxHeartbeats 4000000 in
theorem decS_any (u : Nat) (w : World) (hu : u < 100) :
    Calls Tryz.prog 216 #[.int .i64 (u : Int)] w fun e w' => ∃ s : ByteArray, e = .returned (.string s) ∧ s.size ≤ 2 ∧ Below w.heap.size w w' := by
  rcases Nat.lt_or_ge u 10 with hlt | hge
  · refine (decS_one u w hlt).mono ?_
    rintro e w' ⟨s, rfl, hs, hb⟩
    exact ⟨s, rfl, by omega, hb⟩
  · have hcv := conv1d
    obtain ⟨q, hq⟩ : ∃ q, u / 10 = q := ⟨_, rfl⟩
    obtain ⟨r, hr⟩ : ∃ r, u % 10 = r := ⟨_, rfl⟩
    have hr10 : r < 10 := by omega
    have hq10 : q < 10 := by omega
    have hlt : ¬ u < 10 := by omega
    have hw1 : IntKind.i64.wrap ((u : Int) / 10) = (q : Int) := by rw [IntWalk.i64_in _ (by omega)]; omega
    have hw2 : ((u : Int)).tmod 10 = (r : Int) := by rw [Int.tmod_eq_emod_of_nonneg (by omega)]; omega
    have hr11 : (r : Int) < 10 := by omega
    have hr12 : (0 : Int) ≤ r := by omega
    have hw3 : IntKind.i64.wrap (48 + (r : Int)) = 48 + (r : Int) := IntWalk.i64_in _ (by omega)
    have hw4 : IntKind.u8.wrap (48 + (r : Int)) = 48 + (r : Int) := by rw [IntKind.wrap_u8]; omega
    have HI := Lib.hid (fun (v : World) => decS_one q v hq10)
    clear hq hr hu hge
    go_enter Tryz.func216, Tryz.ntmps216
    go_wp2_with fail
    go_region_law (first | (go_simp; (refine (HI.out _).mono ?_); rintro e cc ⟨s, rfl, hs, hb⟩; (have hnd : ¬ 9223372036854775807 < s.size + 1 := by omega); (try (have kk := (BlkL.next hb (BlkL.new _ _ _ rfl)).c 0 rfl))))
    all_goals
      go_wp2_with fail
      go_ret
      refine ⟨_, rfl, by rw [ByteArray.size_append]; show s.size + 1 ≤ 2; omega, ?_⟩
      first
      | exact below_next hb (Below.refl _ _).drew (Nat.le_refl _)
      | exact below_next hb (below_alloc (Below.refl _ _) (Nat.le_refl _) _).drew (by simp)
      | (have hb2 := below_next hb (Below.refl _ _).drew (Nat.le_refl _); exact below_alloc hb2 (Nat.le_refl _) _)
end Go.Proofs.YtbaojbheopcjhaaGreatDoor

namespace Go.Proofs.YtbaojbheopcjhaaGreatDoor
open Go.RowKit
section
variable {P : Program} {ops : Array Oper} {rest : List Oper} {o : Oper} {a : Act} {Q : Exit → Act → World → Prop} {α : Type}
/-- 'out = append(out, y)' on a row of elements of the call's own, y in a block that has just been made -/
theorem wpl_appG (enc : α → List Value) (sz : Nat) (hk : ∀ x, (enc x).length = sz) (h1c : ∀ x, ∀ u ∈ enc x, u.oneCell' = true) (W : World) (t1 : TypeId) {TS T : TypeId} {z : Value} {bytes : Nat}
    (ht : P.underlying TS = some (.slice T)) (hinfo : (P.info? T).map (fun i => (i.zero, i.size, i.bytes)) = some (some z, sz, bytes)) (hzs : z.cells.size = sz) (hsz : 0 < sz) (hby : bytes ≤ 128)
    (hgd : o.guard = none) (s x : Operand) (ho : o.op = .call { callee := .builtin .append, args := #[s, x], argTypes := #[TS, TS] })
    (base : Nat) (A : Option Addr) (n c : Nat) (zs : List α) (hs : a.eval s = .slice A n c) (hown : OwnE enc sz T W base A n c zs)
    (y : α) (hx : a.eval x = .slice (some ⟨W.heap.size, 0, none⟩) 1 1) (L : Array Value) (hL : L = (enc y).toArray)
    (hn : n + 1 ≤ 1099511627776) (hbase : base ≤ W.heap.size)
    (h : ∀ A' c' w', OwnE enc sz T w' base A' (n + 1) c' (zs ++ [y]) → (∀ B, B ≤ base → Below B W w') → W.grownBy w' (Value.slice A n c).ownBlock → wpList P ops Q rest (a.put o.dst (.slice A' (n + 1) c')) w') :
    wpList P ops Q (o :: rest) a (W.alloc (.cells L t1)) := by
  subst hL
  refine wpl_app1E enc sz hk h1c _ ht hinfo hzs hsz hby hgd s x ho base A n c zs hs (hown.alloc _) ⟨W.heap.size, 0, none⟩ 1 y hx ?_ hn (by rw [isz_alloc]; omega) ?_
  · intro j u hu
    have hx' := new_heap W (.cells (enc y).toArray t1)
    rw [Go.WideShapes.add_plain, Nat.zero_add]
    unfold World.cell?
    rw [hx']
    simpa using hu
  · intro A' c' w' hown' hg
    refine h A' c' w' hown' (fun B hB => ?_) (grown_tr (World.grownBy_alloc W _ _) hg)
    exact ((Below.refl B W).alloc (Nat.le_trans hB hbase) _).grown hg (by rw [isz_alloc]; omega) (fun g e => Nat.le_trans hB (hown.row g e).1)
end
theorem Dr.appG {α : Type} {enc : α → List Value} {sz : Nat} {T : TypeId} {A : Option Addr} {n c : Nat} {fs : List α} {w0 w w' : World} {g : Nat} (h : Dr w0 g w) (hown : OwnE enc sz T w w0.heap.size A n c fs) (hg : w.grownBy w' (Value.slice A n c).ownBlock) (hl : g < w0.heap.size) : Dr w0 g w' :=
  h.own hg (fun j e => (hown.row j e).1) hl
theorem encNd_one (x : Nd) : ∀ u ∈ encNd x, u.oneCell' = true := by
  intro u hu
  simp [encNd] at hu
  rcases hu with rfl | rfl | rfl | rfl <;> rfl
/-- small entries: what a drawn table's nodes keep -/
def NdOk (x : Nd) : Prop := x.nm.size ≤ 30 ∧ 0 ≤ x.id ∧ x.id ≤ 31
/-- a drawn table of nodes -/
def DrN (w : World) (g : Nat) (e : Ending) (w' : World) : Prop :=
  ∃ (A : Option Addr) (n c : Nat) (l : List Nd), e = .returned (.slice A n c) ∧ OwnE encNd 4 84 w' w.heap.size A n c l ∧ 1 ≤ n ∧ n ≤ 4 ∧ (∀ x ∈ l, NdOk x) ∧ Dr w g w'
set_option maxRecDepth 6000 in
set_option maxHeartbeats 8000000 in
theorem drawNodes_any (g : Nat) (w : World) (h : Src w g) :
    Calls Tryz.prog 183 #[.pointer (some ⟨g, 0, none⟩)] w (DrN w g) := by
  have hl := h.lt
  go_enter Tryz.func183, Tryz.ntmps183
  go_wp2_with fail
  refine (next_any g 2 _ ((Dr.refl h).alloc _).src).mono ?_
  rintro e w1 ⟨x, rfl, hx, d1⟩
  have hown1 := (OwnE.empty (enc := encNd) (sz := 4) (T := 84) w (base := w.heap.size) (Nat.le_refl _)).dr d1 hl
  have D1 := Lib.hid (d1.next ((Dr.refl h).alloc _))
  have hx1 : x ≤ 1 := by omega
  clear d1 hx
  go_wp2_with fail
  refine (next_any g 4 _ D1.out.src).mono ?_
  rintro e w2 ⟨y, rfl, hy, d2⟩
  have O2 := Lib.hid (hown1.dr d2 hl)
  have D2 := Lib.hid (d2.next D1.out)
  have hy4 : y < 4 := by omega
  clear d2 hy hown1 D1
  go_wp2_with fail
  go_loopw [3, 4, 5] (fun o i q wr => ∃ (m k r : Nat) (A' : Option Addr) (c' : Nat) (l : List Nd), m + r = 1 + y ∧ k ≤ 1 + 3 * m ∧ o = .slice A' m c' ∧ i = .int .i64 k ∧ q = .int .i64 r ∧ OwnE encNd 4 84 wr w.heap.size A' m c' l ∧ (∀ x ∈ l, NdOk x) ∧ Dr w g wr) (fun _ _ q _ => (intOf q).toNat)
  case atStart => exact ⟨0, x, 1 + y, _, _, [], by omega, by omega, rfl, rfl, vint (by omega), O2.out, fun x hx => by simp at hx, D2.out⟩
  case round =>
    clear O2 D2
    obtain ⟨m, k, r, A', c', l, hmr, hkm, rfl, rfl, rfl, hown, hok, d⟩ := hrel
    have O3 := Lib.hid hown
    have D3 := Lib.hid d
    have OK := Lib.hid hok
    clear hown d hok
    by_cases hq : 0 < r
    · go_wp2_with fail
      refine (decS_any k _ (by omega)).mono ?_
      rintro e w3 ⟨s, rfl, hs, hb3⟩
      have O4 := Lib.hid (O3.out.below hb3)
      have D4 := Lib.hid (Dr.below hb3 D3.out)
      have hnd : ¬ 9223372036854775807 < 1 + s.size := by omega
      clear hb3 O3 D3
      go_wp2_with fail
      refine (next_any g 200 _ D4.out.src).mono ?_
      rintro e w4 ⟨z, rfl, hz, d5⟩
      have O5 := Lib.hid (O4.out.dr d5 hl)
      have D5 := Lib.hid (d5.next D4.out)
      clear d5 hz O4 D4
      go_wp2_with fail
      refine (next_any g 5 _ D5.out.src).mono ?_
      rintro e w5 ⟨v, rfl, hv, d6⟩
      have O6 := Lib.hid (O5.out.dr d6 hl)
      have D6 := Lib.hid (d6.next D5.out)
      clear d6 hv O5 D5
      obtain ⟨V, hV⟩ : ∃ V, ((v : Int) == 0) = V := ⟨_, rfl⟩
      obtain ⟨S, hS⟩ : ∃ S, (⟨#[110]⟩ : ByteArray) ++ s = S := ⟨_, rfl⟩
      have hSs : S.size ≤ 3 := by rw [← hS, ByteArray.size_append]; show 1 + s.size ≤ 3; omega
      go_wp2_with (first | rw [hV] | rw [hS] | (at_builtin; refine wpl_appG encNd 4 encNd_len encNd_one _ _ Tryz.underlying24 infoNode rfl (by omega) (by omega) rfl _ _ rfl w.heap.size _ m _ _ rfl O6.out ⟨k, S, z, V⟩ rfl _ rfl (by omega) D6.out.size ?_; intro A7 c7 w7 hown7 hB7 hg7))
      have O7 := Lib.hid hown7
      have D7 := Lib.hid (D6.out.appG O6.out hg7 hl)
      clear hown7 hB7 hg7 O6 D6
      go_wp2_with fail
      refine (next_any g 3 _ D7.out.src).mono ?_
      rintro e w8 ⟨u, rfl, hu, d8⟩
      have O8 := Lib.hid (O7.out.dr d8 hl)
      have D8 := Lib.hid (d8.next D7.out)
      have hu3 : u < 3 := by omega
      clear d8 hu O7 D7
      go_wp2_with fail
      go_roundw
      case rel => exact ⟨m + 1, k + 1 + u, r - 1, A7, c7, _, by omega, by omega, rfl, vint (by omega), by congr 1; omega, O8.out, fun x hx => by
        rcases List.mem_append.1 hx with h1 | h1
        · exact OK.out x h1
        · rw [List.mem_singleton] at h1; subst h1; exact ⟨by show S.size ≤ 30; omega, by show (0 : Int) ≤ (k : Int); omega, by show (k : Int) ≤ 31; omega⟩, D8.out⟩
      case measure => simp [intOf]; omega
    · obtain rfl : r = 0 := by omega
      have HM := Lib.hid hmr
      clear hmr
      go_wp2
      go_ret
      exact ⟨_, m, c', l, rfl, O3.out, by have := HM.out; omega, by have := HM.out; omega, OK.out, D3.out⟩
end Go.Proofs.YtbaojbheopcjhaaGreatDoor

namespace Go.Proofs.YtbaojbheopcjhaaGreatDoor
open Go.RowKit
theorem lit_vals {w w' : World} {g : Nat} {L : Array Value} {t : TypeId} (hg : (w.alloc (.cells L t)).grownBy w' (some g)) (hl : g < w.heap.size) {j : Nat} {u : Value} (hu : L[j]? = some u) :
    w'.cell? ⟨w.heap.size, j, none⟩ = some u := by
  refine World.grownBy.cell hg ?_ (fun e => by injection e with e; dsimp only at e; omega)
  have hx' := new_heap w (.cells L t)
  unfold World.cell?
  rw [hx']
  exact hu
/-- a drawn list of nodes -/
def DrNA (w : World) (g : Nat) (e : Ending) (w' : World) : Prop :=
  ∃ (A : Option Addr) (n c : Nat) (l : List Nd), e = .returned (.slice A n c) ∧ OwnE encNd 4 84 w' w.heap.size A n c l ∧ n ≤ 5 ∧ (∀ x ∈ l, x.nm.size ≤ 30) ∧ Dr w g w'
theorem mem_set_nm {l : List Nd} {k : Nat} {y : Nd} (h : ∀ x ∈ l, x.nm.size ≤ 30) (hy : y.nm.size ≤ 30) : ∀ x ∈ l.set k y, x.nm.size ≤ 30 := by
  intro x hx
  rcases List.mem_or_eq_of_mem_set hx with h1 | rfl
  · exact h x h1
  · exact hy

set_option maxRecDepth 6000 in
set_option maxHeartbeats 8000000 in
theorem drawNodesAny_any (g : Nat) (w : World) (h : Src w g) :
    Calls Tryz.prog 126 #[.pointer (some ⟨g, 0, none⟩)] w (DrNA w g) := by
  have hl := h.lt
  go_enter Tryz.func126, Tryz.ntmps126
  go_wp2_with fail
  refine (drawNodes_any g _ h).mono ?_
  rintro e w1 ⟨A, n, c, l, rfl, ho, hn1, hn4, hok, d1⟩
  have O1 := Lib.hid ho
  have D1 := Lib.hid d1
  have OK := Lib.hid (show ∀ x ∈ l, x.nm.size ≤ 30 from fun x hx => (hok x hx).1)
  clear ho d1 hok
  go_wp2_with fail
  refine (next_any g n _ D1.out.src).mono ?_
  rintro e w2 ⟨k, rfl, hk, d2⟩
  have O2 := Lib.hid (O1.out.dr d2 hl)
  have D2 := Lib.hid (d2.next D1.out)
  have hkn : k < n := by omega
  clear d2 hk O1 D1
  go_wp2_with fail
  refine (next_any g 24 _ D2.out.src).mono ?_
  rintro e w3 ⟨x, rfl, hx, d3⟩
  have O3 := Lib.hid (O2.out.dr d3 hl)
  have D3 := Lib.hid (d3.next D2.out)
  clear d3 hx O2 D2
  obtain ⟨b, rfl, hb1, hb2⟩ := O3.out.form (by omega)
  have hki : (k : Int) < (n : Int) := by omega
  have hkl : k < l.length := by rw [O3.out.len]; exact hkn
  by_cases h0 : x = 0
  case pos =>
    subst h0
    go_wp2_with fail
    refine (next_any g 3 _ (D3.out.alloc _).src).mono ?_
    rintro e w4 ⟨y, rfl, hy, d4⟩
    obtain ⟨u, _, hc⟩ := pick_cell (L := [-1, 31, 32]) d4.gr D3.out.lt (x := y) (by simp; omega)
    have hb_y : y < 3 := by omega
    have O4 := Lib.hid ((O3.out.alloc _).dr d4 hl)
    have D4 := Lib.hid (d4.next (D3.out.alloc _))
    clear d4 hy O3 D3
    have hfr := O4.out.frozen
    have ho0 := O4.out.cell encNd_len hkn (j := 0) (by omega)
    simp only [encNd, Nat.add_zero, List.getElem?_cons_zero] at ho0
    have hst := O4.out.stored encNd_len k 0 (.int .i64 u) ⟨u, (ge l k).nm, (ge l k).dr, (ge l k).ps⟩ hkn (by omega) rfl
    have HST := Lib.hid hst
    clear hst
    go_wp2_with fail
    go_ret
    exact ⟨_, n, c, l.set k ⟨u, (ge l k).nm, (ge l k).dr, (ge l k).ps⟩, rfl, by first | exact HST.out.1 | (have := HST.out.1; simp only [Nat.add_zero] at this; exact this), by omega, mem_set_nm OK.out (show (ge l k).nm.size ≤ 30 from OK.out _ (mem_ge hkl)), D4.out.set hb1 hl _⟩
  have b0 : ((x : Int) == 0) = false := by simp; omega
  by_cases h1 : x = 1
  case pos =>
    subst h1
    go_wp2_with fail
    refine (next_any g 5 _ (D3.out.alloc _).src).mono ?_
    rintro e w4 ⟨y, rfl, hy, d4⟩
    obtain ⟨u, hus, hc⟩ : ∃ u : ByteArray, u.size ≤ 30 ∧ w4.cell? ⟨w3.heap.size, y, none⟩ = some (.string u) := by
      rcases (show y = 0 ∨ y = 1 ∨ y = 2 ∨ y = 3 ∨ y = 4 by omega) with rfl | rfl | rfl | rfl | rfl
      · exact ⟨⟨#[]⟩, by decide, lit_vals d4.gr D3.out.lt rfl⟩
      · exact ⟨⟨#[115, 101, 118, 101, 110, 110, 55]⟩, by decide, lit_vals d4.gr D3.out.lt rfl⟩
      · exact ⟨⟨#[115, 105, 120, 120, 120, 54]⟩, by decide, lit_vals d4.gr D3.out.lt rfl⟩
      · exact ⟨⟨#[78, 49]⟩, by decide, lit_vals d4.gr D3.out.lt rfl⟩
      · exact ⟨⟨#[110, 48]⟩, by decide, lit_vals d4.gr D3.out.lt rfl⟩
    have hb_y : y < 5 := by omega
    have O4 := Lib.hid ((O3.out.alloc _).dr d4 hl)
    have D4 := Lib.hid (d4.next (D3.out.alloc _))
    clear d4 hy O3 D3
    have hfr := O4.out.frozen
    have ho1 := O4.out.cell encNd_len hkn (j := 1) (by omega)
    simp only [encNd, List.getElem?_cons_zero, List.getElem?_cons_succ] at ho1
    have hst := O4.out.stored encNd_len k 1 (.string u) ⟨(ge l k).id, u, (ge l k).dr, (ge l k).ps⟩ hkn (by omega) rfl
    have HST := Lib.hid hst
    clear hst
    go_wp2_with fail
    go_ret
    exact ⟨_, n, c, l.set k ⟨(ge l k).id, u, (ge l k).dr, (ge l k).ps⟩, rfl, by first | exact HST.out.1 | (have := HST.out.1; simp only [Nat.add_zero] at this; exact this), by omega, mem_set_nm OK.out hus, D4.out.set hb1 hl _⟩
  have b1 : ((x : Int) == 1) = false := by simp; omega
  by_cases h2 : x = 2
  case pos =>
    subst h2
    go_wp2_with fail
    refine (next_any g 3 _ (D3.out.alloc _).src).mono ?_
    rintro e w4 ⟨y, rfl, hy, d4⟩
    obtain ⟨u, _, hc⟩ := pick_cell (L := [-1, 1000, 1001]) d4.gr D3.out.lt (x := y) (by simp; omega)
    have hb_y : y < 3 := by omega
    have O4 := Lib.hid ((O3.out.alloc _).dr d4 hl)
    have D4 := Lib.hid (d4.next (D3.out.alloc _))
    clear d4 hy O3 D3
    have hfr := O4.out.frozen
    have ho2 := O4.out.cell encNd_len hkn (j := 2) (by omega)
    simp only [encNd, List.getElem?_cons_zero, List.getElem?_cons_succ] at ho2
    have hst := O4.out.stored encNd_len k 2 (.int .i64 u) ⟨(ge l k).id, (ge l k).nm, u, (ge l k).ps⟩ hkn (by omega) rfl
    have HST := Lib.hid hst
    clear hst
    go_wp2_with fail
    go_ret
    exact ⟨_, n, c, l.set k ⟨(ge l k).id, (ge l k).nm, u, (ge l k).ps⟩, rfl, by first | exact HST.out.1 | (have := HST.out.1; simp only [Nat.add_zero] at this; exact this), by omega, mem_set_nm OK.out (show (ge l k).nm.size ≤ 30 from OK.out _ (mem_ge hkl)), D4.out.set hb1 hl _⟩
  have b2 : ((x : Int) == 2) = false := by simp; omega
  by_cases h3 : x = 3
  case pos =>
    subst h3
    have hfr := O3.out.frozen
    have ho0 := O3.out.cell encNd_len hkn (j := 0) (by omega)
    have ho1 := O3.out.cell encNd_len hkn (j := 1) (by omega)
    have ho2 := O3.out.cell encNd_len hkn (j := 2) (by omega)
    have ho3 := O3.out.cell encNd_len hkn (j := 3) (by omega)
    simp only [encNd, Nat.add_zero, List.getElem?_cons_zero, List.getElem?_cons_succ] at ho0 ho1 ho2 ho3
    go_wp2_with (at_builtin; refine wpl_appG encNd 4 encNd_len encNd_one _ _ Tryz.underlying24 infoNode rfl (by omega) (by omega) rfl _ _ rfl w.heap.size _ n _ _ rfl O3.out (ge l k) rfl _ rfl (by omega) D3.out.size ?_; intro A7 c7 w7 hown7 hB7 hg7)
    go_ret
    exact ⟨A7, n + 1, c7, _, rfl, hown7, by omega, fun x hx => by
      rcases List.mem_append.1 hx with h1 | h1
      · exact OK.out x h1
      · rw [List.mem_singleton] at h1; subst h1; exact OK.out _ (mem_ge hkl), D3.out.appG O3.out hg7 hl⟩
  have b3 : ((x : Int) == 3) = false := by simp; omega
  by_cases h4 : x = 4
  case pos =>
    subst h4
    go_wp2_with fail
    go_ret
    exact ⟨none, 0, 0, [], rfl, OwnE.nil _ _ _ _ _, by omega, fun x hx => absurd hx List.not_mem_nil, D3.out⟩
  have b4 : ((x : Int) == 4) = false := by simp; omega
  go_wp2_with fail
  go_ret
  exact ⟨_, n, c, l, rfl, O3.out, by omega, OK.out, D3.out⟩
end Go.Proofs.YtbaojbheopcjhaaGreatDoor
