/- Walks, laws and small notions for the claims of this seat, several texts as one (DrMA, DrVs). Conditions: as each theorem states them. -/
import Derived.Test.YtbaojbheopcjhaaGreatDoorB53
import Derived.Deep.RegionLaw
import Derived.BigQuiet
import Derived.Test.YtbaojbheopcjhaaGreatDoorB11
namespace Go.Proofs.YtbaojbheopcjhaaGreatDoor
open Go.RowKit
theorem new_cell (W : World) (y : Int) (t : TypeId) : (W.alloc (.cells #[.int .i64 y] t)).cell? ⟨W.heap.size, 0, none⟩ = some (.int .i64 y) := by
  have hx' := new_heap W (.cells #[.int .i64 y] t)
  unfold World.cell?
  rw [hx']
  rfl
/-- 'out = append(out, y)' as a step of a region that draws -/
theorem step_appJ {P : Program} {ops : Array Oper} {o : Oper} {a : Act} {W : World} {K : Act → World → Prop} {Q : Exit → Act → World → Prop} {E : Prop} {TS T : TypeId}
    (ht : P.underlying TS = some (.slice T)) (hinfo : (P.info? T).map (fun i => (i.zero, i.size, i.bytes)) = some (some (.int .i64 0), 1, 8))
    (hgd : o.guard = none) (s x : Operand) (ho : o.op = .call { callee := .builtin .append, args := #[s, x], argTypes := #[TS, TS] })
    (base : Nat) (A : Option Addr) (n c : Nat) (zs : List Int) (hs : a.eval s = .slice A n c) (hown : OwnI T W base A n c zs)
    (ad : Addr) (c' : Nat) (y : Int) (hx : a.eval x = .slice (some ad) 1 c') (hcell : W.cell? ad = some (.int .i64 y))
    (hn : n + 1 ≤ 1099511627776) (hbase : base ≤ W.heap.size)
    (h : ∀ A' c' w', OwnI T w' base A' (n + 1) c' (zs ++ [y]) → W.grownBy w' (Value.slice A n c).ownBlock → K (a.put o.dst (.slice A' (n + 1) c')) w') :
    if Region.wanted o (yielded ops a.tmps) = true then Oper.wp P o a W K Q else E := by
  have hw : Region.wanted o (yielded ops a.tmps) = true := by simp [Region.wanted, hgd]
  rw [if_pos hw]
  obtain ⟨i, hi, hz, hs1, hb1⟩ := info_split hinfo
  refine wp_append_own W s x TS ho base T i (.int .i64 0) 1 8 ht hi hz hs1 hb1 rfl (by omega) (.slice A n c) n _ hs hown ad 1 c' [.int .i64 y] hx rfl ?_ ?_ (by simp only [maxLen]; omega) (by omega) hbase ?_
  · intro j u hu
    rcases j with _ | j
    · simp at hu
      subst hu
      have : ad.add 0 = ad := by simp [Addr.add]
      rw [this]; exact hcell
    · simp at hu
  · intro u hu
    simp at hu
    subst hu
    rfl
  · intro v' w' hown' hg _
    rcases hown'.2 with ⟨h1, h2⟩ | ⟨g, cap, cur, hv, hrest⟩
    · omega
    · subst hv
      exact h _ _ _ (by unfold OwnI; rw [List.map_append]; exact hown') hg
/-- an entry of a drawn table is changed -/
theorem OMd.put {N : Nat} {w : World} {base b n c : Nat} {hs : List Mh} (h : OMd N w base (some ⟨b, 0, none⟩) n c hs) (k j : Nat) (u : Value) (x : Mh) (hk : k < n) (hj : j < 3) (he : encMh x = (encMh (ge hs k)).set j u) (hx : OwnI 2 w base x.A x.n x.c x.k.nx) (hn : x.n ≤ N) :
    OMd N (w.setCell ⟨b, k * 3 + j, none⟩ u) base (some ⟨b, 0, none⟩) n c (hs.set k x) ∧ w.grownBy (w.setCell ⟨b, k * 3 + j, none⟩ u) (some b) := by
  have st := h.1.stored encMh_len k j u x hk hj he
  refine ⟨⟨st.1, fun y hy => ?_⟩, st.2⟩
  have key : ∀ z : Mh, OwnI 2 w base z.A z.n z.c z.k.nx → OwnI 2 (w.setCell ⟨b, k * 3 + j, none⟩ u) base z.A z.n z.c z.k.nx := fun z hz => hz.kept st.2 (apartIE hz h.1 (by decide))
  rcases List.mem_or_eq_of_mem_set hy with h1 | rfl
  · exact ⟨key _ (h.2 y h1).1, (h.2 y h1).2⟩
  · exact ⟨key _ hx, hn⟩
theorem ap_ne {hs : List Mh} (h : hs.Pairwise apM) {i k : Nat} (hi : i < hs.length) (hk : k < hs.length) (hne : i ≠ k) : apM (ge hs i) (ge hs k) := by
  rw [List.pairwise_iff_getElem] at h
  rw [ge_lt hi, ge_lt hk]
  rcases Nat.lt_or_gt_of_ne hne with h1 | h1
  · exact h i k hi hk h1
  · intro b e1 e2
    exact h k i hk hi h1 b e2 e1
theorem OwnI.apart {T T' : TypeId} {w w' : World} {base base' n n' c c' : Nat} {A A' : Option Addr} {zs zs' : List Int} (h : OwnI T w base A n c zs) (_ : OwnI T' w base' A' n' c' zs') (hg : w.grownBy w' (Value.slice A' n' c').ownBlock) (hne : ∀ b, (Value.slice A n c).ownBlock = some b → (Value.slice A' n' c').ownBlock ≠ some b) : OwnI T w' base A n c zs := by
  refine h.kept hg ?_
  intro g0 o0 hA
  rcases h.2 with ⟨h1, h2⟩ | ⟨g, cap, cur, hv, hgb, hh, _⟩
  · injection h1 with h3
    rw [h3] at hA; cases hA
  · have hv2 := hv
    injection hv with h3
    rw [h3] at hA
    injection hA with hA
    injection hA with hA
    subst hA
    intro e
    exact hne g (by rw [hv2]; rfl) e.symm
/-- a mode's list has grown, and is stored anew -/
theorem OMd.grow {w w' : World} {base b n c : Nat} {hs : List Mh} (h : OMd 4 w base (some ⟨b, 0, none⟩) n c hs) (pw : hs.Pairwise apM) (k : Nat) (hk : k < n) {A9 : Option Addr} {n9 c9 : Nat} {zs9 : List Int} (hn9 : n9 ≤ 5)
    (ho : OwnI 2 w' base A9 n9 c9 zs9) (hg : w.grownBy w' (blkM (ge hs k))) :
    OwnE encMh 3 110 w' base (some ⟨b, 0, none⟩) n c hs ∧ OMd 5 (w'.setCell ⟨b, k * 3 + 2, none⟩ (.slice A9 n9 c9)) base (some ⟨b, 0, none⟩) n c (hs.set k ⟨⟨(ge hs k).k.rd, (ge hs k).k.sl, zs9⟩, A9, n9, c9⟩) := by
  have hl := h.1.len
  have hkl : k < hs.length := by omega
  have hk1 := h.2 _ (mem_ge hkl)
  have h1 : OwnE encMh 3 110 w' base (some ⟨b, 0, none⟩) n c hs := by
    refine h.1.kept hg ?_
    rcases hb : blkM (ge hs k) with _ | g
    · right; intro e; cases e
    · right
      intro e
      have e2 : b = g := Option.some.inj e
      subst e2
      rcases hk1.1.2 with ⟨q1, _⟩ | ⟨g', cap, cur, hv, hgb, hh, _⟩
      · unfold blkM at hb
        rw [q1] at hb; cases hb
      · unfold blkM at hb
        rw [hv] at hb
        have e3 : g' = b := Option.some.inj hb
        subst e3
        rcases h.1.2.2 with ⟨q1, _⟩ | ⟨g'', cap2, cur2, hv2, hgb2, hh2, _⟩
        · injection q1 with q2; cases q2
        · injection hv2 with q2
          injection q2 with q2
          injection q2 with q2
          subst q2
          rw [hh] at hh2
          injection Option.some.inj hh2 with _ h5
          exact absurd h5 (by decide)
  have st := h1.stored encMh_len k 2 (.slice A9 n9 c9) ⟨⟨(ge hs k).k.rd, (ge hs k).k.sl, zs9⟩, A9, n9, c9⟩ hk (by omega) rfl
  have key : ∀ z : Mh, OwnI 2 w' base z.A z.n z.c z.k.nx → OwnI 2 (w'.setCell ⟨b, k * 3 + 2, none⟩ (.slice A9 n9 c9)) base z.A z.n z.c z.k.nx := fun z hz => hz.kept st.2 (apartIE hz h1 (by decide))
  refine ⟨h1, st.1, fun y hy => ?_⟩
  obtain ⟨j, hj, rfl⟩ := List.getElem_of_mem hy
  rw [List.length_set] at hj
  rw [List.getElem_set]
  split
  · exact ⟨key _ ho, hn9⟩
  · rename_i hne
    have hjj := h.2 _ (mem_ge hj)
    rw [ge_lt hj] at hjj
    refine ⟨key _ (hjj.1.apart hk1.1 hg ?_), Nat.le_succ_of_le hjj.2⟩
    have := ap_ne pw hj hkl (fun e => hne e.symm)
    rw [ge_lt hj] at this
    exact this
/-- a drawn list of modes -/
def DrMA (w : World) (g : Nat) (e : Ending) (w' : World) : Prop :=
  ∃ (A : Option Addr) (n c : Nat) (hs : List Mh), e = .returned (.slice A n c) ∧ OMd 5 w' w.heap.size A n c hs ∧ n ≤ 17 ∧ Dr w g w'
set_option maxRecDepth 6000 in
set_option maxHeartbeats 8000000 in
theorem drawModesAny_any (g : Nat) (w : World) (h : Src w g) :
    Calls Tryz.prog 127 #[.pointer (some ⟨g, 0, none⟩)] w (DrMA w g) := by
  have hl := h.lt
  go_enter Tryz.func127, Tryz.ntmps127
  go_wp2_with fail
  refine (drawModes_any g _ h).mono ?_
  rintro e w1 ⟨A, n, c, hs, rfl, ho, hn1, hn4, d1, pw⟩
  have PW := Lib.hid pw
  clear pw
  have O1 := Lib.hid ho
  have D1 := Lib.hid d1
  clear ho d1
  go_wp2_with fail
  refine (next_any g n _ D1.out.src).mono ?_
  rintro e w2 ⟨k, rfl, hk, d2⟩
  have O2 := Lib.hid (O1.out.dr d2 hl)
  have D2 := Lib.hid (d2.next D1.out)
  have hkn : k < n := by omega
  clear d2 hk O1 D1
  go_wp2_with fail
  refine (next_any g 24 _ D2.out.src).mono ?_
  rintro e w3 ⟨x, rfl, hx, d3⟩
  have O3 := Lib.hid ((O2.out.dr d3 hl).mono (show 4 ≤ 5 by omega))
  have O4s := Lib.hid (O2.out.dr d3 hl)
  have D3 := Lib.hid (d3.next D2.out)
  clear d3 hx O2 D2
  obtain ⟨b, rfl, hb1, hb2⟩ := O3.out.1.form (by omega)
  have hki : (k : Int) < (n : Int) := by omega
  have hkl : k < hs.length := by rw [O3.out.1.len]; exact hkn
  by_cases h0 : x = 0
  case pos =>
    subst h0
    go_wp2_with fail
    refine (next_any g 3 _ (D3.out.alloc _).src).mono ?_
    rintro e w4 ⟨y, rfl, hy, d4⟩
    obtain ⟨u, _, hc⟩ := pick_cell (L := [0, 8, 9]) d4.gr D3.out.lt (x := y) (by simp; omega)
    have hb_y : y < 3 := by omega
    have O4 := Lib.hid ((O3.out.alloc _).dr d4 hl)
    have D4 := Lib.hid (d4.next (D3.out.alloc _))
    clear d4 hy O3 D3 O4s
    have hfr := O4.out.1.frozen
    have ho0 := O4.out.1.cell encMh_len hkn (j := 0) (by omega)
    simp only [encMh, Nat.add_zero, List.getElem?_cons_zero] at ho0
    have hst := O4.out.put k 0 (.int .i64 u) ⟨⟨u, (ge hs k).k.sl, (ge hs k).k.nx⟩, (ge hs k).A, (ge hs k).n, (ge hs k).c⟩ hkn (by omega) rfl (O4.out.2 _ (mem_ge hkl)).1 (O4.out.2 _ (mem_ge hkl)).2
    have HST := Lib.hid hst
    clear hst
    go_wp2_with fail
    go_ret
    exact ⟨_, n, c, _, rfl, by first | exact HST.out.1 | (have := HST.out.1; simp only [Nat.add_zero] at this; exact this), by omega, D4.out.set hb1 hl _⟩
  have b0 : ((x : Int) == 0) = false := by simp; omega
  by_cases h1 : x = 1
  case pos =>
    subst h1
    go_wp2_with fail
    refine (next_any g 3 _ (D3.out.alloc _).src).mono ?_
    rintro e w4 ⟨y, rfl, hy, d4⟩
    obtain ⟨u, _, hc⟩ := pick_cell (L := [0, 16, 17]) d4.gr D3.out.lt (x := y) (by simp; omega)
    have hb_y : y < 3 := by omega
    have O4 := Lib.hid ((O3.out.alloc _).dr d4 hl)
    have D4 := Lib.hid (d4.next (D3.out.alloc _))
    clear d4 hy O3 D3 O4s
    have hfr := O4.out.1.frozen
    have ho1 := O4.out.1.cell encMh_len hkn (j := 1) (by omega)
    simp only [encMh, List.getElem?_cons_zero, List.getElem?_cons_succ] at ho1
    have hst := O4.out.put k 1 (.int .i64 u) ⟨⟨(ge hs k).k.rd, u, (ge hs k).k.nx⟩, (ge hs k).A, (ge hs k).n, (ge hs k).c⟩ hkn (by omega) rfl (O4.out.2 _ (mem_ge hkl)).1 (O4.out.2 _ (mem_ge hkl)).2
    have HST := Lib.hid hst
    clear hst
    go_wp2_with fail
    go_ret
    exact ⟨_, n, c, _, rfl, HST.out.1, by omega, D4.out.set hb1 hl _⟩
  have b1 : ((x : Int) == 1) = false := by simp; omega
  by_cases h2 : x = 2
  case pos =>
    subst h2
    obtain ⟨Mk0, hMk⟩ : ∃ v, v = ge hs k := ⟨_, rfl⟩
    have hne3 : w3.heap.size ≠ g := by have := D3.out.lt; omega
    have ho2 := O4s.out.1.cell encMh_len hkn (j := 2) (by omega)
    simp only [encMh, List.getElem?_cons_zero, List.getElem?_cons_succ] at ho2
    have hbl := O4s.out.1.row b rfl
    have hk4 := (O4s.out.2 _ (mem_ge hkl)).2
    go_upto_region 9 with fail
    first
    | go_region_law (first
      | (go_simp; (refine (next_any g 3 _ (by first | exact D3.out.drew.src | exact (D3.out.alloc _).drew.src)).mono ?_); rintro e cc ⟨y, rfl, hy, dx⟩; (have hy3 : y < 3 := by omega); (have hyi : (y : Int) < 3 := by omega); (obtain ⟨u, hu⟩ : ∃ u : Int, [Value.int .i64 k, .int .i64 n, .int .i64 0][y]? = some (.int .i64 u) := by rcases (show y = 0 ∨ y = 1 ∨ y = 2 by omega) with rfl | rfl | rfl <;> exact ⟨_, rfl⟩); (have hsym : ∀ W : World, (W.alloc (.cells #[.int .i64 k, .int .i64 n, .int .i64 0] 2)).cell? ⟨W.heap.size, y, none⟩ = some (.int .i64 u) := fun W => (BlkL.new W 2 #[.int .i64 k, .int .i64 n, .int .i64 0] rfl).c y hu); (try (have kk := (BlkL.dr (BlkL.drew (BlkL.new w3 _ _ rfl)) dx hne3.symm).c y hu)); (have OC := Lib.hid (show OMd 4 cc w.heap.size (some ⟨b, 0, none⟩) n c hs from by first | exact OMd.dr (w := w3.drew) O4s.out dx hl | exact OMd.dr (w := (w3.alloc _).drew) (O4s.out.alloc _) dx hl)); (have hcc := OC.out.1.cell encMh_len hkn (j := 2) (by omega)); (simp only [encMh, List.getElem?_cons_zero, List.getElem?_cons_succ] at hcc); (have DD := Lib.hid (show Dr w g cc from by first | exact dx.next D3.out.drew | exact dx.next (D3.out.alloc _).drew)); (have hcs := DD.out.size); (have hbc := (OC.out.1.row b rfl).2); clear hy dx)
      | (refine step_appJ Tryz.underlying31 infoInt rfl (.tmp 43) (.tmp 52) rfl w.heap.size (ge hs k).A (ge hs k).n (ge hs k).c (ge hs k).k.nx (by simp [Act.eval]) (by first | exact (OC.out.2 _ (mem_ge hkl)).1.alloc _ | exact ((OC.out.2 _ (mem_ge hkl)).1.alloc _).alloc _) _ 1 _ (by simp [Act.eval]) (new_cell _ _ _) (by omega) (by simp; omega) ?_; intro A9 c9 w9 hown9 hg9; (have HG := Lib.hid (show cc.grownBy w9 (blkM (ge hs k)) from by first | exact grown_tr (World.grownBy_alloc _ _ _) hg9 | exact grown_tr (World.grownBy_alloc _ _ _) (grown_tr (World.grownBy_alloc _ _ _) hg9))); (have GR := Lib.hid (OC.out.grow PW.out k hkn (by omega) hown9 HG.out)); (have h9c := GR.out.1.cell encMh_len hkn (j := 2) (by omega)); (simp only [encMh, List.getElem?_cons_zero, List.getElem?_cons_succ] at h9c); (have h9f := GR.out.1.frozen); (have D9 := Lib.hid (DD.out.own HG.out (fun j e => (own_row (OC.out.2 _ (mem_ge hkl)).1 j e).1) hl))))
    | fail
    all_goals
      go_wp2_with fail
      go_ret
      exact ⟨some ⟨b, 0, none⟩, n, c, _, rfl, GR.out.2, by omega, D9.out.set (p := ⟨b, k * 3 + 2, none⟩) hb1 hl _⟩
  have b2 : ((x : Int) == 2) = false := by simp; omega
  by_cases h3 : x = 3
  case pos =>
    subst h3
    go_wp2_with fail
    go_ret
    exact ⟨none, 0, 0, [], rfl, ⟨OwnE.nil _ _ _ _ _, fun x hx => absurd hx List.not_mem_nil⟩, by omega, D3.out⟩
  have b3 : ((x : Int) == 3) = false := by simp; omega
  by_cases h4 : x = 4
  case pos =>
    subst h4
    go_wp2_with (at_make; refine wpl_makeE encMh 3 _ default Tryz.underlying25 infoMode rfl rfl (by omega) (by omega) rfl _ _ rfl 17 rfl rfl (by omega) ?_; intro w5 hown5 hg5)
    go_ret
    exact ⟨_, 17, 17, _, rfl, ⟨hown5.weaken D3.out.size, fun x hx => by rw [(List.mem_replicate.1 hx).2]; exact ⟨OwnI.nil _ _ _, Nat.zero_le _⟩⟩, by omega, D3.out.own hg5 (fun j e => by cases e) hl⟩
  have b4 : ((x : Int) == 4) = false := by simp; omega
  go_wp2_with fail
  go_ret
  exact ⟨_, n, c, hs, rfl, O3.out, by omega, D3.out⟩
end Go.Proofs.YtbaojbheopcjhaaGreatDoor

namespace Go.Proofs.YtbaojbheopcjhaaGreatDoor
open Go.RowKit
theorem ge_set_eq {α : Type} [Inhabited α] {xs : List α} {k : Nat} {x : α} (h : k < xs.length) : ge (xs.set k x) k = x := by
  rw [ge_lt (by rw [List.length_set]; exact h), List.getElem_set_self]
theorem OwnI.ne_box {T T' : TypeId} {w : World} {base n c b : Nat} {A : Option Addr} {zs : List Int} {M : List Value} (h : OwnI T w base A n c zs) (hb : BlkL w b T' M) (hT : T ≠ T') : ∀ g o, A = some ⟨g, o, none⟩ → some g ≠ some b := by
  intro g0 o0 hA
  rcases h.2 with ⟨h1, h2⟩ | ⟨g, cap, cur, hv, hg, hh, _⟩
  · injection h1 with h3
    rw [h3] at hA; cases hA
  · injection hv with h3
    rw [h3] at hA
    injection hA with hA
    injection hA with hA
    subst hA
    intro e
    have e2 : g = b := Option.some.inj e
    subst e2
    unfold BlkL at hb
    rw [hh] at hb
    injection Option.some.inj hb with _ h5
    exact hT h5
theorem OwnE.boxed {β : Type} {enc' : β → List Value} {sz' : Nat} {T T' : TypeId} {w : World} {base n c b : Nat} {A : Option Addr} {ys : List β} {M : List Value} (h : OwnE enc' sz' T w base A n c ys) (hb : BlkL w b T' M) (hT : T ≠ T') (j : Nat) (v : Value) : OwnE enc' sz' T (w.setCell ⟨b, j, none⟩ v) base A n c ys :=
  h.kept (grown_set w ⟨b, j, none⟩ v) (.inr (h.ne_blk hb hT))
theorem OwnI.boxed {T T' : TypeId} {w : World} {base n c b : Nat} {A : Option Addr} {zs : List Int} {M : List Value} (h : OwnI T w base A n c zs) (hb : BlkL w b T' M) (hT : T ≠ T') (j : Nat) (v : Value) : OwnI T (w.setCell ⟨b, j, none⟩ v) base A n c zs :=
  h.kept (grown_set w ⟨b, j, none⟩ v) (h.ne_box hb hT)
theorem OMd.boxed {N : Nat} {w : World} {base n c b : Nat} {A : Option Addr} {hs : List Mh} {M : List Value} (h : OMd N w base A n c hs) (hb : BlkL w b 28 M) (j : Nat) (v : Value) : OMd N (w.setCell ⟨b, j, none⟩ v) base A n c hs :=
  ⟨h.1.boxed hb (by decide) j v, fun x hx => ⟨(h.2 x hx).1.boxed hb (by decide) j v, (h.2 x hx).2⟩⟩
theorem OMd.reads {N : Nat} {w : World} {base n c : Nat} {A : Option Addr} {hs : List Mh} (h : OMd N w base A n c hs) (hN : N ≤ maxLen) : RM w w.heap.size A n (hs.map (·.k)) := by
  have hlen := h.1.len
  refine OM.reads (base := base) (c := c) ⟨by rw [List.length_map]; exact hlen, hs, h.1, fun i hi => ?_⟩
  have hm := mem_ge (xs := hs) (i := i) (by omega)
  have e : ge (hs.map (·.k)) i = (ge hs i).k := by
    rw [ge_lt (by rw [List.length_map]; omega), List.getElem_map, ge_lt (by omega)]
  rw [e]
  exact ⟨rfl, (h.2 _ hm).1, Nat.le_trans (h.2 _ hm).2 hN⟩
/-- a drawn schedule in memory, its slots perhaps without the first -/
structure DV (w : World) (base : Nat) (m : Mdv) (M : Mdl) : Prop where
  id : M.id = m.id
  on : OwnE encNd 4 84 w base m.An m.nn m.cn M.ns
  om : ∃ hs, OMd 5 w base m.Am m.nm m.cm hs ∧ M.ms = hs.map (·.k)
  os : ∃ A n c ss, OwnE encSl 8 102 w base A n c ss ∧ ∀ v B, RE encSl 8 v B A n ss → RE encSl 8 v B m.As m.ns M.ss
  nm : ∀ x ∈ M.ns, x.nm.size ≤ 30
  bn : m.nn ≤ 200
  bm : m.nm ≤ 200
  bs : m.ns ≤ 200
namespace DV
variable {w w' : World} {base : Nat} {m : Mdv} {M : Mdl}
theorem dr {g : Nat} (h : DV w base m M) (d : Dr w g w') (hl : g < base) : DV w' base m M :=
  let ⟨hs, a, b⟩ := h.om
  let ⟨A, n, c, ss, e, f⟩ := h.os
  ⟨h.id, h.on.dr d hl, ⟨hs, a.dr d hl, b⟩, ⟨A, n, c, ss, e.dr d hl, f⟩, h.nm, h.bn, h.bm, h.bs⟩
theorem below (h : DV w base m M) (hb : Below w.heap.size w w') : DV w' base m M :=
  let ⟨hs, a, b⟩ := h.om
  let ⟨A, n, c, ss, e, f⟩ := h.os
  ⟨h.id, h.on.below hb, ⟨hs, a.below hb, b⟩, ⟨A, n, c, ss, e.below hb, f⟩, h.nm, h.bn, h.bm, h.bs⟩
theorem alloc (h : DV w base m M) (o : Obj) : DV (w.alloc o) base m M := h.below ((Below.refl _ _).alloc (Nat.le_refl _) o)
theorem weaken {base' : Nat} (h : DV w base m M) (hb : base' ≤ base) : DV w base' m M :=
  let ⟨hs, a, b⟩ := h.om
  let ⟨A, n, c, ss, e, f⟩ := h.os
  ⟨h.id, h.on.weaken hb, ⟨hs, a.weaken hb, b⟩, ⟨A, n, c, ss, e.weaken hb, f⟩, h.nm, h.bn, h.bm, h.bs⟩
theorem other (h : DV w base m M) {p : Addr} (hp : p.block < base) (v : Value) : DV (w.setCell p v) base m M :=
  let ⟨hs, a, b⟩ := h.om
  let ⟨A, n, c, ss, e, f⟩ := h.os
  ⟨h.id, h.on.other hp v, ⟨hs, a.other hp v, b⟩, ⟨A, n, c, ss, e.other hp v, f⟩, h.nm, h.bn, h.bm, h.bs⟩
theorem boxed {b : Nat} {L : List Value} (h : DV w base m M) (hb : BlkL w b 28 L) (j : Nat) (v : Value) : DV (w.setCell ⟨b, j, none⟩ v) base m M :=
  let ⟨hs, a, d⟩ := h.om
  let ⟨A, n, c, ss, e, f⟩ := h.os
  ⟨h.id, h.on.boxed hb (by decide) j v, ⟨hs, a.boxed hb j v, d⟩, ⟨A, n, c, ss, e.boxed hb (by decide) j v, f⟩, h.nm, h.bn, h.bm, h.bs⟩
theorem reads (h : DV w base m M) : RD w w.heap.size m M := by
  obtain ⟨hs, a, b⟩ := h.om
  obtain ⟨A, n, c, ss, e, f⟩ := h.os
  refine ⟨h.id, h.on.reads encNd_len, ?_, f _ _ (e.reads encSl_len), by have := h.bn; omega, by have := h.bm; omega, by have := h.bs; omega⟩
  rw [b]
  exact a.reads (by unfold maxLen; omega)
theorem rx (h : DV w base m M) : RX m M := by
  obtain ⟨hs, a, b⟩ := h.om
  refine ⟨fun i hi => ?_, fun i hi => ?_, h.on.capE⟩
  · have := h.nm _ (mem_ge (xs := M.ns) (i := i) (by rw [h.on.len]; exact hi))
    omega
  · have hi2 : i < hs.length := by rw [a.1.len]; exact hi
    have e : ge M.ms i = (ge hs i).k := by
      rw [b, ge_lt (by rw [List.length_map]; omega), List.getElem_map, ge_lt hi2]
    have h2 := a.2 _ (mem_ge hi2)
    rw [e, h2.1.len]
    omega
end DV
/-- a schedule in the work: its rows, its box, the result's box -/
structure LV (w0 : World) (g : Nat) (w : World) (mb : Nat) (m : Mdv) (M : Mdl) : Prop where
  v : DV w (w0.heap.size + 1) m M
  k : BlkL w mb 28 [.int .i64 m.id, .slice m.An m.nn m.cn, .slice m.Am m.nm m.cm, .slice m.As m.ns m.cs]
  r : BlkL w w0.heap.size 28 [.int .i64 0, .slice none 0 0, .slice none 0 0, .slice none 0 0]
  d : Dr w0 g w
  h : w0.heap.size < mb
namespace LV
variable {w0 w w' : World} {g mb : Nat} {m : Mdv} {M : Mdl}
theorem draw (h : LV w0 g w mb m M) (d : Dr w g w') (hl : g < w0.heap.size) : LV w0 g w' mb m M :=
  ⟨h.v.dr d (by omega), h.k.dr d (by have := h.h; omega), h.r.dr d (by omega), d.next h.d, h.h⟩
theorem alloc (h : LV w0 g w mb m M) (o : Obj) : LV w0 g (w.alloc o) mb m M := ⟨h.v.alloc o, h.k.alloc o, h.r.alloc o, h.d.alloc o, h.h⟩
theorem drew (h : LV w0 g w mb m M) : LV w0 g w.drew mb m M := ⟨⟨h.v.id, h.v.on, h.v.om, h.v.os, h.v.nm, h.v.bn, h.v.bm, h.v.bs⟩, h.k, h.r, h.d.drew, h.h⟩
theorem setId (h : LV w0 g w mb m M) (hl : g < w0.heap.size) (v : Int) : LV w0 g (w.setCell ⟨mb, 0, none⟩ (.int .i64 v)) mb ⟨v, m.An, m.nn, m.cn, m.Am, m.nm, m.cm, m.As, m.ns, m.cs⟩ ⟨v, M.ns, M.ms, M.ss⟩ := by
  have q := h.v.boxed h.k 0 (.int .i64 v)
  have hh := h.h
  exact ⟨⟨rfl, q.on, q.om, q.os, q.nm, q.bn, q.bm, q.bs⟩, h.k.set 0 _, h.r.other (p := ⟨mb, 0, none⟩) (by show ¬ mb = _; omega) _, h.d.set (p := ⟨mb, 0, none⟩) (by show _ ≤ mb; omega) hl _, h.h⟩
theorem setNodes (h : LV w0 g w mb m M) (hl : g < w0.heap.size) {A : Option Addr} {n c : Nat} {l : List Nd} (ho : OwnE encNd 4 84 w (w0.heap.size + 1) A n c l) (hn : n ≤ 200) (hnm : ∀ x ∈ l, x.nm.size ≤ 30) : LV w0 g (w.setCell ⟨mb, 1, none⟩ (.slice A n c)) mb ⟨m.id, A, n, c, m.Am, m.nm, m.cm, m.As, m.ns, m.cs⟩ ⟨m.id, l, M.ms, M.ss⟩ := by
  have q := h.v.boxed h.k 1 (.slice A n c)
  have hh := h.h
  exact ⟨⟨rfl, ho.boxed h.k (by decide) 1 _, q.om, q.os, hnm, hn, q.bm, q.bs⟩, h.k.set 1 _, h.r.other (p := ⟨mb, 1, none⟩) (by show ¬ mb = _; omega) _, h.d.set (p := ⟨mb, 1, none⟩) (by show _ ≤ mb; omega) hl _, h.h⟩
theorem setModes (h : LV w0 g w mb m M) (hl : g < w0.heap.size) {A : Option Addr} {n c : Nat} {hs : List Mh} (ho : OMd 5 w (w0.heap.size + 1) A n c hs) (hn : n ≤ 200) : LV w0 g (w.setCell ⟨mb, 2, none⟩ (.slice A n c)) mb ⟨m.id, m.An, m.nn, m.cn, A, n, c, m.As, m.ns, m.cs⟩ ⟨m.id, M.ns, hs.map (·.k), M.ss⟩ := by
  have q := h.v.boxed h.k 2 (.slice A n c)
  have hh := h.h
  exact ⟨⟨rfl, q.on, ⟨hs, ho.boxed h.k 2 _, rfl⟩, q.os, q.nm, q.bn, hn, q.bs⟩, h.k.set 2 _, h.r.other (p := ⟨mb, 2, none⟩) (by show ¬ mb = _; omega) _, h.d.set (p := ⟨mb, 2, none⟩) (by show _ ≤ mb; omega) hl _, h.h⟩
theorem setSlots (h : LV w0 g w mb m M) (hl : g < w0.heap.size) {A0 : Option Addr} {n0 c0 : Nat} {ss0 : List Sl} (ho : OwnE encSl 8 102 w (w0.heap.size + 1) A0 n0 c0 ss0) {A : Option Addr} {n c : Nat} {ss : List Sl} (hv : ∀ v B, RE encSl 8 v B A0 n0 ss0 → RE encSl 8 v B A n ss) (hn : n ≤ 200) : LV w0 g (w.setCell ⟨mb, 3, none⟩ (.slice A n c)) mb ⟨m.id, m.An, m.nn, m.cn, m.Am, m.nm, m.cm, A, n, c⟩ ⟨m.id, M.ns, M.ms, ss⟩ := by
  have q := h.v.boxed h.k 3 (.slice A n c)
  have hh := h.h
  exact ⟨⟨rfl, q.on, q.om, ⟨A0, n0, c0, ss0, ho.boxed h.k (by decide) 3 _, hv⟩, q.nm, q.bn, q.bm, hn⟩, h.k.set 3 _, h.r.other (p := ⟨mb, 3, none⟩) (by show ¬ mb = _; omega) _, h.d.set (p := ⟨mb, 3, none⟩) (by show _ ≤ mb; omega) hl _, h.h⟩
end LV
/-- a list without its first element -/
theorem RE.rest {α : Type} [Inhabited α] {enc : α → List Value} {sz : Nat} {v : World} {B b n : Nat} {xs : List α} (h : RE enc sz v B (some ⟨b, 0, none⟩) n xs) (hn : 1 ≤ n) {A : Option Addr} (hA : 1 < n → A = some ⟨b, sz, none⟩) : RE enc sz v B A (n - 1) (xs.drop 1) := by
  have hl := h.len
  refine ⟨by rw [List.length_drop]; omega, fun h1 => ?_⟩
  obtain ⟨b', o, e, hB, hc⟩ := h.2 (by omega)
  injection e with e
  injection e with e1 e2
  subst e1; subst e2
  refine ⟨b, sz, hA (by omega), hB, fun i hi j u hu => ?_⟩
  have hk : ge (xs.drop 1) i = ge xs (i + 1) := by
    rw [ge_lt (by rw [List.length_drop]; omega), List.getElem_drop, ge_lt (by omega)]
    congr 1; omega
  rw [hk] at hu
  have := hc (i + 1) (by omega) j u hu
  rw [Nat.add_mul, Nat.one_mul, Nat.zero_add, Nat.add_comm (i * sz) sz] at this
  exact this
theorem encSl_int (x : Sl) (j : Nat) (hj : j < 7) (v : Int) : ∃ y : Sl, encSl y = (encSl x).set j (.int .i64 v) := by
  rcases (show j = 0 ∨ j = 1 ∨ j = 2 ∨ j = 3 ∨ j = 4 ∨ j = 5 ∨ j = 6 by omega) with rfl | rfl | rfl | rfl | rfl | rfl | rfl
  · exact ⟨⟨v, x.rn, x.st, x.nd, x.kd, x.sz, x.du, x.ch⟩, rfl⟩
  · exact ⟨⟨x.md, v, x.st, x.nd, x.kd, x.sz, x.du, x.ch⟩, rfl⟩
  · exact ⟨⟨x.md, x.rn, v, x.nd, x.kd, x.sz, x.du, x.ch⟩, rfl⟩
  · exact ⟨⟨x.md, x.rn, x.st, v, x.kd, x.sz, x.du, x.ch⟩, rfl⟩
  · exact ⟨⟨x.md, x.rn, x.st, x.nd, v, x.sz, x.du, x.ch⟩, rfl⟩
  · exact ⟨⟨x.md, x.rn, x.st, x.nd, x.kd, v, x.du, x.ch⟩, rfl⟩
  · exact ⟨⟨x.md, x.rn, x.st, x.nd, x.kd, x.sz, v, x.ch⟩, rfl⟩
/-- the same with all of its slots in its own row -/
structure LS (w0 : World) (g : Nat) (w : World) (mb b : Nat) (m : Mdv) (M : Mdl) : Prop where
  l : LV w0 g w mb m M
  a : m.As = some ⟨b, 0, none⟩
  s : OwnE encSl 8 102 w (w0.heap.size + 1) (some ⟨b, 0, none⟩) m.ns m.cs M.ss
namespace LS
variable {w0 w w' : World} {g mb b : Nat} {m : Mdv} {M : Mdl}
theorem draw (h : LS w0 g w mb b m M) (d : Dr w g w') (hl : g < w0.heap.size) : LS w0 g w' mb b m M := ⟨h.l.draw d hl, h.a, h.s.dr d (by omega)⟩
theorem alloc (h : LS w0 g w mb b m M) (o : Obj) : LS w0 g (w.alloc o) mb b m M := ⟨h.l.alloc o, h.a, h.s.alloc o⟩
theorem drew (h : LS w0 g w mb b m M) : LS w0 g w.drew mb b m M := ⟨h.l.drew, h.a, h.s⟩
theorem put (h : LS w0 g w mb b m M) (hl : g < w0.heap.size) {k j : Nat} (hk : k < m.ns) (hj : j < 8) (u : Value) (x : Sl) (he : encSl x = (encSl (ge M.ss k)).set j u) : ∃ M', LS w0 g (w.setCell ⟨b, k * 8 + j, none⟩ u) mb b m M' := by
  have st := h.s.stored encSl_len k j u x hk hj he
  have q := h.l.v
  have hbb := (h.s.row b rfl).1
  obtain ⟨hs, a, e⟩ := q.om
  refine ⟨⟨m.id, M.ns, M.ms, M.ss.set k x⟩, ⟨⟨rfl, q.on.beside h.s st.2 (by decide), ⟨hs, a.beside h.s st.2 (by decide) (by decide), e⟩, ⟨_, _, _, _, st.1, fun v B hr => by rw [h.a]; exact hr⟩, q.nm, q.bn, q.bm, q.bs⟩, h.l.k.beside h.s st.2 (by decide), h.l.r.beside h.s st.2 (by decide), h.l.d.set (p := ⟨b, k * 8 + j, none⟩) (by show _ ≤ b; omega) hl _, h.l.h⟩, h.a, st.1⟩
theorem putI (h : LS w0 g w mb b m M) (hl : g < w0.heap.size) {k j : Nat} (hk : k < m.ns) (hj : j < 7) (v : Int) : ∃ M', LS w0 g (w.setCell ⟨b, k * 8 + j, none⟩ (.int .i64 v)) mb b m M' :=
  let ⟨x, hx⟩ := encSl_int (ge M.ss k) j hj v
  h.put hl hk (by omega) _ x hx
theorem putB (h : LS w0 g w mb b m M) (hl : g < w0.heap.size) {k : Nat} (hk : k < m.ns) (v : Bool) : ∃ M', LS w0 g (w.setCell ⟨b, k * 8 + 7, none⟩ (.bool v)) mb b m M' :=
  h.put hl hk (by omega) _ ⟨(ge M.ss k).md, (ge M.ss k).rn, (ge M.ss k).st, (ge M.ss k).nd, (ge M.ss k).kd, (ge M.ss k).sz, (ge M.ss k).du, v⟩ rfl
end LS
end Go.Proofs.YtbaojbheopcjhaaGreatDoor
