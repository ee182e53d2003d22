/- Walks, laws and small notions for the claims of this seat, several texts as one (DrB, DrL). Conditions: as each theorem states them. -/
import Derived.Test.YtbaojbheopcjhaaGreatDoorB50
import Derived.Test.YtbaojbheopcjhaaGreatDoorB9
import Derived.Test.YtbaojbheopcjhaaGreatDoorB11
namespace Go.Proofs.YtbaojbheopcjhaaGreatDoor
open Go.RowKit
theorem OMd.weaken {N : Nat} {w : World} {base base' n c : Nat} {A : Option Addr} {hs : List Mh} (h : OMd N w base A n c hs) (hb : base' ≤ base) : OMd N w base' A n c hs :=
  ⟨h.1.weaken hb, fun x hx => ⟨(h.2 x hx).1.weaken hb, (h.2 x hx).2⟩⟩
theorem OMd.other {N : Nat} {w : World} {base n c : Nat} {A : Option Addr} {hs : List Mh} (h : OMd N w base A n c hs) {p : Addr} (hp : p.block < base) (v : Value) : OMd N (w.setCell p v) base A n c hs :=
  ⟨h.1.other hp v, fun x hx => ⟨(h.2 x hx).1.other hp v, (h.2 x hx).2⟩⟩
theorem OMd.below {N : Nat} {w w' : World} {base n c : Nat} {A : Option Addr} {hs : List Mh} (h : OMd N w base A n c hs) (hb : Below w.heap.size w w') : OMd N w' base A n c hs :=
  ⟨h.1.below hb, fun x hx => ⟨(h.2 x hx).1.below hb, (h.2 x hx).2⟩⟩
theorem DM.weaken {w : World} {base base' : Nat} {m : Mdv} {ns : List Nd} {hs : List Mh} {ss : List Sl} (h : DM w base m ns hs ss) (hb : base' ≤ base) : DM w base' m ns hs ss :=
  ⟨h.on.weaken hb, h.om.weaken hb, h.os.weaken hb, h.nm⟩
theorem DM.other {w : World} {base : Nat} {m : Mdv} {ns : List Nd} {hs : List Mh} {ss : List Sl} (h : DM w base m ns hs ss) {p : Addr} (hp : p.block < base) (v : Value) : DM (w.setCell p v) base m ns hs ss :=
  ⟨h.on.other hp v, h.om.other hp v, h.os.other hp v, h.nm⟩
/-- two rows of elements of different types lie in blocks of their own -/
theorem apartEE {α β : Type} {enc : α → List Value} {enc' : β → List Value} {sz sz' : Nat} {T T' : TypeId} {w : World} {base base' n n' c c' : Nat} {A A' : Option Addr} {xs : List α} {ys : List β}
    (h : OwnE enc sz T w base A n c xs) (h' : OwnE enc' sz' T' w base' A' n' c' ys) (hT : T ≠ T') : (Value.slice A n c).ownBlock = none ∨ (Value.slice A n c).ownBlock ≠ (Value.slice A' n' c').ownBlock := by
  rcases h.2.2 with ⟨h1, h2⟩ | ⟨g, cap, cur, hv, hg, hh, _⟩
  · left
    rw [h1]; rfl
  · right
    rw [hv]
    rcases h'.2.2 with ⟨h1, h2⟩ | ⟨g', cap', cur', hv', hg', hh', _⟩
    · rw [h1]
      intro e; cases e
    · rw [hv']
      intro e
      have e2 : g = g' := Option.some.inj e
      subst e2
      rw [hh] at hh'
      injection Option.some.inj hh' with _ h5
      exact hT h5
theorem OwnE.beside {α β : Type} {enc : α → List Value} {enc' : β → List Value} {sz sz' : Nat} {T T' : TypeId} {w w' : World} {base base' n n' c c' : Nat} {A A' : Option Addr} {xs : List α} {ys : List β}
    (h : OwnE enc sz T w base A n c xs) (h' : OwnE enc' sz' T' w base' A' n' c' ys) (hg : w.grownBy w' (Value.slice A' n' c').ownBlock) (hT : T ≠ T') : OwnE enc sz T w' base A n c xs :=
  h.kept hg (apartEE h h' hT)
theorem OwnI.beside {β : Type} {enc' : β → List Value} {sz' : Nat} {T T' : TypeId} {w w' : World} {base base' n n' c c' : Nat} {A A' : Option Addr} {xs : List Int} {ys : List β}
    (h : OwnI T w base A n c xs) (h' : OwnE enc' sz' T' w base' A' n' c' ys) (hg : w.grownBy w' (Value.slice A' n' c').ownBlock) (hT : T ≠ T') : OwnI T w' base A n c xs :=
  h.kept hg (apartIE h h' hT)
theorem OMd.beside {β : Type} {enc' : β → List Value} {sz' : Nat} {T' : TypeId} {N : Nat} {w w' : World} {base base' n n' c c' : Nat} {A A' : Option Addr} {hs : List Mh} {ys : List β}
    (h : OMd N w base A n c hs) (h' : OwnE enc' sz' T' w base' A' n' c' ys) (hg : w.grownBy w' (Value.slice A' n' c').ownBlock) (hT : 110 ≠ T') (hI : 2 ≠ T') : OMd N w' base A n c hs :=
  ⟨h.1.beside h' hg hT, fun x hx => ⟨(h.2 x hx).1.beside h' hg hI, (h.2 x hx).2⟩⟩
theorem OwnE.ne_blk {β : Type} {enc' : β → List Value} {sz' : Nat} {T T' : TypeId} {w : World} {base n c b : Nat} {A : Option Addr} {ys : List β} {M : List Value} (h : OwnE enc' sz' T w base A n c ys) (hb : BlkL w b T' M) (hT : T ≠ T') : (Value.slice A n c).ownBlock ≠ some b := by
  rcases h.2.2 with ⟨h1, h2⟩ | ⟨g, cap, cur, hv, hg, hh, _⟩
  · rw [h1]
    intro e; cases e
  · rw [hv]
    intro e
    have e2 : g = b := Option.some.inj e
    subst e2
    unfold BlkL at hb
    rw [hh] at hb
    injection Option.some.inj hb with _ h5
    exact hT h5
theorem BlkL.beside {β : Type} {enc' : β → List Value} {sz' : Nat} {T T' : TypeId} {w w' : World} {base n c b : Nat} {A : Option Addr} {ys : List β} {M : List Value} (hb : BlkL w b T M) (h : OwnE enc' sz' T' w base A n c ys) (hg : w.grownBy w' (Value.slice A n c).ownBlock) (hT : T' ≠ T) : BlkL w' b T M :=
  (hg.block b hb.lt (fun e => h.ne_blk hb hT e.symm)).trans hb
/-- what the drawing of a schedule has in memory: nodes, active ones, modes, slots, the result's box -/
structure LM (w0 : World) (g : Nat) (w : World) (b nn cn : Nat) (ns : List Nd) (b4 q c : Nat) (zs : List Int) (A1 : Option Addr) (i c1 : Nat) (hs : List Mh) (A2 : Option Addr) (p c2 : Nat) (ss : List Sl) : Prop where
  n : OwnE encNd 4 84 w (w0.heap.size + 1) (some ⟨b, 0, none⟩) nn cn ns
  a : OwnI 2 w (w0.heap.size + 1) (some ⟨b4, 0, none⟩) q c zs
  m : OMd 4 w (w0.heap.size + 1) A1 i c1 hs
  s : OwnE encSl 8 102 w (w0.heap.size + 1) A2 p c2 ss
  k : BlkL w w0.heap.size 28 [.int .i64 0, .slice none 0 0, .slice none 0 0, .slice none 0 0]
  d : Dr w0 g w
namespace LM
variable {w0 w w' : World} {g b nn cn b4 q c i c1 p c2 : Nat} {ns : List Nd} {zs : List Int} {A1 A2 : Option Addr} {hs : List Mh} {ss : List Sl}
theorem draw (h : LM w0 g w b nn cn ns b4 q c zs A1 i c1 hs A2 p c2 ss) (d : Dr w g w') (hl : g < w0.heap.size) : LM w0 g w' b nn cn ns b4 q c zs A1 i c1 hs A2 p c2 ss :=
  ⟨h.n.dr d (by omega), h.a.dr d (by omega), h.m.dr d (by omega), h.s.dr d (by omega), h.k.dr d (by omega), d.next h.d⟩
theorem alloc (h : LM w0 g w b nn cn ns b4 q c zs A1 i c1 hs A2 p c2 ss) (o : Obj) : LM w0 g (w.alloc o) b nn cn ns b4 q c zs A1 i c1 hs A2 p c2 ss :=
  ⟨h.n.alloc o, h.a.alloc o, h.m.alloc o, h.s.alloc o, h.k.alloc o, h.d.alloc o⟩
theorem mode (h : LM w0 g w b nn cn ns b4 q c zs A1 i c1 hs A2 p c2 ss) (hl : g < w0.heap.size) {A9 : Option Addr} {c9 : Nat} {x : Mh} (ho : OwnE encMh 3 110 w' (w0.heap.size + 1) A9 (i + 1) c9 (hs ++ [x])) (hg : w.grownBy w' (Value.slice A1 i c1).ownBlock) (hx : OwnI 2 w (w0.heap.size + 1) x.A x.n x.c x.k.nx) (hn : x.n ≤ 4) : LM w0 g w' b nn cn ns b4 q c zs A9 (i + 1) c9 (hs ++ [x]) A2 p c2 ss := by
  refine ⟨h.n.beside h.m.1 hg (by decide), h.a.beside h.m.1 hg (by decide), ⟨ho, fun y hy => ?_⟩, h.s.beside h.m.1 hg (by decide), h.k.beside h.m.1 hg (by decide), h.d.appG (h.m.1.weaken (Nat.le_succ _)) hg hl⟩
  rcases List.mem_append.1 hy with h1 | h1
  · exact ⟨(h.m.2 y h1).1.beside h.m.1 hg (by decide), (h.m.2 y h1).2⟩
  · rw [List.mem_singleton] at h1
    subst h1
    exact ⟨hx.beside h.m.1 hg (by decide), hn⟩
theorem slot (h : LM w0 g w b nn cn ns b4 q c zs A1 i c1 hs A2 p c2 ss) (hl : g < w0.heap.size) {A9 : Option Addr} {c9 : Nat} {x : Sl} (ho : OwnE encSl 8 102 w' (w0.heap.size + 1) A9 (p + 1) c9 (ss ++ [x])) (hg : w.grownBy w' (Value.slice A2 p c2).ownBlock) : LM w0 g w' b nn cn ns b4 q c zs A1 i c1 hs A9 (p + 1) c9 (ss ++ [x]) :=
  ⟨h.n.beside h.s hg (by decide), h.a.beside h.s hg (by decide), h.m.beside h.s hg (by decide) (by decide), ho, h.k.beside h.s hg (by decide), h.d.appG (h.s.weaken (Nat.le_succ _)) hg hl⟩
end LM
/-- a mode's box and its durations -/
structure LX (w : World) (X : Nat) (L : List Value) (B b5 S c5 : Nat) (zs : List Int) : Prop where
  x : BlkL w X 110 L
  u : OwnI 2 w B (some ⟨b5, 0, none⟩) S c5 zs
namespace LX
variable {w w' : World} {X B b5 S c5 g : Nat} {L : List Value} {zs : List Int}
theorem draw (h : LX w X L B b5 S c5 zs) (d : Dr w g w') (hX : g ≠ X) (hB : g < B) : LX w' X L B b5 S c5 zs := ⟨h.x.dr d hX, h.u.dr d hB⟩
theorem alloc (h : LX w X L B b5 S c5 zs) (o : Obj) : LX (w.alloc o) X L B b5 S c5 zs := ⟨h.x.alloc o, h.u.alloc o⟩
theorem slot (h : LX w X L B b5 S c5 zs) {base p c2 : Nat} {A2 : Option Addr} {ss : List Sl} (hs : OwnE encSl 8 102 w base A2 p c2 ss) (hg : w.grownBy w' (Value.slice A2 p c2).ownBlock) : LX w' X L B b5 S c5 zs :=
  ⟨h.x.beside hs hg (by decide), h.u.beside hs hg (by decide)⟩
end LX
end Go.Proofs.YtbaojbheopcjhaaGreatDoor

namespace Go.Proofs.YtbaojbheopcjhaaGreatDoor
open Go.RowKit
/-- a drawn well-formed schedule -/
def DrML (w : World) (g : Nat) (e : Ending) (w' : World) : Prop :=
  ∃ (m : Mdv) (ns : List Nd) (hs : List Mh) (ss : List Sl), e = .returned (.agg #[.int .i64 m.id, .slice m.An m.nn m.cn, .slice m.Am m.nm m.cm, .slice m.As m.ns m.cs]) ∧ DM w' w.heap.size m ns hs ss ∧ m.nn ≤ 4 ∧ m.nm ≤ 4 ∧ 1 ≤ m.ns ∧ m.ns ≤ 200 ∧ Dr w g w'
set_option maxRecDepth 6000 in
set_option maxHeartbeats 16000000 in
theorem drawMedl_any (g : Nat) (w : World) (h : Src w g) :
    Calls Tryz.prog 125 #[.pointer (some ⟨g, 0, none⟩)] w (DrML w g) := by
  have hl := h.lt
  have hne : g ≠ w.heap.size := by omega
  go_enter Tryz.func125, Tryz.ntmps125
  go_wp2_with fail
  refine (next_any g 4 _ ((Dr.refl h).alloc _).src).mono ?_
  rintro e w1 ⟨x, rfl, hx, d1⟩
  have K1 := Lib.hid (show BlkL w1 w.heap.size 28 [.int .i64 0, .slice none 0 0, .slice none 0 0, .slice none 0 0] from (BlkL.new w 28 _ rfl).dr d1 hne)
  have D1 := Lib.hid (d1.next ((Dr.refl h).alloc _))
  have hs1 := K1.out.lt
  clear d1 hx
  by_cases h0 : x = 0
  case pos =>
    subst h0
    go_wp2_with fail
    refine (small_any _).mono ?_
    rintro e w2 ⟨m, ns, hs, ss, rfl, dm, e1, e2, e3, hb⟩
    have K2 := Lib.hid (K1.out.next hb)
    have D2 := Lib.hid (Dr.below hb D1.out)
    have dm1 := dm.weaken (base' := w.heap.size + 1) hs1
    have E := Lib.hid (show m.nn = 2 ∧ m.nm = 2 ∧ m.ns = 6 from ⟨e1, e2, e3⟩)
    clear hb K1 D1 dm e1 e2 e3
    have k0 := K2.out.c 0 rfl; have k1 := K2.out.c 1 rfl; have k2 := K2.out.c 2 rfl; have k3 := K2.out.c 3 rfl; have kf := K2.out.free
    go_wp2_with fail
    refine bp_forget (fun v => DM v (w.heap.size + 1) m ns hs ss ∧ BlkL v w.heap.size 28 [.int .i64 m.id, .slice m.An m.nn m.cn, .slice m.Am m.nm m.cm, .slice m.As m.ns m.cs] ∧ Dr w g v) ⟨(((dm1.other (Nat.lt_succ_self _) _).other (Nat.lt_succ_self _) _).other (Nat.lt_succ_self _) _).other (Nat.lt_succ_self _) _, (((K2.out.set 0 _).set 1 _).set 2 _).set 3 _, ((((D2.out.set (p := ⟨w.heap.size, 0, none⟩) (Nat.le_refl _) hl _).set (p := ⟨w.heap.size, 1, none⟩) (Nat.le_refl _) hl _).set (p := ⟨w.heap.size, 2, none⟩) (Nat.le_refl _) hl _).set (p := ⟨w.heap.size, 3, none⟩) (Nat.le_refl _) hl _)⟩ ?_
    rintro v9 ⟨dz, ko9, rz⟩
    have d0 := ko9.c 0 rfl; have d1 := ko9.c 1 rfl; have d2 := ko9.c 2 rfl; have d3 := ko9.c 3 rfl
    exact bodyPost_ret (v := .agg #[.int .i64 m.id, .slice m.An m.nn m.cn, .slice m.Am m.nm m.cm, .slice m.As m.ns m.cs]) (by simp [results, Tryz.results125, go_sem, d0, d1, d2, d3]) rfl ⟨m, ns, hs, ss, rfl, dz.weaken (Nat.le_succ _), by have := E.out.1; omega, by have := E.out.2.1; omega, by have := E.out.2.2; omega, by have := E.out.2.2; omega, rz⟩
  case neg =>
    have b0 : ((x : Int) == 0) = false := by simp; omega
    go_wp2_with fail
    refine (drawNodes_any g _ D1.out.src).mono ?_
    rintro e w2 ⟨A, n, c, l, rfl, ho, hn1, hn4, hok, d2⟩
    have K2 := Lib.hid (K1.out.dr d2 hne)
    have D2 := Lib.hid (d2.next D1.out)
    obtain ⟨b, rfl, hb1, hb2⟩ := ho.form (by omega)
    have hcap := ho.capE
    have N2 := Lib.hid ho
    have OK := Lib.hid hok
    clear d2 K1 D1 ho hok b0
    have hfr := N2.out.frozen
    have ho3 := N2.out.cell encNd_len (i := 0) (j := 3) (by omega) (by omega)
    have st := N2.out.stored encNd_len 0 3 (.bool false) ⟨(ge l 0).id, (ge l 0).nm, (ge l 0).dr, false⟩ (by omega) (by omega) rfl
    simp only [encNd, Nat.zero_mul, Nat.zero_add, List.getElem?_cons_zero, List.getElem?_cons_succ] at ho3 st
    have hnp : (0 : Int) < (n : Int) := by omega
    obtain ⟨w3, hw3⟩ : ∃ v, v = w2.setCell ⟨b, 3, none⟩ (.bool false) := ⟨_, rfl⟩
    rw [← hw3] at st
    go_upto_if 27 with fail
    rw [← hw3]
    have N3 := Lib.hid st.1
    have K3 := Lib.hid (show BlkL w3 w.heap.size 28 [.int .i64 0, .slice none 0 0, .slice none 0 0, .slice none 0 0] from hw3 ▸ K2.out.other (p := ⟨b, 3, none⟩) (by show ¬ b = _; omega) _)
    have D3 := Lib.hid (show Dr w g w3 from hw3 ▸ D2.out.set (p := ⟨b, 3, none⟩) (by show w.heap.size ≤ b; omega) hl _)
    clear st hw3 hfr ho3 K2 D2 N2
    obtain ⟨l1, hl1⟩ : ∃ v, v = l.set 0 ⟨(ge l 0).id, (ge l 0).nm, (ge l 0).dr, false⟩ := ⟨_, rfl⟩
    rw [← hl1] at N3
    have OK1 := Lib.hid (show ∀ x ∈ l1, NdOk x from by
      intro y hy
      rw [hl1] at hy
      rcases List.mem_or_eq_of_mem_set hy with h1 | rfl
      · exact OK.out y h1
      · exact OK.out (ge l 0) (mem_ge (by rw [← List.length_set (i := 0), ← hl1, N3.out.len]; omega)))
    have P1 := Lib.hid (show ∃ y r, l1 = y :: r ∧ y.ps = false from by
      rw [hl1]
      cases l with
      | nil => have := N3.out.len; rw [hl1] at this; simp at this; omega
      | cons y r => exact ⟨_, r, rfl, rfl⟩)
    clear hl1 OK
    go_cut [3] (fun v wc => w3 = wc ∧ ∃ n' : Nat, v = .slice (some ⟨b, 0, none⟩) n' c ∧ 1 ≤ n' ∧ n' ≤ 3 ∧ OwnE encNd 4 84 w3 w1.heap.size (some ⟨b, 0, none⟩) n' c (l1.take n'))
    case first =>
      rcases (show n ≤ 3 ∨ n = 4 by omega) with h3 | h3
      · have h3i : (n : Int) ≤ 3 := by omega
        have TK := Lib.hid (show l1.take n = l1 from List.take_of_length_le (by rw [N3.out.len]; exact Nat.le_refl _))
        go_wp2_with fail
        go_meet
        exact ⟨rfl, n, rfl, hn1, h3, by rw [TK.out]; exact N3.out⟩
      · subst h3
        have h4i : (3 : Int) ≤ (c : Int) := by omega
        go_wp2_with fail
        go_meet
        exact ⟨rfl, 3, rfl, by omega, by omega, N3.out.cut encNd_len (by omega)⟩
    case rest =>
      obtain ⟨rfl, n', rfl, hn1', hn3', hN4⟩ := hcut
      obtain ⟨l3, hl3⟩ : ∃ v, v = l1.take n' := ⟨_, rfl⟩
      rw [← hl3] at hN4
      have OK3 := Lib.hid (show ∀ x ∈ l3, NdOk x from fun x hx => OK1.out x (List.mem_of_mem_take (hl3 ▸ hx)))
      have P3 := Lib.hid (show 0 < actV l3 from by
        obtain ⟨y, r, e1, e2⟩ := P1.out
        rw [hl3, e1]
        cases n' with
        | zero => omega
        | succ q => rw [List.take_succ_cons]; exact actV_pos e2)
      have N4 := Lib.hid hN4
      clear hl3 OK1 P1 N3 hN4
      go_wp2_with fail
      refine (l10Active_w _ n' c l3 _ (N4.out.reads encNd_len) (by omega) OK3.out).mono ?_
      rintro e w4 ⟨rfl, rfl⟩
      have hB1 := actV_ltW OK3.out
      have hB0 := P3.out
      obtain ⟨B, hB⟩ : ∃ v, actV l3 = v := ⟨_, rfl⟩
      rw [hB] at hB0 hB1 ⊢
      clear hB P3
      go_wp2_with fail
      refine (sMembersOf_own B hB1 _).mono ?_
      obtain ⟨q, hq⟩ : ∃ v, bitCnt B 32 = v := ⟨_, rfl⟩
      have hq1 := bitCnt_pos hB0 hB1
      have hq2 := bitCnt_le B 32
      obtain ⟨zs, hzs⟩ : ∃ v, memL B 32 = v := ⟨_, rfl⟩
      rw [hq] at hq1 hq2 ⊢
      rw [hzs]
      clear hq hzs hB0 hB1
      have z3 := K3.out.lt
      rintro e w4 ⟨A4, c4, rfl, own4, hb4⟩
      have N5 := Lib.hid (N4.out.below hb4)
      have K5 := Lib.hid (K3.out.next hb4)
      have D5 := Lib.hid (Dr.below hb4 D3.out)
      have M5 := Lib.hid own4
      have hs4 := hb4.size
      clear own4 hb4 N4 K3 D3
      obtain ⟨b4, rfl, hb4l, hb4u⟩ := M5.out.form (by omega)
      have z4 := K5.out.lt
      obtain ⟨u5, hu5⟩ : ∃ v, v = (w4.alloc (.cells #[] 110)).alloc (.cells #[] 102) := ⟨_, rfl⟩
      have L5 := Lib.hid (show LM w g u5 b n' c l3 b4 q c4 zs (some ⟨w4.heap.size, 0, none⟩) 0 0 [] (some ⟨w4.heap.size + 1, 0, none⟩) 0 0 [] from by
        rw [hu5]
        refine ⟨((N5.out.weaken (by omega)).alloc _).alloc _, ((M5.out.weaken (by omega)).alloc _).alloc _, ⟨(OwnE.empty w4 (by omega)).alloc _, fun x hx => absurd hx List.not_mem_nil⟩, ?_, (K5.out.alloc _).alloc _, (D5.out.alloc _).alloc _⟩
        have e7 := OwnE.empty (enc := encSl) (sz := 8) (T := 102) (w4.alloc (.cells #[] 110)) (base := w.heap.size + 1) (by rw [isz_alloc]; omega)
        rw [isz_alloc] at e7
        exact e7)
      clear N5 M5 K5 D5 hb4l hb4u z3 hs4
      go_upto_region 10 with fail
      rw [← hu5]
      clear hu5
      go_wp2_with fail
      refine (next_any g 2 _ L5.out.d.src).mono ?_
      rintro e u6 ⟨y, rfl, hy, d6⟩
      have L6 := Lib.hid (L5.out.draw d6 hl)
      have hy2 : y < 2 := by omega
      clear hy d6 L5
      go_wp2_with fail
      go_loopw [6, 7, 9, 10, 11, 12, 13, 14, 15] (fun o1 o2 v9 _ _ _ _ _ _ wr => ∃ (i p : Nat) (A1 : Option Addr) (c1 : Nat) (hs : List Mh) (A2 : Option Addr) (c2 : Nat) (ss : List Sl), i ≤ 1 + y ∧ i ≤ p ∧ p ≤ 66 * i ∧ o1 = .slice A1 i c1 ∧ o2 = .slice A2 p c2 ∧ v9 = .int .i64 i ∧ LM w g wr b n' c l3 b4 q c4 zs A1 i c1 hs A2 p c2 ss) (fun _ _ v9 _ _ _ _ _ _ _ => 1 + y - (intOf v9).toNat)
      case atStart => exact ⟨0, 0, _, _, [], _, _, [], by omega, by omega, by omega, rfl, rfl, rfl, L6.out⟩
      case round =>
        clear L6
        obtain ⟨i, p, A1, c1, hs, A2, c2, ss, hi, hip, hpi, rfl, rfl, rfl, lm⟩ := hrel
        obtain ⟨wo, hwo⟩ : ∃ v, v = wr := ⟨_, rfl⟩
        subst hwo
        have L7 := Lib.hid lm
        clear lm
        by_cases hq : i < 1 + y
        · have hqi : (i : Int) < 1 + (y : Int) := by omega
          go_wp2_with fail
          refine (next_any g 2 _ L7.out.d.src).mono ?_
          rintro e w8 ⟨r, rfl, hr, d8⟩
          replace L7 := Lib.hid (L7.out.draw d8 hl)
          have hr2 : r < 2 := by omega
          clear hr d8
          go_wp2_with fail
          refine (next_any g 2 _ L7.out.d.src).mono ?_
          rintro e w9 ⟨s, rfl, hs9, d9⟩
          replace L7 := Lib.hid (L7.out.draw d9 hl)
          have hs2 : s < 2 := by omega
          clear hs9 d9
          have hwX : w.heap.size + 1 ≤ w9.heap.size := by have := L7.out.k.lt; omega
          have hgX : g ≠ w9.heap.size := by omega
          go_upto_if 56 with fail
          have ey : y = 0 ∨ y = 1 := by omega
          have XM := Lib.hid (fun j e => (L7.out.m.1.row j e).2)
          go_cut [10] (fun v wc => v = .pointer (some ⟨w9.heap.size, 0, none⟩) ∧ ∃ (Ax : Option Addr) (nx cx : Nat) (zx : List Int), LM w g wc b n' c l3 b4 q c4 zs A1 i c1 hs A2 p c2 ss ∧ BlkL wc w9.heap.size 110 [.int .i64 (1 + (r : Int)), .int .i64 ((q : Int) + s), .slice Ax nx cx] ∧ OwnI 2 wc (w.heap.size + 1) Ax nx cx zx ∧ nx ≤ 4)
          case first =>
            rcases ey with rfl | rfl
            · go_wp2_with fail
              go_meet
              exact ⟨rfl, none, 0, 0, [], L7.out.alloc _, BlkL.new _ _ _ rfl, OwnI.nil _ _ _, by omega⟩
            · go_wp2_with fail
              go_meet
              exact ⟨rfl, some ⟨w9.heap.size + 1, 0, none⟩, 1, 1, [1 - (i : Int)], (L7.out.alloc _).alloc _, (BlkL.new _ _ _ rfl).alloc _, OwnI.lit _ (by simp) (by omega) rfl (by unfold maxLen; omega) rfl, by omega⟩
          case rest =>
            obtain ⟨rfl, Ax, nx, cx, zx, lm, bx, ox, hnx⟩ := hcut
            obtain ⟨v0, hv0⟩ : ∃ v, v = wc := ⟨_, rfl⟩
            subst hv0
            have L8 := Lib.hid lm
            have BX := Lib.hid bx
            have OX := Lib.hid ox
            have k0 := bx.c 0 rfl; have k1 := bx.c 1 rfl; have k2 := bx.c 2 rfl
            clear lm bx ox L7 ey
            go_wp2_with (at_builtin; refine wpl_appG encMh 3 encMh_len encMh_one _ _ Tryz.underlying25 infoMode rfl (by omega) (by omega) rfl _ _ rfl (w.heap.size + 1) _ i _ _ rfl L8.out.m.1 ⟨⟨1 + (r : Int), (q : Int) + s, zx⟩, Ax, nx, cx⟩ rfl _ rfl (by omega) (by have := L8.out.k.lt; omega) ?_; intro A9 c9 w10 hown9 hB9 hg9)
            have L9 := Lib.hid (L8.out.mode hl hown9 hg9 OX.out hnx)
            have BX9 := Lib.hid (show BlkL w10 w9.heap.size 110 [.int .i64 (1 + (r : Int)), .int .i64 ((q : Int) + s), .slice Ax nx cx] from (hg9.block w9.heap.size BX.out.lt (fun e => by have := XM.out _ e.symm; omega)).trans BX.out)
            have hX10 := BX9.out.lt
            clear hown9 hg9 hB9 BX OX k0 k1 k2 L8 XM
            go_loopw [11, 12] (fun o v wq => ∃ (k : Nat) (A4 : Option Addr) (c5 : Nat) (ds : List Int), k ≤ q + s ∧ o = .slice A4 k c5 ∧ v = .int .i64 k ∧ OwnI 2 wq w10.heap.size A4 k c5 ds ∧ Dr w10 g wq) (fun _ v _ => q + s - (intOf v).toNat)
            case atStart => exact ⟨0, _, _, [], by omega, rfl, rfl, OwnI.empty _ (Nat.le_refl _), (Dr.refl L9.out.d.src).alloc _⟩
            case round =>
              obtain ⟨k, A4, c5, ds, hk, rfl, rfl, own4, d4⟩ := hrel
              obtain ⟨v1, hv1⟩ : ∃ v, v = wr := ⟨_, rfl⟩
              subst hv1
              have O4 := Lib.hid own4
              have D4 := Lib.hid d4
              have kx1 := (BX9.out.dr d4 hgX).c 1 rfl
              clear own4 d4
              by_cases hks : k < q + s
              · have hki : (k : Int) < (q : Int) + (s : Int) := by omega
                go_wp2_with fail
                refine (next_any g 100 _ D4.out.src).mono ?_
                rintro e w11 ⟨z, rfl, hz, d5⟩
                have O5 := Lib.hid (O4.out.dr d5 (by omega))
                have D5 := Lib.hid (d5.next D4.out)
                have hz100 : z < 100 := by omega
                clear d5 hz O4 D4 kx1
                go_wp2_with (at_builtin; refine wpl_appI _ _ Tryz.underlying31 infoInt rfl _ _ rfl w10.heap.size _ k _ _ rfl O5.out (260 + (z : Int)) rfl (by omega) D5.out.size ?_; intro A6 c6 w6 hown6 hB6 hg6)
                go_roundw
                case rel => exact ⟨k + 1, A6, c6, _, by omega, rfl, vint (by omega), hown6, D5.out.app O5.out hg6 (by omega)⟩
                case measure => simp [intOf]; omega
              · obtain rfl : k = q + s := by omega
                obtain ⟨b5, rfl, _, _⟩ := O4.out.form (by omega)
                have L10 := Lib.hid (L9.out.draw D4.out hl)
                have X10 := Lib.hid (show LX v1 w9.heap.size [.int .i64 (1 + (r : Int)), .int .i64 ((q : Int) + s), .slice Ax nx cx] w10.heap.size b5 (q + s) c5 ds from ⟨BX9.out.dr D4.out hgX, O4.out⟩)
                clear L9 BX9 O4 D4
                go_wp2_with fail
                go_loopw [7, 13, 14, 15] (fun o v _ _ wq => ∃ (k p1 : Nat) (A7 : Option Addr) (c7 : Nat) (ss7 : List Sl), k ≤ 1 + r ∧ p + k ≤ p1 ∧ p1 ≤ p + 33 * k ∧ o = .slice A7 p1 c7 ∧ v = .int .i64 k ∧ LM w g wq b n' c l3 b4 q c4 zs A9 (i + 1) c9 (hs ++ [⟨⟨1 + (r : Int), (q : Int) + s, zx⟩, Ax, nx, cx⟩]) A7 p1 c7 ss7 ∧ LX wq w9.heap.size [.int .i64 (1 + (r : Int)), .int .i64 ((q : Int) + s), .slice Ax nx cx] w10.heap.size b5 (q + s) c5 ds) (fun _ v _ _ _ => 1 + r - (intOf v).toNat)
                case atStart => exact ⟨0, p, _, _, _, by omega, by omega, by omega, rfl, rfl, L10.out, X10.out⟩
                case round =>
                  clear L10 X10
                  obtain ⟨k, p1, A7, c7, ss7, hk1, hp1, hp2, rfl, rfl, lm7, lx7⟩ := hrel
                  obtain ⟨v2, hv2⟩ : ∃ v, v = wr := ⟨_, rfl⟩
                  subst hv2
                  have L11 := Lib.hid lm7
                  have X11 := Lib.hid lx7
                  have kx0 := lx7.x.c 0 rfl
                  clear lm7 lx7
                  by_cases hkr : k < 1 + r
                  · have hki : (k : Int) < 1 + (r : Int) := by omega
                    go_wp2_with fail
                    go_loopw [7, 14, 15] (fun o v _ wq => ∃ (j : Nat) (A8 : Option Addr) (c8 : Nat) (ss8 : List Sl), j ≤ q + s ∧ o = .slice A8 (p1 + j) c8 ∧ v = .int .i64 j ∧ LM w g wq b n' c l3 b4 q c4 zs A9 (i + 1) c9 (hs ++ [⟨⟨1 + (r : Int), (q : Int) + s, zx⟩, Ax, nx, cx⟩]) A8 (p1 + j) c8 ss8 ∧ LX wq w9.heap.size [.int .i64 (1 + (r : Int)), .int .i64 ((q : Int) + s), .slice Ax nx cx] w10.heap.size b5 (q + s) c5 ds) (fun _ v _ _ => q + s - (intOf v).toNat)
                    case atStart => exact ⟨0, _, _, _, by omega, rfl, rfl, L11.out, X11.out⟩
                    case round =>
                      clear L11 X11 kx0
                      obtain ⟨j, A8, c8, ss8, hj, rfl, rfl, lm8, lx8⟩ := hrel
                      obtain ⟨v3, hv3⟩ : ∃ v, v = wr := ⟨_, rfl⟩
                      subst hv3
                      have L12 := Lib.hid lm8
                      have X12 := Lib.hid lx8
                      have kx1 := lx8.x.c 1 rfl
                      clear lm8 lx8
                      by_cases hjs : j < q + s
                      · have hji : (j : Int) < (q : Int) + (s : Int) := by omega
                        go_wp2_with fail
                        refine (drawDesc_any g _ L12.out.d.src).mono ?_
                        rintro e w13 ⟨nd, kd, sz, du, ch, rfl, _, _, dd⟩
                        have L13 := Lib.hid (L12.out.draw dd hl)
                        have X13 := Lib.hid (X12.out.draw dd hgX (by omega))
                        clear dd L12 X12 kx1
                        obtain ⟨e1, he1, he2⟩ : ∃ e1 : Nat, (j : Int) % (q : Int) = (e1 : Int) ∧ e1 < q := ⟨j % q, by simp, Nat.mod_lt _ (by omega)⟩
                        have hq0 : (0 : Int) < (q : Int) := by omega
                        have hei : (e1 : Int) < (q : Int) := by omega
                        have ca := L13.out.a.cell he2
                        have cd := X13.out.u.cell hjs
                        have hl4 := (L13.out.a.block b4 0 rfl).2.2
                        have hl5 := (X13.out.u.block b5 0 rfl).2.2
                        obtain ⟨K, hK⟩ : ∃ K : Int, (kd = 3 ∧ (0 : Int) < (i : Int) ∧ K = 1) ∨ (kd = 3 ∧ ¬ (0 : Int) < (i : Int) ∧ K = 3) ∨ ((kd == 3) = false ∧ ¬ kd = 3 ∧ K = kd) := by
                          by_cases h3 : kd = 3
                          · by_cases h4 : (0 : Int) < (i : Int)
                            · exact ⟨1, .inl ⟨h3, h4, rfl⟩⟩
                            · exact ⟨3, .inr (.inl ⟨h3, h4, rfl⟩)⟩
                          · exact ⟨kd, .inr (.inr ⟨by simpa using h3, h3, rfl⟩)⟩
                        have hp2b : p1 + j ≤ 1000 := by omega
                        rcases hK with ⟨rfl, hi0, hK⟩ | ⟨rfl, hi0, hK⟩ | ⟨hk3, hk4, hK⟩
                        all_goals
                          have HK := Lib.hid hK
                          clear hK
                          go_wp2_with (at_builtin; refine wpl_appG encSl 8 encSl_len encSl_one _ _ Tryz.underlying26 infoSlot rfl (by omega) (by omega) rfl _ _ rfl (w.heap.size + 1) _ (p1 + j) _ _ rfl (L13.out.s.alloc _) ⟨i, k, j, gi zs e1, K, sz, gi ds j, ch⟩ (by simp [Act.eval]) _ (by first | rfl | (rw [HK.out]; rfl)) (by omega) (by have := L13.out.k.lt; simp; omega) ?_; intro A10 c10 w14 hown10 hB10 hg10)
                          have ej : p1 + j + 1 = p1 + (j + 1) := Nat.add_assoc _ _ _
                          have L14 := (L13.out.alloc _).slot hl hown10 hg10
                          rw [ej] at L14
                          replace L14 := Lib.hid L14
                          have EJ := Lib.hid ej
                          clear ej
                          have X14 := Lib.hid ((X13.out.alloc _).slot (L13.out.s.alloc _) hg10)
                          clear hown10 hg10 hB10 L13 X13 ca cd hl4 hl5 hei hq0 he1 he2
                          go_roundw
                          case rel =>
                            repeat apply Exists.intro
                            refine ⟨?_, rfl⟩
                            exact ⟨j + 1, A10, c10, _, by omega, by rw [EJ.out], vint (by omega), L14.out, X14.out⟩
                          case measure => simp [intOf]; omega
                      · obtain rfl : j = q + s := by omega
                        have HP := Lib.hid hp2
                        go_wp2_with fail
                        go_roundw
                        case rel => exact ⟨k + 1, p1 + (q + s), A8, c8, _, by omega, by omega, by have := HP.out; omega, rfl, vint (by omega), L12.out, X12.out⟩
                        case measure => simp [intOf]; omega
                  · obtain rfl : k = 1 + r := by omega
                    go_wp2_with fail
                    go_roundw
                    case rel => exact ⟨i + 1, p1, A9, c9, _, A7, c7, _, by omega, by omega, by omega, rfl, rfl, vint (by omega), L11.out⟩
                    case measure => simp [intOf]; omega
        · obtain rfl : i = 1 + y := by omega
          go_wp2_with fail
          refine (next_any g 5000 _ L7.out.d.src).mono ?_
          rintro e v5 ⟨z, rfl, hz, d5⟩
          replace L7 := Lib.hid (L7.out.draw d5 hl)
          have hz5 : z < 5000 := by omega
          have rf := L7.out.k.free
          have k0 := L7.out.k.c 0 rfl; have k1 := L7.out.k.c 1 rfl; have k2 := L7.out.k.c 2 rfl; have k3 := L7.out.k.c 3 rfl
          have HB := Lib.hid (show 1 ≤ p ∧ p ≤ 200 from by omega)
          have dm := (show DM v5 (w.heap.size + 1) ⟨1 + (z : Int), some ⟨b, 0, none⟩, n', c, A1, 1 + y, c1, A2, p, c2⟩ l3 hs ss from ⟨L7.out.n, L7.out.m, L7.out.s, fun x hx => (OK3.out x hx).1⟩)
          clear d5 hz hip hpi
          go_wp2_with fail
          refine bp_forget (fun v => DM v (w.heap.size + 1) ⟨1 + (z : Int), some ⟨b, 0, none⟩, n', c, A1, 1 + y, c1, A2, p, c2⟩ l3 hs ss ∧ BlkL v w.heap.size 28 [.int .i64 (1 + (z : Int)), .slice (some ⟨b, 0, none⟩) n' c, .slice A1 (1 + y) c1, .slice A2 p c2] ∧ Dr w g v) ⟨(((dm.other (Nat.lt_succ_self _) _).other (Nat.lt_succ_self _) _).other (Nat.lt_succ_self _) _).other (Nat.lt_succ_self _) _, (((L7.out.k.set 0 _).set 1 _).set 2 _).set 3 _, ((((L7.out.d.set (p := ⟨w.heap.size, 0, none⟩) (Nat.le_refl _) hl _).set (p := ⟨w.heap.size, 1, none⟩) (Nat.le_refl _) hl _).set (p := ⟨w.heap.size, 2, none⟩) (Nat.le_refl _) hl _).set (p := ⟨w.heap.size, 3, none⟩) (Nat.le_refl _) hl _)⟩ ?_
          rintro v9 ⟨dz, ko9, rz⟩
          have d0 := ko9.c 0 rfl; have d1 := ko9.c 1 rfl; have d2 := ko9.c 2 rfl; have d3 := ko9.c 3 rfl
          exact bodyPost_ret (v := .agg #[.int .i64 (1 + (z : Int)), .slice (some ⟨b, 0, none⟩) n' c, .slice A1 (1 + y) c1, .slice A2 p c2]) (by simp [results, Tryz.results125, go_sem, d0, d1, d2, d3]) rfl ⟨⟨1 + (z : Int), some ⟨b, 0, none⟩, n', c, A1, 1 + y, c1, A2, p, c2⟩, l3, hs, ss, rfl, dz.weaken (Nat.le_succ _), by show n' ≤ 4; omega, by show 1 + y ≤ 4; omega, HB.out.1, HB.out.2, rz⟩
end Go.Proofs.YtbaojbheopcjhaaGreatDoor
