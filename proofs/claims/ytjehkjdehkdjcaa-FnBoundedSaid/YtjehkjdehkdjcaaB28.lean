/- Walks, laws and small notions for the claims of this seat, several texts as one (DrwZ). Conditions: as each theorem states them. -/
import Derived.Test.YtjehkjdehkdjcaaB13
import Derived.Test.YtjehkjdehkdjcaaB12
import Derived.Test.YtjehkjdehkdjcaaB5
import Derived.Test.YtjehkjdehkdjcaaB6
namespace Go.Proofs.Ytjehkjdehkdjcaa
open Go.RowKit

/-- samples that lie apart from a source and from a list of faults of the call's own -/
structure NG (w : World) (base g : Nat) (A : Option Addr) (n c : Nat) (zs : List Int) : Prop where
  rd : RI w w.heap.size A n zs
  pl : Pl A c
  nc : n ≤ c
  cm : c ≤ maxLen
  ap : ∀ b o, A = some ⟨b, o, none⟩ → b ≠ g ∧ b < w.heap.size ∧ (b < base ∨ ∃ cur, w.heap[b]? = some (.cells cur 2 (0, 0)))
section
variable {w w' : World} {base g n c : Nat} {A : Option Addr} {zs : List Int}
theorem NG.grown {row : Option Nat} (h : NG w base g A n c zs) (hg : w.grownBy w' row) (hne : ∀ b o, A = some ⟨b, o, none⟩ → row ≠ some b) : NG w' base g A n c zs where
  rd := ⟨h.rd.1, fun hn => by
    obtain ⟨b, o, e, hb, hc⟩ := h.rd.2 hn
    exact ⟨b, o, e, Nat.lt_of_lt_of_le hb hg.size, fun i hi => World.grownBy.cell hg (hc i hi) (fun e2 => hne b o e e2.symm)⟩⟩
  pl := h.pl
  nc := h.nc
  cm := h.cm
  ap := fun b o e => by
    obtain ⟨h1, h2, h3⟩ := h.ap b o e
    refine ⟨h1, Nat.lt_of_lt_of_le h2 hg.size, ?_⟩
    rcases h3 with h3 | ⟨cur, h3⟩
    · exact .inl h3
    · exact .inr ⟨cur, (hg.block b h2 (fun e2 => hne b o e e2.symm)).trans h3⟩
theorem NG.below (h : NG w base g A n c zs) (hb : Below w.heap.size w w') : NG w' base g A n c zs := h.grown (grown_of_below hb none) (fun _ _ _ e => by cases e)
theorem NG.dr (h : NG w base g A n c zs) (d : Dr w g w') : NG w' base g A n c zs := h.grown d.gr (fun b o e e2 => (h.ap b o e).1 (by injection e2 with e2; exact e2.symm))
theorem NG.out {base' Ao : _} {m co : Nat} {fs : List Flt} (h : NG w base g A n c zs) (hown : OwnE encF 4 82 w base' Ao m co fs) (hB : base ≤ base') (hg : w.grownBy w' (Value.slice Ao m co).ownBlock) : NG w' base g A n c zs :=
  h.grown hg fun b o e e2 => by
    obtain ⟨_, _, h3⟩ := h.ap b o e
    rcases hown.2.2 with ⟨h4, _⟩ | ⟨g', cap, cur, hv, hb', hh, _⟩
    · rw [h4] at e2; cases e2
    · rw [hv] at e2
      have e3 : g' = b := Option.some.inj e2
      subst e3
      rcases h3 with h3 | ⟨cur2, h3⟩
      · omega
      · rw [hh] at h3
        injection h3 with h3
        injection h3 with _ h4
        exact absurd h4 (by decide)
theorem NG.mk_own {B : Nat} (h : OwnI 2 w B A n c zs) (hg : g < B) : NG w base g A n c zs where
  rd := h.reads
  pl := h.pl
  nc := h.cap.1
  cm := h.cap.2
  ap := fun b o e => by
    have hb := h.block b o e
    rcases h.2 with ⟨h4, _⟩ | ⟨g', cap, cur, hv, hb', hh, _⟩
    · injection h4 with h4; rw [h4] at e; cases e
    · injection hv with h4
      rw [h4] at e
      injection e with e
      injection e with e
      subst e
      exact ⟨by omega, (Array.getElem?_eq_some_iff.1 hh).1, .inr ⟨cur, hh⟩⟩
end

theorem Blk4.kept {w w' : World} {b : Nat} {t : TypeId} {u0 u1 u2 u3 : Value} {row : Option Nat} (h : Blk4 w b t u0 u1 u2 u3) (hg : w.grownBy w' row) (hne : some b ≠ row) : Blk4 w' b t u0 u1 u2 u3 := (hg.block b h.lt hne).trans h
theorem Blk4.set3 {w : World} {b : Nat} {t : TypeId} {u0 u1 u2 u3 : Value} (h : Blk4 w b t u0 u1 u2 u3) (u : Value) : Blk4 (w.setCell ⟨b, 3, none⟩ u) b t u0 u1 u2 u := by
  have hlt := lt_of_block h
  unfold Blk4 at h ⊢
  have h' : w.heap[b] = .cells #[u0, u1, u2, u3] t (0, 0) := by simpa [Array.getElem?_eq_getElem hlt] using h
  show (w.heap.modify b _)[b]? = _
  rw [Array.getElem?_eq_getElem (by simpa using hlt), Array.getElem_modify_self, h']
  simp
theorem bits_at {zs : List Int} {n k : Nat} (h : isBits zs = true) (hl : zs.length = n) (hk : k < n) : 0 ≤ gi zs k ∧ gi zs k ≤ 1 := (isBits_iff.1 h).2 _ (mem_gi (by omega))

set_option maxRecDepth 100000 in
set_option maxHeartbeats 16000000 in
theorem l26DrawScript_any (g n c : Nat) (A : Option Addr) (zs : List Int) (w : World) (h : Src w g) (ng : NG w w.heap.size g A n c zs) (hn : n ≤ 16384) :
    Calls Try.prog 182 #[.pointer (some ⟨g, 0, none⟩), .slice A n c] w (DrE w g 40) := by
  have hl := h.lt
  have L0 := Lib.hid ng.rd.len
  rcases bool_cases (isBits zs) with hz | hz
  case inr =>
    have NGH := Lib.hid ng
    go_enter Try.func182, Try.ntmps182
    go_wp2_with (go_at_call 130; refine (sIsBits_any _ _ _ zs _ NGH.out.rd (by omega)).mono ?_; rw [hz]; rintro e w' ⟨rfl, rfl⟩)
    go_ret
    exact ⟨none, 0, 0, [], rfl, OwnE.nil _ _ _ _ _, by omega, Dr.refl h⟩
  have hn8 : n ≤ 8192 := by have := isBits_len hz; have := L0.out; omega
  have NG0 := Lib.hid ng
  have HZ := Lib.hid hz
  have hown0 := OwnE.empty (enc := encF) (sz := 4) (T := 82) w (base := w.heap.size) (Nat.le_refl _)
  have hb0 := (Below.refl w.heap.size w).alloc (Nat.le_refl _) (o := .cells #[] 82)
  have d0 := (Dr.refl h).alloc (.cells #[] 82)
  clear ng hz
  go_enter Try.func182, Try.ntmps182
  go_wp2_with (go_at_call 130; refine (sIsBits_any _ _ _ zs _ NG0.out.rd (by omega)).mono ?_; rw [HZ.out]; rintro e w' ⟨rfl, rfl⟩)
  refine (next_any g 5 _ d0.src).mono ?_
  rintro e w1 ⟨x, rfl, hx, d1⟩
  have NG1 := Lib.hid ((NG0.out.below hb0).dr d1)
  have own1 := hown0.dr d1 hl
  have d1' := d1.next d0
  clear hown0 hb0 d0 d1 NG0
  by_cases x0 : x = 0
  · subst x0
    go_wp2_with fail
    refine (drawScript_any g n _ d1'.src (by omega)).mono ?_
    rintro e w2 ⟨A2, n2, c2, fs2, rfl, own2, hn2, d2⟩
    go_wp2
    go_ret
    exact ⟨A2, n2, c2, fs2, rfl, own2.weaken d1'.size, by omega, d2.next d1'⟩
  have b0 : ((x : Int) == 0) = false := by simp; omega
  by_cases x12 : x = 1 ∨ x = 2
  · have b1 : ((x : Int) == 1) = true ∨ (((x : Int) == 1) = false ∧ ((x : Int) == 2) = true) := by
      rcases x12 with rfl | rfl
      · exact .inl rfl
      · exact .inr ⟨rfl, rfl⟩
    have I1 := Lib.hid d1'
    rcases b1 with b1 | ⟨b1, b2⟩
    all_goals
      go_wp2_with fail
      refine (next_any g 20 _ d1'.src).mono ?_
      rintro e w2 ⟨at0, rfl, hat, d2⟩
      have own2 := own1.dr d2 hl
      have d2' := d2.next d1'
      have hat' : at0 ≤ 20 := by omega
      clear d2 hat own1 d1' I1
      go_wp2_with fail
      go_loopw [5, 7] (fun o a wr => ∃ (m at1 : Nat) (A' : Option Addr) (c' : Nat) (fs : List Flt), m ≤ 25 ∧ at1 ≤ 20 + 50 * m ∧ o = .slice A' m c' ∧ a = .int .i64 at1 ∧ OwnE encF 4 82 wr w.heap.size A' m c' fs ∧ Dr w g wr) (fun o _ _ => 25 - (match o with | .slice _ m _ => m | _ => 0))
      case atStart => exact ⟨0, at0, _, _, _, by omega, by omega, rfl, rfl, own2, d2'⟩
      case round =>
        obtain ⟨m, at1, A', c', fs, hm, hat1, rfl, rfl, hown, d⟩ := hrel
        by_cases hq : (at1 : Int) < (n : Int) ∧ m < 25
        · obtain ⟨q1, q2⟩ := hq
          go_wp2_with (at_builtin; refine wpl_appF _ _ Try.underlying60 infoFault rfl _ _ rfl w.heap.size _ m _ _ rfl hown ⟨1, at1, 0, 0⟩ rfl (by omega) d.size ?_; intro A6 c6 w6 hown6 hB6 hg6)
          have d6 := d.appE hown hg6 hl
          clear hown d hB6 hg6
          go_wp2_with fail
          refine (next_any g 40 _ d6.src).mono ?_
          rintro e w7 ⟨y, rfl, hy, d7⟩
          have own7 := hown6.dr d7 hl
          have d7' := d7.next d6
          have hy' : y ≤ 40 := by omega
          go_wp2
          go_roundw
          case rel => exact ⟨m + 1, at1 + 6 + y, A6, c6, _, by omega, by omega, rfl, by first | rfl | go_num | exact vint (by rw [IntWalk.i64_in ((at1 : Int) + 6) (by omega), IntWalk.i64_in _ (by omega)]; omega), own7, d7'⟩
          case measure => simp; omega
        · rcases (show ¬ (at1 : Int) < (n : Int) ∨ ((at1 : Int) < (n : Int) ∧ ¬ m < 25) by omega) with q1 | ⟨q1, q2⟩
          all_goals
            clear hq
            by_cases hm1 : 1 < m
            · obtain ⟨go, rfl, hga, hgb⟩ := hown.form (by omega)
              have hm2 : (1 : Int) < (m : Int) := by omega
              go_wp2_with fail
              refine (next_any g 12 _ d.src).mono ?_
              rintro e w7 ⟨y, rfl, hy, d7⟩
              have own7 := hown.dr d7 hl
              have d7' := d7.next d
              by_cases hy0 : y = 0
              · subst hy0
                obtain ⟨p0, hp0⟩ : ∃ p0, (ge fs 0).pos = p0 := ⟨_, rfl⟩
                have k1 : w7.cell? ⟨go, 1, none⟩ = some (.int .i64 p0) := by
                  have := own7.cell encF_len (i := 0) (j := 1) (by omega) (by omega)
                  rw [← hp0]
                  simpa [encF] using this
                have k2 := own7.frozen 5
                obtain ⟨p1, hp1⟩ : ∃ p1, (ge fs 1).pos = p1 := ⟨_, rfl⟩
                have k5 : w7.cell? ⟨go, 5, none⟩ = some (.int .i64 p1) := by
                  have := own7.cell encF_len (i := 1) (j := 1) (by omega) (by omega)
                  rw [← hp1]
                  simpa [encF] using this
                clear hp1
                obtain ⟨V, hV⟩ : ∃ V, IntKind.i64.wrap (p0 + 5) = V := ⟨_, rfl⟩
                have st := own7.stored encF_len 1 1 (.int .i64 V) ⟨(ge fs 1).kd, V, (ge fs 1).len, (ge fs 1).val⟩ (by omega) (by omega) rfl
                have ST := Lib.hid st
                have D8 := Lib.hid (d7'.appE own7 st.2 hl)
                clear st
                go_wp2
                go_ret
                exact ⟨_, m, c', _, rfl, ST.out.1, by omega, D8.out⟩
              · have c0 : ((y : Int) == 0) = false := by simp; omega
                go_wp2
                go_ret
                exact ⟨_, m, c', fs, rfl, own7, by omega, d7'⟩
            · go_wp2
              all_goals
                go_ret
                exact ⟨A', m, c', fs, rfl, hown, by omega, d⟩
  have b1 : ((x : Int) == 1) = false := by simp; omega
  have b2 : ((x : Int) == 2) = false := by simp; omega
  go_wp2_with fail
  refine (next_any g 60 _ d1'.src).mono ?_
  rintro e w2 ⟨at0, rfl, hat, d2⟩
  have own2 := own1.dr d2 hl
  have d2' := d2.next d1'
  have NG2 := Lib.hid (NG1.out.dr d2)
  have hat' : at0 ≤ 60 := by omega
  clear d2 hat own1 d1' NG1
  go_wp2_with fail
  go_loopw [5, 8, 9, 10] (fun o a nw _ wr => ∃ (m at1 : Nat) (A' : Option Addr) (c' : Nat) (fs : List Flt) (A1 : Option Addr) (n1 c1 : Nat) (zs1 : List Int), m ≤ 10 ∧ at1 ≤ 8600 ∧ n1 ≤ 8192 ∧ o = .slice A' m c' ∧ a = .int .i64 at1 ∧ nw = .slice A1 n1 c1 ∧ Hid (isBits zs1 = true) ∧ OwnE encF 4 82 wr w.heap.size A' m c' fs ∧ Hid (NG wr w.heap.size g A1 n1 c1 zs1) ∧ Dr w g wr) (fun _ a _ _ _ => 8700 - (intOf a).toNat)
  case atStart => exact ⟨0, at0, _, _, _, A, n, c, zs, by omega, by omega, by omega, rfl, rfl, rfl, HZ, own2, NG2, d2'⟩
  case round =>
    clear own2 NG2 d2' HZ
    obtain ⟨m, at1, A', c', fs, A1, n1, c1, zs1, hm, hat1, hn1, rfl, rfl, rfl, HZ1, hown, NG3, d⟩ := hrel
    by_cases hq : (at1 : Int) + 3 < (n1 : Int) ∧ m < 10
    case neg =>
      rcases (show ¬ (at1 : Int) + 3 < (n1 : Int) ∨ ((at1 : Int) + 3 < (n1 : Int) ∧ ¬ m < 10) by omega) with q1 | ⟨q1, q2⟩
      all_goals
        clear hq
        go_wp2
        go_ret
        exact ⟨A', m, c', fs, rfl, hown, by omega, d⟩
    obtain ⟨q1, q2⟩ := hq
    have LN := Lib.hid NG3.out.rd.len
    have hat8 : at1 < n1 := by omega
    go_wp2_with fail
    refine (next_any g 2 _ d.src).mono ?_
    rintro e w3 ⟨x3, rfl, hx3, d3⟩
    have own3 := hown.dr d3 hl
    have NG4 := Lib.hid (NG3.out.dr d3)
    have d3' := d3.next d
    have hg3 : g < w3.heap.size := by have := d3'.size; omega
    have hbd := bits_at HZ1.out LN.out hat8
    obtain ⟨v1, hv1⟩ : ∃ v, gi zs1 at1 = v := ⟨_, rfl⟩
    rw [hv1] at hbd
    obtain ⟨bA, oA, rfl, hbA, hcA⟩ := NG4.out.rd.get (by omega)
    have hcell := hcA at1 hat8
    rw [hv1] at hcell
    have hat9 : (at1 : Int) < (n1 : Int) := by omega
    obtain ⟨wz, hz⟩ : ∃ x, w3.alloc (.cells #[.int .i64 0, .int .i64 0, .int .i64 0, .int .i64 0] 82) = x := ⟨_, rfl⟩
    have hK0 := Blk4.new w3 82 (.int .i64 0) (.int .i64 0) (.int .i64 0) (.int .i64 0)
    have hba := (Below.refl w3.heap.size w3).alloc (Nat.le_refl _) (o := .cells #[.int .i64 0, .int .i64 0, .int .i64 0, .int .i64 0] 82)
    rw [hz] at hK0 hba
    have k0 := hK0.c0; have k1 := hK0.c1; have k2 := hK0.c2; have k3 := hK0.c3; have kf := hK0.free
    have hcz : wz.cell? ⟨bA, oA + at1, none⟩ = some (.int .i64 v1) := (hba.cell (p := ⟨bA, oA + at1, none⟩) hbA).trans hcell
    have hneA : ¬ bA = w3.heap.size := by omega
    have hneB : ¬ w3.heap.size = bA := by omega
    have hx39 : x3 < 2 := by omega
    clear hcA d d3 hown NG3 hv1 hx3 hcell
    by_cases h3 : x3 = 0
    · subst h3
      have HF := Lib.hid (show isFault ⟨3, at1, 1, 0⟩ = true by unfold isFault; simp only [show inR (3 : Int) 1 6 = true from rfl, Bool.true_and]; rw [inR_iff.2 (show (0 : Int) ≤ (at1 : Int) ∧ (at1 : Int) ≤ 8192 by omega)]; rfl)
      go_upto_region 23 with (rw [hz])
      obtain ⟨w4, hw4⟩ : ∃ x, (((wz.setCell ⟨w3.heap.size, 0, none⟩ (.int .i64 3)).setCell ⟨w3.heap.size, 1, none⟩ (.int .i64 at1)).setCell ⟨w3.heap.size, 2, none⟩ (.int .i64 1)).setCell ⟨w3.heap.size, 3, none⟩ (.int .i64 0) = x := ⟨_, rfl⟩
      have HK := Lib.hid (hw4 ▸ hK0.all (x0 := .int .i64 3) (x1 := .int .i64 at1) (x2 := .int .i64 1) (x3 := .int .i64 0) : Blk4 w4 w3.heap.size 82 (.int .i64 3) (.int .i64 at1) (.int .i64 1) (.int .i64 0))
      have hb := ((((hba.setCell (p := ⟨w3.heap.size, 0, none⟩) (Nat.le_refl _) (.int .i64 3)).setCell (p := ⟨w3.heap.size, 1, none⟩) (Nat.le_refl _) (.int .i64 at1)).setCell (p := ⟨w3.heap.size, 2, none⟩) (Nat.le_refl _) (.int .i64 1)).setCell (p := ⟨w3.heap.size, 3, none⟩) (Nat.le_refl _) (.int .i64 0))
      rw [hw4] at hb ⊢
      have own4 := own3.below hb
      have ownC0 := Lib.hid own3
      have NG5 := Lib.hid (NG4.out.below hb)
      have d4 := d3'.below hb
      clear own3 NG4 d3' hb hw4 hK0 hba hz k0 k1 k2 k3 kf hcz
      have p0 := HK.out.c0; have p1 := HK.out.c1; have p2 := HK.out.c2; have p3 := HK.out.c3
      go_wp2_with fail
      clear p0 p1 p2 p3
      refine (l26Within_any (some ⟨bA, oA, none⟩) n1 c1 zs1 3 at1 1 0 _ NG5.out.rd (by omega)).mono ?_
      rcases bool_cases (within5 zs1 ⟨3, at1, 1, 0⟩) with hw | hw
      · rw [hw]
        rintro e w5 ⟨rfl, hb5⟩
        have HKC := Lib.hid (Blk4.next hb5 HK.out)
        have ownC := own4.below hb5
        have NGC := Lib.hid (NG5.out.below hb5)
        have dC := d4.below hb5
        clear hw hb5 own4 NG5 d4 HK
        have p0 := HKC.out.c0; have p1 := HKC.out.c1; have p2 := HKC.out.c2; have p3 := HKC.out.c3
        go_wp2_with (at_builtin; refine wpl_appF _ _ Try.underlying60 infoFault rfl _ _ rfl w.heap.size _ m _ _ rfl ownC ⟨3, at1, 1, 0⟩ rfl (by omega) dC.size ?_; go_loud (intro A8 c8 w8 own8 hB8 hg8; have d8 := Lib.hid (dC.appE ownC hg8 hl); have HK8 := (HKC.out.kept hg8 (fun e => by have := (ownC0.out.row _ e.symm).2; omega)); have q0 := HK8.c0; have q1 := HK8.c1; have q2 := HK8.c2; have q3 := HK8.c3))
        have NG8 := Lib.hid (NGC.out.out ownC (Nat.le_refl _) hg8)
        clear hB8
        refine (ApplyFault.l24Apply_any (some ⟨bA, oA, none⟩) n1 c1 zs1 3 at1 1 0 _ NG8.out.rd HZ1.out HF.out NG8.out.pl NG8.out.nc NG8.out.cm).mono ?_
        rintro e w9 ⟨A9, c9, rfl, own9, hb9⟩
        have hl8 := d8.out.lt
        have NG9 := Lib.hid (NG.mk_own (base := w.heap.size) own9 hl8)
        have HZ9 := Lib.hid (appF_bits HZ1.out HF.out)
        have hn9 : lenF n1 ⟨3, at1, 1, 0⟩ ≤ 8192 := by have := isBits_len HZ9.out; have := own9.len; omega
        have ownx := own8.below hb9
        have dx := d8.out.below hb9
        clear own9 hb9 own8 d8 NG8 HK8 q0 q1 q2 q3 HKC ownC dC NGC ownC0 hg8
        generalize lenF n1 ⟨3, at1, 1, 0⟩ = n9 at *
        go_wp2_with fail
        refine (next_any g 60 _ dx.src).mono ?_
        rintro e wa ⟨ya, rfl, hya, da⟩
        have owna := ownx.dr da hl
        have NGa := Lib.hid (NG9.out.dr da)
        have da' := da.next dx
        have hya' : ya ≤ 60 := by omega
        clear ownx NG9 dx da hya
        go_wp2_with fail
        refine (next_any g 30 _ da'.src).mono ?_
        rintro e wb ⟨yb, rfl, hyb, db⟩
        have ownb := owna.dr db hl
        have NGb := Lib.hid (NGa.out.dr db)
        have db' := db.next da'
        have hyb' : yb < 30 := by omega
        clear owna NGa da' db hyb
        obtain ⟨dd, hdd⟩ : ∃ dd : Nat, (yb : Int) / 29 = (dd : Int) := ⟨yb / 29, by omega⟩
        have hdd2 : dd ≤ 1 := by omega
        have r1 : IntKind.i64.wrap ((at1 : Int) + 160) = (at1 : Int) + 160 := IntWalk.i64_in _ (by omega)
        have r2 : IntKind.i64.wrap ((at1 : Int) + 160 + (ya : Int)) = (at1 : Int) + 160 + (ya : Int) := IntWalk.i64_in _ (by omega)
        have r3 : IntKind.i64.wrap ((dd : Int) * 9) = (dd : Int) * 9 := IntWalk.i64_in _ (by omega)
        have r4 : IntKind.i64.wrap ((at1 : Int) + 160 + (ya : Int) - (dd : Int) * 9) = ((at1 + 160 + ya - 9 * dd : Nat) : Int) := by rw [IntWalk.i64_in _ (by omega)]; omega
        have r5 : IntKind.i64.wrap (dd : Int) = (dd : Int) := IntWalk.i64_in _ (by omega)
        go_wp2
        go_roundw
        case rel => exact ⟨m + 1, at1 + 160 + ya - 9 * dd, A8, c8, _, A9, n9, c9, _, by omega, by omega, hn9, rfl, by first | rfl | go_num, rfl, HZ9, ownb, NGb, db'⟩
        case measure => simp [intOf]; omega
      · rw [hw]
        rintro e w5 ⟨rfl, hb5⟩
        have HKD := Lib.hid (Blk4.next hb5 HK.out)
        have ownD := own4.below hb5
        have NGD := Lib.hid (NG5.out.below hb5)
        have dD := d4.below hb5
        have hgb : g ≠ w3.heap.size := by omega
        clear hw hb5 own4 NG5 d4 HK
        go_wp2_with fail
        refine (next_any g 24 _ dD.src).mono ?_
        rintro e w6 ⟨y6, rfl, hy6, d6⟩
        have HKC := Lib.hid (HKD.out.dr d6 hgb)
        have ownC := ownD.dr d6 hl
        have NGC := Lib.hid (NGD.out.dr d6)
        have dC := d6.next dD
        clear HKD ownD NGD dD d6 hy6
        by_cases hy0 : 0 < y6
        · have hy1 : (0 : Int) < (y6 : Int) := by omega
          have r1 : IntKind.i64.wrap ((at1 : Int) + 1) = ((at1 + 1 : Nat) : Int) := by rw [IntWalk.i64_in _ (by omega)]; omega
          go_wp2
          go_roundw
          case rel => exact ⟨m, at1 + 1, A', c', fs, (some ⟨bA, oA, none⟩), n1, c1, zs1, by omega, by omega, hn1, rfl, by first | rfl | go_num, rfl, HZ1, ownC, NGC, dC⟩
          case measure => simp [intOf]; omega
        · obtain rfl : y6 = 0 := by omega
          have p0 := HKC.out.c0; have p1 := HKC.out.c1; have p2 := HKC.out.c2; have p3 := HKC.out.c3
          go_wp2_with (at_builtin; refine wpl_appF _ _ Try.underlying60 infoFault rfl _ _ rfl w.heap.size _ m _ _ rfl ownC ⟨3, at1, 1, 0⟩ rfl (by omega) dC.size ?_; go_loud (intro A8 c8 w8 own8 hB8 hg8; have d8 := Lib.hid (dC.appE ownC hg8 hl); have HK8 := (HKC.out.kept hg8 (fun e => by have := (ownC0.out.row _ e.symm).2; omega)); have q0 := HK8.c0; have q1 := HK8.c1; have q2 := HK8.c2; have q3 := HK8.c3))
          have NG8 := Lib.hid (NGC.out.out ownC (Nat.le_refl _) hg8)
          clear hB8
          refine (ApplyFault.l24Apply_any (some ⟨bA, oA, none⟩) n1 c1 zs1 3 at1 1 0 _ NG8.out.rd HZ1.out HF.out NG8.out.pl NG8.out.nc NG8.out.cm).mono ?_
          rintro e w9 ⟨A9, c9, rfl, own9, hb9⟩
          have hl8 := d8.out.lt
          have NG9 := Lib.hid (NG.mk_own (base := w.heap.size) own9 hl8)
          have HZ9 := Lib.hid (appF_bits HZ1.out HF.out)
          have hn9 : lenF n1 ⟨3, at1, 1, 0⟩ ≤ 8192 := by have := isBits_len HZ9.out; have := own9.len; omega
          have ownx := own8.below hb9
          have dx := d8.out.below hb9
          clear own9 hb9 own8 d8 NG8 HK8 q0 q1 q2 q3 HKC ownC dC NGC ownC0 hg8
          generalize lenF n1 ⟨3, at1, 1, 0⟩ = n9 at *
          go_wp2_with fail
          refine (next_any g 60 _ dx.src).mono ?_
          rintro e wa ⟨ya, rfl, hya, da⟩
          have owna := ownx.dr da hl
          have NGa := Lib.hid (NG9.out.dr da)
          have da' := da.next dx
          have hya' : ya ≤ 60 := by omega
          clear ownx NG9 dx da hya
          go_wp2_with fail
          refine (next_any g 30 _ da'.src).mono ?_
          rintro e wb ⟨yb, rfl, hyb, db⟩
          have ownb := owna.dr db hl
          have NGb := Lib.hid (NGa.out.dr db)
          have db' := db.next da'
          have hyb' : yb < 30 := by omega
          clear owna NGa da' db hyb
          obtain ⟨dd, hdd⟩ : ∃ dd : Nat, (yb : Int) / 29 = (dd : Int) := ⟨yb / 29, by omega⟩
          have hdd2 : dd ≤ 1 := by omega
          have r1 : IntKind.i64.wrap ((at1 : Int) + 160) = (at1 : Int) + 160 := IntWalk.i64_in _ (by omega)
          have r2 : IntKind.i64.wrap ((at1 : Int) + 160 + (ya : Int)) = (at1 : Int) + 160 + (ya : Int) := IntWalk.i64_in _ (by omega)
          have r3 : IntKind.i64.wrap ((dd : Int) * 9) = (dd : Int) * 9 := IntWalk.i64_in _ (by omega)
          have r4 : IntKind.i64.wrap ((at1 : Int) + 160 + (ya : Int) - (dd : Int) * 9) = ((at1 + 160 + ya - 9 * dd : Nat) : Int) := by rw [IntWalk.i64_in _ (by omega)]; omega
          have r5 : IntKind.i64.wrap (dd : Int) = (dd : Int) := IntWalk.i64_in _ (by omega)
          go_wp2
          go_roundw
          case rel => exact ⟨m + 1, at1 + 160 + ya - 9 * dd, A8, c8, _, A9, n9, c9, _, by omega, by omega, hn9, rfl, by first | rfl | go_num, rfl, HZ9, ownb, NGb, db'⟩
          case measure => simp [intOf]; omega
    · obtain rfl : x3 = 1 := by omega
      have HF := Lib.hid (show isFault ⟨4, at1, 1, v1⟩ = true by unfold isFault; simp only [show inR (4 : Int) 1 6 = true from rfl, Bool.true_and]; rw [inR_iff.2 (show (0 : Int) ≤ (at1 : Int) ∧ (at1 : Int) ≤ 8192 by omega), show hasLen 4 = true from rfl, show hasVal 4 = true from rfl, if_pos rfl, if_pos rfl, inR_iff.2 (show (0 : Int) ≤ v1 ∧ v1 ≤ 1 by omega)]; rfl)
      go_upto_region 23 with (rw [hz])
      obtain ⟨w4, hw4⟩ : ∃ x, ((((wz.setCell ⟨w3.heap.size, 0, none⟩ (.int .i64 4)).setCell ⟨w3.heap.size, 1, none⟩ (.int .i64 at1)).setCell ⟨w3.heap.size, 2, none⟩ (.int .i64 1)).setCell ⟨w3.heap.size, 3, none⟩ (.int .i64 0)).setCell ⟨w3.heap.size, 3, none⟩ (.int .i64 v1) = x := ⟨_, rfl⟩
      have HK := Lib.hid (hw4 ▸ (hK0.all (x0 := .int .i64 4) (x1 := .int .i64 at1) (x2 := .int .i64 1) (x3 := .int .i64 0)).set3 (.int .i64 v1) : Blk4 w4 w3.heap.size 82 (.int .i64 4) (.int .i64 at1) (.int .i64 1) (.int .i64 v1))
      have hb := (((((hba.setCell (p := ⟨w3.heap.size, 0, none⟩) (Nat.le_refl _) (.int .i64 4)).setCell (p := ⟨w3.heap.size, 1, none⟩) (Nat.le_refl _) (.int .i64 at1)).setCell (p := ⟨w3.heap.size, 2, none⟩) (Nat.le_refl _) (.int .i64 1)).setCell (p := ⟨w3.heap.size, 3, none⟩) (Nat.le_refl _) (.int .i64 0)).setCell (p := ⟨w3.heap.size, 3, none⟩) (Nat.le_refl _) (.int .i64 v1))
      rw [hw4] at hb ⊢
      have own4 := own3.below hb
      have ownC0 := Lib.hid own3
      have NG5 := Lib.hid (NG4.out.below hb)
      have d4 := d3'.below hb
      clear own3 NG4 d3' hb hw4 hK0 hba hz k0 k1 k2 k3 kf hcz
      have p0 := HK.out.c0; have p1 := HK.out.c1; have p2 := HK.out.c2; have p3 := HK.out.c3
      go_wp2_with fail
      clear p0 p1 p2 p3
      refine (l26Within_any (some ⟨bA, oA, none⟩) n1 c1 zs1 4 at1 1 v1 _ NG5.out.rd (by omega)).mono ?_
      rcases bool_cases (within5 zs1 ⟨4, at1, 1, v1⟩) with hw | hw
      · rw [hw]
        rintro e w5 ⟨rfl, hb5⟩
        have HKC := Lib.hid (Blk4.next hb5 HK.out)
        have ownC := own4.below hb5
        have NGC := Lib.hid (NG5.out.below hb5)
        have dC := d4.below hb5
        clear hw hb5 own4 NG5 d4 HK
        have p0 := HKC.out.c0; have p1 := HKC.out.c1; have p2 := HKC.out.c2; have p3 := HKC.out.c3
        go_wp2_with (at_builtin; refine wpl_appF _ _ Try.underlying60 infoFault rfl _ _ rfl w.heap.size _ m _ _ rfl ownC ⟨4, at1, 1, v1⟩ rfl (by omega) dC.size ?_; go_loud (intro A8 c8 w8 own8 hB8 hg8; have d8 := Lib.hid (dC.appE ownC hg8 hl); have HK8 := (HKC.out.kept hg8 (fun e => by have := (ownC0.out.row _ e.symm).2; omega)); have q0 := HK8.c0; have q1 := HK8.c1; have q2 := HK8.c2; have q3 := HK8.c3))
        have NG8 := Lib.hid (NGC.out.out ownC (Nat.le_refl _) hg8)
        clear hB8
        refine (ApplyFault.l24Apply_any (some ⟨bA, oA, none⟩) n1 c1 zs1 4 at1 1 v1 _ NG8.out.rd HZ1.out HF.out NG8.out.pl NG8.out.nc NG8.out.cm).mono ?_
        rintro e w9 ⟨A9, c9, rfl, own9, hb9⟩
        have hl8 := d8.out.lt
        have NG9 := Lib.hid (NG.mk_own (base := w.heap.size) own9 hl8)
        have HZ9 := Lib.hid (appF_bits HZ1.out HF.out)
        have hn9 : lenF n1 ⟨4, at1, 1, v1⟩ ≤ 8192 := by have := isBits_len HZ9.out; have := own9.len; omega
        have ownx := own8.below hb9
        have dx := d8.out.below hb9
        clear own9 hb9 own8 d8 NG8 HK8 q0 q1 q2 q3 HKC ownC dC NGC ownC0 hg8
        generalize lenF n1 ⟨4, at1, 1, v1⟩ = n9 at *
        go_wp2_with fail
        refine (next_any g 60 _ dx.src).mono ?_
        rintro e wa ⟨ya, rfl, hya, da⟩
        have owna := ownx.dr da hl
        have NGa := Lib.hid (NG9.out.dr da)
        have da' := da.next dx
        have hya' : ya ≤ 60 := by omega
        clear ownx NG9 dx da hya
        go_wp2_with fail
        refine (next_any g 30 _ da'.src).mono ?_
        rintro e wb ⟨yb, rfl, hyb, db⟩
        have ownb := owna.dr db hl
        have NGb := Lib.hid (NGa.out.dr db)
        have db' := db.next da'
        have hyb' : yb < 30 := by omega
        clear owna NGa da' db hyb
        obtain ⟨dd, hdd⟩ : ∃ dd : Nat, (yb : Int) / 29 = (dd : Int) := ⟨yb / 29, by omega⟩
        have hdd2 : dd ≤ 1 := by omega
        have r1 : IntKind.i64.wrap ((at1 : Int) + 160) = (at1 : Int) + 160 := IntWalk.i64_in _ (by omega)
        have r2 : IntKind.i64.wrap ((at1 : Int) + 160 + (ya : Int)) = (at1 : Int) + 160 + (ya : Int) := IntWalk.i64_in _ (by omega)
        have r3 : IntKind.i64.wrap ((dd : Int) * 9) = (dd : Int) * 9 := IntWalk.i64_in _ (by omega)
        have r4 : IntKind.i64.wrap ((at1 : Int) + 160 + (ya : Int) - (dd : Int) * 9) = ((at1 + 160 + ya - 9 * dd : Nat) : Int) := by rw [IntWalk.i64_in _ (by omega)]; omega
        have r5 : IntKind.i64.wrap (dd : Int) = (dd : Int) := IntWalk.i64_in _ (by omega)
        go_wp2
        go_roundw
        case rel => exact ⟨m + 1, at1 + 160 + ya - 9 * dd, A8, c8, _, A9, n9, c9, _, by omega, by omega, hn9, rfl, by first | rfl | go_num, rfl, HZ9, ownb, NGb, db'⟩
        case measure => simp [intOf]; omega
      · rw [hw]
        rintro e w5 ⟨rfl, hb5⟩
        have HKD := Lib.hid (Blk4.next hb5 HK.out)
        have ownD := own4.below hb5
        have NGD := Lib.hid (NG5.out.below hb5)
        have dD := d4.below hb5
        have hgb : g ≠ w3.heap.size := by omega
        clear hw hb5 own4 NG5 d4 HK
        go_wp2_with fail
        refine (next_any g 24 _ dD.src).mono ?_
        rintro e w6 ⟨y6, rfl, hy6, d6⟩
        have HKC := Lib.hid (HKD.out.dr d6 hgb)
        have ownC := ownD.dr d6 hl
        have NGC := Lib.hid (NGD.out.dr d6)
        have dC := d6.next dD
        clear HKD ownD NGD dD d6 hy6
        by_cases hy0 : 0 < y6
        · have hy1 : (0 : Int) < (y6 : Int) := by omega
          have r1 : IntKind.i64.wrap ((at1 : Int) + 1) = ((at1 + 1 : Nat) : Int) := by rw [IntWalk.i64_in _ (by omega)]; omega
          go_wp2
          go_roundw
          case rel => exact ⟨m, at1 + 1, A', c', fs, (some ⟨bA, oA, none⟩), n1, c1, zs1, by omega, by omega, hn1, rfl, by first | rfl | go_num, rfl, HZ1, ownC, NGC, dC⟩
          case measure => simp [intOf]; omega
        · obtain rfl : y6 = 0 := by omega
          have p0 := HKC.out.c0; have p1 := HKC.out.c1; have p2 := HKC.out.c2; have p3 := HKC.out.c3
          go_wp2_with (at_builtin; refine wpl_appF _ _ Try.underlying60 infoFault rfl _ _ rfl w.heap.size _ m _ _ rfl ownC ⟨4, at1, 1, v1⟩ rfl (by omega) dC.size ?_; go_loud (intro A8 c8 w8 own8 hB8 hg8; have d8 := Lib.hid (dC.appE ownC hg8 hl); have HK8 := (HKC.out.kept hg8 (fun e => by have := (ownC0.out.row _ e.symm).2; omega)); have q0 := HK8.c0; have q1 := HK8.c1; have q2 := HK8.c2; have q3 := HK8.c3))
          have NG8 := Lib.hid (NGC.out.out ownC (Nat.le_refl _) hg8)
          clear hB8
          refine (ApplyFault.l24Apply_any (some ⟨bA, oA, none⟩) n1 c1 zs1 4 at1 1 v1 _ NG8.out.rd HZ1.out HF.out NG8.out.pl NG8.out.nc NG8.out.cm).mono ?_
          rintro e w9 ⟨A9, c9, rfl, own9, hb9⟩
          have hl8 := d8.out.lt
          have NG9 := Lib.hid (NG.mk_own (base := w.heap.size) own9 hl8)
          have HZ9 := Lib.hid (appF_bits HZ1.out HF.out)
          have hn9 : lenF n1 ⟨4, at1, 1, v1⟩ ≤ 8192 := by have := isBits_len HZ9.out; have := own9.len; omega
          have ownx := own8.below hb9
          have dx := d8.out.below hb9
          clear own9 hb9 own8 d8 NG8 HK8 q0 q1 q2 q3 HKC ownC dC NGC ownC0 hg8
          generalize lenF n1 ⟨4, at1, 1, v1⟩ = n9 at *
          go_wp2_with fail
          refine (next_any g 60 _ dx.src).mono ?_
          rintro e wa ⟨ya, rfl, hya, da⟩
          have owna := ownx.dr da hl
          have NGa := Lib.hid (NG9.out.dr da)
          have da' := da.next dx
          have hya' : ya ≤ 60 := by omega
          clear ownx NG9 dx da hya
          go_wp2_with fail
          refine (next_any g 30 _ da'.src).mono ?_
          rintro e wb ⟨yb, rfl, hyb, db⟩
          have ownb := owna.dr db hl
          have NGb := Lib.hid (NGa.out.dr db)
          have db' := db.next da'
          have hyb' : yb < 30 := by omega
          clear owna NGa da' db hyb
          obtain ⟨dd, hdd⟩ : ∃ dd : Nat, (yb : Int) / 29 = (dd : Int) := ⟨yb / 29, by omega⟩
          have hdd2 : dd ≤ 1 := by omega
          have r1 : IntKind.i64.wrap ((at1 : Int) + 160) = (at1 : Int) + 160 := IntWalk.i64_in _ (by omega)
          have r2 : IntKind.i64.wrap ((at1 : Int) + 160 + (ya : Int)) = (at1 : Int) + 160 + (ya : Int) := IntWalk.i64_in _ (by omega)
          have r3 : IntKind.i64.wrap ((dd : Int) * 9) = (dd : Int) * 9 := IntWalk.i64_in _ (by omega)
          have r4 : IntKind.i64.wrap ((at1 : Int) + 160 + (ya : Int) - (dd : Int) * 9) = ((at1 + 160 + ya - 9 * dd : Nat) : Int) := by rw [IntWalk.i64_in _ (by omega)]; omega
          have r5 : IntKind.i64.wrap (dd : Int) = (dd : Int) := IntWalk.i64_in _ (by omega)
          go_wp2
          go_roundw
          case rel => exact ⟨m + 1, at1 + 160 + ya - 9 * dd, A8, c8, _, A9, n9, c9, _, by omega, by omega, hn9, rfl, by first | rfl | go_num, rfl, HZ9, ownb, NGb, db'⟩
          case measure => simp [intOf]; omega

set_option maxHeartbeats 4000000 in
theorem drawIsBounded_any (A : Option Addr) (n c : Nat) (bs : List Int) (w : World) (h : RB w w.heap.size A n bs) (hn : n ≤ 1099511627776) :
    Calls Try.prog 109 #[.slice A n c] w (TopIE w 16384) := by
  go_enter Try.func109, Try.ntmps109
  go_wp2_with fail
  refine (from_any A n c bs _ h hn).mono ?_
  rintro e w1 ⟨g, rfl, hs1, hg, hb1⟩
  have hl := hs1.lt
  go_wp2_with fail
  refine (l23Draw_any g _ hs1).mono ?_
  rintro e w2 ⟨A2, n2, c2, zs2, rfl, hown2, hn2, d2⟩
  have ng : NG w2 w2.heap.size g A2 n2 c2 zs2 := NG.mk_own hown2 hl
  go_wp2_with fail
  refine (l26DrawScript_any g n2 c2 A2 zs2 _ d2.src ng hn2).mono ?_
  rintro e w3 ⟨A3, n3, c3, fs3, rfl, hown3, hn3, d3⟩
  go_wp2
  go_ret2
  exact ⟨A2, n2, c2, zs2, A3, n3, c3, fs3, rfl, (hown2.dr d3 hl).weaken hb1.size, hn2, (hown3.weaken d2.size).weaken hb1.size, hn3, (d3.next d2).top hb1 hg⟩
end Go.Proofs.Ytjehkjdehkdjcaa
