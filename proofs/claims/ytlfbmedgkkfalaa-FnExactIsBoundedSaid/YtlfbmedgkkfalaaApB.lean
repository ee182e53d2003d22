/- The walks of the reference's l24Apply at the kind that drops samples. Conditions: lists of at most 8192 bits. -/
import Derived.Test.YtlfbmedgkkfalaaApF
import Derived.Test.YtlfbmedgkkfalaaKit11
namespace Go.Proofs.Ytlfbmedgkkfalaa
open Go.RowKit

/-- a slice's address is a plain one -/
def Pl (A : Option Addr) (c : Nat) : Prop := (A = none ∧ c = 0) ∨ ∃ b o, A = some ⟨b, o, none⟩
theorem below_dd {w w1 : World} (h : Below w.drew.drew.heap.size w.drew.drew w1) : Below w.heap.size w w1 := ⟨h.os, h.tape, h.output, h.size, h.block⟩
theorem take_min (zs : List Int) (q : Nat) : zs.take q = zs.take (min zs.length q) := by
  rcases Nat.le_total zs.length q with h | h
  · rw [Nat.min_eq_left h, List.take_of_length_le h, List.take_of_length_le (Nat.le_refl _)]
  · rw [Nat.min_eq_right h]
theorem drop_min (zs : List Int) (q : Nat) : zs.drop q = zs.drop (min zs.length q) := by
  rcases Nat.le_total zs.length q with h | h
  · rw [Nat.min_eq_left h, List.drop_of_length_le h, List.drop_of_length_le (Nat.le_refl _)]
  · rw [Nat.min_eq_right h]
theorem Pl.cap {A : Option Addr} {c : Nat} (h : Pl A c) : A = none → c = 0 := by
  rcases h with ⟨_, h⟩ | ⟨b, o, h⟩
  · exact fun _ => h
  · intro e; rw [h] at e; cases e
theorem OwnI.pl {T : TypeId} {w : World} {base n c : Nat} {A : Option Addr} {zs : List Int} (h : OwnI T w base A n c zs) : Pl A c := by
  rcases h.2 with ⟨h1, _⟩ | ⟨g, cap, cur, hv, _⟩
  · injection h1 with h1 _ h3
    exact .inl ⟨h1, h3⟩
  · injection hv with h1
    exact .inr ⟨g, 0, h1⟩
namespace ApplyFault
theorem own_fn : (Try.f190.name == "runtime.NumGoroutine") = false ∧ Try.f190.body.isSome = true := ⟨by kernel_rfl, by kernel_rfl⟩

set_option maxRecDepth 20000 in
set_option maxHeartbeats 16000000 in
theorem l24Apply_drop (A : Option Addr) (n c : Nat) (zs : List Int) (q l : Nat) (w : World) (hri : RI w w.heap.size A n zs) (hn : n ≤ 8192) (hq : q ≤ 8192) (hl : l ≤ 8192) (hl1 : 1 ≤ l) (hA : Pl A c) (hnc : n ≤ c) (hcm : c ≤ maxLen) :
    Calls Try.prog 164 #[.slice A n c, .agg #[.int .i64 3, .int .i64 q, .int .i64 l, .int .i64 0]] w (RetI 2 w (n - (min n (q + l) - min n q)) (zs.take q ++ zs.drop (q + l))) := by
  have L := Lib.hid hri.len
  have hb0 : Below w.heap.size w (w.alloc (.cells #[.int .i64 3, .int .i64 q, .int .i64 l, .int .i64 0] 76)) := (Below.refl _ _).alloc (Nat.le_refl _) _
  have hr0 := hri.up hb0
  have hbx := Blk4.new w 76 (.int .i64 3) (.int .i64 q) (.int .i64 l) (.int .i64 0)
  obtain ⟨w0, hw0⟩ : ∃ x, w.alloc (.cells #[.int .i64 3, .int .i64 q, .int .i64 l, .int .i64 0] 76) = x := ⟨_, rfl⟩
  rw [hw0] at hb0 hr0 hbx
  have hk0 := hbx.c0
  have hk1 := hbx.c1
  have hk2 := hbx.c2
  have HB := Lib.hid hb0
  unfold maxLen at hcm
  clear hb0 hbx
  rcases hA with ⟨rfl, rfl⟩ | ⟨b, o, rfl⟩
  · obtain rfl : n = 0 := by omega
    have hq0 : ¬ ((q : Int) < 0) := by omega
    have hq1 : (0 : Int) ≤ (q : Int) + (l : Int) := by omega
    have HF := Lib.hid (show min 0 q = 0 by omega)
    have HT := Lib.hid (show min 0 (q + l) = 0 by omega)
    have hrp := Lib.hid (hr0.pre (k := 0) (by omega))
    have hrs := Lib.hid (hr0)
    have hF := Lib.hid (show zs.take q ++ zs.drop (q + l) = zs.take 0 ++ zs.drop 0 from
      congr (congrArg _ ((take_min zs q).trans (by rw [L.out, HF.out]))) ((drop_min zs (q + l)).trans (by rw [L.out, HT.out])))
    go_enter Try.func164, Try.ntmps164
    go_wp2_with fail
    go_region
    all_goals
      go_wp2_with fail
      go_region_law (first
        | ((refine step_call 190 Try.func190 own_fn.1 own_fn.2 rfl rfl #[.slice (none) (0) 0] ?_ ?_); (simp [Act.eval, Act.put]); (refine (l01Own_any (none) (0) 0 (zs.take (0)) _ (by exact hrp.out) (by omega) (fun _ => rfl)).mono ?_); rintro e w1 ⟨A1, c1, rfl, hown1, hb1⟩; (refine ⟨_, rfl, ?_⟩); have HO := Lib.hid hown1; have HB1 := Lib.hid (below_dd hb1); clear hown1 hb1)
        | (refine step_appR _ Try.underlying24 infoInt rfl (.tmp 41) (.tmp 44) rfl w0.heap.size A1 (0) c1 _ (by simp [Act.eval]) HO.out (none) (0) (0) w0.heap.size (zs.drop (0)) (by simp [Act.eval]) (hrs.out.below HB1.out (Nat.le_refl _)) (fun _ => rfl) (by omega) HB1.out.size ?_; intro A2 c2 w2 hown2 hB2 hg2; have HO2 := Lib.hid hown2; have HB2 := Lib.hid (hB2 w0.heap.size (Nat.le_refl _)); clear hown2 hB2 hg2))
      all_goals
        go_wp2
        go_ret
        have e1 := HF.out
        have e2 := HT.out
        have e3 := HO2.out
        (try rw [hF.out])
        rw [e1, e2]
        have e4 : 0 + (0) = 0 - (0 - 0) := by omega
        refine ⟨A2, c2, by rw [← e4]; rfl, ?_, ?_⟩
        · rw [← e4]; exact e3.weaken HB.out.size
        · exact (below_next HB1.out HB.out (Nat.le_refl _)).trans (HB2.out.mono HB.out.size)
  · by_cases hlt : q < n
    · by_cases htn : q + l < n
      · skip
        have hle2 : (q : Int) + (l : Int) < (n : Int) := by omega
        have hle : q ≤ n := by omega
        have hle3 : ¬ ((n : Int) ≤ (q : Int) + (l : Int)) := by omega
        have hcq : q ≤ c := by omega
        have hct : q + l ≤ n := by omega
        have htN : ((q : Int) + (l : Int)).toNat = q + l := by omega
        have hc1 : ¬ (c = q + l) := by omega
        have hx0 : (0 : Int) ≤ (q : Int) + (l : Int) := by omega
        have hx1 : (q : Int) + (l : Int) ≤ (n : Int) := by omega
        have HF := Lib.hid (show min n q = q by omega)
        have HT := Lib.hid (show min n (q + l) = q + l by omega)
        have hrp := Lib.hid (hr0.pre (k := q) (by omega))
        have hrs := Lib.hid (hr0.suf (k := q + l) (by omega))
        have hF := Lib.hid (show zs.take q ++ zs.drop (q + l) = zs.take q ++ zs.drop (q + l) from
          congr (congrArg _ ((take_min zs q).trans (by rw [L.out, HF.out]))) ((drop_min zs (q + l)).trans (by rw [L.out, HT.out])))
        go_enter Try.func164, Try.ntmps164
        go_wp2_with fail
        go_region
        all_goals
          go_wp2_with fail
          go_region_law (first
            | ((refine step_call 190 Try.func190 own_fn.1 own_fn.2 rfl rfl #[.slice (some ⟨b, o, none⟩) (q) c] ?_ ?_); (simp [Act.eval, Act.put]); (refine (l01Own_any (some ⟨b, o, none⟩) (q) c (zs.take (q)) _ (by exact hrp.out) (by omega) (fun e => by cases e)).mono ?_); rintro e w1 ⟨A1, c1, rfl, hown1, hb1⟩; (refine ⟨_, rfl, ?_⟩); have HO := Lib.hid hown1; have HB1 := Lib.hid (below_dd hb1); clear hown1 hb1)
            | (refine step_appR _ Try.underlying24 infoInt rfl (.tmp 41) (.tmp 44) rfl w0.heap.size A1 (q) c1 _ (by simp [Act.eval]) HO.out (some ⟨b, o + (q + l), none⟩) (n - (q + l)) (c - (q + l)) w0.heap.size (zs.drop (q + l)) (by simp [Act.eval]) (hrs.out.below HB1.out (Nat.le_refl _)) (fun e => by cases e) (by omega) HB1.out.size ?_; intro A2 c2 w2 hown2 hB2 hg2; have HO2 := Lib.hid hown2; have HB2 := Lib.hid (hB2 w0.heap.size (Nat.le_refl _)); clear hown2 hB2 hg2))
          all_goals
            go_wp2
            go_ret
            have e1 := HF.out
            have e2 := HT.out
            have e3 := HO2.out
            (try rw [hF.out])
            rw [e1, e2]
            have e4 : q + (n - (q + l)) = n - (q + l - q) := by omega
            refine ⟨A2, c2, by rw [← e4]; rfl, ?_, ?_⟩
            · rw [← e4]; exact e3.weaken HB.out.size
            · exact (below_next HB1.out HB.out (Nat.le_refl _)).trans (HB2.out.mono HB.out.size)
      · by_cases hcn : n = c
        · subst hcn
          have hle2 : (n : Int) ≤ (q : Int) + (l : Int) := by omega
          have hle : q ≤ n := by omega
          have hcq : q ≤ n := by omega
          have HF := Lib.hid (show min n q = q by omega)
          have HT := Lib.hid (show min n (q + l) = n by omega)
          have hrp := Lib.hid (hr0.pre (k := q) (by omega))
          have hrs := Lib.hid ((show RI w0 w0.heap.size (some ⟨b, o, none⟩) 0 (zs.drop n) from by rw [List.drop_of_length_le (by rw [L.out]; exact Nat.le_refl _)]; exact RI.nil _ _ _))
          have hF := Lib.hid (show zs.take q ++ zs.drop (q + l) = zs.take q ++ zs.drop n from
            congr (congrArg _ ((take_min zs q).trans (by rw [L.out, HF.out]))) ((drop_min zs (q + l)).trans (by rw [L.out, HT.out])))
          go_enter Try.func164, Try.ntmps164
          go_wp2_with fail
          go_region
          all_goals
            go_wp2_with fail
            go_region_law (first
              | ((refine step_call 190 Try.func190 own_fn.1 own_fn.2 rfl rfl #[.slice (some ⟨b, o, none⟩) (q) n] ?_ ?_); (simp [Act.eval, Act.put]); (refine (l01Own_any (some ⟨b, o, none⟩) (q) n (zs.take (q)) _ (by exact hrp.out) (by omega) (fun e => by cases e)).mono ?_); rintro e w1 ⟨A1, c1, rfl, hown1, hb1⟩; (refine ⟨_, rfl, ?_⟩); have HO := Lib.hid hown1; have HB1 := Lib.hid (below_dd hb1); clear hown1 hb1)
              | (refine step_appR _ Try.underlying24 infoInt rfl (.tmp 41) (.tmp 44) rfl w0.heap.size A1 (q) c1 _ (by simp [Act.eval]) HO.out (some ⟨b, o, none⟩) (0) (0) w0.heap.size (zs.drop (n)) (by simp [Act.eval]) (hrs.out.below HB1.out (Nat.le_refl _)) (fun e => by cases e) (by omega) HB1.out.size ?_; intro A2 c2 w2 hown2 hB2 hg2; have HO2 := Lib.hid hown2; have HB2 := Lib.hid (hB2 w0.heap.size (Nat.le_refl _)); clear hown2 hB2 hg2))
            all_goals
              go_wp2
              go_ret
              have e1 := HF.out
              have e2 := HT.out
              have e3 := HO2.out
              (try rw [hF.out])
              rw [e1, e2]
              have e4 : q + (0) = n - (n - q) := by omega
              refine ⟨A2, c2, by rw [← e4]; rfl, ?_, ?_⟩
              · rw [← e4]; exact e3.weaken HB.out.size
              · exact (below_next HB1.out HB.out (Nat.le_refl _)).trans (HB2.out.mono HB.out.size)
        · skip
          have hle2 : (n : Int) ≤ (q : Int) + (l : Int) := by omega
          have hle : q ≤ n := by omega
          have hcq : q ≤ c := by omega
          have hc1 : ¬ (c = n) := by omega
          have HF := Lib.hid (show min n q = q by omega)
          have HT := Lib.hid (show min n (q + l) = n by omega)
          have hrp := Lib.hid (hr0.pre (k := q) (by omega))
          have hrs := Lib.hid ((show RI w0 w0.heap.size (some ⟨b, o + n, none⟩) 0 (zs.drop n) from by have := hr0.suf (k := n) (by omega); rwa [Nat.sub_self] at this))
          have hF := Lib.hid (show zs.take q ++ zs.drop (q + l) = zs.take q ++ zs.drop n from
            congr (congrArg _ ((take_min zs q).trans (by rw [L.out, HF.out]))) ((drop_min zs (q + l)).trans (by rw [L.out, HT.out])))
          go_enter Try.func164, Try.ntmps164
          go_wp2_with fail
          go_region
          all_goals
            go_wp2_with fail
            go_region_law (first
              | ((refine step_call 190 Try.func190 own_fn.1 own_fn.2 rfl rfl #[.slice (some ⟨b, o, none⟩) (q) c] ?_ ?_); (simp [Act.eval, Act.put]); (refine (l01Own_any (some ⟨b, o, none⟩) (q) c (zs.take (q)) _ (by exact hrp.out) (by omega) (fun e => by cases e)).mono ?_); rintro e w1 ⟨A1, c1, rfl, hown1, hb1⟩; (refine ⟨_, rfl, ?_⟩); have HO := Lib.hid hown1; have HB1 := Lib.hid (below_dd hb1); clear hown1 hb1)
              | (refine step_appR _ Try.underlying24 infoInt rfl (.tmp 41) (.tmp 44) rfl w0.heap.size A1 (q) c1 _ (by simp [Act.eval]) HO.out (some ⟨b, o + n, none⟩) (0) (c - n) w0.heap.size (zs.drop (n)) (by simp [Act.eval]) (hrs.out.below HB1.out (Nat.le_refl _)) (fun e => by cases e) (by omega) HB1.out.size ?_; intro A2 c2 w2 hown2 hB2 hg2; have HO2 := Lib.hid hown2; have HB2 := Lib.hid (hB2 w0.heap.size (Nat.le_refl _)); clear hown2 hB2 hg2))
            all_goals
              go_wp2
              go_ret
              have e1 := HF.out
              have e2 := HT.out
              have e3 := HO2.out
              (try rw [hF.out])
              rw [e1, e2]
              have e4 : q + (0) = n - (n - q) := by omega
              refine ⟨A2, c2, by rw [← e4]; rfl, ?_, ?_⟩
              · rw [← e4]; exact e3.weaken HB.out.size
              · exact (below_next HB1.out HB.out (Nat.le_refl _)).trans (HB2.out.mono HB.out.size)
    · have hlen : (n : Int) ≤ (q : Int) := by omega
      by_cases hcn : n = c
      · subst hcn
        have hle2 : (n : Int) ≤ (q : Int) + (l : Int) := by omega
        have HF := Lib.hid (show min n q = n by omega)
        have HT := Lib.hid (show min n (q + l) = n by omega)
        have hrp := Lib.hid (hr0.pre (k := n) (by omega))
        have hrs := Lib.hid ((show RI w0 w0.heap.size (some ⟨b, o, none⟩) 0 (zs.drop n) from by rw [List.drop_of_length_le (by rw [L.out]; exact Nat.le_refl _)]; exact RI.nil _ _ _))
        have hF := Lib.hid (show zs.take q ++ zs.drop (q + l) = zs.take n ++ zs.drop n from
          congr (congrArg _ ((take_min zs q).trans (by rw [L.out, HF.out]))) ((drop_min zs (q + l)).trans (by rw [L.out, HT.out])))
        go_enter Try.func164, Try.ntmps164
        go_wp2_with fail
        go_region
        all_goals
          go_wp2_with fail
          go_region_law (first
            | ((refine step_call 190 Try.func190 own_fn.1 own_fn.2 rfl rfl #[.slice (some ⟨b, o, none⟩) (n) n] ?_ ?_); (simp [Act.eval, Act.put]); (refine (l01Own_any (some ⟨b, o, none⟩) (n) n (zs.take (n)) _ (by exact hrp.out) (by omega) (fun e => by cases e)).mono ?_); rintro e w1 ⟨A1, c1, rfl, hown1, hb1⟩; (refine ⟨_, rfl, ?_⟩); have HO := Lib.hid hown1; have HB1 := Lib.hid (below_dd hb1); clear hown1 hb1)
            | (refine step_appR _ Try.underlying24 infoInt rfl (.tmp 41) (.tmp 44) rfl w0.heap.size A1 (n) c1 _ (by simp [Act.eval]) HO.out (some ⟨b, o, none⟩) (0) (0) w0.heap.size (zs.drop (n)) (by simp [Act.eval]) (hrs.out.below HB1.out (Nat.le_refl _)) (fun e => by cases e) (by omega) HB1.out.size ?_; intro A2 c2 w2 hown2 hB2 hg2; have HO2 := Lib.hid hown2; have HB2 := Lib.hid (hB2 w0.heap.size (Nat.le_refl _)); clear hown2 hB2 hg2))
          all_goals
            go_wp2
            go_ret
            have e1 := HF.out
            have e2 := HT.out
            have e3 := HO2.out
            (try rw [hF.out])
            rw [e1, e2]
            have e4 : n + (0) = n - (n - n) := by omega
            refine ⟨A2, c2, by rw [← e4]; rfl, ?_, ?_⟩
            · rw [← e4]; exact e3.weaken HB.out.size
            · exact (below_next HB1.out HB.out (Nat.le_refl _)).trans (HB2.out.mono HB.out.size)
      · skip
        have hle2 : (n : Int) ≤ (q : Int) + (l : Int) := by omega
        have hc1 : ¬ (c = n) := by omega
        have HF := Lib.hid (show min n q = n by omega)
        have HT := Lib.hid (show min n (q + l) = n by omega)
        have hrp := Lib.hid (hr0.pre (k := n) (by omega))
        have hrs := Lib.hid ((show RI w0 w0.heap.size (some ⟨b, o + n, none⟩) 0 (zs.drop n) from by have := hr0.suf (k := n) (by omega); rwa [Nat.sub_self] at this))
        have hF := Lib.hid (show zs.take q ++ zs.drop (q + l) = zs.take n ++ zs.drop n from
          congr (congrArg _ ((take_min zs q).trans (by rw [L.out, HF.out]))) ((drop_min zs (q + l)).trans (by rw [L.out, HT.out])))
        go_enter Try.func164, Try.ntmps164
        go_wp2_with fail
        go_region
        all_goals
          go_wp2_with fail
          go_region_law (first
            | ((refine step_call 190 Try.func190 own_fn.1 own_fn.2 rfl rfl #[.slice (some ⟨b, o, none⟩) (n) c] ?_ ?_); (simp [Act.eval, Act.put]); (refine (l01Own_any (some ⟨b, o, none⟩) (n) c (zs.take (n)) _ (by exact hrp.out) (by omega) (fun e => by cases e)).mono ?_); rintro e w1 ⟨A1, c1, rfl, hown1, hb1⟩; (refine ⟨_, rfl, ?_⟩); have HO := Lib.hid hown1; have HB1 := Lib.hid (below_dd hb1); clear hown1 hb1)
            | (refine step_appR _ Try.underlying24 infoInt rfl (.tmp 41) (.tmp 44) rfl w0.heap.size A1 (n) c1 _ (by simp [Act.eval]) HO.out (some ⟨b, o + n, none⟩) (0) (c - n) w0.heap.size (zs.drop (n)) (by simp [Act.eval]) (hrs.out.below HB1.out (Nat.le_refl _)) (fun e => by cases e) (by omega) HB1.out.size ?_; intro A2 c2 w2 hown2 hB2 hg2; have HO2 := Lib.hid hown2; have HB2 := Lib.hid (hB2 w0.heap.size (Nat.le_refl _)); clear hown2 hB2 hg2))
          all_goals
            go_wp2
            go_ret
            have e1 := HF.out
            have e2 := HT.out
            have e3 := HO2.out
            (try rw [hF.out])
            rw [e1, e2]
            have e4 : n + (0) = n - (n - n) := by omega
            refine ⟨A2, c2, by rw [← e4]; rfl, ?_, ?_⟩
            · rw [← e4]; exact e3.weaken HB.out.size
            · exact (below_next HB1.out HB.out (Nat.le_refl _)).trans (HB2.out.mono HB.out.size)
end ApplyFault
end Go.Proofs.Ytlfbmedgkkfalaa
