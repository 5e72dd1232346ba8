/- Contract: a machine of the law's own is added to a world. -/
import Derived.Test.YtadaoobdnnleaaaB7
import Derived.Test.YtadaoobdnnleaaaX2
import Derived.Deep.AppendLies
namespace Go.Proofs.Ytadaoobdnnleaaa
open Go.RowKit
set_option linter.unusedVariables false
theorem Try.mcz_inf : (Try.prog.info? 52).map (fun i => (i.zero, i.size, i.bytes)) = some (some (.agg #[.int .i64 0, .int .i64 0, .slice none 0 0, .slice none 0 0, .int .i64 0, .int .i64 0, .int .i64 0, .int .i64 0, .int .i64 0, .int .u64 0, .int .u64 0, .int .u64 0, .int .i64 0, .int .u64 0]), 14, 144) := by kernel_rfl
theorem Try.frz_inf : (Try.prog.info? 55).map (fun i => (i.zero, i.size, i.bytes)) = some (some (.agg #[.int .i64 0, .int .i64 0, .slice none 0 0, .slice none 0 0, .slice none 0 0]), 5, 88) := by kernel_rfl
theorem grown_push_store {w w5 : World} {r : Option Nat} {g : Nat} (h : w.grownBy w5 r) (hg : some g = r ∨ w.heap.size ≤ g) (o : Nat) (vs : List Value) : w.grownBy (w5.setCells g o vs) r := by
  have h2 := grown_sets (g := g) vs o w5
  refine ⟨h2.os.trans h.os, h2.tape.trans h.tape, h2.output.trans h.output, Nat.le_trans h.size h2.size, fun k hk hne => ?_⟩
  rw [h2.block k (Nat.lt_of_lt_of_le hk h.size) (fun e => ?_), h.block k hk hne]
  injection e with e
  rcases hg with hg | hg
  · exact hne (by rw [e]; exact hg)
  · omega
theorem WdH.apartF {w : World} {base G g : Nat} {TW : TypeId} {h : Hd} {st : St} {ys : Array Value} (H : WdH w base G TW h st) (k : Bk w g 55 ys) (hne : G ≠ g) (hv : h.vF.ownBlock ≠ some g) (o : Nat) (vs : List Value) :
    WdH (w.setCells g o vs) base G TW h st := by
  have kk : ∀ T', T' ≠ 55 → Kp w (w.setCells g o vs) T' := fun T' a => kp_sets a vs o k
  obtain ⟨p1, p2, p3, p4, p5, p6⟩ := H.kps (kk _ (by decide)) (kk _ (by decide))
  refine ⟨H.tw, H.bk.grown (grown_sets vs o w) (by simpa using hne), H.hG, p1, p2, p3, p4, H.mn, own_kp H.rL (kk _ (by decide)), own_kp H.rT (kk _ (by decide)), own_kp H.rP (kk _ (by decide)), H.rF.kept (grown_sets vs o w) ?_, p5, p6⟩
  by_cases e : h.vF.ownBlock = none
  · exact .inl e
  · exact .inr hv
theorem set5_eq (w : World) (g o : Nat) (a b c d e : Value) : ((((w.setCell ⟨g, o, none⟩ a).setCell ⟨g, o + 1, none⟩ b).setCell ⟨g, o + 2, none⟩ c).setCell ⟨g, o + 3, none⟩ d).setCell ⟨g, o + 4, none⟩ e = w.setCells g o [a, b, c, d, e] := rfl
theorem setCell_comm (w : World) {G g : Nat} (hne : G ≠ g) (i o : Nat) (u v : Value) : (w.setCell ⟨G, i, none⟩ u).setCell ⟨g, o, none⟩ v = (w.setCell ⟨g, o, none⟩ v).setCell ⟨G, i, none⟩ u := by
  unfold World.setCell
  congr 1
  apply Array.ext
  · simp
  · intro k h1 h2
    simp only [Array.getElem_modify]
    by_cases e1 : G = k <;> by_cases e2 : g = k
    · omega
    · simp [e1, e2]
    · simp [e1, e2]
    · simp [e1, e2]
theorem set_sets_comm {G g : Nat} (hne : G ≠ g) (i : Nat) (u : Value) (vs : List Value) : ∀ (o : Nat) (w : World), (w.setCell ⟨G, i, none⟩ u).setCells g o vs = (w.setCells g o vs).setCell ⟨G, i, none⟩ u := by
  induction vs with
  | nil => intro o w; rfl
  | cons v r ih =>
    intro o w
    rw [World.setCells, setCell_comm w hne, ih, World.setCells]
/-- The last element of a row. -/
theorem own_last {w : World} {base g n cap sz : Nat} {e : TypeId} {xs ys : List Value} (h : w.ownsRow base e sz (.slice (some ⟨g, 0, none⟩) (n + 1) cap) (n + 1) (xs ++ ys)) (hy : ys.length = sz := by rfl) : w.rangeAt g (n * sz) ys := by
  intro j v hv
  have hj : j < sz := by rw [← hy]; exact (List.getElem?_eq_some_iff.1 hv).1
  have hx : xs.length = n * sz := by
    have := h.1
    rw [List.length_append, hy, Nat.succ_mul] at this
    omega
  rw [h.cellAt (n * sz + j) (by rw [Nat.succ_mul]; omega), List.getElem?_append_right (by omega), hx, Nat.add_sub_cancel_left]
  exact hv
theorem own_ne {w : World} {base g n m cap sz G : Nat} {e TW : TypeId} {xs : List Value} {cs : Array Value} (h : w.ownsRow base e sz (.slice (some ⟨g, 0, none⟩) n cap) m xs) (k : Bk w G TW cs) (hne : TW ≠ e) : g ≠ G := fun e' => by
  obtain ⟨cur, k'⟩ := own_bk h
  subst e'
  unfold Bk at k k'
  rw [k] at k'
  simp at k'
  exact hne k'.2
theorem own_new {w : World} {v : Value} {n cap g : Nat} (h : (Value.slice (some ⟨g, 0, none⟩) n cap).ownBlock = v.ownBlock ∨ ∃ g', (Value.slice (some ⟨g, 0, none⟩) n cap).ownBlock = some g' ∧ w.heap.size ≤ g') : some g = v.ownBlock ∨ w.heap.size ≤ g := by
  rcases h with h | ⟨g', h, hl⟩
  · exact .inl h
  · right
    simp only [Value.ownBlock, Option.some.injEq] at h
    omega
theorem own_push_store {w : World} {base g cap : Nat} {e : TypeId} {l : List (Array Value)} {zs : List Value} (h : w.ownsRow base e 5 (.slice (some ⟨g, 0, none⟩) (l.length + 1) cap) (l.length + 1) (l.flatMap Array.toList ++ zs)) (hl : ∀ x ∈ l, x.toList.length = 5) (cs : Array Value) (hc : cs.toList.length = 5) :
    (w.setCells g (l.length * 5) cs.toList).ownsRow base e 5 (.slice (some ⟨g, 0, none⟩) (l.length + 1) cap) (l.length + 1) (l.flatMap Array.toList ++ cs.toList) := by
  have hx : (l.flatMap Array.toList).length = l.length * 5 := flat_len hl
  have hz : zs.length = 5 := by
    have := h.1
    rw [List.length_append, hx] at this
    omega
  have := own_sets cs.toList (l.length * 5) h
  rw [show l.length * 5 = (l.flatMap Array.toList).length + 0 by omega, setL_app _ _ _ _ (by omega), setL_all _ _ (by omega)] at this
  rw [show l.length * 5 = (l.flatMap Array.toList).length + 0 by omega]
  exact this
set_option maxHeartbeats 4000000 in
set_option maxRecDepth 100000 in
theorem add7_own (w : World) (base G : Nat) (h : Hd) (st : St) (what ch th : Nat) (v r4 r8 : Int) (x : Mc) (R : Fa → Prop) (H : WdH w base G 43 h st) (hxe : x = ⟨what, 1, ch, th, r4, r8, v, 0, 0, 0, 0⟩) (h4 : r4 = v % 4) (h8 : r8 = v % 8) (hv : 0 ≤ v) (hown : x.what≤2) (hms : st.ms.length ≤ 1000000) (hfs : h.fs.length ≤ 1000000)
    (HStart : ∀ W, Cf W h.A h.n st.l → Calls Try.prog 53 #[.agg #[.slice h.A h.n h.c, .slice h.B h.m h.d, .int .i64 st.th], .agg (Mc.cells h.A h.n h.c h.B h.m h.d st.th x)] W fun e w' => ∃ cs q', e = .returned (.agg cs) ∧ FrA w' cs q' ∧ R q' ∧ Below W.heap.size W w') :
    Calls Try.prog 18 #[.pointer (some ⟨G, 0, none⟩), .int .i64 what, .int .i64 ch, .int .i64 th, .int .u64 v] w fun e w' => e = .returned (.tuple #[]) ∧ ∃ q', R q' ∧ Wd w' base G 43 { st with ms := st.ms ++ [x], qs := st.qs ++ [q'] } ∧ Below base w w' := by
  have e4 : v.tmod 4 = r4 := by rw [Int.tmod_eq_emod_of_nonneg hv, h4]
  have e8 : v.tmod 8 = r8 := by rw [Int.tmod_eq_emod_of_nonneg hv, h8]
  have b4 : 0 ≤ r4 ∧ r4 ≤ 3 := by omega
  have b8 : 0 ≤ r8 ∧ r8 ≤ 7 := by omega
  have u4 : IntKind.u64.wrap r4 = r4 := by rw [wrap_u64]; omega
  have u8 : IntKind.u64.wrap r8 = r8 := by rw [wrap_u64]; omega
  have i4 : IntKind.i64.wrap r4 = r4 := IntWalk.i64_in r4 ⟨by omega, by omega⟩
  have i8 : IntKind.i64.wrap r8 = r8 := IntWalk.i64_in r8 ⟨by omega, by omega⟩
  have bk := H.bk
  have HH := hide H
  have HST := hide HStart
  have HXE := hide hxe
  rw [Hd.cells] at bk
  obtain ⟨k0, k1, k2, k3, k4, k5, k6, k7, k8, k9, kf⟩ := bk10 bk
  have HNW := hide (fun W => mnew_any W h.A h.n h.c h.B h.m h.d st.th what ch th)
  have HOWN := hide (fun W => own7_yes W h.A h.n h.c h.B h.m h.d st.th x hown)
  rw [Mc.cells] at HNW
  clear H HStart hxe bk h4 h8 hown
  go_enter Try.func18, Try.ntmps18
  go_wp2_with fail
  refine (HNW.out _).mono ?_
  rintro e w1 ⟨rfl, hb1⟩
  have H1 := hide (HH.out.below hb1)
  have HB1 := hide (hb1.mono HH.out.base_le)
  clear k0 k1 k2 k3 k4 k5 k6 k7 k8 k9 kf hb1 HNW HH
  go_upto_region 2 with fail
  have KM := hide (Bk.new w1 52 #[.int .i64 what, .int .i64 1, .slice h.A h.n h.c, .slice h.B h.m h.d, .int .i64 st.th, .int .i64 ch, .int .i64 th, .int .i64 r4, .int .i64 r8, .int .u64 v, .int .u64 0, .int .u64 0, .int .i64 0, .int .u64 0])
  have H2 := hide (H1.out.alloc (.cells #[.int .i64 what, .int .i64 1, .slice h.A h.n h.c, .slice h.B h.m h.d, .int .i64 st.th, .int .i64 ch, .int .i64 th, .int .i64 r4, .int .i64 r8, .int .u64 v, .int .u64 0, .int .u64 0, .int .i64 0, .int .u64 0] 52))
  have HB2 := hide (HB1.out.trans ((below_new w1 (.cells #[.int .i64 what, .int .i64 1, .slice h.A h.n h.c, .slice h.B h.m h.d, .int .i64 st.th, .int .i64 ch, .int .i64 th, .int .i64 r4, .int .i64 r8, .int .u64 v, .int .u64 0, .int .u64 0, .int .i64 0, .int .u64 0] 52)).mono H1.out.base_le))
  have hGp : G < w1.heap.size := H1.out.bk.lt
  have HNR := hide (show h.vL.ownBlock ≠ some w1.heap.size from fun e => Nat.lt_irrefl _ (H1.out.rL.lt _ e).2)
  clear H1 HB1
  generalize w1.alloc (.cells #[.int .i64 what, .int .i64 1, .slice h.A h.n h.c, .slice h.B h.m h.d, .int .i64 st.th, .int .i64 ch, .int .i64 th, .int .i64 r4, .int .i64 r8, .int .u64 v, .int .u64 0, .int .u64 0, .int .i64 0, .int .u64 0] 52) = wm at *
  generalize w1.heap.size = p10 at *
  have hbp : base ≤ p10 := Nat.le_trans H2.out.hG (Nat.le_of_lt hGp)
  go_cut [] (fun wx => ∃ vL', WdH wx base G 43 { h with vL := vL' } { st with ms := st.ms ++ [x] } ∧ Bk wx p10 52 #[.int .i64 what, .int .i64 1, .slice h.A h.n h.c, .slice h.B h.m h.d, .int .i64 st.th, .int .i64 ch, .int .i64 th, .int .i64 r4, .int .i64 r8, .int .u64 v, .int .u64 0, .int .u64 0, .int .i64 0, .int .u64 0] ∧ Below base w wx)
  case first =>
    have bk := H2.out.bk
    have hGl := bk.lt
    rw [Hd.cells] at bk
    obtain ⟨-, -, -, -, -, -, k6, -, -, -, kf⟩ := bk10 bk
    obtain ⟨m0, m1, m2, m3, m4, m5, m6, m7, m8, m9, m10, m11, m12, m13, -⟩ := bk14 KM.out
    have hpl := KM.out.lt
    have hbs := H2.out.base_le
    have hms2 : st.ms.length ≤ 1073741824 := by omega
    obtain ⟨i0, hi0, hz0, hz1, hz2⟩ := info_parts Try.mcz_inf
    clear bk
    go_region_law (first
      | (refine step_push3 ((wm.drew).alloc (.cells #[.int .i64 what, .int .i64 1, .slice h.A h.n h.c, .slice h.B h.m h.d, .int .i64 st.th, .int .i64 ch, .int .i64 th, .int .i64 r4, .int .i64 r8, .int .u64 v, .int .u64 0, .int .u64 0, .int .i64 0, .int .u64 0] 52)) (by rfl) (.tmp 36) (.tmp 38) _ (by rfl) base 52 i0 _ 14 144 Try.underlying34 hi0 hz0 hz1 hz2 (by rfl) (by decide) _ _ _ (by rfl) ((H2.out.below (Below.refl wm.heap.size wm).drew).alloc _).rL [.int .i64 what, .int .i64 1, .slice h.A h.n h.c, .slice h.B h.m h.d, .int .i64 st.th, .int .i64 ch, .int .i64 th, .int .i64 r4, .int .i64 r8, .int .u64 v, .int .u64 0, .int .u64 0, .int .i64 0, .int .u64 0] ⟨wm.heap.size, 0, none⟩ (by rfl) (cells_new (wm.drew) _ _) (by rfl) (by simp [Value.oneCell']) hms2 (by omega) (by simp; omega) ?_; intro v4 w4 hown4 hg4 hv4; obtain ⟨A4, C4, rfl, -⟩ := own_form hown4; have bk5' := ((H2.out.below (Below.refl wm.heap.size wm).drew).alloc (.cells #[.int .i64 what, .int .i64 1, .slice h.A h.n h.c, .slice h.B h.m h.d, .int .i64 st.th, .int .i64 ch, .int .i64 th, .int .i64 r4, .int .i64 r8, .int .u64 v, .int .u64 0, .int .u64 0, .int .i64 0, .int .u64 0] 52)).bk.oth hg4 (Oth.own ((H2.out.below (Below.refl wm.heap.size wm).drew).alloc _).rL H2.out.tw.2.2.1); have BK4 := hide bk5'; rw [Hd.cells] at bk5'; obtain ⟨-, -, -, -, -, -, y6, -, -, -, yf⟩ := bk10 bk5'; clear bk5'))
    all_goals
      go_wp2_with fail
      go_meet
      case rel =>
        refine ⟨_, ((H2.out.below (Below.refl wm.heap.size wm).drew).alloc _).pushL x _ ?_ hg4, ?_, ?_⟩
        · rw [HXE.out]; exact hown4
        · have r := ((H2.out.below (Below.refl wm.heap.size wm).drew).alloc (.cells #[.int .i64 what, .int .i64 1, .slice h.A h.n h.c, .slice h.B h.m h.d, .int .i64 st.th, .int .i64 ch, .int .i64 th, .int .i64 r4, .int .i64 r8, .int .u64 v, .int .u64 0, .int .u64 0, .int .i64 0, .int .u64 0] 52)).rL
          have hrl := H2.out.rL
          refine Bk.far (Bk.grown ((KM.out.below (Below.refl wm.heap.size wm).drew KM.out.lt).alloc _) hg4 ?_) (by show p10 ≠ G; omega) _
          exact fun e => HNR.out e.symm
        · exact (HB2.out.trans (((Below.refl base wm).drew.alloc hbs _).trans (own_below ((H2.out.below (Below.refl wm.heap.size wm).drew).alloc _).rL hg4 (Nat.le_refl _) (by simp; omega)))).setCell (p := ⟨G, 6, none⟩) H2.out.hG _
  case rest =>
    obtain ⟨vL', h3, k3, b3⟩ := hcut
    have H3 := hide h3
    have K3 := hide k3
    have B3 := hide b3
    have hbw := h3.base_le
    clear h3 k3 b3 H2 HB2 KM
    have HOWN2 := HOWN
    rw [HXE.out, Mc.cells] at HOWN2
    have HST2 := HST
    rw [HXE.out, Mc.cells] at HST2
    obtain ⟨m0, m1, m2, m3, m4, m5, m6, m7, m8, m9, m10, m11, m12, m13, -⟩ := bk14 K3.out
    have hpl := K3.out.lt
    go_wp2_with fail
    refine (HOWN2.out _).mono ?_
    rintro e w5 ⟨rfl, hb5⟩
    have hx5 := (below_new wc (.cells #[.int .i64 0, .int .i64 0, .slice none 0 0, .slice none 0 0, .slice none 0 0] 55)).trans (hb5.mono (by simp))
    have H5 := hide (H3.out.below hx5)
    have K5 := hide (K3.out.below hx5 K3.out.lt)
    have F5 := hide ((Bk.new wc 55 #[.int .i64 0, .int .i64 0, .slice none 0 0, .slice none 0 0, .slice none 0 0]).below hb5 (by simp))
    have B5 := hide (B3.out.trans (hx5.mono hbw))
    have hNF := hide (show h.vF.ownBlock ≠ some wc.heap.size from fun e => Nat.lt_irrefl _ (H3.out.rF.lt _ e).2)
    have hG5 : G < wc.heap.size := H3.out.bk.lt
    have hp5 : p10 < wc.heap.size := K3.out.lt
    clear m0 m1 m2 m3 m4 m5 m6 m7 m8 m9 m10 m11 m12 m13 hb5 hx5 H3 K3 B3 HOWN HOWN2 HST
    generalize wc.heap.size = p11 at *
    go_upto_region 5 with fail
    go_cut [] (fun wx => ∃ cs q', FrA wx cs q' ∧ R q' ∧ Bk wx p11 55 cs ∧ WdH wx base G 43 { h with vL := vL' } { st with ms := st.ms ++ [x] } ∧ Below base w wx)
    case first =>
      have bk := H5.out.bk
      rw [Hd.cells] at bk
      obtain ⟨k0, k1, k2, -, -, -, -, -, -, -, -⟩ := bk10 bk
      obtain ⟨m0, m1, m2, m3, m4, m5, m6, m7, m8, m9, m10, m11, m12, m13, -⟩ := bk14 K5.out
      clear bk
      have hbs5 := H5.out.base_le
      go_region_law (first
        | (refine step_call _ (by rfl) 53 _ (by go_simp) (HST2.out w5.drew (H5.out.cf.below (Below.refl w5.heap.size w5).drew)) ?_; rintro e w6 ⟨cs', q', rfl, hf', hR', hb6⟩; refine ⟨_, rfl, ?_⟩; have hb6 := (Below.refl w5.heap.size w5).drew.trans hb6; have HR := hide hR'; have HF := hide hf'; have H6 := hide (H5.out.below hb6); have F6 := hide (F5.out.below hb6 F5.out.lt); have B6 := hide (B5.out.trans (hb6.mono hbs5)); obtain ⟨FA', fn', fc', FB', fm', fd', rfl, -⟩ := id hf'; obtain ⟨e0, e1, e2, e3, e4', ef⟩ := bk5 F6.out; clear hf' hR' hb6))
      all_goals
        go_wp2_with fail
        go_meet
        case rel => exact ⟨_, q', Fr.stored (vs := [.int .i64 q'.code, .int .i64 q'.pc, .slice FA' fn' fc', .slice FB' fm' fd', .slice none 0 0]) (hide rfl) HF.out F6.out, HR.out, Bk.stored (cells := #[.int .i64 q'.code, .int .i64 q'.pc, .slice FA' fn' fc', .slice FB' fm' fd', .slice none 0 0]) (hide rfl) F6.out rfl, H6.out.apartF F6.out (by omega) hNF.out 0 [_, _, _, _, _], below_setCells [_, _, _, _, _] 0 B6.out (by omega)⟩
    case rest =>
      obtain ⟨cs, q', hf, hR, hF, hW, hB⟩ := hcut
      obtain ⟨FA, fn, fc, FB, fm, fd, rfl, -⟩ := id hf
      have HF := hide hf
      have HR := hide hR
      have F7 := hide hF
      have H7 := hide hW
      have B7 := hide hB
      have bk := H7.out.bk
      rw [Hd.cells] at bk
      obtain ⟨-, -, -, -, -, -, -, -, -, k9, kf⟩ := bk10 bk
      obtain ⟨e0, e1, e2, e3, e4', -⟩ := bk5 F7.out
      have hGl := bk.lt
      have hFl := F7.out.lt
      have hbs := H7.out.base_le
      have hfs2 : h.fs.length ≤ 1073741824 := by omega
      have d1 : decide ((h.fs.length : Int) < 0) = false := by simp
      have d2 : decide (h.fs.length + 1 ≤ h.fs.length) = false := by simp
      have dl : (h.fs.length : Int) < (h.fs.length : Int) + 1 := by omega
      obtain ⟨i0, hi0, hz0, hz1, hz2⟩ := info_parts Try.frz_inf
      clear bk hf hR hF hW hB H5 K5 F5 B5 HST2
      have H8 := hide ((H7.out.below (Below.refl wc.heap.size wc).drew).alloc (.cells #[.int .i64 0, .int .i64 0, .slice none 0 0, .slice none 0 0, .slice none 0 0] 55))
      have rF8 := H8.out.rF
      obtain ⟨VA, VC, eV, -⟩ := own_form rF8
      dsimp only at eV
      dsimp only at rF8
      rw [eV] at rF8 k9
      have EV := hide eV
      have RF8 := hide rF8
      clear eV rF8
      go_upto_region 6 with fail
      go_region_law (first
        | (refine step_push3 ((wc.drew).alloc (.cells #[.int .i64 0, .int .i64 0, .slice none 0 0, .slice none 0 0, .slice none 0 0] 55)) (by rfl) (.tmp 55) (.tmp 58) _ (by rfl) base 55 i0 _ 5 88 Try.underlying41 hi0 hz0 hz1 hz2 (by rfl) (by decide) _ _ _ (by rfl) RF8.out [.int .i64 0, .int .i64 0, .slice none 0 0, .slice none 0 0, .slice none 0 0] ⟨wc.heap.size, 0, none⟩ (by rfl) (cells_new (wc.drew) _ _) (by rfl) (by simp [Value.oneCell']) hfs2 (by omega) (by simp; omega) ?_; intro v4 w4 hown4 hg4 hv4; rw [← EV.out] at hg4 hv4; obtain ⟨g4, C4, rfl, -, -⟩ := hown4.form (Nat.succ_pos _); have bk5' := H8.out.bk.oth hg4 (Oth.own H8.out.rF H8.out.tw.2.2.2.2.2); have BK4 := hide bk5'; rw [Hd.cells] at bk5'; obtain ⟨-, -, -, -, -, -, -, -, -, y9, yf⟩ := bk10 bk5'; have HF4 := hide (Bk.grown (((F7.out.below (Below.refl wc.heap.size wc).drew F7.out.lt).alloc _)) hg4 (fun e => hNF.out e.symm)); obtain ⟨z0, z1, z2, z3, z4, -⟩ := bk5 HF4.out; have hcell := own_last hown4; obtain ⟨x0, x1, x2, x3, x4⟩ := rg5 hcell; have xf := fun j => hown4.frozenAt j; have hgG := own_ne hown4 BK4.out H8.out.tw.2.2.2.2.2; have hgG' := fun e => hgG (Eq.symm e); clear bk5'))
      all_goals
        go_wp2
        refine bodyPost_end (v := .tuple #[]) (by simp [results, Try.results18, go_sem]) rfl ?_
        have HZ := set5_eq w4 g4 (h.fs.length * 5) (.int .i64 q'.code) (.int .i64 q'.pc) (.slice FA fn fc) (.slice FB fm fd) (.slice none 0 0)
        have HZ2 := set5_eq (w4.setCell ⟨G, 9, none⟩ (.slice (some ⟨g4, 0, none⟩) (h.fs.length + 1) C4)) g4 (h.fs.length * 5) (.int .i64 q'.code) (.int .i64 q'.pc) (.slice FA fn fc) (.slice FB fm fd) (.slice none 0 0)
        first
          | rw [HZ]
          | rw [HZ2, set_sets_comm hgG']
        have hF9 := WdH.pushF (w1 := w4.setCells g4 (h.fs.length * 5) [.int .i64 q'.code, .int .i64 q'.pc, .slice FA fn fc, .slice FB fm fd, .slice none 0 0]) H8.out #[.int .i64 q'.code, .int .i64 q'.pc, .slice FA fn fc, .slice FB fm fd, .slice none 0 0] q' ((Fr.below HF.out (Below.refl wc.heap.size wc).drew).below (below_new _ _)) _ (own_push_store hown4 (H8.out.fsz) #[.int .i64 q'.code, .int .i64 q'.pc, .slice FA fn fc, .slice FB fm fd, .slice none 0 0] rfl) (grown_push_store hg4 (own_new hv4) _ _)
        refine ⟨rfl, q', HR.out, ⟨_, hF9⟩, ?_⟩
        have hb9 := B7.out.trans (((Below.refl base wc).drew.alloc hbs (.cells #[.int .i64 0, .int .i64 0, .slice none 0 0, .slice none 0 0, .slice none 0 0] 55)).trans (own_below H8.out.rF hg4 (Nat.le_refl _) (by simp; omega)))
        exact (below_setCells [.int .i64 q'.code, .int .i64 q'.pc, .slice FA fn fc, .slice FB fm fd, .slice none 0 0] _ hb9 ((hown4.lt g4 rfl).1)).setCell (p := ⟨G, 9, none⟩) H7.out.hG _
end Go.Proofs.Ytadaoobdnnleaaa
