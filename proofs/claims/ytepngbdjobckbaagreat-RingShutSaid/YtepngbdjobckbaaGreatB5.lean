/- -/
import Derived.Test.YtepngbdjobckbaaGreatB
import Derived.Test.YtepngbdjobckbaaGreatW
import Derived.Deep.RegionHeld3
import Derived.Deep.RegionLaw
import Derived.Deep.DeepCutAuto
import Derived.Deep.DrawnRows
namespace Go.Proofs.YtepngbdjobckbaaGreat
open Go.RowKit
set_option linter.unusedVariables false

theorem Tryz.me_inf : (Tryz.prog.info? 33).map (fun i => (i.zero, i.size, i.bytes)) = some (some (.agg #[.slice none 0 0, .slice none 0 0, .int .i64 0]), 3, 56) := by kernel_rfl
theorem Tryz.it_inf : (Tryz.prog.info? 58).map (fun i => (i.zero, i.size, i.bytes)) = some (some (.agg #[.int .i64 0, .int .i64 0, .int .i64 0, .int .u64 0, .int .u64 0, .int .i64 0, .int .u64 0, .bool false]), 8, 64) := by kernel_rfl
theorem size_sets {g : Nat} (vs : List Value) : ∀ (o : Nat) (w : World), (w.setCells g o vs).heap.size = w.heap.size := by
  induction vs with
  | nil => intro o w; rfl
  | cons v r ih => intro o w; rw [World.setCells, ih]; simp
/-- A block of the call's own that was made, or stored whole. -/
structure Mk (B : Nat) (w w' : World) (p : Nat) (T : TypeId) (cs : Array Value) : Prop where
  bk : Bk w' p T cs
  kp : ∀ T', T' ≠ T → Kp w w' T'
  bl : Below B w w'
  le : B ≤ p
theorem mk_alloc {B p : Nat} {w : World} {T : TypeId} {cs : Array Value} (hp : p = w.heap.size) (hB : B ≤ w.heap.size) : Mk B w (w.alloc (.cells cs T)) p T cs := by
  subst hp
  exact ⟨Bk.new _ _ _, fun T' _ => kp_below (below_new _ _), (Below.refl B w).alloc hB _, hB⟩
theorem mk_store {B p : Nat} {w : World} {T : TypeId} {z cs : Array Value} (h : Bk w p T z) (hz : z.size = cs.size) (hB : B ≤ p) : Mk B w (w.setCells p 0 cs.toList) p T cs :=
  ⟨Bk.stored (hide rfl) h hz, fun T' hne => kp_sets hne _ 0 h, below_setCells _ 0 (Below.refl B w) hB, hB⟩
def Four (w2 : World) (LA : Option Addr) (ln lc : Nat) (tk va : Int) (ya : Bool) (mn : Nat) (ws' : List Int) (p7 p8 : Nat) (A' : Option Addr) (c' : Nat) (wc : World) : Prop :=
  Bk wc p7 33 #[.slice A' mn c', .slice LA ln lc, .int .i64 tk] ∧ Bk wc p8 86 #[.int .u64 va, .bool ya, .bool false, .slice none 0 0] ∧ IsI .u64 wc A' mn ws' ∧ TyA wc A' mn 42 ∧ Below w2.heap.size w2 wc ∧ w2.heap.size ≤ p7 ∧ w2.heap.size ≤ p8
section
variable {w2 w3 wa wb : World} {LA : Option Addr} {ln lc : Nat} {tk va : Int} {ya : Bool} {mn : Nat} {ws' : List Int} {p7 p8 : Nat} {A' : Option Addr} {c' : Nat}
theorem four78 (hb : Below w2.heap.size w2 w3) (hi : IsI .u64 w3 A' mn ws') (ht : TyA w3 A' mn 42) (m : Mk w2.heap.size w3 wa p7 33 #[.slice A' mn c', .slice LA ln lc, .int .i64 tk]) (m' : Mk w2.heap.size wa wb p8 86 #[.int .u64 va, .bool ya, .bool false, .slice none 0 0]) :
    Four w2 LA ln lc tk va ya mn ws' p7 p8 A' c' wb :=
  have k := (m.kp 42 (by decide)).trans (m'.kp 42 (by decide))
  ⟨m'.kp _ (by decide) _ _ m.bk, m'.bk, hi.kp ht k, ht.kp k, (hb.trans m.bl).trans m'.bl, m.le, m'.le⟩
theorem four87 (hb : Below w2.heap.size w2 w3) (hi : IsI .u64 w3 A' mn ws') (ht : TyA w3 A' mn 42) (m' : Mk w2.heap.size w3 wa p8 86 #[.int .u64 va, .bool ya, .bool false, .slice none 0 0]) (m : Mk w2.heap.size wa wb p7 33 #[.slice A' mn c', .slice LA ln lc, .int .i64 tk]) :
    Four w2 LA ln lc tk va ya mn ws' p7 p8 A' c' wb :=
  have k := (m'.kp 42 (by decide)).trans (m.kp 42 (by decide))
  ⟨m.bk, m.kp _ (by decide) _ _ m'.bk, hi.kp ht k, ht.kp k, (hb.trans m'.bl).trans m.bl, m.le, m'.le⟩
theorem four_ss (hb : Below w2.heap.size w2 w3) (hi : IsI .u64 w3 A' mn ws') (ht : TyA w3 A' mn 42) (E7 : Bk w3 p7 33 #[.slice none 0 0, .slice none 0 0, .int .i64 0]) (E8 : Bk w3 p8 86 #[.int .u64 0, .bool false, .bool false, .slice none 0 0]) (h7 : w2.heap.size ≤ p7) (h8 : w2.heap.size ≤ p8) :
    Four w2 LA ln lc tk va ya mn ws' p7 p8 A' c' (((((((w3.setCell ⟨p7, 0, none⟩ (.slice A' mn c')).setCell ⟨p7, 1, none⟩ (.slice LA ln lc)).setCell ⟨p7, 2, none⟩ (.int .i64 tk)).setCell ⟨p8, 0, none⟩ (.int .u64 va)).setCell ⟨p8, 1, none⟩ (.bool ya)).setCell ⟨p8, 2, none⟩ (.bool false)).setCell ⟨p8, 3, none⟩ (.slice none 0 0)) := by
  have m := mk_store (B := w2.heap.size) (cs := #[.slice A' mn c', .slice LA ln lc, .int .i64 tk]) E7 rfl h7
  have m' := mk_store (B := w2.heap.size) (cs := #[.int .u64 va, .bool ya, .bool false, .slice none 0 0]) (m.kp 86 (by decide) _ _ E8) rfl h8
  exact four78 hb hi ht m m'
theorem four_sa (hb : Below w2.heap.size w2 w3) (hi : IsI .u64 w3 A' mn ws') (ht : TyA w3 A' mn 42) (E7 : Bk w3 p7 33 #[.slice none 0 0, .slice none 0 0, .int .i64 0]) (h7 : w2.heap.size ≤ p7) (h8 : w2.heap.size ≤ w3.heap.size) :
    Four w2 LA ln lc tk va ya mn ws' p7 w3.heap.size A' c' ((((w3.setCell ⟨p7, 0, none⟩ (.slice A' mn c')).setCell ⟨p7, 1, none⟩ (.slice LA ln lc)).setCell ⟨p7, 2, none⟩ (.int .i64 tk)).alloc (.cells #[.int .u64 va, .bool ya, .bool false, .slice none 0 0] 86)) := by
  have m := mk_store (B := w2.heap.size) (cs := #[.slice A' mn c', .slice LA ln lc, .int .i64 tk]) E7 rfl h7
  have m' := mk_alloc (B := w2.heap.size) (T := 86) (cs := #[.int .u64 va, .bool ya, .bool false, .slice none 0 0]) (size_sets (g := p7) [.slice A' mn c', .slice LA ln lc, .int .i64 tk] 0 w3).symm (by rw [size_sets]; exact h8)
  exact four78 hb hi ht m m'
theorem four_as (hb : Below w2.heap.size w2 w3) (hi : IsI .u64 w3 A' mn ws') (ht : TyA w3 A' mn 42) (E8 : Bk w3 p8 86 #[.int .u64 0, .bool false, .bool false, .slice none 0 0]) (h8 : w2.heap.size ≤ p8) (h7 : w2.heap.size ≤ w3.heap.size) :
    Four w2 LA ln lc tk va ya mn ws' w3.heap.size p8 A' c' (((((w3.setCell ⟨p8, 0, none⟩ (.int .u64 va)).setCell ⟨p8, 1, none⟩ (.bool ya)).setCell ⟨p8, 2, none⟩ (.bool false)).setCell ⟨p8, 3, none⟩ (.slice none 0 0)).alloc (.cells #[.slice A' mn c', .slice LA ln lc, .int .i64 tk] 33)) := by
  have m := mk_store (B := w2.heap.size) (cs := #[.int .u64 va, .bool ya, .bool false, .slice none 0 0]) E8 rfl h8
  have m' := mk_alloc (B := w2.heap.size) (T := 33) (cs := #[.slice A' mn c', .slice LA ln lc, .int .i64 tk]) (size_sets (g := p8) [.int .u64 va, .bool ya, .bool false, .slice none 0 0] 0 w3).symm (by rw [size_sets]; exact h7)
  exact four87 hb hi ht m m'
end
theorem WdH.drew {w : World} {base G : Nat} {TW : TypeId} {h : Hd} {st : St} (H : WdH w base G TW h st) : WdH w.drew base G TW h st := H.below (Below.refl w.heap.size w).drew
/-- What a step has made by itself. -/
structure Loc (w wx : World) (base G p6 p7 p8 : Nat) (TW : TypeId) (LA : Option Addr) (ln lc : Nat) (tk va : Int) (ya : Bool) (mn : Nat) (ws' : List Int) (a : Acc) (A' : Option Addr) (c' : Nat) : Prop where
  hG : base ≤ G
  hGw : G < w.heap.size
  h6 : w.heap.size < p6
  h7 : w.heap.size < p7
  h8 : w.heap.size < p8
  kr : Bk wx w.heap.size 86 #[.int .u64 0, .bool false, .bool false, .slice none 0 0]
  k6 : Bk wx p6 56 #[.int .i64 a.k, .int .i64 a.a, .int .u64 a.o, .int .u64 a.n, .int .i64 0]
  k7 : Bk wx p7 33 #[.slice A' mn c', .slice LA ln lc, .int .i64 tk]
  k8 : Bk wx p8 86 #[.int .u64 va, .bool ya, .bool false, .slice none 0 0]
  ia : IsI .u64 wx A' mn ws'
  ta : TyA wx A' mn 42
  bl : Below base w wx
section
variable {w wx w1 : World} {base G p6 p7 p8 : Nat} {TW : TypeId} {LA : Option Addr} {ln lc : Nat} {tk va : Int} {ya : Bool} {mn : Nat} {ws' : List Int} {a : Acc} {A' : Option Addr} {c' : Nat}
theorem Loc.below (L : Loc w wx base G p6 p7 p8 TW LA ln lc tk va ya mn ws' a A' c') (h : Below wx.heap.size wx w1) (hs : base ≤ wx.heap.size) : Loc w w1 base G p6 p7 p8 TW LA ln lc tk va ya mn ws' a A' c' :=
  ⟨L.hG, L.hGw, L.h6, L.h7, L.h8, L.kr.below h L.kr.lt, L.k6.below h L.k6.lt, L.k7.below h L.k7.lt, L.k8.below h L.k8.lt, L.ia.below h, L.ta.below h, L.bl.trans (h.mono hs)⟩
theorem Loc.push (L : Loc w wx base G p6 p7 p8 TW LA ln lc tk va ya mn ws' a A' c') {e : TypeId} {sz n : Nat} {v : Value} {xs : List Value} {cs : Array Value} (hown : wx.ownsRow base e sz v n xs) (hg : wx.grownBy w1 v.ownBlock) (hbk : Bk w1 G TW cs) (htw : TW ≠ 42)
    (e1 : 86 ≠ e) (e2 : 56 ≠ e) (e3 : 42 ≠ e) (e7 : 33 ≠ e ∨ some p7 ≠ v.ownBlock) (hs : base ≤ wx.heap.size) (i : Nat) (u : Value) : Loc w (w1.setCell ⟨G, i, none⟩ u) base G p6 p7 p8 TW LA ln lc tk va ya mn ws' a A' c' := by
  have kk : ∀ T g ys, T ≠ e → Bk wx g T ys → g ≠ G → Bk (w1.setCell ⟨G, i, none⟩ u) g T ys := fun T g ys h1 h2 h3 => (h2.oth hg (Oth.own hown h1)).far (p := ⟨G, i, none⟩) h3 u
  have ku : Kp wx (w1.setCell ⟨G, i, none⟩ u) 42 := (kp_oth hg (Oth.own hown e3)).trans (kp_set hbk (Ne.symm htw) i u)
  have l6 := L.h6
  have l7 := L.h7
  have l8 := L.h8
  have lG := L.hGw
  refine ⟨L.hG, L.hGw, L.h6, L.h7, L.h8, kk _ _ _ e1 L.kr (by omega), kk _ _ _ e2 L.k6 (by omega), ?_, kk _ _ _ e1 L.k8 (by omega), L.ia.kp L.ta ku, L.ta.kp ku, (L.bl.trans (own_below hown hg (Nat.le_refl _) hs)).setCell L.hG u⟩
  rcases e7 with e7 | e7
  · exact kk _ _ _ e7 L.k7 (by omega)
  · exact (L.k7.grown hg e7).far (p := ⟨G, i, none⟩) (by show p7 ≠ G; omega) u
theorem Loc.sets (L : Loc w wx base G p6 p7 p8 TW LA ln lc tk va ya mn ws' a A' c') {cs : Array Value} (hbk : Bk wx G TW cs) (htw : TW ≠ 42) (vs : List Value) (o : Nat) : Loc w (wx.setCells G o vs) base G p6 p7 p8 TW LA ln lc tk va ya mn ws' a A' c' := by
  have l6 := L.h6
  have l7 := L.h7
  have l8 := L.h8
  have lG := L.hGw
  have ku : Kp wx (wx.setCells G o vs) 42 := kp_sets (Ne.symm htw) vs o hbk
  have kk : ∀ T g ys, Bk wx g T ys → g ≠ G → Bk (wx.setCells G o vs) g T ys := fun T g ys h2 h3 => h2.grown (grown_sets vs o wx) (by simpa using h3)
  exact ⟨L.hG, L.hGw, L.h6, L.h7, L.h8, kk _ _ _ L.kr (by omega), kk _ _ _ L.k6 (by omega), kk _ _ _ L.k7 (by omega), kk _ _ _ L.k8 (by omega), L.ia.kp L.ta ku, L.ta.kp ku, below_setCells vs o L.bl L.hG⟩
end
theorem there_range {w : World} {g o : Nat} {cs : List Value} (h : w.rangeAt g o cs) (hf : ∀ j, w.frozen? ⟨g, j, none⟩ = false) : w.there g o cs.length := fun j hj => by
  have := h j _ (List.getElem?_eq_getElem hj)
  exact ⟨by rw [this]; rfl, hf _⟩
theorem Loc.row {w wx : World} {base G p6 p7 p8 : Nat} {TW : TypeId} {LA : Option Addr} {ln lc : Nat} {tk va : Int} {ya : Bool} {mn : Nat} {ws' : List Int} {a : Acc} {A' : Option Addr} {c' : Nat}
    (L : Loc w wx base G p6 p7 p8 TW LA ln lc tk va ya mn ws' a A' c') {e : TypeId} {sz n m cap g : Nat} {xs : List Value} (hown : wx.ownsRow base e sz (.slice (some ⟨g, 0, none⟩) n cap) m xs)
    (e1 : 86 ≠ e) (e2 : 56 ≠ e) (e3 : 42 ≠ e) (e7 : 33 ≠ e) (o : Nat) (vs : List Value) (hg : base ≤ g) : Loc w (wx.setCells g o vs) base G p6 p7 p8 TW LA ln lc tk va ya mn ws' a A' c' := by
  have kk : ∀ T, T ≠ e → Kp wx (wx.setCells g o vs) T := fun T h1 => kp_own hown h1 o vs
  exact ⟨L.hG, L.hGw, L.h6, L.h7, L.h8, kk _ e1 _ _ L.kr, kk _ e2 _ _ L.k6, kk _ e7 _ _ L.k7, kk _ e1 _ _ L.k8, L.ia.kp L.ta (kk _ e3), L.ta.kp (kk _ e3), below_setCells vs o L.bl hg⟩
theorem WdH.apart {w : World} {base G g : Nat} {TW T : TypeId} {h : Hd} {st : St} {ys : Array Value} (H : WdH w base G TW h st) (k : Bk w g T ys) (hne : G ≠ g) (a1 : 3 ≠ T) (a2 : 42 ≠ T) (a3 : 81 ≠ T) (a4 : 58 ≠ T) (a5 : 33 ≠ T) (a6 : 51 ≠ T ∧ 47 ≠ T) (o : Nat) (vs : List Value) :
    WdH (w.setCells g o vs) base G TW h st := by
  have kk : ∀ T', T' ≠ T → Kp w (w.setCells g o vs) T' := fun T' a => kp_sets a vs o k
  obtain ⟨p1, p2, p3, p4, p5, p6⟩ := H.kps (kk _ a1) (kk _ a2)
  exact ⟨H.tw, H.bk.grown (grown_sets vs o w) (by simpa using hne), H.hG, p1, p2, p3, p4, H.mn, own_kp H.rL (kk _ a3), own_kp H.rT (kk _ a4), own_kp H.rP (kk _ a5), own_kp H.rF (kk _ a6.1), p5, p6, fun hx x hm => kk _ a6.2 _ _ (H.ex hx x hm)⟩
theorem WdH.frozL {w : World} {base G g n c : Nat} {TW : TypeId} {h : Hd} {st : St} (H : WdH w base G TW h st) (hv : h.vL = .slice (some ⟨g, 0, none⟩) n c) : ∀ j, w.frozen? ⟨g, j, none⟩ = false := by
  have hr := H.rL
  rw [hv] at hr
  rcases hr.2 with ⟨h1, _⟩ | ⟨g', c', cur, h1, h2, h3, _⟩
  · cases h1
  · cases h1
    intro j
    exact frozen_of_row w _ j cur _ h3
/-- A machine makes its access. -/
def stS (s : St) (i : Nat) (x : Mc) : St :=
  let a := mnext s.l x
  { s with ws := (mapply s.ws a).1, ms := s.ms.set i (mres s.l x (mapply s.ws a).2.1 (mapply s.ws a).2.2), tr := s.tr ++ [⟨i, a, (mapply s.ws a).2.1, (mapply s.ws a).2.2⟩], pa := s.pa ++ [s.ws] }
set_option maxHeartbeats 10000000 in
set_option maxRecDepth 100000 in
theorem Step_core (w : World) (base G i : Nat) (TW : TypeId) (h : Hd) (st : St) (what at_ ch th : Nat) (ix kd v tt hh ok ov : Int) (a : Acc) (ws' : List Int) (va : Int) (ya : Bool) (x' : Mc) (H : WdH w base G TW h st)
    (hx : st.ms[i]? = some ⟨what, at_, ch, th, ix, kd, v, tt, hh, ok, ov⟩) (hat : at_ ≠ 0) (ht : st.tr.length ≤ 1000000) (hp : h.ps.length ≤ 1000000)
    (hN : ∀ W, Below w.heap.size w W → Calls Tryz.prog 53 #[.agg (Mc.cells h.A h.n h.c h.B h.m h.d st.th ⟨what, at_, ch, th, ix, kd, v, tt, hh, ok, ov⟩)] W fun e w' => e = .returned (.agg (Acc.cells a)) ∧ Below W.heap.size W w')
    (hA : ∀ W, Below w.heap.size w W → Calls Tryz.prog 47 #[.agg #[.slice h.MA h.mn h.mc, .slice h.LA h.ln h.lc, .int .i64 h.tk], .agg (Acc.cells a)] W fun e w' => ∃ A' c', e = .returned (.tuple #[.agg #[.slice A' h.mn c', .slice h.LA h.ln h.lc, .int .i64 h.tk], .agg #[.int .u64 va, .bool ya, .bool false, .slice none 0 0], .bool true]) ∧ IsI .u64 w' A' h.mn ws' ∧ TyA w' A' h.mn 42 ∧ Below W.heap.size W w')
    (hR : ∀ W, Cf W h.A h.n st.l → Calls Tryz.prog 54 #[.agg (Mc.cells h.A h.n h.c h.B h.m h.d st.th ⟨what, at_, ch, th, ix, kd, v, tt, hh, ok, ov⟩), .agg #[.int .u64 va, .bool ya, .bool false, .slice none 0 0]] W fun e w' => e = .returned (.agg (Mc.cells h.A h.n h.c h.B h.m h.d st.th x')) ∧ Below W.heap.size W w') :
    Calls Tryz.prog 35 #[.pointer (some ⟨G, 0, none⟩), .int .i64 i] w fun e w' => e = .returned (.tuple #[.agg #[.int .u64 va, .bool ya, .bool false, .slice none 0 0], .bool true]) ∧ Wd w' base G TW { st with ws := ws', ms := st.ms.set i x', tr := st.tr ++ [⟨i, a, va, ya⟩], pa := st.pa ++ [st.ws] } ∧ Below base w w' := by
  have hi : i < st.ms.length := (List.getElem?_eq_some_iff.1 hx).1
  obtain ⟨gL, cL, eL, hgL⟩ := H.rowL hi
  have bk := H.bk
  rw [Hd.cells, eL] at bk
  have hr := H.rL
  rw [eL] at hr
  have hrg := own_range (mcs_len h st) hr hx
  have hd0 : ((at_ : Int) == 0) = false := by simp; omega
  have d1 : decide ((i : Int) < 0) = false := by simp
  have d2 : decide (st.ms.length ≤ i) = false := by simp; omega
  have hGlt := bk.lt
  have hLlt := (hr.lt gL rfl).2
  have HH := hide H
  have EL := hide eL
  have HX := hide hx
  have HN := hide hN
  have HA := hide hA
  have HR := hide hR
  obtain ⟨k0, k1, k2, k3, k4, k5, k6, k7, k8, k9, kf⟩ := bk10 bk
  obtain ⟨m0, m1, m2, m3, m4, m5, m6, m7, m8, m9, m10, m11, m12, m13⟩ := rg14 hrg
  rw [Mc.cells] at HN HR
  clear H hx hr hrg bk eL hat hN hA hR
  go_enter Tryz.func35, Tryz.ntmps35
  go_wp2_with fail
  refine (HN.out _ (below_new _ _)).mono ?_
  rintro e w1 ⟨rfl, hb⟩
  have h1 := (below_new w (.cells #[.int .u64 0, .bool false, .bool false, .slice none 0 0] 86)).trans (hb.mono (by simp))
  have HB1 := hide (h1.trans ((below_new w1 (.cells (Acc.cells a) 56)).mono h1.size))
  have KR := hide (((Bk.new w 86 #[.int .u64 0, .bool false, .bool false, .slice none 0 0]).below hb (by simp)).alloc (.cells (Acc.cells a) 56))
  have KA := hide (Bk.new w1 56 (Acc.cells a))
  have hlt1 := hide (show w.heap.size < w1.heap.size from by have := hb.size; simp at this; omega)
  clear h1 hb k0 k1 k2 k3 k4 k5 k6 k7 k8 k9 kf m0 m1 m2 m3 m4 m5 m6 m7 m8 m9 m10 m11 m12 m13 HN hd0 d2 d1 hGlt hLlt
  rw [Acc.cells] at HB1 KR KA HA
  rw [Acc.cells]
  go_upto_region 4 with fail
  generalize hw2 : w1.alloc (.cells #[.int .i64 a.k, .int .i64 a.a, .int .u64 a.o, .int .u64 a.n, .int .i64 0] 56) = w2 at *
  clear hw2
  generalize w1.heap.size = p6 at *
  have hz2 := hide KA.out.lt
  have hz3 := HB1.out.size
  go_cut [7, 8, 9] (fun s7 s8 s9 wc => ∃ (p7 p8 : Nat) (A' : Option Addr) (c' : Nat), s7 = .pointer (some ⟨p7, 0, none⟩) ∧ s8 = .pointer (some ⟨p8, 0, none⟩) ∧ s9 = .bool true ∧ Four w2 h.LA h.ln h.lc h.tk va ya h.mn ws' p7 p8 A' c' wc)
  case first =>
    have H2 := hide (HH.out.below HB1.out)
    have bk := H2.out.bk
    rw [Hd.cells] at bk
    obtain ⟨-, -, -, k3, k4, k5, -, -, -, -, kf⟩ := bk10 bk
    obtain ⟨a0, a1, a2, a3, a4, -⟩ := bk5 KA.out
    have HD := hide ((Below.refl w2.heap.size w2).drew)
    clear bk
    have hp6 := KA.out.lt
    have hG2 := H2.out.bk.lt
    have nb0 : G ≠ w2.heap.size := by omega
    have mb0 : w2.heap.size ≠ G := by omega
    have nb1 : G ≠ w2.heap.size + 1 := by omega
    have mb1 : w2.heap.size + 1 ≠ G := by omega
    have nb2 : p6 ≠ w2.heap.size := by omega
    have mb2 : w2.heap.size ≠ p6 := by omega
    have nb3 : p6 ≠ w2.heap.size + 1 := by omega
    have mb3 : w2.heap.size + 1 ≠ p6 := by omega
    have BD0 : Hid (Below w2.heap.size w2 w2.drew) := hide ((Below.refl w2.heap.size w2).drew)
    have BA0 : Hid (Below w.heap.size w w2.drew) := hide (HB1.out.trans (BD0.out.mono HB1.out.size))
    have BD1 : Hid (Below w2.heap.size w2 (w2.alloc (.cells #[.slice none 0 0, .slice none 0 0, .int .i64 0] 33)).drew) := hide (((Below.refl w2.heap.size w2).alloc (by simp <;> omega) _).drew)
    have BA1 : Hid (Below w.heap.size w (w2.alloc (.cells #[.slice none 0 0, .slice none 0 0, .int .i64 0] 33)).drew) := hide (HB1.out.trans (BD1.out.mono HB1.out.size))
    have BE71 : Hid (Bk (w2.alloc (.cells #[.slice none 0 0, .slice none 0 0, .int .i64 0] 33)).drew w2.heap.size 33 #[.slice none 0 0, .slice none 0 0, .int .i64 0]) := hide (by simpa using (Bk.new w2 33 #[.slice none 0 0, .slice none 0 0, .int .i64 0]) : Bk (w2.alloc (.cells #[.slice none 0 0, .slice none 0 0, .int .i64 0] 33)) w2.heap.size 33 #[.slice none 0 0, .slice none 0 0, .int .i64 0])
    have BD2 : Hid (Below w2.heap.size w2 (w2.alloc (.cells #[.int .u64 0, .bool false, .bool false, .slice none 0 0] 86)).drew) := hide (((Below.refl w2.heap.size w2).alloc (by simp <;> omega) _).drew)
    have BA2 : Hid (Below w.heap.size w (w2.alloc (.cells #[.int .u64 0, .bool false, .bool false, .slice none 0 0] 86)).drew) := hide (HB1.out.trans (BD2.out.mono HB1.out.size))
    have BE82 : Hid (Bk (w2.alloc (.cells #[.int .u64 0, .bool false, .bool false, .slice none 0 0] 86)).drew w2.heap.size 86 #[.int .u64 0, .bool false, .bool false, .slice none 0 0]) := hide (by simpa using (Bk.new w2 86 #[.int .u64 0, .bool false, .bool false, .slice none 0 0]) : Bk (w2.alloc (.cells #[.int .u64 0, .bool false, .bool false, .slice none 0 0] 86)) w2.heap.size 86 #[.int .u64 0, .bool false, .bool false, .slice none 0 0])
    have BD3 : Hid (Below w2.heap.size w2 ((w2.alloc (.cells #[.slice none 0 0, .slice none 0 0, .int .i64 0] 33)).alloc (.cells #[.int .u64 0, .bool false, .bool false, .slice none 0 0] 86)).drew) := hide ((((Below.refl w2.heap.size w2).alloc (by simp <;> omega) _).alloc (by simp <;> omega) _).drew)
    have BA3 : Hid (Below w.heap.size w ((w2.alloc (.cells #[.slice none 0 0, .slice none 0 0, .int .i64 0] 33)).alloc (.cells #[.int .u64 0, .bool false, .bool false, .slice none 0 0] 86)).drew) := hide (HB1.out.trans (BD3.out.mono HB1.out.size))
    have BE73 : Hid (Bk ((w2.alloc (.cells #[.slice none 0 0, .slice none 0 0, .int .i64 0] 33)).alloc (.cells #[.int .u64 0, .bool false, .bool false, .slice none 0 0] 86)).drew w2.heap.size 33 #[.slice none 0 0, .slice none 0 0, .int .i64 0]) := hide (by simpa using ((Bk.new w2 33 #[.slice none 0 0, .slice none 0 0, .int .i64 0]).alloc (.cells #[.int .u64 0, .bool false, .bool false, .slice none 0 0] 86)) : Bk ((w2.alloc (.cells #[.slice none 0 0, .slice none 0 0, .int .i64 0] 33)).alloc (.cells #[.int .u64 0, .bool false, .bool false, .slice none 0 0] 86)) w2.heap.size 33 #[.slice none 0 0, .slice none 0 0, .int .i64 0])
    have BE83 : Hid (Bk ((w2.alloc (.cells #[.slice none 0 0, .slice none 0 0, .int .i64 0] 33)).alloc (.cells #[.int .u64 0, .bool false, .bool false, .slice none 0 0] 86)).drew (w2.heap.size + 1) 86 #[.int .u64 0, .bool false, .bool false, .slice none 0 0]) := hide (by simpa using (Bk.new (w2.alloc (.cells #[.slice none 0 0, .slice none 0 0, .int .i64 0] 33)) 86 #[.int .u64 0, .bool false, .bool false, .slice none 0 0]) : Bk ((w2.alloc (.cells #[.slice none 0 0, .slice none 0 0, .int .i64 0] 33)).alloc (.cells #[.int .u64 0, .bool false, .bool false, .slice none 0 0] 86)) (w2.heap.size + 1) 86 #[.int .u64 0, .bool false, .bool false, .slice none 0 0])
    have BD4 : Hid (Below w2.heap.size w2 ((w2.alloc (.cells #[.int .u64 0, .bool false, .bool false, .slice none 0 0] 86)).alloc (.cells #[.slice none 0 0, .slice none 0 0, .int .i64 0] 33)).drew) := hide ((((Below.refl w2.heap.size w2).alloc (by simp <;> omega) _).alloc (by simp <;> omega) _).drew)
    have BA4 : Hid (Below w.heap.size w ((w2.alloc (.cells #[.int .u64 0, .bool false, .bool false, .slice none 0 0] 86)).alloc (.cells #[.slice none 0 0, .slice none 0 0, .int .i64 0] 33)).drew) := hide (HB1.out.trans (BD4.out.mono HB1.out.size))
    have BE84 : Hid (Bk ((w2.alloc (.cells #[.int .u64 0, .bool false, .bool false, .slice none 0 0] 86)).alloc (.cells #[.slice none 0 0, .slice none 0 0, .int .i64 0] 33)).drew w2.heap.size 86 #[.int .u64 0, .bool false, .bool false, .slice none 0 0]) := hide (by simpa using ((Bk.new w2 86 #[.int .u64 0, .bool false, .bool false, .slice none 0 0]).alloc (.cells #[.slice none 0 0, .slice none 0 0, .int .i64 0] 33)) : Bk ((w2.alloc (.cells #[.int .u64 0, .bool false, .bool false, .slice none 0 0] 86)).alloc (.cells #[.slice none 0 0, .slice none 0 0, .int .i64 0] 33)) w2.heap.size 86 #[.int .u64 0, .bool false, .bool false, .slice none 0 0])
    have BE74 : Hid (Bk ((w2.alloc (.cells #[.int .u64 0, .bool false, .bool false, .slice none 0 0] 86)).alloc (.cells #[.slice none 0 0, .slice none 0 0, .int .i64 0] 33)).drew (w2.heap.size + 1) 33 #[.slice none 0 0, .slice none 0 0, .int .i64 0]) := hide (by simpa using (Bk.new (w2.alloc (.cells #[.int .u64 0, .bool false, .bool false, .slice none 0 0] 86)) 33 #[.slice none 0 0, .slice none 0 0, .int .i64 0]) : Bk ((w2.alloc (.cells #[.int .u64 0, .bool false, .bool false, .slice none 0 0] 86)).alloc (.cells #[.slice none 0 0, .slice none 0 0, .int .i64 0] 33)) (w2.heap.size + 1) 33 #[.slice none 0 0, .slice none 0 0, .int .i64 0])
    go_region_held3 (fun u => u.cell? ⟨G, 3, none⟩ = some (.slice h.MA h.mn h.mc) ∧ u.cell? ⟨G, 4, none⟩ = some (.slice h.LA h.ln h.lc) ∧ u.cell? ⟨G, 5, none⟩ = some (.int .i64 h.tk) ∧ u.cell? ⟨p6, 0, none⟩ = some (.int .i64 a.k) ∧ u.cell? ⟨p6, 1, none⟩ = some (.int .i64 a.a) ∧ u.cell? ⟨p6, 2, none⟩ = some (.int .u64 a.o) ∧ u.cell? ⟨p6, 3, none⟩ = some (.int .u64 a.n) ∧ u.cell? ⟨p6, 4, none⟩ = some (.int .i64 0)) (go_keep) (first
      | (with_reducible refine Calls.mono (HA.out _ BA0.out) ?_; rintro e w3 ⟨A', c', rfl, hi', hty', hb3⟩; have HB3 := hide (BD0.out.trans (hb3.mono (by simp <;> omega))); have HI := hide hi'; have HT := hide hty'; have hs3 := HB3.out.size; have nc0 : G ≠ w3.heap.size := (by omega); have mc0 : w3.heap.size ≠ G := (by omega); have nc1 : G ≠ w3.heap.size + 1 := (by omega); have mc1 : w3.heap.size + 1 ≠ G := (by omega); have nc2 : p6 ≠ w3.heap.size := (by omega); have mc2 : w3.heap.size ≠ p6 := (by omega); have nc3 : p6 ≠ w3.heap.size + 1 := (by omega); have mc3 : w3.heap.size + 1 ≠ p6 := (by omega); have H3 := HH.out.below (HB1.out.trans (HB3.out.mono HB1.out.size)); have bk3 := H3.bk; rw [Hd.cells] at bk3; obtain ⟨-, -, -, k3, k4, k5, -, -, -, -, kf⟩ := bk10 bk3; obtain ⟨a0, a1, a2, a3, a4, -⟩ := bk5 (KA.out.below HB3.out KA.out.lt); clear hi' hty' hb3 H3 bk3)
      | (with_reducible refine Calls.mono (HA.out _ BA1.out) ?_; rintro e w3 ⟨A', c', rfl, hi', hty', hb3⟩; have E7 := hide (BE71.out.below hb3 (by simp <;> omega)); obtain ⟨e0, e1, e2, ef⟩ := bkm3 E7.out; have hq7 := E7.out.lt; have HB3 := hide (BD1.out.trans (hb3.mono (by simp <;> omega))); have HI := hide hi'; have HT := hide hty'; have hs3 := HB3.out.size; have nc0 : G ≠ w3.heap.size := (by omega); have mc0 : w3.heap.size ≠ G := (by omega); have nc1 : G ≠ w3.heap.size + 1 := (by omega); have mc1 : w3.heap.size + 1 ≠ G := (by omega); have nc2 : p6 ≠ w3.heap.size := (by omega); have mc2 : w3.heap.size ≠ p6 := (by omega); have nc3 : p6 ≠ w3.heap.size + 1 := (by omega); have mc3 : w3.heap.size + 1 ≠ p6 := (by omega); have H3 := HH.out.below (HB1.out.trans (HB3.out.mono HB1.out.size)); have bk3 := H3.bk; rw [Hd.cells] at bk3; obtain ⟨-, -, -, k3, k4, k5, -, -, -, -, kf⟩ := bk10 bk3; obtain ⟨a0, a1, a2, a3, a4, -⟩ := bk5 (KA.out.below HB3.out KA.out.lt); clear hi' hty' hb3 H3 bk3)
      | (with_reducible refine Calls.mono (HA.out _ BA2.out) ?_; rintro e w3 ⟨A', c', rfl, hi', hty', hb3⟩; have E8 := hide (BE82.out.below hb3 (by simp <;> omega)); obtain ⟨j0, j1, j2, j3, jf⟩ := bk4 E8.out; have hq8 := E8.out.lt; have HB3 := hide (BD2.out.trans (hb3.mono (by simp <;> omega))); have HI := hide hi'; have HT := hide hty'; have hs3 := HB3.out.size; have nc0 : G ≠ w3.heap.size := (by omega); have mc0 : w3.heap.size ≠ G := (by omega); have nc1 : G ≠ w3.heap.size + 1 := (by omega); have mc1 : w3.heap.size + 1 ≠ G := (by omega); have nc2 : p6 ≠ w3.heap.size := (by omega); have mc2 : w3.heap.size ≠ p6 := (by omega); have nc3 : p6 ≠ w3.heap.size + 1 := (by omega); have mc3 : w3.heap.size + 1 ≠ p6 := (by omega); have H3 := HH.out.below (HB1.out.trans (HB3.out.mono HB1.out.size)); have bk3 := H3.bk; rw [Hd.cells] at bk3; obtain ⟨-, -, -, k3, k4, k5, -, -, -, -, kf⟩ := bk10 bk3; obtain ⟨a0, a1, a2, a3, a4, -⟩ := bk5 (KA.out.below HB3.out KA.out.lt); clear hi' hty' hb3 H3 bk3)
      | (with_reducible refine Calls.mono (HA.out _ BA3.out) ?_; rintro e w3 ⟨A', c', rfl, hi', hty', hb3⟩; have E7 := hide (BE73.out.below hb3 (by simp <;> omega)); obtain ⟨e0, e1, e2, ef⟩ := bkm3 E7.out; have hq7 := E7.out.lt; have E8 := hide (BE83.out.below hb3 (by simp <;> omega)); obtain ⟨j0, j1, j2, j3, jf⟩ := bk4 E8.out; have hq8 := E8.out.lt; have HB3 := hide (BD3.out.trans (hb3.mono (by simp <;> omega))); have HI := hide hi'; have HT := hide hty'; have hs3 := HB3.out.size; have nc0 : G ≠ w3.heap.size := (by omega); have mc0 : w3.heap.size ≠ G := (by omega); have nc1 : G ≠ w3.heap.size + 1 := (by omega); have mc1 : w3.heap.size + 1 ≠ G := (by omega); have nc2 : p6 ≠ w3.heap.size := (by omega); have mc2 : w3.heap.size ≠ p6 := (by omega); have nc3 : p6 ≠ w3.heap.size + 1 := (by omega); have mc3 : w3.heap.size + 1 ≠ p6 := (by omega); have H3 := HH.out.below (HB1.out.trans (HB3.out.mono HB1.out.size)); have bk3 := H3.bk; rw [Hd.cells] at bk3; obtain ⟨-, -, -, k3, k4, k5, -, -, -, -, kf⟩ := bk10 bk3; obtain ⟨a0, a1, a2, a3, a4, -⟩ := bk5 (KA.out.below HB3.out KA.out.lt); clear hi' hty' hb3 H3 bk3)
      | (with_reducible refine Calls.mono (HA.out _ BA4.out) ?_; rintro e w3 ⟨A', c', rfl, hi', hty', hb3⟩; have E8 := hide (BE84.out.below hb3 (by simp <;> omega)); obtain ⟨j0, j1, j2, j3, jf⟩ := bk4 E8.out; have hq8 := E8.out.lt; have E7 := hide (BE74.out.below hb3 (by simp <;> omega)); obtain ⟨e0, e1, e2, ef⟩ := bkm3 E7.out; have hq7 := E7.out.lt; have HB3 := hide (BD4.out.trans (hb3.mono (by simp <;> omega))); have HI := hide hi'; have HT := hide hty'; have hs3 := HB3.out.size; have nc0 : G ≠ w3.heap.size := (by omega); have mc0 : w3.heap.size ≠ G := (by omega); have nc1 : G ≠ w3.heap.size + 1 := (by omega); have mc1 : w3.heap.size + 1 ≠ G := (by omega); have nc2 : p6 ≠ w3.heap.size := (by omega); have mc2 : w3.heap.size ≠ p6 := (by omega); have nc3 : p6 ≠ w3.heap.size + 1 := (by omega); have mc3 : w3.heap.size + 1 ≠ p6 := (by omega); have H3 := HH.out.below (HB1.out.trans (HB3.out.mono HB1.out.size)); have bk3 := H3.bk; rw [Hd.cells] at bk3; obtain ⟨-, -, -, k3, k4, k5, -, -, -, -, kf⟩ := bk10 bk3; obtain ⟨a0, a1, a2, a3, a4, -⟩ := bk5 (KA.out.below HB3.out KA.out.lt); clear hi' hty' hb3 H3 bk3))
    · go_wp2_with fail
      go_meet
      case rel => exact ⟨_, _, A', c', rfl, rfl, rfl, four78 HB3.out HI.out HT.out (mk_alloc rfl hs3) (mk_alloc (by simp) (by simp; omega))⟩
    · go_wp2_with fail
      go_meet
      case rel => exact ⟨_, _, A', c', rfl, rfl, rfl, four87 HB3.out HI.out HT.out (mk_alloc rfl hs3) (mk_alloc (by simp) (by simp; omega))⟩
    · go_wp2_with fail
      go_meet
      case rel => exact ⟨_, _, A', c', rfl, rfl, rfl, four_sa HB3.out HI.out HT.out E7.out (by omega) hs3⟩
    · go_wp2_with fail
      go_meet
      case rel => exact ⟨_, _, A', c', rfl, rfl, rfl, four_ss HB3.out HI.out HT.out E7.out E8.out (by omega) (by omega)⟩
    · go_wp2_with fail
      go_meet
      case rel => exact ⟨_, _, A', c', rfl, rfl, rfl, four_as HB3.out HI.out HT.out E8.out (by omega) hs3⟩
    · go_wp2_with fail
      go_meet
      case rel => exact ⟨_, _, A', c', rfl, rfl, rfl, four_ss HB3.out HI.out HT.out E7.out E8.out (by omega) (by omega)⟩
  case rest =>
    obtain ⟨p7, p8, A', c', rfl, rfl, rfl, m7, m8, mi, mt, mb, hp7, hp8⟩ := hcut
    have hb4 := HB1.out.trans (mb.mono HB1.out.size)
    have H4 := hide (HH.out.below hb4)
    have hGw := HH.out.bk.lt
    have L4 : Hid (Loc w wc base G p6 p7 p8 TW h.LA h.ln h.lc h.tk va ya h.mn ws' a A' c') := hide ⟨HH.out.hG, hGw, hlt1.out, (by have := hz2.out; have := hlt1.out; omega), (by have := hz2.out; have := hlt1.out; omega), KR.out.below mb KR.out.lt, KA.out.below mb KA.out.lt, m7, m8, mi, mt, hb4.mono HH.out.base_le⟩
    have hvP := hide (fun k hk => Nat.lt_of_lt_of_le ((HH.out.below HB1.out).rP.lt k hk).2 hp7)
    have hvT : st.tr.length ≤ 1073741824 := by omega
    have hvP2 : h.ps.length ≤ 1073741824 := by omega
    clear m7 m8 mi mt mb hp7 hp8 hb4 HB1 KR KA hlt1 hz2 hz3 HA hGw ht hp
    go_upto_region 7 with fail
    go_cut [] (fun wx => ∃ vT', WdH wx base G TW { h with vT := vT' } { st with tr := st.tr ++ [⟨i, a, va, ya⟩] } ∧ Loc w wx base G p6 p7 p8 TW h.LA h.ln h.lc h.tk va ya h.mn ws' a A' c')
    case first =>
      have bk := H4.out.bk
      rw [Hd.cells] at bk
      obtain ⟨-, -, -, -, -, -, -, k7, -, -, kf⟩ := bk10 bk
      obtain ⟨a0, a1, a2, a3, a4, -⟩ := bk5 L4.out.k6
      obtain ⟨q0, q1, q2, q3, -⟩ := bk4 L4.out.k8
      have IT := hide (fun W => mitem_any W (i : Int) a va ya false none 0 0)
      rw [Acc.cells] at IT
      have hbs := H4.out.base_le
      obtain ⟨i0, hi0, hz0, hz1, hz2⟩ := info_parts Tryz.it_inf
      clear bk
      go_region_law (first
        | (refine step_call _ (by rfl) 49 _ (by go_simp) (IT.out _) ?_; rintro e w3 ⟨rfl, hb3⟩; refine ⟨_, rfl, ?_⟩; have hb3 := (Below.refl wc.heap.size wc).drew.trans hb3; have H5 := hide (H4.out.below hb3); have L5 := hide (L4.out.below hb3 hbs); have bk3 := H5.out.bk; rw [Hd.cells] at bk3; obtain ⟨-, -, -, -, -, -, -, k7', -, -, kf'⟩ := bk10 bk3; have hlt3 := bk3.lt; have hbs3 := H5.out.base_le; clear hb3 bk3)
        | (refine step_push3 (w3.alloc (.cells (It.cells ⟨i, a, va, ya⟩).toArray 58)) (by rfl) (.tmp 58) (.tmp 63) _ (by rfl) base 58 i0 _ 8 64 Tryz.underlying35 hi0 hz0 hz1 hz2 (by rfl) (by decide) _ _ _ (by rfl) (H5.out.alloc _).rT (It.cells ⟨i, a, va, ya⟩) ⟨w3.heap.size, 0, none⟩ (by rfl) (cells_new w3 _ _) (by rfl) (by simp [It.cells, Value.oneCell']) hvT (by omega) (by simp; omega) ?_; intro v4 w4 hown4 hg4 hv4; obtain ⟨A4, C4, rfl, -⟩ := own_form hown4; have bk5' := (H5.out.alloc (.cells (It.cells ⟨i, a, va, ya⟩).toArray 58)).bk.oth hg4 (Oth.own (H5.out.alloc _).rT H5.out.tw.2.2.2.1); have BK4 := hide bk5'; rw [Hd.cells] at bk5'; obtain ⟨-, -, -, -, -, -, -, y7, -, -, yf⟩ := bk10 bk5'; clear bk5'))
      all_goals
        go_wp2_with fail
        go_meet
        case rel => exact ⟨_, (H5.out.alloc _).pushT ⟨i, a, va, ya⟩ _ hown4 hg4, (L5.out.below (below_new _ _) hbs3).push (H5.out.alloc _).rT hg4 BK4.out H5.out.tw.2.1 (by decide) (by decide) (by decide) (Or.inl (by decide)) (by simp; omega) 7 _⟩
    case rest =>
      obtain ⟨vT', h5, l5⟩ := hcut
      have H5 := hide h5
      have L5 := hide l5
      have hvP3 := hide (show some p7 ≠ h.vP.ownBlock from fun e => Nat.lt_irrefl _ (hvP.out p7 e.symm))
      clear h5 l5 H4 L4 hvP
      go_upto_region 8 with fail
      go_cut [] (fun wx => ∃ vT' vP' ps', WdH wx base G TW { h with vT := vT', vP := vP', ps := ps' } { st with tr := st.tr ++ [⟨i, a, va, ya⟩], pa := st.pa ++ [st.ws] } ∧ Loc w wx base G p6 p7 p8 TW h.LA h.ln h.lc h.tk va ya h.mn ws' a A' c')
      case first =>
        have bk := H5.out.bk
        rw [Hd.cells] at bk
        have bk0 := hide bk
        obtain ⟨-, -, -, k3, k4, k5, -, -, k8, -, kf⟩ := bk10 bk
        have hbs := H5.out.base_le
        have hGl := bk.lt
        obtain ⟨i0, hi0, hz0, hz1, hz2⟩ := info_parts Tryz.me_inf
        have HP := hide (show Pm wc #[.slice h.MA h.mn h.mc, .slice h.LA h.ln h.lc, .int .i64 h.tk] st.ws from ⟨_, _, _, _, _, _, _, rfl, H5.out.mi, H5.out.mty, H5.out.mn⟩)
        clear bk
        go_region_law (first
          | (refine step_push3 ((wc.drew).alloc (.cells #[.slice h.MA h.mn h.mc, .slice h.LA h.ln h.lc, .int .i64 h.tk] 33)) (by rfl) (.tmp 71) (.tmp 76) _ (by rfl) base 33 i0 _ 3 56 Tryz.underlying26 hi0 hz0 hz1 hz2 (by rfl) (by decide) _ _ _ (by rfl) ((H5.out.drew).alloc _).rP [.slice h.MA h.mn h.mc, .slice h.LA h.ln h.lc, .int .i64 h.tk] ⟨wc.heap.size, 0, none⟩ (by rfl) (cells_new (wc.drew) _ _) (by rfl) (by simp [Value.oneCell']) hvP2 (by omega) (by simp; omega) ?_; intro v4 w4 hown4 hg4 hv4; obtain ⟨A4, C4, rfl, -⟩ := own_form hown4; have bk5' := ((H5.out.drew).alloc (.cells #[.slice h.MA h.mn h.mc, .slice h.LA h.ln h.lc, .int .i64 h.tk] 33)).bk.oth hg4 (Oth.own ((H5.out.drew).alloc _).rP H5.out.tw.2.2.2.2.1); have BK4 := hide bk5'; rw [Hd.cells] at bk5'; obtain ⟨-, -, -, -, -, -, -, -, y8, -, yf⟩ := bk10 bk5'; clear bk5'))
        all_goals
          go_wp2_with fail
          go_meet
          case rel => exact ⟨_, _, _, ((H5.out.drew).alloc _).pushP _ _ ((HP.out.below (Below.refl wc.heap.size wc).drew).below (below_new _ _)) _ hown4 hg4, ((L5.out.below (Below.refl wc.heap.size wc).drew hbs).below (below_new _ _) hbs).push ((H5.out.drew).alloc _).rP hg4 BK4.out H5.out.tw.2.1 (by decide) (by decide) (by decide) (Or.inr hvP3.out) (by simp; omega) 8 _⟩
      case rest =>
        obtain ⟨vT2, vP2, ps2, h6, l6⟩ := hcut
        have H6 := hide h6
        have L6 := hide l6
        clear h6 l6 H5 L5 hvP3
        have bk := H6.out.bk
        rw [Hd.cells] at bk
        obtain ⟨-, -, -, k3, k4, k5, -, -, -, -, kf⟩ := bk10 bk
        obtain ⟨e0, e1, e2, -⟩ := bkm3 L6.out.k7
        have hGl := bk.lt
        have h7l := L6.out.k7.lt
        have hGn : p7 ≠ G := (by have := L6.out.h7; have := L6.out.hGw; omega)
        clear bk
        go_upto_region 10 with fail
        have H7 := hide (H6.out.setM A' c' ws' L6.out.ia L6.out.ta)
        have L7 := hide (L6.out.sets H6.out.bk H6.out.tw.2.1 [.slice A' h.mn c', .slice h.LA h.ln h.lc, .int .i64 h.tk] 3)
        clear k3 k4 k5 kf e0 e1 e2 hGl h7l hGn H6 L6
        change Code.wp _ _ _ _ (wc.setCells G 3 [.slice A' h.mn c', .slice h.LA h.ln h.lc, .int .i64 h.tk])
        generalize wc.setCells G 3 [.slice A' h.mn c', .slice h.LA h.ln h.lc, .int .i64 h.tk] = wz at *
        have hr := H7.out.rL
        dsimp only at hr
        rw [EL.out] at hr
        have hrg := own_range (mcs_len _ _) hr HX.out
        have HRG := hide hrg
        have bk := H7.out.bk
        rw [Hd.cells] at bk
        dsimp only at bk
        rw [EL.out] at bk
        have HB := hide bk
        have k6 := fun (u : Up wz) => (bk10 (HB.out.below u.2 HB.out.lt)).2.2.2.2.2.2.1
        have m0 := fun (u : Up wz) => (rg14 (rangeAt_below HRG.out u.2)).1
        have m1 := fun (u : Up wz) => (rg14 (rangeAt_below HRG.out u.2)).2.1
        have m2 := fun (u : Up wz) => (rg14 (rangeAt_below HRG.out u.2)).2.2.1
        have m3 := fun (u : Up wz) => (rg14 (rangeAt_below HRG.out u.2)).2.2.2.1
        have m4 := fun (u : Up wz) => (rg14 (rangeAt_below HRG.out u.2)).2.2.2.2.1
        have m5 := fun (u : Up wz) => (rg14 (rangeAt_below HRG.out u.2)).2.2.2.2.2.1
        have m6 := fun (u : Up wz) => (rg14 (rangeAt_below HRG.out u.2)).2.2.2.2.2.2.1
        have m7 := fun (u : Up wz) => (rg14 (rangeAt_below HRG.out u.2)).2.2.2.2.2.2.2.1
        have m8 := fun (u : Up wz) => (rg14 (rangeAt_below HRG.out u.2)).2.2.2.2.2.2.2.2.1
        have m9 := fun (u : Up wz) => (rg14 (rangeAt_below HRG.out u.2)).2.2.2.2.2.2.2.2.2.1
        have m10 := fun (u : Up wz) => (rg14 (rangeAt_below HRG.out u.2)).2.2.2.2.2.2.2.2.2.2.1
        have m11 := fun (u : Up wz) => (rg14 (rangeAt_below HRG.out u.2)).2.2.2.2.2.2.2.2.2.2.2.1
        have m12 := fun (u : Up wz) => (rg14 (rangeAt_below HRG.out u.2)).2.2.2.2.2.2.2.2.2.2.2.2.1
        have m13 := fun (u : Up wz) => (rg14 (rangeAt_below HRG.out u.2)).2.2.2.2.2.2.2.2.2.2.2.2.2
        have q0 := fun (u : Up wz) => (bk4 (L7.out.k8.below u.2 L7.out.k8.lt)).1
        have q1 := fun (u : Up wz) => (bk4 (L7.out.k8.below u.2 L7.out.k8.lt)).2.1
        have q2 := fun (u : Up wz) => (bk4 (L7.out.k8.below u.2 L7.out.k8.lt)).2.2.1
        have q3 := fun (u : Up wz) => (bk4 (L7.out.k8.below u.2 L7.out.k8.lt)).2.2.2.1
        have HS := hide (fun (u : Up wz) => HR.out u.1 (H7.out.cf.below u.2))
        have d1 : decide ((i : Int) < 0) = false := by simp
        have d2 : decide (st.ms.length ≤ i) = false := by simp; omega
        clear bk hr hrg HB HR
        refine wp_region_up_tail 14 (by kernel_rfl) (by kernel_rfl) ?_
        simp only [List.take_succ_cons, List.take_zero, List.drop_succ_cons, List.drop_zero]
        repeat (go_big_quiet_step (first
          | (go_at_call 54; exact up_call (HS.out _))))
        refine wpQuiet_nil ?_
        intro u
        have H8 := hide (H7.out.below u.2)
        have L8 := hide (L7.out.below u.2 H7.out.base_le)
        have HR8 := hide (rangeAt_below HRG.out u.2)
        clear k6 m0 m1 m2 m3 m4 m5 m6 m7 m8 m9 m10 m11 m12 m13 q0 q1 q2 q3 HS H7 L7 HRG
        generalize u.1 = w5 at *
        clear u
        refine wpList_plain (by rfl) fun K hK => ?_
        go_simp
        refine hK _ _ ?_
        clear hK
        refine wpList_store_mid (by rfl) 81 (.tmp 98) (.tmp 97) (by rfl) gL (i * 14) (Mc.cells h.A h.n h.c h.B h.m h.d st.th x') (by rfl) (by rfl) ?_ Tryz.mc_inf (mc_one _ _ _ _ _ _ _ _) ?_
        · exact there_range (cs := (Mc.cells h.A h.n h.c h.B h.m h.d st.th ⟨what, at_, ch, th, ix, kd, v, tt, hh, ok, ov⟩).toList) HR8.out (H8.out.frozL EL.out)
        have hr := H8.out.rL
        dsimp only at hr
        rw [EL.out] at hr
        have H9 := hide (H8.out.setX EL.out i hi x')
        have L9 := hide (L8.out.row hr (by decide) (by decide) (by decide) (by decide) (i * 14) (Mc.cells h.A h.n h.c h.B h.m h.d st.th x').toList hgL)
        clear hr H8 L8 HR8
        change wpList _ _ _ _ _ (w5.setCells gL (i * 14) (Mc.cells h.A h.n h.c h.B h.m h.d st.th x').toList)
        have H9' : Hid (WdH (w5.setCells gL (i * 14) (Mc.cells h.A h.n h.c h.B h.m h.d st.th x').toList) base G TW _ _) := H9
        clear H9
        generalize w5.setCells gL (i * 14) (Mc.cells h.A h.n h.c h.B h.m h.d st.th x').toList = w6 at *
        obtain ⟨q0, q1, q2, q3, -⟩ := bk4 L9.out.k8
        obtain ⟨r0, r1, r2, r3, rf⟩ := bk4 L9.out.kr
        have hN8 : p8 ≠ w.heap.size := (by have := L9.out.h8; omega)
        have hN9 : w.heap.size ≠ p8 := (by have := L9.out.h8; omega)
        go_wp2
        have HZ : (((w6.setCell ⟨w.heap.size, 0, none⟩ (.int .u64 va)).setCell ⟨w.heap.size, 1, none⟩ (.bool ya)).setCell ⟨w.heap.size, 2, none⟩ (.bool false)).setCell ⟨w.heap.size, 3, none⟩ (.slice none 0 0) = w6.setCells w.heap.size 0 [.int .u64 va, .bool ya, .bool false, .slice none 0 0] := rfl
        refine bodyPost_ret (v := .tuple #[.agg #[.int .u64 va, .bool ya, .bool false, .slice none 0 0], .bool true]) (by simp [results, Tryz.results35, go_sem, r0, r1, r2, r3]) rfl ?_
        rw [HZ]
        refine ⟨rfl, ⟨_, H9'.out.apart L9.out.kr (by have := L9.out.hGw; omega) (by decide) (by decide) (by decide) (by decide) (by decide) (by decide) 0 _⟩, below_setCells _ 0 L9.out.bl (by have := L9.out.hG; have := L9.out.hGw; omega)⟩
end Go.Proofs.YtepngbdjobckbaaGreat
