/- The walk of LayoutChecks: what is known of y while it is made. -/
import Derived.Test.YtcaencocmfkfaaaJ3
import Derived.Test.YtcaencocmfkfaaaG6
namespace Go.Proofs.Ytcaencocmfkfaaa
open Go.RowKit
set_option linter.unusedVariables false
set_option linter.unusedSimpArgs false
/-- y lies in its box, with the slices v1 and v2; the rows u1 and u2 are its own. -/
structure Yw (X : World → Prop) (W : World) (base gC gY : Nat) (v1 v2 u1 u2 : Value) (l s : List Int) (t : Int) (r : List Int) : Prop where
  rws : Rws W base (cfgV u1 u2 l s)
  y : Bk W gY 25 #[v1, v2, .int .i64 t]
  cd : Cd W gC r 0
  x : X W
  hb : base ≤ W.heap.size
  lt : gC < gY ∧ gY < base
  xb : ∀ W W', X W → base ≤ W.heap.size → Below base W W' → X W'
  xg : ∀ W W', X W → W.grownBy W' (some gC) → X W'
  xy : ∀ W W', X W → W.grownBy W' (some gY) → X W'
theorem own_typ {w : World} {base : Nat} {e : TypeId} {sz n g : Nat} {v : Value} {xs : List Value} (h : w.ownsRow base e sz v n xs) (hg : v.ownBlock = some g) : ∃ cs, Bk w g e cs := by
  rcases h.2 with ⟨rfl, -⟩ | ⟨g', cap, cur, rfl, -, h3, -⟩
  · cases hg
  · injection hg with hg
    subst hg
    exact ⟨_, h3⟩
theorem bk_typ {w : World} {g : Nat} {t t' : TypeId} {xs ys : Array Value} (h : Bk w g t xs) (k : Bk w g t' ys) : t = t' := by
  unfold Bk at h k
  rw [h] at k
  simp at k
  exact k.2
section
variable {X : World → Prop} {W W4 : World} {base gC gY : Nat} {v1 v2 u1 u2 v4 : Value} {l s r r' : List Int} {t : Int}
theorem Yw.below (H : Yw X W base gC gY v1 v2 u1 u2 l s t r) (hb : Below W.heap.size W W4) : Yw X W4 base gC gY v1 v2 u1 u2 l s t r :=
  ⟨H.rws.below hb, H.y.below hb H.y.lt, Cd.below H.cd hb, H.xb _ _ H.x H.hb (hb.mono H.hb), Nat.le_trans H.hb hb.size, H.lt, H.xb, H.xg, H.xy⟩
theorem Yw.next (H : Yw X W base gC gY v1 v2 u1 u2 l s t r) (hg : W.grownBy W4 (some gC)) (hc : Cd W4 gC r' 0) : Yw X W4 base gC gY v1 v2 u1 u2 l s t r' :=
  ⟨H.rws.far hg (by have := H.lt; omega), H.y.grown hg (by intro e; injection e with e; have := H.lt; omega), hc, H.xg _ _ H.x hg, Nat.le_trans H.hb hg.size, H.lt, H.xb, H.xg, H.xy⟩
theorem Yw.cat1 {l' : List Int} (H : Yw X W base gC gY v1 v2 u1 u2 l s t r) (hown : W4.ownsRow base 3 1 v4 (l ++ l').length ((l ++ l').map (Value.int .i64))) (hg : W.grownBy W4 u1.ownBlock) (hv : v4.ownBlock = u1.ownBlock ∨ ∃ q, v4.ownBlock = some q ∧ W.heap.size ≤ q) :
    Yw X W4 base gC gY v1 v2 v4 u2 (l ++ l') s t r := by
  have hb4 : Below base W W4 := own_below (H.rws.at_ 0 (Nat.succ_pos _)) hg (Nat.le_refl _) H.hb
  have hr4 := H.rws.upd 0 (Nat.succ_pos _) ⟨v4, 3, 1, (l ++ l').length, (l ++ l').map (Value.int .i64)⟩ hown hg hv
  exact ⟨hr4, H.y.below hb4 H.lt.2, Cd.belowB H.cd hb4 (by have := H.lt; omega), H.xb _ _ H.x H.hb hb4, Nat.le_trans H.hb hb4.size, H.lt, H.xb, H.xg, H.xy⟩
theorem Yw.push1 {a : Int} (H : Yw X W base gC gY v1 v2 u1 u2 l s t r) (hown : W4.ownsRow base 3 1 v4 (l.length + 1) (l.map (Value.int .i64) ++ [.int .i64 a])) (hg : W.grownBy W4 u1.ownBlock) (hv : v4.ownBlock = u1.ownBlock ∨ ∃ q, v4.ownBlock = some q ∧ W.heap.size ≤ q) :
    Yw X W4 base gC gY v1 v2 v4 u2 (l ++ [a]) s t r :=
  H.cat1 (by simpa using hown) hg hv
theorem Yw.cat2 {l' : List Int} (H : Yw X W base gC gY v1 v2 u1 u2 l s t r) (hown : W4.ownsRow base 33 1 v4 (s ++ l').length ((s ++ l').map (Value.int .u64))) (hg : W.grownBy W4 u2.ownBlock) (hv : v4.ownBlock = u2.ownBlock ∨ ∃ q, v4.ownBlock = some q ∧ W.heap.size ≤ q) :
    Yw X W4 base gC gY v1 v2 u1 v4 l (s ++ l') t r := by
  have hb4 : Below base W W4 := own_below (H.rws.at_ 1 (Nat.succ_lt_succ (Nat.succ_pos _))) hg (Nat.le_refl _) H.hb
  have hr4 := H.rws.upd 1 (Nat.succ_lt_succ (Nat.succ_pos _)) ⟨v4, 33, 1, (s ++ l').length, (s ++ l').map (Value.int .u64)⟩ hown hg hv
  exact ⟨hr4, H.y.below hb4 H.lt.2, Cd.belowB H.cd hb4 (by have := H.lt; omega), H.xb _ _ H.x H.hb hb4, Nat.le_trans H.hb hb4.size, H.lt, H.xb, H.xg, H.xy⟩
theorem Yw.push2 {a : Int} (H : Yw X W base gC gY v1 v2 u1 u2 l s t r) (hown : W4.ownsRow base 33 1 v4 (s.length + 1) (s.map (Value.int .u64) ++ [.int .u64 a])) (hg : W.grownBy W4 u2.ownBlock) (hv : v4.ownBlock = u2.ownBlock ∨ ∃ q, v4.ownBlock = some q ∧ W.heap.size ≤ q) :
    Yw X W4 base gC gY v1 v2 u1 v4 l (s ++ [a]) t r :=
  H.cat2 (by simpa using hown) hg hv
theorem Yw.el2 {g : Nat} {xs : Array Value} (H : Yw X W base gC gY v1 v2 u1 u2 l s t r) (k : Bk W g 33 xs) (hg : W.grownBy W4 u1.ownBlock) : Bk W4 g 33 xs :=
  k.grown hg (fun e => by
    obtain ⟨cs, k2⟩ := own_typ (H.rws.at_ 0 (Nat.succ_pos _)) e.symm
    exact absurd (bk_typ k k2) (by show ¬ 33 = 3; decide))
theorem Yw.el1 {g : Nat} {xs : Array Value} (H : Yw X W base gC gY v1 v2 u1 u2 l s t r) (k : Bk W g 3 xs) (hg : W.grownBy W4 u2.ownBlock) : Bk W4 g 3 xs :=
  k.grown hg (fun e => by
    obtain ⟨cs, k2⟩ := own_typ (H.rws.at_ 1 (Nat.succ_lt_succ (Nat.succ_pos _))) e.symm
    exact absurd (bk_typ k k2) (by show ¬ 3 = 33; decide))
theorem Yw.elN {g : Nat} {ty : TypeId} {xs : Array Value} (H : Yw X W base gC gY v1 v2 u1 u2 l s t r) (k : Bk W g ty xs) (hg : W.grownBy W4 (some gC)) (hne : gC < g) : Bk W4 g ty xs :=
  k.grown hg (fun e => by injection e with e; omega)
theorem Yw.set_ (H : Yw X W base gC gY v1 v2 u1 u2 l s t r) (i : Nat) (u : Value) {a1 a2 : Value} {t' : Int} (he : #[v1, v2, .int .i64 t].setIfInBounds i u = #[a1, a2, .int .i64 t']) : Yw X (W.setCell ⟨gY, i, none⟩ u) base gC gY a1 a2 u1 u2 l s t' r := by
  have hk := H.y.set_ i u
  rw [he] at hk
  have hlt := H.lt
  exact ⟨H.rws.far (grownBy_setCell W gY i u) hlt.2, hk, Cd.belowB (B := gY) H.cd ((Below.refl gY W).setCell (p := ⟨gY, i, none⟩) (Nat.le_refl _) u) hlt.1, H.xy _ _ H.x (grownBy_setCell W gY i u), by simpa [World.setCell] using H.hb, hlt, H.xb, H.xg, H.xy⟩
/-- Its parts, to be read. -/
theorem Yw.read (H : Yw X W base gC gY u1 u2 u1 u2 l s t r) : ∃ A c B d, u1 = .slice A l.length c ∧ u2 = .slice B s.length d ∧ IsI .i64 W A l.length l ∧ IsI .u64 W B s.length s := by
  have o1 := H.rws.at_ 0 (Nat.succ_pos _)
  have o2 := H.rws.at_ 1 (by show 1 < 2; omega)
  obtain ⟨A, C, e1, -⟩ := own_form o1
  obtain ⟨B, D, e2, -⟩ := own_form o2
  have e1' : u1 = .slice A l.length C := e1
  have e2' : u2 = .slice B s.length D := e2
  subst e1' e2'
  exact ⟨A, C, B, D, rfl, rfl, IsI.of_own o1, IsI.of_own o2⟩
theorem Yw.T (H : Yw X W base gC gY v1 v2 u1 u2 l s t r) : W.cell? ⟨gY, 0, none⟩ = some v1 ∧ W.cell? ⟨gY, 1, none⟩ = some v2 := ⟨H.y.cell 0, H.y.cell 1⟩
theorem Yw.drew (H : Yw X W base gC gY v1 v2 u1 u2 l s t r) : Yw X W.drew base gC gY v1 v2 u1 u2 l s t r := H.below (Below.refl _ W).drew
theorem Yw.elS {g i : Nat} {ty : TypeId} {xs : Array Value} (H : Yw X W base gC gY v1 v2 u1 u2 l s t r) (k : Bk W g ty xs) (hg : base ≤ g) (u : Value) : Bk (W.setCell ⟨gY, i, none⟩ u) g ty xs :=
  k.far (by have := H.lt; show g ≠ gY; omega) u
theorem cells_bk {g : Nat} {ty : TypeId} {ys : List Value} (k : Bk W g ty ys.toArray) : ∀ j u, ys[j]? = some u → W.cell? ((⟨g, 0, none⟩ : Addr).add j) = some u := by
  intro j u hu
  rw [addr_add, k.cell j]
  simpa using hu
theorem Yw.fin (H : Yw X W base gC gY u1 u2 u1 u2 l s t r) (h1 : l.length ≤ 100) (h2 : s.length ≤ 100) : X W ∧ ∃ (A' : Option Addr) (n' c' : Nat) (B' : Option Addr) (m' d' : Nat) (l' s' : List Int) (t' : Int), Bk W gY 25 #[.slice A' n' c', .slice B' m' d', .int .i64 t'] ∧ IsI .i64 W A' n' l' ∧ IsI .u64 W B' m' s' ∧ n' ≤ 100 ∧ m' ≤ 100 := by
  obtain ⟨A', c', B', d', rfl, rfl, k1, k2⟩ := H.read
  exact ⟨H.x, _, _, _, _, _, _, _, _, _, H.y, k1, k2, h1, h2⟩
theorem Yw.fin2 {A : Option Addr} {m k c : Nat} (H : Yw X W base gC gY u1 (.slice A k c) u1 (.slice A m c) l s t r) (h1 : l.length ≤ 100) (h2 : s.length ≤ 100) (hk : k ≤ m) : X W ∧ ∃ (A' : Option Addr) (n' c' : Nat) (B' : Option Addr) (m' d' : Nat) (l' s' : List Int) (t' : Int), Bk W gY 25 #[.slice A' n' c', .slice B' m' d', .int .i64 t'] ∧ IsI .i64 W A' n' l' ∧ IsI .u64 W B' m' s' ∧ n' ≤ 100 ∧ m' ≤ 100 := by
  have o1 := H.rws.at_ 0 (Nat.succ_pos _)
  have o2 : W.ownsRow base 33 1 (.slice A m c) s.length (s.map (Value.int .u64)) := H.rws.at_ 1 (by show 1 < 2; omega)
  obtain ⟨A', C, e1, -⟩ := own_form o1
  have e1' : u1 = .slice A' l.length C := e1
  subst e1'
  obtain ⟨A2, C2, e2, -⟩ := own_form o2
  have hm : m = s.length := by injection e2
  subst hm
  exact ⟨H.x, _, _, _, _, _, _, _, _, _, H.y, IsI.of_own o1, IsI.take (IsI.of_own o2) hk, h1, by omega⟩
end
/-- x in its box, and its rows; what was there before is as it was. -/
structure Xv (w : World) (gX gC gY : Nat) (A : Option Addr) (n c : Nat) (B : Option Addr) (d : Nat) (lx sx : List Int) (tx : Int) (W : World) : Prop where
  bw : Below w.heap.size w W
  bx : Bk W gX 25 #[.slice A n c, .slice B n d, .int .i64 tx]
  ia : IsI .i64 W A n lx
  ib : IsI .u64 W B n sx
  ha : ∀ ad, A = some ad → ad.block ≠ gC ∧ ad.block < gY
  hb : ∀ ad, B = some ad → ad.block ≠ gC ∧ ad.block < gY
  hx : gX ≠ gC ∧ gX < gY
  hw : w.heap.size ≤ gC ∧ w.heap.size ≤ gY
section
variable {w W W' : World} {gX gC gY n c d base : Nat} {A B : Option Addr} {lx sx : List Int} {tx : Int}
theorem Xv.below (H : Xv w gX gC gY A n c B d lx sx tx W) (hb : Below base W W') (hY : gY < base) (hs : base ≤ W.heap.size) : Xv w gX gC gY A n c B d lx sx tx W' :=
  have hw := H.hw
  have hx := H.hx
  ⟨H.bw.trans (hb.mono (by omega)), H.bx.below hb (by omega), Rds.belowB H.ia hb (fun _ ad e => by have := (H.ha ad e).2; omega), Rds.belowB H.ib hb (fun _ ad e => by have := (H.hb ad e).2; omega), H.ha, H.hb, H.hx, H.hw⟩
theorem Xv.grown {g : Nat} (H : Xv w gX gC gY A n c B d lx sx tx W) (hg : W.grownBy W' (some g)) (h : g = gC ∨ g = gY) : Xv w gX gC gY A n c B d lx sx tx W' := by
  have hw := H.hw
  have hx := H.hx
  refine ⟨below_grownBy H.bw hg (Nat.le_refl _) (by omega), H.bx.grown hg (by intro e; injection e with e; omega), Rds.grown H.ia hg (fun ad e e2 => ?_), Rds.grown H.ib hg (fun ad e e2 => ?_), H.ha, H.hb, H.hx, H.hw⟩
  · injection e2 with e2; have := H.ha ad e; omega
  · injection e2 with e2; have := H.hb ad e; omega
end
end Go.Proofs.Ytcaencocmfkfaaa
