/- The ring of chapter 11: where its parts lie, and what is known of its machines. -/
import Derived.Test.YtepngbdjobckbaaGreatK8
import Derived.Test.YtepngbdjobckbaaGreatK9
import Derived.Test.YtepngbdjobckbaaGreatK10
import Derived.Test.YtepngbdjobckbaaGreatK11a
import Derived.Test.YtepngbdjobckbaaGreatB5
import Derived.Test.YtepngbdjobckbaaGreatG6
namespace Go.Proofs.YtepngbdjobckbaaGreat
open Go.RowKit
set_option linter.unusedVariables false
set_option linter.unusedSimpArgs false
/-- The program's frame is that of the document's machine. -/
def RpA (l : List Int) (x : Mc) (q : Fa) : Prop := (x.what = 3 ∧ Rp8 l x q) ∨ (x.what = 4 ∧ Rp9 l x q) ∨ (x.what = 5 ∧ Rp10 l x q) ∨ (x.what = 6 ∧ Rp11 l x q)
/-- A machine's cells. -/
def mqc (what : Nat) (val code pc : Int) (A : Option Addr) (n c : Nat) (B : Option Addr) (m d : Nat) : Array Value := #[.int .i64 what, .int .u64 val, .int .i64 code, .int .i64 pc, .slice A n c, .slice B m d, .slice none 0 0]
def Mq (w : World) (l : List Int) (cs : Array Value) (x : Mc) : Prop := ∃ (val code pc : Int) (A : Option Addr) (n c : Nat) (B : Option Addr) (m d : Nat) (q : Fa), cs = mqc x.what val code pc A n c B m d ∧ FrA w #[.int .i64 code, .int .i64 pc, .slice A n c, .slice B m d, .slice none 0 0] q ∧ RpA l x q
section
variable {w w' : World} {l : List Int} {cs : Array Value} {x : Mc}
theorem Mq.below (H : Mq w l cs x) (hb : Below w.heap.size w w') : Mq w' l cs x := by
  obtain ⟨val, code, pc, A, n, c, B, m, d, q, e, hf, hr⟩ := H
  exact ⟨val, code, pc, A, n, c, B, m, d, q, e, Fr.below hf hb, hr⟩
theorem Mq.kp (H : Mq w l cs x) (ku : Kp w w' 42) (ki : Kp w w' 3) : Mq w' l cs x := by
  obtain ⟨val, code, pc, A, n, c, B, m, d, q, e, hf, hr⟩ := H
  exact ⟨val, code, pc, A, n, c, B, m, d, q, e, Fr.kp hf ku ki, hr⟩
theorem Mq.size (H : Mq w l cs x) : cs.toList.length = 7 := by
  obtain ⟨val, code, pc, A, n, c, B, m, d, q, rfl, -⟩ := H
  rfl
theorem Mq.wh (H : Mq w l cs x) : 3 ≤ x.what ∧ x.what ≤ 6 := by
  obtain ⟨val, code, pc, A, n, c, B, m, d, q, -, -, hr⟩ := H
  rcases hr with ⟨h, -⟩ | ⟨h, -⟩ | ⟨h, -⟩ | ⟨h, -⟩ <;> omega
end
/-- Where its parts lie. -/
structure Hr where
  A : Option Addr
  n : Nat
  c : Nat
  B : Option Addr
  m : Nat
  d : Nat
  MA : Option Addr
  mn : Nat
  mc : Nat
  LA : Option Addr
  ln : Nat
  lc : Nat
  tk : Int
  vL : Value
  vT : Value
  vP : Value
  ls : List (Array Value)
  ps : List (Array Value)
def Hr.cells (h : Hr) (st : St) : Array Value := #[.slice h.A h.n h.c, .slice h.B h.m h.d, .int .i64 st.th, .slice h.MA h.mn h.mc, .slice h.LA h.ln h.lc, .int .i64 h.tk, h.vL, h.vT, h.vP]
structure RgH (w : World) (base G : Nat) (h : Hr) (st : St) : Prop where
  bk : Bk w G 37 (h.cells st)
  hG : base ≤ G
  cf : Cf w h.A h.n st.l
  cty : TyA w h.A h.n 3
  mi : IsI .u64 w h.MA h.mn st.ws
  mty : TyA w h.MA h.mn 42
  mn : h.mn ≤ 1000000
  rL : w.ownsRow base 53 7 h.vL h.ls.length (h.ls.flatMap Array.toList)
  rT : w.ownsRow base 58 8 h.vT st.tr.length (st.tr.flatMap It.cells)
  rP : w.ownsRow base 33 3 h.vP h.ps.length (h.ps.flatMap Array.toList)
  ml : All2 (Mq w st.l) h.ls st.ms
  pa : All2 (Pm w) h.ps st.pa
/-- What holds of its state. -/
structure InvR (st : St) : Prop where
  cap : Cap st.l
  mv : ∀ (i : Nat) x, st.ms[i]? = some x → Mv st.l.length x
  wu : ∀ v ∈ st.ws, u64 v
  pl : st.pa.length = st.tr.length
def Rg (w : World) (base G : Nat) (st : St) : Prop := (∃ h, RgH w base G h st) ∧ InvR st
section
variable {w w1 w' : World} {base G : Nat} {h : Hr} {st : St}
theorem RgH.below (H : RgH w base G h st) (hb : Below w.heap.size w w') : RgH w' base G h st :=
  ⟨H.bk.below hb H.bk.lt, H.hG, H.cf.below hb, H.cty.below hb, H.mi.below hb, H.mty.below hb, H.mn, own_bel H.rL hb, own_bel H.rT hb, own_bel H.rP hb, H.ml.weaken fun a b k => Mq.below k hb, H.pa.weaken fun a b k => Pm.below k hb⟩
theorem Rg.below (H : Rg w base G st) (hb : Below w.heap.size w w') : Rg w' base G st := by
  obtain ⟨⟨h, H⟩, I⟩ := H
  exact ⟨⟨h, H.below hb⟩, I⟩
theorem RgH.base_le (H : RgH w base G h st) : base ≤ w.heap.size := Nat.le_trans H.hG (Nat.le_of_lt H.bk.lt)
theorem RgH.kps (H : RgH w base G h st) (ki : Kp w w1 3) (ku : Kp w w1 42) : Cf w1 h.A h.n st.l ∧ TyA w1 h.A h.n 3 ∧ IsI .u64 w1 h.MA h.mn st.ws ∧ TyA w1 h.MA h.mn 42 ∧ All2 (Mq w1 st.l) h.ls st.ms ∧ All2 (Pm w1) h.ps st.pa :=
  ⟨H.cf.kp H.cty ki, H.cty.kp ki, H.mi.kp H.mty ku, H.mty.kp ku, H.ml.weaken fun a b k => Mq.kp k ku ki, H.pa.weaken fun a b k => Pm.kp k ku⟩
theorem RgH.pushT (H : RgH w base G h st) (it : It) (v' : Value) (hown : w1.ownsRow base 58 8 v' (st.tr.length + 1) (st.tr.flatMap It.cells ++ It.cells it)) (hg : w.grownBy w1 h.vT.ownBlock) :
    RgH (w1.setCell ⟨G, 7, none⟩ v') base G { h with vT := v' } { st with tr := st.tr ++ [it] } := by
  have kk : ∀ T, T ≠ 58 → T ≠ 37 → Kp w (w1.setCell ⟨G, 7, none⟩ v') T := fun T a b => kp_push H.rT hg H.bk a b (by decide)
  obtain ⟨p1, p2, p3, p4, p5, p6⟩ := H.kps (kk _ (by decide) (by decide)) (kk _ (by decide) (by decide))
  have b1 := H.bk.oth hg (Oth.own H.rT (by decide))
  refine ⟨b1.set_ 7 v', H.hG, p1, p2, p3, p4, H.mn, own_kp H.rL (kk _ (by decide) (by decide)), ?_, own_kp H.rP (kk _ (by decide) (by decide)), p5, p6⟩
  have := own_kp hown (kp_set b1 (by decide) 7 v')
  simpa using this
theorem RgH.pushP (H : RgH w base G h st) (cs : Array Value) (ws : List Int) (hp : Pm w cs ws) (v' : Value) (hown : w1.ownsRow base 33 3 v' (h.ps.length + 1) (h.ps.flatMap Array.toList ++ cs.toList)) (hg : w.grownBy w1 h.vP.ownBlock) :
    RgH (w1.setCell ⟨G, 8, none⟩ v') base G { h with vP := v', ps := h.ps ++ [cs] } { st with pa := st.pa ++ [ws] } := by
  have kk : ∀ T, T ≠ 33 → T ≠ 37 → Kp w (w1.setCell ⟨G, 8, none⟩ v') T := fun T a b => kp_push H.rP hg H.bk a b (by decide)
  have ku := kk 42 (by decide) (by decide)
  obtain ⟨p1, p2, p3, p4, p5, p6⟩ := H.kps (kk _ (by decide) (by decide)) ku
  have b1 := H.bk.oth hg (Oth.own H.rP (by decide))
  refine ⟨b1.set_ 8 v', H.hG, p1, p2, p3, p4, H.mn, own_kp H.rL (kk _ (by decide) (by decide)), own_kp H.rT (kk _ (by decide) (by decide)), ?_, p5, p6.snoc (hp.kp ku)⟩
  have := own_kp hown (kp_set b1 (by decide) 8 v')
  simpa using this
theorem RgH.pushL (H : RgH w base G h st) (cs : Array Value) (x : Mc) (hp : Mq w st.l cs x) (v' : Value) (hown : w1.ownsRow base 53 7 v' (h.ls.length + 1) (h.ls.flatMap Array.toList ++ cs.toList)) (hg : w.grownBy w1 h.vL.ownBlock) :
    RgH (w1.setCell ⟨G, 6, none⟩ v') base G { h with vL := v', ls := h.ls ++ [cs] } { st with ms := st.ms ++ [x] } := by
  have kk : ∀ T, T ≠ 53 → T ≠ 37 → Kp w (w1.setCell ⟨G, 6, none⟩ v') T := fun T a b => kp_push H.rL hg H.bk a b (by decide)
  have ku := kk 42 (by decide) (by decide)
  have ki := kk 3 (by decide) (by decide)
  obtain ⟨p1, p2, p3, p4, p5, p6⟩ := H.kps ki ku
  have b1 := H.bk.oth hg (Oth.own H.rL (by decide))
  refine ⟨b1.set_ 6 v', H.hG, p1, p2, p3, p4, H.mn, ?_, own_kp H.rT (kk _ (by decide) (by decide)), own_kp H.rP (kk _ (by decide) (by decide)), p5.snoc (hp.kp ku ki), p6⟩
  have := own_kp hown (kp_set b1 (by decide) 6 v')
  simpa using this
/-- The memory is another one. -/
theorem RgH.setM (H : RgH w base G h st) {A' : Option Addr} {n' c' : Nat} {ws' : List Int} (hi : IsI .u64 w A' n' ws') (ht : TyA w A' n' 42) (hn : n' ≤ 1000000) (LA : Option Addr) (ln lc : Nat) (tk : Int) :
    RgH (w.setCells G 3 [.slice A' n' c', .slice LA ln lc, .int .i64 tk]) base G { h with MA := A', mn := n', mc := c', LA := LA, ln := ln, lc := lc, tk := tk } { st with ws := ws' } := by
  have kk : ∀ T, T ≠ 37 → Kp w (w.setCells G 3 [.slice A' n' c', .slice LA ln lc, .int .i64 tk]) T := fun T a => kp_sets a _ 3 H.bk
  obtain ⟨p1, p2, p3, p4, p5, p6⟩ := H.kps (kk _ (by decide)) (kk _ (by decide))
  exact ⟨((H.bk.set_ 3 _).set_ 4 _).set_ 5 _, H.hG, p1, p2, hi.kp ht (kk _ (by decide)), ht.kp (kk _ (by decide)), hn, own_kp H.rL (kk _ (by decide)), own_kp H.rT (kk _ (by decide)), own_kp H.rP (kk _ (by decide)), p5, p6⟩
theorem RgH.lsz (H : RgH w base G h st) : ∀ x ∈ h.ls, x.toList.length = 7 := by
  intro x hx
  obtain ⟨i, hi, rfl⟩ := List.mem_iff_getElem.1 hx
  have hi' : i < st.ms.length := by rw [← H.ml.1]; exact hi
  exact (H.ml.2 i _ _ (List.getElem?_eq_getElem hi) (List.getElem?_eq_getElem hi')).size
/-- A machine is another one. -/
theorem RgH.setL (H : RgH w base G h st) {g c i : Nat} (hv : h.vL = .slice (some ⟨g, 0, none⟩) h.ls.length c) (hi : i < h.ls.length) {cs : Array Value} {x : Mc} (hm : Mq w st.l cs x) :
    RgH (w.setCells g (i * 7) cs.toList) base G { h with ls := h.ls.set i cs } { st with ms := st.ms.set i x } := by
  have hr := H.rL
  rw [hv] at hr
  have kk : ∀ T, T ≠ 53 → Kp w (w.setCells g (i * 7) cs.toList) T := fun T a => kp_own hr a _ _
  have ku := kk 42 (by decide)
  have ki := kk 3 (by decide)
  obtain ⟨p1, p2, p3, p4, p5, p6⟩ := H.kps ki ku
  refine ⟨kk _ (by decide) _ _ H.bk, H.hG, p1, p2, p3, p4, H.mn, ?_, own_kp H.rT (kk _ (by decide)), own_kp H.rP (kk _ (by decide)), p5.set_ i (hm.kp ku ki), p6⟩
  have := own_sets cs.toList (i * 7) hr
  rw [flat_set (f := Array.toList) (sz := 7) cs hm.size h.ls H.lsz i hi] at this
  show World.ownsRow _ base 53 7 h.vL (h.ls.set i cs).length ((h.ls.set i cs).flatMap Array.toList)
  rw [hv, List.length_set]
  exact this
/-- The machines' row where there is a machine. -/
theorem RgH.rowL (H : RgH w base G h st) {i : Nat} (hi : i < st.ms.length) : ∃ g c cs, h.vL = .slice (some ⟨g, 0, none⟩) h.ls.length c ∧ base ≤ g ∧ i < h.ls.length ∧ h.ls[i]? = some cs ∧ w.rangeAt g (i * 7) cs.toList ∧ ∀ x, st.ms[i]? = some x → Mq w st.l cs x := by
  have hi' : i < h.ls.length := by rw [H.ml.1]; exact hi
  have hc := List.getElem?_eq_getElem hi'
  rcases H.rL.2 with ⟨_, h0⟩ | ⟨g, cap, cur, h1, h2, _⟩
  · omega
  · have hr := H.rL
    rw [h1] at hr
    exact ⟨g, cap, _, h1, h2, hi', hc, own_rangeA H.lsz hr hc, fun x hx => H.ml.2 i _ _ hc hx⟩
/-- A type apart from all of a ring's. -/
def Tap (T : TypeId) : Prop := 3 ≠ T ∧ 42 ≠ T ∧ 53 ≠ T ∧ 58 ≠ T ∧ 37 ≠ T
theorem RgH.kept (H : RgH w base G h st) (ki : Kp w w' 3) (ku : Kp w w' 42) (kr : Kp w w' 37) (km : Kp w w' 53) (kt : Kp w w' 58) (hP : w'.ownsRow base 33 3 h.vP h.ps.length (h.ps.flatMap Array.toList)) : RgH w' base G h st := by
  obtain ⟨p1, p2, p3, p4, p5, p6⟩ := H.kps ki ku
  exact ⟨kr _ _ H.bk, H.hG, p1, p2, p3, p4, H.mn, own_kp H.rL km, own_kp H.rT kt, hP, p5, p6⟩
/-- Another block is written. -/
theorem RgH.oth (H : RgH w base G h st) {g : Nat} {T : TypeId} {ys : Array Value} (hg : w.grownBy w' (some g)) (k : Bk w g T ys) (ha : Tap T) (hm : 33 ≠ T ∨ h.vP.ownBlock ≠ some g) : RgH w' base G h st := by
  have kk : ∀ T', T' ≠ T → Kp w w' T' := fun T' a => kp_oth hg (Oth.bk k a)
  obtain ⟨a1, a2, a3, a4, a5⟩ := ha
  refine H.kept (kk _ a1) (kk _ a2) (kk _ a5) (kk _ a3) (kk _ a4) ?_
  rcases hm with hm | hm
  · exact own_kp H.rP (kk _ hm)
  · exact H.rP.kept hg (.inr hm)
theorem Rg.oth (H : Rg w base G st) {g : Nat} {T : TypeId} {ys : Array Value} (hg : w.grownBy w' (some g)) (k : Bk w g T ys) (ha : Tap T) (hm : 33 ≠ T) : Rg w' base G st := by
  obtain ⟨⟨h, H⟩, I⟩ := H
  exact ⟨⟨h, H.oth hg k ha (.inl hm)⟩, I⟩
theorem RgH.vPlt (H : RgH w base G h st) : h.vP.ownBlock ≠ some w.heap.size := fun e => by
  have := (H.rP.lt _ e).2
  omega
theorem bk9 {w : World} {g : Nat} {t : TypeId} {a0 a1 a2 a3 a4 a5 a6 a7 a8 : Value} (h : Bk w g t #[a0, a1, a2, a3, a4, a5, a6, a7, a8]) :
    w.cell? ⟨g, 0, none⟩ = some a0 ∧ w.cell? ⟨g, 1, none⟩ = some a1 ∧ w.cell? ⟨g, 2, none⟩ = some a2 ∧ w.cell? ⟨g, 3, none⟩ = some a3 ∧ w.cell? ⟨g, 4, none⟩ = some a4 ∧ w.cell? ⟨g, 5, none⟩ = some a5 ∧ w.cell? ⟨g, 6, none⟩ = some a6 ∧ w.cell? ⟨g, 7, none⟩ = some a7 ∧ w.cell? ⟨g, 8, none⟩ = some a8 ∧ ∀ i, w.frozen? ⟨g, i, none⟩ = false :=
  ⟨h.cell 0, h.cell 1, h.cell 2, h.cell 3, h.cell 4, h.cell 5, h.cell 6, h.cell 7, h.cell 8, h.frozen⟩
theorem rg7 {w : World} {g o : Nat} {a0 a1 a2 a3 a4 a5 a6 : Value} (h : w.rangeAt g o [a0, a1, a2, a3, a4, a5, a6]) :
    w.cell? ⟨g, o, none⟩ = some a0 ∧ w.cell? ⟨g, o + 1, none⟩ = some a1 ∧ w.cell? ⟨g, o + 2, none⟩ = some a2 ∧ w.cell? ⟨g, o + 3, none⟩ = some a3 ∧ w.cell? ⟨g, o + 4, none⟩ = some a4 ∧ w.cell? ⟨g, o + 5, none⟩ = some a5 ∧ w.cell? ⟨g, o + 6, none⟩ = some a6 :=
  ⟨h 0 _ rfl, h 1 _ rfl, h 2 _ rfl, h 3 _ rfl, h 4 _ rfl, h 5 _ rfl, h 6 _ rfl⟩
end
/-- A struct stored whole from offset o on; the world behind it stays behind a name. -/
theorem wpList_store_resO {P : Program} {ops : Array Oper} {rest : List Oper} {op : Oper} {a : Act} {w : World} {Q : Exit → Act → World → Prop} (hgd : op.guard = none) (ty : TypeId) (x y : Operand) (ho : op.op = .store ty x y)
    (g o : Nat) (cells : Array Value) (hx : a.eval x = .pointer (some ⟨g, o, none⟩)) (hy : a.eval y = .agg cells)
    (ht : w.there g o cells.size) (hi : (P.info? ty).map (·.size) = some cells.size) (h1 : cells.all (·.oneCell') = true)
    (h : ∀ w', Hid (w' = w.setCells g o cells.toList) → wpList P ops Q rest (a.put op.dst undef) w') : wpList P ops Q (op :: rest) a w :=
  wpList_store_mid hgd ty x y ho g o cells hx hy ht hi h1 (h _ rfl)
theorem below_stored' {B g o : Nat} {a w w' : World} {vs : List Value} (hw : Hid (w' = w.setCells g o vs)) (h : Below B a w) (hg : B ≤ g) : Below B a w' := by
  have hw := hw.out
  subst hw
  exact below_setCells vs o h hg
theorem Bk.thereO {w : World} {g o n : Nat} {t : TypeId} {cs : Array Value} (h : Bk w g t cs) (hn : o + n ≤ cs.size) : w.there g o n := by
  intro j hj
  refine ⟨?_, h.frozen (o + j)⟩
  rw [h.cell (o + j), Array.getElem?_eq_getElem (by omega)]
  rfl
theorem Tryz.mq_und : ∃ fs, Tryz.prog.underlying 53 = some (.struct fs) := ⟨_, Tryz.underlying53⟩
theorem Tryz.mq_sz : (Tryz.prog.info? 53).map (·.size) = some 7 := by kernel_rfl
theorem mq_one (k : Int) (v a b : Int) (A : Option Addr) (n c : Nat) (B : Option Addr) (m d : Nat) : (#[.int .i64 k, .int .u64 v, .int .i64 a, .int .i64 b, .slice A n c, .slice B m d, .slice none 0 0] : Array Value).all (·.oneCell') = true := by
  refine all_oneCell_toArray (cs := [_, _, _, _, _, _, _]) fun v hv => ?_
  simp only [List.mem_cons, List.not_mem_nil, or_false] at hv
  rcases hv with rfl | rfl | rfl | rfl | rfl | rfl | rfl <;> rfl
/-- A machine's box, its frame stored anew. -/
theorem mq_box {w wz : World} {g : Nat} {T : TypeId} {k v a b a2 b2 : Int} {A A2 : Option Addr} {n c n2 c2 : Nat} {B B2 : Option Addr} {m d m2 d2 : Nat} {u6 : Value} (h : Bk w g T #[.int .i64 k, .int .u64 v, .int .i64 a, .int .i64 b, .slice A n c, .slice B m d, u6]) (hz : Hid (wz = w.setCells g 2 [.int .i64 a2, .int .i64 b2, .slice A2 n2 c2, .slice B2 m2 d2, .slice none 0 0])) :
    Bk wz g T #[.int .i64 k, .int .u64 v, .int .i64 a2, .int .i64 b2, .slice A2 n2 c2, .slice B2 m2 d2, .slice none 0 0] := by
  rw [hz.out]
  exact ((((h.set_ 2 _).set_ 3 _).set_ 4 _).set_ 5 _).set_ 6 _
theorem bk7 {w : World} {g : Nat} {t : TypeId} {a0 a1 a2 a3 a4 a5 a6 : Value} (h : Bk w g t #[a0, a1, a2, a3, a4, a5, a6]) :
    w.cell? ⟨g, 0, none⟩ = some a0 ∧ w.cell? ⟨g, 1, none⟩ = some a1 ∧ w.cell? ⟨g, 2, none⟩ = some a2 ∧ w.cell? ⟨g, 3, none⟩ = some a3 ∧ w.cell? ⟨g, 4, none⟩ = some a4 ∧ w.cell? ⟨g, 5, none⟩ = some a5 ∧ w.cell? ⟨g, 6, none⟩ = some a6 ∧ ∀ i, w.frozen? ⟨g, i, none⟩ = false :=
  ⟨h.cell 0, h.cell 1, h.cell 2, h.cell 3, h.cell 4, h.cell 5, h.cell 6, h.frozen⟩
/-! ### A machine of the program: what it wants, how it ended, how it goes on -/
theorem good_any {w : World} {l : List Int} {x : Mc} {q : Fa} (hc : Cap l) (hm : Mv l.length x) (hr : RpA l x q) :
    (x.what = 3 ∧ Good 69 28 l x q) ∨ (x.what = 4 ∧ Good 70 29 l x q) ∨ (x.what = 5 ∧ Good 71 30 l x q) ∨ (x.what = 6 ∧ Good 52 18 l x q) := by
  rcases hr with ⟨h, r⟩ | ⟨h, r⟩ | ⟨h, r⟩ | ⟨h, r⟩
  · exact .inl ⟨h, knows8.good l x q hc hm h r⟩
  · exact .inr (.inl ⟨h, knows9.good l x q hc hm h r⟩)
  · exact .inr (.inr (.inl ⟨h, knows10.good l x q hc hm h r⟩))
  · exact .inr (.inr (.inr ⟨h, knows11.good l x q hc hm h r⟩))
end Go.Proofs.YtepngbdjobckbaaGreat
