/- -/
import Derived.Test.YtepngbdjobckbaaGreatC
import Derived.Test.YtepngbdjobckbaaGreatG
import Derived.Test.YtepngbdjobckbaaGreatW
import Derived.Deep.RegionHeld3
import Derived.Deep.RegionLaw
import Derived.Deep.DeepCutAuto
import Derived.Deep.DrawnRows
namespace Go.Proofs.YtepngbdjobckbaaGreat
open Go.RowKit
set_option linter.unusedVariables false
attribute [local irreducible] Go.bits
attribute [local go_sem ↓] Go.wp_at_zero Go.wp_at_succ

theorem Tryz.i64_inf : (Tryz.prog.info? 3).map (fun i => (i.zero, i.size, i.bytes)) = some (some (.int .i64 0), 1, 8) := by kernel_rfl
def capT : List Int := [0, 1, 2, 0, 1, 3]
def staT : List Int := [0, 1, 9223372036854775807, 9223372036854775806, 4611686018427387904, 5]
theorem capT_in (j : Nat) (h : j < 6) : 0 ≤ capT.getD j 0 ∧ capT.getD j 0 ≤ 3 := by
  have key : ∀ j : Nat, j < 6 → 0 ≤ capT.getD j 0 ∧ capT.getD j 0 ≤ 3 := by decide
  exact key j h
theorem staT_in (j : Nat) (h : j < 6) : staT.getD j 0 ∈ staT ∧ 0 ≤ staT.getD j 0 ∧ staT.getD j 0 ≤ 9223372036854775807 := by
  have key : ∀ j : Nat, j < 6 → staT.getD j 0 ∈ staT ∧ 0 ≤ staT.getD j 0 ∧ staT.getD j 0 ≤ 9223372036854775807 := by decide
  exact key j h
/-- A configuration that a call has made: its two rows are its own, from base on, apart from one another. -/
def cfgR (u v : Value) (l s : List Int) : List Rw := [⟨u, 3, 1, l.length, l.map (Value.int .i64)⟩, ⟨v, 42, 1, s.length, s.map (Value.int .u64)⟩]
def capOk (l : List Int) : Prop := ∀ x ∈ l, 0 ≤ x ∧ x ≤ 3
def staOk (s : List Int) : Prop := ∀ x ∈ s, x ∈ staT
/-- The struct and the tables of Config. -/
def CfgB (w : World) (N : Nat) (u v : Value) : Prop := (Bk w N 30 #[.slice none 0 0, .slice none 0 0, .int .i64 0] ∧ Bk w (N + 1) 3 ((capT.map (Value.int .i64)).toArray) ∧ Bk w (N + 1 + 1) 42 ((staT.map (Value.int .u64)).toArray)) ∧
  Bk w (N + 1 + 1 + 1) 30 #[u, v, .int .i64 0]
theorem CfgB.grown {w w' : World} {N g : Nat} {u v : Value} (h : CfgB w N u v) (hg : w.grownBy w' (some g)) (hlt : g < N) : CfgB w' N u v :=
  ⟨⟨h.1.1.grown hg (by intro e; injection e with e; omega), h.1.2.1.grown hg (by intro e; injection e with e; omega), h.1.2.2.grown hg (by intro e; injection e with e; omega)⟩, h.2.grown hg (by intro e; injection e with e; omega)⟩
theorem CfgB.below {w w' : World} {N : Nat} {u v : Value} (h : CfgB w N u v) (hb : Below (N + 1 + 1 + 1 + 1) w w') : CfgB w' N u v :=
  ⟨⟨h.1.1.below hb (by omega), h.1.2.1.below hb (by omega), h.1.2.2.below hb (by omega)⟩, h.2.below hb (by omega)⟩
theorem CfgB.alloc {w : World} {N : Nat} {u v : Value} (h : CfgB w N u v) (o : Obj) : CfgB (w.alloc o) N u v := ⟨⟨h.1.1.alloc o, h.1.2.1.alloc o, h.1.2.2.alloc o⟩, h.2.alloc o⟩
theorem CfgB.set0 {w : World} {N : Nat} {u v : Value} (h : CfgB w N u v) (u' : Value) : CfgB (w.setCell ⟨N + 1 + 1 + 1, 0, none⟩ u') N u' v :=
  ⟨⟨h.1.1.far (by show N ≠ N + 1 + 1 + 1; omega) _, h.1.2.1.far (by show N + 1 ≠ N + 1 + 1 + 1; omega) _, h.1.2.2.far (by show N + 1 + 1 ≠ N + 1 + 1 + 1; omega) _⟩, h.2.set_ 0 u'⟩
theorem CfgB.set1 {w : World} {N : Nat} {u v : Value} (h : CfgB w N u v) (v' : Value) : CfgB (w.setCell ⟨N + 1 + 1 + 1, 1, none⟩ v') N u v' :=
  ⟨⟨h.1.1.far (by show N ≠ N + 1 + 1 + 1; omega) _, h.1.2.1.far (by show N + 1 ≠ N + 1 + 1 + 1; omega) _, h.1.2.2.far (by show N + 1 + 1 ≠ N + 1 + 1 + 1; omega) _⟩, h.2.set_ 1 v'⟩
theorem grownBy_own {a w w' : World} {g base : Nat} {m : Option Nat} (h : a.grownBy w (some g)) (hg : w.grownBy w' m) (hm : ∀ k, m = some k → base ≤ k) (hb : a.heap.size ≤ base) : a.grownBy w' (some g) :=
  ⟨hg.os.trans h.os, hg.tape.trans h.tape, hg.output.trans h.output, Nat.le_trans h.size hg.size, fun i hi hne => (hg.block i (Nat.lt_of_lt_of_le hi h.size) (fun e => by have := hm i e.symm; omega)).trans (h.block i hi hne)⟩
/-- Where Config stands between two statements. -/
def CfgS (w wx : World) (g : Nat) (k k2 : Nat) (r : List Int) (v : Int) (A1 : Option Addr) (C1 : Nat) (A2 : Option Addr) (C2 : Nat) (l s : List Int) : Prop :=
  l.length = k ∧ s.length = k2 ∧ capOk l ∧ staOk s ∧ Rws wx (w.heap.size + 1 + 1 + 1 + 1) (cfgR (.slice A1 l.length C1) (.slice A2 s.length C2) l s) ∧ Cd wx g r v ∧ w.grownBy wx (some g) ∧ CfgB wx w.heap.size (.slice A1 l.length C1) (.slice A2 s.length C2)
theorem CfgS.cap {w w3 w4 : World} {g k : Nat} {r : List Int} {v cv : Int} {A1 A2 : Option Addr} {C1 C2 : Nat} {l s : List Int} (hgl : g < w.heap.size) (h : CfgS w w3 g k k r v A1 C1 A2 C2 l s) (hc : 0 ≤ cv ∧ cv ≤ 3) {v4 : Value}
    (hown : w4.ownsRow (w.heap.size + 1 + 1 + 1 + 1) 3 1 v4 (l.length + 1) (l.map (Value.int .i64) ++ [.int .i64 cv])) (hg : (w3.alloc (.cells #[.int .i64 cv] 3)).grownBy w4 (Value.slice A1 l.length C1).ownBlock)
    (hv : v4.ownBlock = (Value.slice A1 l.length C1).ownBlock ∨ ∃ q, v4.ownBlock = some q ∧ (w3.alloc (.cells #[.int .i64 cv] 3)).heap.size ≤ q) (n : Nat) :
    ∃ A4 C4, v4 = .slice A4 (l.length + 1) C4 ∧ CfgS w ((w4.setCell ⟨w.heap.size + 1 + 1 + 1, 0, none⟩ v4).drewN n) g (k + 1) k r v A4 C4 A2 C2 (l ++ [cv]) s := by
  obtain ⟨h1, h2, h3, h4, hr, hd, hgb, hb⟩ := h
  obtain ⟨A4, C4, rfl, -⟩ := own_form hown
  refine ⟨A4, C4, rfl, by simp [h1], h2, ?_, h4, ?_, ?_, ?_, ?_⟩
  · intro x hx
    rcases List.mem_append.1 hx with hx | hx
    · exact h3 x hx
    · simp only [List.mem_singleton] at hx
      rw [hx]; exact hc
  all_goals
    have hx := hb.2.lt
    have hr3 := hr.alloc (.cells #[.int .i64 cv] 3)
    have hb4 : Below (w.heap.size + 1 + 1 + 1 + 1) (w3.alloc (.cells #[.int .i64 cv] 3)) w4 := own_below (hr3.at_ 0 (Nat.succ_pos _)) hg (Nat.le_refl _) (by simp; omega)
    have hset : Below w.heap.size w4 (w4.setCell ⟨w.heap.size + 1 + 1 + 1, 0, none⟩ (.slice A4 (l.length + 1) C4)) := (Below.refl _ w4).setCell (p := ⟨w.heap.size + 1 + 1 + 1, 0, none⟩) (show w.heap.size ≤ w.heap.size + 1 + 1 + 1 by omega) _
  · have hown5 : w4.ownsRow (w.heap.size + 1 + 1 + 1 + 1) 3 1 (.slice A4 (l.length + 1) C4) (l ++ [cv]).length ((l ++ [cv]).map (Value.int .i64)) := by simpa using hown
    have hr4 := hr3.upd 0 (Nat.succ_pos _) ⟨.slice A4 (l.length + 1) C4, 3, 1, (l ++ [cv]).length, (l ++ [cv]).map (Value.int .i64)⟩ hown5 hg hv
    have e : (l ++ [cv]).length = l.length + 1 := by simp
    rw [e]
    exact (hr4.far (grownBy_setCell w4 (w.heap.size + 1 + 1 + 1) 0 (.slice A4 (l.length + 1) C4)) (by omega)).drewN n
  · exact (((hd.alloc (.cells #[.int .i64 cv] 3)).belowB (hb4.mono (by omega)) hgl).belowB hset hgl).drewN n
  · have hg4 := grownBy_own (grownBy_trans hgb (grownBy_of_below (below_new _ _) (some g))) hg (base := w.heap.size + 1 + 1 + 1 + 1) (fun q e => ((hr3.at_ 0 (Nat.succ_pos _)).lt q e).1) (by omega)
    exact grownBy_drewN ⟨hset.os.trans hg4.os, hset.tape.trans hg4.tape, hset.output.trans hg4.output, Nat.le_trans hg4.size hset.size, fun i hi hne => (hset.block i hi).trans (hg4.block i hi hne)⟩ n
  · have e : (l ++ [cv]).length = l.length + 1 := by simp
    rw [e]
    have := ((hb.alloc (.cells #[.int .i64 cv] 3)).below hb4).set0 (.slice A4 (l.length + 1) C4)
    exact ⟨⟨this.1.1.drewN n, this.1.2.1.drewN n, this.1.2.2.drewN n⟩, this.2.drewN n⟩
theorem CfgS.sta {w w3 w4 : World} {g k : Nat} {r : List Int} {v cv : Int} {A1 A2 : Option Addr} {C1 C2 : Nat} {l s : List Int} (hgl : g < w.heap.size) (h : CfgS w w3 g (k + 1) k r v A1 C1 A2 C2 l s) (hc : cv ∈ staT) {v4 : Value}
    (hown : w4.ownsRow (w.heap.size + 1 + 1 + 1 + 1) 42 1 v4 (s.length + 1) (s.map (Value.int .u64) ++ [.int .u64 cv])) (hg : (w3.alloc (.cells #[.int .u64 cv] 42)).grownBy w4 (Value.slice A2 s.length C2).ownBlock)
    (hv : v4.ownBlock = (Value.slice A2 s.length C2).ownBlock ∨ ∃ q, v4.ownBlock = some q ∧ (w3.alloc (.cells #[.int .u64 cv] 42)).heap.size ≤ q) (n : Nat) :
    ∃ A4 C4, v4 = .slice A4 (s.length + 1) C4 ∧ CfgS w ((w4.setCell ⟨w.heap.size + 1 + 1 + 1, 1, none⟩ v4).drewN n) g (k + 1) (k + 1) r v A1 C1 A4 C4 l (s ++ [cv]) := by
  obtain ⟨h1, h2, h3, h4, hr, hd, hgb, hb⟩ := h
  obtain ⟨A4, C4, rfl, -⟩ := own_form hown
  refine ⟨A4, C4, rfl, h1, by simp [h2], h3, ?_, ?_, ?_, ?_, ?_⟩
  · intro x hx
    rcases List.mem_append.1 hx with hx | hx
    · exact h4 x hx
    · simp only [List.mem_singleton] at hx
      rw [hx]; exact hc
  all_goals
    have hx := hb.2.lt
    have hr3 := hr.alloc (.cells #[.int .u64 cv] 42)
    have hb4 : Below (w.heap.size + 1 + 1 + 1 + 1) (w3.alloc (.cells #[.int .u64 cv] 42)) w4 := own_below (hr3.at_ 1 (Nat.succ_lt_succ (Nat.succ_pos _))) hg (Nat.le_refl _) (by simp; omega)
    have hset : Below w.heap.size w4 (w4.setCell ⟨w.heap.size + 1 + 1 + 1, 1, none⟩ (.slice A4 (s.length + 1) C4)) := (Below.refl _ w4).setCell (p := ⟨w.heap.size + 1 + 1 + 1, 1, none⟩) (show w.heap.size ≤ w.heap.size + 1 + 1 + 1 by omega) _
  · have hown5 : w4.ownsRow (w.heap.size + 1 + 1 + 1 + 1) 42 1 (.slice A4 (s.length + 1) C4) (s ++ [cv]).length ((s ++ [cv]).map (Value.int .u64)) := by simpa using hown
    have hr4 := hr3.upd 1 (Nat.succ_lt_succ (Nat.succ_pos _)) ⟨.slice A4 (s.length + 1) C4, 42, 1, (s ++ [cv]).length, (s ++ [cv]).map (Value.int .u64)⟩ hown5 hg hv
    have e : (s ++ [cv]).length = s.length + 1 := by simp
    rw [e]
    exact (hr4.far (grownBy_setCell w4 (w.heap.size + 1 + 1 + 1) 1 (.slice A4 (s.length + 1) C4)) (by omega)).drewN n
  · exact (((hd.alloc (.cells #[.int .u64 cv] 42)).belowB (hb4.mono (by omega)) hgl).belowB hset hgl).drewN n
  · have hg4 := grownBy_own (grownBy_trans hgb (grownBy_of_below (below_new _ _) (some g))) hg (base := w.heap.size + 1 + 1 + 1 + 1) (fun q e => ((hr3.at_ 1 (Nat.succ_lt_succ (Nat.succ_pos _))).lt q e).1) (by omega)
    exact grownBy_drewN ⟨hset.os.trans hg4.os, hset.tape.trans hg4.tape, hset.output.trans hg4.output, Nat.le_trans hg4.size hset.size, fun i hi hne => (hset.block i hi).trans (hg4.block i hi hne)⟩ n
  · have e : (s ++ [cv]).length = s.length + 1 := by simp
    rw [e]
    have := ((hb.alloc (.cells #[.int .u64 cv] 42)).below hb4).set1 (.slice A4 (s.length + 1) C4)
    exact ⟨⟨this.1.1.drewN n, this.1.2.1.drewN n, this.1.2.2.drewN n⟩, this.2.drewN n⟩
theorem CfgS.grown {w w2 w3 : World} {g k k2 : Nat} {r r2 : List Int} {v : Int} {A1 A2 : Option Addr} {C1 C2 : Nat} {l s : List Int} (hgl : g < w.heap.size) (h : CfgS w w2 g k k2 r v A1 C1 A2 C2 l s) (hg : w2.grownBy w3 (some g)) (hd : Cd w3 g r2 v) : CfgS w w3 g k k2 r2 v A1 C1 A2 C2 l s := by
  obtain ⟨h1, h2, h3, h4, hr, -, hgb, hb⟩ := h
  exact ⟨h1, h2, h3, h4, hr.far hg (by omega), hd, grownBy_trans hgb hg, hb.grown hg hgl⟩
theorem CfgS.drewN {w w2 : World} {g k k2 : Nat} {r : List Int} {v : Int} {A1 A2 : Option Addr} {C1 C2 : Nat} {l s : List Int} (h : CfgS w w2 g k k2 r v A1 C1 A2 C2 l s) (n : Nat) : CfgS w (w2.drewN n) g k k2 r v A1 C1 A2 C2 l s := by
  obtain ⟨h1, h2, h3, h4, hr, hd, hgb, hb⟩ := h
  exact ⟨h1, h2, h3, h4, hr.drewN n, hd.drewN n, grownBy_drewN hgb n, ⟨⟨hb.1.1.drewN n, hb.1.2.1.drewN n, hb.1.2.2.drewN n⟩, hb.2.drewN n⟩⟩
theorem bk6 {w : World} {g : Nat} {t : TypeId} {k : IntKind} {l : List Int} (h : Bk w g t ((l.map (Value.int k)).toArray)) (j : Nat) (hj : j < l.length) : w.cell? ⟨g, j, none⟩ = some (.int k (l.getD j 0)) := by
  rw [h.cell j]
  simp [List.getD, List.getElem?_eq_getElem hj]
set_option maxHeartbeats 8000000 in
set_option maxRecDepth 100000 in
theorem config_any (w : World) (g : Nat) (r : List Int) (v : Int) (h : Cd w g r v) :
    Calls Tryz.prog 20 #[.pointer (some ⟨g, 0, none⟩)] w fun e w' => ∃ (u1 u2 : Value) (t : Int) (l s r' : List Int), e = .returned (.agg #[u1, u2, .int .i64 t]) ∧ Rws w' w.heap.size (cfgR u1 u2 l s) ∧ 1 ≤ l.length ∧ l.length ≤ 3 ∧ s.length = l.length ∧ capOk l ∧ staOk s ∧ 2 ≤ t ∧ t ≤ 4 ∧ Cd w' g r' v ∧ w.grownBy w' (some g) := by
  obtain ⟨i0, hi, hz0, hz1, hz2⟩ := info_parts Tryz.i64_inf
  obtain ⟨j0, hj, hy0, hy1, hy2⟩ := info_parts Tryz.u64_inf
  have H := hide h
  have hgl := h.lt
  clear h
  go_enter Tryz.func20, Tryz.ntmps20
  go_wp2
  have HE := hide (E4.of (w := w) (c1 := #[.slice none 0 0, .slice none 0 0, .int .i64 0]) (t1 := 30) (c2 := ((capT.map (Value.int .i64)).toArray)) (t2 := 3) (c3 := ((staT.map (Value.int .u64)).toArray)) (t3 := 42) (c4 := #[.slice none 0 0, .slice none 0 0, .int .i64 0]) (t4 := 30) (Below.refl _ _))
  have HC0 := hide ((((H.out.alloc (.cells #[.slice none 0 0, .slice none 0 0, .int .i64 0] 30)).alloc (.cells ((capT.map (Value.int .i64)).toArray) 3)).alloc (.cells ((staT.map (Value.int .u64)).toArray) 42)).alloc (.cells #[.slice none 0 0, .slice none 0 0, .int .i64 0] 30))
  have hR0 : ∀ W, Rws W (w.heap.size + 1 + 1 + 1 + 1) (cfgR (.slice none 0 0) (.slice none 0 0) [] []) := fun W => ⟨fun r hr => by
    unfold cfgR at hr
    simp only [List.mem_cons, List.not_mem_nil, or_false] at hr
    rcases hr with rfl | rfl <;> exact World.ownsRow_nil _ _ _ _, by
    unfold cfgR
    refine List.Pairwise.cons ?_ (List.Pairwise.cons (by simp) List.Pairwise.nil)
    intro b _
    exact .inl rfl⟩
  go_loopg [6] 4 (fun m i wr => ∃ (k : Nat) (A1 : Option Addr) (C1 : Nat) (A2 : Option Addr) (C2 : Nat) (l s r' : List Int), m + k = 4 ∧ k ≤ 3 ∧ i = .int .i64 k ∧ CfgS w wr g k k r' v A1 C1 A2 C2 l s)
  case atStart => exact ⟨0, none, 0, none, 0, [], [], r, by omega, by omega, rfl, rfl, rfl, by simp [capOk], by simp [staOk], hR0 _, HC0.out, grownBy_of_below HE.out.bel _, ⟨HE.out.b1, HE.out.b2, HE.out.b3⟩, HE.out.b4⟩
  case round =>
    obtain ⟨k, A1, C1, A2, C2, l, s, r', hk, hk3, rfl, hS⟩ := hrel
    obtain ⟨wo, hwo⟩ : ∃ x, x = wr := ⟨_, rfl⟩
    subst hwo
    have S0 := hide hS
    have hvb := codeV_bd r' 3 (by omega)
    have nx := codeNext wo g r' v 3 hS.2.2.2.2.2.1 (by omega) (by omega)
    generalize codeV r' 3 = q at hvb nx
    have NX := hide nx
    clear nx hS HE HC0 hR0
    by_cases hlt : (k : Int) ≤ q
    · go_upto_region 7 with (go_at_call 21; refine NX.out.mono ?_; rintro e w2 ⟨rfl, hcd2, hg2⟩; have S2 := hide (S0.out.grown hgl hg2 hcd2); clear hcd2 hg2)
      -- x.Capacities
      obtain ⟨j1, hj1⟩ := Int.eq_ofNat_of_zero_le (codeV_bd r'.tail 6 (by omega)).1
      have hj6 := (codeV_bd r'.tail 6 (by omega)).2
      rw [hj1] at hj6
      have hj6' : j1 < 6 := by omega
      have n6 : ∀ W, Cd W g r'.tail v → Calls Tryz.prog 21 #[.pointer (some ⟨g, 0, none⟩), .int .i64 6] W fun e w' => e = .returned (.int .i64 (j1 : Nat)) ∧ Cd w' g r'.tail.tail v ∧ W.grownBy w' (some g) := fun W hW => by
        have := codeNext W g r'.tail v 6 hW (by omega) (by omega)
        rwa [hj1] at this
      have N6 := hide n6
      have cc := bk6 (l := capT) S2.out.2.2.2.2.2.2.2.1.2.1 j1 hj6'
      obtain ⟨x0, x1, x2, fx⟩ := bkm3 S2.out.2.2.2.2.2.2.2.2
      have hcb := capT_in j1 hj6'
      generalize capT.getD j1 0 = cv at cc hcb
      have hjb : (0 : Int) ≤ (j1 : Int) := by omega
      have hjc : (j1 : Int) < 6 := by omega
      have hle : l.length ≤ 1073741824 := by have := S2.out.1; omega
      clear n6 hj1
      go_cut [] (fun wx => ∃ (A4 : Option Addr) (C4 : Nat) (l4 r3 : List Int), CfgS w wx g (k + 1) k r3 v A4 C4 A2 C2 l4 s)
      case first =>
        go_region_law (first
          | (refine step_call _ (by rfl) 21 _ (by go_simp) (N6.out _ (S2.out.2.2.2.2.2.1.drewN 1)) ?_; rintro e w3 ⟨rfl, hcd3, hg3⟩; refine ⟨_, rfl, ?_⟩; have S3 := hide ((S2.out.drewN 1).grown hgl hg3 hcd3); obtain ⟨y0, y1, y2, fy⟩ := bkm3 S3.out.2.2.2.2.2.2.2.2; have cy := hg3.cell (a := ⟨w.heap.size + 1, j1, none⟩) cc (by intro e; injection e with e; simp only at e; omega); have hx3 : w.heap.size + 1 + 1 + 1 < w3.heap.size := S3.out.2.2.2.2.2.2.2.2.lt; have z0 := (World.cell?_alloc_lt w3 (.cells #[.int .i64 cv] 3) ⟨w.heap.size + 1 + 1 + 1, 0, none⟩ hx3).trans y0; have R3 := hide (S3.out.2.2.2.2.1.alloc (.cells #[.int .i64 cv] 3)); have B3 := hide (S3.out.2.2.2.2.2.2.2.alloc (.cells #[.int .i64 cv] 3)))
          | (refine step_push3 (w3.alloc (.cells #[.int .i64 cv] 3)) (by rfl) (.tmp 16) (.tmp 22) _ (by rfl) (w.heap.size + 1 + 1 + 1 + 1) 3 i0 _ 1 8 Tryz.underlying27 hi hz0 hz1 hz2 (by rfl) (by decide) _ _ _ (by rfl) (R3.out.at_ 0 (Nat.succ_pos _)) [.int .i64 cv] ⟨w3.heap.size, 0, none⟩ (by rfl) (cells_new w3 _ _) (by rfl) (by simp [Value.oneCell']) hle (by omega) (by simp; omega) ?_; intro v4 w4 hown4 hg4 hv4; obtain ⟨A4, C4, rfl, -⟩ := own_form hown4; have hb4 : Below (w.heap.size + 1 + 1 + 1 + 1) (w3.alloc (.cells #[.int .i64 cv] 3)) w4 := own_below (R3.out.at_ 0 (Nat.succ_pos _)) hg4 (Nat.le_refl _) (by simp; omega); obtain ⟨m0, m1, m2, f4⟩ := bkm3 (B3.out.below hb4).2))
        all_goals
          obtain ⟨A5, C5, e5, h5⟩ := S3.out.cap hgl hcb hown4 hg4 hv4 0
          go_wp2_with fail
          go_meet
          case rel => exact ⟨_, _, _, _, h5⟩
      case rest =>
        obtain ⟨A4, C4, l4, r3, hS4⟩ := hcut
        have S4 := hide hS4
        clear hS4 x0 x1 x2 fx cc S2 N6
        go_upto_region 8 with fail
        obtain ⟨j2, hj2⟩ := Int.eq_ofNat_of_zero_le (codeV_bd r3 6 (by omega)).1
        have hj7 := (codeV_bd r3 6 (by omega)).2
        rw [hj2] at hj7
        have hj7' : j2 < 6 := by omega
        have n6 : ∀ W, Cd W g r3 v → Calls Tryz.prog 21 #[.pointer (some ⟨g, 0, none⟩), .int .i64 6] W fun e w' => e = .returned (.int .i64 (j2 : Nat)) ∧ Cd w' g r3.tail v ∧ W.grownBy w' (some g) := fun W hW => by
          have := codeNext W g r3 v 6 hW (by omega) (by omega)
          rwa [hj2] at this
        have N6 := hide n6
        have cc := bk6 (l := staT) S4.out.2.2.2.2.2.2.2.1.2.2 j2 hj7'
        obtain ⟨x0, x1, x2, fx⟩ := bkm3 S4.out.2.2.2.2.2.2.2.2
        have hcb := staT_in j2 hj7'
        generalize staT.getD j2 0 = sv at cc hcb
        have HCB := hide hcb
        have hjb2 : (0 : Int) ≤ (j2 : Int) := by omega
        have hjc2 : (j2 : Int) < 6 := by omega
        have hle2 : s.length ≤ 1073741824 := by have := S4.out.2.1; omega
        clear n6 hj2 hcb
        go_region_law (first
          | (refine step_call _ (by rfl) 21 _ (by go_simp) (N6.out _ (S4.out.2.2.2.2.2.1.drewN 1)) ?_; rintro e w3 ⟨rfl, hcd3, hg3⟩; refine ⟨_, rfl, ?_⟩; have S3 := hide ((S4.out.drewN 1).grown hgl hg3 hcd3); obtain ⟨y0, y1, y2, fy⟩ := bkm3 S3.out.2.2.2.2.2.2.2.2; have cy := hg3.cell (a := ⟨w.heap.size + 1 + 1, j2, none⟩) cc (by intro e; injection e with e; simp only at e; omega); have hx3 : w.heap.size + 1 + 1 + 1 < w3.heap.size := S3.out.2.2.2.2.2.2.2.2.lt; have z0 := (World.cell?_alloc_lt w3 (.cells #[.int .u64 sv] 42) ⟨w.heap.size + 1 + 1 + 1, 1, none⟩ hx3).trans y1; have R3 := hide (S3.out.2.2.2.2.1.alloc (.cells #[.int .u64 sv] 42)); have B3 := hide (S3.out.2.2.2.2.2.2.2.alloc (.cells #[.int .u64 sv] 42)))
          | (refine step_push3 (w3.alloc (.cells #[.int .u64 sv] 42)) (by rfl) (.tmp 26) (.tmp 32) _ (by rfl) (w.heap.size + 1 + 1 + 1 + 1) 42 j0 _ 1 8 Tryz.underlying28 hj hy0 hy1 hy2 (by rfl) (by decide) _ _ _ (by rfl) (R3.out.at_ 1 (Nat.succ_lt_succ (Nat.succ_pos _))) [.int .u64 sv] ⟨w3.heap.size, 0, none⟩ (by rfl) (cells_new w3 _ _) (by rfl) (by simp [Value.oneCell']) hle2 (by omega) (by simp; omega) ?_; intro v4 w4 hown4 hg4 hv4; obtain ⟨A5, C5, rfl, -⟩ := own_form hown4; have hb4 : Below (w.heap.size + 1 + 1 + 1 + 1) (w3.alloc (.cells #[.int .u64 sv] 42)) w4 := own_below (R3.out.at_ 1 (Nat.succ_lt_succ (Nat.succ_pos _))) hg4 (Nat.le_refl _) (by simp; omega); obtain ⟨m0, m1, m2, f4⟩ := bkm3 (B3.out.below hb4).2))
        all_goals
          obtain ⟨A6, C6, e6, h6⟩ := S3.out.sta hgl HCB.out.1 hown4 hg4 hv4 0
          have S6 := hide h6
          clear h6 x0 x1 x2 fx cc S4 N6 S3 R3 B3 hown4 hg4 hv4 hb4 m0 m1 m2 f4 y0 y1 y2 fy cy z0
          go_wp2
          go_roundg (gk - 1)
          case rel => exact ⟨k + 1, A4, C4, _, _, l4, s ++ [sv], _, by omega, by omega, by go_num, S6.out⟩
          case measure => omega
    · go_wp2_with (go_at_call 21; refine NX.out.mono ?_; rintro e w2 ⟨rfl, hcd2, hg2⟩; have S2 := hide (S0.out.grown hgl hg2 hcd2); clear hcd2 hg2)
      have nx := codeNext w2 g r'.tail v 3 S2.out.2.2.2.2.2.1 (by omega) (by omega)
      have hvb2 := codeV_bd r'.tail 3 (by omega)
      generalize codeV r'.tail 3 = q2 at hvb2 nx
      have NX2 := hide nx
      clear nx
      refine NX2.out.mono ?_
      rintro e w3 ⟨rfl, hcd3, hg3⟩
      have S3 := hide (S2.out.grown hgl hg3 hcd3)
      obtain ⟨y0, y1, y2, fy⟩ := bkm3 S3.out.2.2.2.2.2.2.2.2
      obtain ⟨z0, z1, z2, fz⟩ := bkm3 S3.out.2.2.2.2.2.2.2.1.1
      clear hcd3 hg3
      have hk1 : 1 ≤ k := by omega
      go_wp2
      have hset : Below w.heap.size w3 ((((w3.setCell ⟨w.heap.size + 1 + 1 + 1, 2, none⟩ (.int .i64 (2 + q2))).setCell ⟨w.heap.size, 0, none⟩ (.slice A1 l.length C1)).setCell ⟨w.heap.size, 1, none⟩ (.slice A2 s.length C2)).setCell ⟨w.heap.size, 2, none⟩ (.int .i64 (2 + q2))) :=
        ((((Below.refl _ _).setCell (by dsimp only; omega) _).setCell (by dsimp only; omega) _).setCell (by dsimp only; omega) _).setCell (by dsimp only; omega) _
      obtain ⟨a1, a2, a3, a4, a5, a6, a7, a8⟩ := S3.out
      have hr := (((a5.far (grownBy_setCell w3 (w.heap.size + 1 + 1 + 1) 2 (.int .i64 (2 + q2))) (by omega)).far (grownBy_setCell _ w.heap.size 0 (.slice A1 l.length C1)) (by omega)).far (grownBy_setCell _ w.heap.size 1 (.slice A2 s.length C2)) (by omega)).far (grownBy_setCell _ w.heap.size 2 (.int .i64 (2 + q2))) (by omega)
      exact bodyPost_ret (v := .agg #[.slice A1 l.length C1, .slice A2 s.length C2, .int .i64 (2 + q2)]) (by simp [results, Tryz.results20, go_sem, z0, z1, z2]) rfl
        ⟨_, _, _, l, s, _, rfl, ⟨fun x hx => own_base (hr.1 x hx) (by omega), hr.2⟩, by omega, by omega, by omega, a3, a4, by omega, by omega, a6.belowB hset hgl,
          ⟨hset.os.trans a7.os, hset.tape.trans a7.tape, hset.output.trans a7.output, Nat.le_trans a7.size hset.size, fun i hi hne => (hset.block i hi).trans (a7.block i hi hne)⟩⟩
end Go.Proofs.YtepngbdjobckbaaGreat
