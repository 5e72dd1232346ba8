/- Codes.Wide. -/
import Derived.Test.YtcaencocmfkfaaaC
import Derived.Test.YtcaencocmfkfaaaW
import Derived.Test.YtcaencocmfkfaaaGA
import Derived.Deep.RegionHeld3
import Derived.Deep.RegionLaw
import Derived.Deep.DeepCutAuto
import Derived.Deep.DrawnRows
namespace Go.Proofs.Ytcaencocmfkfaaa
open Go.RowKit
set_option linter.unusedVariables false
attribute [local irreducible] Go.bits
attribute [local go_sem ↓] Go.wp_at_zero Go.wp_at_succ

theorem Try.i64_infV : (Try.prog.info? 3).map (fun i => (i.zero, i.size, i.bytes)) = some (some (.int .i64 0), 1, 8) := by kernel_rfl
/-- A configuration that a call has made: its two rows are its own, from base on, apart from one another. -/
def cfgV (u v : Value) (l s : List Int) : List Rw := [⟨u, 3, 1, l.length, l.map (Value.int .i64)⟩, ⟨v, 33, 1, s.length, s.map (Value.int .u64)⟩]
def capOkV (l : List Int) : Prop := ∀ x ∈ l, 0 ≤ x ∧ x ≤ 16
def staOkV (s : List Int) : Prop := ∀ x ∈ s, 0 ≤ x ∧ x < 9223372036854775808
/-- The struct and the tables of Config. -/
def CfgU (w : World) (N : Nat) (u v : Value) : Prop := Bk w N 25 #[.slice none 0 0, .slice none 0 0, .int .i64 0] ∧ Bk w (N + 1) 25 #[u, v, .int .i64 0]
theorem CfgU.grown {w w' : World} {N g : Nat} {u v : Value} (h : CfgU w N u v) (hg : w.grownBy w' (some g)) (hlt : g < N) : CfgU w' N u v :=
  ⟨h.1.grown hg (by intro e; injection e with e; omega), h.2.grown hg (by intro e; injection e with e; omega)⟩
theorem CfgU.below {w w' : World} {N : Nat} {u v : Value} (h : CfgU w N u v) (hb : Below (N + 1 + 1) w w') : CfgU w' N u v :=
  ⟨h.1.below hb (by omega), h.2.below hb (by omega)⟩
theorem CfgU.alloc {w : World} {N : Nat} {u v : Value} (h : CfgU w N u v) (o : Obj) : CfgU (w.alloc o) N u v := ⟨h.1.alloc o, h.2.alloc o⟩
theorem CfgU.set0 {w : World} {N : Nat} {u v : Value} (h : CfgU w N u v) (u' : Value) : CfgU (w.setCell ⟨N + 1, 0, none⟩ u') N u' v :=
  ⟨h.1.far (by show N ≠ N + 1; omega) _, h.2.set_ 0 u'⟩
theorem CfgU.set1 {w : World} {N : Nat} {u v : Value} (h : CfgU w N u v) (v' : Value) : CfgU (w.setCell ⟨N + 1, 1, none⟩ v') N u v' :=
  ⟨h.1.far (by show N ≠ N + 1; omega) _, h.2.set_ 1 v'⟩
theorem grownBy_ownV {a w w' : World} {g base : Nat} {m : Option Nat} (h : a.grownBy w (some g)) (hg : w.grownBy w' m) (hm : ∀ k, m = some k → base ≤ k) (hb : a.heap.size ≤ base) : a.grownBy w' (some g) :=
  ⟨hg.os.trans h.os, hg.tape.trans h.tape, hg.output.trans h.output, Nat.le_trans h.size hg.size, fun i hi hne => (hg.block i (Nat.lt_of_lt_of_le hi h.size) (fun e => by have := hm i e.symm; omega)).trans (h.block i hi hne)⟩
/-- Where Config stands between two statements. -/
def CfgV (w wx : World) (g : Nat) (k k2 : Nat) (r : List Int) (v : Int) (A1 : Option Addr) (C1 : Nat) (A2 : Option Addr) (C2 : Nat) (l s : List Int) : Prop :=
  l.length = k ∧ s.length = k2 ∧ capOkV l ∧ staOkV s ∧ Rws wx (w.heap.size + 1 + 1) (cfgV (.slice A1 l.length C1) (.slice A2 s.length C2) l s) ∧ Cd wx g r v ∧ w.grownBy wx (some g) ∧ CfgU wx w.heap.size (.slice A1 l.length C1) (.slice A2 s.length C2)
theorem CfgV.cap {w w3 w4 : World} {g k : Nat} {r : List Int} {v cv : Int} {A1 A2 : Option Addr} {C1 C2 : Nat} {l s : List Int} (hgl : g < w.heap.size) (h : CfgV w w3 g k k r v A1 C1 A2 C2 l s) (hc : 0 ≤ cv ∧ cv ≤ 16) {v4 : Value}
    (hown : w4.ownsRow (w.heap.size + 1 + 1) 3 1 v4 (l.length + 1) (l.map (Value.int .i64) ++ [.int .i64 cv])) (hg : (w3.alloc (.cells #[.int .i64 cv] 3)).grownBy w4 (Value.slice A1 l.length C1).ownBlock)
    (hv : v4.ownBlock = (Value.slice A1 l.length C1).ownBlock ∨ ∃ q, v4.ownBlock = some q ∧ (w3.alloc (.cells #[.int .i64 cv] 3)).heap.size ≤ q) (n : Nat) :
    ∃ A4 C4, v4 = .slice A4 (l.length + 1) C4 ∧ CfgV w ((w4.setCell ⟨w.heap.size + 1, 0, none⟩ v4).drewN n) g (k + 1) k r v A4 C4 A2 C2 (l ++ [cv]) s := by
  obtain ⟨h1, h2, h3, h4, hr, hd, hgb, hb⟩ := h
  obtain ⟨A4, C4, rfl, -⟩ := own_form hown
  refine ⟨A4, C4, rfl, by simp [h1], h2, ?_, h4, ?_, ?_, ?_, ?_⟩
  · intro x hx
    rcases List.mem_append.1 hx with hx | hx
    · exact h3 x hx
    · simp only [List.mem_singleton] at hx
      rw [hx]; exact hc
  all_goals
    have hx := hb.2.lt
    have hr3 := hr.alloc (.cells #[.int .i64 cv] 3)
    have hb4 : Below (w.heap.size + 1 + 1) (w3.alloc (.cells #[.int .i64 cv] 3)) w4 := own_below (hr3.at_ 0 (Nat.succ_pos _)) hg (Nat.le_refl _) (by simp; omega)
    have hset : Below w.heap.size w4 (w4.setCell ⟨w.heap.size + 1, 0, none⟩ (.slice A4 (l.length + 1) C4)) := (Below.refl _ w4).setCell (p := ⟨w.heap.size + 1, 0, none⟩) (show w.heap.size ≤ w.heap.size + 1 by omega) _
  · have hown5 : w4.ownsRow (w.heap.size + 1 + 1) 3 1 (.slice A4 (l.length + 1) C4) (l ++ [cv]).length ((l ++ [cv]).map (Value.int .i64)) := by simpa using hown
    have hr4 := hr3.upd 0 (Nat.succ_pos _) ⟨.slice A4 (l.length + 1) C4, 3, 1, (l ++ [cv]).length, (l ++ [cv]).map (Value.int .i64)⟩ hown5 hg hv
    have e : (l ++ [cv]).length = l.length + 1 := by simp
    rw [e]
    exact (hr4.far (grownBy_setCell w4 (w.heap.size + 1) 0 (.slice A4 (l.length + 1) C4)) (by omega)).drewN n
  · exact (((hd.alloc (.cells #[.int .i64 cv] 3)).belowB (hb4.mono (by omega)) hgl).belowB hset hgl).drewN n
  · have hg4 := grownBy_ownV (grownBy_trans hgb (grownBy_of_below (below_new _ _) (some g))) hg (base := w.heap.size + 1 + 1) (fun q e => ((hr3.at_ 0 (Nat.succ_pos _)).lt q e).1) (by omega)
    exact grownBy_drewN ⟨hset.os.trans hg4.os, hset.tape.trans hg4.tape, hset.output.trans hg4.output, Nat.le_trans hg4.size hset.size, fun i hi hne => (hset.block i hi).trans (hg4.block i hi hne)⟩ n
  · have e : (l ++ [cv]).length = l.length + 1 := by simp
    rw [e]
    have := ((hb.alloc (.cells #[.int .i64 cv] 3)).below hb4).set0 (.slice A4 (l.length + 1) C4)
    exact ⟨this.1.drewN n, this.2.drewN n⟩
theorem CfgV.sta {w w3 w4 : World} {g k : Nat} {r : List Int} {v cv : Int} {A1 A2 : Option Addr} {C1 C2 : Nat} {l s : List Int} (hgl : g < w.heap.size) (h : CfgV w w3 g (k + 1) k r v A1 C1 A2 C2 l s) (hc : 0 ≤ cv ∧ cv < 9223372036854775808) {v4 : Value}
    (hown : w4.ownsRow (w.heap.size + 1 + 1) 33 1 v4 (s.length + 1) (s.map (Value.int .u64) ++ [.int .u64 cv])) (hg : (w3.alloc (.cells #[.int .u64 cv] 33)).grownBy w4 (Value.slice A2 s.length C2).ownBlock)
    (hv : v4.ownBlock = (Value.slice A2 s.length C2).ownBlock ∨ ∃ q, v4.ownBlock = some q ∧ (w3.alloc (.cells #[.int .u64 cv] 33)).heap.size ≤ q) (n : Nat) :
    ∃ A4 C4, v4 = .slice A4 (s.length + 1) C4 ∧ CfgV w ((w4.setCell ⟨w.heap.size + 1, 1, none⟩ v4).drewN n) g (k + 1) (k + 1) r v A1 C1 A4 C4 l (s ++ [cv]) := by
  obtain ⟨h1, h2, h3, h4, hr, hd, hgb, hb⟩ := h
  obtain ⟨A4, C4, rfl, -⟩ := own_form hown
  refine ⟨A4, C4, rfl, h1, by simp [h2], h3, ?_, ?_, ?_, ?_, ?_⟩
  · intro x hx
    rcases List.mem_append.1 hx with hx | hx
    · exact h4 x hx
    · simp only [List.mem_singleton] at hx
      rw [hx]; exact hc
  all_goals
    have hx := hb.2.lt
    have hr3 := hr.alloc (.cells #[.int .u64 cv] 33)
    have hb4 : Below (w.heap.size + 1 + 1) (w3.alloc (.cells #[.int .u64 cv] 33)) w4 := own_below (hr3.at_ 1 (Nat.succ_lt_succ (Nat.succ_pos _))) hg (Nat.le_refl _) (by simp; omega)
    have hset : Below w.heap.size w4 (w4.setCell ⟨w.heap.size + 1, 1, none⟩ (.slice A4 (s.length + 1) C4)) := (Below.refl _ w4).setCell (p := ⟨w.heap.size + 1, 1, none⟩) (show w.heap.size ≤ w.heap.size + 1 by omega) _
  · have hown5 : w4.ownsRow (w.heap.size + 1 + 1) 33 1 (.slice A4 (s.length + 1) C4) (s ++ [cv]).length ((s ++ [cv]).map (Value.int .u64)) := by simpa using hown
    have hr4 := hr3.upd 1 (Nat.succ_lt_succ (Nat.succ_pos _)) ⟨.slice A4 (s.length + 1) C4, 33, 1, (s ++ [cv]).length, (s ++ [cv]).map (Value.int .u64)⟩ hown5 hg hv
    have e : (s ++ [cv]).length = s.length + 1 := by simp
    rw [e]
    exact (hr4.far (grownBy_setCell w4 (w.heap.size + 1) 1 (.slice A4 (s.length + 1) C4)) (by omega)).drewN n
  · exact (((hd.alloc (.cells #[.int .u64 cv] 33)).belowB (hb4.mono (by omega)) hgl).belowB hset hgl).drewN n
  · have hg4 := grownBy_ownV (grownBy_trans hgb (grownBy_of_below (below_new _ _) (some g))) hg (base := w.heap.size + 1 + 1) (fun q e => ((hr3.at_ 1 (Nat.succ_lt_succ (Nat.succ_pos _))).lt q e).1) (by omega)
    exact grownBy_drewN ⟨hset.os.trans hg4.os, hset.tape.trans hg4.tape, hset.output.trans hg4.output, Nat.le_trans hg4.size hset.size, fun i hi hne => (hset.block i hi).trans (hg4.block i hi hne)⟩ n
  · have e : (s ++ [cv]).length = s.length + 1 := by simp
    rw [e]
    have := ((hb.alloc (.cells #[.int .u64 cv] 33)).below hb4).set1 (.slice A4 (s.length + 1) C4)
    exact ⟨this.1.drewN n, this.2.drewN n⟩
theorem CfgV.grown {w w2 w3 : World} {g k k2 : Nat} {r r2 : List Int} {v : Int} {A1 A2 : Option Addr} {C1 C2 : Nat} {l s : List Int} (hgl : g < w.heap.size) (h : CfgV w w2 g k k2 r v A1 C1 A2 C2 l s) (hg : w2.grownBy w3 (some g)) (hd : Cd w3 g r2 v) : CfgV w w3 g k k2 r2 v A1 C1 A2 C2 l s := by
  obtain ⟨h1, h2, h3, h4, hr, -, hgb, hb⟩ := h
  exact ⟨h1, h2, h3, h4, hr.far hg (by omega), hd, grownBy_trans hgb hg, hb.grown hg hgl⟩
theorem CfgV.drewN {w w2 : World} {g k k2 : Nat} {r : List Int} {v : Int} {A1 A2 : Option Addr} {C1 C2 : Nat} {l s : List Int} (h : CfgV w w2 g k k2 r v A1 C1 A2 C2 l s) (n : Nat) : CfgV w (w2.drewN n) g k k2 r v A1 C1 A2 C2 l s := by
  obtain ⟨h1, h2, h3, h4, hr, hd, hgb, hb⟩ := h
  exact ⟨h1, h2, h3, h4, hr.drewN n, hd.drewN n, grownBy_drewN hgb n, ⟨hb.1.drewN n, hb.2.drewN n⟩⟩
theorem Try.u64_infV : (Try.prog.info? 33).map (fun i => (i.zero, i.size, i.bytes)) = some (some (.int .u64 0), 1, 8) := by kernel_rfl
theorem bkm3V {w : World} {g : Nat} {t : TypeId} {a0 a1 a2 : Value} (h : Bk w g t #[a0, a1, a2]) :
    w.cell? ⟨g, 0, none⟩ = some a0 ∧ w.cell? ⟨g, 1, none⟩ = some a1 ∧ w.cell? ⟨g, 2, none⟩ = some a2 ∧ ∀ i, w.frozen? ⟨g, i, none⟩ = false :=
  ⟨h.cell 0, h.cell 1, h.cell 2, h.frozen⟩

set_option maxHeartbeats 40000000 in
set_option maxRecDepth 100000 in
theorem wide_any (w : World) (g : Nat) (r : List Int) (v : Int) (h : Cd w g r v) :
    Calls Try.prog 9 #[.pointer (some ⟨g, 0, none⟩)] w fun e w' => ∃ (u1 u2 : Value) (t : Int) (l s r' : List Int), e = .returned (.agg #[u1, u2, .int .i64 t]) ∧ Rws w' w.heap.size (cfgV u1 u2 l s) ∧ l.length ≤ 8 ∧ s.length = l.length ∧ capOkV l ∧ staOkV s ∧ 1 ≤ t ∧ t ≤ 8 ∧ Cd w' g r' v ∧ w.grownBy w' (some g) := by
  obtain ⟨i0, hi, hz0, hz1, hz2⟩ := info_parts Try.i64_infV
  obtain ⟨j0, hj, hy0, hy1, hy2⟩ := info_parts Try.u64_infV
  have H := hide h
  have hgl := h.lt
  clear h
  go_enter Try.func9, Try.ntmps9
  go_wp2
  have HC0 := hide ((H.out.alloc (.cells #[.slice none 0 0, .slice none 0 0, .int .i64 0] 25)).alloc (.cells #[.slice none 0 0, .slice none 0 0, .int .i64 0] 25))
  have HK1 := hide ((Bk.new w 25 #[.slice none 0 0, .slice none 0 0, .int .i64 0]).alloc (.cells #[.slice none 0 0, .slice none 0 0, .int .i64 0] 25))
  have HK2 : Hid (Bk ((w.alloc (.cells #[.slice none 0 0, .slice none 0 0, .int .i64 0] 25)).alloc (.cells #[.slice none 0 0, .slice none 0 0, .int .i64 0] 25)) (w.heap.size + 1) 25 #[.slice none 0 0, .slice none 0 0, .int .i64 0]) := hide (by
    have := Bk.new (w.alloc (.cells #[.slice none 0 0, .slice none 0 0, .int .i64 0] 25)) 25 #[.slice none 0 0, .slice none 0 0, .int .i64 0]
    simpa using this)
  have HBE := hide (((Below.refl w.heap.size w).alloc (Nat.le_refl _) (.cells #[.slice none 0 0, .slice none 0 0, .int .i64 0] 25)).trans ((below_new _ (.cells #[.slice none 0 0, .slice none 0 0, .int .i64 0] 25)).mono (by simp)))
  have hR0 : ∀ W, Rws W (w.heap.size + 1 + 1) (cfgV (.slice none 0 0) (.slice none 0 0) [] []) := fun W => ⟨fun r hr => by
    unfold cfgV at hr
    simp only [List.mem_cons, List.not_mem_nil, or_false] at hr
    rcases hr with rfl | rfl <;> exact World.ownsRow_nil _ _ _ _, by
    unfold cfgV
    refine List.Pairwise.cons ?_ (List.Pairwise.cons (by simp) List.Pairwise.nil)
    intro b _
    exact .inl rfl⟩
  go_loopg [4] 9 (fun m i wr => ∃ (k : Nat) (A1 : Option Addr) (C1 : Nat) (A2 : Option Addr) (C2 : Nat) (l s r' : List Int), m + k = 9 ∧ k ≤ 8 ∧ i = .int .i64 k ∧ CfgV w wr g k k r' v A1 C1 A2 C2 l s)
  case atStart => exact ⟨0, none, 0, none, 0, [], [], r, by omega, by omega, rfl, rfl, rfl, by simp [capOkV], by simp [staOkV], hR0 _, HC0.out, grownBy_of_below HBE.out _, HK1.out, HK2.out⟩
  case round =>
    obtain ⟨k, A1, C1, A2, C2, l, s, r', hk, hk3, rfl, hS⟩ := hrel
    obtain ⟨wo, hwo⟩ : ∃ x, x = wr := ⟨_, rfl⟩
    subst hwo
    have S0 := hide hS
    have hvb := codeV_bd r' 9 (by omega)
    have nx := codeNext wo g r' v 9 hS.2.2.2.2.2.1 (by omega) (by omega)
    generalize codeV r' 9 = q at hvb nx
    have NX := hide nx
    clear nx hS HC0 hR0 HK1 HK2 HBE
    by_cases hlt : (k : Int) < q
    · go_upto_region 5 with (go_at_call 10; refine NX.out.mono ?_; rintro e w2 ⟨rfl, hcd2, hg2⟩; have S2 := hide (S0.out.grown hgl hg2 hcd2); clear hcd2 hg2)
      obtain ⟨cv, hcv⟩ : ∃ cv, codeV r'.tail 17 = cv := ⟨_, rfl⟩
      have hcb := codeV_bd r'.tail 17 (by omega)
      rw [hcv] at hcb
      have hcb2 : 0 ≤ cv ∧ cv ≤ 16 := by omega
      have n6 : ∀ W, Cd W g r'.tail v → Calls Try.prog 10 #[.pointer (some ⟨g, 0, none⟩), .int .i64 17] W fun e w' => e = .returned (.int .i64 cv) ∧ Cd w' g r'.tail.tail v ∧ W.grownBy w' (some g) := fun W hW => by
        have := codeNext W g r'.tail v 17 hW (by omega) (by omega)
        rwa [hcv] at this
      have N6 := hide n6
      obtain ⟨x0, x1, x2, fx⟩ := bkm3V S2.out.2.2.2.2.2.2.2.2
      have hle : l.length ≤ 1073741824 := by have := S2.out.1; omega
      clear n6 hcv
      go_cut [] (fun wx => ∃ (A4 : Option Addr) (C4 : Nat) (l4 r3 : List Int), CfgV w wx g (k + 1) k r3 v A4 C4 A2 C2 l4 s)
      case first =>
        go_region_law (first
          | (refine step_call _ (by rfl) 10 _ (by go_simp) (N6.out _ (S2.out.2.2.2.2.2.1.drewN 1)) ?_; rintro e w3 ⟨rfl, hcd3, hg3⟩; refine ⟨_, rfl, ?_⟩; have S3 := hide ((S2.out.drewN 1).grown hgl hg3 hcd3); obtain ⟨y0, y1, y2, fy⟩ := bkm3V S3.out.2.2.2.2.2.2.2.2; have hx3 : w.heap.size + 1 < w3.heap.size := S3.out.2.2.2.2.2.2.2.2.lt; have z0 := (World.cell?_alloc_lt w3 (.cells #[.int .i64 cv] 3) ⟨w.heap.size + 1, 0, none⟩ hx3).trans y0; have R3 := hide (S3.out.2.2.2.2.1.alloc (.cells #[.int .i64 cv] 3)); have B3 := hide (S3.out.2.2.2.2.2.2.2.alloc (.cells #[.int .i64 cv] 3)))
          | (refine step_push3 (w3.alloc (.cells #[.int .i64 cv] 3)) (by rfl) (.tmp 12) (.tmp 15) _ (by rfl) (w.heap.size + 1 + 1) 3 i0 _ 1 8 Try.underlying22 hi hz0 hz1 hz2 (by rfl) (by decide) _ _ _ (by rfl) (R3.out.at_ 0 (Nat.succ_pos _)) [.int .i64 cv] ⟨w3.heap.size, 0, none⟩ (by rfl) (cells_new w3 _ _) (by rfl) (by simp [Value.oneCell']) hle (by omega) (by simp; omega) ?_; intro v4 w4 hown4 hg4 hv4; obtain ⟨A4, C4, rfl, -⟩ := own_form hown4; have hb4 : Below (w.heap.size + 1 + 1) (w3.alloc (.cells #[.int .i64 cv] 3)) w4 := own_below (R3.out.at_ 0 (Nat.succ_pos _)) hg4 (Nat.le_refl _) (by simp; omega); obtain ⟨m0, m1, m2, f4⟩ := bkm3V (B3.out.below hb4).2))
        all_goals
          obtain ⟨A5, C5, e5, h5⟩ := S3.out.cap hgl hcb2 hown4 hg4 hv4 0
          go_wp2_with fail
          go_meet
          case rel => exact ⟨_, _, _, _, h5⟩
      case rest =>
        obtain ⟨A4, C4, l4, r3, hS4⟩ := hcut
        have S4 := hide hS4
        clear hS4 x0 x1 x2 fx S2 N6 hcb hcb2
        obtain ⟨p1, hp1⟩ : ∃ cv, codeV r3 256 = cv := ⟨_, rfl⟩
        obtain ⟨p2, hp2⟩ : ∃ cv, codeV r3.tail 256 = cv := ⟨_, rfl⟩
        have hb1 := codeV_bd r3 256 (by omega)
        have hb2 := codeV_bd r3.tail 256 (by omega)
        rw [hp1] at hb1
        rw [hp2] at hb2
        have n6 : ∀ W, Cd W g r3 v → Calls Try.prog 10 #[.pointer (some ⟨g, 0, none⟩), .int .i64 256] W fun e w' => e = .returned (.int .i64 p1) ∧ Cd w' g r3.tail v ∧ W.grownBy w' (some g) := fun W hW => by
          have := codeNext W g r3 v 256 hW (by omega) (by omega)
          rwa [hp1] at this
        have N6 := hide n6
        have n7 : ∀ W, Cd W g r3.tail v → Calls Try.prog 10 #[.pointer (some ⟨g, 0, none⟩), .int .i64 256] W fun e w' => e = .returned (.int .i64 p2) ∧ Cd w' g r3.tail.tail v ∧ W.grownBy w' (some g) := fun W hW => by
          have := codeNext W g r3.tail v 256 hW (by omega) (by omega)
          rwa [hp2] at this
        have N7 := hide n7
        obtain ⟨sh, hsh⟩ : ∃ x, IntKind.u64.wrap (p1 * 36028797018963968) = x := ⟨_, rfl⟩
        obtain ⟨sm, hsm⟩ : ∃ x, IntKind.u64.wrap (sh + p2) = x := ⟨_, rfl⟩
        have hsm0 : 0 ≤ sm ∧ sm ≤ 18446744073709551615 := by rw [← hsm, wrap_u64]; omega
        obtain ⟨sv, hsv⟩ : ∃ x, sm % 9223372036854775808 = x := ⟨_, rfl⟩
        have hsv2 : sm.tmod 9223372036854775808 = sv := by rw [Int.tmod_eq_emod_of_nonneg hsm0.1, hsv]
        have hsvb : 0 ≤ sv ∧ sv < 9223372036854775808 := by omega
        have hw1 : IntKind.u64.wrap p1 = p1 := by rw [wrap_u64]; omega
        have hw2 : IntKind.u64.wrap p2 = p2 := by rw [wrap_u64]; omega
        have hw3 : IntKind.u64.wrap sv = sv := by rw [wrap_u64]; omega
        have HSV := hide hsvb
        have HN1 := hide hb1
        clear hp1 hp2 n6 n7 hsv hb1 hb2 hsm0 hsvb
        have hle2 : s.length ≤ 1073741824 := by have := S4.out.2.1; omega
        obtain ⟨x0, x1, x2, fx⟩ := bkm3V S4.out.2.2.2.2.2.2.2.2
        go_upto_region 6 with fail
        go_region_law (first
          | (have _ := HNA.out; refine step_call _ (by rfl) 10 _ (by go_simp) (N7.out _ S5.out.2.2.2.2.2.1) ?_; rintro e w3 ⟨rfl, hcd3, hg3⟩; refine ⟨_, rfl, ?_⟩; have S3 := hide (S5.out.grown hgl hg3 hcd3); obtain ⟨y0, y1, y2, fy⟩ := bkm3V S3.out.2.2.2.2.2.2.2.2; have hx3 : w.heap.size + 1 < w3.heap.size := S3.out.2.2.2.2.2.2.2.2.lt; have z0 := (World.cell?_alloc_lt w3 (.cells #[.int .u64 sv] 33) ⟨w.heap.size + 1, 1, none⟩ hx3).trans y1; have R3 := hide (S3.out.2.2.2.2.1.alloc (.cells #[.int .u64 sv] 33)); have B3 := hide (S3.out.2.2.2.2.2.2.2.alloc (.cells #[.int .u64 sv] 33)))
          | (refine step_call _ (by rfl) 10 _ (by go_simp) (N6.out _ (S4.out.2.2.2.2.2.1.drewN 1)) ?_; rintro e w5 ⟨rfl, hcd5, hg5⟩; refine ⟨_, rfl, ?_⟩; have HNA := hide trivial; have S5 := hide ((S4.out.drewN 1).grown hgl hg5 hcd5); obtain ⟨y50, y51, y52, fy5⟩ := bkm3V S5.out.2.2.2.2.2.2.2.2)
          | (refine step_push3 (w3.alloc (.cells #[.int .u64 sv] 33)) (by rfl) (.tmp 19) (.tmp 29) _ (by rfl) (w.heap.size + 1 + 1) 33 j0 _ 1 8 Try.underlying23 hj hy0 hy1 hy2 (by rfl) (by decide) _ _ _ (by rfl) (R3.out.at_ 1 (Nat.succ_lt_succ (Nat.succ_pos _))) [.int .u64 sv] ⟨w3.heap.size, 0, none⟩ (by rfl) (cells_new w3 _ _) (by rfl) (by simp [Value.oneCell']) hle2 (by omega) (by simp; omega) ?_; intro v4 w4 hown4 hg4 hv4; obtain ⟨A5, C5, rfl, -⟩ := own_form hown4; have hb4 : Below (w.heap.size + 1 + 1) (w3.alloc (.cells #[.int .u64 sv] 33)) w4 := own_below (R3.out.at_ 1 (Nat.succ_lt_succ (Nat.succ_pos _))) hg4 (Nat.le_refl _) (by simp; omega); obtain ⟨m0, m1, m2, f4⟩ := bkm3V (B3.out.below hb4).2))
        all_goals
          obtain ⟨A6, C6, e6, h6⟩ := S3.out.sta hgl HSV.out hown4 hg4 hv4 0
          have S6 := hide h6
          clear h6 x0 x1 x2 fx S4 N6 N7 S3 R3 B3 hown4 hg4 hv4 hb4 m0 m1 m2 f4 y0 y1 y2 fy z0
          go_wp2
          go_roundg (gk - 1)
          case rel => exact ⟨k + 1, A4, C4, _, _, l4, s ++ [sv], _, by omega, by omega, by go_num, S6.out⟩
          case measure => omega
    · go_wp2_with fail
      refine NX.out.mono ?_
      rintro e w2 ⟨rfl, hcd2, hg2⟩
      have S2 := hide (S0.out.grown hgl hg2 hcd2)
      clear hcd2 hg2
      have nx := codeNext w2 g r'.tail v 8 S2.out.2.2.2.2.2.1 (by omega) (by omega)
      have hvb2 := codeV_bd r'.tail 8 (by omega)
      generalize codeV r'.tail 8 = q2 at hvb2 nx
      have NX2 := hide nx
      clear nx
      go_wp2_with fail
      refine NX2.out.mono ?_
      rintro e w3 ⟨rfl, hcd3, hg3⟩
      have S3 := hide (S2.out.grown hgl hg3 hcd3)
      obtain ⟨y0, y1, y2, fy⟩ := bkm3V S3.out.2.2.2.2.2.2.2.2
      obtain ⟨z0, z1, z2, fz⟩ := bkm3V S3.out.2.2.2.2.2.2.2.1
      clear hcd3 hg3
      go_wp2
      have hset : Below w.heap.size w3 ((((w3.setCell ⟨w.heap.size + 1, 2, none⟩ (.int .i64 (1 + q2))).setCell ⟨w.heap.size, 0, none⟩ (.slice A1 l.length C1)).setCell ⟨w.heap.size, 1, none⟩ (.slice A2 s.length C2)).setCell ⟨w.heap.size, 2, none⟩ (.int .i64 (1 + q2))) :=
        ((((Below.refl _ _).setCell (by dsimp only; omega) _).setCell (by dsimp only; omega) _).setCell (by dsimp only; omega) _).setCell (by dsimp only; omega) _
      obtain ⟨a1, a2, a3, a4, a5, a6, a7, a8⟩ := S3.out
      have hr := (((a5.far (grownBy_setCell w3 (w.heap.size + 1) 2 (.int .i64 (1 + q2))) (by omega)).far (grownBy_setCell _ w.heap.size 0 (.slice A1 l.length C1)) (by omega)).far (grownBy_setCell _ w.heap.size 1 (.slice A2 s.length C2)) (by omega)).far (grownBy_setCell _ w.heap.size 2 (.int .i64 (1 + q2))) (by omega)
      exact bodyPost_ret (v := .agg #[.slice A1 l.length C1, .slice A2 s.length C2, .int .i64 (1 + q2)]) (by simp [results, Try.results9, go_sem, z0, z1, z2]) rfl
        ⟨_, _, _, l, s, _, rfl, ⟨fun x hx => own_base (hr.1 x hx) (by omega), hr.2⟩, by omega, by omega, a3, a4, by omega, by omega, a6.belowB hset hgl,
          ⟨hset.os.trans a7.os, hset.tape.trans a7.tape, hset.output.trans a7.output, Nat.le_trans a7.size hset.size, fun i hi hne => (hset.block i hi).trans (a7.block i hi hne)⟩⟩
end Go.Proofs.Ytcaencocmfkfaaa
