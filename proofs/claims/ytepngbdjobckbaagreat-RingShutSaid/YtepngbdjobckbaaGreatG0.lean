/- Several texts in one. -/
import Derived.Test.YtepngbdjobckbaaGreatB
import Derived.Test.YtepngbdjobckbaaGreatO
import Derived.Test.YtepngbdjobckbaaGreatW
import Derived.Deep.RegionHeld3
import Derived.Deep.RegionLaw
import Derived.Deep.DeepCutAuto
import Derived.Deep.DrawnRows
import Derived.Test.YtepngbdjobckbaaGreatB5
import Derived.Test.YtepngbdjobckbaaGreatX1
import Derived.Test.YtepngbdjobckbaaGreatGU
import Derived.Deep.AppendLies
import Derived.Test.YtepngbdjobckbaaGreatH
section
namespace Go.Proofs.YtepngbdjobckbaaGreat
open Go.RowKit
set_option linter.unusedVariables false

/-- The program's frame wants and has ended with what the document's machine does. -/
def Good (NX EN : FuncId) (l : List Int) (x : Mc) (q : Fa) : Prop := ∀ W cs, FrA W cs q →
  (Calls Tryz.prog NX #[.agg cs] W fun e w' => e = .returned (.agg (Acc.cells (mnext l x))) ∧ Below W.heap.size W w') ∧
  (Calls Tryz.prog EN #[.agg cs] W fun e w' => e = .returned (.tuple #[.agg #[.int .i64 x.ok, .int .u64 x.ov], .bool ((x.at_ : Int) == 0)]) ∧ Below W.heap.size W w')
end Go.Proofs.YtepngbdjobckbaaGreat
end
section
namespace Go.Proofs.YtepngbdjobckbaaGreat
open Go.RowKit
set_option linter.unusedVariables false
theorem WdH.frozF {w : World} {base G g n c : Nat} {TW : TypeId} {h : Hd} {st : St} (H : WdH w base G TW h st) (hv : h.vF = .slice (some ⟨g, 0, none⟩) n c) : ∀ j, w.frozen? ⟨g, j, none⟩ = false := by
  have hr := H.rF
  rw [hv] at hr
  rcases hr.2 with ⟨h1, _⟩ | ⟨g', c', cur, h1, h2, h3, _⟩
  · cases h1
  · cases h1
    intro j
    exact frozen_of_row w _ j cur _ h3
theorem Wd.base_le {w : World} {base G : Nat} {TW : TypeId} {st : St} (H : Wd w base G TW st) : base ≤ w.heap.size := by
  obtain ⟨h, H⟩ := H
  exact H.base_le
end Go.Proofs.YtepngbdjobckbaaGreat
end
section
namespace Go.Proofs.YtepngbdjobckbaaGreat
open Go.RowKit
set_option linter.unusedVariables false
set_option maxHeartbeats 1000000 in
set_option maxRecDepth 100000 in
theorem Step_end (w : World) (base G i : Nat) (TW : TypeId) (h : Hd) (st : St) (x : Mc) (H : WdH w base G TW h st) (hx : st.ms[i]? = some x) (hat : x.at_ = 0) :
    Calls Tryz.prog 35 #[.pointer (some ⟨G, 0, none⟩), .int .i64 i] w fun e w' => e = .returned (.tuple #[.agg #[.int .u64 0, .bool false, .bool false, .slice none 0 0], .bool false]) ∧ Below w.heap.size w w' := by
  obtain ⟨what, at_, ch, th, ix, kd, v, tt, hh, ok, ov⟩ := x
  dsimp only at hat
  subst hat
  have hi : i < st.ms.length := (List.getElem?_eq_some_iff.1 hx).1
  obtain ⟨gL, cL, eL, hgL⟩ := H.rowL hi
  have bk := H.bk
  rw [Hd.cells, eL] at bk
  have hr := H.rL
  rw [eL] at hr
  have hrg := own_range (mcs_len h st) hr hx
  have d1 : decide ((i : Int) < 0) = false := by simp
  have d2 : decide (st.ms.length ≤ i) = false := by simp; omega
  have hGlt := bk.lt
  have hLlt := (hr.lt gL rfl).2
  obtain ⟨k0, k1, k2, k3, k4, k5, k6, k7, k8, k9, kf⟩ := bk10 bk
  obtain ⟨m0, m1, m2, m3, m4, m5, m6, m7, m8, m9, m10, m11, m12, m13⟩ := rg14 hrg
  clear H hx hr hrg bk eL
  go_enter Tryz.func35, Tryz.ntmps35
  go_wp2
  exact bodyPost_ret (v := .tuple #[.agg #[.int .u64 0, .bool false, .bool false, .slice none 0 0], .bool false]) (by simp [results, Tryz.results35, go_sem]) rfl
    ⟨rfl, by first | exact below_new _ _ | exact ((((below_new _ _).setCell (by simp) _).setCell (by simp) _).setCell (by simp) _).setCell (by simp) _⟩
end Go.Proofs.YtepngbdjobckbaaGreat
end
section
namespace Go.Proofs.YtepngbdjobckbaaGreat
open Go.RowKit
set_option linter.unusedVariables false

/-- What holds of a world of machines. -/
structure Inv (own : Nat → Prop) (Rp : List Int → Mc → Fa → Prop) (st : St) : Prop where
  cap : Cap st.l
  ln : st.qs.length = st.ms.length
  mv : ∀ (i : Nat) x, st.ms[i]? = some x → Mv st.l.length x
  rp : ∀ (i : Nat) x q, st.ms[i]? = some x → st.qs[i]? = some q → own x.what → Rp st.l x q
  wu : ∀ v ∈ st.ws, u64 v
  pl : st.pa.length = st.tr.length
/-- A machine makes its access, if it has not ended. -/
def stp (s : St) (i : Nat) : St := match s.ms[i]? with | none => s | some x => if x.at_ = 0 then s else stS s i x
/-- A world of machines on the heap, the frames left open. -/
def WI (own : Nat → Prop) (Rp : List Int → Mc → Fa → Prop) (w : World) (base G : Nat) (TW : TypeId) (s : St) : Prop := ∃ qs, Wd w base G TW { s with qs := qs } ∧ Inv own Rp { s with qs := qs }
theorem WI.below {own : Nat → Prop} {Rp : List Int → Mc → Fa → Prop} {w w' : World} {base G : Nat} {TW : TypeId} {s : St} (H : WI own Rp w base G TW s) (hb : Below w.heap.size w w') : WI own Rp w' base G TW s := by
  obtain ⟨qs, H1, H2⟩ := H
  exact ⟨qs, H1.below hb, H2⟩
theorem mres_what (l : List Int) (x : Mc) (a : Int) (y : Bool) : (mres l x a y).what = x.what := by
  unfold mres mpush mpop mshut mcount mend mto
  repeat' split
  all_goals rfl
theorem set_get {α : Type} {l : List α} {i j : Nat} {a b : α} (h : (l.set i a)[j]? = some b) : (i = j ∧ b = a) ∨ (i ≠ j ∧ l[j]? = some b) := by
  by_cases e : i = j
  · subst e
    by_cases hi : i < l.length
    · rw [List.getElem?_set_self hi] at h
      cases h
      exact .inl ⟨rfl, rfl⟩
    · rw [List.getElem?_eq_none (by simp; omega)] at h
      cases h
  · rw [List.getElem?_set_ne e] at h
    exact .inr ⟨e, h⟩
theorem Inv.step {own : Nat → Prop} {Rp : List Int → Mc → Fa → Prop} {st : St} (H : Inv own Rp st) {i : Nat} {x : Mc} (hx : st.ms[i]? = some x) (h0 : x.at_ ≠ 0) (q' : Fa)
    (hr : own x.what → Rp st.l (mres st.l x (mapply st.ws (mnext st.l x)).2.1 (mapply st.ws (mnext st.l x)).2.2) q') : Inv own Rp { stS st i x with qs := st.qs.set i q' } := by
  have mvx := H.mv i x hx
  have ok := mnext_ok H.cap mvx h0
  have mu := mapply_u H.wu ok.n
  refine ⟨H.cap, by simp [stS, H.ln], fun j y hy => ?_, fun j y q hy hq ho => ?_, mu.1, by simp [stS, H.pl]⟩
  · rcases set_get hy with ⟨-, rfl⟩ | ⟨-, h⟩
    · exact mvx.res mu.2.1 _
    · exact H.mv j y h
  · rcases set_get hy with ⟨rfl, rfl⟩ | ⟨hne, h⟩
    · rcases set_get hq with ⟨-, rfl⟩ | ⟨h, -⟩
      · exact hr (by rwa [mres_what] at ho)
      · exact absurd rfl h
    · rcases set_get hq with ⟨h, -⟩ | ⟨-, h'⟩
      · exact absurd h hne
      · exact H.rp j y q h h' ho
theorem Inv.step2 {own : Nat → Prop} {Rp : List Int → Mc → Fa → Prop} {st : St} (H : Inv own Rp st) {i : Nat} {x : Mc} (hx : st.ms[i]? = some x) (h0 : x.at_ ≠ 0) (hn : ¬ own x.what) : Inv own Rp (stS st i x) := by
  have mvx := H.mv i x hx
  have ok := mnext_ok H.cap mvx h0
  have mu := mapply_u H.wu ok.n
  refine ⟨H.cap, by simp [stS, H.ln], fun j y hy => ?_, fun j y q hy hq ho => ?_, mu.1, by simp [stS, H.pl]⟩
  · rcases set_get hy with ⟨-, rfl⟩ | ⟨-, h⟩
    · exact mvx.res mu.2.1 _
    · exact H.mv j y h
  · rcases set_get hy with ⟨-, rfl⟩ | ⟨-, h⟩
    · rw [mres_what] at ho
      exact absurd ho hn
    · exact H.rp j y q h hq ho
/-- Step, in the world of a law. -/
theorem Step_any (w : World) (base G i : Nat) (TW : TypeId) (h : Hd) (st : St) (x : Mc) (H : WdH w base G TW h st) (hx : st.ms[i]? = some x) (hc : Cap st.l) (hmv : Mv st.l.length x) (hat : x.at_ ≠ 0) (hu : ∀ v ∈ st.ws, u64 v) (ht : st.tr.length ≤ 1000000) (hp : st.pa.length ≤ 1000000) :
    Calls Tryz.prog 35 #[.pointer (some ⟨G, 0, none⟩), .int .i64 i] w fun e w' => e = .returned (.tuple #[.agg #[.int .u64 (mapply st.ws (mnext st.l x)).2.1, .bool (mapply st.ws (mnext st.l x)).2.2, .bool false, .slice none 0 0], .bool true]) ∧ Wd w' base G TW (stS st i x) ∧ Below base w w' := by
  have ok := mnext_ok hc hmv hat
  have mu := mapply_u hu ok.n
  have hl : st.l.length = h.n := H.cf.len
  have hmv' : Mv h.n x := by rw [← hl]; exact hmv
  have hN := fun W (hW : Below w.heap.size w W) => mnext_any W h.A h.n h.c h.B h.m h.d st.th st.l (H.cf.below hW) x hmv'
  have hA := fun W (hW : Below w.heap.size w W) => mapply_any W h.MA h.mn h.mc h.LA h.ln h.lc h.tk st.ws (mnext st.l x) (H.mi.below hW) (H.mty.below hW) H.mn ok.k (by have := ok.a1; omega) (by have := ok.a2; omega)
  have hR := fun W (hW : Cf W h.A h.n st.l) => mres_any W h.A h.n h.c h.B h.m h.d st.th st.l hW x hmv' (mapply st.ws (mnext st.l x)).2.1 (mapply st.ws (mnext st.l x)).2.2 false none 0 0 mu.2.1
  obtain ⟨what, at_, ch, th, ix, kd, v, tt, hh, okk, ov⟩ := x
  exact Step_core w base G i TW h st what at_ ch th ix kd v tt hh okk ov _ _ _ _ _ H hx hat ht (by rw [H.pa.1]; exact hp) hN hA hR
def Own7 (k : Nat) : Prop := k ≤ 2
def Own12 (k : Nat) : Prop := 7 ≤ k
def Own10 (k : Nat) : Prop := k = 5
def Own11 (k : Nat) : Prop := k = 6
def Own8 (k : Nat) : Prop := k = 3
def Own9 (k : Nat) : Prop := k = 4
/-- What is known of a law's own machines. -/
structure Knows (own : Nat → Prop) (Rp : List Int → Mc → Fa → Prop) (NX EN RS : FuncId) : Prop where
  good : ∀ l x q, Cap l → Mv l.length x → own x.what → Rp l x q → Good NX EN l x q
  res : ∀ l x q, Cap l → Mv l.length x → own x.what → Rp l x q → ∀ (W : World) cs (a : Int) (y z : Bool) (LA : Option Addr) (ln lc : Nat), u64 a → FrA W cs q → Calls Tryz.prog RS #[.agg cs, .agg #[.int .u64 a, .bool y, .bool z, .slice LA ln lc]] W fun e w' => ∃ cs' q', e = .returned (.agg cs') ∧ FrA w' cs' q' ∧ Rp l (mres l x a y) q' ∧ Below W.heap.size W w'
end Go.Proofs.YtepngbdjobckbaaGreat
end
section
namespace Go.Proofs.YtepngbdjobckbaaGreat
open Go.RowKit
set_option linter.unusedVariables false

theorem Tryz.wl_und : ∃ fs, Tryz.prog.underlying 62 = some (.struct fs) := ⟨_, Tryz.underlying62⟩
theorem Tryz.wl_inf : (Tryz.prog.info? 62).map (·.size) = some 9 := by kernel_rfl
theorem wl_one (A : Option Addr) (n c : Nat) (B : Option Addr) (m d : Nat) (t : Int) (C : Option Addr) (p e : Nat) (D : Option Addr) (q f : Nat) : (#[.slice A n c, .slice B m d, .int .i64 t, .slice C p e, .slice D q f, .int .i64 0, .slice none 0 0, .slice none 0 0, .slice none 0 0] : Array Value).all (·.oneCell') = true := by
  refine all_oneCell_toArray (cs := [_, _, _, _, _, _, _, _, _]) fun v hv => ?_
  simp only [List.mem_cons, List.not_mem_nil, or_false] at hv
  rcases hv with rfl | rfl | rfl | rfl | rfl | rfl | rfl | rfl | rfl <;> rfl
set_option maxHeartbeats 1000000 in
set_option maxRecDepth 100000 in
theorem begin_any (w : World) (A : Option Addr) (n c : Nat) (l : List Int) (B : Option Addr) (d : Nat) (s : List Int) (tn : Nat) (hcf : Cf w A n l) (hs : IsI .u64 w B n s) (hst : ∀ x ∈ s, 0 ≤ x ∧ x < 9223372036854775808) (ht1 : 1 ≤ tn) (ht8 : tn ≤ 8) :
    Calls Tryz.prog 14 #[.agg #[.slice A n c, .slice B n d, .int .i64 tn]] w fun e w' => ∃ gW gL : Nat, e = .returned (.agg #[.slice A n c, .slice B n d, .int .i64 tn, .slice (some ⟨gW, 0, none⟩) (totI l tn) (totI l tn), .slice (some ⟨gL, 0, none⟩) (2 * n) (2 * n), .int .i64 0, .slice none 0 0, .slice none 0 0, .slice none 0 0]) ∧ Bk w' gW 42 (wc64 (iniI l s tn)) ∧ w.heap.size ≤ gW ∧ Below w.heap.size w w' := by
  have HS := hide (fun o1 o2 => rnew_any ((w.alloc o1).alloc o2) A n c l B d s tn ((hcf.alloc o1).alloc o2) ((hs.alloc o1).alloc o2) hst ht1 ht8)
  clear hcf hs hst
  go_enter Tryz.func14, Tryz.ntmps14
  go_wp2_with fail
  refine (HS.out _ _).mono ?_
  rintro e w1 ⟨gW, gL, rfl, hk, hg, hb⟩
  obtain ⟨k2, kb⟩ := at_second hb
  have KC := hide ((((Bk.new w 30 #[.slice A n c, .slice B n d, .int .i64 tn]).alloc (.cells #[.slice none 0 0, .slice none 0 0, .int .i64 0, .slice none 0 0, .slice none 0 0, .int .i64 0, .slice none 0 0, .slice none 0 0, .slice none 0 0] 62)).below hb (by simp; omega)).alloc (.cells #[.slice (some ⟨gW, 0, none⟩) (totI l tn) (totI l tn), .slice (some ⟨gL, 0, none⟩) (2 * n) (2 * n), .int .i64 0] 33))
  have HT := hide ((k2.alloc (.cells #[.slice (some ⟨gW, 0, none⟩) (totI l tn) (totI l tn), .slice (some ⟨gL, 0, none⟩) (2 * n) (2 * n), .int .i64 0] 33)).there (n := 9) rfl)
  have HK := hide (hk.alloc (.cells #[.slice (some ⟨gW, 0, none⟩) (totI l tn) (totI l tn), .slice (some ⟨gL, 0, none⟩) (2 * n) (2 * n), .int .i64 0] 33))
  have HB := hide (kb.trans ((below_new w1 (.cells #[.slice (some ⟨gW, 0, none⟩) (totI l tn) (totI l tn), .slice (some ⟨gL, 0, none⟩) (2 * n) (2 * n), .int .i64 0] 33)).mono kb.size))
  have hg' : w.heap.size + 1 < gW := by simp at hg; omega
  have hlt1 := k2.lt
  obtain ⟨c0, c1, c2, -⟩ := bkm3 KC.out
  clear hk hg hb k2 kb KC HS
  go_wp2_with ((with_reducible show wpList _ _ _ _ _ _); refine wpList_store_res (by rfl) 62 _ _ (by rfl) (w.heap.size + 1) #[.slice A n c, .slice B n d, .int .i64 tn, .slice (some ⟨gW, 0, none⟩) (totI l tn) (totI l tn), .slice (some ⟨gL, 0, none⟩) (2 * n) (2 * n), .int .i64 0, .slice none 0 0, .slice none 0 0, .slice none 0 0] (by rfl) (by rfl) HT.out Tryz.wl_inf (wl_one _ _ _ _ _ _ _ _ _ _ _ _ _) ?_; intro wz HZ)
  obtain ⟨fs, hfs⟩ := Tryz.wl_und
  exact ret_stored HZ Tryz.results14 rfl HT.out hfs rfl Tryz.wl_inf rfl ⟨gW, ⟨gL, rfl⟩, Bk.apart HZ HK.out (by omega), by omega, below_stored HZ HB.out (by omega)⟩
end Go.Proofs.YtepngbdjobckbaaGreat
end
section
namespace Go.Proofs.YtepngbdjobckbaaGreat
open Go.RowKit
set_option linter.unusedVariables false
theorem Tryz.mcz_inf : (Tryz.prog.info? 81).map (fun i => (i.zero, i.size, i.bytes)) = some (some (.agg #[.int .i64 0, .int .i64 0, .slice none 0 0, .slice none 0 0, .int .i64 0, .int .i64 0, .int .i64 0, .int .i64 0, .int .i64 0, .int .u64 0, .int .u64 0, .int .u64 0, .int .i64 0, .int .u64 0]), 14, 144) := by kernel_rfl
theorem Tryz.frz_inf : (Tryz.prog.info? 51).map (fun i => (i.zero, i.size, i.bytes)) = some (some (.agg #[.int .i64 0, .int .i64 0, .slice none 0 0, .slice none 0 0, .slice none 0 0]), 5, 88) := by kernel_rfl
theorem grown_push_store {w w5 : World} {r : Option Nat} {g : Nat} (h : w.grownBy w5 r) (hg : some g = r ∨ w.heap.size ≤ g) (o : Nat) (vs : List Value) : w.grownBy (w5.setCells g o vs) r := by
  have h2 := grown_sets (g := g) vs o w5
  refine ⟨h2.os.trans h.os, h2.tape.trans h.tape, h2.output.trans h.output, Nat.le_trans h.size h2.size, fun k hk hne => ?_⟩
  rw [h2.block k (Nat.lt_of_lt_of_le hk h.size) (fun e => ?_), h.block k hk hne]
  injection e with e
  rcases hg with hg | hg
  · exact hne (by rw [e]; exact hg)
  · omega
theorem WdH.apartF {w : World} {base G g : Nat} {TW : TypeId} {h : Hd} {st : St} {ys : Array Value} (H : WdH w base G TW h st) (k : Bk w g 51 ys) (hne : G ≠ g) (hv : h.vF.ownBlock ≠ some g) (o : Nat) (vs : List Value) :
    WdH (w.setCells g o vs) base G TW h st := by
  have kk : ∀ T', T' ≠ 51 → Kp w (w.setCells g o vs) T' := fun T' a => kp_sets a vs o k
  obtain ⟨p1, p2, p3, p4, p5, p6⟩ := H.kps (kk _ (by decide)) (kk _ (by decide))
  refine ⟨H.tw, H.bk.grown (grown_sets vs o w) (by simpa using hne), H.hG, p1, p2, p3, p4, H.mn, own_kp H.rL (kk _ (by decide)), own_kp H.rT (kk _ (by decide)), own_kp H.rP (kk _ (by decide)), H.rF.kept (grown_sets vs o w) ?_, p5, p6, fun hx x hm => kk _ (by decide) _ _ (H.ex hx x hm)⟩
  by_cases e : h.vF.ownBlock = none
  · exact .inl e
  · exact .inr hv
theorem set5_eq (w : World) (g o : Nat) (a b c d e : Value) : ((((w.setCell ⟨g, o, none⟩ a).setCell ⟨g, o + 1, none⟩ b).setCell ⟨g, o + 2, none⟩ c).setCell ⟨g, o + 3, none⟩ d).setCell ⟨g, o + 4, none⟩ e = w.setCells g o [a, b, c, d, e] := rfl
theorem setCell_comm (w : World) {G g : Nat} (hne : G ≠ g) (i o : Nat) (u v : Value) : (w.setCell ⟨G, i, none⟩ u).setCell ⟨g, o, none⟩ v = (w.setCell ⟨g, o, none⟩ v).setCell ⟨G, i, none⟩ u := by
  unfold World.setCell
  congr 1
  apply Array.ext
  · simp
  · intro k h1 h2
    simp only [Array.getElem_modify]
    by_cases e1 : G = k <;> by_cases e2 : g = k
    · omega
    · simp [e1, e2]
    · simp [e1, e2]
    · simp [e1, e2]
theorem set_sets_comm {G g : Nat} (hne : G ≠ g) (i : Nat) (u : Value) (vs : List Value) : ∀ (o : Nat) (w : World), (w.setCell ⟨G, i, none⟩ u).setCells g o vs = (w.setCells g o vs).setCell ⟨G, i, none⟩ u := by
  induction vs with
  | nil => intro o w; rfl
  | cons v r ih =>
    intro o w
    rw [World.setCells, setCell_comm w hne, ih, World.setCells]
/-- The last element of a row. -/
theorem own_last {w : World} {base g n cap sz : Nat} {e : TypeId} {xs ys : List Value} (h : w.ownsRow base e sz (.slice (some ⟨g, 0, none⟩) (n + 1) cap) (n + 1) (xs ++ ys)) (hy : ys.length = sz := by rfl) : w.rangeAt g (n * sz) ys := by
  intro j v hv
  have hj : j < sz := by rw [← hy]; exact (List.getElem?_eq_some_iff.1 hv).1
  have hx : xs.length = n * sz := by
    have := h.1
    rw [List.length_append, hy, Nat.succ_mul] at this
    omega
  rw [h.cellAt (n * sz + j) (by rw [Nat.succ_mul]; omega), List.getElem?_append_right (by omega), hx, Nat.add_sub_cancel_left]
  exact hv
theorem own_ne {w : World} {base g n m cap sz G : Nat} {e TW : TypeId} {xs : List Value} {cs : Array Value} (h : w.ownsRow base e sz (.slice (some ⟨g, 0, none⟩) n cap) m xs) (k : Bk w G TW cs) (hne : TW ≠ e) : g ≠ G := fun e' => by
  obtain ⟨cur, k'⟩ := own_bk h
  subst e'
  unfold Bk at k k'
  rw [k] at k'
  simp at k'
  exact hne k'.2
theorem own_new {w : World} {v : Value} {n cap g : Nat} (h : (Value.slice (some ⟨g, 0, none⟩) n cap).ownBlock = v.ownBlock ∨ ∃ g', (Value.slice (some ⟨g, 0, none⟩) n cap).ownBlock = some g' ∧ w.heap.size ≤ g') : some g = v.ownBlock ∨ w.heap.size ≤ g := by
  rcases h with h | ⟨g', h, hl⟩
  · exact .inl h
  · right
    simp only [Value.ownBlock, Option.some.injEq] at h
    omega
theorem own_push_store {w : World} {base g cap : Nat} {e : TypeId} {l : List (Array Value)} {zs : List Value} (h : w.ownsRow base e 5 (.slice (some ⟨g, 0, none⟩) (l.length + 1) cap) (l.length + 1) (l.flatMap Array.toList ++ zs)) (hl : ∀ x ∈ l, x.toList.length = 5) (cs : Array Value) (hc : cs.toList.length = 5) :
    (w.setCells g (l.length * 5) cs.toList).ownsRow base e 5 (.slice (some ⟨g, 0, none⟩) (l.length + 1) cap) (l.length + 1) (l.flatMap Array.toList ++ cs.toList) := by
  have hx : (l.flatMap Array.toList).length = l.length * 5 := flat_len hl
  have hz : zs.length = 5 := by
    have := h.1
    rw [List.length_append, hx] at this
    omega
  have := own_sets cs.toList (l.length * 5) h
  rw [show l.length * 5 = (l.flatMap Array.toList).length + 0 by omega, setL_app _ _ _ _ (by omega), setL_all _ _ (by omega)] at this
  rw [show l.length * 5 = (l.flatMap Array.toList).length + 0 by omega]
  exact this
end Go.Proofs.YtepngbdjobckbaaGreat
end
section
namespace Go.Proofs.YtepngbdjobckbaaGreat
open Go.RowKit
set_option linter.unusedVariables false

/-- By picks. -/
def pl1 (p : List Int) (s : St) : Nat → St
  | 0 => s
  | j + 1 => stp (pl1 p s j) ((p.getD j 0) % (s.ms.length : Int)).toNat
/-- All in turn. -/
def pl3 (s : St) : Nat → St
  | 0 => s
  | i + 1 => stp (pl3 s i) i
def pl2 (K : Nat) (s : St) : Nat → St
  | 0 => s
  | n + 1 => pl3 (pl2 K s n) K
def plays (p : List Int) (most turns : Nat) (s : St) : St := pl2 s.ms.length (pl1 p s (min p.length most)) turns
theorem stp_len (s : St) (i : Nat) : (stp s i).ms.length = s.ms.length := by
  unfold stp
  split
  · rfl
  · split
    · rfl
    · simp [stS]
theorem stp_tr (s : St) (i : Nat) : (stp s i).tr.length ≤ s.tr.length + 1 := by
  unfold stp
  split
  · omega
  · split
    · omega
    · simp [stS]
theorem WdH.row6 {w : World} {base G : Nat} {TW : TypeId} {h : Hd} {st : St} (H : WdH w base G TW h st) : ∃ A c, h.vL = .slice A st.ms.length c := by
  rcases H.rL.2 with ⟨h1, h2⟩ | ⟨g, cap, cur, h1, h2, _⟩
  · exact ⟨none, 0, by rw [h1, h2]⟩
  · exact ⟨_, _, h1⟩
theorem WI.row6 {own : Nat → Prop} {Rp : List Int → Mc → Fa → Prop} {w : World} {base G : Nat} {TW : TypeId} {s : St} (H : WI own Rp w base G TW s) : base ≤ G ∧ G < w.heap.size ∧ ∃ A c, w.cell? ⟨G, 6, none⟩ = some (.slice A s.ms.length c) := by
  obtain ⟨qs, ⟨h, H⟩, -⟩ := H
  obtain ⟨A, c, e⟩ := H.row6
  have bk := H.bk
  rw [Hd.cells, e] at bk
  exact ⟨H.hG, bk.lt, A, c, (bk10 bk).2.2.2.2.2.2.1⟩
theorem WI.base_le {own : Nat → Prop} {Rp : List Int → Mc → Fa → Prop} {w : World} {base G : Nat} {TW : TypeId} {s : St} (H : WI own Rp w base G TW s) : base ≤ w.heap.size := by
  obtain ⟨qs, ⟨h, H⟩, -⟩ := H
  exact H.base_le
/-- What is known while they play. -/
structure Pi (own : Nat → Prop) (Rp : List Int → Mc → Fa → Prop) (w wr : World) (base G : Nat) (TW : TypeId) (K T : Nat) (s : St) : Prop where
  wi : WI own Rp wr base G TW s
  bl : Below base w wr
  len : s.ms.length = K
  tr : s.tr.length ≤ T
theorem Pi.below {own : Nat → Prop} {Rp : List Int → Mc → Fa → Prop} {w wr wx : World} {base G : Nat} {TW : TypeId} {K T : Nat} {s : St} (H : Pi own Rp w wr base G TW K T s) (h : Below wr.heap.size wr wx) : Pi own Rp w wx base G TW K T s :=
  ⟨H.wi.below h, H.bl.trans (h.mono H.wi.base_le), H.len, H.tr⟩
theorem Pi.drew {own : Nat → Prop} {Rp : List Int → Mc → Fa → Prop} {w wr : World} {base G : Nat} {TW : TypeId} {K T : Nat} {s : St} (H : Pi own Rp w wr base G TW K T s) : Pi own Rp w wr.drew base G TW K T s := H.below (Below.refl _ _).drew
end Go.Proofs.YtepngbdjobckbaaGreat
end
section
namespace Go.Proofs.YtepngbdjobckbaaGreat
open Go.RowKit
set_option linter.unusedVariables false

theorem Tryz.cfg_und : ∃ fs, Tryz.prog.underlying 30 = some (.struct fs) := ⟨_, Tryz.underlying30⟩
theorem Tryz.cfg_inf : (Tryz.prog.info? 30).map (·.size) = some 3 := by kernel_rfl
theorem cfg_one (A : Option Addr) (n c : Nat) (B : Option Addr) (m d : Nat) (t : Int) : (#[.slice A n c, .slice B m d, .int .i64 t] : Array Value).all (·.oneCell') = true := by
  refine all_oneCell_toArray (cs := [_, _, _]) fun v hv => ?_
  simp only [List.mem_cons, List.not_mem_nil, or_false] at hv
  rcases hv with rfl | rfl | rfl <;> rfl
theorem out_one (k v : Int) : (#[.int .i64 k, .int .u64 v] : Array Value).all (·.oneCell') = true := by
  refine all_oneCell_toArray (cs := [_, _]) fun v hv => ?_
  simp only [List.mem_cons, List.not_mem_nil, or_false] at hv
  rcases hv with rfl | rfl <;> rfl
theorem Tryz.out_inf : (Tryz.prog.info? 47).map (·.size) = some 2 := by kernel_rfl
end Go.Proofs.YtepngbdjobckbaaGreat
end
section
namespace Go.Proofs.YtepngbdjobckbaaGreat
open Go.RowKit
set_option linter.unusedVariables false

theorem sta_bd {s : List Int} (h : staOk s) : ∀ x ∈ s, 0 ≤ x ∧ x < 9223372036854775808 := fun x hx => by
  have key : ∀ y ∈ staT, 0 ≤ y ∧ y < 9223372036854775808 := by decide
  exact key x (h x hx)
theorem config_cf2 (w : World) (g : Nat) (r : List Int) (v : Int) (h : Cd w g r v) :
    Calls Tryz.prog 20 #[.pointer (some ⟨g, 0, none⟩)] w fun e w' => ∃ (A : Option Addr) (n c : Nat) (B : Option Addr) (d tn : Nat) (l s r' : List Int), e = .returned (.agg #[.slice A n c, .slice B n d, .int .i64 tn]) ∧ Cf w' A n l ∧ TyA w' A n 3 ∧ IsI .u64 w' B n s ∧ 1 ≤ n ∧ n ≤ 3 ∧ (∀ x ∈ s, 0 ≤ x ∧ x < 9223372036854775808) ∧ 2 ≤ tn ∧ tn ≤ 4 ∧ Cd w' g r' v ∧ w.grownBy w' (some g) := by
  refine (config_any w g r v h).mono ?_
  rintro e w' ⟨u1, u2, t, l, s, r', rfl, hr, h1, h2, h3, h4, h5, h6, h7, h8, h9⟩
  have o1 := hr.at_ 0 (Nat.succ_pos _)
  have o2 := hr.at_ 1 (by show 1 < 2; omega)
  obtain ⟨A, C, e1, -⟩ := own_form o1
  obtain ⟨B, D, e2, -⟩ := own_form o2
  have e1' : u1 = .slice A l.length C := e1
  have e2' : u2 = .slice B s.length D := e2
  subst e1' e2'
  obtain ⟨tn, rfl⟩ := Int.eq_ofNat_of_zero_le (show 0 ≤ t by omega)
  refine ⟨A, l.length, C, B, D, tn, l, s, r', by rw [h3], ⟨IsI.of_own o1, by omega, fun x hx => ?_⟩, TyA.of_own o1, by have := IsI.of_own o2; rwa [h3] at this, h1, h2, sta_bd h5, by omega, by omega, h8, h9⟩
  have := h4 x hx
  omega
theorem iniI_u {l s : List Int} {t : Nat} (hs : ∀ x ∈ s, 0 ≤ x ∧ x < 9223372036854775808) : ∀ v ∈ iniI l s t, u64 v := by
  have hst : ∀ (ws : List Int) (i : Nat) (v : Int), (∀ x ∈ ws, u64 x) → u64 v → ∀ x ∈ ws.set i v, u64 x := fun ws i v h hv x hx => by
    rcases List.mem_or_eq_of_mem_set hx with h1 | h1
    · exact h x h1
    · exact h1 ▸ hv
  have hg : ∀ i, u64 (s.getD i 0) := fun i => by
    by_cases hi : i < s.length
    · have := hs _ (List.getElem_mem hi)
      rw [List.getD, List.getElem?_eq_getElem hi]
      unfold u64
      simp only [Option.getD_some]
      omega
    · rw [List.getD, List.getElem?_eq_none (by omega)]
      unfold u64
      simp
  have h1 : ∀ i n ws, (∀ x ∈ ws, u64 x) → ∀ x ∈ slotsI l s i n ws, u64 x := by
    intro i n ws h
    induction n with
    | zero => exact h
    | succ n ih => exact hst _ _ _ ih (nx_u _ _)
  have h2 : ∀ n ws, (∀ x ∈ ws, u64 x) → ∀ x ∈ chansI l s n ws, u64 x := by
    intro n ws h
    induction n with
    | zero => exact h
    | succ n ih => exact h1 _ _ _ (hst _ _ _ (hst _ _ _ ih (pk_u _ _)) (hg _))
  exact h2 _ _ (fun x hx => by rw [List.eq_of_mem_replicate hx]; unfold u64; omega)
theorem WdH.grown {w w' : World} {base G g : Nat} {TW T : TypeId} {h : Hd} {st : St} {ys : Array Value} (H : WdH w base G TW h st) (hg : w.grownBy w' (some g)) (k : Bk w g T ys) (hne : G ≠ g) (a1 : 3 ≠ T) (a2 : 42 ≠ T) (a3 : 81 ≠ T) (a4 : 58 ≠ T) (a5 : 33 ≠ T) (a6 : 51 ≠ T ∧ 47 ≠ T) :
    WdH w' base G TW h st := by
  have kk : ∀ T', T' ≠ T → Kp w w' T' := fun T' a => kp_oth hg (Oth.bk k a)
  obtain ⟨p1, p2, p3, p4, p5, p6⟩ := H.kps (kk _ a1) (kk _ a2)
  exact ⟨H.tw, H.bk.grown hg (by simpa using hne), H.hG, p1, p2, p3, p4, H.mn, own_kp H.rL (kk _ a3), own_kp H.rT (kk _ a4), own_kp H.rP (kk _ a5), own_kp H.rF (kk _ a6.1), p5, p6, fun hx x hm => kk _ a6.2 _ _ (H.ex hx x hm)⟩
theorem WI.codes {own : Nat → Prop} {Rp : List Int → Mc → Fa → Prop} {w w' : World} {base G g : Nat} {TW : TypeId} {s : St} {r : List Int} {v : Int} (H : WI own Rp w base G TW s) (hg : w.grownBy w' (some g)) (k : Cd w g r v) (hlt : g < base) : WI own Rp w' base G TW s := by
  obtain ⟨qs, ⟨h, H1⟩, H2⟩ := H
  obtain ⟨A, n, c, l, i, kb, -⟩ := k
  have := H1.hG
  exact ⟨qs, ⟨h, H1.grown hg kb (by omega) (by decide) (by decide) (by decide) (by decide) (by decide) (by decide)⟩, H2⟩
/-- A world without machines. -/
def st0 (l s : List Int) (tn : Nat) : St := ⟨l, tn, iniI l s tn, [], [], [], [], []⟩
theorem wi_new {own : Nat → Prop} {Rp : List Int → Mc → Fa → Prop} {w : World} {TW : TypeId} (htw : TWok TW) {A : Option Addr} {n c : Nat} {B : Option Addr} {d tn gW gL : Nat} {l s : List Int} (hcf : Cf w A n l) (hty : TyA w A n 3) (hst : ∀ x ∈ s, 0 ≤ x ∧ x < 9223372036854775808) (ht : tn ≤ 8) (hk : Bk w gW 42 (wc64 (iniI l s tn))) :
    WI own Rp (w.alloc (.cells #[.slice A n c, .slice B n d, .int .i64 tn, .slice (some ⟨gW, 0, none⟩) (totI l tn) (totI l tn), .slice (some ⟨gL, 0, none⟩) (2 * n) (2 * n), .int .i64 0, .slice none 0 0, .slice none 0 0, .slice none 0 0, .slice none 0 0] TW)) w.heap.size w.heap.size TW (st0 l s tn) := by
  have hl := hcf.len
  have hlen : (iniI l s tn).length = totI l tn := by rw [iniI, chansI_len]; simp
  have htl := hcf.tl n (Nat.le_refl _)
  refine ⟨[], ⟨⟨A, n, c, B, n, d, some ⟨gW, 0, none⟩, totI l tn, totI l tn, some ⟨gL, 0, none⟩, 2 * n, 2 * n, 0, .slice none 0 0, .slice none 0 0, .slice none 0 0, .slice none 0 0, [], []⟩, ?_⟩, ?_⟩
  · refine ⟨htw, Bk.new _ _ _, Nat.le_refl _, hcf.alloc _, hty.alloc _, ?_, TyA.bk (hk.alloc _) 0 _, ?_, ?_, ?_, ?_, ?_, All2.nil, All2.nil, fun _ x hm => by simp [st0] at hm⟩
    · refine IsI.alloc ⟨by simp [hlen, st0], fun _ => ⟨_, rfl, hk.lt, fun j u hu => ?_⟩⟩ _
      have hj := (List.getElem?_eq_some_iff.1 hu).1
      have : (⟨gW, 0, none⟩ : Addr).add j = ⟨gW, j, none⟩ := by unfold Addr.add; split <;> simp_all
      rw [this, hk.cell j]
      unfold wc64
      simpa [st0] using hu
    · show totI l tn ≤ 1000000
      unfold totI
      have := hcf.2.1
      rw [hl]
      omega
    all_goals exact ⟨rfl, Or.inl ⟨rfl, rfl⟩⟩
  · exact ⟨⟨by rw [show (st0 l s tn).l = l from rfl, hl]; exact hcf.2.1, hcf.2.2⟩, rfl, fun i x h => by simp [st0] at h, fun i x q h => by simp [st0] at h, iniI_u hst, rfl⟩
/-- A new machine. -/
def mc0 (what ch th : Nat) (v : Int) : Mc := ⟨what, 1, ch, th, v % 4, v % 8, v, 0, 0, 0, 0⟩
theorem Inv.add {own : Nat → Prop} {Rp : List Int → Mc → Fa → Prop} {st : St} (H : Inv own Rp st) {x : Mc} {q : Fa} (hm : Mv st.l.length x) (hr : own x.what → Rp st.l x q) : Inv own Rp { st with ms := st.ms ++ [x], qs := st.qs ++ [q] } := by
  have key : ∀ {α : Type} (l : List α) (a b : α) (i : Nat), (l ++ [a])[i]? = some b → l[i]? = some b ∨ (i = l.length ∧ b = a) := fun l a b i h => by
    rcases Nat.lt_or_ge i l.length with hi | hi
    · rw [List.getElem?_append_left hi] at h
      exact .inl h
    · rw [List.getElem?_append_right hi] at h
      cases e : i - l.length with
      | zero =>
        rw [e] at h
        simp at h
        exact .inr ⟨by omega, h.symm⟩
      | succ k =>
        rw [e] at h
        simp at h
  refine ⟨H.cap, by simp [H.ln], fun i y hy => ?_, fun i y p hy hp ho => ?_, H.wu, H.pl⟩
  · rcases key _ _ _ _ hy with h | ⟨-, rfl⟩
    · exact H.mv i y h
    · exact hm
  · have hln := H.ln
    rcases key _ _ _ _ hy with h | ⟨e1, rfl⟩
    · rcases key _ _ _ _ hp with h' | ⟨e2, -⟩
      · exact H.rp i y p h h' ho
      · have := (List.getElem?_eq_some_iff.1 h).1
        omega
    · rcases key _ _ _ _ hp with h' | ⟨-, rfl⟩
      · have := (List.getElem?_eq_some_iff.1 h').1
        omega
      · exact hr ho
theorem mv0 {n what ch th : Nat} {v : Int} (h1 : 1 ≤ what) (h2 : what ≤ 11) (hc : ch < n) (ht : th ≤ 8) (hv : u64 v) : Mv n (mc0 what ch th v) := by
  have z : u64 0 := by unfold u64; omega
  refine ⟨h1, h2, ?_, hc, ht, z, z, hv, ?_, ?_⟩
  · show 1 ≤ atMax what
    unfold atMax
    repeat' split
    all_goals omega
  · show 0 ≤ v % 4 ∧ v % 4 ≤ 7
    omega
  · show 0 ≤ v % 8 ∧ v % 8 ≤ 7
    omega
end Go.Proofs.YtepngbdjobckbaaGreat
end
section
namespace Go.Proofs.YtepngbdjobckbaaGreat
open Go.RowKit
set_option linter.unusedVariables false
theorem WI.row0 {own : Nat → Prop} {Rp : List Int → Mc → Fa → Prop} {w : World} {base G : Nat} {TW : TypeId} {s : St} (H : WI own Rp w base G TW s) : ∃ A c, w.cell? ⟨G, 0, none⟩ = some (.slice A s.l.length c) := by
  obtain ⟨qs, ⟨h, H⟩, -⟩ := H
  have bk := H.bk
  have hl : s.l.length = h.n := H.cf.len
  rw [Hd.cells] at bk
  rw [hl]
  exact ⟨h.A, h.c, (bk10 bk).1⟩
end Go.Proofs.YtepngbdjobckbaaGreat
end
section
namespace Go.Proofs.YtepngbdjobckbaaGreat
open Go.RowKit
set_option linter.unusedVariables false
theorem store_cells {w : World} {g o : Nat} {cells : Array Value} (ht : w.there g o cells.size) (h1 : cells.all (·.oneCell') = true) : (storeCells ⟨g, o, none⟩ cells.toList).run Tryz.prog w = .ok () (w.setCells g o cells.toList) := by
  have := run_storeCells_cells (P := Tryz.prog) g o cells.toList 0 w (fun j hj => by simpa using (ht j (by simpa using hj)).1) (fun j hj => by simpa using (ht j (by simpa using hj)).2)
    (fun v hv => (Array.all_eq_true_iff_forall_mem.1 h1) v (by simpa using hv))
  simpa using this
theorem own_two {w : World} {base g g' n n' m m' cap cap' sz sz' : Nat} {e e' : TypeId} {xs xs' : List Value} (h : w.ownsRow base e sz (.slice (some ⟨g, 0, none⟩) n cap) m xs) (h' : w.ownsRow base e' sz' (.slice (some ⟨g', 0, none⟩) n' cap') m' xs') (hne : e ≠ e') : g ≠ g' := by
  obtain ⟨cur, k⟩ := own_bk h'
  exact own_ne h k (Ne.symm hne)
theorem z_u64 : u64 0 := by unfold u64; omega
theorem Inv.put {own : Nat → Prop} {Rp : List Int → Mc → Fa → Prop} {st : St} (H : Inv own Rp st) {r : Nat} {x : Mc} {q : Fa} (hm : Mv st.l.length x) (hr : own x.what → Rp st.l x q) : Inv own Rp { st with ms := st.ms.set r x, qs := st.qs.set r q } := by
  refine ⟨H.cap, by simp [H.ln], fun i y hy => ?_, fun i y p hy hp ho => ?_, H.wu, H.pl⟩
  · rcases set_get hy with ⟨-, rfl⟩ | ⟨-, h⟩
    · exact hm
    · exact H.mv i y h
  · rcases set_get hy with ⟨rfl, rfl⟩ | ⟨hne, h⟩
    · rcases set_get hp with ⟨-, rfl⟩ | ⟨h, -⟩
      · exact hr ho
      · exact absurd rfl h
    · rcases set_get hp with ⟨h1, -⟩ | ⟨-, h'⟩
      · exact absurd h1 hne
      · exact H.rp i y p h h' ho
end Go.Proofs.YtepngbdjobckbaaGreat
end
