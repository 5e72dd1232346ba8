/- Several texts in one. -/
import Derived.Test.YtepngbdjobckbaaGreatK
import Derived.StillTail
import Derived.Deep.Quiet
import Derived.Deep.MidRow
import Derived.WalkMore
section
namespace Go.Proofs.YtepngbdjobckbaaGreat
open Go.RowKit

/-- The worlds that grow out of w: what was there is as it was. -/
def Up (w : World) : Type := {w' : World // Below w.heap.size w w'}
theorem Up.bel {w : World} (u : Up w) : Below w.heap.size w u.1 := u.2
instance (w : World) : Nonempty (Up w) := ⟨⟨w, Below.refl _ _⟩⟩
theorem wp_region_up {P : Program} {id : Nat} {Q : Exit → Act → World → Prop} {a : Act} {w : World} {l : List Oper} (hm : P.follows .mixedOrders = true) (hB : Region.lexB .any l.toArray = true)
    (h : wpQuiet P l.toArray (fun w' => ∃ u : Up w, w' = u.1) (fun a' => ∀ w', (∃ u : Up w, w' = u.1) → Q .normal a' w') l a) : (Code.region id l.toArray true).wp P Q a w :=
  wp_region_quiet (C := fun w' => ∃ u : Up w, w' = u.1) hm hB ⟨⟨{ w with drawn := w.drawn + 1 }, ⟨rfl, rfl, rfl, Nat.le_refl _, fun _ _ => rfl⟩⟩, rfl⟩ (by simpa using h)
theorem up_call {P : Program} {f : FuncId} {args : Array Value} {w : World} {u : Up w} {v : Value} (h : Calls P f args u.1 fun e w' => e = .returned v ∧ Below u.1.heap.size u.1 w') :
    Calls P f args u.1 fun e w'' => e = .returned v ∧ ∃ u' : Up w, w'' = u'.1 :=
  h.mono fun _ w' hh => ⟨hh.1, ⟨w', u.2.trans (hh.2.mono u.2.size)⟩, rfl⟩
theorem up_same {P : Program} {f : FuncId} {args : Array Value} {w : World} {u : Up w} {v : Value} (h : Calls P f args u.1 fun e w' => e = .returned v ∧ u.1 = w') :
    Calls P f args u.1 fun e w'' => e = .returned v ∧ ∃ u' : Up w, w'' = u'.1 :=
  h.mono fun _ _ hh => ⟨hh.1, u, hh.2.symm⟩
theorem up_cell {w : World} {p : Addr} {v : Value} (h : w.cell? p = some v) (u : Up w) : u.1.cell? p = some v := (u.2.cell (block_lt h)).trans h
theorem below_self {w : World} : Below w.heap.size w w := Below.refl _ _
theorem below_new (w : World) (o : Obj) : Below w.heap.size w (w.alloc o) := (Below.refl _ _).alloc (Nat.le_refl _) o
theorem below_next {w a b : World} (h : Below w.heap.size w a) (k : Below a.heap.size a b) : Below w.heap.size w b := h.trans (k.mono h.size)

/-! ### Such reads and calls ahead of stores: the head in whatever order, the tail behind it, one by one -/
section
variable {P : Program} {ops : Array Oper} {md : Region.Mode} {C : World → Prop}
/-- The first f operations that come up are of the head, each quiet in the class; then L. -/
def headAny (P : Program) (md : Region.Mode) (ops : Array Oper) (C : World → Prop) (n : Nat) (L : Array Bool → Act → Prop) : Nat → Array Bool → Act → Prop
  | 0, listed, a => L listed a
  | f + 1, listed, a => Region.ready md ops listed ≠ [] ∧ ∀ i ∈ Region.ready md ops listed, i < n ∧ qOp P ops C i (headAny P md ops C n L f (listed.setIfInBounds i true)) a
theorem wpAny_of_headAny {n g : Nat} {L : Array Bool → Act → Prop} {Q' : Exit → Act → World → Prop} (hL : ∀ listed a w, C w → L listed a → wpAny P md ops Q' g listed a w) (f : Nat) :
    ∀ (listed : Array Bool) (a : Act) (w : World), C w → headAny P md ops C n L f listed a → wpAny P md ops Q' (f + g) listed a w := by
  induction f with
  | zero => intro listed a w hw h; rw [Nat.zero_add]; exact hL _ _ _ hw h
  | succ f ih =>
    intro listed a w hw h
    have e : f + 1 + g = (f + g) + 1 := by omega
    rw [e]
    exact ⟨fun h0 => absurd h0 h.1, fun i hi => wpOp_of_qOp hw (fun a' w' hw' h' => ih _ a' w' hw' h') (h.2 i hi).2⟩
theorem headAny_first {n i : Nat} {oi : Oper} {v : Value} {L : Array Bool → Act → Prop} (hi : ops[i]? = some oi) (hsel : ∀ (j : Nat) (o : Oper) cs b, ops[j]? = some o → o.op ≠ .select cs b)
    (hs : Region.sinkB md ops n = true) (hc : Region.chainB md ops n = true) (hn : n < ops.size) (hin : i < n)
    (hdone : ∀ listed a, L listed a → ∀ j ∈ Region.ready md ops listed, n ≤ j) (f : Nat) :
    ∀ (listed : Array Bool) (a : Act), HeadInv md ops n listed →
      (∀ j oj, ops[j]? = some oj → j ≠ i → listed.getD j true = false → (∀ e ∈ oj.after, Region.binds md e = true → e.on ≠ i) → oi.apart ops oj = true) →
      i ∈ Region.ready md ops listed → YieldsIn P ops C oi v a →
      headAny P md ops C n L f (listed.setIfInBounds i true) (a.put oi.dst v) → headAny P md ops C n L (f + 1) listed a := by
  have low : ∀ listed, HeadInv md ops n listed → i ∈ Region.ready md ops listed → ∀ j ∈ Region.ready md ops listed, j < n := fun listed inv hr j hj => by
    rcases Nat.lt_or_ge j n with h | h
    · exact h
    · exact absurd hj (tail_waits hs hc hn inv _ i rfl hin (mem_ready.1 hr).1 j h)
  induction f with
  | zero =>
    intro listed a inv _ hr hy H
    refine ⟨fun h => (by rw [h] at hr; cases hr), fun j hj => ⟨low listed inv hr j hj, ?_⟩⟩
    have hjn := low listed inv hr j hj
    by_cases hji : j = i
    · subst hji; exact hy.qOp hi H
    · have := hdone _ _ H j (ready_mono hj hji)
      omega
  | succ f ih =>
    intro listed a inv hfree hr hy H
    refine ⟨fun h => (by rw [h] at hr; cases hr), fun j hj => ⟨low listed inv hr j hj, ?_⟩⟩
    have hjn := low listed inv hr j hj
    by_cases hji : j = i
    · subst hji; exact hy.qOp hi H
    obtain ⟨hjun, oj, hoj, hall⟩ := mem_ready.1 hj
    have hun := getD_both (mem_ready.1 hr).1
    have hnot : ∀ e ∈ oj.after, Region.binds md e = true → e.on ≠ i := by
      intro e he hb heq
      have h1 := hall e he hb
      rw [heq, hun] at h1
      cases h1
    have h2 := qOp_put hoj (hfree j oj hoj hji hjun hnot) (fun cs b => hsel i oi cs b hi) (fun cs b => hsel j oj cs b hoj) hy (H.2 j (ready_mono hj hji)).2
    refine qOp_mono (fun a' h3 => ih (listed.setIfInBounds j true) a' (inv.set hj hjn) ?_ (ready_mono hr (Ne.symm hji)) h3.1 ?_) h2
    · intro k ok hk hki hk2 hno
      refine hfree k ok hk hki ?_ hno
      by_cases hjk : j = k
      · subst hjk; exact hjun
      · rw [getD_set_ne true hjk] at hk2; exact hk2
    · rw [Array.setIfInBounds_comm _ _ hji]
      exact h3.2
theorem headAny_lex {n g : Nat} {Lq : Act → Prop} (hsel : Region.noSelect ops = true) (hs : Region.sinkB md ops n = true) (hc : Region.chainB md ops n = true) (hn : n < ops.size) (l : List Oper) :
    ∀ (k : Nat) (listed : Array Bool) (a : Act), (∀ j, j < l.length → l[j]? = ops[k + j]?) → k + l.length = n → HeadInv md ops n listed →
    Region.lexHead md ops g l.length k listed = true → wpQuiet P ops C Lq l a →
    headAny P md ops C n (fun listed' a' => Region.seqB md ops g n listed' = true ∧ Lq a') l.length listed a := by
  induction l with
  | nil =>
    intro k listed a _ hk _ hB h
    have e : k = n := by simpa using hk
    subst e
    exact ⟨by simpa [Region.lexHead] using hB, h⟩
  | cons o l ih =>
    intro k listed a hl hk inv hB h
    have h0 : ops[k]? = some o := by simpa using (hl 0 (by simp)).symm
    simp only [List.length_cons, Region.lexHead, Bool.and_eq_true] at hB
    obtain ⟨⟨hr, hf⟩, hB'⟩ := hB
    rw [List.length_cons] at hk
    have hkn : k < n := by omega
    have hr' : k ∈ Region.ready md ops listed := by simpa using hr
    have hst : qOp P ops C k (wpQuiet P ops C Lq l) a := by unfold qOp; simp only [h0]; exact h
    obtain ⟨v, hy, hK⟩ := yieldsIn_of_qOp h0 hst
    refine headAny_first h0 (Region.noSelect_spec hsel) hs hc hn hkn (fun listed' a' hL => seqB_ready hL.1) l.length listed a inv (Region.free_spec h0 hf) hr' hy ?_
    refine ih (k + 1) _ _ (fun j hj => ?_) (by omega) (inv.set hr' hkn) hB' hK
    have := hl (j + 1) (by simp; omega)
    simpa [Nat.add_assoc, Nat.add_comm 1 j] using this
end
/-- A region that draws its order: n operations that read or call what makes memory, then stores. -/
theorem wp_region_up_tail {P : Program} {id : Nat} {Q : Exit → Act → World → Prop} {a : Act} {w : World} {l : List Oper} (n : Nat) (hm : P.follows .mixedOrders = true) (hB : Region.lexTailB .any l.toArray n = true)
    (h : wpQuiet P l.toArray (fun w' => ∃ u : Up w, w' = u.1) (fun a' => ∀ u : Up w, wpList P l.toArray Q (l.drop n) a' u.1) (l.take n) a) : (Code.region id l.toArray true).wp P Q a w := by
  simp only [Region.lexTailB, Bool.and_eq_true, decide_eq_true_eq] at hB
  obtain ⟨⟨⟨⟨hsel, hn⟩, hs⟩, hc⟩, hlex⟩ := hB
  have htl : (l.take n).length = n := by have : n < l.length := by simpa using hn
                                         simp; omega
  have hdl : (l.drop n).length = l.toArray.size - n := by simp
  have inv0 : HeadInv .any l.toArray n (Array.replicate l.toArray.size false) :=
    ⟨by simp, fun j oj _ hl => (by rw [getD_replicate_false] at hl; cases hl), fun t _ ht => getD_in (by simpa using ht) (getD_replicate_false _ _)⟩
  have H := headAny_lex (md := .any) (g := l.toArray.size - n) hsel hs hc hn (l.take n) 0 _ a (fun j hj => by
    have hj' : j < n := by rw [htl] at hj; exact hj
    simp [hj']) (by simpa using htl) inv0 (by rw [htl]; exact hlex) h
  refine wp_region_any hm ?_
  have key := wpAny_of_headAny (Q' := Q) (g := l.toArray.size - n) (fun listed a' w' hw hL => by
    obtain ⟨u, rfl⟩ := hw
    have := wpAny_of_seq (md := .any) (Q' := Q) (l.drop n) n listed a' u.1 (fun j => by simp [List.getElem?_drop]) (by rw [hdl]; exact hL.1) (hL.2 u)
    rwa [hdl] at this) _ _ _ ({ w with drawn := w.drawn + 1 } : World) ⟨⟨{ w with drawn := w.drawn + 1 }, ⟨rfl, rfl, rfl, Nat.le_refl _, fun _ _ => rfl⟩⟩, rfl⟩ H
  rw [htl, show n + (l.toArray.size - n) = l.toArray.size by omega] at key
  exact key
end Go.Proofs.YtepngbdjobckbaaGreat
end
section
namespace Go.Proofs.YtepngbdjobckbaaGreat
open Go.RowKit

/-- The block that a row's address shows has this element type. -/
def TyA (w : World) (A : Option Addr) (n : Nat) (t : TypeId) : Prop := 0 < n → ∃ ad xs, A = some ad ∧ Bk w ad.block t xs
theorem TyA.nil (w : World) (A : Option Addr) (t : TypeId) : TyA w A 0 t := fun h => absurd h (by omega)
theorem TyA.bk {w : World} {g : Nat} {t : TypeId} {xs : Array Value} (h : Bk w g t xs) (o n : Nat) : TyA w (some ⟨g, o, none⟩) n t := fun _ => ⟨_, _, rfl, h⟩
theorem TyA.below {w w' : World} {A : Option Addr} {n : Nat} {t : TypeId} (h : TyA w A n t) (hb : Below w.heap.size w w') : TyA w' A n t := fun hn => by
  obtain ⟨ad, xs, e, k⟩ := h hn
  exact ⟨ad, xs, e, k.below hb k.lt⟩
theorem TyA.alloc {w : World} {A : Option Addr} {n : Nat} {t : TypeId} (h : TyA w A n t) (o : Obj) : TyA (w.alloc o) A n t := h.below ((Below.refl _ _).alloc (Nat.le_refl _) o)
theorem TyA.ne {w : World} {A : Option Addr} {n g : Nat} {t t' : TypeId} {xs : Array Value} (h : TyA w A n t) (k : Bk w g t' xs) (ht : t ≠ t') (hn : 0 < n) : ∀ ad, A = some ad → ad.block ≠ g := by
  intro ad e hg
  obtain ⟨ad', ys, e', k'⟩ := h hn
  rw [e] at e'
  cases e'
  subst hg
  unfold Bk at k k'
  rw [k] at k'
  simp at k'
  exact ht k'.2.symm
theorem Bk.setAny {w : World} {g : Nat} {t : TypeId} {xs : Array Value} (h : Bk w g t xs) (p : Addr) (u : Value) : ∃ ys, Bk (w.setCell p u) g t ys := by
  by_cases e : g = p.block
  · unfold Bk at h ⊢
    unfold World.setCell
    simp only [Array.getElem?_modify, h, ← e, if_true]
    exact ⟨_, rfl⟩
  · exact ⟨xs, h.far e u⟩
theorem TyA.setCell {w : World} {A : Option Addr} {n : Nat} {t : TypeId} (h : TyA w A n t) (p : Addr) (u : Value) : TyA (w.setCell p u) A n t := fun hn => by
  obtain ⟨ad, xs, e, k⟩ := h hn
  obtain ⟨ys, k'⟩ := k.setAny p u
  exact ⟨ad, ys, e, k'⟩
theorem TyA.of_own {w : World} {base : Nat} {e : TypeId} {sz n m c : Nat} {A : Option Addr} {xs : List Value} (h : w.ownsRow base e sz (.slice A n c) m xs) : TyA w A n e := fun hn => by
  rcases h.2 with ⟨h1, h2⟩ | ⟨g, cap, cur, h1, h2, h3, h4⟩
  · injection h1 with _ h _
    omega
  · injection h1 with h _ _
    subst h
    exact ⟨_, _, rfl, h3⟩
theorem TyA.grown {w w' : World} {A : Option Addr} {n : Nat} {t : TypeId} {r : Option Nat} (h : TyA w A n t) (hg : w.grownBy w' r) (hr : ∀ g, r = some g → ∃ t' xs, Bk w g t' xs ∧ t ≠ t') : TyA w' A n t := fun hn => by
  obtain ⟨ad, xs, e, k⟩ := h hn
  refine ⟨ad, xs, e, k.grown hg ?_⟩
  intro e2
  obtain ⟨t', ys, k', ht⟩ := hr _ e2.symm
  exact h.ne k' ht hn ad e rfl
end Go.Proofs.YtepngbdjobckbaaGreat
end
section
namespace Go.Proofs.YtepngbdjobckbaaGreat
open Go.RowKit

theorem Bk.there {w : World} {g n : Nat} {t : TypeId} {cs : Array Value} (h : Bk w g t cs) (hn : cs.size = n) : w.there g 0 n := by
  intro j hj
  rw [Nat.zero_add]
  refine ⟨?_, h.frozen j⟩
  rw [h.cell j, Array.getElem?_eq_getElem (by omega)]
  rfl
theorem below_setCells {B g : Nat} {a : World} (vs : List Value) : ∀ (o : Nat) {w : World}, Below B a w → B ≤ g → Below B a (w.setCells g o vs) := by
  induction vs with
  | nil => intro o w h _; exact h
  | cons v r ih =>
    intro o w h hg
    exact ih (o + 1) (h.setCell (p := ⟨g, o, none⟩) hg v) hg
/-- The block made second (third), behind a call that made memory. -/
theorem at_second {w w2 : World} {o1 : Obj} {cs : Array Value} {t : TypeId} (hb : Below ((w.alloc o1).alloc (.cells cs t)).heap.size ((w.alloc o1).alloc (.cells cs t)) w2) :
    Bk w2 (w.heap.size + 1) t cs ∧ Below w.heap.size w w2 := by
  have h1 : Bk ((w.alloc o1).alloc (.cells cs t)) (w.heap.size + 1) t cs := by simpa using Bk.new (w.alloc o1) t cs
  exact ⟨h1.below hb h1.lt, (((Below.refl _ _).alloc (Nat.le_refl _) o1).alloc (by simp) _).trans (hb.mono (by simp; omega))⟩
theorem at_third {w w2 : World} {o1 o2 : Obj} {cs : Array Value} {t : TypeId} (hb : Below (((w.alloc o1).alloc o2).alloc (.cells cs t)).heap.size (((w.alloc o1).alloc o2).alloc (.cells cs t)) w2) :
    Bk w2 (w.heap.size + 1 + 1) t cs ∧ Below w.heap.size w w2 := by
  have h1 : Bk (((w.alloc o1).alloc o2).alloc (.cells cs t)) (w.heap.size + 1 + 1) t cs := by simpa using Bk.new ((w.alloc o1).alloc o2) t cs
  exact ⟨h1.below hb h1.lt, ((((Below.refl _ _).alloc (Nat.le_refl _) o1).alloc (by simp) o2).alloc (by simp; omega) _).trans (hb.mono (by simp; omega))⟩
/-- The return of a struct that was just stored. -/
theorem ret_struct {P : Program} {fn : Func} {R : Ending → World → Prop} {a : Act} {w : World} {g : Nat} {cells : Array Value} {t : Tmp} {ty : TypeId} {d : TypeDesc} (hf : fn.results = #[.cell t ty]) (ht : a.tmps.getD t undef = .pointer (some ⟨g, 0, none⟩))
    (hth : w.there g 0 cells.size) (hu : P.underlying ty = some d) (hd : d.isRow = true) (hi : (P.info? ty).map (·.size) = some cells.size) (hda : a.defers = []) (hR : R (.returned (.agg cells)) (w.setCells g 0 cells.toList)) :
    bodyPost P fn R .ret a (w.setCells g 0 cells.toList) := by
  refine bodyPost_ret (v := .agg cells) ?_ hda hR
  have h1 : (w.setCells g 0 cells.toList).rangeAt g 0 cells.toList := World.rangeAt_setCells_same w g 0 cells.toList (by simpa using hth)
  have h2 := run_loadVar_mid (P := P) (w.setCells g 0 cells.toList) g 0 ty cells.toList d h1 hu hd (by simpa using hi)
  have ht2 : a.tmps[t]?.getD undef = .pointer (some ⟨g, 0, none⟩) := by simpa using ht
  simp [results, hf, ht2, asAddr, h2]
/-- A struct stored whole; the world behind it stays behind a name. -/
theorem wpList_store_res {P : Program} {ops : Array Oper} {rest : List Oper} {op : Oper} {a : Act} {w : World} {Q : Exit → Act → World → Prop} (hgd : op.guard = none) (ty : TypeId) (x y : Operand) (ho : op.op = .store ty x y)
    (g : Nat) (cells : Array Value) (hx : a.eval x = .pointer (some ⟨g, 0, none⟩)) (hy : a.eval y = .agg cells)
    (ht : w.there g 0 cells.size) (hi : (P.info? ty).map (·.size) = some cells.size) (h1 : cells.all (·.oneCell') = true)
    (h : ∀ w', Hid (w' = w.setCells g 0 cells.toList) → wpList P ops Q rest (a.put op.dst undef) w') : wpList P ops Q (op :: rest) a w :=
  wpList_store_mid hgd ty x y ho g 0 cells hx hy ht hi h1 (h _ rfl)
theorem ret_stored {P : Program} {fn : Func} {R : Ending → World → Prop} {a : Act} {w w' : World} {g : Nat} {cells : Array Value} {t : Tmp} {ty : TypeId} {d : TypeDesc} (hw : Hid (w' = w.setCells g 0 cells.toList)) (hf : fn.results = #[.cell t ty]) (ht : a.tmps.getD t undef = .pointer (some ⟨g, 0, none⟩))
    (hth : w.there g 0 cells.size) (hu : P.underlying ty = some d) (hd : d.isRow = true) (hi : (P.info? ty).map (·.size) = some cells.size) (hda : a.defers = []) (hR : R (.returned (.agg cells)) w') :
    bodyPost P fn R .ret a w' := by
  have hw := hw.out
  subst hw
  exact ret_struct hf ht hth hu hd hi hda hR
theorem below_stored {B g : Nat} {a w w' : World} {vs : List Value} (hw : Hid (w' = w.setCells g 0 vs)) (h : Below B a w) (hg : B ≤ g) : Below B a w' := by
  have hw := hw.out
  subst hw
  exact below_setCells vs 0 h hg
end Go.Proofs.YtepngbdjobckbaaGreat
end
section
namespace Go.Proofs.YtepngbdjobckbaaGreat
open Go.RowKit

/-- As Q; at a goto: the code behind the label goes on (with one jump less). -/
def JQ (P : Program) (c : Code) (Q : Exit → Act → World → Prop) : Nat → Exit → Act → World → Prop
  | 0, .goto _, _, _ => False
  | n + 1, .goto l, a, w => ∃ rest, findLabel c l = some rest ∧ rest.wp P (JQ P c Q n) a w
  | _, e, a, w => Q e a w
section
variable {P : Program} {c : Code} {Q : Exit → Act → World → Prop} {a : Act} {w : World} {n : Nat}
@[go_sem] theorem JQ_normal : JQ P c Q n .normal a w = Q .normal a w := by cases n <;> rfl
@[go_sem] theorem JQ_exit (id : Nat) : JQ P c Q n (.exit id) a w = Q (.exit id) a w := by cases n <;> rfl
@[go_sem] theorem JQ_ret : JQ P c Q n .ret a w = Q .ret a w := by cases n <;> rfl
@[go_sem] theorem JQ_panic (ch : List PanicEntry) : JQ P c Q n (.panic ch) a w = Q (.panic ch) a w := by cases n <;> rfl
theorem JQ_goto (l : Nat) {rest : Code} (hf : findLabel c l = some rest) (h : rest.wp P (JQ P c Q n) a w) : JQ P c Q (n + 1) (.goto l) a w := ⟨rest, hf, h⟩
theorem wp_scope_n (n : Nat) (h : c.wp P (JQ P c Q n) a w) : (Code.scope c).wp P Q a w := by
  intro b k cs
  have key : ∀ n (r : Code) a w, r.wp P (JQ P c Q n) a w → ∃ e a' w', Q e a' w' ∧ Arrives P (lone (b.at a (.code r :: .inScope c :: k)) cs w) b k cs e a' w' := by
    intro n
    induction n with
    | zero =>
      intro r a w h
      obtain ⟨e, a₁, w₁, hq, harr⟩ := h b (.inScope c :: k) cs
      cases e with
      | normal => exact ⟨.normal, a₁, w₁, hq, Steps.trans harr (.one step_inScope)⟩
      | exit id => exact ⟨.exit id, a₁, w₁, hq, fun k' hk => harr k' (by simp [exitTo, hk])⟩
      | goto l => exact hq.elim
      | ret => exact ⟨_, a₁, w₁, hq, harr⟩
      | panic ch => exact ⟨_, a₁, w₁, hq, harr⟩
      | outgrown => exact ⟨_, a₁, w₁, hq, harr⟩
    | succ n ih =>
      intro r a w h
      obtain ⟨e, a₁, w₁, hq, harr⟩ := h b (.inScope c :: k) cs
      cases e with
      | normal => exact ⟨.normal, a₁, w₁, hq, Steps.trans harr (.one step_inScope)⟩
      | exit id => exact ⟨.exit id, a₁, w₁, hq, fun k' hk => harr k' (by simp [exitTo, hk])⟩
      | goto l =>
        obtain ⟨rest, hf, hr⟩ := hq
        obtain ⟨e₂, a₂, w₂, hq₂, harr₂⟩ := ih rest a₁ w₁ hr
        have hg : gotoIn l (.inScope c :: k) = some (.code rest :: .inScope c :: k) := by simp [gotoIn, hf]
        exact ⟨e₂, a₂, w₂, hq₂, .of_steps (harr _ hg) harr₂⟩
      | ret => exact ⟨_, a₁, w₁, hq, harr⟩
      | panic ch => exact ⟨_, a₁, w₁, hq, harr⟩
      | outgrown => exact ⟨_, a₁, w₁, hq, harr⟩
  obtain ⟨e₂, a₂, w₂, hq₂, harr₂⟩ := key n c a w h
  exact ⟨e₂, a₂, w₂, hq₂, .of_steps (.one step_scope) harr₂⟩
end
end Go.Proofs.YtepngbdjobckbaaGreat
end
section
namespace Go.Proofs.YtepngbdjobckbaaGreat
open Go.RowKit

def setAll (z : Array Value) : Nat → List Value → Array Value
  | _, [] => z
  | o, v :: r => setAll (z.setIfInBounds o v) (o + 1) r
theorem setAll_get (vs : List Value) : ∀ (z : Array Value) (o i : Nat), o + vs.length ≤ z.size → (setAll z o vs)[i]? = if o ≤ i ∧ i < o + vs.length then vs[i - o]? else z[i]? := by
  induction vs with
  | nil => intro z o i h; rw [if_neg (by simp)]; rfl
  | cons v r ih =>
    intro z o i h
    simp only [List.length_cons] at h ⊢
    rw [setAll, ih (z.setIfInBounds o v) (o + 1) i (by simp; omega)]
    by_cases h1 : o + 1 ≤ i ∧ i < o + 1 + r.length
    · rw [if_pos h1, if_pos (by omega), show i - o = (i - (o + 1)) + 1 by omega]
      rfl
    · rw [if_neg h1]
      by_cases h2 : i = o
      · subst h2
        rw [if_pos (by omega)]
        simp [show i < z.size by omega]
      · rw [if_neg (by omega), Array.getElem?_setIfInBounds_ne (by omega)]
theorem setAll_all (z cells : Array Value) (h : z.size = cells.size) : setAll z 0 cells.toList = cells := by
  apply Array.ext_getElem?
  intro i
  rw [setAll_get _ _ _ _ (by simp; omega)]
  by_cases hi : i < cells.size
  · rw [if_pos (by simp; omega)]; simp
  · rw [if_neg (by simp; omega), Array.getElem?_eq_none (by omega), Array.getElem?_eq_none (by omega)]
theorem setCell_new (w : World) (z : Array Value) (T : TypeId) (o : Nat) (v : Value) : (w.alloc (.cells z T)).setCell ⟨w.heap.size, o, none⟩ v = w.alloc (.cells (z.setIfInBounds o v) T) := by
  unfold World.setCell World.alloc
  congr 1
  apply Array.ext
  · simp
  · intro i h1 h2
    simp only [Array.getElem_modify, Array.getElem_push]
    by_cases e : w.heap.size = i
    · subst e; simp
    · rw [if_neg e]
      have h3 : i < w.heap.size := by simp at h2; omega
      rw [dif_pos h3, dif_pos h3]
theorem setCells_new (w : World) (T : TypeId) (vs : List Value) : ∀ (o : Nat) (z : Array Value), (w.alloc (.cells z T)).setCells w.heap.size o vs = w.alloc (.cells (setAll z o vs) T) := by
  induction vs with
  | nil => intro o z; rfl
  | cons v r ih =>
    intro o z
    rw [World.setCells, setAll, ← ih (o + 1), setCell_new]
/-- A struct stored whole into the variable that was just made. -/
theorem wpList_store_new {P : Program} {ops : Array Oper} {rest : List Oper} {op : Oper} {a : Act} {w : World} {Q : Exit → Act → World → Prop} (hgd : op.guard = none) (ty : TypeId) (x y : Operand) (ho : op.op = .store ty x y)
    (z cells : Array Value) (T : TypeId) (hx : a.eval x = .pointer (some ⟨w.heap.size, 0, none⟩)) (hy : a.eval y = .agg cells)
    (hz : z.size = cells.size) (hi : (P.info? ty).map (·.size) = some cells.size) (h1 : cells.all (·.oneCell') = true)
    (h : wpList P ops Q rest (a.put op.dst undef) (w.alloc (.cells cells T))) : wpList P ops Q (op :: rest) a (w.alloc (.cells z T)) := by
  refine wpList_store_mid hgd ty x y ho w.heap.size 0 cells hx hy ?_ hi h1 ?_
  · have := (Bk.new w T z).there (n := cells.size) hz
    exact this
  · rw [setCells_new, setAll_all z cells hz]
    exact h
/-- The variables of a call: their blocks, their types, what they hold. -/
def Env (w : World) (L : List (Nat × TypeId × Array Value)) : Prop := ∀ x ∈ L, Bk w x.1 x.2.1 x.2.2
theorem Env.nil (w : World) : Env w [] := fun _ h => by simp at h
theorem Env.new {w : World} {L : List (Nat × TypeId × Array Value)} (h : Env w L) (T : TypeId) (cs : Array Value) : Env (w.alloc (.cells cs T)) ((w.heap.size, T, cs) :: L) := by
  intro x hx
  rcases List.mem_cons.1 hx with rfl | hx
  · exact Bk.new _ _ _
  · exact (h x hx).alloc _
theorem Env.alloc {w : World} {L : List (Nat × TypeId × Array Value)} (h : Env w L) (o : Obj) : Env (w.alloc o) L := fun x hx => (h x hx).alloc o
theorem Env.below {w w' : World} {L : List (Nat × TypeId × Array Value)} (h : Env w L) (hb : Below w.heap.size w w') : Env w' L := fun x hx => (h x hx).below hb (h x hx).lt
theorem Env.far {w w' : World} {L : List (Nat × TypeId × Array Value)} {g : Nat} {vs : List Value} (hw : Hid (w' = w.setCells g 0 vs)) (h : Env w L) (hg : ∀ x ∈ L, x.1 ≠ g) : Env w' L := by
  have hw := hw.out
  subst hw
  intro x hx
  have key : ∀ (vs : List Value) (o : Nat) (w : World), Bk w x.1 x.2.1 x.2.2 → Bk (w.setCells g o vs) x.1 x.2.1 x.2.2 := by
    intro vs
    induction vs with
    | nil => intro o w h; exact h
    | cons v r ih =>
      intro o w h
      exact ih (o + 1) _ (h.far (p := ⟨g, o, none⟩) (hg x hx) v)
  exact key vs 0 w (h x hx)
/-- The block stored into. -/
theorem Bk.stored {w w' : World} {g : Nat} {t : TypeId} {z cells : Array Value} (hw : Hid (w' = w.setCells g 0 cells.toList)) (h : Bk w g t z) (hz : z.size = cells.size) : Bk w' g t cells := by
  have hw := hw.out
  subst hw
  have key : ∀ (vs : List Value) (o : Nat) (w : World) (z : Array Value), Bk w g t z → Bk (w.setCells g o vs) g t (setAll z o vs) := by
    intro vs
    induction vs with
    | nil => intro o w z h; exact h
    | cons v r ih =>
      intro o w z h
      exact ih (o + 1) _ _ (h.set_ o v)
  have := key cells.toList 0 w z h
  rwa [setAll_all z cells hz] at this
theorem Bk.apart {w w' : World} {g g' : Nat} {t : TypeId} {z : Array Value} {vs : List Value} (hw : Hid (w' = w.setCells g' 0 vs)) (h : Bk w g t z) (hne : g ≠ g') : Bk w' g t z :=
  Env.far (L := [(g, t, z)]) hw (fun x hx => by rw [List.mem_singleton.1 hx]; exact h) (fun x hx => by rw [List.mem_singleton.1 hx]; exact hne) _ (List.mem_singleton.2 rfl)
theorem bk2 {w : World} {g : Nat} {t : TypeId} {a0 a1 : Value} (h : Bk w g t #[a0, a1]) : w.cell? ⟨g, 0, none⟩ = some a0 ∧ w.cell? ⟨g, 1, none⟩ = some a1 ∧ ∀ i, w.frozen? ⟨g, i, none⟩ = false :=
  ⟨h.cell 0, h.cell 1, h.frozen⟩
end Go.Proofs.YtepngbdjobckbaaGreat
end
