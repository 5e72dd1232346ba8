/- -/
import Derived.WalkKit
import Derived.ProofKit
import Derived.OpenShut
import Derived.Handy
import Derived.Below
import Derived.Lib.Hide
import Derived.WalkSmall
import Derived.WalkSpells
import Derived.OwnWalk
import Derived.BigQuiet
import Derived.Deep.QuietTactic
import Derived.Deep.Draws
import Derived.Laws.BitsAllLaws
import Derived.Laws.AppendOwn
import Derived.Laws.OwnMore
import Derived.Maps.AppendAt
import Derived.Deep.LoopGhost
import Derived.Deep.RegionLaw
namespace Go.Proofs.YtepngbdjobckbaaGreat
open Go.RowKit

theorem hide {p : Prop} (h : p) : Hid p := h
theorem ret_eq {v u : Value} (h : v = u) : Ending.returned v = .returned u := by rw [h]
theorem ret_int {k : IntKind} {a b : Int} (h : a = b) : Ending.returned (.int k a) = .returned (.int k b) := by rw [h]

/-! ### Quiet calls -/
theorem q_left {P : Program} {f : FuncId} {args : Array Value} {w : World} {n : Nat} {v : Value}
    (h : Calls P f args (w.drewN n) fun e w' => e = .returned v ∧ w.drewN n = w') : Calls P f args (w.drewN n) fun e w'' => e = .returned v ∧ ∃ m, w'' = w.drewN m :=
  h.mono fun _ _ hh => ⟨hh.1, n, hh.2.symm⟩
theorem q_add {P : Program} {f : FuncId} {args : Array Value} {w : World} {a n : Nat} {v : Value}
    (h : Calls P f args (w.drewN (a + n)) fun e w' => e = .returned v ∧ w.drewN (a + n) = w') :
    Calls P f args (w.drewN (a + n)) fun e w'' => e = .returned v ∧ ∃ m, w'' = w.drewN (a + m) :=
  h.mono fun _ _ hh => ⟨hh.1, n, hh.2.symm⟩
/-- A callee that only draws. -/
def Draws (w w' : World) : Prop := ∃ m, w' = w.drewN m
theorem Draws.refl (w : World) : Draws w w := ⟨0, rfl⟩
theorem Draws.drewN (w : World) (n : Nat) : Draws w (w.drewN n) := ⟨n, rfl⟩
theorem q_draws {P : Program} {f : FuncId} {args : Array Value} {w : World} {n : Nat} {v : Value}
    (h : Calls P f args (w.drewN n) fun e w' => e = .returned v ∧ Draws (w.drewN n) w') : Calls P f args (w.drewN n) fun e w'' => e = .returned v ∧ ∃ m, w'' = w.drewN m :=
  h.mono fun _ _ hh => by obtain ⟨he, m, hm⟩ := hh; exact ⟨he, n + m, by rw [hm, World.drewN_drewN]⟩
theorem q_draws_add {P : Program} {f : FuncId} {args : Array Value} {w : World} {a n : Nat} {v : Value}
    (h : Calls P f args (w.drewN (a + n)) fun e w' => e = .returned v ∧ Draws (w.drewN (a + n)) w') :
    Calls P f args (w.drewN (a + n)) fun e w'' => e = .returned v ∧ ∃ m, w'' = w.drewN (a + m) :=
  h.mono fun _ _ hh => by obtain ⟨he, m, hm⟩ := hh; exact ⟨he, n + m, by rw [hm, World.drewN_drewN, Nat.add_assoc]⟩

/-! ### Worlds that follow one another -/
theorem Draws.below {w w' : World} (h : Draws w w') (B : Nat) : Below B w w' := by obtain ⟨m, rfl⟩ := h; exact ⟨rfl, rfl, rfl, Nat.le_refl _, fun _ _ => rfl⟩
theorem below_drewN {B : Nat} {a w : World} (h : Below B a w) (n : Nat) : Below B a (w.drewN n) := ⟨h.os, h.tape, h.output, h.size, h.block⟩
theorem grown_drewN {a w : World} (h : Grown a w) (n : Nat) : Grown a (w.drewN n) := h
theorem below_of_grownBy {w w' : World} {r : Option Nat} (h : w.grownBy w' r) {B : Nat} (hB : B ≤ w.heap.size) (hr : ∀ g, r = some g → B ≤ g) : Below B w w' :=
  (Below.refl B w).grown h hB hr
theorem size_below {B : Nat} {w w' : World} (h : Below B w w') : w.heap.size ≤ w'.heap.size := h.size

/-! ### A slice that reads as a list of cells -/
theorem block_add (a : Addr) (n : Nat) : (a.add n).block = a.block := by unfold Addr.add; split <;> rfl
theorem add_add (a : Addr) (i j : Nat) : (a.add i).add j = a.add (i + j) := by
  unfold Addr.add
  by_cases hi : i = 0 <;> by_cases hj : j = 0 <;> simp [hi, hj, Nat.add_assoc]
def Rds (w : World) (A : Option Addr) (n size : Nat) (xs : List Value) : Prop :=
  xs.length = n * size ∧ (0 < n → ∃ ad, A = some ad ∧ ad.block < w.heap.size ∧ ∀ j u, xs[j]? = some u → w.cell? (ad.add j) = some u)
section
variable {w w' : World} {A : Option Addr} {n size : Nat} {xs : List Value}
theorem Rds.nil (w : World) (A : Option Addr) (size : Nat) : Rds w A 0 size [] := ⟨by simp, fun h => absurd h (by omega)⟩
theorem Rds.keep (h : Rds w A n size xs) (hs : w.heap.size ≤ w'.heap.size) (hk : ∀ p : Addr, p.block < w.heap.size → A.map (·.block) = some p.block → w'.cell? p = w.cell? p) : Rds w' A n size xs :=
  ⟨h.1, fun hn => by
    obtain ⟨ad, e, hb, hc⟩ := h.2 hn
    subst e
    exact ⟨ad, rfl, Nat.lt_of_lt_of_le hb hs, fun j u hu => (hk _ (by rw [block_add]; exact hb) (by rw [block_add]; rfl)).trans (hc j u hu)⟩⟩
theorem Rds.below (h : Rds w A n size xs) (hb : Below w.heap.size w w') : Rds w' A n size xs := h.keep hb.size fun _ hp _ => hb.cell hp
theorem Rds.belowB {B : Nat} (h : Rds w A n size xs) (hb : Below B w w') (hA : 0 < n → ∀ ad, A = some ad → ad.block < B) : Rds w' A n size xs :=
  ⟨h.1, fun hn => by
    obtain ⟨ad, e, hlt, hc⟩ := h.2 hn
    exact ⟨ad, e, Nat.lt_of_lt_of_le hlt hb.size, fun j u hu => (hb.cell (by rw [block_add]; exact hA hn ad e)).trans (hc j u hu)⟩⟩
theorem Rds.drew (h : Rds w A n size xs) : Rds w.drew A n size xs := h
theorem Rds.drewN (h : Rds w A n size xs) (k : Nat) : Rds (w.drewN k) A n size xs := h
theorem Rds.draws (h : Rds w A n size xs) (hd : Draws w w') : Rds w' A n size xs := by obtain ⟨m, rfl⟩ := hd; exact h
theorem Rds.alloc (h : Rds w A n size xs) (o : Obj) : Rds (w.alloc o) A n size xs := h.below ((Below.refl _ _).alloc (Nat.le_refl _) o)
theorem Rds.far (h : Rds w A n size xs) {p : Addr} (hne : ∀ ad, A = some ad → ad.block ≠ p.block) (u : Value) : Rds (w.setCell p u) A n size xs :=
  h.keep (by simp [World.setCell]) fun q _ hq => World.cell?_setCell_other w p q u (fun e => by
    subst e
    cases A with
    | none => cases hq
    | some ad => exact hne ad rfl (by simpa using hq))
theorem Rds.grown (h : Rds w A n size xs) {r : Option Nat} (hg : w.grownBy w' r) (hr : ∀ ad, A = some ad → some ad.block ≠ r) : Rds w' A n size xs :=
  h.keep hg.size fun p hp hq => World.cell?_of_block (hg.block p.block hp (fun e => by
    cases A with
    | none => cases hq
    | some ad => exact hr ad rfl (by rw [← e]; simpa using hq)))
theorem Rds.of_own {base : Nat} {e : TypeId} {c : Nat} (h : w.ownsRow base e size (.slice A n c) n xs) : Rds w A n size xs := by
  refine ⟨h.1, fun hn => ?_⟩
  rcases h.2 with ⟨_, h0⟩ | ⟨g, cap, cur, hv, _, hh, _⟩
  · omega
  · have hA : A = some ⟨g, 0, none⟩ := by injection hv
    subst hA
    exact ⟨_, rfl, (Array.getElem?_eq_some_iff.1 hh).1, h.cells (g := g) rfl⟩
end

/-- A slice of integers. -/
def IsI (k : IntKind) (w : World) (A : Option Addr) (n : Nat) (l : List Int) : Prop := Rds w A n 1 (l.map (Value.int k))
section
variable {k : IntKind} {w w' : World} {A : Option Addr} {n : Nat} {l : List Int}
theorem IsI.len (h : IsI k w A n l) : l.length = n := by have := h.1; simpa using this
theorem IsI.at_ (h : IsI k w A n l) {i : Nat} (hi : i < n) : ∃ ad, A = some ad ∧ ad.block < w.heap.size ∧ w.cell? (ad.add i) = some (.int k (l.getD i 0)) := by
  obtain ⟨ad, e, hb, hc⟩ := h.2 (by omega)
  refine ⟨ad, e, hb, hc i _ ?_⟩
  have hl := h.len
  rw [List.getElem?_map, List.getElem?_eq_getElem (by omega)]
  simp [List.getD, List.getElem?_eq_getElem (show i < l.length by omega)]
theorem IsI.below (h : IsI k w A n l) (hb : Below w.heap.size w w') : IsI k w' A n l := Rds.below h hb
theorem IsI.drewN (h : IsI k w A n l) (m : Nat) : IsI k (w.drewN m) A n l := h
theorem IsI.draws (h : IsI k w A n l) (hd : Draws w w') : IsI k w' A n l := Rds.draws h hd
theorem IsI.alloc (h : IsI k w A n l) (o : Obj) : IsI k (w.alloc o) A n l := Rds.alloc h o
theorem IsI.take (h : IsI k w A n l) {m : Nat} (hm : m ≤ n) : IsI k w A m (l.take m) := by
  have hl := h.len
  refine ⟨by simp; omega, fun h0 => ?_⟩
  obtain ⟨ad, e, hb, hc⟩ := h.2 (by omega)
  refine ⟨ad, e, hb, fun j u hu => hc j u ?_⟩
  rw [List.map_take, List.getElem?_take] at hu
  split at hu
  · exact hu
  · cases hu
theorem IsI.nil (k : IntKind) (w : World) (A : Option Addr) : IsI k w A 0 [] := Rds.nil w A 1
theorem IsI.of_own {base : Nat} {e : TypeId} {c : Nat} (h : w.ownsRow base e 1 (.slice A n c) n (l.map (Value.int k))) : IsI k w A n l := Rds.of_own h
/-- All cells as they came. -/
theorem IsI.of_cells {ad : Addr} {m : Nat} {zs : List Int} (hn : n ≤ m) (hz : zs.length = m) (hb : 0 < m → ad.block < w.heap.size) (hc : ∀ i, i < zs.length → w.cell? (ad.add i) = some (.int k (zs.getD i 0))) : IsI k w (some ad) n (zs.take n) := by
  refine ⟨by simp; omega, fun h => ⟨ad, rfl, hb (by omega), fun j u hu => ?_⟩⟩
  simp only [List.getElem?_map, Option.map_eq_some_iff] at hu
  obtain ⟨x, hx, rfl⟩ := hu
  rw [List.getElem?_take] at hx
  split at hx
  · have hj : j < zs.length := (List.getElem?_eq_some_iff.1 hx).1
    rw [hc j hj]
    simp [List.getD, hx]
  · cases hx
end
/-- What the shell of a law says of a slice that came in. -/
def Row (k : IntKind) (w : World) (a : Option Addr) (len cap : Nat) (zs : List Int) : Prop :=
  (a = none ∧ len = 0 ∧ cap = 0 ∧ zs = []) ∨
  ∃ x, a = some x ∧ len ≤ cap ∧ cap ≤ maxLen ∧ zs.length = cap ∧ (∀ i, i < zs.length → w.cell? (x.add i) = some (.int k (zs.getD i 0))) ∧ ∀ n ∈ zs, (Lit.int k n).wf = true
theorem Row.isI {k : IntKind} {w : World} {a : Option Addr} {len cap : Nat} {zs : List Int} (h : Row k w a len cap zs) :
    IsI k w a len (zs.take len) ∧ len ≤ cap ∧ cap ≤ 9223372036854775807 ∧ ∀ x ∈ zs.take len, (Lit.int k x).wf = true := by
  rcases h with ⟨rfl, rfl, rfl, rfl⟩ | ⟨x, rfl, h1, h2, h3, h4, h5⟩
  · exact ⟨IsI.nil _ _ _, Nat.le_refl _, by omega, fun x hx => by simp at hx⟩
  · refine ⟨IsI.of_cells h1 h3 (fun h0 => ?_) h4, h1, by unfold maxLen at h2; omega, fun x hx => h5 x (List.mem_of_mem_take hx)⟩
    have := World.block_lt_of_cell? w _ (h4 0 (by omega))
    rwa [block_add] at this
theorem block_lt {w : World} {a : Addr} {v : Value} (h : w.cell? a = some v) : a.block < w.heap.size := World.block_lt_of_cell? w a h

/-! ### A block that is known whole -/
def Bk (w : World) (g : Nat) (t : TypeId) (cs : Array Value) : Prop := w.heap[g]? = some (.cells cs t (0, 0))
section
variable {w w' : World} {g : Nat} {t : TypeId} {cs : Array Value}
theorem Bk.lt (h : Bk w g t cs) : g < w.heap.size := (Array.getElem?_eq_some_iff.1 h).1
theorem Bk.cell (h : Bk w g t cs) (i : Nat) : w.cell? ⟨g, i, none⟩ = cs[i]? := cell_of_row w g i cs t (0, 0) h
theorem Bk.frozen (h : Bk w g t cs) (i : Nat) : w.frozen? ⟨g, i, none⟩ = false := by
  unfold Bk at h
  simp [World.frozen?, h]
theorem Bk.new (w : World) (t : TypeId) (cs : Array Value) : Bk (w.alloc (.cells cs t)) w.heap.size t cs := heap_alloc_new w _
theorem Bk.drewN (h : Bk w g t cs) (n : Nat) : Bk (w.drewN n) g t cs := h
theorem Bk.alloc (h : Bk w g t cs) (o : Obj) : Bk (w.alloc o) g t cs := (Below.heap_alloc w o g h.lt).trans h
theorem Bk.set_ (h : Bk w g t cs) (i : Nat) (u : Value) : Bk (w.setCell ⟨g, i, none⟩ u) g t (cs.setIfInBounds i u) := by
  unfold Bk at h ⊢
  simp [World.setCell, Array.getElem?_modify, h]
theorem Bk.far (h : Bk w g t cs) {p : Addr} (hp : g ≠ p.block) (u : Value) : Bk (w.setCell p u) g t cs := (Below.heap_setCell w p u g hp).trans h
theorem Bk.below {B : Nat} (h : Bk w g t cs) (hb : Below B w w') (hg : g < B) : Bk w' g t cs := (hb.block g hg).trans h
theorem Bk.grown {r : Option Nat} (h : Bk w g t cs) (hb : w.grownBy w' r) (hg : some g ≠ r) : Bk w' g t cs := (hb.block g h.lt hg).trans h
end
theorem grownBy_setCell (w : World) (g i : Nat) (u : Value) : w.grownBy (w.setCell ⟨g, i, none⟩ u) (some g) :=
  ⟨rfl, rfl, rfl, by simp [World.setCell], fun k _ hk => Below.heap_setCell _ _ _ _ (fun e => hk (by rw [e]))⟩
theorem grownBy_drewN {w w' : World} {r : Option Nat} (h : w.grownBy w' r) (n : Nat) : w.grownBy (w'.drewN n) r := ⟨h.os, h.tape, h.output, h.size, h.block⟩
theorem grownBy_trans {a b c : World} {r : Option Nat} (h : a.grownBy b r) (k : b.grownBy c r) : a.grownBy c r :=
  ⟨k.os.trans h.os, k.tape.trans h.tape, k.output.trans h.output, Nat.le_trans h.size k.size, fun i hi hne => (k.block i (Nat.lt_of_lt_of_le hi h.size) hne).trans (h.block i hi hne)⟩
theorem grownBy_of_below {a w : World} (h : Below a.heap.size a w) (r : Option Nat) : a.grownBy w r := ⟨h.os, h.tape, h.output, h.size, fun i hi _ => h.block i hi⟩
theorem below_grownBy {B : Nat} {a w w' : World} (h : Below B a w) {g : Nat} (hg : w.grownBy w' (some g)) (hB : B ≤ a.heap.size) (hr : B ≤ g) : Below B a w' :=
  h.grown hg (Nat.le_trans hB h.size) (fun k e => by injection e with e; omega)

/-! ### One element more on a row of the call's own -/
theorem cells_new (w : World) (ys : List Value) (t : TypeId) : ∀ j u, ys[j]? = some u → (w.alloc (.cells ys.toArray t)).cell? ((⟨w.heap.size, 0, none⟩ : Addr).add j) = some u := by
  intro j u hu
  have hadd : (⟨w.heap.size, 0, none⟩ : Addr).add j = ⟨w.heap.size, j, none⟩ := by unfold Addr.add; split <;> simp_all
  rw [hadd, (Bk.new w t ys.toArray).cell j]
  simpa using hu
theorem wpList_push {P : Program} {ops : Array Oper} {rest : List Oper} {o : Oper} {a : Act} {Q : Exit → Act → World → Prop} (w : World) (hgd : o.guard = none) (s x : Operand) (t : TypeId)
    (ho : o.op = .call { callee := .builtin .append, args := #[s, x], argTypes := #[t, t] })
    (base : Nat) (e : TypeId) (i : TypeInfo) (z : Value) (size bytes : Nat) (ht : P.underlying t = some (.slice e)) (hi : P.info? e = some i) (hz : i.zero = some z)
    (hsize : i.size = size) (hby : i.bytes = bytes) (hzs : z.cells.size = size) (hsz : 0 < size)
    (v : Value) (n : Nat) (xs : List Value) (hs : a.eval s = v) (hown : w.ownsRow base e size v n xs)
    (ys : List Value) (hx : a.eval x = .slice (some ⟨w.heap.size, 0, none⟩) 1 1) (hl : ys.length = size) (h1 : ∀ u ∈ ys, u.oneCell' = true)
    (hn : n ≤ 1073741824) (hb8 : bytes ≤ 65536) (hbase : base ≤ w.heap.size)
    (h : ∀ v' w', w'.ownsRow base e size v' (n + 1) (xs ++ ys) → w.grownBy w' v.ownBlock → (v'.ownBlock = v.ownBlock ∨ ∃ g, v'.ownBlock = some g ∧ w.heap.size ≤ g) → wpList P ops Q rest (a.put o.dst v') w') :
    wpList P ops Q (o :: rest) a (w.alloc (.cells ys.toArray e)) := by
  have hm : (n + 1) * bytes ≤ 140737488355328 := Nat.le_trans (Nat.mul_le_mul (show n + 1 ≤ 1073741825 by omega) hb8) (by omega)
  refine wpList_plain hgd fun K hK => ?_
  obtain ⟨v', w', hrun, h2, h3, h4, h5⟩ := run_append_own_at (P := P) (w.alloc (.cells ys.toArray e)) base t o.type e i z size bytes ht hi hz hsize hby hzs hsz v n xs (hown.alloc _) ⟨w.heap.size, 0, none⟩ 1 1 ys (by omega)
    (cells_new w ys e) h1 (by unfold maxLen; omega) hm (by simp; omega)
  unfold Oper.wp execOp
  simp only [ho, resolve, invoke, builtin, Sem.run_bind, Sem.run_pure, Result.andThen_ok, List.map_toArray, List.map_cons, List.map_nil, hs, hx, hrun]
  refine hK _ _ (h v' w' h2 (grownBy_trans (World.grownBy_alloc w _ _) h3) ?_)
  rcases h5 with h5 | h5
  · exact .inl h5
  · exact .inr ⟨_, h5, by simp⟩
/-- The same as one step of a region that draws its order. -/
theorem step_push {P : Program} {ops : Array Oper} {o : Oper} {a : Act} {K : Act → World → Prop} {Q : Exit → Act → World → Prop} {E : Prop} (W : World) (hgd : o.guard = none) (s x : Operand) (t : TypeId)
    (ho : o.op = .call { callee := .builtin .append, args := #[s, x], argTypes := #[t, t] })
    (base : Nat) (e : TypeId) (i : TypeInfo) (z : Value) (size bytes : Nat) (ht : P.underlying t = some (.slice e)) (hi : P.info? e = some i) (hz : i.zero = some z)
    (hsize : i.size = size) (hby : i.bytes = bytes) (hzs : z.cells.size = size) (hsz : 0 < size)
    (v : Value) (n : Nat) (xs : List Value) (hs : a.eval s = v) (hown : W.ownsRow base e size v n xs)
    (ys : List Value) (ad : Addr) (hx : a.eval x = .slice (some ad) 1 1) (hc : ∀ j u, ys[j]? = some u → W.cell? (ad.add j) = some u) (hl : ys.length = size) (h1 : ∀ u ∈ ys, u.oneCell' = true)
    (hn : n ≤ 1073741824) (hb8 : bytes ≤ 65536) (hbase : base ≤ W.heap.size)
    (h : ∀ v' w', w'.ownsRow base e size v' (n + 1) (xs ++ ys) → W.grownBy w' v.ownBlock → K (a.put o.dst v') w') :
    if Region.wanted o (yielded ops a.tmps) = true then Oper.wp P o a W K Q else E := by
  have hm : (n + 1) * bytes ≤ 140737488355328 := Nat.le_trans (Nat.mul_le_mul (show n + 1 ≤ 1073741825 by omega) hb8) (by omega)
  have hw : Region.wanted o (yielded ops a.tmps) = true := by simp [Region.wanted, hgd]
  rw [if_pos hw]
  obtain ⟨v', w', hrun, h2, h3, _⟩ := run_append_own_at (P := P) W base t o.type e i z size bytes ht hi hz hsize hby hzs hsz v n xs hown ad 1 1 ys (by omega) hc h1 (by unfold maxLen; omega) hm hbase
  unfold Oper.wp execOp
  simp only [ho, resolve, invoke, builtin, Sem.run_bind, Sem.run_pure, Result.andThen_ok, List.map_toArray, List.map_cons, List.map_nil, hs, hx, hrun]
  exact h v' w' h2 h3
/-- The same for integers. -/
theorem wpList_pushI {P : Program} {ops : Array Oper} {rest : List Oper} {o : Oper} {a : Act} {Q : Exit → Act → World → Prop} (w : World) (hgd : o.guard = none) (s x : Operand) (t : TypeId)
    (ho : o.op = .call { callee := .builtin .append, args := #[s, x], argTypes := #[t, t] })
    (base : Nat) (e : TypeId) (i : TypeInfo) (k : IntKind) (bytes : Nat) (ht : P.underlying t = some (.slice e)) (hi : P.info? e = some i) (hz : i.zero = some (.int k 0))
    (hsize : i.size = 1) (hby : i.bytes = bytes)
    (v : Value) (l : List Int) (hs : a.eval s = v) (hown : w.ownsRow base e 1 v l.length (l.map (Value.int k)))
    (y : Int) (hx : a.eval x = .slice (some ⟨w.heap.size, 0, none⟩) 1 1)
    (hn : l.length ≤ 1073741824) (hb8 : bytes ≤ 65536) (hbase : base ≤ w.heap.size)
    (h : ∀ v' w', w'.ownsRow base e 1 v' (l ++ [y]).length ((l ++ [y]).map (Value.int k)) → w.grownBy w' v.ownBlock → (v'.ownBlock = v.ownBlock ∨ ∃ g, v'.ownBlock = some g ∧ w.heap.size ≤ g) → wpList P ops Q rest (a.put o.dst v') w') :
    wpList P ops Q (o :: rest) a (w.alloc (.cells #[.int k y] e)) :=
  wpList_push w hgd s x t ho base e i (.int k 0) 1 bytes ht hi hz hsize hby rfl (by decide) v l.length _ hs hown [.int k y] hx rfl (by simp [Value.oneCell']) hn hb8 hbase
    fun v' w' h1 h2 h3 => h v' w' (by simpa using h1) h2 h3
/-- A whole slice more, nil let in. -/
theorem run_cat_nil {P : Program} (w : World) (base : Nat) (t ty e : TypeId) (i : TypeInfo) (size : Nat) (ht : P.underlying t = some (.slice e)) (hi : P.info? e = some i)
    (v : Value) (n : Nat) (xs : List Value) (hown : w.ownsRow base e size v n xs) (c : Nat) : (Builtin.append_ #[t, t] ty #[v, .slice none 0 c]).run P w = .ok v w := by
  rcases hown.2 with ⟨rfl, rfl⟩ | ⟨g, cap, cur, rfl, _, _, hnc, _⟩
  · simp [Builtin.append_, run_underlying ht, sizeOf, typeInfo, hi, Builtin.lenOf, Builtin.firstCells]
  · simp [Builtin.append_, run_underlying ht, sizeOf, typeInfo, hi, Builtin.lenOf, Builtin.firstCells, hnc, storeCells]
theorem wpList_cat {P : Program} {ops : Array Oper} {rest : List Oper} {o : Oper} {a : Act} {Q : Exit → Act → World → Prop} (w : World) (hgd : o.guard = none) (s x : Operand) (t : TypeId)
    (ho : o.op = .call { callee := .builtin .append, args := #[s, x], argTypes := #[t, t] })
    (base : Nat) (e : TypeId) (i : TypeInfo) (z : Value) (size bytes : Nat) (ht : P.underlying t = some (.slice e)) (hi : P.info? e = some i) (hz : i.zero = some z)
    (hsize : i.size = size) (hby : i.bytes = bytes) (hzs : z.cells.size = size) (hsz : 0 < size)
    (v : Value) (n : Nat) (xs : List Value) (hs : a.eval s = v) (hown : w.ownsRow base e size v n xs)
    (A : Option Addr) (m c : Nat) (ys : List Value) (hx : a.eval x = .slice A m c) (hr : Rds w A m size ys) (h1 : ∀ u ∈ ys, u.oneCell' = true)
    (hn : n + m ≤ 1073741824) (hb8 : bytes ≤ 65536) (hbase : base ≤ w.heap.size)
    (h : ∀ v' w', w'.ownsRow base e size v' (n + m) (xs ++ ys) → w.grownBy w' v.ownBlock → (v'.ownBlock = v.ownBlock ∨ v'.ownBlock = some w.heap.size) → wpList P ops Q rest (a.put o.dst v') w') :
    wpList P ops Q (o :: rest) a w := by
  have hm : (n + m) * bytes ≤ 140737488355328 := Nat.le_trans (Nat.mul_le_mul (show n + m ≤ 1073741825 by omega) hb8) (by omega)
  refine wpList_plain hgd fun K hK => ?_
  have fin : ∃ v' w', (Builtin.append_ #[t, t] o.type #[v, .slice A m c]).run P w = .ok v' w' ∧ w'.ownsRow base e size v' (n + m) (xs ++ ys) ∧ w.grownBy w' v.ownBlock ∧ (v'.ownBlock = v.ownBlock ∨ v'.ownBlock = some w.heap.size) := by
    cases A with
    | none =>
      have hm0 : m = 0 := by
        rcases Nat.eq_zero_or_pos m with h0 | h0
        · exact h0
        · obtain ⟨ad, h, _⟩ := hr.2 h0
          cases h
      subst hm0
      have hy : ys = [] := List.eq_nil_of_length_eq_zero (by simpa using hr.1)
      subst hy
      exact ⟨v, w, run_cat_nil w base t o.type e i size ht hi v n xs hown c, by simpa using hown, World.grownBy.refl w _, .inl rfl⟩
    | some ad =>
      have hcells : ∀ j u, ys[j]? = some u → w.cell? (ad.add j) = some u := by
        intro j u hu
        rcases Nat.eq_zero_or_pos m with h0 | h0
        · subst h0
          have hy : ys = [] := List.eq_nil_of_length_eq_zero (by simpa using hr.1)
          subst hy
          simp at hu
        · obtain ⟨ad', h, _, hc⟩ := hr.2 h0
          injection h with h
          subst h
          exact hc j u hu
      obtain ⟨v', w', hrun, h2, h3, _, h5⟩ := run_append_own_at (P := P) w base t o.type e i z size bytes ht hi hz hsize hby hzs hsz v n xs hown ad m c ys hr.1 hcells h1 (by unfold maxLen; omega) hm hbase
      exact ⟨v', w', hrun, h2, h3, h5⟩
  obtain ⟨v', w', hrun, h2, h3, h4⟩ := fin
  unfold Oper.wp execOp
  simp only [ho, resolve, invoke, builtin, Sem.run_bind, Sem.run_pure, Result.andThen_ok, List.map_toArray, List.map_cons, List.map_nil, hs, hx, hrun]
  exact hK _ _ (h v' w' h2 h3 h4)
/-- An owned row's value. -/
theorem own_form {w : World} {base : Nat} {e : TypeId} {size n : Nat} {v : Value} {xs : List Value} (h : w.ownsRow base e size v n xs) :
    ∃ A c, v = .slice A n c ∧ n ≤ c ∧ c ≤ maxLen ∧ (∀ ad, A = some ad → base ≤ ad.block ∧ ad.block < w.heap.size) ∧ (A = none → n = 0) := by
  rcases h.2 with ⟨rfl, rfl⟩ | ⟨g, cap, cur, rfl, hb, hh, h1, h2, _⟩
  · exact ⟨none, 0, rfl, Nat.le_refl _, Nat.zero_le _, (fun _ e => by cases e), fun _ => rfl⟩
  · exact ⟨_, cap, rfl, h1, h2, (fun ad e => by injection e with e; subst e; exact ⟨hb, (Array.getElem?_eq_some_iff.1 hh).1⟩), fun e => by cases e⟩
theorem own_far {w w' : World} {base : Nat} {e : TypeId} {size n g : Nat} {v : Value} {xs : List Value} (hown : w.ownsRow base e size v n xs) (hg : w.grownBy w' (some g)) (h : g < base) : w'.ownsRow base e size v n xs :=
  hown.kept hg (by
    rcases hv : v.ownBlock with _ | k
    · exact .inl rfl
    · right
      intro e
      injection e with e
      have := (hown.lt k hv).1
      omega)
theorem own_bel {w w' : World} {base : Nat} {e : TypeId} {size n : Nat} {v : Value} {xs : List Value} (hown : w.ownsRow base e size v n xs) (hb : Below w.heap.size w w') : w'.ownsRow base e size v n xs :=
  hown.kept (grownBy_of_below hb none) (by cases v.ownBlock <;> simp)
theorem own_below {w w' : World} {base B : Nat} {e : TypeId} {size n : Nat} {v : Value} {xs : List Value} (hown : w.ownsRow base e size v n xs) (hg : w.grownBy w' v.ownBlock) (hB : B ≤ base) (hbase : B ≤ w.heap.size) : Below B w w' :=
  below_of_grownBy hg hbase fun g hg' => Nat.le_trans hB (hown.lt g hg').1
theorem own_below2 {w W w' : World} {base B : Nat} {e : TypeId} {size n : Nat} {v : Value} {xs : List Value} (hown : w.ownsRow base e size v n xs) (hW : Below B w W) (hg : W.grownBy w' v.ownBlock) (hB : B ≤ base) (hbase : B ≤ w.heap.size) : Below B w w' :=
  hW.trans (below_of_grownBy hg (Nat.le_trans hbase hW.size) fun g hg' => Nat.le_trans hB (hown.lt g hg').1)
/-- Two rows in different blocks. -/
def Dis (u v : Value) : Prop := u.ownBlock = none ∨ u.ownBlock ≠ v.ownBlock
theorem own_dis {w w' : World} {base : Nat} {e : TypeId} {size n : Nat} {u v : Value} {xs : List Value} (hown : w.ownsRow base e size u n xs) (hg : w.grownBy w' v.ownBlock) (hd : Dis u v) : w'.ownsRow base e size u n xs :=
  hown.kept hg hd
theorem dis_next {w : World} {base : Nat} {e : TypeId} {size n : Nat} {u v v' : Value} {xs : List Value} (hown : w.ownsRow base e size u n xs) (hd : Dis u v) (h : v'.ownBlock = v.ownBlock ∨ v'.ownBlock = some w.heap.size) : Dis u v' := by
  rcases hu : u.ownBlock with _ | k
  · exact .inl hu
  · right
    rcases h with h | h
    · rw [h]
      rcases hd with hd | hd
      · rw [hd] at hu; cases hu
      · exact hd
    · rw [h, hu]
      intro e
      injection e with e
      have := (hown.lt k hu).2
      omega
theorem Dis.symm {u v : Value} (h : Dis u v) : Dis v u := by
  rcases hv : v.ownBlock with _ | k
  · exact .inl hv
  · right
    rcases h with h | h
    · rw [h, hv]; simp
    · exact fun e => h e.symm
theorem own_base {w : World} {base b : Nat} {e : TypeId} {size n : Nat} {u : Value} {xs : List Value} (h : w.ownsRow base e size u n xs) (hb : b ≤ base) : w.ownsRow b e size u n xs := by
  refine ⟨h.1, ?_⟩
  rcases h.2 with h | ⟨g, cap, cur, h1, h2, h3⟩
  · exact .inl h
  · exact .inr ⟨g, cap, cur, h1, by omega, h3⟩
theorem grownBy_bel {w a b : World} {r : Option Nat} (h : w.grownBy a r) (hb : Below w.heap.size a b) : w.grownBy b r :=
  ⟨hb.os.trans h.os, hb.tape.trans h.tape, hb.output.trans h.output, Nat.le_trans h.size hb.size, fun k hk hne => (hb.block k hk).trans (h.block k hk hne)⟩
end Go.Proofs.YtepngbdjobckbaaGreat
