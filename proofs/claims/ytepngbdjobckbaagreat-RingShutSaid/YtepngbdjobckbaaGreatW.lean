/- -/
import Derived.Test.YtepngbdjobckbaaGreatGU
namespace Go.Proofs.YtepngbdjobckbaaGreat
open Go.RowKit
set_option linter.unusedVariables false

/-- A row of a call's own: its value, its elements' type and size, how many, the cells. -/
structure Rw where
  v : Value
  e : TypeId
  sz : Nat
  n : Nat
  xs : List Value
/-- Rows from base on, each in a block of its own. -/
def Rws (w : World) (base : Nat) (rs : List Rw) : Prop := (∀ r ∈ rs, w.ownsRow base r.e r.sz r.v r.n r.xs) ∧ rs.Pairwise fun a b => Dis a.v b.v
theorem dis_sym {u v : Value} (h : Dis u v) : Dis v u := h.symm
section
variable {w w' : World} {base : Nat} {rs : List Rw}
theorem Rws.at_ (h : Rws w base rs) (i : Nat) (hi : i < rs.length) : w.ownsRow base rs[i].e rs[i].sz rs[i].v rs[i].n rs[i].xs := h.1 _ (List.getElem_mem hi)
theorem Rws.dis (h : Rws w base rs) {i j : Nat} (hi : i < rs.length) (hj : j < rs.length) (hne : i ≠ j) : Dis rs[i].v rs[j].v := by
  rcases Nat.lt_or_ge i j with h1 | h1
  · exact List.pairwise_iff_getElem.1 h.2 i j hi hj h1
  · exact (List.pairwise_iff_getElem.1 h.2 j i hj hi (by omega)).symm
theorem Rws.below (h : Rws w base rs) (hb : Below w.heap.size w w') : Rws w' base rs := ⟨fun r hr => own_bel (h.1 r hr) hb, h.2⟩
theorem Rws.drewN (h : Rws w base rs) (k : Nat) : Rws (w.drewN k) base rs := h.below (below_drewN (Below.refl _ _) k)
theorem Rws.alloc (h : Rws w base rs) (o : Obj) : Rws (w.alloc o) base rs := h.below ((Below.refl _ _).alloc (Nat.le_refl _) o)
theorem Rws.far (h : Rws w base rs) {g : Nat} (hg : w.grownBy w' (some g)) (hlt : g < base) : Rws w' base rs := ⟨fun r hr => own_far (h.1 r hr) hg hlt, h.2⟩
/-- One row is written, or laid anew. -/
theorem Rws.upd (h : Rws w base rs) (i : Nat) (hi : i < rs.length) (r' : Rw) (hown : w'.ownsRow base r'.e r'.sz r'.v r'.n r'.xs) (hg : w.grownBy w' rs[i].v.ownBlock)
    (hv : r'.v.ownBlock = rs[i].v.ownBlock ∨ ∃ g, r'.v.ownBlock = some g ∧ w.heap.size ≤ g) : Rws w' base (rs.set i r') := by
  have key : ∀ j (hj : j < rs.length), j ≠ i → Dis rs[j].v r'.v := by
    intro j hj hne
    have hd := h.dis hj hi hne
    rcases hu : rs[j].v.ownBlock with _ | k
    · exact .inl hu
    · right
      rcases hv with hv | ⟨g, hv, hgg⟩
      · rw [hv]
        rcases hd with hd | hd
        · rw [hd] at hu; cases hu
        · exact hd
      · rw [hv, hu]
        intro e
        injection e with e
        have := ((h.at_ j hj).lt k hu).2
        omega
  refine ⟨fun r hr => ?_, ?_⟩
  · obtain ⟨j, hj, rfl⟩ := List.mem_iff_getElem.1 hr
    rw [List.length_set] at hj
    rw [List.getElem_set]
    by_cases e : i = j
    · simp only [e, if_true]
      exact hown
    · simp only [e, if_false]
      exact (h.at_ j hj).kept hg (h.dis hj hi (fun e' => e e'.symm))
  · rw [List.pairwise_iff_getElem]
    intro a b ha hb hab
    rw [List.length_set] at ha hb
    rw [List.getElem_set, List.getElem_set]
    by_cases ea : i = a
    · have eb : ¬ i = b := by omega
      simp only [ea, if_true]
      rw [if_neg (by omega)]
      exact (key b hb (by omega)).symm
    · by_cases eb : i = b
      · rw [if_neg ea, if_pos eb]
        exact key a ha (by omega)
      · rw [if_neg ea, if_neg eb]
        exact h.dis ha hb (by omega)
end
theorem Rws.nil (w : World) (base : Nat) : Rws w base [] := ⟨by simp, List.Pairwise.nil⟩
/-- The mutable blocks. -/
def Rws.blocks (G : Nat) (rs : List Rw) : List (Option Nat) := some G :: rs.map (·.v.ownBlock)
/-- A slice of integers that lies in none of some blocks. -/
def Dat (w : World) (ms : List (Option Nat)) (k : IntKind) (A : Option Addr) (n : Nat) (l : List Int) : Prop :=
  IsI k w A n l ∧ ∀ ad, A = some ad → ad.block < w.heap.size ∧ ∀ m ∈ ms, m ≠ some ad.block
section
variable {w w' : World} {ms : List (Option Nat)} {k : IntKind} {A : Option Addr} {n : Nat} {l : List Int}
theorem Dat.below (h : Dat w ms k A n l) (hb : Below w.heap.size w w') : Dat w' ms k A n l := ⟨h.1.below hb, fun ad e => ⟨Nat.lt_of_lt_of_le (h.2 ad e).1 hb.size, (h.2 ad e).2⟩⟩
theorem Dat.grown (h : Dat w ms k A n l) {m : Option Nat} (hm : m ∈ ms) (hg : w.grownBy w' m) : Dat w' ms k A n l :=
  ⟨Rds.grown h.1 hg (fun ad e => fun e2 => (h.2 ad e).2 m hm e2.symm), fun ad e => ⟨Nat.lt_of_lt_of_le (h.2 ad e).1 hg.size, (h.2 ad e).2⟩⟩
/-- The blocks are others now: each an old one, or new. -/
theorem Dat.turn (h : Dat w ms k A n l) {ms' : List (Option Nat)} (hms : ∀ m ∈ ms', m ∈ ms ∨ m = none ∨ ∃ g, m = some g ∧ w.heap.size ≤ g) (hw : IsI k w' A n l) (hs : w.heap.size ≤ w'.heap.size) : Dat w' ms' k A n l := by
  refine ⟨hw, fun ad e => ⟨Nat.lt_of_lt_of_le (h.2 ad e).1 hs, fun m hm => ?_⟩⟩
  rcases hms m hm with h1 | h1 | ⟨g, h1, h2⟩
  · exact (h.2 ad e).2 m h1
  · rw [h1]; simp
  · rw [h1]
    intro e2
    injection e2 with e2
    have := (h.2 ad e).1
    omega
end
theorem Dat.upd {w w' : World} {base G : Nat} {rs : List Rw} {k : IntKind} {A : Option Addr} {n : Nat} {l : List Int} (h : Dat w (Rws.blocks G rs) k A n l) (i : Nat) (hi : i < rs.length) (r' : Rw) (hg : w.grownBy w' rs[i].v.ownBlock)
    (hv : r'.v.ownBlock = rs[i].v.ownBlock ∨ ∃ g, r'.v.ownBlock = some g ∧ w.heap.size ≤ g) : Dat w' (Rws.blocks G (rs.set i r')) k A n l := by
  have hm : rs[i].v.ownBlock ∈ Rws.blocks G rs := List.mem_cons_of_mem _ (List.mem_map.2 ⟨rs[i], List.getElem_mem hi, rfl⟩)
  refine h.turn (fun m hm' => ?_) (h.grown hm hg).1 hg.size
  rcases List.mem_cons.1 hm' with h1 | h1
  · exact .inl (h1 ▸ List.mem_cons_self)
  · obtain ⟨r, hr, rfl⟩ := List.mem_map.1 h1
    obtain ⟨j, hj, rfl⟩ := List.mem_iff_getElem.1 hr
    rw [List.length_set] at hj
    rw [List.getElem_set]
    by_cases e : i = j
    · rw [if_pos e]
      rcases hv with hv | hv
      · left; rw [hv]; exact hm
      · exact .inr (.inr hv)
    · rw [if_neg e]
      left
      exact List.mem_cons_of_mem _ (List.mem_map.2 ⟨rs[j], List.getElem_mem hj, rfl⟩)
/-- append as one step of a region, with where the new row lies. -/
theorem step_push3 {P : Program} {ops : Array Oper} {o : Oper} {a : Act} {K : Act → World → Prop} {Q : Exit → Act → World → Prop} {E : Prop} (W : World) (hgd : o.guard = none) (s x : Operand) (t : TypeId)
    (ho : o.op = .call { callee := .builtin .append, args := #[s, x], argTypes := #[t, t] })
    (base : Nat) (e : TypeId) (i : TypeInfo) (z : Value) (size bytes : Nat) (ht : P.underlying t = some (.slice e)) (hi : P.info? e = some i) (hz : i.zero = some z)
    (hsize : i.size = size) (hby : i.bytes = bytes) (hzs : z.cells.size = size) (hsz : 0 < size)
    (v : Value) (n : Nat) (xs : List Value) (hs : a.eval s = v) (hown : W.ownsRow base e size v n xs)
    (ys : List Value) (ad : Addr) (hx : a.eval x = .slice (some ad) 1 1) (hc : ∀ j u, ys[j]? = some u → W.cell? (ad.add j) = some u) (hl : ys.length = size) (h1 : ∀ u ∈ ys, u.oneCell' = true)
    (hn : n ≤ 1073741824) (hb8 : bytes ≤ 65536) (hbase : base ≤ W.heap.size)
    (h : ∀ v' w', w'.ownsRow base e size v' (n + 1) (xs ++ ys) → W.grownBy w' v.ownBlock → (v'.ownBlock = v.ownBlock ∨ ∃ g, v'.ownBlock = some g ∧ W.heap.size ≤ g) → K (a.put o.dst v') w') :
    if Region.wanted o (yielded ops a.tmps) = true then Oper.wp P o a W K Q else E := by
  have hm : (n + 1) * bytes ≤ 140737488355328 := Nat.le_trans (Nat.mul_le_mul (show n + 1 ≤ 1073741825 by omega) hb8) (by omega)
  have hw : Region.wanted o (yielded ops a.tmps) = true := by simp [Region.wanted, hgd]
  rw [if_pos hw]
  obtain ⟨v', w', hrun, h2, h3, _, h5⟩ := run_append_own_at (P := P) W base t o.type e i z size bytes ht hi hz hsize hby hzs hsz v n xs hown ad 1 1 ys (by omega) hc h1 (by unfold maxLen; omega) hm hbase
  unfold Oper.wp execOp
  simp only [ho, resolve, invoke, builtin, Sem.run_bind, Sem.run_pure, Result.andThen_ok, List.map_toArray, List.map_cons, List.map_nil, hs, hx, hrun]
  refine h v' w' h2 h3 ?_
  rcases h5 with h5 | h5
  · exact .inl h5
  · exact .inr ⟨_, h5, Nat.le_refl _⟩
/-- A call of a Go function as one step of a region. -/
theorem step_call {P : Program} {ops : Array Oper} {o : Oper} {a : Act} {K : Act → World → Prop} {Q : Exit → Act → World → Prop} {E : Prop} (W : World) (hgd : o.guard = none) (f : FuncId) (vs : Array Value)
    (hrun : (execOp a.eval o).run P W = .ok (.enter f vs) W) {R : Ending → World → Prop} (hc : Calls P f vs W R) (h : ∀ e w', R e w' → ∃ v, e = .returned v ∧ K (a.put o.dst v) w') :
    if Region.wanted o (yielded ops a.tmps) = true then Oper.wp P o a W K Q else E := by
  have hw : Region.wanted o (yielded ops a.tmps) = true := by simp [Region.wanted, hgd]
  rw [if_pos hw]
  unfold Oper.wp
  rw [hrun, Oper.upon_enter]
  refine hc.mono fun e w' hh => ?_
  obtain ⟨v, rfl, hk⟩ := h e w' hh
  exact hk
end Go.Proofs.YtepngbdjobckbaaGreat
