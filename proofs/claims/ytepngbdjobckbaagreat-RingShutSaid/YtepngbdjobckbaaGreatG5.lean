/- A region that draws its order, in two times: cells that hold till operation number k comes up may be read first. -/
import Derived.Test.YtepngbdjobckbaaGreatW
import Derived.Deep.RegionHeld3
namespace Go.Proofs.YtepngbdjobckbaaGreat
open Go.RowKit
set_option linter.unusedVariables false
section
variable {P : Program} {ops : Array Oper} {Q : Exit → Act → World → Prop} {md : Region.Mode} {T : World → Prop} {k : Nat}
/-- Whatever order is picked from here on; T holds as long as operation k has not come up. -/
def wpAnyL (P : Program) (md : Region.Mode) (ops : Array Oper) (Q : Exit → Act → World → Prop) (T : World → Prop) (k : Nat) : Nat → Array Bool → Act → World → Prop
  | 0, listed, a, w => Region.ready md ops listed = [] ∧ Q .normal a w
  | fuel + 1, listed, a, w =>
    (Region.ready md ops listed = [] → Q .normal a w) ∧
    ∀ i ∈ Region.ready md ops listed, wpOp P ops Q i (fun a' w' => ((listed.setIfInBounds i true).getD k true = false → T w') ∧ wpAnyL P md ops Q T k fuel (listed.setIfInBounds i true) a' w') a w
theorem wpAny_of_L : ∀ (fuel : Nat) (listed : Array Bool) (a : Act) (w : World), wpAnyL P md ops Q T k fuel listed a w → wpAny P md ops Q fuel listed a w
  | 0, _, _, _, h => h
  | fuel + 1, _, _, _, h => ⟨h.1, fun i hi => wpOp_mono (fun a' w' h' => wpAny_of_L fuel _ a' w' h'.2) (h.2 i hi)⟩
theorem wp_region_L {id : Nat} {a : Act} {w : World} (T : World → Prop) (k : Nat) (hm : P.follows .mixedOrders = true) (h : wpAnyL P .any ops Q T k ops.size (Array.replicate ops.size false) a w.drew) : (Code.region id ops true).wp P Q a w :=
  wp_region_any hm (wpAny_of_L _ _ _ _ h)
/-- Operation k waits for operation i. -/
def waitsB (md : Region.Mode) (ops : Array Oper) (k i : Nat) : Bool := match ops[k]? with
  | some o => o.after.any fun e => Region.binds md e && e.on == i
  | none => false
/-- None of D can come up ahead of i, and k is among them. -/
def holdB (md : Region.Mode) (ops : Array Oper) (k i : Nat) (D : List Nat) : Bool := D.contains k && D.all fun d => waitsB md ops d i || D.any fun x => waitsB md ops d x
theorem waitsB_not {d x : Nat} {od : Oper} {listed : Array Bool} (h : waitsB md ops d x = true) (hr : d ∈ Region.ready md ops listed) : listed.getD x true ≠ false := fun hx => by
  obtain ⟨-, o, ho, hall⟩ := mem_ready.1 hr
  unfold waitsB at h
  rw [ho] at h
  obtain ⟨e, he, hb⟩ := Array.any_eq_true'.1 h
  simp only [Bool.and_eq_true, beq_iff_eq] at hb
  have h1 := hall e he hb.1
  rw [hb.2] at h1
  have := getD_both hx
  rw [this] at h1
  cases h1
theorem wpAnyL_first {i : Nat} {D : List Nat} {oi : Oper} {v : Value} {U : World → Prop} (hi : ops[i]? = some oi) (hsel : ∀ (j : Nat) (o : Oper) cs b, ops[j]? = some o → o.op ≠ .select cs b)
    (hQ : ∀ c a w, Q (.panic c) (a.put oi.dst v) w → Q (.panic c) a w) (hik : i ≠ k) (hU : (∀ w, U w) ∨ (holdB md ops k i D = true ∧ ∀ w, T w → U w)) :
    ∀ (fuel : Nat) (listed : Array Bool) (a : Act) (w : World),
      (∀ j oj, ops[j]? = some oj → j ≠ i → listed.getD j true = false → (∀ e ∈ oj.after, Region.binds md e = true → e.on ≠ i) → oi.apart ops oj = true) →
      i ∈ Region.ready md ops listed → YieldsIf P ops U oi v a → ((∀ w, U w) ∨ ∀ d ∈ D, listed.getD d true = false) → (listed.getD k true = false → T w) →
      wpAnyL P md ops Q T k fuel (listed.setIfInBounds i true) (a.put oi.dst v) w → wpAnyL P md ops Q T k (fuel + 1) listed a w := by
  intro fuel
  have uw : ∀ (listed : Array Bool) (w : World), ((∀ w, U w) ∨ ∀ d ∈ D, listed.getD d true = false) → (listed.getD k true = false → T w) → U w := fun listed w h1 h2 => by
    rcases h1 with h | h
    · exact h w
    · rcases hU with h' | ⟨hd, h'⟩
      · exact h' w
      · unfold holdB at hd
        simp only [Bool.and_eq_true] at hd
        exact h' w (h2 (h k (by simpa using hd.1)))
  have keep : ∀ (listed : Array Bool) (j : Nat), (listed.setIfInBounds j true).getD k true = false → listed.getD k true = false := fun listed j h => by
    by_cases hjk : j = k
    · subst hjk
      rw [Array.getD_eq_getD_getElem?, Array.getElem?_setIfInBounds] at h
      simp only [if_pos] at h
      split at h <;> simp at h
    · rwa [getD_set_ne true hjk] at h
  induction fuel with
  | zero =>
    intro listed a w _ hr hy hp hT H
    refine ⟨fun h => (by rw [h] at hr; cases hr), fun j hj => ?_⟩
    by_cases hji : j = i
    · subst hji; exact hy.wpOp hi (uw _ _ hp hT) ⟨fun h => hT (keep _ _ h), H⟩
    · have := ready_mono hj hji
      rw [H.1] at this
      cases this
  | succ fuel ih =>
    intro listed a w hfree hr hy hp hT H
    refine ⟨fun h => (by rw [h] at hr; cases hr), fun j hj => ?_⟩
    by_cases hji : j = i
    · subst hji; exact hy.wpOp hi (uw _ _ hp hT) ⟨fun h => hT (keep _ _ h), H⟩
    · have h1 := H.2 j (ready_mono hj hji)
      obtain ⟨hjun, oj, hoj, hall⟩ := mem_ready.1 hj
      have hnot : ∀ e ∈ oj.after, Region.binds md e = true → e.on ≠ i := fun e he hb heq => by
        have h1 := hall e he hb
        have h0 := (mem_ready.1 hr).1
        rw [heq] at h1
        rcases Nat.lt_or_ge i listed.size with h' | h'
        · simp [h'] at h0 h1; rw [h0] at h1; cases h1
        · simp [Array.getElem?_eq_none h'] at h1
      have h2 := wpOp_putIf hoj (hfree j oj hoj hji hjun hnot) (fun cs b => hsel i oi cs b hi) (fun cs b => hsel j oj cs b hoj) hQ hy h1
      have hfree' : ∀ k ok, ops[k]? = some ok → k ≠ i → (listed.setIfInBounds j true).getD k true = false →
          (∀ e ∈ ok.after, Region.binds md e = true → e.on ≠ i) → oi.apart ops ok = true := fun k ok hk hki hun hno => by
        refine hfree k ok hk hki ?_ hno
        by_cases hjk : j = k
        · subst hjk; exact hjun
        · rw [getD_set_ne true hjk] at hun; exact hun
      have hiu : listed.getD i true = false := (mem_ready.1 hr).1
      have hp' : (∀ w, U w) ∨ ∀ d ∈ D, (listed.setIfInBounds j true).getD d true = false := by
        rcases hp with h | h
        · exact .inl h
        · rcases hU with h' | ⟨hd, -⟩
          · exact .inl h'
          · right
            intro d hdD
            have hjd : j ≠ d := fun e => by
              subst e
              unfold holdB at hd
              simp only [Bool.and_eq_true, List.all_eq_true, Bool.or_eq_true, List.any_eq_true] at hd
              rcases hd.2 j hdD with hw | ⟨x, hx, hw⟩
              · exact waitsB_not (od := oj) hw hj hiu
              · exact waitsB_not (od := oj) hw hj (h x hx)
            rw [getD_set_ne true hjd]; exact h d hdD
      have hset : ∀ w', (((listed.setIfInBounds i true).setIfInBounds j true).getD k true = false → T w') → (listed.setIfInBounds j true).getD k true = false → T w' := fun w' h hh => by
        exact h (by rw [Array.setIfInBounds_comm _ _ (Ne.symm hji), getD_set_ne true hik]; exact hh)
      refine wpOp_mono (fun a' w' h3 => ⟨hset w' h3.2.1, ih (listed.setIfInBounds j true) a' w' hfree' (ready_mono hr (Ne.symm hji)) h3.1 hp' (hset w' h3.2.1) ?_⟩) h2
      rw [Array.setIfInBounds_comm _ _ hji]
      exact h3.2.2
/-- Take number i first: it reads what holds till k comes up, and k waits for it. -/
theorem wpAnyL_take {i : Nat} (D : List Nat) {oi : Oper} {v : Value} {fuel : Nat} {listed : Array Bool} {a : Act} {w : World} (hi : ops[i]? = some oi)
    (hs : Region.noSelect ops = true) (hf : Region.free md ops listed i = true) (hr : (Region.ready md ops listed).contains i = true) (hk : (holdB md ops k i D && (i != k) && D.all fun d => !listed.getD d true) = true)
    (hQ : ∀ c a w, Q (.panic c) (a.put oi.dst v) w → Q (.panic c) a w) (hT : T w) (hw : Region.wanted oi (yielded ops a.tmps) = true) (hy : ∀ w, T w → (execOp a.eval oi).run P w = .ok (.value v) w)
    (h : wpAnyL P md ops Q T k fuel (listed.setIfInBounds i true) (a.put oi.dst v) w) : wpAnyL P md ops Q T k (fuel + 1) listed a w := by
  simp only [Bool.and_eq_true, bne_iff_ne, List.all_eq_true, Bool.not_eq_true'] at hk
  exact wpAnyL_first (D := D) (U := T) hi (Region.noSelect_spec hs) hQ hk.1.2 (.inr ⟨hk.1.1, fun _ h => h⟩) fuel listed a w (Region.free_spec hi hf) (by simpa using hr) (.inl ⟨hw, hy⟩) (.inr hk.2) (fun _ => hT) h
/-- Take number i first: it yields in whatever world. -/
theorem wpAnyL_any {i : Nat} {oi : Oper} {v : Value} {fuel : Nat} {listed : Array Bool} {a : Act} {w : World} (hi : ops[i]? = some oi)
    (hs : Region.noSelect ops = true) (hf : Region.free md ops listed i = true) (hr : (Region.ready md ops listed).contains i = true) (hk : (i != k) = true)
    (hQ : ∀ c a w, Q (.panic c) (a.put oi.dst v) w → Q (.panic c) a w) (hT : listed.getD k true = false → T w) (hw : Region.wanted oi (yielded ops a.tmps) = true) (hy : ∀ w, (execOp a.eval oi).run P w = .ok (.value v) w)
    (h : wpAnyL P md ops Q T k fuel (listed.setIfInBounds i true) (a.put oi.dst v) w) : wpAnyL P md ops Q T k (fuel + 1) listed a w :=
  wpAnyL_first (D := []) (U := fun _ => True) hi (Region.noSelect_spec hs) hQ (by simpa using hk) (.inl fun _ => trivial) fuel listed a w (Region.free_spec hi hf) (by simpa using hr) (.inl ⟨hw, fun w _ => hy w⟩) (.inl fun _ => trivial) hT h
/-- One alone may come up. -/
theorem wpAnyL_one {i : Nat} {oi : Oper} {fuel : Nat} {listed : Array Bool} {a : Act} {w : World} (hi : ops[i]? = some oi) (hr : Region.ready md ops listed = [i])
    (h : ∀ K' : Act → World → Prop, Shut (∀ a w, ((listed.setIfInBounds i true).getD k true = false → T w) → wpAnyL P md ops Q T k fuel (listed.setIfInBounds i true) a w → K' a w) → if Region.wanted oi (yielded ops a.tmps) = true then Oper.wp P oi a w K' Q else K' (a.put oi.dst undef) w) :
    wpAnyL P md ops Q T k (fuel + 1) listed a w := by
  refine ⟨fun h0 => (by rw [hr] at h0; cases h0), fun j hj => ?_⟩
  rw [hr] at hj
  obtain rfl := List.mem_singleton.1 hj
  exact wpOp_step hi (fun K' hK => h K' (fun a w hT hW => hK a w ⟨hT, hW⟩))
theorem wpAnyL_done {listed : Array Bool} {a : Act} {w : World} (hr : Region.ready md ops listed = []) (h : Q .normal a w) : ∀ fuel, wpAnyL P md ops Q T k fuel listed a w
  | 0 => ⟨hr, h⟩
  | _ + 1 => ⟨fun _ => h, by rw [hr]; simp⟩
end
end Go.Proofs.YtepngbdjobckbaaGreat
