/- A scope in which the run jumps a few times, to any label. No program in sight. -/
import Derived.WalkMore
import Derived.Test.YtadaoobdnnleaaaU
namespace Go.Proofs.Ytadaoobdnnleaaa
open Go.RowKit

/-- As Q; at a goto: the code behind the label goes on (with one jump less). -/
def JQ (P : Program) (c : Code) (Q : Exit → Act → World → Prop) : Nat → Exit → Act → World → Prop
  | 0, .goto _, _, _ => False
  | n + 1, .goto l, a, w => ∃ rest, findLabel c l = some rest ∧ rest.wp P (JQ P c Q n) a w
  | _, e, a, w => Q e a w
section
variable {P : Program} {c : Code} {Q : Exit → Act → World → Prop} {a : Act} {w : World} {n : Nat}
@[go_sem] theorem JQ_normal : JQ P c Q n .normal a w = Q .normal a w := by cases n <;> rfl
@[go_sem] theorem JQ_exit (id : Nat) : JQ P c Q n (.exit id) a w = Q (.exit id) a w := by cases n <;> rfl
@[go_sem] theorem JQ_ret : JQ P c Q n .ret a w = Q .ret a w := by cases n <;> rfl
@[go_sem] theorem JQ_panic (ch : List PanicEntry) : JQ P c Q n (.panic ch) a w = Q (.panic ch) a w := by cases n <;> rfl
theorem JQ_goto (l : Nat) {rest : Code} (hf : findLabel c l = some rest) (h : rest.wp P (JQ P c Q n) a w) : JQ P c Q (n + 1) (.goto l) a w := ⟨rest, hf, h⟩
theorem wp_scope_n (n : Nat) (h : c.wp P (JQ P c Q n) a w) : (Code.scope c).wp P Q a w := by
  intro b k cs
  have key : ∀ n (r : Code) a w, r.wp P (JQ P c Q n) a w → ∃ e a' w', Q e a' w' ∧ Arrives P (lone (b.at a (.code r :: .inScope c :: k)) cs w) b k cs e a' w' := by
    intro n
    induction n with
    | zero =>
      intro r a w h
      obtain ⟨e, a₁, w₁, hq, harr⟩ := h b (.inScope c :: k) cs
      cases e with
      | normal => exact ⟨.normal, a₁, w₁, hq, Steps.trans harr (.one step_inScope)⟩
      | exit id => exact ⟨.exit id, a₁, w₁, hq, fun k' hk => harr k' (by simp [exitTo, hk])⟩
      | goto l => exact hq.elim
      | ret => exact ⟨_, a₁, w₁, hq, harr⟩
      | panic ch => exact ⟨_, a₁, w₁, hq, harr⟩
      | outgrown => exact ⟨_, a₁, w₁, hq, harr⟩
    | succ n ih =>
      intro r a w h
      obtain ⟨e, a₁, w₁, hq, harr⟩ := h b (.inScope c :: k) cs
      cases e with
      | normal => exact ⟨.normal, a₁, w₁, hq, Steps.trans harr (.one step_inScope)⟩
      | exit id => exact ⟨.exit id, a₁, w₁, hq, fun k' hk => harr k' (by simp [exitTo, hk])⟩
      | goto l =>
        obtain ⟨rest, hf, hr⟩ := hq
        obtain ⟨e₂, a₂, w₂, hq₂, harr₂⟩ := ih rest a₁ w₁ hr
        have hg : gotoIn l (.inScope c :: k) = some (.code rest :: .inScope c :: k) := by simp [gotoIn, hf]
        exact ⟨e₂, a₂, w₂, hq₂, .of_steps (harr _ hg) harr₂⟩
      | ret => exact ⟨_, a₁, w₁, hq, harr⟩
      | panic ch => exact ⟨_, a₁, w₁, hq, harr⟩
      | outgrown => exact ⟨_, a₁, w₁, hq, harr⟩
  obtain ⟨e₂, a₂, w₂, hq₂, harr₂⟩ := key n c a w h
  exact ⟨e₂, a₂, w₂, hq₂, .of_steps (.one step_scope) harr₂⟩
end
end Go.Proofs.Ytadaoobdnnleaaa
