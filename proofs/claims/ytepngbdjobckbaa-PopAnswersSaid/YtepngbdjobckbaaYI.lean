/- The first words of a memory at its beginning: those of channel 0. -/
import Derived.Test.YtepngbdjobckbaaYR
import Derived.Test.YtepngbdjobckbaaQ0
namespace Go.Proofs.Ytepngbdjobckbaa
open Go.RowKit
set_option linter.unusedVariables false

theorem slotsI_low (l s : List Int) (i : Nat) (p : Nat) (hp : (p : Int) < tlN l i + 5) (h1 : 1 ≤ sz (l.getD i 0)) (h2 : sz (l.getD i 0) ≤ 16) (h0 : 0 ≤ tlN l i) (ws : List Int) : ∀ n, (slotsI l s i n ws).getD p 0 = ws.getD p 0 := by
  intro n
  induction n with
  | zero => rfl
  | succ n ih =>
    rw [slotsI, getD_set_other ?_, ih]
    have := sl_in (nx (s.getD i 0) n) _ h1 h2
    unfold slN
    omega
theorem tlN_up {l : List Int} (hl : Cap l) : ∀ n, 1 ≤ n → n ≤ l.length → tlN l 1 ≤ tlN l n := by
  intro n
  induction n with
  | zero => intro h; omega
  | succ n ih =>
    intro h1 h2
    by_cases e : n = 0
    · subst e; exact Int.le_refl _
    · have := ih (by omega) (by omega)
      have g := hl.at_ (show n < l.length by omega)
      have g1 := sz_bd _ g.1 g.2
      rw [show tlN l (n + 1) = tlN l n + (5 + 2 * sz (l.getD n 0)) by rw [tlN]]
      omega
theorem chansI_low {l : List Int} (hl : Cap l) (s : List Int) (p : Nat) (hp : (p : Int) < tlN l 1) : ∀ n, 1 ≤ n → n ≤ l.length → ∀ ws, (chansI l s n ws).getD p 0 = (chansI l s 1 ws).getD p 0 := by
  intro n
  induction n with
  | zero => intro h; omega
  | succ n ih =>
    intro h1 h2 ws
    by_cases e : n = 0
    · subst e; rfl
    · have g := hl.at_ (show n < l.length by omega)
      have g1 := sz_bd _ g.1 g.2
      have g2 := tlN_up hl n (by omega) (by omega)
      have g3 := hl.tl n (by omega)
      rw [chansI, slotsI_low l s n p (by omega) g1.1 g1.2 g3.1, getD_set_other (by omega), getD_set_other (by omega), ih (by omega) (by omega)]
theorem tlN_one (l : List Int) : tlN l 1 = 5 + 2 * sz (l.getD 0 0) := by
  rw [tlN, tlN]
  omega
theorem tot_lo {l : List Int} (hl : Cap l) (hn : 1 ≤ l.length) (t : Nat) : 5 + 2 * sz (l.getD 0 0) ≤ (totI l t : Int) := by
  have := tlN_up hl l.length hn (Nat.le_refl _)
  rw [tlN_one] at this
  unfold totI
  omega
theorem ini_len (l s : List Int) (t : Nat) : (iniI l s t).length = totI l t := by rw [iniI, chansI_len]; simp
section
variable {l s : List Int} (hl : Cap l) (hn : 1 ≤ l.length) (t : Nat)
include hl hn
theorem ini_0 : (iniI l s t).getD 0 0 = pk (s.getD 0 0) false := by
  have g := hl.at_ (show 0 < l.length by omega)
  have g1 := sz_bd _ g.1 g.2
  have g3 := tot_lo hl hn t
  have z0 : tlN l 0 = 0 := rfl
  rw [iniI, chansI_low hl s 0 (by rw [tlN_one]; omega) _ hn (Nat.le_refl _), chansI, slotsI_low l s 0 0 (by rw [show tlN l 0 = 0 from rfl]; omega) g1.1 g1.2 (Int.le_refl _), getD_set_other (by rw [show tlN l 0 = 0 from rfl]; omega)]
  exact getD_set_self (by rw [chansI_len]; simp; omega) _
theorem ini_1 : (iniI l s t).getD 1 0 = s.getD 0 0 := by
  have g := hl.at_ (show 0 < l.length by omega)
  have g1 := sz_bd _ g.1 g.2
  have g3 := tot_lo hl hn t
  have z0 : tlN l 0 = 0 := rfl
  rw [iniI, chansI_low hl s 1 (by rw [tlN_one]; omega) _ hn (Nat.le_refl _), chansI, slotsI_low l s 0 1 (by rw [show tlN l 0 = 0 from rfl]; omega) g1.1 g1.2 (Int.le_refl _)]
  exact getD_set_self (by rw [List.length_set, chansI_len]; simp; omega) _
end
/-- A ring at its beginning. -/
theorem ri_init {l s : List Int} {t : Nat} {ms : List Mc} (hl : Cap l) (hn : 1 ≤ l.length) (c1 : 1 ≤ l.getD 0 0) (hs : 0 ≤ s.getD 0 0 ∧ s.getD 0 0 < 9223372036854775808)
    (hm : ∀ x ∈ ms, ∃ (wh : Nat) (v : Int), 3 ≤ wh ∧ wh ≤ 6 ∧ u64 v ∧ x = mc0 wh 0 0 v) : RI (l.getD 0 0) (s.getD 0 0) (fun _ => ⟨0, 0, false⟩) { st0 l s t with ms := ms } := by
  have g := hl.at_ (show 0 < l.length by omega)
  have hnx : nx (s.getD 0 0) ((0 : Nat) : Int) = s.getD 0 0 := by unfold nx; omega
  refine ⟨⟨c1, g.2⟩, rfl, hs, rfl, rfl, fun j hj => by simp [st0] at hj, fun j u hu => by simp [st0] at hu, ⟨?_, ?_, ?_, Nat.le_refl _, by show ((0 : Nat) : Int) ≤ ((0 : Nat) : Int) + l.getD 0 0; omega⟩, fun i x hx => ?_, fun _ i x hx h5 => ?_, (fun h => by cases h), rfl⟩
  · show 5 + 2 * sz (l.getD 0 0) ≤ ((iniI l s t).length : Int)
    rw [ini_len]
    exact tot_lo hl hn t
  · show (iniI l s t).getD 0 0 = pk (nx (s.getD 0 0) ((0 : Nat) : Int)) false
    rw [hnx]
    exact ini_0 hl hn t
  · show (iniI l s t).getD 1 0 = nx (s.getD 0 0) ((0 : Nat) : Int)
    rw [hnx]
    exact ini_1 hl hn t
  · obtain ⟨wh, v, h3, h6, hv, rfl⟩ := hm x (List.mem_of_getElem? hx)
    have hw : wh = 3 ∨ wh = 4 ∨ wh = 5 ∨ wh = 6 := by omega
    rcases hw with rfl | rfl | rfl | rfl
    · exact RM.mk3 rfl rfl (by show 1 ≤ 7; omega) (fun h => by simp [mc0] at h)
    · exact RM.mk4 rfl rfl (by show 1 ≤ 7; omega) (fun h => by simp [mc0] at h)
    · exact RM.mk5 rfl rfl (by show 1 ≤ 2; omega) (fun h => by simp [mc0] at h)
    · exact RM.mk6 rfl rfl (by show 1 ≤ 3; omega) (fun h => by simp [mc0] at h) (fun h => by simp [mc0] at h)
  · obtain ⟨wh, v, h3, h6, hv, rfl⟩ := hm x (List.mem_of_getElem? hx)
    show 1 ≠ 0
    omega
theorem tot_small {l : List Int} (hl : Cap l) (hn : 1 ≤ l.length) (h3 : l.length ≤ 3) {t : Nat} (ht : t ≤ 4) : 1 ≤ totI l t ∧ totI l t ≤ 256 := by
  have h1 := hl.tl l.length (Nat.le_refl _)
  have h2 := tot_lo hl hn t
  have g := hl.at_ (show 0 < l.length by omega)
  have g1 := sz_bd _ g.1 g.2
  unfold totI at *
  omega
theorem hcap_len {TW : TypeId} {w : World} {G : Nat} {A : Option Addr} {n c : Nat} {B : Option Addr} {d tn gW gL : Nat} {l s ws : List Int} (H : Fw TW w G A n c B d tn gW gL l s ws) : Cap l :=
  ⟨by rw [H.cf.len]; exact H.cf.2.1, H.cf.2.2⟩
end Go.Proofs.Ytepngbdjobckbaa
