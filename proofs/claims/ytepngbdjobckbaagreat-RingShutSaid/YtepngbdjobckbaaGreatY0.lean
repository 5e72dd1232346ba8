/- Steps of machines in the plain: what a load, a store, a compare-and-swap make of the words and of the machine. No program in sight. -/
import Derived.Test.YtepngbdjobckbaaGreatG0
namespace Go.Proofs.YtepngbdjobckbaaGreat
open Go.RowKit
set_option linter.unusedVariables false

theorem mapply_at (ws : List Int) (k o n : Int) (p : Nat) (hp : p < ws.length) :
    mapply ws ⟨k, (p : Int), o, n⟩ = if k = 2 ∨ k = 6 then (ws.set p n, 0, false) else if k = 3 then (if ws.getD p 0 = o then (ws.set p n, ws.getD p 0, true) else (ws, ws.getD p 0, false)) else (ws, ws.getD p 0, false) := by
  unfold mapply
  rw [if_neg (by simp; omega)]
  simp only [Int.toNat_natCast]
theorem stp_end {s : St} {i : Nat} {x : Mc} (hx : s.ms[i]? = some x) (h0 : x.at_ = 0) : stp s i = s := by
  unfold stp
  rw [hx]
  simp only [if_pos h0]
theorem stp_go {s : St} {i : Nat} {x : Mc} (hx : s.ms[i]? = some x) (h0 : x.at_ ≠ 0) : stp s i = stS s i x := by
  unfold stp
  rw [hx]
  simp only [if_neg h0]
section
variable {s : St} {i : Nat} {x : Mc} {p : Nat} {k o n : Int}
/-- A compare-and-swap that takes place. -/
theorem stp_yes (hx : s.ms[i]? = some x) (h0 : x.at_ ≠ 0) (ha : mnext s.l x = ⟨3, (p : Int), o, n⟩) (hp : p < s.ws.length) (hw : s.ws.getD p 0 = o) :
    stp s i = { s with ws := s.ws.set p n, ms := s.ms.set i (mres s.l x o true), tr := s.tr ++ [⟨i, ⟨3, (p : Int), o, n⟩, o, true⟩], pa := s.pa ++ [s.ws] } := by
  rw [stp_go hx h0, stS]
  simp only [ha, mapply_at _ _ _ _ _ hp, hw]
  simp
/-- One that does not. -/
theorem stp_no (hx : s.ms[i]? = some x) (h0 : x.at_ ≠ 0) (ha : mnext s.l x = ⟨3, (p : Int), o, n⟩) (hp : p < s.ws.length) (hw : s.ws.getD p 0 ≠ o) :
    stp s i = { s with ms := s.ms.set i (mres s.l x (s.ws.getD p 0) false), tr := s.tr ++ [⟨i, ⟨3, (p : Int), o, n⟩, s.ws.getD p 0, false⟩], pa := s.pa ++ [s.ws] } := by
  rw [stp_go hx h0, stS]
  simp only [ha, mapply_at _ _ _ _ _ hp, if_neg hw]
  simp
theorem stp_st (hx : s.ms[i]? = some x) (h0 : x.at_ ≠ 0) (ha : mnext s.l x = ⟨k, (p : Int), o, n⟩) (hk : k = 2 ∨ k = 6) (hp : p < s.ws.length) :
    stp s i = { s with ws := s.ws.set p n, ms := s.ms.set i (mres s.l x 0 false), tr := s.tr ++ [⟨i, ⟨k, (p : Int), o, n⟩, 0, false⟩], pa := s.pa ++ [s.ws] } := by
  rw [stp_go hx h0, stS]
  simp only [ha, mapply_at _ _ _ _ _ hp, if_pos hk]
theorem stp_ld (hx : s.ms[i]? = some x) (h0 : x.at_ ≠ 0) (ha : mnext s.l x = ⟨k, (p : Int), o, n⟩) (hk : k = 1 ∨ k = 5) (hp : p < s.ws.length) :
    stp s i = { s with ms := s.ms.set i (mres s.l x (s.ws.getD p 0) false), tr := s.tr ++ [⟨i, ⟨k, (p : Int), o, n⟩, s.ws.getD p 0, false⟩], pa := s.pa ++ [s.ws] } := by
  rw [stp_go hx h0, stS]
  simp only [ha, mapply_at _ _ _ _ _ hp, if_neg (show ¬ (k = 2 ∨ k = 6) by omega), if_neg (show ¬ k = 3 by omega)]
end
theorem getD_set_self {l : List Int} {p : Nat} (h : p < l.length) (v : Int) : (l.set p v).getD p 0 = v := by
  simp [List.getD, List.getElem?_set_self h]
theorem getD_set_other {l : List Int} {p q : Nat} (h : p ≠ q) (v : Int) : (l.set p v).getD q 0 = l.getD q 0 := by
  simp [List.getD, List.getElem?_set_ne h]
end Go.Proofs.YtepngbdjobckbaaGreat
