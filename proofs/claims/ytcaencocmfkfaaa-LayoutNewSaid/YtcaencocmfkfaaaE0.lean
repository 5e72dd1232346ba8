/- The memory with which a configuration begins: its words, and what is known while it is made. -/
import Derived.Test.YtcaencocmfkfaaaG
import Derived.Test.YtcaencocmfkfaaaJ0
import Derived.Test.YtcaencocmfkfaaaG6
import Derived.Deep.OwnRows
import Derived.Deep.DeepCutAuto
import Derived.Deep.DrawnRows
namespace Go.Proofs.Ytcaencocmfkfaaa
open Go.RowKit
set_option linter.unusedVariables false
def slN (l : List Int) (ch : Nat) (s : Int) : Int := tlN l ch + 5 + 2 * sl s (sz (l.getD ch 0))
/-- The first words of the slots of a channel. -/
def slotsI (l s : List Int) (i : Nat) : Nat → List Int → List Int
  | 0, ws => ws
  | n + 1, ws => (slotsI l s i n ws).set (slN l i (nx (s.getD i 0) n)).toNat (nx (s.getD i 0) n)
/-- The words of the channels. -/
def chansI (l s : List Int) : Nat → List Int → List Int
  | 0, ws => ws
  | i + 1, ws => slotsI l s i (sz (l.getD i 0)).toNat (((chansI l s i ws).set (tlN l i).toNat (pk (s.getD i 0) false)).set (tlN l i + 1).toNat (s.getD i 0))
def totI (l : List Int) (t : Nat) : Nat := (tlN l l.length + t * 11).toNat
/-- The words with which a configuration begins. -/
def iniI (l s : List Int) (t : Nat) : List Int := chansI l s l.length (List.replicate (totI l t) 0)
theorem slotsI_len (l s : List Int) (i : Nat) (ws : List Int) : ∀ n, (slotsI l s i n ws).length = ws.length := by
  intro n
  induction n with
  | zero => rfl
  | succ n ih => rw [slotsI, List.length_set, ih]
theorem chansI_len (l s : List Int) (ws : List Int) : ∀ n, (chansI l s n ws).length = ws.length := by
  intro n
  induction n with
  | zero => rfl
  | succ n ih => rw [chansI, slotsI_len, List.length_set, List.length_set, ih]
/-- The words as cells. -/
def wc64 (ws : List Int) : Array Value := (ws.map (Value.int .u64)).toArray
theorem wc64_set (ws : List Int) (i : Nat) (v : Int) : (wc64 ws).setIfInBounds i (.int .u64 v) = wc64 (ws.set i v) := by
  unfold wc64
  rw [List.setIfInBounds_toArray, List.map_set]
theorem wc64_get (ws : List Int) (i : Nat) (h : i < ws.length) : (wc64 ws)[i]? = some (.int .u64 (ws.getD i 0)) := by
  unfold wc64
  simp [List.getD, List.getElem?_eq_getElem h]
theorem made_wc (n : Nat) : madeCells #[Value.int .u64 0] n = wc64 (List.replicate n 0) := by
  have := toList_madeCells_one (.int .u64 0) n
  unfold wc64
  rw [List.map_replicate, ← this]
theorem mkb {W : World} {p : Nat} {T : TypeId} {cs : Array Value} (h : p = W.heap.size) : Bk (W.alloc (.cells cs T)) p T cs := by
  subst h
  exact Bk.new _ _ _
theorem stor3 {W : World} {g : Nat} {T : TypeId} {x y z a b c : Value} (h : Bk W g T #[x, y, z]) : Bk (((W.setCell ⟨g, 0, none⟩ a).setCell ⟨g, 1, none⟩ b).setCell ⟨g, 2, none⟩ c) g T #[a, b, c] := Bk.stored (cells := #[a, b, c]) (hide rfl) h rfl
theorem tlN_mono {w : World} {A : Option Addr} {n : Nat} {l : List Int} (h : Cf w A n l) (i : Nat) : ∀ j, i ≤ j → j ≤ n → tlN l i ≤ tlN l j := by
  intro j
  induction j with
  | zero => intro h1 _; obtain rfl : i = 0 := by omega
            exact Int.le_refl _
  | succ j ih =>
    intro h1 h2
    by_cases e : i = j + 1
    · rw [e]; exact Int.le_refl _
    · have := ih (by omega) (by omega)
      obtain ⟨a, b⟩ := h.in_ (show j < n by omega)
      have := sz_bd _ a b
      rw [show tlN l (j + 1) = tlN l j + (5 + 2 * sz (l.getD j 0)) from rfl]
      omega
theorem Try.sl_inf : (Try.prog.info? 22).map (fun i => (i.zero, i.size, i.bytes)) = some (some (.slice none 0 0), 1, 24) := by kernel_rfl
theorem bk_types {w : World} {g g' : Nat} {t t' : TypeId} {xs ys : Array Value} (h : Bk w g t xs) (k : Bk w g' t' ys) (ht : t ≠ t') : g ≠ g' := fun e => by
  subst e
  unfold Bk at h k
  rw [h] at k
  simp at k
  exact ht k.2
/-- A memory in the making. -/
structure Nw (w1 wx : World) (g5 gW gL nL N : Nat) (ws : List Int) : Prop where
  bel : Below w1.heap.size w1 wx
  k5 : Bk wx g5 48 #[.slice (some ⟨gW, 0, none⟩) N N, .slice (some ⟨gL, 0, none⟩) nL nL, .int .i64 0]
  kW : Bk wx gW 33 (wc64 ws)
  kL : Bk wx gL 22 (madeCells #[.slice none 0 0] nL)
  len : ws.length = N
  h5 : w1.heap.size ≤ g5
  hW : w1.heap.size ≤ gW
section
variable {w1 wx wy : World} {g5 gW gL nL N : Nat} {ws : List Int}
theorem Nw.ne (H : Nw w1 wx g5 gW gL nL N ws) : g5 ≠ gW := bk_types H.k5 H.kW (by decide)
theorem Nw.below (H : Nw w1 wx g5 gW gL nL N ws) (h : Below wx.heap.size wx wy) : Nw w1 wy g5 gW gL nL N ws :=
  ⟨H.bel.trans (h.mono H.bel.size), H.k5.below h H.k5.lt, H.kW.below h H.kW.lt, H.kL.below h H.kL.lt, H.len, H.h5, H.hW⟩
theorem Nw.set_ (H : Nw w1 wx g5 gW gL nL N ws) (i : Nat) (v : Int) : Nw w1 (wx.setCell ⟨gW, i, none⟩ (.int .u64 v)) g5 gW gL nL N (ws.set i v) :=
  ⟨H.bel.setCell H.hW _, H.k5.far (p := ⟨gW, i, none⟩) H.ne _, by have := H.kW.set_ i (.int .u64 v); rwa [wc64_set] at this, H.kL.far (p := ⟨gW, i, none⟩) (bk_types H.kL H.kW (by decide)) _, by simp [H.len], H.h5, H.hW⟩
theorem nw_fin {x y z : Value} (k5 : Bk wx g5 48 #[x, y, z]) (kW : Bk wx gW 33 (wc64 ws)) (kL : Bk wx gL 22 (madeCells #[.slice none 0 0] nL)) (bel : Below w1.heap.size w1 wx) (len : ws.length = N) (h5 : w1.heap.size ≤ g5) (hW : w1.heap.size ≤ gW) :
    Nw w1 (((wx.setCell ⟨g5, 0, none⟩ (.slice (some ⟨gW, 0, none⟩) N N)).setCell ⟨g5, 1, none⟩ (.slice (some ⟨gL, 0, none⟩) nL nL)).setCell ⟨g5, 2, none⟩ (.int .i64 0)) g5 gW gL nL N ws := by
  have n1 : gW ≠ g5 := bk_types kW k5 (by decide)
  have n2 : gL ≠ g5 := bk_types kL k5 (by decide)
  exact ⟨((bel.setCell (p := ⟨g5, 0, none⟩) h5 _).setCell (p := ⟨g5, 1, none⟩) h5 _).setCell (p := ⟨g5, 2, none⟩) h5 _, stor3 k5, ((kW.far (p := ⟨g5, 0, none⟩) n1 _).far (p := ⟨g5, 1, none⟩) n1 _).far (p := ⟨g5, 2, none⟩) n1 _, ((kL.far (p := ⟨g5, 0, none⟩) n2 _).far (p := ⟨g5, 1, none⟩) n2 _).far (p := ⟨g5, 2, none⟩) n2 _, len, h5, hW⟩
theorem Nw.isI (H : Nw w1 wx g5 gW gL nL N ws) : IsI .u64 wx (some ⟨gW, 0, none⟩) N ws :=
  ⟨by simp [H.len], fun _ => ⟨_, rfl, H.kW.lt, fun j u hu => by
    rw [addr_add, H.kW.cell j]
    unfold wc64
    simpa using hu⟩⟩
theorem Nw.rds (H : Nw w1 wx g5 gW gL nL N ws) : Rds wx (some ⟨gL, 0, none⟩) nL 1 (List.replicate nL (.slice none 0 0)) :=
  ⟨by simp, fun _ => ⟨_, rfl, H.kL.lt, fun j u hu => by
    rw [addr_add, H.kL.cell j]
    have := toList_madeCells_one (.slice none 0 0) nL
    rw [show madeCells #[Value.slice none 0 0] nL = (List.replicate nL (Value.slice none 0 0)).toArray by rw [← this]]
    rw [List.getElem?_toArray]
    exact hu⟩⟩
end
/-- What New gives: the words and how many lists there are. -/
def wsOf (l s : List Int) (t : Int) : List Int := if chk l s t = 0 then iniI l s t.toNat else []
def nlOf (l s : List Int) (t : Int) : Nat := if chk l s t = 0 then 2 * l.length else 0
theorem chk_zero {l s : List Int} {t : Int} (h : chk l s t = 0) : l.length ≤ 8 ∧ s.length = l.length ∧ (∀ x ∈ l, 0 ≤ x ∧ x ≤ 16) ∧ (∀ x ∈ s, x < 9223372036854775808) ∧ 1 ≤ t ∧ t ≤ 8 := by
  unfold chk at h
  split at h
  · cases h
  next h1 =>
  split at h
  · cases h
  next h2 =>
  split at h
  · cases h
  next h3 =>
  split at h
  · cases h
  next h4 =>
  split at h
  · cases h
  next h5 =>
  refine ⟨by omega, by omega, fun x hx => ?_, fun x hx => ?_, by omega, by omega⟩
  · have := List.any_eq_false.1 (by simpa using h3) x hx
    unfold badK at this
    simp at this
    omega
  · have := List.any_eq_false.1 (by simpa using h4) x hx
    unfold badS at this
    simp at this
    omega
end Go.Proofs.Ytcaencocmfkfaaa
