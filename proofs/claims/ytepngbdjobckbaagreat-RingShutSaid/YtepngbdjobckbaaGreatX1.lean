/- -/
import Derived.Test.YtepngbdjobckbaaGreatO
import Derived.Test.YtepngbdjobckbaaGreatB
import Derived.Test.YtepngbdjobckbaaGreatL1
import Derived.Test.YtepngbdjobckbaaGreatGU
import Derived.Deep.RegionHeld3
import Derived.Deep.RegionLaw
import Derived.Deep.DeepCutAuto
import Derived.Deep.DrawnRows
import Derived.Deep.OwnRows
namespace Go.Proofs.YtepngbdjobckbaaGreat
open Go.RowKit
set_option linter.unusedVariables false

/-- The first words of the slots of a channel. -/
def slotsI (l s : List Int) (i : Nat) : Nat → List Int → List Int
  | 0, ws => ws
  | n + 1, ws => (slotsI l s i n ws).set (slN l i (nx (s.getD i 0) n)).toNat (nx (s.getD i 0) n)
/-- The words of the channels. -/
def chansI (l s : List Int) : Nat → List Int → List Int
  | 0, ws => ws
  | i + 1, ws => slotsI l s i (sz (l.getD i 0)).toNat (((chansI l s i ws).set (tlN l i).toNat (pk (s.getD i 0) false)).set (tlN l i + 1).toNat (s.getD i 0))
def totI (l : List Int) (t : Nat) : Nat := (tlN l l.length + t * 11).toNat
/-- The words with which a configuration begins. -/
def iniI (l s : List Int) (t : Nat) : List Int := chansI l s l.length (List.replicate (totI l t) 0)
theorem slotsI_len (l s : List Int) (i : Nat) (ws : List Int) : ∀ n, (slotsI l s i n ws).length = ws.length := by
  intro n
  induction n with
  | zero => rfl
  | succ n ih => rw [slotsI, List.length_set, ih]
theorem chansI_len (l s : List Int) (ws : List Int) : ∀ n, (chansI l s n ws).length = ws.length := by
  intro n
  induction n with
  | zero => rfl
  | succ n ih => rw [chansI, slotsI_len, List.length_set, List.length_set, ih]
/-- The words as cells. -/
def wc64 (ws : List Int) : Array Value := (ws.map (Value.int .u64)).toArray
theorem wc64_set (ws : List Int) (i : Nat) (v : Int) : (wc64 ws).setIfInBounds i (.int .u64 v) = wc64 (ws.set i v) := by
  unfold wc64
  rw [List.setIfInBounds_toArray, List.map_set]
theorem wc64_get (ws : List Int) (i : Nat) (h : i < ws.length) : (wc64 ws)[i]? = some (.int .u64 (ws.getD i 0)) := by
  unfold wc64
  simp [List.getD, List.getElem?_eq_getElem h]
theorem made_wc (n : Nat) : madeCells #[Value.int .u64 0] n = wc64 (List.replicate n 0) := by
  have := toList_madeCells_one (.int .u64 0) n
  unfold wc64
  rw [List.map_replicate, ← this]
theorem cell_a2 {w3 : World} {p : Addr} {v : Value} (h : w3.cell? p = some v) (o1 o2 : Obj) : ((w3.alloc o1).alloc o2).cell? p = some v := by
  have hp := block_lt h
  rw [World.cell?_alloc_lt _ _ _ (by simp; omega), World.cell?_alloc_lt _ _ _ hp, h]
theorem cell_a3 {w3 : World} {p : Addr} {v : Value} (h : w3.cell? p = some v) (o1 o2 o3 : Obj) : (((w3.alloc o1).alloc o2).alloc o3).cell? p = some v := by
  have hp := block_lt h
  rw [World.cell?_alloc_lt _ _ _ (by simp; omega), cell_a2 h]
theorem cell_s1 {w3 : World} {p : Addr} {v : Value} (h : w3.cell? p = some v) {g : Nat} (hg : p.block ≠ g) (a b c : Value) (o1 : Obj) : ((((w3.setCell ⟨g, 0, none⟩ a).setCell ⟨g, 1, none⟩ b).setCell ⟨g, 2, none⟩ c).alloc o1).cell? p = some v := by
  have hp := block_lt h
  have e := fun (W : World) i v => World.cell?_setCell_far W ⟨g, i, none⟩ p v (Ne.symm hg)
  rw [World.cell?_alloc_lt _ _ _ (by simp; omega), e, e, e, h]
theorem cell_s2 {w3 : World} {p : Addr} {v : Value} (h : w3.cell? p = some v) {g : Nat} (hg : p.block ≠ g) (a b c : Value) (o1 o2 : Obj) : (((((w3.setCell ⟨g, 0, none⟩ a).setCell ⟨g, 1, none⟩ b).setCell ⟨g, 2, none⟩ c).alloc o1).alloc o2).cell? p = some v := by
  have hp := block_lt h
  rw [World.cell?_alloc_lt _ _ _ (by simp; omega), cell_s1 h hg]
theorem mkb {W : World} {p : Nat} {T : TypeId} {cs : Array Value} (h : p = W.heap.size) : Bk (W.alloc (.cells cs T)) p T cs := by
  subst h
  exact Bk.new _ _ _
theorem stor3 {W : World} {g : Nat} {T : TypeId} {x y z a b c : Value} (h : Bk W g T #[x, y, z]) : Bk (((W.setCell ⟨g, 0, none⟩ a).setCell ⟨g, 1, none⟩ b).setCell ⟨g, 2, none⟩ c) g T #[a, b, c] := Bk.stored (cells := #[a, b, c]) (hide rfl) h rfl
theorem bel3 {a W : World} {Z g : Nat} {x y z : Value} (h : Below Z a W) (hg : Z ≤ g) : Below Z a (((W.setCell ⟨g, 0, none⟩ x).setCell ⟨g, 1, none⟩ y).setCell ⟨g, 2, none⟩ z) := ((h.setCell (p := ⟨g, 0, none⟩) hg x).setCell (p := ⟨g, 1, none⟩) hg y).setCell (p := ⟨g, 2, none⟩) hg z
/-- A memory in the making. -/
structure Nw (w1 wx : World) (g5 gW gL nL N : Nat) (ws : List Int) : Prop where
  bel : Below w1.heap.size w1 wx
  k5 : Bk wx g5 33 #[.slice (some ⟨gW, 0, none⟩) N N, .slice (some ⟨gL, 0, none⟩) nL nL, .int .i64 0]
  kW : Bk wx gW 42 (wc64 ws)
  len : ws.length = N
  h5 : w1.heap.size ≤ g5
  hW : w1.heap.size ≤ gW
theorem nw_intro {w1 wx : World} {g5 gW gL nL N : Nat} {ws : List Int} (k5 : Bk wx g5 33 #[.slice (some ⟨gW, 0, none⟩) N N, .slice (some ⟨gL, 0, none⟩) nL nL, .int .i64 0]) (kW : Bk wx gW 42 (wc64 ws)) (bel : Below w1.heap.size w1 wx) (len : ws.length = N) (h5 : w1.heap.size ≤ g5) (hW : w1.heap.size ≤ gW) :
    ∃ g5' gW' gL' : Nat, (Value.pointer (some ⟨g5, 0, none⟩)) = .pointer (some ⟨g5', 0, none⟩) ∧ Nw w1 wx g5' gW' gL' nL N ws := ⟨g5, gW, gL, rfl, bel, k5, kW, len, h5, hW⟩
theorem nw_0 {w1 w3 : World} {N m2 : Nat} (hb : Below w1.heap.size w1 w3) (hs : w1.heap.size ≤ w3.heap.size) :
    ∃ g5 gW gL : Nat, (Value.pointer (some ⟨w3.heap.size + 1 + 1, 0, none⟩)) = .pointer (some ⟨g5, 0, none⟩) ∧ Nw w1 (((w3.alloc (.cells (wc64 (List.replicate N 0)) 42)).alloc (.cells (madeCells #[.slice none 0 0] m2) 27)).alloc (.cells #[.slice (some ⟨w3.heap.size, 0, none⟩) N N, .slice (some ⟨w3.heap.size + 1, 0, none⟩) m2 m2, .int .i64 0] 33)) g5 gW gL m2 N (List.replicate N 0) :=
  nw_intro (gW := w3.heap.size) (gL := w3.heap.size + 1) (mkb (by simp)) (((mkb (by simp)).alloc _).alloc _) (((hb.alloc (by first | omega | (simp; omega)) _).alloc (by first | omega | (simp; omega)) _).alloc (by first | omega | (simp; omega)) _) (by simp) (by omega) (by omega)
theorem nw_1 {w1 w3 : World} {N m2 : Nat} (hb : Below w1.heap.size w1 w3) (hs : w1.heap.size ≤ w3.heap.size) :
    ∃ g5 gW gL : Nat, (Value.pointer (some ⟨w3.heap.size + 1, 0, none⟩)) = .pointer (some ⟨g5, 0, none⟩) ∧ Nw w1 (((w3.alloc (.cells (wc64 (List.replicate N 0)) 42)).alloc (.cells #[.slice (some ⟨w3.heap.size, 0, none⟩) N N, .slice (some ⟨w3.heap.size + 1 + 1, 0, none⟩) m2 m2, .int .i64 0] 33)).alloc (.cells (madeCells #[.slice none 0 0] m2) 27)) g5 gW gL m2 N (List.replicate N 0) :=
  nw_intro (gW := w3.heap.size) (gL := w3.heap.size + 1 + 1) ((mkb (by simp)).alloc _) (((mkb (by simp)).alloc _).alloc _) (((hb.alloc (by first | omega | (simp; omega)) _).alloc (by first | omega | (simp; omega)) _).alloc (by first | omega | (simp; omega)) _) (by simp) (by omega) (by omega)
theorem nw_2 {w1 w3 : World} {N m2 : Nat} (hb : Below w1.heap.size w1 w3) (hs : w1.heap.size ≤ w3.heap.size) :
    ∃ g5 gW gL : Nat, (Value.pointer (some ⟨w3.heap.size + 1 + 1, 0, none⟩)) = .pointer (some ⟨g5, 0, none⟩) ∧ Nw w1 (((w3.alloc (.cells (madeCells #[.slice none 0 0] m2) 27)).alloc (.cells (wc64 (List.replicate N 0)) 42)).alloc (.cells #[.slice (some ⟨w3.heap.size + 1, 0, none⟩) N N, .slice (some ⟨w3.heap.size, 0, none⟩) m2 m2, .int .i64 0] 33)) g5 gW gL m2 N (List.replicate N 0) :=
  nw_intro (gW := w3.heap.size + 1) (gL := w3.heap.size) (mkb (by simp)) ((mkb (by simp)).alloc _) (((hb.alloc (by first | omega | (simp; omega)) _).alloc (by first | omega | (simp; omega)) _).alloc (by first | omega | (simp; omega)) _) (by simp) (by omega) (by omega)
theorem nw_3 {w1 w3 : World} {N m2 : Nat} (hb : Below w1.heap.size w1 w3) (hs : w1.heap.size ≤ w3.heap.size) :
    ∃ g5 gW gL : Nat, (Value.pointer (some ⟨w3.heap.size + 1, 0, none⟩)) = .pointer (some ⟨g5, 0, none⟩) ∧ Nw w1 (((w3.alloc (.cells (madeCells #[.slice none 0 0] m2) 27)).alloc (.cells #[.slice (some ⟨w3.heap.size + 1 + 1, 0, none⟩) N N, .slice (some ⟨w3.heap.size, 0, none⟩) m2 m2, .int .i64 0] 33)).alloc (.cells (wc64 (List.replicate N 0)) 42)) g5 gW gL m2 N (List.replicate N 0) :=
  nw_intro (gW := w3.heap.size + 1 + 1) (gL := w3.heap.size) ((mkb (by simp)).alloc _) (mkb (by simp)) (((hb.alloc (by first | omega | (simp; omega)) _).alloc (by first | omega | (simp; omega)) _).alloc (by first | omega | (simp; omega)) _) (by simp) (by omega) (by omega)
theorem nw_4 {w1 w3 : World} {N m2 : Nat} (hb : Below w1.heap.size w1 w3) (hs : w1.heap.size ≤ w3.heap.size) :
    ∃ g5 gW gL : Nat, (Value.pointer (some ⟨w3.heap.size, 0, none⟩)) = .pointer (some ⟨g5, 0, none⟩) ∧ Nw w1 (((w3.alloc (.cells #[.slice (some ⟨w3.heap.size + 1, 0, none⟩) N N, .slice (some ⟨w3.heap.size + 1 + 1, 0, none⟩) m2 m2, .int .i64 0] 33)).alloc (.cells (wc64 (List.replicate N 0)) 42)).alloc (.cells (madeCells #[.slice none 0 0] m2) 27)) g5 gW gL m2 N (List.replicate N 0) :=
  nw_intro (gW := w3.heap.size + 1) (gL := w3.heap.size + 1 + 1) (((mkb (by simp)).alloc _).alloc _) ((mkb (by simp)).alloc _) (((hb.alloc (by first | omega | (simp; omega)) _).alloc (by first | omega | (simp; omega)) _).alloc (by first | omega | (simp; omega)) _) (by simp) (by omega) (by omega)
theorem nw_5 {w1 w3 : World} {N m2 : Nat} (hb : Below w1.heap.size w1 w3) (hs : w1.heap.size ≤ w3.heap.size) :
    ∃ g5 gW gL : Nat, (Value.pointer (some ⟨w3.heap.size, 0, none⟩)) = .pointer (some ⟨g5, 0, none⟩) ∧ Nw w1 (((w3.alloc (.cells #[.slice (some ⟨w3.heap.size + 1 + 1, 0, none⟩) N N, .slice (some ⟨w3.heap.size + 1, 0, none⟩) m2 m2, .int .i64 0] 33)).alloc (.cells (madeCells #[.slice none 0 0] m2) 27)).alloc (.cells (wc64 (List.replicate N 0)) 42)) g5 gW gL m2 N (List.replicate N 0) :=
  nw_intro (gW := w3.heap.size + 1 + 1) (gL := w3.heap.size + 1) (((mkb (by simp)).alloc _).alloc _) (mkb (by simp)) (((hb.alloc (by first | omega | (simp; omega)) _).alloc (by first | omega | (simp; omega)) _).alloc (by first | omega | (simp; omega)) _) (by simp) (by omega) (by omega)
theorem nw_6 {w1 w3 : World} {N m2 : Nat} (hb : Below w1.heap.size w1 w3) (hs : w1.heap.size ≤ w3.heap.size) :
    ∃ g5 gW gL : Nat, (Value.pointer (some ⟨w3.heap.size + 1, 0, none⟩)) = .pointer (some ⟨g5, 0, none⟩) ∧ Nw w1 ((w3.alloc (.cells (wc64 (List.replicate N 0)) 42)).alloc (.cells #[.slice (some ⟨w3.heap.size, 0, none⟩) N N, .slice (some ⟨w1.heap.size, 0, none⟩) m2 m2, .int .i64 0] 33)) g5 gW gL m2 N (List.replicate N 0) :=
  nw_intro (gW := w3.heap.size) (gL := w1.heap.size) (mkb (by simp)) ((mkb (by simp)).alloc _) ((hb.alloc (by first | omega | (simp; omega)) _).alloc (by first | omega | (simp; omega)) _) (by simp) (by omega) (by omega)
theorem nw_7 {w1 w3 : World} {N m2 : Nat} (hb : Below w1.heap.size w1 w3) (hs : w1.heap.size ≤ w3.heap.size) :
    ∃ g5 gW gL : Nat, (Value.pointer (some ⟨w3.heap.size, 0, none⟩)) = .pointer (some ⟨g5, 0, none⟩) ∧ Nw w1 ((w3.alloc (.cells #[.slice (some ⟨w3.heap.size + 1, 0, none⟩) N N, .slice (some ⟨w1.heap.size, 0, none⟩) m2 m2, .int .i64 0] 33)).alloc (.cells (wc64 (List.replicate N 0)) 42)) g5 gW gL m2 N (List.replicate N 0) :=
  nw_intro (gW := w3.heap.size + 1) (gL := w1.heap.size) ((mkb (by simp)).alloc _) (mkb (by simp)) ((hb.alloc (by first | omega | (simp; omega)) _).alloc (by first | omega | (simp; omega)) _) (by simp) (by omega) (by omega)
theorem nw_8 {w1 w3 : World} {N m2 : Nat} (hb : Below w1.heap.size w1 w3) (hs : w1.heap.size ≤ w3.heap.size) (E9 : Bk w3 (w1.heap.size + 1) 33 #[.slice none 0 0, .slice none 0 0, .int .i64 0]) :
    ∃ g5 gW gL : Nat, (Value.pointer (some ⟨w1.heap.size + 1, 0, none⟩)) = .pointer (some ⟨g5, 0, none⟩) ∧ Nw w1 ((((w3.setCell ⟨w1.heap.size + 1, 0, none⟩ (.slice (some ⟨w3.heap.size, 0, none⟩) N N)).setCell ⟨w1.heap.size + 1, 1, none⟩ (.slice (some ⟨w1.heap.size, 0, none⟩) m2 m2)).setCell ⟨w1.heap.size + 1, 2, none⟩ (.int .i64 0)).alloc (.cells (wc64 (List.replicate N 0)) 42)) g5 gW gL m2 N (List.replicate N 0) :=
  nw_intro (gW := w3.heap.size) (gL := w1.heap.size) ((stor3 E9).alloc _) (mkb (by simp)) ((bel3 hb (by omega)).alloc (by first | omega | (simp; omega)) _) (by simp) (by omega) (by omega)
theorem nw_9 {w1 w3 : World} {N m2 : Nat} (hb : Below w1.heap.size w1 w3) (hs : w1.heap.size ≤ w3.heap.size) (E9 : Bk w3 (w1.heap.size) 33 #[.slice none 0 0, .slice none 0 0, .int .i64 0]) :
    ∃ g5 gW gL : Nat, (Value.pointer (some ⟨w1.heap.size, 0, none⟩)) = .pointer (some ⟨g5, 0, none⟩) ∧ Nw w1 (((((w3.setCell ⟨w1.heap.size, 0, none⟩ (.slice (some ⟨w3.heap.size, 0, none⟩) N N)).setCell ⟨w1.heap.size, 1, none⟩ (.slice (some ⟨w3.heap.size + 1, 0, none⟩) m2 m2)).setCell ⟨w1.heap.size, 2, none⟩ (.int .i64 0)).alloc (.cells (wc64 (List.replicate N 0)) 42)).alloc (.cells (madeCells #[.slice none 0 0] m2) 27)) g5 gW gL m2 N (List.replicate N 0) :=
  nw_intro (gW := w3.heap.size) (gL := w3.heap.size + 1) (((stor3 E9).alloc _).alloc _) ((mkb (by simp)).alloc _) (((bel3 hb (by omega)).alloc (by first | omega | (simp; omega)) _).alloc (by first | omega | (simp; omega)) _) (by simp) (by omega) (by omega)
theorem nw_10 {w1 w3 : World} {N m2 : Nat} (hb : Below w1.heap.size w1 w3) (hs : w1.heap.size ≤ w3.heap.size) (E9 : Bk w3 (w1.heap.size) 33 #[.slice none 0 0, .slice none 0 0, .int .i64 0]) :
    ∃ g5 gW gL : Nat, (Value.pointer (some ⟨w1.heap.size, 0, none⟩)) = .pointer (some ⟨g5, 0, none⟩) ∧ Nw w1 (((((w3.setCell ⟨w1.heap.size, 0, none⟩ (.slice (some ⟨w3.heap.size + 1, 0, none⟩) N N)).setCell ⟨w1.heap.size, 1, none⟩ (.slice (some ⟨w3.heap.size, 0, none⟩) m2 m2)).setCell ⟨w1.heap.size, 2, none⟩ (.int .i64 0)).alloc (.cells (madeCells #[.slice none 0 0] m2) 27)).alloc (.cells (wc64 (List.replicate N 0)) 42)) g5 gW gL m2 N (List.replicate N 0) :=
  nw_intro (gW := w3.heap.size + 1) (gL := w3.heap.size) (((stor3 E9).alloc _).alloc _) (mkb (by simp)) (((bel3 hb (by omega)).alloc (by first | omega | (simp; omega)) _).alloc (by first | omega | (simp; omega)) _) (by simp) (by omega) (by omega)
theorem nw_11 {w1 w3 : World} {N m2 : Nat} (hb : Below w1.heap.size w1 w3) (hs : w1.heap.size ≤ w3.heap.size) (E9 : Bk w3 (w1.heap.size) 33 #[.slice none 0 0, .slice none 0 0, .int .i64 0]) :
    ∃ g5 gW gL : Nat, (Value.pointer (some ⟨w1.heap.size, 0, none⟩)) = .pointer (some ⟨g5, 0, none⟩) ∧ Nw w1 ((((w3.setCell ⟨w1.heap.size, 0, none⟩ (.slice (some ⟨w3.heap.size, 0, none⟩) N N)).setCell ⟨w1.heap.size, 1, none⟩ (.slice (some ⟨w1.heap.size + 1, 0, none⟩) m2 m2)).setCell ⟨w1.heap.size, 2, none⟩ (.int .i64 0)).alloc (.cells (wc64 (List.replicate N 0)) 42)) g5 gW gL m2 N (List.replicate N 0) :=
  nw_intro (gW := w3.heap.size) (gL := w1.heap.size + 1) ((stor3 E9).alloc _) (mkb (by simp)) ((bel3 hb (by omega)).alloc (by first | omega | (simp; omega)) _) (by simp) (by omega) (by omega)
section
variable {w1 wx wy : World} {g5 gW gL nL N : Nat} {ws : List Int}
theorem Nw.ne (H : Nw w1 wx g5 gW gL nL N ws) : g5 ≠ gW := fun e => by
  have a := H.k5
  have b := H.kW
  rw [e] at a
  unfold Bk at a b
  rw [a] at b
  simp at b
theorem Nw.below (H : Nw w1 wx g5 gW gL nL N ws) (h : Below wx.heap.size wx wy) : Nw w1 wy g5 gW gL nL N ws :=
  ⟨H.bel.trans (h.mono H.bel.size), H.k5.below h H.k5.lt, H.kW.below h H.kW.lt, H.len, H.h5, H.hW⟩
theorem Nw.set_ (H : Nw w1 wx g5 gW gL nL N ws) (i : Nat) (v : Int) : Nw w1 (wx.setCell ⟨gW, i, none⟩ (.int .u64 v)) g5 gW gL nL N (ws.set i v) :=
  ⟨H.bel.setCell H.hW _, H.k5.far (p := ⟨gW, i, none⟩) H.ne _, by have := H.kW.set_ i (.int .u64 v); rwa [wc64_set] at this, by simp [H.len], H.h5, H.hW⟩
end
theorem tlN_mono {w : World} {A : Option Addr} {n : Nat} {l : List Int} (h : Cf w A n l) (i : Nat) : ∀ j, i ≤ j → j ≤ n → tlN l i ≤ tlN l j := by
  intro j
  induction j with
  | zero => intro h1 _; obtain rfl : i = 0 := by omega
            exact Int.le_refl _
  | succ j ih =>
    intro h1 h2
    by_cases e : i = j + 1
    · rw [e]; exact Int.le_refl _
    · have := ih (by omega) (by omega)
      obtain ⟨a, b⟩ := h.in_ (show j < n by omega)
      have := sz_bd _ a b
      rw [show tlN l (j + 1) = tlN l j + (5 + 2 * sz (l.getD j 0)) from rfl]
      omega
theorem Tryz.sl_inf : (Tryz.prog.info? 27).map (fun i => (i.zero, i.size, i.bytes)) = some (some (.slice none 0 0), 1, 24) := by kernel_rfl
set_option maxHeartbeats 6000000 in
set_option maxRecDepth 100000 in
theorem rnew_any (w : World) (A : Option Addr) (n c : Nat) (l : List Int) (B : Option Addr) (d : Nat) (s : List Int) (tn : Nat) (hcf : Cf w A n l) (hs : IsI .u64 w B n s) (hst : ∀ x ∈ s, 0 ≤ x ∧ x < 9223372036854775808) (ht1 : 1 ≤ tn) (ht8 : tn ≤ 8) :
    Calls Tryz.prog 22 #[.agg #[.slice A n c, .slice B n d, .int .i64 tn]] w fun e w' => ∃ gW gL : Nat, e = .returned (.tuple #[.agg #[.slice (some ⟨gW, 0, none⟩) (totI l tn) (totI l tn), .slice (some ⟨gL, 0, none⟩) (2 * n) (2 * n), .int .i64 0], .int .i64 0]) ∧ Bk w' gW 42 (wc64 (iniI l s tn)) ∧ w.heap.size ≤ gW ∧ Below w.heap.size w w' := by
  have hn8 := hcf.2.1
  have hl := hcf.len
  have hsl := hs.len
  have htl := hcf.tl n (Nat.le_refl _)
  have hck : chk l s tn = 0 := by
    have b1 : l.any badK = false := any_no hl (fun j hj => badK_no (hcf.in_ hj).1 (hcf.in_ hj).2)
    have b2 : s.any badS = false := any_no hsl (fun j hj => by
      have hm : s.getD j 0 ∈ s := by
        rw [List.getD, List.getElem?_eq_getElem (by omega)]
        exact List.getElem_mem _
      have := hst _ hm
      unfold badS
      simp only [decide_eq_false_iff_not]
      omega)
    unfold chk
    rw [if_neg (by omega), if_neg (by omega), if_neg (by simp [b1]), if_neg (by simp [b2]), if_neg (by omega)]
  obtain ⟨N, hN⟩ : ∃ N : Nat, tlN l n + (tn : Int) * 11 = N := Int.eq_ofNat_of_zero_le (by omega)
  have hNt : totI l tn = N := by unfold totI; rw [hl, hN]; rfl
  have hNb : N ≤ 400 := by omega
  obtain ⟨m2, hm2⟩ : ∃ m2 : Nat, m2 = 2 * n := ⟨_, rfl⟩
  have hm16 : m2 ≤ 16 := by omega
  have e2 : IntKind.i64.wrap (2 * (n : Int)) = (m2 : Int) := by rw [show (2 * (n : Int)) = (m2 : Int) by omega]; exact IntWalk.i64_in (m2 : Int) ⟨by omega, by omega⟩
  have HM2 := hide hm2
  have HE2 := hide e2
  clear hm2 e2
  have HCK := hide (fun W (h1 : IsI .i64 W A n l) (h2 : IsI .u64 W B n s) => rcheck_any W A n c l B n d s tn h1 h2 (by omega) (by omega))
  rw [hck] at HCK
  have HL := hide hl
  have HC := hide hcf
  have HS := hide hs
  have HST := hide hst
  have HN := hide hN
  have HNT := hide hNt
  clear hcf hs hst hck hN hNt hl hsl htl
  go_enter Tryz.func22, Tryz.ntmps22
  go_wp2_with fail
  refine (HCK.out _ ((HC.out.1.alloc _).alloc _) ((HS.out.alloc _).alloc _)).mono ?_
  rintro e w1 ⟨rfl, hb⟩
  have KC := hide (((Bk.new w 30 #[.slice A n c, .slice B n d, .int .i64 tn]).alloc (.cells #[.slice none 0 0, .slice none 0 0, .int .i64 0] 33)).below hb (by simp; omega))
  have KR : Hid (Bk w1 (w.heap.size + 1) 33 #[.slice none 0 0, .slice none 0 0, .int .i64 0]) := hide (at_second hb).1
  have HB1 := hide ((((Below.refl w.heap.size w).alloc (Nat.le_refl _) (.cells #[.slice A n c, .slice B n d, .int .i64 tn] 30)).alloc (by simp) (.cells #[.slice none 0 0, .slice none 0 0, .int .i64 0] 33)).trans (hb.mono (by simp; omega)))
  have hw1 : w.heap.size + 1 < w1.heap.size := KR.out.lt
  have HC1 := hide (HC.out.below HB1.out)
  have HS1 := hide (HS.out.below HB1.out)
  clear hb HCK HC HS
  go_upto_region 4 with fail
  go_cut [5] (fun s5 wx => ∃ g5 gW gL : Nat, s5 = .pointer (some ⟨g5, 0, none⟩) ∧ Nw w1 wx g5 gW gL m2 N (List.replicate N 0))
  case first =>
    have hmk1 := fun W => run_make_row' (P := Tryz.prog) 28 42 (.int .u64 0) 8 Tryz.underlying28 Tryz.u64_inf rfl .i64 .i64 N (by omega) (by omega) W
    have hmk2 := fun W => run_make_row' (P := Tryz.prog) 31 27 (.slice none 0 0) 24 Tryz.underlying31 Tryz.sl_inf rfl .i64 .i64 m2 (by omega) (by omega) W
    have e2 := HE2.out
    rw [made_wc] at hmk1
    obtain ⟨k0, k1, k2, -⟩ := bkm3 KC.out
    have hE := HN.out
    have BD0 : Hid (Below w1.heap.size w1 w1.drew) := hide ((Below.refl w1.heap.size w1).drew)
    have BA0 : Hid (Cf w1.drew A n l) := hide (HC1.out.below BD0.out)
    have BD1 : Hid (Below w1.heap.size w1 (w1.alloc (.cells (madeCells #[.slice none 0 0] m2) 27)).drew) := hide (((Below.refl w1.heap.size w1).alloc (by simp <;> omega) _).drew)
    have BA1 : Hid (Cf (w1.alloc (.cells (madeCells #[.slice none 0 0] m2) 27)).drew A n l) := hide (HC1.out.below BD1.out)
    have BD2 : Hid (Below w1.heap.size w1 (w1.alloc (.cells #[.slice none 0 0, .slice none 0 0, .int .i64 0] 33)).drew) := hide (((Below.refl w1.heap.size w1).alloc (by simp <;> omega) _).drew)
    have BA2 : Hid (Cf (w1.alloc (.cells #[.slice none 0 0, .slice none 0 0, .int .i64 0] 33)).drew A n l) := hide (HC1.out.below BD2.out)
    have BE2 : Hid (Bk (w1.alloc (.cells #[.slice none 0 0, .slice none 0 0, .int .i64 0] 33)).drew w1.heap.size 33 #[.slice none 0 0, .slice none 0 0, .int .i64 0]) := hide (by simpa using (Bk.new w1 33 #[.slice none 0 0, .slice none 0 0, .int .i64 0]) : Bk (w1.alloc (.cells #[.slice none 0 0, .slice none 0 0, .int .i64 0] 33)) w1.heap.size 33 #[.slice none 0 0, .slice none 0 0, .int .i64 0])
    have BD3 : Hid (Below w1.heap.size w1 ((w1.alloc (.cells (madeCells #[.slice none 0 0] m2) 27)).alloc (.cells #[.slice none 0 0, .slice none 0 0, .int .i64 0] 33)).drew) := hide ((((Below.refl w1.heap.size w1).alloc (by simp <;> omega) _).alloc (by simp <;> omega) _).drew)
    have BA3 : Hid (Cf ((w1.alloc (.cells (madeCells #[.slice none 0 0] m2) 27)).alloc (.cells #[.slice none 0 0, .slice none 0 0, .int .i64 0] 33)).drew A n l) := hide (HC1.out.below BD3.out)
    have BE3 : Hid (Bk ((w1.alloc (.cells (madeCells #[.slice none 0 0] m2) 27)).alloc (.cells #[.slice none 0 0, .slice none 0 0, .int .i64 0] 33)).drew (w1.heap.size + 1) 33 #[.slice none 0 0, .slice none 0 0, .int .i64 0]) := hide (by simpa using (Bk.new (w1.alloc (.cells (madeCells #[.slice none 0 0] m2) 27)) 33 #[.slice none 0 0, .slice none 0 0, .int .i64 0]) : Bk ((w1.alloc (.cells (madeCells #[.slice none 0 0] m2) 27)).alloc (.cells #[.slice none 0 0, .slice none 0 0, .int .i64 0] 33)) (w1.heap.size + 1) 33 #[.slice none 0 0, .slice none 0 0, .int .i64 0])
    have BD4 : Hid (Below w1.heap.size w1 ((w1.alloc (.cells #[.slice none 0 0, .slice none 0 0, .int .i64 0] 33)).alloc (.cells (madeCells #[.slice none 0 0] m2) 27)).drew) := hide ((((Below.refl w1.heap.size w1).alloc (by simp <;> omega) _).alloc (by simp <;> omega) _).drew)
    have BA4 : Hid (Cf ((w1.alloc (.cells #[.slice none 0 0, .slice none 0 0, .int .i64 0] 33)).alloc (.cells (madeCells #[.slice none 0 0] m2) 27)).drew A n l) := hide (HC1.out.below BD4.out)
    have BE4 : Hid (Bk ((w1.alloc (.cells #[.slice none 0 0, .slice none 0 0, .int .i64 0] 33)).alloc (.cells (madeCells #[.slice none 0 0] m2) 27)).drew w1.heap.size 33 #[.slice none 0 0, .slice none 0 0, .int .i64 0]) := hide (by simpa using ((Bk.new w1 33 #[.slice none 0 0, .slice none 0 0, .int .i64 0]).alloc (.cells (madeCells #[.slice none 0 0] m2) 27)) : Bk ((w1.alloc (.cells #[.slice none 0 0, .slice none 0 0, .int .i64 0] 33)).alloc (.cells (madeCells #[.slice none 0 0] m2) 27)) w1.heap.size 33 #[.slice none 0 0, .slice none 0 0, .int .i64 0])
    have b0 : w.heap.size ≠ w1.heap.size := by omega
    have b1 : w1.heap.size ≠ w.heap.size := by omega
    have b2 : w.heap.size ≠ w1.heap.size + 1 := by omega
    have b3 : w1.heap.size + 1 ≠ w.heap.size := by omega
    have hw0 : w.heap.size < w1.heap.size := by omega
    go_region_held3 (fun u => u.cell? ⟨w.heap.size, 0, none⟩ = some (.slice A n c) ∧ u.cell? ⟨w.heap.size, 1, none⟩ = some (.slice B n d) ∧ u.cell? ⟨w.heap.size, 2, none⟩ = some (.int .i64 tn)) (go_keep) (first
      | (with_reducible refine Calls.mono (rwords_any _ A n c l B n d BA0.out tn ht8) ?_; rintro e w3 ⟨rfl, hb3⟩; have HB3 := hide (BD0.out.trans (hb3.mono (by simp <;> omega))); have hs3 := HB3.out.size; have nc0 : w.heap.size ≠ w3.heap.size := (by omega); have nc1 : w3.heap.size ≠ w.heap.size := (by omega); have nc2 : w.heap.size ≠ w3.heap.size + 1 := (by omega); have nc3 : w3.heap.size + 1 ≠ w.heap.size := (by omega); have nc4 : w.heap.size ≠ w3.heap.size + 1 + 1 := (by omega); have nc5 : w3.heap.size + 1 + 1 ≠ w.heap.size := (by omega); obtain ⟨k0, k1, k2, -⟩ := bkm3 (KC.out.below HB3.out KC.out.lt); have k0c := cell_a3 k0; have k1c := cell_a3 k1; have k2c := cell_a3 k2; have k0d := cell_a2 k0; have k1d := cell_a2 k1; have k2d := cell_a2 k2; clear hb3)
      | (with_reducible refine Calls.mono (rwords_any _ A n c l B n d BA1.out tn ht8) ?_; rintro e w3 ⟨rfl, hb3⟩; have HB3 := hide (BD1.out.trans (hb3.mono (by simp <;> omega))); have hs3 := HB3.out.size; have nc0 : w.heap.size ≠ w3.heap.size := (by omega); have nc1 : w3.heap.size ≠ w.heap.size := (by omega); have nc2 : w.heap.size ≠ w3.heap.size + 1 := (by omega); have nc3 : w3.heap.size + 1 ≠ w.heap.size := (by omega); have nc4 : w.heap.size ≠ w3.heap.size + 1 + 1 := (by omega); have nc5 : w3.heap.size + 1 + 1 ≠ w.heap.size := (by omega); obtain ⟨k0, k1, k2, -⟩ := bkm3 (KC.out.below HB3.out KC.out.lt); have k0c := cell_a3 k0; have k1c := cell_a3 k1; have k2c := cell_a3 k2; have k0d := cell_a2 k0; have k1d := cell_a2 k1; have k2d := cell_a2 k2; clear hb3)
      | (with_reducible refine Calls.mono (rwords_any _ A n c l B n d BA2.out tn ht8) ?_; rintro e w3 ⟨rfl, hb3⟩; have E9 := hide (BE2.out.below hb3 (by simp <;> omega)); obtain ⟨e0, e1, e2, ef⟩ := bkm3 E9.out; have hq9 := E9.out.lt; have HB3 := hide (BD2.out.trans (hb3.mono (by simp <;> omega))); have hs3 := HB3.out.size; have nc0 : w.heap.size ≠ w3.heap.size := (by omega); have nc1 : w3.heap.size ≠ w.heap.size := (by omega); have nc2 : w.heap.size ≠ w3.heap.size + 1 := (by omega); have nc3 : w3.heap.size + 1 ≠ w.heap.size := (by omega); have nc4 : w.heap.size ≠ w3.heap.size + 1 + 1 := (by omega); have nc5 : w3.heap.size + 1 + 1 ≠ w.heap.size := (by omega); obtain ⟨k0, k1, k2, -⟩ := bkm3 (KC.out.below HB3.out KC.out.lt); have k0c := cell_a3 k0; have k1c := cell_a3 k1; have k2c := cell_a3 k2; have k0d := cell_a2 k0; have k1d := cell_a2 k1; have k2d := cell_a2 k2; have k0e := cell_s2 k0 (show w.heap.size ≠ _ from b0); have k1e := cell_s2 k1 (show w.heap.size ≠ _ from b0); have k2e := cell_s2 k2 (show w.heap.size ≠ _ from b0); have k0f := cell_s1 k0 (show w.heap.size ≠ _ from b0); have k1f := cell_s1 k1 (show w.heap.size ≠ _ from b0); have k2f := cell_s1 k2 (show w.heap.size ≠ _ from b0); clear hb3)
      | (with_reducible refine Calls.mono (rwords_any _ A n c l B n d BA3.out tn ht8) ?_; rintro e w3 ⟨rfl, hb3⟩; have E9 := hide (BE3.out.below hb3 (by simp <;> omega)); obtain ⟨e0, e1, e2, ef⟩ := bkm3 E9.out; have hq9 := E9.out.lt; have HB3 := hide (BD3.out.trans (hb3.mono (by simp <;> omega))); have hs3 := HB3.out.size; have nc0 : w.heap.size ≠ w3.heap.size := (by omega); have nc1 : w3.heap.size ≠ w.heap.size := (by omega); have nc2 : w.heap.size ≠ w3.heap.size + 1 := (by omega); have nc3 : w3.heap.size + 1 ≠ w.heap.size := (by omega); have nc4 : w.heap.size ≠ w3.heap.size + 1 + 1 := (by omega); have nc5 : w3.heap.size + 1 + 1 ≠ w.heap.size := (by omega); obtain ⟨k0, k1, k2, -⟩ := bkm3 (KC.out.below HB3.out KC.out.lt); have k0c := cell_a3 k0; have k1c := cell_a3 k1; have k2c := cell_a3 k2; have k0d := cell_a2 k0; have k1d := cell_a2 k1; have k2d := cell_a2 k2; have k0e := cell_s2 k0 (show w.heap.size ≠ _ from b2); have k1e := cell_s2 k1 (show w.heap.size ≠ _ from b2); have k2e := cell_s2 k2 (show w.heap.size ≠ _ from b2); have k0f := cell_s1 k0 (show w.heap.size ≠ _ from b2); have k1f := cell_s1 k1 (show w.heap.size ≠ _ from b2); have k2f := cell_s1 k2 (show w.heap.size ≠ _ from b2); clear hb3)
      | (with_reducible refine Calls.mono (rwords_any _ A n c l B n d BA4.out tn ht8) ?_; rintro e w3 ⟨rfl, hb3⟩; have E9 := hide (BE4.out.below hb3 (by simp <;> omega)); obtain ⟨e0, e1, e2, ef⟩ := bkm3 E9.out; have hq9 := E9.out.lt; have HB3 := hide (BD4.out.trans (hb3.mono (by simp <;> omega))); have hs3 := HB3.out.size; have nc0 : w.heap.size ≠ w3.heap.size := (by omega); have nc1 : w3.heap.size ≠ w.heap.size := (by omega); have nc2 : w.heap.size ≠ w3.heap.size + 1 := (by omega); have nc3 : w3.heap.size + 1 ≠ w.heap.size := (by omega); have nc4 : w.heap.size ≠ w3.heap.size + 1 + 1 := (by omega); have nc5 : w3.heap.size + 1 + 1 ≠ w.heap.size := (by omega); obtain ⟨k0, k1, k2, -⟩ := bkm3 (KC.out.below HB3.out KC.out.lt); have k0c := cell_a3 k0; have k1c := cell_a3 k1; have k2c := cell_a3 k2; have k0d := cell_a2 k0; have k1d := cell_a2 k1; have k2d := cell_a2 k2; have k0e := cell_s2 k0 (show w.heap.size ≠ _ from b0); have k1e := cell_s2 k1 (show w.heap.size ≠ _ from b0); have k2e := cell_s2 k2 (show w.heap.size ≠ _ from b0); have k0f := cell_s1 k0 (show w.heap.size ≠ _ from b0); have k1f := cell_s1 k1 (show w.heap.size ≠ _ from b0); have k2f := cell_s1 k2 (show w.heap.size ≠ _ from b0); clear hb3))
    · go_wp2_with fail
      go_meet
      case rel => exact nw_0 HB3.out hs3
    · go_wp2_with fail
      go_meet
      case rel => exact nw_1 HB3.out hs3
    · go_wp2_with fail
      go_meet
      case rel => exact nw_2 HB3.out hs3
    · go_wp2_with fail
      go_meet
      case rel => exact nw_3 HB3.out hs3
    · go_wp2_with fail
      go_meet
      case rel => exact nw_4 HB3.out hs3
    · go_wp2_with fail
      go_meet
      case rel => exact nw_5 HB3.out hs3
    · go_wp2_with fail
      go_meet
      case rel => exact nw_6 HB3.out hs3
    · go_wp2_with fail
      go_meet
      case rel => exact nw_7 HB3.out hs3
    · go_wp2_with fail
      go_meet
      case rel => exact nw_8 HB3.out hs3 E9.out
    · go_wp2_with fail
      go_meet
      case rel => exact nw_9 HB3.out hs3 E9.out
    · go_wp2_with fail
      go_meet
      case rel => exact nw_10 HB3.out hs3 E9.out
    · go_wp2_with fail
      go_meet
      case rel => exact nw_11 HB3.out hs3 E9.out
  case rest =>
    obtain ⟨g5, gW, gL, rfl, hn0⟩ := hcut
    have HW0 := hide hn0
    clear hn0
    go_wp2
    go_loopg [6, 7, 8] n (fun g s6 s7 s8 wr => ∃ j : Nat, g + j = n ∧ s6 = .int .i64 j ∧ Nw w1 wr g5 gW gL m2 N (chansI l s j (List.replicate N 0)))
    case atStart => exact ⟨0, by omega, rfl, HW0.out⟩
    case round =>
      obtain ⟨j, hj, rfl, hnw⟩ := hrel
      have H0 := hide hnw
      clear hnw HW0
      obtain ⟨k0, k1, k2, -⟩ := bkm3 (KC.out.below H0.out.bel KC.out.lt)
      by_cases hlt : j < n
      · have hCr := HC1.out.below H0.out.bel
        obtain ⟨x1, x2⟩ := hCr.in_ hlt
        have x3 := sz_bd _ x1 x2
        obtain ⟨S, hS⟩ : ∃ S : Nat, sz (l.getD j 0) = S := Int.eq_ofNat_of_zero_le (by omega)
        have x4 := hCr.tl j (by omega)
        obtain ⟨P, hP⟩ : ∃ P : Nat, tlN l j = P := Int.eq_ofNat_of_zero_le (by omega)
        have x5 : tlN l (j + 1) = tlN l j + (5 + 2 * sz (l.getD j 0)) := rfl
        have x6 := tlN_mono hCr (j + 1) n (by omega) (Nat.le_refl _)
        have x7 := HN.out
        have hPN : P + 5 + 2 * S ≤ N := by omega
        have hS16 : S ≤ 16 := by omega
        have hS1 : 1 ≤ S := by omega
        have hm : s.getD j 0 ∈ s := by
          have := HS1.out.len
          rw [List.getD, List.getElem?_eq_getElem (by omega)]
          exact List.getElem_mem _
        have hsv := HST.out _ hm
        obtain ⟨bd, rfl, _, hc⟩ := (HS1.out.below H0.out.bel).at_ hlt
        have HX := hide (show chansI l s (j + 1) (List.replicate N 0) = slotsI l s j S (((chansI l s j (List.replicate N 0)).set P (pk (s.getD j 0) false)).set (P + 1) (s.getD j 0)) by
          rw [chansI, hS, hP]
          rfl)
        have HSL := hide (fun k ws => show slotsI l s j (k + 1) ws = (slotsI l s j k ws).set (slN l j (nx (s.getD j 0) k)).toNat (nx (s.getD j 0) k) from rfl)
        have HSQ := hide (fun q : Int => show slN l j q = (P : Int) + 5 + 2 * sl q S by unfold slN; rw [hS, hP])
        have QT := hide (fun (W : World) (hW : Below w1.heap.size w1 W) => rtl_any W A n c l (some bd) n d tn (HC1.out.below hW) j (by omega))
        have QH := hide (fun (W : World) (hW : Below w1.heap.size w1 W) => rhead_any W A n c l (some bd) n d tn (HC1.out.below hW) j (by omega))
        have QZ := hide (fun (W : World) (hW : Below w1.heap.size w1 W) => rsz_any W A n c l (some bd) n d tn (HC1.out.below hW) j hlt)
        have QQ := hide (fun (W : World) (hW : Below w1.heap.size w1 W) (q : Int) (h0 : 0 ≤ q) (h1 : q ≤ 18446744073709551615) => rslotseq_any W A n c l (some bd) n d tn (HC1.out.below hW) j hlt q h0 h1)
        rw [hP] at QT QH QQ
        rw [hS] at QZ QQ
        obtain ⟨P1, hP1⟩ : ∃ P1 : Nat, P1 = P + 1 := ⟨_, rfl⟩
        rw [show (P : Int) + 1 = (P1 : Int) by omega] at QH
        rw [show P + 1 = P1 from hP1.symm] at HX
        have hP1N : P1 < N := by omega
        clear hP1
        have CS := hide (fun (W : World) (hW : Below w1.heap.size w1 W) => show W.cell? (bd.add j) = some (.int .u64 (s.getD j 0)) by
          obtain ⟨bd', e, _, hc'⟩ := (HS1.out.below hW).at_ hlt
          cases e
          exact hc')
        generalize hws : chansI l s j (List.replicate N 0) = ws0 at *
        generalize s.getD j 0 = sv at *
        clear hm hc x1 x2 x3 x4 x5 x6 x7 hCr hP hS hws
        have HSV := hide hsv
        clear hsv
        go_upto_region 8 with fail
        have QT1 := hide (fun (u : Up wr) => QT.out u.1 (H0.out.bel.trans (u.2.mono H0.out.bel.size)))
        have QP1 := hide (fun (W : World) => rpack_any sv false W)
        have k0 := fun (u : Up wr) => up_cell k0 u
        have k1 := fun (u : Up wr) => up_cell k1 u
        have k2 := fun (u : Up wr) => up_cell k2 u
        have c5 := fun (u : Up wr) => (bkm3 (H0.out.k5.below u.2 H0.out.k5.lt)).1
        have cs := fun (u : Up wr) => CS.out u.1 (H0.out.bel.trans (u.2.mono H0.out.bel.size))
        have e1 : decide ((j : Int) < 0) = false := by simp
        have e2 : decide (n ≤ j) = false := by simp; omega
        refine wp_region_up_tail 11 (by kernel_rfl) (by kernel_rfl) ?_
        simp only [List.take_succ_cons, List.take_zero, List.drop_succ_cons, List.drop_zero]
        repeat (go_big_quiet_step (first
          | (go_at_call 7; exact up_call (QT1.out _))
          | (go_at_call 40; exact up_same (QP1.out _))))
        refine wpQuiet_nil ?_
        intro u
        have H1 := hide (H0.out.below u.2)
        clear k0 k1 k2 c5 cs QT1 QP1 H0 QT
        generalize u.1 = wa at *
        clear u
        have e3 : decide ((P : Int) < 0) = false := by simp
        have e4 : decide (N ≤ P) = false := by simp; omega
        have wcl := (H1.out.kW.cell P).trans (wc64_get _ P (by have := H1.out.len; omega))
        have wfr := H1.out.kW.frozen P
        go_upto_region 9 with fail
        have H2 := hide (H1.out.set_ P (pk sv false))
        clear wcl wfr e3 e4 H1
        change Code.wp _ _ _ _ (wa.setCell ⟨gW, P, none⟩ (.int .u64 (pk sv false)))
        generalize wa.setCell ⟨gW, P, none⟩ (.int .u64 (pk sv false)) = wb at *
        obtain ⟨k0, k1, k2, -⟩ := bkm3 (KC.out.below H2.out.bel KC.out.lt)
        have QT1 := hide (fun (u : Up wb) => QH.out u.1 (H2.out.bel.trans (u.2.mono H2.out.bel.size)))
        have k0 := fun (u : Up wb) => up_cell k0 u
        have k1 := fun (u : Up wb) => up_cell k1 u
        have k2 := fun (u : Up wb) => up_cell k2 u
        have c5 := fun (u : Up wb) => (bkm3 (H2.out.k5.below u.2 H2.out.k5.lt)).1
        have cs := fun (u : Up wb) => CS.out u.1 (H2.out.bel.trans (u.2.mono H2.out.bel.size))
        refine wp_region_up_tail 10 (by kernel_rfl) (by kernel_rfl) ?_
        simp only [List.take_succ_cons, List.take_zero, List.drop_succ_cons, List.drop_zero]
        repeat (go_big_quiet_step (first
          | (go_at_call 8; exact up_call (QT1.out _))))
        refine wpQuiet_nil ?_
        intro u
        have H3 := hide (H2.out.below u.2)
        clear k0 k1 k2 c5 cs QT1 H2 QH
        generalize u.1 = wa2 at *
        clear u
        have e3 : decide ((P1 : Int) < 0) = false := by simp
        have e4 : decide (N ≤ P1) = false := by simp; omega
        have wcl := (H3.out.kW.cell P1).trans (wc64_get _ P1 (by have := H3.out.len; omega))
        have wfr := H3.out.kW.frozen P1
        go_upto_region 10 with fail
        have H4 := hide (H3.out.set_ P1 sv)
        clear wcl wfr e3 e4 H3
        change Code.wp _ _ _ _ (wa2.setCell ⟨gW, P1, none⟩ (.int .u64 sv))
        generalize wa2.setCell ⟨gW, P1, none⟩ (.int .u64 sv) = wd at *
        generalize hws1 : (ws0.set P (pk sv false)).set P1 sv = ws1 at *
        clear hws1
        go_wp2
        go_loopg [7, 8] S (fun g s7 s8 wr2 => ∃ k : Nat, g + k = S ∧ s7 = .int .i64 k ∧ Nw w1 wr2 g5 gW gL m2 N (slotsI l s j k ws1))
        case atStart => exact ⟨0, by omega, rfl, H4.out⟩
        case round =>
          obtain ⟨k, hk, rfl, hnw⟩ := hrel
          have H5 := hide hnw
          clear hnw H4
          obtain ⟨k0, k1, k2, kf⟩ := bkm3 (KC.out.below H5.out.bel KC.out.lt)
          by_cases hkS : k < S
          · go_wp2_with (go_at_call 26; refine (QZ.out _ H5.out.bel).mono ?_; rintro e w6 ⟨rfl, hb6⟩; have H6 := hide (H5.out.below hb6); obtain ⟨k0, k1, k2, kf⟩ := bkm3 (KC.out.below H6.out.bel KC.out.lt); have cs := CS.out _ H6.out.bel; clear hb6)
            refine (rnext_any sv k w6).mono ?_
            rintro e w7 ⟨rfl, rfl⟩
            obtain ⟨p, hp⟩ : ∃ p, nx sv k = p := ⟨_, rfl⟩
            have hpb : 0 ≤ p ∧ p ≤ 9223372036854775807 := by rw [← hp]; unfold nx; omega
            rw [hp]
            go_upto_region 14 with fail
            have hsl := sl_bd p (S : Int) (by omega)
            obtain ⟨I, hI⟩ : ∃ I : Nat, (P : Int) + 5 + 2 * sl p S = I := Int.eq_ofNat_of_zero_le (by omega)
            have hIN : I < N := by omega
            have QQ1 := hide (fun (u : Up w6) => QQ.out u.1 (H6.out.bel.trans (u.2.mono H6.out.bel.size)) p hpb.1 (by omega))
            rw [hI] at QQ1
            have HY := hide (show slotsI l s j (k + 1) ws1 = (slotsI l s j k ws1).set I p by rw [HSL.out, hp, HSQ.out, hI]; rfl)
            clear hp hI hsl hpb
            have k0 := fun (u : Up w6) => up_cell k0 u
            have k1 := fun (u : Up w6) => up_cell k1 u
            have k2 := fun (u : Up w6) => up_cell k2 u
            have c5 := fun (u : Up w6) => (bkm3 (H6.out.k5.below u.2 H6.out.k5.lt)).1
            refine wp_region_up_tail 7 (by kernel_rfl) (by kernel_rfl) ?_
            simp only [List.take_succ_cons, List.take_zero, List.drop_succ_cons, List.drop_zero]
            repeat (go_big_quiet_step (first
              | (go_at_call 42; exact up_call (QQ1.out _))))
            refine wpQuiet_nil ?_
            intro u
            have H7 := hide (H6.out.below u.2)
            clear k0 k1 k2 kf c5 cs QQ1 H6 H5
            generalize u.1 = wa3 at *
            clear u
            have e3 : decide ((I : Int) < 0) = false := by simp
            have e4 : decide (N ≤ I) = false := by simp; omega
            have wcl := (H7.out.kW.cell I).trans (wc64_get _ I (by have := H7.out.len; omega))
            have wfr := H7.out.kW.frozen I
            go_wp2
            go_roundg (gk - 1)
            case rel => exact ⟨k + 1, by omega, by go_num, by rw [HY.out]; exact H7.out.set_ I p⟩
            case measure => omega
          · obtain rfl : k = S := by omega
            go_wp2_with (go_at_call 26; refine (QZ.out _ H5.out.bel).mono ?_; rintro e w6 ⟨rfl, hb6⟩; have H6 := hide (H5.out.below hb6); clear hb6)
            go_roundg (n - j - 1)
            case rel => exact ⟨j + 1, by omega, by go_num, by rw [HX.out]; exact H6.out⟩
            case measure => omega
      · obtain rfl : j = n := by omega
        obtain ⟨m0, m1, mm2, -⟩ := bkm3 H0.out.k5
        obtain ⟨r0, r1, r2, rf⟩ := bkm3 (KR.out.below H0.out.bel KR.out.lt)
        go_wp2
        have hwl : w.heap.size ≤ w1.heap.size := by omega
        exact bodyPost_ret (v := .tuple #[.agg #[.slice (some ⟨gW, 0, none⟩) N N, .slice (some ⟨gL, 0, none⟩) m2 m2, .int .i64 0], .int .i64 0]) (by simp [results, Tryz.results22, go_sem, r0, r1, r2]) rfl
          ⟨gW, gL, by rw [HNT.out, HM2.out], by rw [iniI, HL.out, HNT.out]; exact ((H0.out.kW.far (p := ⟨w.heap.size + 1, 0, none⟩) (by have := H0.out.hW; show gW ≠ w.heap.size + 1; omega) _).far (p := ⟨w.heap.size + 1, 1, none⟩) (by have := H0.out.hW; show gW ≠ w.heap.size + 1; omega) _).far (p := ⟨w.heap.size + 1, 2, none⟩) (by have := H0.out.hW; show gW ≠ w.heap.size + 1; omega) _, Nat.le_trans hwl H0.out.hW, (((HB1.out.trans (H0.out.bel.mono hwl)).setCell (by show w.heap.size ≤ w.heap.size + 1; omega) _).setCell (by show w.heap.size ≤ w.heap.size + 1; omega) _).setCell (by show w.heap.size ≤ w.heap.size + 1; omega) _⟩
end Go.Proofs.YtepngbdjobckbaaGreat
