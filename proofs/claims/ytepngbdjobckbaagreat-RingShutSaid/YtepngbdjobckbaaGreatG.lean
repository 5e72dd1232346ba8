/- -/
import Derived.Test.YtepngbdjobckbaaGreatN
import Derived.Test.YtepngbdjobckbaaGreatGU
namespace Go.Proofs.YtepngbdjobckbaaGreat
open Go.RowKit
set_option linter.unusedVariables false
attribute [local irreducible] Go.bits

/-- What an access makes of the words: the words, the answer's value, whether it was done. -/
def mapply (ws : List Int) (x : Acc) : List Int × Int × Bool :=
  if x.a < 0 ∨ (ws.length : Int) ≤ x.a then (ws, 0, false) else
  if x.k = 2 ∨ x.k = 6 then (ws.set x.a.toNat x.n, 0, false) else
  if x.k = 3 then (if ws.getD x.a.toNat 0 = x.o then (ws.set x.a.toNat x.n, ws.getD x.a.toNat 0, true) else (ws, ws.getD x.a.toNat 0, false)) else
  (ws, ws.getD x.a.toNat 0, false)
theorem bkm3 {w : World} {g : Nat} {t : TypeId} {a0 a1 a2 : Value} (h : Bk w g t #[a0, a1, a2]) :
    w.cell? ⟨g, 0, none⟩ = some a0 ∧ w.cell? ⟨g, 1, none⟩ = some a1 ∧ w.cell? ⟨g, 2, none⟩ = some a2 ∧ ∀ i, w.frozen? ⟨g, i, none⟩ = false :=
  ⟨h.cell 0, h.cell 1, h.cell 2, h.frozen⟩

theorem mword_any (w : World) (A : Option Addr) (n c : Nat) (B : Option Addr) (m d : Nat) (tk a : Int) (hn : n ≤ 1000000) (h1 : -4611686018427387904 ≤ a) (h2 : a ≤ 4611686018427387904) :
    Calls Tryz.prog 67 #[.agg #[.slice A n c, .slice B m d, .int .i64 tk], .int .i64 a] w fun e w' => e = .returned (.bool (decide (0 ≤ a ∧ a < n))) ∧ Below w.heap.size w w' := by
  by_cases h0 : 0 ≤ a
  · have d0 : decide (0 ≤ a) = true := by simpa using h0
    have E := hide (show decide (0 ≤ a ∧ a < n) = decide (a < n) by simp [h0])
    go_enter Tryz.func67, Tryz.ntmps67
    go_wp2
    go_ret
    exact ⟨ret_eq (by rw [E.out]; rfl), below_new _ _⟩
  · have d0 : decide (0 ≤ a) = false := by simpa using h0
    have E := hide (show decide (0 ≤ a ∧ a < n) = false by simp; omega)
    go_enter Tryz.func67, Tryz.ntmps67
    go_wp2
    go_ret
    exact ⟨ret_eq (by have e := E.out; first | rfl | (simp at e ⊢; omega)), below_new _ _⟩
theorem mgrant_any (w : World) (A : Option Addr) (n c : Nat) (B : Option Addr) (m d : Nat) (tk : Int) (x : Acc) (h4 : (x.k == 4) = false) (h1 : 1 ≤ x.k) (h9 : x.k ≤ 9) :
    Calls Tryz.prog 63 #[.agg #[.slice A n c, .slice B m d, .int .i64 tk], .agg (Acc.cells x)] w fun e w' => e = .returned (.bool true) ∧ Below w.heap.size w w' := by
  obtain ⟨k, a, o, nn⟩ := x
  simp only at h4 h1 h9
  rw [Acc.cells]
  have d1 : decide (1 ≤ k) = true := by simpa using h1
  have d2 : decide (k ≤ 9) = true := by simpa using h9
  go_enter Tryz.func63, Tryz.ntmps63
  go_wp2
  go_ret
  exact ⟨rfl, (below_new _ _).alloc (by simp) _⟩
set_option maxHeartbeats 1000000 in
set_option maxRecDepth 100000 in
theorem mset_any (w : World) (A : Option Addr) (n c : Nat) (B : Option Addr) (m d : Nat) (tk : Int) (ws : List Int) (k : Nat) (v : Int) (h : IsI .u64 w A n ws) (hk : k < n) (hn : n ≤ 1000000) :
    Calls Tryz.prog 68 #[.agg #[.slice A n c, .slice B m d, .int .i64 tk], .int .i64 k, .int .u64 v] w fun e w' => ∃ A' c', e = .returned (.agg #[.slice A' n c', .slice B m d, .int .i64 tk]) ∧ IsI .u64 w' A' n (ws.set k v) ∧ Below w.heap.size w w' ∧ (∀ ad, A' = some ad → w.heap.size ≤ ad.block) ∧ TyA w' A' n 42 := by
  obtain ⟨i0, hi, hz0, hz1, hz2⟩ := info_parts Tryz.u64_inf
  have H := hide h
  have HL := hide h.len
  clear h
  go_enter Tryz.func68, Tryz.ntmps68
  go_wp2_with (at_builtin; refine wpList_cat ((w.alloc (.cells #[.slice A n c, .slice B m d, .int .i64 tk] 33)).alloc (.cells #[.slice none 0 0, .slice none 0 0, .int .i64 0] 33)) (by rfl) _ _ _ (by rfl) (w.heap.size + 1 + 1) 42 i0 (.int .u64 0) 1 8 Tryz.underlying28 hi hz0 hz1 hz2 (by decide) (by decide) _ 0 [] (by rfl) (World.ownsRow_nil _ _ _ _) _ n _ _ (by rfl) ((H.out.alloc _).alloc _) ?_ ?_ ?_ ?_ ?_)
  · intro u hu
    obtain ⟨x, _, rfl⟩ := List.mem_map.1 hu
    rfl
  · omega
  · omega
  · simp
  rintro v2 w2 hown hg -
  obtain ⟨MA, MC, rfl, hmc, hmx, hmA, hmN⟩ := own_form hown
  cases MA with
  | none => exact absurd (hmN rfl) (by omega)
  | some ad =>
    have hm0 : ∃ g, ad = ⟨g, 0, none⟩ := by
      rcases hown.2 with ⟨h, _⟩ | ⟨g, _, _, h, _⟩
      · cases h
      · injection h with h _ _
        injection h with h
        exact ⟨g, h⟩
    obtain ⟨g, rfl⟩ := hm0
    have hgw : w.heap.size + 1 + 1 ≤ g := (hmA _ rfl).1
    have hb := below_of_grownBy hg (B := ((w.alloc (.cells #[.slice A n c, .slice B m d, .int .i64 tk] 33)).alloc (.cells #[.slice none 0 0, .slice none 0 0, .int .i64 0] 33)).heap.size) (Nat.le_refl _) (fun g h => by cases h)
    obtain ⟨k2, kb⟩ := at_second hb
    have k1 : Bk w2 w.heap.size 33 #[.slice A n c, .slice B m d, .int .i64 tk] := ((Bk.new w _ _).alloc _).below hb (by simp; omega)
    obtain ⟨c0, c1, c2, f1⟩ := bkm3 k1
    obtain ⟨r0, r1, r2, f2⟩ := bkm3 k2
    have ck : w2.cell? ⟨g, k, none⟩ = some (.int .u64 (ws.getD k 0)) := by
      rw [hown.cellAt k (by omega), List.getElem?_map, List.getElem?_eq_getElem (by rw [HL.out]; exact hk)]
      simp [List.getD, List.getElem?_eq_getElem (show k < ws.length by rw [HL.out]; exact hk)]
    have fk := hown.frozenAt k
    have e1 : ¬ g = w.heap.size := by omega
    have e2 : ¬ w.heap.size = g := by omega
    have e3 : ¬ g = w.heap.size + 1 := by omega
    have e4 : ¬ w.heap.size + 1 = g := by omega
    have OW := hide hown
    have KB := hide kb
    generalize ws.getD k 0 = x0 at ck
    clear hown hg hb k1 k2 kb hmA hmN hi hz0 hz1 hz2
    go_wp2
    have hI : ∀ (x : World), x.ownsRow (w.heap.size + 1 + 1) 42 1 (.slice (some ⟨g, 0, none⟩) n MC) n ((ws.set k v).map (Value.int .u64)) → IsI .u64 x (some ⟨g, 0, none⟩) n (ws.set k v) := fun x hx => IsI.of_own hx
    have o1 := OW.out.kept (grownBy_setCell w2 w.heap.size 0 (.slice (some ⟨g, 0, none⟩) n MC)) (.inr (by simpa [Value.ownBlock] using e1))
    have o2 := (o1.stored k (.int .u64 v)).1
    simp only [← List.map_set] at o2
    have o3 := hI _ o2
    have hfar : ∀ ad, some (⟨g, 0, none⟩ : Addr) = some ad → ad.block ≠ w.heap.size + 1 := by
      intro ad e
      injection e with e
      subst e
      exact e3
    have o4 := ((Rds.far o3 (p := ⟨w.heap.size + 1, 0, none⟩) hfar (.slice (some ⟨g, 0, none⟩) n MC)).far (p := ⟨w.heap.size + 1, 1, none⟩) hfar (.slice B m d)).far (p := ⟨w.heap.size + 1, 2, none⟩) hfar (.int .i64 tk)
    exact bodyPost_ret (v := .agg #[.slice (some ⟨g, 0, none⟩) n MC, .slice B m d, .int .i64 tk]) (by simp [results, Tryz.results68, go_sem, r0, r1, r2]) rfl
      ⟨_, _, rfl, o4, (((((KB.out.setCell (Nat.le_refl _) _).setCell (by dsimp only; omega) _).setCell (by dsimp only; omega) _).setCell (by dsimp only; omega) _).setCell (by dsimp only; omega) _), fun ad e => by injection e with e; subst e; show w.heap.size ≤ g; omega, (((TyA.of_own o2).setCell _ _).setCell _ _).setCell _ _⟩
/-- Four blocks of the call's own, in a later world. -/
structure E4 (w w2 : World) (t1 t2 t3 t4 : TypeId) (c1 c2 c3 c4 : Array Value) : Prop where
  b1 : Bk w2 w.heap.size t1 c1
  b2 : Bk w2 (w.heap.size + 1) t2 c2
  b3 : Bk w2 (w.heap.size + 1 + 1) t3 c3
  b4 : Bk w2 (w.heap.size + 1 + 1 + 1) t4 c4
  bel : Below w.heap.size w w2
theorem E4.of {w w2 : World} {t1 t2 t3 t4 : TypeId} {c1 c2 c3 c4 : Array Value}
    (hb : Below ((((w.alloc (.cells c1 t1)).alloc (.cells c2 t2)).alloc (.cells c3 t3)).alloc (.cells c4 t4)).heap.size ((((w.alloc (.cells c1 t1)).alloc (.cells c2 t2)).alloc (.cells c3 t3)).alloc (.cells c4 t4)) w2) : E4 w w2 t1 t2 t3 t4 c1 c2 c3 c4 := by
  have h1 : Bk ((((w.alloc (.cells c1 t1)).alloc (.cells c2 t2)).alloc (.cells c3 t3)).alloc (.cells c4 t4)) w.heap.size t1 c1 := (((Bk.new w t1 c1).alloc _).alloc _).alloc _
  have h2 : Bk ((((w.alloc (.cells c1 t1)).alloc (.cells c2 t2)).alloc (.cells c3 t3)).alloc (.cells c4 t4)) (w.heap.size + 1) t2 c2 := by simpa using ((Bk.new (w.alloc (.cells c1 t1)) t2 c2).alloc _).alloc _
  have h3 : Bk ((((w.alloc (.cells c1 t1)).alloc (.cells c2 t2)).alloc (.cells c3 t3)).alloc (.cells c4 t4)) (w.heap.size + 1 + 1) t3 c3 := by simpa using (Bk.new ((w.alloc (.cells c1 t1)).alloc (.cells c2 t2)) t3 c3).alloc _
  have h4 : Bk ((((w.alloc (.cells c1 t1)).alloc (.cells c2 t2)).alloc (.cells c3 t3)).alloc (.cells c4 t4)) (w.heap.size + 1 + 1 + 1) t4 c4 := by simpa using Bk.new (((w.alloc (.cells c1 t1)).alloc (.cells c2 t2)).alloc (.cells c3 t3)) t4 c4
  refine ⟨h1.below hb h1.lt, h2.below hb h2.lt, h3.below hb h3.lt, h4.below hb h4.lt, ?_⟩
  exact ((((below_new w _).alloc (by simp) _).alloc (by simp; omega) _).alloc (by simp; omega) _).trans (hb.mono (by simp; omega))
theorem E4.next {w w2 w3 : World} {t1 t2 t3 t4 : TypeId} {c1 c2 c3 c4 : Array Value} (h : E4 w w2 t1 t2 t3 t4 c1 c2 c3 c4) (hb : Below w2.heap.size w2 w3) : E4 w w3 t1 t2 t3 t4 c1 c2 c3 c4 :=
  ⟨h.b1.below hb h.b1.lt, h.b2.below hb h.b2.lt, h.b3.below hb h.b3.lt, h.b4.below hb h.b4.lt, h.bel.trans (hb.mono h.bel.size)⟩
/-- The four blocks of Apply. -/
def EA (w w2 : World) (A : Option Addr) (n c : Nat) (B : Option Addr) (m d : Nat) (tk : Int) (x : Acc) : Prop :=
  E4 w w2 33 56 33 86 #[.slice A n c, .slice B m d, .int .i64 tk] (Acc.cells x) #[.slice none 0 0, .slice none 0 0, .int .i64 0] #[.int .u64 0, .bool false, .bool false, .slice none 0 0]
set_option maxHeartbeats 1000000 in
set_option maxRecDepth 100000 in
theorem mapply_no (w : World) (A : Option Addr) (n c : Nat) (B : Option Addr) (m d : Nat) (tk : Int) (ws : List Int) (k a o nn : Int) (h : IsI .u64 w A n ws) (hn : n ≤ 1000000) (hi : ¬ (0 ≤ a ∧ a < n)) (h4 : (k == 4) = false) (h1 : 1 ≤ k) (h6 : k ≤ 6) (ha1 : -4611686018427387904 ≤ a) (ha2 : a ≤ 4611686018427387904) :
    Calls Tryz.prog 47 #[.agg #[.slice A n c, .slice B m d, .int .i64 tk], .agg (Acc.cells ⟨k, a, o, nn⟩)] w fun e w' => e = .returned (.tuple #[.agg #[.slice A n c, .slice B m d, .int .i64 tk], .agg #[.int .u64 0, .bool false, .bool false, .slice none 0 0], .bool true]) ∧ Below w.heap.size w w' := by
  have H := hide h
  clear h
  have HG := hide (fun W => mgrant_any W A n c B m d tk ⟨k, a, o, nn⟩ (by simpa using h4) (by simpa using h1) (by simp only; omega))
  have hw : ∀ W, Calls Tryz.prog 67 #[.agg #[.slice A n c, .slice B m d, .int .i64 tk], .int .i64 a] W fun e w' => e = .returned (.bool false) ∧ Below W.heap.size W w' := fun W => by have := mword_any W A n c B m d tk a hn ha1 ha2; rwa [decide_eq_false hi] at this
  have HW := hide hw
  clear hw hi
  have d7 : decide (7 ≤ k) = false := by simp; omega
  rw [Acc.cells]
  go_enter Tryz.func47, Tryz.ntmps47
  go_wp2_with fail
  refine (HG.out _).mono ?_
  rintro e w1 ⟨rfl, hb⟩
  have V1 : Hid (EA w w1 A n c B m d tk ⟨k, a, o, nn⟩) := E4.of hb
  clear hb
  obtain ⟨c0, c1, c2, f1⟩ := bkm3 V1.out.b1
  obtain ⟨a0, a1, a2, a3, a4, f2⟩ := bk5 V1.out.b2
  obtain ⟨m0, m1, m2, f3⟩ := bkm3 V1.out.b3
  obtain ⟨r0, r1, r2, r3, f4⟩ := bk4 V1.out.b4
  go_wp2_with fail
  refine (HW.out _).mono ?_
  rintro e w2 ⟨rfl, hb⟩
  have V2 : Hid (EA w w2 A n c B m d tk ⟨k, a, o, nn⟩) := V1.out.next hb
  clear hb
  clear c0 c1 c2 f1 a0 a1 a2 a3 a4 f2 m0 m1 m2 f3 r0 r1 r2 r3 f4
  obtain ⟨c0, c1, c2, f1⟩ := bkm3 V2.out.b1
  obtain ⟨a0, a1, a2, a3, a4, f2⟩ := bk5 V2.out.b2
  obtain ⟨m0, m1, m2, f3⟩ := bkm3 V2.out.b3
  obtain ⟨r0, r1, r2, r3, f4⟩ := bk4 V2.out.b4
  go_wp2
  refine bodyPost_ret (v := .tuple #[.agg #[.slice A n c, .slice B m d, .int .i64 tk], .agg #[.int .u64 0, .bool false, .bool false, .slice none 0 0], .bool true]) (by simp [results, Tryz.results47, go_sem, m0, m1, m2, r0, r1, r2, r3]) rfl ?_
  exact ⟨rfl, (((((((V2.out.bel.setCell (by dsimp only; omega) _).setCell (by dsimp only; omega) _).setCell (by dsimp only; omega) _).setCell (by dsimp only; omega) _).setCell (by dsimp only; omega) _).setCell (by dsimp only; omega) _).setCell (by dsimp only; omega) _)⟩
set_option maxHeartbeats 1000000 in
set_option maxRecDepth 100000 in
theorem mapply_1 (w : World) (A : Option Addr) (n c : Nat) (B : Option Addr) (m d : Nat) (tk : Int) (ws : List Int) (o nn : Int) (h : IsI .u64 w A n ws) (hn : n ≤ 1000000) (i : Nat) (hi : i < n) :
    Calls Tryz.prog 47 #[.agg #[.slice A n c, .slice B m d, .int .i64 tk], .agg (Acc.cells ⟨1, (i : Nat), o, nn⟩)] w fun e w' => e = .returned (.tuple #[.agg #[.slice A n c, .slice B m d, .int .i64 tk], .agg #[.int .u64 (ws.getD i 0), .bool false, .bool false, .slice none 0 0], .bool true]) ∧ Below w.heap.size w w' := by
  have H := hide h
  clear h
  have HG := hide (fun W => mgrant_any W A n c B m d tk ⟨1, (i : Nat), o, nn⟩ (by rfl) (by show (1 : Int) ≤ 1; omega) (by show (1 : Int) ≤ 9; omega))
  have hw : ∀ W, Calls Tryz.prog 67 #[.agg #[.slice A n c, .slice B m d, .int .i64 tk], .int .i64 (i : Nat)] W fun e w' => e = .returned (.bool true) ∧ Below W.heap.size W w' := fun W => by have := mword_any W A n c B m d tk (i : Nat) hn (by omega) (by omega); rwa [decide_eq_true ⟨by omega, by omega⟩] at this
  have HW := hide hw
  clear hw
  rw [Acc.cells]
  go_enter Tryz.func47, Tryz.ntmps47
  go_wp2_with fail
  refine (HG.out _).mono ?_
  rintro e w1 ⟨rfl, hb⟩
  have V1 : Hid (EA w w1 A n c B m d tk ⟨1, (i : Nat), o, nn⟩) := E4.of hb
  clear hb
  obtain ⟨c0, c1, c2, f1⟩ := bkm3 V1.out.b1
  obtain ⟨a0, a1, a2, a3, a4, f2⟩ := bk5 V1.out.b2
  obtain ⟨m0, m1, m2, f3⟩ := bkm3 V1.out.b3
  obtain ⟨r0, r1, r2, r3, f4⟩ := bk4 V1.out.b4
  go_wp2_with fail
  refine (HW.out _).mono ?_
  rintro e w2 ⟨rfl, hb⟩
  have V2 : Hid (EA w w2 A n c B m d tk ⟨1, (i : Nat), o, nn⟩) := V1.out.next hb
  clear hb
  clear c0 c1 c2 f1 a0 a1 a2 a3 a4 f2 m0 m1 m2 f3 r0 r1 r2 r3 f4
  obtain ⟨c0, c1, c2, f1⟩ := bkm3 V2.out.b1
  obtain ⟨a0, a1, a2, a3, a4, f2⟩ := bk5 V2.out.b2
  obtain ⟨m0, m1, m2, f3⟩ := bkm3 V2.out.b3
  obtain ⟨r0, r1, r2, r3, f4⟩ := bk4 V2.out.b4
  have HI := hide (H.out.below V2.out.bel)
  obtain ⟨ad, hA, _, ck⟩ := HI.out.at_ hi
  have HA := hide hA
  subst hA
  obtain ⟨y, hy⟩ : ∃ y, ws.getD i 0 = y := ⟨_, rfl⟩
  have HY := hide hy
  rw [hy] at ck
  clear hy
  go_wp2
  refine bodyPost_ret (v := .tuple #[.agg #[.slice (some ad) n c, .slice B m d, .int .i64 tk], .agg #[.int .u64 y, .bool false, .bool false, .slice none 0 0], .bool true]) (by simp [results, Tryz.results47, go_sem, m0, m1, m2, r0, r1, r2, r3]) rfl ?_
  exact ⟨by rw [HY.out], (((((((V2.out.bel.setCell (by dsimp only; omega) _).setCell (by dsimp only; omega) _).setCell (by dsimp only; omega) _).setCell (by dsimp only; omega) _).setCell (by dsimp only; omega) _).setCell (by dsimp only; omega) _).setCell (by dsimp only; omega) _)⟩
set_option maxHeartbeats 1000000 in
set_option maxRecDepth 100000 in
theorem mapply_5 (w : World) (A : Option Addr) (n c : Nat) (B : Option Addr) (m d : Nat) (tk : Int) (ws : List Int) (o nn : Int) (h : IsI .u64 w A n ws) (hn : n ≤ 1000000) (i : Nat) (hi : i < n) :
    Calls Tryz.prog 47 #[.agg #[.slice A n c, .slice B m d, .int .i64 tk], .agg (Acc.cells ⟨5, (i : Nat), o, nn⟩)] w fun e w' => e = .returned (.tuple #[.agg #[.slice A n c, .slice B m d, .int .i64 tk], .agg #[.int .u64 (ws.getD i 0), .bool false, .bool false, .slice none 0 0], .bool true]) ∧ Below w.heap.size w w' := by
  have H := hide h
  clear h
  have HG := hide (fun W => mgrant_any W A n c B m d tk ⟨5, (i : Nat), o, nn⟩ (by rfl) (by show (1 : Int) ≤ 5; omega) (by show (5 : Int) ≤ 9; omega))
  have hw : ∀ W, Calls Tryz.prog 67 #[.agg #[.slice A n c, .slice B m d, .int .i64 tk], .int .i64 (i : Nat)] W fun e w' => e = .returned (.bool true) ∧ Below W.heap.size W w' := fun W => by have := mword_any W A n c B m d tk (i : Nat) hn (by omega) (by omega); rwa [decide_eq_true ⟨by omega, by omega⟩] at this
  have HW := hide hw
  clear hw
  rw [Acc.cells]
  go_enter Tryz.func47, Tryz.ntmps47
  go_wp2_with fail
  refine (HG.out _).mono ?_
  rintro e w1 ⟨rfl, hb⟩
  have V1 : Hid (EA w w1 A n c B m d tk ⟨5, (i : Nat), o, nn⟩) := E4.of hb
  clear hb
  obtain ⟨c0, c1, c2, f1⟩ := bkm3 V1.out.b1
  obtain ⟨a0, a1, a2, a3, a4, f2⟩ := bk5 V1.out.b2
  obtain ⟨m0, m1, m2, f3⟩ := bkm3 V1.out.b3
  obtain ⟨r0, r1, r2, r3, f4⟩ := bk4 V1.out.b4
  go_wp2_with fail
  refine (HW.out _).mono ?_
  rintro e w2 ⟨rfl, hb⟩
  have V2 : Hid (EA w w2 A n c B m d tk ⟨5, (i : Nat), o, nn⟩) := V1.out.next hb
  clear hb
  clear c0 c1 c2 f1 a0 a1 a2 a3 a4 f2 m0 m1 m2 f3 r0 r1 r2 r3 f4
  obtain ⟨c0, c1, c2, f1⟩ := bkm3 V2.out.b1
  obtain ⟨a0, a1, a2, a3, a4, f2⟩ := bk5 V2.out.b2
  obtain ⟨m0, m1, m2, f3⟩ := bkm3 V2.out.b3
  obtain ⟨r0, r1, r2, r3, f4⟩ := bk4 V2.out.b4
  have HI := hide (H.out.below V2.out.bel)
  obtain ⟨ad, hA, _, ck⟩ := HI.out.at_ hi
  have HA := hide hA
  subst hA
  obtain ⟨y, hy⟩ : ∃ y, ws.getD i 0 = y := ⟨_, rfl⟩
  have HY := hide hy
  rw [hy] at ck
  clear hy
  go_wp2
  refine bodyPost_ret (v := .tuple #[.agg #[.slice (some ad) n c, .slice B m d, .int .i64 tk], .agg #[.int .u64 y, .bool false, .bool false, .slice none 0 0], .bool true]) (by simp [results, Tryz.results47, go_sem, m0, m1, m2, r0, r1, r2, r3]) rfl ?_
  exact ⟨by rw [HY.out], (((((((V2.out.bel.setCell (by dsimp only; omega) _).setCell (by dsimp only; omega) _).setCell (by dsimp only; omega) _).setCell (by dsimp only; omega) _).setCell (by dsimp only; omega) _).setCell (by dsimp only; omega) _).setCell (by dsimp only; omega) _)⟩
set_option maxHeartbeats 1000000 in
set_option maxRecDepth 100000 in
theorem mapply_2 (w : World) (A : Option Addr) (n c : Nat) (B : Option Addr) (m d : Nat) (tk : Int) (ws : List Int) (o nn : Int) (h : IsI .u64 w A n ws) (hn : n ≤ 1000000) (i : Nat) (hi : i < n) :
    Calls Tryz.prog 47 #[.agg #[.slice A n c, .slice B m d, .int .i64 tk], .agg (Acc.cells ⟨2, (i : Nat), o, nn⟩)] w fun e w' => ∃ A' c', e = .returned (.tuple #[.agg #[.slice A' n c', .slice B m d, .int .i64 tk], .agg #[.int .u64 0, .bool false, .bool false, .slice none 0 0], .bool true]) ∧ IsI .u64 w' A' n (ws.set i nn) ∧ TyA w' A' n 42 ∧ Below w.heap.size w w' := by
  have H := hide h
  clear h
  have HG := hide (fun W => mgrant_any W A n c B m d tk ⟨2, (i : Nat), o, nn⟩ (by rfl) (by show (1 : Int) ≤ 2; omega) (by show (2 : Int) ≤ 9; omega))
  have hw : ∀ W, Calls Tryz.prog 67 #[.agg #[.slice A n c, .slice B m d, .int .i64 tk], .int .i64 (i : Nat)] W fun e w' => e = .returned (.bool true) ∧ Below W.heap.size W w' := fun W => by have := mword_any W A n c B m d tk (i : Nat) hn (by omega) (by omega); rwa [decide_eq_true ⟨by omega, by omega⟩] at this
  have HW := hide hw
  clear hw
  rw [Acc.cells]
  go_enter Tryz.func47, Tryz.ntmps47
  go_wp2_with fail
  refine (HG.out _).mono ?_
  rintro e w1 ⟨rfl, hb⟩
  have V1 : Hid (EA w w1 A n c B m d tk ⟨2, (i : Nat), o, nn⟩) := E4.of hb
  clear hb
  obtain ⟨c0, c1, c2, f1⟩ := bkm3 V1.out.b1
  obtain ⟨a0, a1, a2, a3, a4, f2⟩ := bk5 V1.out.b2
  obtain ⟨m0, m1, m2, f3⟩ := bkm3 V1.out.b3
  obtain ⟨r0, r1, r2, r3, f4⟩ := bk4 V1.out.b4
  go_wp2_with fail
  refine (HW.out _).mono ?_
  rintro e w2 ⟨rfl, hb⟩
  have V2 : Hid (EA w w2 A n c B m d tk ⟨2, (i : Nat), o, nn⟩) := V1.out.next hb
  clear hb
  clear c0 c1 c2 f1 a0 a1 a2 a3 a4 f2 m0 m1 m2 f3 r0 r1 r2 r3 f4
  obtain ⟨c0, c1, c2, f1⟩ := bkm3 V2.out.b1
  obtain ⟨a0, a1, a2, a3, a4, f2⟩ := bk5 V2.out.b2
  obtain ⟨m0, m1, m2, f3⟩ := bkm3 V2.out.b3
  obtain ⟨r0, r1, r2, r3, f4⟩ := bk4 V2.out.b4
  have HI := hide (H.out.below V2.out.bel)
  obtain ⟨ad, hA, _, ck⟩ := HI.out.at_ hi
  have HA := hide hA
  subst hA
  generalize ws.getD i 0 = y at ck
  go_wp2_with fail
  refine (mset_any _ _ n c B m d tk ws i nn HI.out hi hn).mono ?_
  rintro e w3 ⟨A', c', rfl, hi3, hb, hlo, hty⟩
  have HTY := hide hty
  clear hty
  have h4l := V2.out.b4.lt
  have V3 : Hid (EA w w3 (some ad) n c B m d tk ⟨2, (i : Nat), o, nn⟩) := V2.out.next hb
  have I3 := hide hi3
  have HLO := hide hlo
  clear hb hi3 ck hlo
  clear c0 c1 c2 f1 a0 a1 a2 a3 a4 f2 m0 m1 m2 f3 r0 r1 r2 r3 f4
  obtain ⟨c0, c1, c2, f1⟩ := bkm3 V3.out.b1
  obtain ⟨a0, a1, a2, a3, a4, f2⟩ := bk5 V3.out.b2
  obtain ⟨m0, m1, m2, f3⟩ := bkm3 V3.out.b3
  obtain ⟨r0, r1, r2, r3, f4⟩ := bk4 V3.out.b4
  go_wp2
  refine bodyPost_ret (v := .tuple #[.agg #[.slice A' n c', .slice B m d, .int .i64 tk], .agg #[.int .u64 0, .bool false, .bool false, .slice none 0 0], .bool true]) (by simp [results, Tryz.results47, go_sem, m0, m1, m2, r0, r1, r2, r3]) rfl ?_
  have hlow : ∀ ad', A' = some ad' → ad'.block ≠ w.heap.size + 1 + 1 ∧ ad'.block ≠ w.heap.size + 1 + 1 + 1 := fun ad' e => by have := HLO.out ad' e; omega
  exact ⟨A', c', rfl, ((((((Rds.far I3.out (p := ⟨w.heap.size + 1 + 1, 0, none⟩) (fun ad e => (hlow ad e).1) (.slice A' n c')).far (p := ⟨w.heap.size + 1 + 1, 1, none⟩) (fun ad e => (hlow ad e).1) (.slice B m d)).far (p := ⟨w.heap.size + 1 + 1, 2, none⟩) (fun ad e => (hlow ad e).1) (.int .i64 tk)).far (p := ⟨w.heap.size + 1 + 1 + 1, 0, none⟩) (fun ad e => (hlow ad e).2) (.int .u64 0)).far (p := ⟨w.heap.size + 1 + 1 + 1, 1, none⟩) (fun ad e => (hlow ad e).2) (.bool false)).far (p := ⟨w.heap.size + 1 + 1 + 1, 2, none⟩) (fun ad e => (hlow ad e).2) (.bool false)).far (p := ⟨w.heap.size + 1 + 1 + 1, 3, none⟩) (fun ad e => (hlow ad e).2) (.slice none 0 0), (by repeat (first | (with_reducible exact HTY.out) | apply TyA.setCell)), (((((((V3.out.bel.setCell (by dsimp only; omega) _).setCell (by dsimp only; omega) _).setCell (by dsimp only; omega) _).setCell (by dsimp only; omega) _).setCell (by dsimp only; omega) _).setCell (by dsimp only; omega) _).setCell (by dsimp only; omega) _)⟩
set_option maxHeartbeats 1000000 in
set_option maxRecDepth 100000 in
theorem mapply_6 (w : World) (A : Option Addr) (n c : Nat) (B : Option Addr) (m d : Nat) (tk : Int) (ws : List Int) (o nn : Int) (h : IsI .u64 w A n ws) (hn : n ≤ 1000000) (i : Nat) (hi : i < n) :
    Calls Tryz.prog 47 #[.agg #[.slice A n c, .slice B m d, .int .i64 tk], .agg (Acc.cells ⟨6, (i : Nat), o, nn⟩)] w fun e w' => ∃ A' c', e = .returned (.tuple #[.agg #[.slice A' n c', .slice B m d, .int .i64 tk], .agg #[.int .u64 0, .bool false, .bool false, .slice none 0 0], .bool true]) ∧ IsI .u64 w' A' n (ws.set i nn) ∧ TyA w' A' n 42 ∧ Below w.heap.size w w' := by
  have H := hide h
  clear h
  have HG := hide (fun W => mgrant_any W A n c B m d tk ⟨6, (i : Nat), o, nn⟩ (by rfl) (by show (1 : Int) ≤ 6; omega) (by show (6 : Int) ≤ 9; omega))
  have hw : ∀ W, Calls Tryz.prog 67 #[.agg #[.slice A n c, .slice B m d, .int .i64 tk], .int .i64 (i : Nat)] W fun e w' => e = .returned (.bool true) ∧ Below W.heap.size W w' := fun W => by have := mword_any W A n c B m d tk (i : Nat) hn (by omega) (by omega); rwa [decide_eq_true ⟨by omega, by omega⟩] at this
  have HW := hide hw
  clear hw
  rw [Acc.cells]
  go_enter Tryz.func47, Tryz.ntmps47
  go_wp2_with fail
  refine (HG.out _).mono ?_
  rintro e w1 ⟨rfl, hb⟩
  have V1 : Hid (EA w w1 A n c B m d tk ⟨6, (i : Nat), o, nn⟩) := E4.of hb
  clear hb
  obtain ⟨c0, c1, c2, f1⟩ := bkm3 V1.out.b1
  obtain ⟨a0, a1, a2, a3, a4, f2⟩ := bk5 V1.out.b2
  obtain ⟨m0, m1, m2, f3⟩ := bkm3 V1.out.b3
  obtain ⟨r0, r1, r2, r3, f4⟩ := bk4 V1.out.b4
  go_wp2_with fail
  refine (HW.out _).mono ?_
  rintro e w2 ⟨rfl, hb⟩
  have V2 : Hid (EA w w2 A n c B m d tk ⟨6, (i : Nat), o, nn⟩) := V1.out.next hb
  clear hb
  clear c0 c1 c2 f1 a0 a1 a2 a3 a4 f2 m0 m1 m2 f3 r0 r1 r2 r3 f4
  obtain ⟨c0, c1, c2, f1⟩ := bkm3 V2.out.b1
  obtain ⟨a0, a1, a2, a3, a4, f2⟩ := bk5 V2.out.b2
  obtain ⟨m0, m1, m2, f3⟩ := bkm3 V2.out.b3
  obtain ⟨r0, r1, r2, r3, f4⟩ := bk4 V2.out.b4
  have HI := hide (H.out.below V2.out.bel)
  obtain ⟨ad, hA, _, ck⟩ := HI.out.at_ hi
  have HA := hide hA
  subst hA
  generalize ws.getD i 0 = y at ck
  go_wp2_with fail
  refine (mset_any _ _ n c B m d tk ws i nn HI.out hi hn).mono ?_
  rintro e w3 ⟨A', c', rfl, hi3, hb, hlo, hty⟩
  have HTY := hide hty
  clear hty
  have h4l := V2.out.b4.lt
  have V3 : Hid (EA w w3 (some ad) n c B m d tk ⟨6, (i : Nat), o, nn⟩) := V2.out.next hb
  have I3 := hide hi3
  have HLO := hide hlo
  clear hb hi3 ck hlo
  clear c0 c1 c2 f1 a0 a1 a2 a3 a4 f2 m0 m1 m2 f3 r0 r1 r2 r3 f4
  obtain ⟨c0, c1, c2, f1⟩ := bkm3 V3.out.b1
  obtain ⟨a0, a1, a2, a3, a4, f2⟩ := bk5 V3.out.b2
  obtain ⟨m0, m1, m2, f3⟩ := bkm3 V3.out.b3
  obtain ⟨r0, r1, r2, r3, f4⟩ := bk4 V3.out.b4
  go_wp2
  refine bodyPost_ret (v := .tuple #[.agg #[.slice A' n c', .slice B m d, .int .i64 tk], .agg #[.int .u64 0, .bool false, .bool false, .slice none 0 0], .bool true]) (by simp [results, Tryz.results47, go_sem, m0, m1, m2, r0, r1, r2, r3]) rfl ?_
  have hlow : ∀ ad', A' = some ad' → ad'.block ≠ w.heap.size + 1 + 1 ∧ ad'.block ≠ w.heap.size + 1 + 1 + 1 := fun ad' e => by have := HLO.out ad' e; omega
  exact ⟨A', c', rfl, ((((((Rds.far I3.out (p := ⟨w.heap.size + 1 + 1, 0, none⟩) (fun ad e => (hlow ad e).1) (.slice A' n c')).far (p := ⟨w.heap.size + 1 + 1, 1, none⟩) (fun ad e => (hlow ad e).1) (.slice B m d)).far (p := ⟨w.heap.size + 1 + 1, 2, none⟩) (fun ad e => (hlow ad e).1) (.int .i64 tk)).far (p := ⟨w.heap.size + 1 + 1 + 1, 0, none⟩) (fun ad e => (hlow ad e).2) (.int .u64 0)).far (p := ⟨w.heap.size + 1 + 1 + 1, 1, none⟩) (fun ad e => (hlow ad e).2) (.bool false)).far (p := ⟨w.heap.size + 1 + 1 + 1, 2, none⟩) (fun ad e => (hlow ad e).2) (.bool false)).far (p := ⟨w.heap.size + 1 + 1 + 1, 3, none⟩) (fun ad e => (hlow ad e).2) (.slice none 0 0), (by repeat (first | (with_reducible exact HTY.out) | apply TyA.setCell)), (((((((V3.out.bel.setCell (by dsimp only; omega) _).setCell (by dsimp only; omega) _).setCell (by dsimp only; omega) _).setCell (by dsimp only; omega) _).setCell (by dsimp only; omega) _).setCell (by dsimp only; omega) _).setCell (by dsimp only; omega) _)⟩
set_option maxHeartbeats 1000000 in
set_option maxRecDepth 100000 in
theorem mapply_3e (w : World) (A : Option Addr) (n c : Nat) (B : Option Addr) (m d : Nat) (tk : Int) (ws : List Int) (o nn : Int) (h : IsI .u64 w A n ws) (hn : n ≤ 1000000) (i : Nat) (hi : i < n) (he : ws.getD i 0 = o) :
    Calls Tryz.prog 47 #[.agg #[.slice A n c, .slice B m d, .int .i64 tk], .agg (Acc.cells ⟨3, (i : Nat), o, nn⟩)] w fun e w' => ∃ A' c', e = .returned (.tuple #[.agg #[.slice A' n c', .slice B m d, .int .i64 tk], .agg #[.int .u64 (ws.getD i 0), .bool true, .bool false, .slice none 0 0], .bool true]) ∧ IsI .u64 w' A' n (ws.set i nn) ∧ TyA w' A' n 42 ∧ Below w.heap.size w w' := by
  have H := hide h
  clear h
  have HG := hide (fun W => mgrant_any W A n c B m d tk ⟨3, (i : Nat), o, nn⟩ (by rfl) (by show (1 : Int) ≤ 3; omega) (by show (3 : Int) ≤ 9; omega))
  have hw : ∀ W, Calls Tryz.prog 67 #[.agg #[.slice A n c, .slice B m d, .int .i64 tk], .int .i64 (i : Nat)] W fun e w' => e = .returned (.bool true) ∧ Below W.heap.size W w' := fun W => by have := mword_any W A n c B m d tk (i : Nat) hn (by omega) (by omega); rwa [decide_eq_true ⟨by omega, by omega⟩] at this
  have HW := hide hw
  clear hw
  rw [Acc.cells]
  go_enter Tryz.func47, Tryz.ntmps47
  go_wp2_with fail
  refine (HG.out _).mono ?_
  rintro e w1 ⟨rfl, hb⟩
  have V1 : Hid (EA w w1 A n c B m d tk ⟨3, (i : Nat), o, nn⟩) := E4.of hb
  clear hb
  obtain ⟨c0, c1, c2, f1⟩ := bkm3 V1.out.b1
  obtain ⟨a0, a1, a2, a3, a4, f2⟩ := bk5 V1.out.b2
  obtain ⟨m0, m1, m2, f3⟩ := bkm3 V1.out.b3
  obtain ⟨r0, r1, r2, r3, f4⟩ := bk4 V1.out.b4
  go_wp2_with fail
  refine (HW.out _).mono ?_
  rintro e w2 ⟨rfl, hb⟩
  have V2 : Hid (EA w w2 A n c B m d tk ⟨3, (i : Nat), o, nn⟩) := V1.out.next hb
  clear hb
  clear c0 c1 c2 f1 a0 a1 a2 a3 a4 f2 m0 m1 m2 f3 r0 r1 r2 r3 f4
  obtain ⟨c0, c1, c2, f1⟩ := bkm3 V2.out.b1
  obtain ⟨a0, a1, a2, a3, a4, f2⟩ := bk5 V2.out.b2
  obtain ⟨m0, m1, m2, f3⟩ := bkm3 V2.out.b3
  obtain ⟨r0, r1, r2, r3, f4⟩ := bk4 V2.out.b4
  have HI := hide (H.out.below V2.out.bel)
  obtain ⟨ad, hA, _, ck⟩ := HI.out.at_ hi
  have HA := hide hA
  subst hA
  have HY := hide he
  rw [he] at ck
  clear he
  have hoo : (o != o) = false := by simp
  go_wp2_with fail
  refine (mset_any _ _ n c B m d tk ws i nn HI.out hi hn).mono ?_
  rintro e w3 ⟨A', c', rfl, hi3, hb, hlo, hty⟩
  have HTY := hide hty
  clear hty
  have h4l := V2.out.b4.lt
  have V3 : Hid (EA w w3 (some ad) n c B m d tk ⟨3, (i : Nat), o, nn⟩) := V2.out.next hb
  have I3 := hide hi3
  have HLO := hide hlo
  clear hb hi3 ck hlo
  clear c0 c1 c2 f1 a0 a1 a2 a3 a4 f2 m0 m1 m2 f3 r0 r1 r2 r3 f4
  obtain ⟨c0, c1, c2, f1⟩ := bkm3 V3.out.b1
  obtain ⟨a0, a1, a2, a3, a4, f2⟩ := bk5 V3.out.b2
  obtain ⟨m0, m1, m2, f3⟩ := bkm3 V3.out.b3
  obtain ⟨r0, r1, r2, r3, f4⟩ := bk4 V3.out.b4
  go_wp2
  refine bodyPost_ret (v := .tuple #[.agg #[.slice A' n c', .slice B m d, .int .i64 tk], .agg #[.int .u64 o, .bool true, .bool false, .slice none 0 0], .bool true]) (by simp [results, Tryz.results47, go_sem, m0, m1, m2, r0, r1, r2, r3]) rfl ?_
  have hlow : ∀ ad', A' = some ad' → ad'.block ≠ w.heap.size + 1 + 1 ∧ ad'.block ≠ w.heap.size + 1 + 1 + 1 := fun ad' e => by have := HLO.out ad' e; omega
  exact ⟨A', c', by rw [HY.out], ((((((Rds.far I3.out (p := ⟨w.heap.size + 1 + 1, 0, none⟩) (fun ad e => (hlow ad e).1) (.slice A' n c')).far (p := ⟨w.heap.size + 1 + 1, 1, none⟩) (fun ad e => (hlow ad e).1) (.slice B m d)).far (p := ⟨w.heap.size + 1 + 1, 2, none⟩) (fun ad e => (hlow ad e).1) (.int .i64 tk)).far (p := ⟨w.heap.size + 1 + 1 + 1, 0, none⟩) (fun ad e => (hlow ad e).2) (.int .u64 o)).far (p := ⟨w.heap.size + 1 + 1 + 1, 1, none⟩) (fun ad e => (hlow ad e).2) (.bool true)).far (p := ⟨w.heap.size + 1 + 1 + 1, 2, none⟩) (fun ad e => (hlow ad e).2) (.bool false)).far (p := ⟨w.heap.size + 1 + 1 + 1, 3, none⟩) (fun ad e => (hlow ad e).2) (.slice none 0 0), (by repeat (first | (with_reducible exact HTY.out) | apply TyA.setCell)), (((((((V3.out.bel.setCell (by dsimp only; omega) _).setCell (by dsimp only; omega) _).setCell (by dsimp only; omega) _).setCell (by dsimp only; omega) _).setCell (by dsimp only; omega) _).setCell (by dsimp only; omega) _).setCell (by dsimp only; omega) _)⟩
set_option maxHeartbeats 1000000 in
set_option maxRecDepth 100000 in
theorem mapply_3n (w : World) (A : Option Addr) (n c : Nat) (B : Option Addr) (m d : Nat) (tk : Int) (ws : List Int) (o nn : Int) (h : IsI .u64 w A n ws) (hn : n ≤ 1000000) (i : Nat) (hi : i < n) (he : ws.getD i 0 ≠ o) :
    Calls Tryz.prog 47 #[.agg #[.slice A n c, .slice B m d, .int .i64 tk], .agg (Acc.cells ⟨3, (i : Nat), o, nn⟩)] w fun e w' => e = .returned (.tuple #[.agg #[.slice A n c, .slice B m d, .int .i64 tk], .agg #[.int .u64 (ws.getD i 0), .bool false, .bool false, .slice none 0 0], .bool true]) ∧ Below w.heap.size w w' := by
  have H := hide h
  clear h
  have HG := hide (fun W => mgrant_any W A n c B m d tk ⟨3, (i : Nat), o, nn⟩ (by rfl) (by show (1 : Int) ≤ 3; omega) (by show (3 : Int) ≤ 9; omega))
  have hw : ∀ W, Calls Tryz.prog 67 #[.agg #[.slice A n c, .slice B m d, .int .i64 tk], .int .i64 (i : Nat)] W fun e w' => e = .returned (.bool true) ∧ Below W.heap.size W w' := fun W => by have := mword_any W A n c B m d tk (i : Nat) hn (by omega) (by omega); rwa [decide_eq_true ⟨by omega, by omega⟩] at this
  have HW := hide hw
  clear hw
  rw [Acc.cells]
  go_enter Tryz.func47, Tryz.ntmps47
  go_wp2_with fail
  refine (HG.out _).mono ?_
  rintro e w1 ⟨rfl, hb⟩
  have V1 : Hid (EA w w1 A n c B m d tk ⟨3, (i : Nat), o, nn⟩) := E4.of hb
  clear hb
  obtain ⟨c0, c1, c2, f1⟩ := bkm3 V1.out.b1
  obtain ⟨a0, a1, a2, a3, a4, f2⟩ := bk5 V1.out.b2
  obtain ⟨m0, m1, m2, f3⟩ := bkm3 V1.out.b3
  obtain ⟨r0, r1, r2, r3, f4⟩ := bk4 V1.out.b4
  go_wp2_with fail
  refine (HW.out _).mono ?_
  rintro e w2 ⟨rfl, hb⟩
  have V2 : Hid (EA w w2 A n c B m d tk ⟨3, (i : Nat), o, nn⟩) := V1.out.next hb
  clear hb
  clear c0 c1 c2 f1 a0 a1 a2 a3 a4 f2 m0 m1 m2 f3 r0 r1 r2 r3 f4
  obtain ⟨c0, c1, c2, f1⟩ := bkm3 V2.out.b1
  obtain ⟨a0, a1, a2, a3, a4, f2⟩ := bk5 V2.out.b2
  obtain ⟨m0, m1, m2, f3⟩ := bkm3 V2.out.b3
  obtain ⟨r0, r1, r2, r3, f4⟩ := bk4 V2.out.b4
  have HI := hide (H.out.below V2.out.bel)
  obtain ⟨ad, hA, _, ck⟩ := HI.out.at_ hi
  have HA := hide hA
  subst hA
  obtain ⟨y, hy⟩ : ∃ y, ws.getD i 0 = y := ⟨_, rfl⟩
  have HY := hide hy
  rw [hy] at ck he
  have hne : (y != o) = true := by simpa using he
  clear hy he
  go_wp2
  refine bodyPost_ret (v := .tuple #[.agg #[.slice (some ad) n c, .slice B m d, .int .i64 tk], .agg #[.int .u64 y, .bool false, .bool false, .slice none 0 0], .bool true]) (by simp [results, Tryz.results47, go_sem, m0, m1, m2, r0, r1, r2, r3]) rfl ?_
  exact ⟨by rw [HY.out], (((((((V2.out.bel.setCell (by dsimp only; omega) _).setCell (by dsimp only; omega) _).setCell (by dsimp only; omega) _).setCell (by dsimp only; omega) _).setCell (by dsimp only; omega) _).setCell (by dsimp only; omega) _).setCell (by dsimp only; omega) _)⟩
end Go.Proofs.YtepngbdjobckbaaGreat
