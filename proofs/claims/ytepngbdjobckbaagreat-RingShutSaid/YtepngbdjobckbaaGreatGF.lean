/- Several texts in one. -/
import Derived.Test.YtepngbdjobckbaaGreatGU
import Derived.Test.YtepngbdjobckbaaGreatRows
import Derived.Deep.RegionWith
import Derived.Deep.OwnRows
import Derived.Outline
import Derived.Test.YtepngbdjobckbaaGreatGM
section
namespace Go.Proofs.YtepngbdjobckbaaGreat
open Go.RowKit
set_option linter.unusedVariables false

/-- A frame: its code, its place, its words and its list; nothing runs above it. -/
def Fr (w : World) (cs : Array Value) (code pc : Int) (ws ls : List Int) : Prop :=
  ∃ (A : Option Addr) (n c : Nat) (B : Option Addr) (m d : Nat), cs = #[.int .i64 code, .int .i64 pc, .slice A n c, .slice B m d, .slice none 0 0] ∧ IsI .u64 w A n ws ∧ IsI .i64 w B m ls ∧ n ≤ 1000 ∧ m ≤ 1000 ∧ TyA w A n 42 ∧ TyA w B m 3
theorem Fr.below {w w' : World} {cs : Array Value} {code pc : Int} {ws ls : List Int} (h : Fr w cs code pc ws ls) (hb : Below w.heap.size w w') : Fr w' cs code pc ws ls := by
  obtain ⟨A, n, c, B, m, d, h1, h2, h3, h4, h5, h6, h7⟩ := h
  exact ⟨A, n, c, B, m, d, h1, h2.below hb, h3.below hb, h4, h5, h6.below hb, h7.below hb⟩
theorem isI_one {w : World} {t : TypeId} {k : IntKind} (x : Int) : IsI k (w.alloc (.cells #[.int k x] t)) (some ⟨w.heap.size, 0, none⟩) 1 [x] :=
  ⟨rfl, fun _ => ⟨_, rfl, by simp, cells_new w [.int k x] t⟩⟩

theorem Tryz.u64_inf : (Tryz.prog.info? 42).map (fun i => (i.zero, i.size, i.bytes)) = some (some (.int .u64 0), 1, 8) := by kernel_rfl
theorem word_any (w : World) (cs : Array Value) (code pc : Int) (ws ls : List Int) (h : Fr w cs code pc ws ls) (i : Nat) (hi : i ≤ 1000) :
    Calls Tryz.prog 57 #[.agg cs, .int .i64 i] w fun e w' => e = .returned (.int .u64 (ws.getD i 0)) ∧ Below w.heap.size w w' := by
  obtain ⟨A, n, c, B, m, d, rfl, h2, h3, hn, hm, ht1, ht2⟩ := h
  have hl := h2.len
  by_cases hlt : i < n
  · obtain ⟨ad, rfl, _, hc⟩ := h2.at_ hlt
    have hb := block_lt hc
    generalize ws.getD i 0 = x at hc
    have d1 : decide (n ≤ i) = false := by simp; omega
    clear h2 h3 hl
    go_enter Tryz.func57, Tryz.ntmps57
    go_wp2
    go_ret
    exact ⟨rfl, below_new _ _⟩
  · have e := hide (show ws.getD i 0 = 0 by simp [List.getD, List.getElem?_eq_none (show ws.length ≤ i by omega)])
    clear h2 h3 hl
    go_enter Tryz.func57, Tryz.ntmps57
    go_wp2
    go_ret
    exact ⟨ret_eq (by rw [e.out]; rfl), below_new _ _⟩
theorem int_any (w : World) (cs : Array Value) (code pc : Int) (ws ls : List Int) (h : Fr w cs code pc ws ls) (i : Nat) (hi : i ≤ 1000) :
    Calls Tryz.prog 103 #[.agg cs, .int .i64 i] w fun e w' => e = .returned (.int .i64 (ls.getD i 0)) ∧ Below w.heap.size w w' := by
  obtain ⟨A, n, c, B, m, d, rfl, h2, h3, hn, hm, ht1, ht2⟩ := h
  have hl := h3.len
  by_cases hlt : i < m
  · obtain ⟨ad, rfl, _, hc⟩ := h3.at_ hlt
    have hb := block_lt hc
    generalize ls.getD i 0 = x at hc
    have d1 : decide (m ≤ i) = false := by simp; omega
    clear h2 h3 hl
    go_enter Tryz.func103, Tryz.ntmps103
    go_wp2
    go_ret
    exact ⟨rfl, below_new _ _⟩
  · have e := hide (show ls.getD i 0 = 0 by simp [List.getD, List.getElem?_eq_none (show ls.length ≤ i by omega)])
    clear h2 h3 hl
    go_enter Tryz.func103, Tryz.ntmps103
    go_wp2
    go_ret
    exact ⟨ret_eq (by rw [e.out]; rfl), below_new _ _⟩
theorem done_any (w : World) (k v : Int) :
    Calls Tryz.prog 58 #[.int .i64 k, .int .u64 v] w fun e w' => ∃ cs, e = .returned (.agg cs) ∧ Fr w' cs k (-1) [v] [] ∧ Below w.heap.size w w' := by
  go_enter Tryz.func58, Tryz.ntmps58
  go_wp2
  exact bodyPost_ret (v := .agg #[.int .i64 k, .int .i64 (-1), .slice (some ⟨w.heap.size + 1, 0, none⟩) 1 1, .slice none 0 0, .slice none 0 0]) (by simp [results, Tryz.results58, go_sem]) rfl
    ⟨_, rfl, ⟨_, _, _, _, _, _, rfl, by simpa using isI_one (w := w.alloc _) v, IsI.nil _ _ _, by omega, by omega, TyA.bk (by simpa using Bk.new (w.alloc _) 42 _) 0 1, TyA.nil _ _ _⟩, (below_new _ _).alloc (by simp) _⟩
theorem at_any (w : World) (cs : Array Value) (code pc : Int) (ws ls : List Int) (h : Fr w cs code pc ws ls) (q : Int) :
    Calls Tryz.prog 55 #[.agg cs, .int .i64 q] w fun e w' => ∃ cs', e = .returned (.agg cs') ∧ Fr w' cs' code q ws ls ∧ Below w.heap.size w w' := by
  obtain ⟨A, n, c, B, m, d, rfl, h2, h3, hn, hm, ht1, ht2⟩ := h
  have H2 := hide h2
  have H3 := hide h3
  clear h2 h3
  go_enter Tryz.func55, Tryz.ntmps55
  go_wp2
  exact bodyPost_ret (v := .agg #[.int .i64 code, .int .i64 q, .slice A n c, .slice B m d, .slice none 0 0]) (by simp [results, Tryz.results55, go_sem]) rfl
    ⟨_, rfl, ⟨_, _, _, _, _, _, rfl, (H2.out.alloc _).alloc _, (H3.out.alloc _).alloc _, hn, hm, (ht1.alloc _).alloc _, (ht2.alloc _).alloc _⟩, (below_new _ _).alloc (by simp) _⟩
theorem setRow_new (w : World) (a b : Array Value) (t : TypeId) : (w.alloc (.cells a t)).setRow w.heap.size b = w.alloc (.cells b t) := by
  unfold World.setRow World.alloc
  congr 1
  apply Array.ext
  · simp
  · intro i h1 h2
    simp only [Array.getElem_modify, Array.getElem_push]
    by_cases e : w.heap.size = i
    · subst e; simp
    · rw [if_neg e]
      have h3 : i < w.heap.size := by simp at h2; omega
      rw [dif_pos h3, dif_pos h3]
/-- copy into a block that was just made, of the same length. -/
theorem run_copy_new {P : Program} (w : World) (dT sT ty elem : TypeId) (n c d : Nat) (ad : Addr) (cur : Array Value) (cs : List Value) (hu : P.underlying dT = some (.slice elem)) (hs : (P.info? elem).map (·.size) = some 1)
    (hc : cur.size = n) (hn : cs.length = n) (hsrc : ∀ j v, cs[j]? = some v → w.cell? (ad.add j) = some v) (hlt : ad.block < w.heap.size) (h1 : ∀ v ∈ cs, v.oneCell' = true) :
    (Builtin.copy_ #[dT, sT] ty #[.slice (some ⟨w.heap.size, 0, none⟩) n d, .slice (some ad) n c]).run P (w.alloc (.cells cur elem)) = .ok (goInt n) (w.alloc (.cells cs.toArray elem)) := by
  rw [run_copy_row (P := P) (w.alloc (.cells cur elem)) dT sT ty elem w.heap.size 0 n d ad n c cur elem cs hu hs (heap_alloc_new w _) (by simp [hn])
    (fun j v hv => by rw [(below_new w _).cell (by rw [block_add]; exact hlt)]; exact hsrc j v hv) (by omega) h1]
  have e : cur.toList.take 0 ++ cs ++ cur.toList.drop (0 + cs.length) = cs := by simp; omega
  rw [e, setRow_new, hn]
theorem bk5 {w : World} {g : Nat} {t : TypeId} {a b c d e : Value} (h : Bk w g t #[a, b, c, d, e]) :
    w.cell? ⟨g, 0, none⟩ = some a ∧ w.cell? ⟨g, 1, none⟩ = some b ∧ w.cell? ⟨g, 2, none⟩ = some c ∧ w.cell? ⟨g, 3, none⟩ = some d ∧ w.cell? ⟨g, 4, none⟩ = some e ∧ ∀ i, w.frozen? ⟨g, i, none⟩ = false :=
  ⟨h.cell 0, h.cell 1, h.cell 2, h.cell 3, h.cell 4, h.frozen⟩
set_option maxRecDepth 100000 in
theorem with_any (w : World) (cs : Array Value) (code pc : Int) (ws ls : List Int) (h : Fr w cs code pc ws ls) (i : Nat) (v : Int) (hi : i < ws.length) :
    Calls Tryz.prog 56 #[.agg cs, .int .i64 i, .int .u64 v] w fun e w' => ∃ cs', e = .returned (.agg cs') ∧ Fr w' cs' code pc (ws.set i v) ls ∧ Below w.heap.size w w' := by
  obtain ⟨A, n, c, B, m, d, rfl, h2, h3, hn, hm, ht1, ht2⟩ := h
  have hl := h2.len
  obtain ⟨ad, rfl, hadl, hci⟩ := h2.at_ (show i < n by omega)
  have H2 := hide h2
  have H3 := hide h3
  have HL := hide hl
  have hmk := fun W => run_make_row' (P := Tryz.prog) 28 42 (.int .u64 0) 8 Tryz.underlying28 Tryz.u64_inf rfl .i64 .i64 n (by omega) (by omega) W
  have hin : i < n := by omega
  have hcp : ∀ o1 o2, (Builtin.copy_ #[28, 28] 3 #[.slice (some ⟨w.heap.size + 1 + 1, 0, none⟩) n n, .slice (some ad) n c]).run Tryz.prog (((w.alloc o1).alloc o2).alloc (.cells (madeCells #[Value.int .u64 0] n) 42)) =
      .ok (.int .i64 n) (((w.alloc o1).alloc o2).alloc (.cells (ws.map (Value.int .u64)).toArray 42)) := by
    intro o1 o2
    have hr := (h2.alloc o1).alloc o2
    have key := run_copy_new (P := Tryz.prog) ((w.alloc o1).alloc o2) 28 28 3 42 n c n ad (madeCells #[Value.int .u64 0] n) (ws.map (Value.int .u64)) Tryz.underlying28 (by kernel_rfl) (by simp [madeCells]) (by simpa using hl)
      (fun j u hu => by
        obtain ⟨ad', e, _, hc⟩ := hr.2 (by omega)
        injection e with e
        subst e
        exact hc j u hu) (by simp; omega) (fun u hu => by
        obtain ⟨x, _, rfl⟩ := List.mem_map.1 hu
        rfl)
    have e : goInt (n : Int) = .int .i64 n := rfl
    rw [e] at key
    simpa using key
  have HCP := hide hcp
  clear h2 h3 hci hl hcp
  go_enter Tryz.func56, Tryz.ntmps56
  go_wp2_with fail
  rw [HCP.out]
  clear hmk
  have B3 : ∀ o1 o2 b, Bk (((w.alloc o1).alloc o2).alloc (.cells b 42)) (w.heap.size + 1 + 1) 42 b := fun o1 o2 b => by simpa using Bk.new ((w.alloc o1).alloc o2) 42 b
  have B2 : ∀ o1 c2 o3, Bk (((w.alloc o1).alloc (.cells c2 51)).alloc o3) (w.heap.size + 1) 51 c2 := fun o1 c2 o3 => by simpa using (Bk.new (w.alloc o1) 51 c2).alloc o3
  have B1 : ∀ c1 o2 o3, Bk (((w.alloc (.cells c1 51)).alloc o2).alloc o3) w.heap.size 51 c1 := fun c1 o2 o3 => ((Bk.new w 51 c1).alloc o2).alloc o3
  have hbl : ∀ o1 o2 o3, Below w.heap.size w (((w.alloc o1).alloc o2).alloc o3) := fun o1 o2 o3 => ((below_new w o1).alloc (by simp) o2).alloc (by simp; omega) o3
  have k1 := B1 #[.int .i64 code, .int .i64 pc, .slice (some ad) n c, .slice B m d, .slice none 0 0] (.cells #[.int .i64 0, .int .i64 0, .slice none 0 0, .slice none 0 0, .slice none 0 0] 51) (.cells (ws.map (Value.int .u64)).toArray 42)
  have k2 := B2 (.cells #[.int .i64 code, .int .i64 pc, .slice (some ad) n c, .slice B m d, .slice none 0 0] 51) #[.int .i64 0, .int .i64 0, .slice none 0 0, .slice none 0 0, .slice none 0 0] (.cells (ws.map (Value.int .u64)).toArray 42)
  have k3 := B3 (.cells #[.int .i64 code, .int .i64 pc, .slice (some ad) n c, .slice B m d, .slice none 0 0] 51) (.cells #[.int .i64 0, .int .i64 0, .slice none 0 0, .slice none 0 0, .slice none 0 0] 51) (ws.map (Value.int .u64)).toArray
  have kb := hbl (.cells #[.int .i64 code, .int .i64 pc, .slice (some ad) n c, .slice B m d, .slice none 0 0] 51) (.cells #[.int .i64 0, .int .i64 0, .slice none 0 0, .slice none 0 0, .slice none 0 0] 51) (.cells (ws.map (Value.int .u64)).toArray 42)
  clear B1 B2 B3 hbl HCP
  generalize (((w.alloc (.cells #[.int .i64 code, .int .i64 pc, .slice (some ad) n c, .slice B m d, .slice none 0 0] 51)).alloc (.cells #[.int .i64 0, .int .i64 0, .slice none 0 0, .slice none 0 0, .slice none 0 0] 51)).alloc (.cells (ws.map (Value.int .u64)).toArray 42)) = w2 at k1 k2 k3 kb ⊢
  obtain ⟨c10, c11, c12, c13, c14, f1⟩ := bk5 k1
  obtain ⟨c20, c21, c22, c23, c24, f2⟩ := bk5 k2
  have f3 := k3.frozen i
  have c3 : w2.cell? ⟨w.heap.size + 1 + 1, i, none⟩ = some (.int .u64 (ws.getD i 0)) := by
    rw [k3.cell i]
    simp [List.getD, List.getElem?_eq_getElem hi]
  have K3 := hide (k3.set_ i (.int .u64 v))
  have KB := hide kb
  have HI3 := hide H3.out
  generalize ws.getD i 0 = x0 at c3
  clear k1 k2 k3 kb H2 H3
  go_wp2
  have KF : Below w.heap.size w (((((((w2.setCell ⟨w.heap.size + 1 + 1, i, none⟩ (.int .u64 v)).setCell ⟨w.heap.size, 2, none⟩ (.slice (some ⟨w.heap.size + 1 + 1, 0, none⟩) n n)).setCell ⟨w.heap.size + 1, 0, none⟩ (.int .i64 code)).setCell ⟨w.heap.size + 1, 1, none⟩ (.int .i64 pc)).setCell
      ⟨w.heap.size + 1, 2, none⟩ (.slice (some ⟨w.heap.size + 1 + 1, 0, none⟩) n n)).setCell ⟨w.heap.size + 1, 3, none⟩ (.slice B m d)).setCell ⟨w.heap.size + 1, 4, none⟩ (.slice none 0 0)) :=
    ((((((KB.out.setCell (by simp; omega) _).setCell (by simp) _).setCell (by simp) _).setCell (by simp) _).setCell (by simp) _).setCell (by simp) _).setCell (by simp) _
  have KW : IsI .u64 (w2.setCell ⟨w.heap.size + 1 + 1, i, none⟩ (.int .u64 v)) (some ⟨w.heap.size + 1 + 1, 0, none⟩) n (ws.set i v) := by
    have h0 := K3.out
    refine ⟨by simpa using HL.out, fun _ => ⟨_, rfl, h0.lt, fun j u hu => ?_⟩⟩
    have hadd : (⟨w.heap.size + 1 + 1, 0, none⟩ : Addr).add j = ⟨w.heap.size + 1 + 1, j, none⟩ := by unfold Addr.add; split <;> simp_all
    rw [hadd, h0.cell j]
    simpa using hu
  have hne : ∀ (p : Addr), p.block = w.heap.size ∨ p.block = w.heap.size + 1 → ∀ ad, (some (⟨w.heap.size + 1 + 1, 0, none⟩ : Addr)) = some ad → ad.block ≠ p.block := by
    intro p hp ad e
    injection e with e
    subst e
    show w.heap.size + 1 + 1 ≠ p.block
    omega
  have KW2 := ((((((Rds.far KW (hne ⟨w.heap.size, 2, none⟩ (.inl rfl)) (.slice (some ⟨w.heap.size + 1 + 1, 0, none⟩) n n)).far (hne ⟨w.heap.size + 1, 0, none⟩ (.inr rfl)) (.int .i64 code)).far (hne ⟨w.heap.size + 1, 1, none⟩ (.inr rfl)) (.int .i64 pc)).far
    (hne ⟨w.heap.size + 1, 2, none⟩ (.inr rfl)) (.slice (some ⟨w.heap.size + 1 + 1, 0, none⟩) n n)).far (hne ⟨w.heap.size + 1, 3, none⟩ (.inr rfl)) (.slice B m d)).far (hne ⟨w.heap.size + 1, 4, none⟩ (.inr rfl)) (.slice none 0 0))
  have KY := (((((K3.out.far (p := ⟨w.heap.size, 2, none⟩) (by simp; omega) (.slice (some ⟨w.heap.size + 1 + 1, 0, none⟩) n n)).far (p := ⟨w.heap.size + 1, 0, none⟩) (by simp) (.int .i64 code)).far (p := ⟨w.heap.size + 1, 1, none⟩) (by simp) (.int .i64 pc)).far (p := ⟨w.heap.size + 1, 2, none⟩) (by simp) (.slice (some ⟨w.heap.size + 1 + 1, 0, none⟩) n n)).far (p := ⟨w.heap.size + 1, 3, none⟩) (by simp) (.slice B m d)).far (p := ⟨w.heap.size + 1, 4, none⟩) (by simp) (.slice none 0 0)
  exact bodyPost_ret (v := .agg #[.int .i64 code, .int .i64 pc, .slice (some ⟨w.heap.size + 1 + 1, 0, none⟩) n n, .slice B m d, .slice none 0 0]) (by simp [results, Tryz.results56, go_sem, c20, c21, c22, c23, c24]) rfl
    ⟨_, rfl, ⟨_, _, _, _, _, _, rfl, KW2, HI3.out.below KF, hn, hm, TyA.bk KY 0 n, ht2.below KF⟩, KF⟩
end Go.Proofs.YtepngbdjobckbaaGreat
end
section
namespace Go.Proofs.YtepngbdjobckbaaGreat
open Go.RowKit
set_option linter.unusedVariables false

theorem fr_up {w : World} {cs : Array Value} {code pc : Int} {ws ls : List Int} (h : Fr w cs code pc ws ls) (u : Up w) : Fr u.1 cs code pc ws ls := h.below u.2
theorem up_frozen {w : World} {p : Addr} {v : Value} (hc : w.cell? p = some v) (h : w.frozen? p = false) (u : Up w) : u.1.frozen? p = false := (u.2.frozen (block_lt hc)).trans h
set_option maxRecDepth 100000 in
theorem end_yes (w : World) (cs : Array Value) (code : Int) (ws ls : List Int) (h : Fr w cs code (-1) ws ls) :
    Calls Tryz.prog 37 #[.agg cs] w fun e w' => e = .returned (.tuple #[.agg #[.int .i64 code, .int .u64 (ws.getD 0 0)], .bool true]) ∧ Below w.heap.size w w' := by
  obtain ⟨A, n, c, B, m, d, rfl, hh⟩ := id h
  have HS : Hid (∀ o1 o2 (u : Up ((w.alloc o1).alloc o2)), Calls Tryz.prog 57 #[.agg #[.int .i64 code, .int .i64 (-1), .slice A n c, .slice B m d, .slice none 0 0], .int .i64 0] u.1 fun e w' => e = .returned (.int .u64 (ws.getD 0 0)) ∧ Below u.1.heap.size u.1 w') := by
    intro o1 o2 u
    have h2 := fr_up ((h.below (below_new w o1)).below (below_new _ o2)) u
    exact word_any u.1 _ code (-1) ws ls h2 0 (by omega)
  generalize ws.getD 0 0 = x at HS ⊢
  clear h hh
  have B1 : Bk ((w.alloc (.cells #[.int .i64 code, .int .i64 (-1), .slice A n c, .slice B m d, .slice none 0 0] 51)).alloc (.cells #[.int .i64 0, .int .u64 0] 47)) w.heap.size 51 #[.int .i64 code, .int .i64 (-1), .slice A n c, .slice B m d, .slice none 0 0] := (Bk.new _ _ _).alloc _
  have B2 : Bk ((w.alloc (.cells #[.int .i64 code, .int .i64 (-1), .slice A n c, .slice B m d, .slice none 0 0] 51)).alloc (.cells #[.int .i64 0, .int .u64 0] 47)) (w.heap.size + 1) 47 #[.int .i64 0, .int .u64 0] := by
    simpa using Bk.new (w.alloc (.cells #[.int .i64 code, .int .i64 (-1), .slice A n c, .slice B m d, .slice none 0 0] 51)) 47 #[.int .i64 0, .int .u64 0]
  obtain ⟨c0, c1, c2, c3, c4, f1⟩ := bk5 B1
  have K0 := hide (up_cell c0)
  have K1 := hide (up_cell c1)
  have K2 := hide (up_cell c2)
  have K3 := hide (up_cell c3)
  have K4 := hide (up_cell c4)
  have R0 := hide (up_cell (B2.cell 0))
  have R1 := hide (up_cell (B2.cell 1))
  have G0 := hide (up_frozen (B2.cell 0) (B2.frozen 0))
  have G1 := hide (up_frozen (B2.cell 1) (B2.frozen 1))
  clear B1 B2 c0 c1 c2 c3 c4 f1
  go_enter Tryz.func37, Tryz.ntmps37
  go_wp2
  have k0 := K0.out
  have k1 := K1.out
  have k2 := K2.out
  have k3 := K3.out
  have k4 := K4.out
  refine wp_region_up_tail 5 (by kernel_rfl) (by kernel_rfl) ?_
  simp only [List.take_succ_cons, List.take_zero, List.drop_succ_cons, List.drop_zero]
  repeat (go_big_quiet_step (first
    | (go_at_call 57; exact up_call (HS.out _ _ _))))
  refine wpQuiet_nil ?_
  intro u
  have hbu := hide u.2
  have r0 := R0.out u
  have r1 := R1.out u
  have g0 := G0.out u
  have g1 := G1.out u
  clear k0 k1 k2 k3 k4 K0 K1 K2 K3 K4 R0 R1 G0 G1
  generalize u.1 = w2 at *
  go_wp2
  exact bodyPost_ret (v := .tuple #[.agg #[.int .i64 code, .int .u64 x], .bool true]) (by simp [results, Tryz.results37, go_sem, r0, r1]) rfl
    ⟨rfl, (((below_new _ _).trans ((below_new _ _).mono (by simp))).trans (hbu.out.mono (by simp; omega))).setCell (by simp) _ |>.setCell (by simp) _⟩
set_option maxRecDepth 100000 in
theorem end_no (w : World) (cs : Array Value) (code pc : Int) (ws ls : List Int) (h : Fr w cs code pc ws ls) (hp : pc ≠ -1) :
    Calls Tryz.prog 37 #[.agg cs] w fun e w' => e = .returned (.tuple #[.agg #[.int .i64 0, .int .u64 0], .bool false]) ∧ Below w.heap.size w w' := by
  obtain ⟨A, n, c, B, m, d, rfl, hh⟩ := id h
  have hd : (pc != -1) = true := by simpa using hp
  clear h hh hp
  go_enter Tryz.func37, Tryz.ntmps37
  go_wp2
  exact bodyPost_ret (v := .tuple #[.agg #[.int .i64 0, .int .u64 0], .bool false]) (by simp [results, Tryz.results37, go_sem]) rfl
    ⟨rfl, (below_new _ _).trans ((below_new _ _).mono (by simp))⟩
theorem shutEnd_yes (w : World) (cs : Array Value) (code : Int) (ws ls : List Int) (h : Fr w cs code (-1) ws ls) :
    Calls Tryz.prog 30 #[.agg cs] w fun e w' => e = .returned (.tuple #[.agg #[.int .i64 code, .int .u64 (ws.getD 0 0)], .bool true]) ∧ Below w.heap.size w w' := by
  obtain ⟨A, n, c, B, m, d, rfl, hh⟩ := id h
  have HS : Hid (∀ o1 o2, Calls Tryz.prog 37 #[.agg #[.int .i64 code, .int .i64 (-1), .slice A n c, .slice B m d, .slice none 0 0]] ((w.alloc o1).alloc o2) fun e w' => e = .returned (.tuple #[.agg #[.int .i64 code, .int .u64 (ws.getD 0 0)], .bool true]) ∧ Below ((w.alloc o1).alloc o2).heap.size ((w.alloc o1).alloc o2) w') := by
    intro o1 o2
    exact end_yes _ _ code ws ls ((h.below (below_new w o1)).below (below_new _ o2))
  generalize ws.getD 0 0 = x at HS ⊢
  clear h hh
  go_enter Tryz.func30, Tryz.ntmps30
  go_wp2_with fail
  refine (HS.out _ _).mono ?_
  rintro e w2 ⟨rfl, hb⟩
  have B2 := ((by simpa using Bk.new (w.alloc (.cells #[.int .i64 code, .int .i64 (-1), .slice A n c, .slice B m d, .slice none 0 0] 51)) 47 #[.int .i64 0, .int .u64 0] : Bk ((w.alloc (.cells #[.int .i64 code, .int .i64 (-1), .slice A n c, .slice B m d, .slice none 0 0] 51)).alloc (.cells #[.int .i64 0, .int .u64 0] 47)) (w.heap.size + 1) 47 #[.int .i64 0, .int .u64 0])).below hb (by simp)
  have r0 := B2.cell 0
  have r1 := B2.cell 1
  have g0 := B2.frozen 0
  have g1 := B2.frozen 1
  simp only [List.getElem?_toArray, List.getElem?_cons_zero, List.getElem?_cons_succ] at r0 r1
  have HB := hide hb
  clear B2 hb
  go_wp2
  exact bodyPost_ret (v := .tuple #[.agg #[.int .i64 code, .int .u64 x], .bool true]) (by simp [results, Tryz.results30, go_sem, r0, r1]) rfl
    ⟨rfl, (((below_new _ _).trans ((below_new _ _).mono (by simp))).trans (HB.out.mono (by simp; omega))).setCell (by simp) _ |>.setCell (by simp) _⟩
theorem shutEnd_no (w : World) (cs : Array Value) (code pc : Int) (ws ls : List Int) (h : Fr w cs code pc ws ls) (hp : pc ≠ -1) :
    Calls Tryz.prog 30 #[.agg cs] w fun e w' => e = .returned (.tuple #[.agg #[.int .i64 0, .int .u64 0], .bool false]) ∧ Below w.heap.size w w' := by
  obtain ⟨A, n, c, B, m, d, rfl, hh⟩ := id h
  have HS : Hid (∀ o1 o2, Calls Tryz.prog 37 #[.agg #[.int .i64 code, .int .i64 pc, .slice A n c, .slice B m d, .slice none 0 0]] ((w.alloc o1).alloc o2) fun e w' => e = .returned (.tuple #[.agg #[.int .i64 0, .int .u64 0], .bool false]) ∧ Below ((w.alloc o1).alloc o2).heap.size ((w.alloc o1).alloc o2) w') := by
    intro o1 o2
    exact end_no _ _ code pc ws ls ((h.below (below_new w o1)).below (below_new _ o2)) hp
  clear h hh hp
  go_enter Tryz.func30, Tryz.ntmps30
  go_wp2_with fail
  refine (HS.out _ _).mono ?_
  rintro e w2 ⟨rfl, hb⟩
  have B2 := ((by simpa using Bk.new (w.alloc (.cells #[.int .i64 code, .int .i64 pc, .slice A n c, .slice B m d, .slice none 0 0] 51)) 47 #[.int .i64 0, .int .u64 0] : Bk ((w.alloc (.cells #[.int .i64 code, .int .i64 pc, .slice A n c, .slice B m d, .slice none 0 0] 51)).alloc (.cells #[.int .i64 0, .int .u64 0] 47)) (w.heap.size + 1) 47 #[.int .i64 0, .int .u64 0])).below hb (by simp)
  have r0 := B2.cell 0
  have r1 := B2.cell 1
  have g0 := B2.frozen 0
  have g1 := B2.frozen 1
  simp only [List.getElem?_toArray, List.getElem?_cons_zero, List.getElem?_cons_succ] at r0 r1
  have HB := hide hb
  clear B2 hb
  go_wp2
  exact bodyPost_ret (v := .tuple #[.agg #[.int .i64 0, .int .u64 0], .bool false]) (by simp [results, Tryz.results30, go_sem, r0, r1]) rfl
    ⟨rfl, (((below_new _ _).trans ((below_new _ _).mono (by simp))).trans (HB.out.mono (by simp; omega))).setCell (by simp) _ |>.setCell (by simp) _⟩
theorem countEnd_yes (w : World) (cs : Array Value) (code : Int) (ws ls : List Int) (h : Fr w cs code (-1) ws ls) :
    Calls Tryz.prog 18 #[.agg cs] w fun e w' => e = .returned (.tuple #[.agg #[.int .i64 code, .int .u64 (ws.getD 0 0)], .bool true]) ∧ Below w.heap.size w w' := by
  obtain ⟨A, n, c, B, m, d, rfl, hh⟩ := id h
  have HS : Hid (∀ o1 o2, Calls Tryz.prog 37 #[.agg #[.int .i64 code, .int .i64 (-1), .slice A n c, .slice B m d, .slice none 0 0]] ((w.alloc o1).alloc o2) fun e w' => e = .returned (.tuple #[.agg #[.int .i64 code, .int .u64 (ws.getD 0 0)], .bool true]) ∧ Below ((w.alloc o1).alloc o2).heap.size ((w.alloc o1).alloc o2) w') := by
    intro o1 o2
    exact end_yes _ _ code ws ls ((h.below (below_new w o1)).below (below_new _ o2))
  generalize ws.getD 0 0 = x at HS ⊢
  clear h hh
  go_enter Tryz.func18, Tryz.ntmps18
  go_wp2_with fail
  refine (HS.out _ _).mono ?_
  rintro e w2 ⟨rfl, hb⟩
  have B2 := ((by simpa using Bk.new (w.alloc (.cells #[.int .i64 code, .int .i64 (-1), .slice A n c, .slice B m d, .slice none 0 0] 51)) 47 #[.int .i64 0, .int .u64 0] : Bk ((w.alloc (.cells #[.int .i64 code, .int .i64 (-1), .slice A n c, .slice B m d, .slice none 0 0] 51)).alloc (.cells #[.int .i64 0, .int .u64 0] 47)) (w.heap.size + 1) 47 #[.int .i64 0, .int .u64 0])).below hb (by simp)
  have r0 := B2.cell 0
  have r1 := B2.cell 1
  have g0 := B2.frozen 0
  have g1 := B2.frozen 1
  simp only [List.getElem?_toArray, List.getElem?_cons_zero, List.getElem?_cons_succ] at r0 r1
  have HB := hide hb
  clear B2 hb
  go_wp2
  exact bodyPost_ret (v := .tuple #[.agg #[.int .i64 code, .int .u64 x], .bool true]) (by simp [results, Tryz.results18, go_sem, r0, r1]) rfl
    ⟨rfl, (((below_new _ _).trans ((below_new _ _).mono (by simp))).trans (HB.out.mono (by simp; omega))).setCell (by simp) _ |>.setCell (by simp) _⟩
theorem countEnd_no (w : World) (cs : Array Value) (code pc : Int) (ws ls : List Int) (h : Fr w cs code pc ws ls) (hp : pc ≠ -1) :
    Calls Tryz.prog 18 #[.agg cs] w fun e w' => e = .returned (.tuple #[.agg #[.int .i64 0, .int .u64 0], .bool false]) ∧ Below w.heap.size w w' := by
  obtain ⟨A, n, c, B, m, d, rfl, hh⟩ := id h
  have HS : Hid (∀ o1 o2, Calls Tryz.prog 37 #[.agg #[.int .i64 code, .int .i64 pc, .slice A n c, .slice B m d, .slice none 0 0]] ((w.alloc o1).alloc o2) fun e w' => e = .returned (.tuple #[.agg #[.int .i64 0, .int .u64 0], .bool false]) ∧ Below ((w.alloc o1).alloc o2).heap.size ((w.alloc o1).alloc o2) w') := by
    intro o1 o2
    exact end_no _ _ code pc ws ls ((h.below (below_new w o1)).below (below_new _ o2)) hp
  clear h hh hp
  go_enter Tryz.func18, Tryz.ntmps18
  go_wp2_with fail
  refine (HS.out _ _).mono ?_
  rintro e w2 ⟨rfl, hb⟩
  have B2 := ((by simpa using Bk.new (w.alloc (.cells #[.int .i64 code, .int .i64 pc, .slice A n c, .slice B m d, .slice none 0 0] 51)) 47 #[.int .i64 0, .int .u64 0] : Bk ((w.alloc (.cells #[.int .i64 code, .int .i64 pc, .slice A n c, .slice B m d, .slice none 0 0] 51)).alloc (.cells #[.int .i64 0, .int .u64 0] 47)) (w.heap.size + 1) 47 #[.int .i64 0, .int .u64 0])).below hb (by simp)
  have r0 := B2.cell 0
  have r1 := B2.cell 1
  have g0 := B2.frozen 0
  have g1 := B2.frozen 1
  simp only [List.getElem?_toArray, List.getElem?_cons_zero, List.getElem?_cons_succ] at r0 r1
  have HB := hide hb
  clear B2 hb
  go_wp2
  exact bodyPost_ret (v := .tuple #[.agg #[.int .i64 0, .int .u64 0], .bool false]) (by simp [results, Tryz.results18, go_sem, r0, r1]) rfl
    ⟨rfl, (((below_new _ _).trans ((below_new _ _).mono (by simp))).trans (HB.out.mono (by simp; omega))).setCell (by simp) _ |>.setCell (by simp) _⟩
theorem pushEnd_yes (w : World) (cs : Array Value) (code : Int) (ws ls : List Int) (h : Fr w cs code (-1) ws ls) :
    Calls Tryz.prog 28 #[.agg cs] w fun e w' => e = .returned (.tuple #[.agg #[.int .i64 code, .int .u64 (ws.getD 0 0)], .bool true]) ∧ Below w.heap.size w w' := by
  obtain ⟨A, n, c, B, m, d, rfl, hh⟩ := id h
  have HS : Hid (∀ o1 o2, Calls Tryz.prog 37 #[.agg #[.int .i64 code, .int .i64 (-1), .slice A n c, .slice B m d, .slice none 0 0]] ((w.alloc o1).alloc o2) fun e w' => e = .returned (.tuple #[.agg #[.int .i64 code, .int .u64 (ws.getD 0 0)], .bool true]) ∧ Below ((w.alloc o1).alloc o2).heap.size ((w.alloc o1).alloc o2) w') := by
    intro o1 o2
    exact end_yes _ _ code ws ls ((h.below (below_new w o1)).below (below_new _ o2))
  generalize ws.getD 0 0 = x at HS ⊢
  clear h hh
  go_enter Tryz.func28, Tryz.ntmps28
  go_wp2_with fail
  refine (HS.out _ _).mono ?_
  rintro e w2 ⟨rfl, hb⟩
  have B2 := ((by simpa using Bk.new (w.alloc (.cells #[.int .i64 code, .int .i64 (-1), .slice A n c, .slice B m d, .slice none 0 0] 51)) 47 #[.int .i64 0, .int .u64 0] : Bk ((w.alloc (.cells #[.int .i64 code, .int .i64 (-1), .slice A n c, .slice B m d, .slice none 0 0] 51)).alloc (.cells #[.int .i64 0, .int .u64 0] 47)) (w.heap.size + 1) 47 #[.int .i64 0, .int .u64 0])).below hb (by simp)
  have r0 := B2.cell 0
  have r1 := B2.cell 1
  have g0 := B2.frozen 0
  have g1 := B2.frozen 1
  simp only [List.getElem?_toArray, List.getElem?_cons_zero, List.getElem?_cons_succ] at r0 r1
  have HB := hide hb
  clear B2 hb
  go_wp2
  exact bodyPost_ret (v := .tuple #[.agg #[.int .i64 code, .int .u64 x], .bool true]) (by simp [results, Tryz.results28, go_sem, r0, r1]) rfl
    ⟨rfl, (((below_new _ _).trans ((below_new _ _).mono (by simp))).trans (HB.out.mono (by simp; omega))).setCell (by simp) _ |>.setCell (by simp) _⟩
theorem pushEnd_no (w : World) (cs : Array Value) (code pc : Int) (ws ls : List Int) (h : Fr w cs code pc ws ls) (hp : pc ≠ -1) :
    Calls Tryz.prog 28 #[.agg cs] w fun e w' => e = .returned (.tuple #[.agg #[.int .i64 0, .int .u64 0], .bool false]) ∧ Below w.heap.size w w' := by
  obtain ⟨A, n, c, B, m, d, rfl, hh⟩ := id h
  have HS : Hid (∀ o1 o2, Calls Tryz.prog 37 #[.agg #[.int .i64 code, .int .i64 pc, .slice A n c, .slice B m d, .slice none 0 0]] ((w.alloc o1).alloc o2) fun e w' => e = .returned (.tuple #[.agg #[.int .i64 0, .int .u64 0], .bool false]) ∧ Below ((w.alloc o1).alloc o2).heap.size ((w.alloc o1).alloc o2) w') := by
    intro o1 o2
    exact end_no _ _ code pc ws ls ((h.below (below_new w o1)).below (below_new _ o2)) hp
  clear h hh hp
  go_enter Tryz.func28, Tryz.ntmps28
  go_wp2_with fail
  refine (HS.out _ _).mono ?_
  rintro e w2 ⟨rfl, hb⟩
  have B2 := ((by simpa using Bk.new (w.alloc (.cells #[.int .i64 code, .int .i64 pc, .slice A n c, .slice B m d, .slice none 0 0] 51)) 47 #[.int .i64 0, .int .u64 0] : Bk ((w.alloc (.cells #[.int .i64 code, .int .i64 pc, .slice A n c, .slice B m d, .slice none 0 0] 51)).alloc (.cells #[.int .i64 0, .int .u64 0] 47)) (w.heap.size + 1) 47 #[.int .i64 0, .int .u64 0])).below hb (by simp)
  have r0 := B2.cell 0
  have r1 := B2.cell 1
  have g0 := B2.frozen 0
  have g1 := B2.frozen 1
  simp only [List.getElem?_toArray, List.getElem?_cons_zero, List.getElem?_cons_succ] at r0 r1
  have HB := hide hb
  clear B2 hb
  go_wp2
  exact bodyPost_ret (v := .tuple #[.agg #[.int .i64 0, .int .u64 0], .bool false]) (by simp [results, Tryz.results28, go_sem, r0, r1]) rfl
    ⟨rfl, (((below_new _ _).trans ((below_new _ _).mono (by simp))).trans (HB.out.mono (by simp; omega))).setCell (by simp) _ |>.setCell (by simp) _⟩
theorem popEnd_yes (w : World) (cs : Array Value) (code : Int) (ws ls : List Int) (h : Fr w cs code (-1) ws ls) :
    Calls Tryz.prog 29 #[.agg cs] w fun e w' => e = .returned (.tuple #[.agg #[.int .i64 code, .int .u64 (ws.getD 0 0)], .bool true]) ∧ Below w.heap.size w w' := by
  obtain ⟨A, n, c, B, m, d, rfl, hh⟩ := id h
  have HS : Hid (∀ o1 o2, Calls Tryz.prog 37 #[.agg #[.int .i64 code, .int .i64 (-1), .slice A n c, .slice B m d, .slice none 0 0]] ((w.alloc o1).alloc o2) fun e w' => e = .returned (.tuple #[.agg #[.int .i64 code, .int .u64 (ws.getD 0 0)], .bool true]) ∧ Below ((w.alloc o1).alloc o2).heap.size ((w.alloc o1).alloc o2) w') := by
    intro o1 o2
    exact end_yes _ _ code ws ls ((h.below (below_new w o1)).below (below_new _ o2))
  generalize ws.getD 0 0 = x at HS ⊢
  clear h hh
  go_enter Tryz.func29, Tryz.ntmps29
  go_wp2_with fail
  refine (HS.out _ _).mono ?_
  rintro e w2 ⟨rfl, hb⟩
  have B2 := ((by simpa using Bk.new (w.alloc (.cells #[.int .i64 code, .int .i64 (-1), .slice A n c, .slice B m d, .slice none 0 0] 51)) 47 #[.int .i64 0, .int .u64 0] : Bk ((w.alloc (.cells #[.int .i64 code, .int .i64 (-1), .slice A n c, .slice B m d, .slice none 0 0] 51)).alloc (.cells #[.int .i64 0, .int .u64 0] 47)) (w.heap.size + 1) 47 #[.int .i64 0, .int .u64 0])).below hb (by simp)
  have r0 := B2.cell 0
  have r1 := B2.cell 1
  have g0 := B2.frozen 0
  have g1 := B2.frozen 1
  simp only [List.getElem?_toArray, List.getElem?_cons_zero, List.getElem?_cons_succ] at r0 r1
  have HB := hide hb
  clear B2 hb
  go_wp2
  exact bodyPost_ret (v := .tuple #[.agg #[.int .i64 code, .int .u64 x], .bool true]) (by simp [results, Tryz.results29, go_sem, r0, r1]) rfl
    ⟨rfl, (((below_new _ _).trans ((below_new _ _).mono (by simp))).trans (HB.out.mono (by simp; omega))).setCell (by simp) _ |>.setCell (by simp) _⟩
theorem popEnd_no (w : World) (cs : Array Value) (code pc : Int) (ws ls : List Int) (h : Fr w cs code pc ws ls) (hp : pc ≠ -1) :
    Calls Tryz.prog 29 #[.agg cs] w fun e w' => e = .returned (.tuple #[.agg #[.int .i64 0, .int .u64 0], .bool false]) ∧ Below w.heap.size w w' := by
  obtain ⟨A, n, c, B, m, d, rfl, hh⟩ := id h
  have HS : Hid (∀ o1 o2, Calls Tryz.prog 37 #[.agg #[.int .i64 code, .int .i64 pc, .slice A n c, .slice B m d, .slice none 0 0]] ((w.alloc o1).alloc o2) fun e w' => e = .returned (.tuple #[.agg #[.int .i64 0, .int .u64 0], .bool false]) ∧ Below ((w.alloc o1).alloc o2).heap.size ((w.alloc o1).alloc o2) w') := by
    intro o1 o2
    exact end_no _ _ code pc ws ls ((h.below (below_new w o1)).below (below_new _ o2)) hp
  clear h hh hp
  go_enter Tryz.func29, Tryz.ntmps29
  go_wp2_with fail
  refine (HS.out _ _).mono ?_
  rintro e w2 ⟨rfl, hb⟩
  have B2 := ((by simpa using Bk.new (w.alloc (.cells #[.int .i64 code, .int .i64 pc, .slice A n c, .slice B m d, .slice none 0 0] 51)) 47 #[.int .i64 0, .int .u64 0] : Bk ((w.alloc (.cells #[.int .i64 code, .int .i64 pc, .slice A n c, .slice B m d, .slice none 0 0] 51)).alloc (.cells #[.int .i64 0, .int .u64 0] 47)) (w.heap.size + 1) 47 #[.int .i64 0, .int .u64 0])).below hb (by simp)
  have r0 := B2.cell 0
  have r1 := B2.cell 1
  have g0 := B2.frozen 0
  have g1 := B2.frozen 1
  simp only [List.getElem?_toArray, List.getElem?_cons_zero, List.getElem?_cons_succ] at r0 r1
  have HB := hide hb
  clear B2 hb
  go_wp2
  exact bodyPost_ret (v := .tuple #[.agg #[.int .i64 0, .int .u64 0], .bool false]) (by simp [results, Tryz.results29, go_sem, r0, r1]) rfl
    ⟨rfl, (((below_new _ _).trans ((below_new _ _).mono (by simp))).trans (HB.out.mono (by simp; omega))).setCell (by simp) _ |>.setCell (by simp) _⟩
end Go.Proofs.YtepngbdjobckbaaGreat
end
section
namespace Go.Proofs.YtepngbdjobckbaaGreat
open Go.RowKit
set_option linter.unusedVariables false

theorem Tryz.fr_und : ∃ fs, Tryz.prog.underlying 51 = some (.struct fs) := ⟨_, Tryz.underlying51⟩
theorem Tryz.fr_inf : (Tryz.prog.info? 51).map (·.size) = some 5 := by kernel_rfl
theorem fr_one (a b : Int) (A : Option Addr) (n c : Nat) (B : Option Addr) (m d : Nat) (D : Option Addr) (p e : Nat) : (#[.int .i64 a, .int .i64 b, .slice A n c, .slice B m d, .slice D p e] : Array Value).all (·.oneCell') = true := by
  refine all_oneCell_toArray (cs := [_, _, _, _, _]) fun v hv => ?_
  simp only [List.mem_cons, List.not_mem_nil, or_false] at hv
  rcases hv with rfl | rfl | rfl | rfl | rfl <;> rfl
theorem isI_stored {w wz : World} {k : IntKind} {g : Nat} {vs : List Value} {ad : Addr} {n : Nat} {l : List Int} (hw : Hid (wz = w.setCells g 0 vs)) (h : IsI k w (some ad) n l) (hne : ad.block ≠ g) : IsI k wz (some ad) n l := by
  have hw := hw.out
  subst hw
  refine ⟨h.1, fun hn => ?_⟩
  obtain ⟨ad', h1, h2, h3⟩ := h.2 hn
  cases h1
  exact ⟨_, rfl, Nat.lt_of_lt_of_le h2 (below_setCells vs 0 (Below.refl g w) (Nat.le_refl g)).size, fun j v hv => by
    rw [World.cell?_setCells_out g vs 0 w (ad.add j) (fun hb _ => absurd (by rwa [block_add] at hb) hne)]
    exact h3 j v hv⟩
theorem bk_setCells {g g' : Nat} {t : TypeId} (vs : List Value) : ∀ (o : Nat) {w : World} {xs : Array Value}, Bk w g t xs → ∃ ys, Bk (w.setCells g' o vs) g t ys := by
  induction vs with
  | nil => intro o w xs h; exact ⟨xs, h⟩
  | cons v r ih =>
    intro o w xs h
    by_cases e : g = g'
    · subst e
      exact ih (o + 1) (h.set_ o v)
    · exact ih (o + 1) (h.far (p := ⟨g', o, none⟩) e v)
theorem tyA_stored {w wz : World} {g : Nat} {vs : List Value} {A : Option Addr} {n : Nat} {t : TypeId} (hw : Hid (wz = w.setCells g 0 vs)) (h : TyA w A n t) : TyA wz A n t := by
  have hw := hw.out
  subst hw
  intro hn
  obtain ⟨ad, xs, e, k⟩ := h hn
  obtain ⟨ys, k'⟩ := bk_setCells (g' := g) vs 0 k
  exact ⟨ad, ys, e, k'⟩
/-- A frame, seen again behind a store into a frame's block. -/
theorem Fr.stored {w wz : World} {g : Nat} {vs : List Value} {cs xs : Array Value} {code pc : Int} {ws ls : List Int} (hw : Hid (wz = w.setCells g 0 vs)) (h : Fr w cs code pc ws ls) (k : Bk w g 51 xs) : Fr wz cs code pc ws ls := by
  obtain ⟨A, n, c, B, m, d, e, h1, h2, h3, h4, h5, h6⟩ := h
  refine ⟨A, n, c, B, m, d, e, ?_, ?_, h3, h4, tyA_stored hw h5, tyA_stored hw h6⟩
  · by_cases hn : 0 < n
    · obtain ⟨ad, rfl, -⟩ := h1.2 hn
      exact isI_stored hw h1 (h5.ne k (by decide) hn _ rfl)
    · exact ⟨h1.1, fun h => absurd h hn⟩
  · by_cases hn : 0 < m
    · obtain ⟨ad, rfl, -⟩ := h2.2 hn
      exact isI_stored hw h2 (h6.ne k (by decide) hn _ rfl)
    · exact ⟨h2.1, fun h => absurd h hn⟩
end Go.Proofs.YtepngbdjobckbaaGreat
end
