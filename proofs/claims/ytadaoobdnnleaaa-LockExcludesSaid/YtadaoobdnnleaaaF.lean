/- Contracts: frames of machines (frame). -/
import Derived.Test.YtadaoobdnnleaaaU
import Derived.Test.YtadaoobdnnleaaaY
import Derived.Test.YtadaoobdnnleaaaRows
import Derived.Deep.RegionWith
import Derived.Deep.OwnRows
import Derived.Outline
namespace Go.Proofs.Ytadaoobdnnleaaa
open Go.RowKit
set_option linter.unusedVariables false

/-- A frame: its code, its place, its words and its list; nothing runs above it. -/
def Fr (w : World) (cs : Array Value) (code pc : Int) (ws ls : List Int) : Prop :=
  ∃ (A : Option Addr) (n c : Nat) (B : Option Addr) (m d : Nat), cs = #[.int .i64 code, .int .i64 pc, .slice A n c, .slice B m d, .slice none 0 0] ∧ IsI .u64 w A n ws ∧ IsI .i64 w B m ls ∧ n ≤ 1000 ∧ m ≤ 1000 ∧ TyA w A n 46 ∧ TyA w B m 3
theorem Fr.below {w w' : World} {cs : Array Value} {code pc : Int} {ws ls : List Int} (h : Fr w cs code pc ws ls) (hb : Below w.heap.size w w') : Fr w' cs code pc ws ls := by
  obtain ⟨A, n, c, B, m, d, h1, h2, h3, h4, h5, h6, h7⟩ := h
  exact ⟨A, n, c, B, m, d, h1, h2.below hb, h3.below hb, h4, h5, h6.below hb, h7.below hb⟩
theorem isI_one {w : World} {t : TypeId} {k : IntKind} (x : Int) : IsI k (w.alloc (.cells #[.int k x] t)) (some ⟨w.heap.size, 0, none⟩) 1 [x] :=
  ⟨rfl, fun _ => ⟨_, rfl, by simp, cells_new w [.int k x] t⟩⟩

theorem Try.u64_inf : (Try.prog.info? 46).map (fun i => (i.zero, i.size, i.bytes)) = some (some (.int .u64 0), 1, 8) := by kernel_rfl
theorem word_any (w : World) (cs : Array Value) (code pc : Int) (ws ls : List Int) (h : Fr w cs code pc ws ls) (i : Nat) (hi : i ≤ 1000) :
    Calls Try.prog 90 #[.agg cs, .int .i64 i] w fun e w' => e = .returned (.int .u64 (ws.getD i 0)) ∧ Below w.heap.size w w' := by
  obtain ⟨A, n, c, B, m, d, rfl, h2, h3, hn, hm, ht1, ht2⟩ := h
  have hl := h2.len
  by_cases hlt : i < n
  · obtain ⟨ad, rfl, _, hc⟩ := h2.at_ hlt
    have hb := block_lt hc
    generalize ws.getD i 0 = x at hc
    have d1 : decide (n ≤ i) = false := by simp; omega
    clear h2 h3 hl
    go_enter Try.func90, Try.ntmps90
    go_wp2
    go_ret
    exact ⟨rfl, below_new _ _⟩
  · have e := hide (show ws.getD i 0 = 0 by simp [List.getD, List.getElem?_eq_none (show ws.length ≤ i by omega)])
    clear h2 h3 hl
    go_enter Try.func90, Try.ntmps90
    go_wp2
    go_ret
    exact ⟨ret_eq (by rw [e.out]; rfl), below_new _ _⟩
theorem int_any (w : World) (cs : Array Value) (code pc : Int) (ws ls : List Int) (h : Fr w cs code pc ws ls) (i : Nat) (hi : i ≤ 1000) :
    Calls Try.prog 60 #[.agg cs, .int .i64 i] w fun e w' => e = .returned (.int .i64 (ls.getD i 0)) ∧ Below w.heap.size w w' := by
  obtain ⟨A, n, c, B, m, d, rfl, h2, h3, hn, hm, ht1, ht2⟩ := h
  have hl := h3.len
  by_cases hlt : i < m
  · obtain ⟨ad, rfl, _, hc⟩ := h3.at_ hlt
    have hb := block_lt hc
    generalize ls.getD i 0 = x at hc
    have d1 : decide (m ≤ i) = false := by simp; omega
    clear h2 h3 hl
    go_enter Try.func60, Try.ntmps60
    go_wp2
    go_ret
    exact ⟨rfl, below_new _ _⟩
  · have e := hide (show ls.getD i 0 = 0 by simp [List.getD, List.getElem?_eq_none (show ls.length ≤ i by omega)])
    clear h2 h3 hl
    go_enter Try.func60, Try.ntmps60
    go_wp2
    go_ret
    exact ⟨ret_eq (by rw [e.out]; rfl), below_new _ _⟩
theorem done_any (w : World) (k v : Int) :
    Calls Try.prog 59 #[.int .i64 k, .int .u64 v] w fun e w' => ∃ cs, e = .returned (.agg cs) ∧ Fr w' cs k (-1) [v] [] ∧ Below w.heap.size w w' := by
  go_enter Try.func59, Try.ntmps59
  go_wp2
  exact bodyPost_ret (v := .agg #[.int .i64 k, .int .i64 (-1), .slice (some ⟨w.heap.size + 1, 0, none⟩) 1 1, .slice none 0 0, .slice none 0 0]) (by simp [results, Try.results59, go_sem]) rfl
    ⟨_, rfl, ⟨_, _, _, _, _, _, rfl, by simpa using isI_one (w := w.alloc _) v, IsI.nil _ _ _, by omega, by omega, TyA.bk (by simpa using Bk.new (w.alloc _) 46 _) 0 1, TyA.nil _ _ _⟩, (below_new _ _).alloc (by simp) _⟩
theorem at_any (w : World) (cs : Array Value) (code pc : Int) (ws ls : List Int) (h : Fr w cs code pc ws ls) (q : Int) :
    Calls Try.prog 72 #[.agg cs, .int .i64 q] w fun e w' => ∃ cs', e = .returned (.agg cs') ∧ Fr w' cs' code q ws ls ∧ Below w.heap.size w w' := by
  obtain ⟨A, n, c, B, m, d, rfl, h2, h3, hn, hm, ht1, ht2⟩ := h
  have H2 := hide h2
  have H3 := hide h3
  clear h2 h3
  go_enter Try.func72, Try.ntmps72
  go_wp2
  exact bodyPost_ret (v := .agg #[.int .i64 code, .int .i64 q, .slice A n c, .slice B m d, .slice none 0 0]) (by simp [results, Try.results72, go_sem]) rfl
    ⟨_, rfl, ⟨_, _, _, _, _, _, rfl, (H2.out.alloc _).alloc _, (H3.out.alloc _).alloc _, hn, hm, (ht1.alloc _).alloc _, (ht2.alloc _).alloc _⟩, (below_new _ _).alloc (by simp) _⟩
theorem setRow_new (w : World) (a b : Array Value) (t : TypeId) : (w.alloc (.cells a t)).setRow w.heap.size b = w.alloc (.cells b t) := by
  unfold World.setRow World.alloc
  congr 1
  apply Array.ext
  · simp
  · intro i h1 h2
    simp only [Array.getElem_modify, Array.getElem_push]
    by_cases e : w.heap.size = i
    · subst e; simp
    · rw [if_neg e]
      have h3 : i < w.heap.size := by simp at h2; omega
      rw [dif_pos h3, dif_pos h3]
/-- copy into a block that was just made, of the same length. -/
theorem run_copy_new {P : Program} (w : World) (dT sT ty elem : TypeId) (n c d : Nat) (ad : Addr) (cur : Array Value) (cs : List Value) (hu : P.underlying dT = some (.slice elem)) (hs : (P.info? elem).map (·.size) = some 1)
    (hc : cur.size = n) (hn : cs.length = n) (hsrc : ∀ j v, cs[j]? = some v → w.cell? (ad.add j) = some v) (hlt : ad.block < w.heap.size) (h1 : ∀ v ∈ cs, v.oneCell' = true) :
    (Builtin.copy_ #[dT, sT] ty #[.slice (some ⟨w.heap.size, 0, none⟩) n d, .slice (some ad) n c]).run P (w.alloc (.cells cur elem)) = .ok (goInt n) (w.alloc (.cells cs.toArray elem)) := by
  rw [run_copy_row (P := P) (w.alloc (.cells cur elem)) dT sT ty elem w.heap.size 0 n d ad n c cur elem cs hu hs (heap_alloc_new w _) (by simp [hn])
    (fun j v hv => by rw [(below_new w _).cell (by rw [block_add]; exact hlt)]; exact hsrc j v hv) (by omega) h1]
  have e : cur.toList.take 0 ++ cs ++ cur.toList.drop (0 + cs.length) = cs := by simp; omega
  rw [e, setRow_new, hn]
theorem bk5 {w : World} {g : Nat} {t : TypeId} {a b c d e : Value} (h : Bk w g t #[a, b, c, d, e]) :
    w.cell? ⟨g, 0, none⟩ = some a ∧ w.cell? ⟨g, 1, none⟩ = some b ∧ w.cell? ⟨g, 2, none⟩ = some c ∧ w.cell? ⟨g, 3, none⟩ = some d ∧ w.cell? ⟨g, 4, none⟩ = some e ∧ ∀ i, w.frozen? ⟨g, i, none⟩ = false :=
  ⟨h.cell 0, h.cell 1, h.cell 2, h.cell 3, h.cell 4, h.frozen⟩
set_option maxRecDepth 100000 in
theorem with_any (w : World) (cs : Array Value) (code pc : Int) (ws ls : List Int) (h : Fr w cs code pc ws ls) (i : Nat) (v : Int) (hi : i < ws.length) :
    Calls Try.prog 79 #[.agg cs, .int .i64 i, .int .u64 v] w fun e w' => ∃ cs', e = .returned (.agg cs') ∧ Fr w' cs' code pc (ws.set i v) ls ∧ Below w.heap.size w w' := by
  obtain ⟨A, n, c, B, m, d, rfl, h2, h3, hn, hm, ht1, ht2⟩ := h
  have hl := h2.len
  obtain ⟨ad, rfl, hadl, hci⟩ := h2.at_ (show i < n by omega)
  have H2 := hide h2
  have H3 := hide h3
  have HL := hide hl
  have hmk := fun W => run_make_row' (P := Try.prog) 28 46 (.int .u64 0) 8 Try.underlying28 Try.u64_inf rfl .i64 .i64 n (by omega) (by omega) W
  have hin : i < n := by omega
  have hcp : ∀ o1 o2, (Builtin.copy_ #[28, 28] 3 #[.slice (some ⟨w.heap.size + 1 + 1, 0, none⟩) n n, .slice (some ad) n c]).run Try.prog (((w.alloc o1).alloc o2).alloc (.cells (madeCells #[Value.int .u64 0] n) 46)) =
      .ok (.int .i64 n) (((w.alloc o1).alloc o2).alloc (.cells (ws.map (Value.int .u64)).toArray 46)) := by
    intro o1 o2
    have hr := (h2.alloc o1).alloc o2
    have key := run_copy_new (P := Try.prog) ((w.alloc o1).alloc o2) 28 28 3 46 n c n ad (madeCells #[Value.int .u64 0] n) (ws.map (Value.int .u64)) Try.underlying28 (by kernel_rfl) (by simp [madeCells]) (by simpa using hl)
      (fun j u hu => by
        obtain ⟨ad', e, _, hc⟩ := hr.2 (by omega)
        injection e with e
        subst e
        exact hc j u hu) (by simp; omega) (fun u hu => by
        obtain ⟨x, _, rfl⟩ := List.mem_map.1 hu
        rfl)
    have e : goInt (n : Int) = .int .i64 n := rfl
    rw [e] at key
    simpa using key
  have HCP := hide hcp
  clear h2 h3 hci hl hcp
  go_enter Try.func79, Try.ntmps79
  go_wp2_with fail
  rw [HCP.out]
  clear hmk
  have B3 : ∀ o1 o2 b, Bk (((w.alloc o1).alloc o2).alloc (.cells b 46)) (w.heap.size + 1 + 1) 46 b := fun o1 o2 b => by simpa using Bk.new ((w.alloc o1).alloc o2) 46 b
  have B2 : ∀ o1 c2 o3, Bk (((w.alloc o1).alloc (.cells c2 55)).alloc o3) (w.heap.size + 1) 55 c2 := fun o1 c2 o3 => by simpa using (Bk.new (w.alloc o1) 55 c2).alloc o3
  have B1 : ∀ c1 o2 o3, Bk (((w.alloc (.cells c1 55)).alloc o2).alloc o3) w.heap.size 55 c1 := fun c1 o2 o3 => ((Bk.new w 55 c1).alloc o2).alloc o3
  have hbl : ∀ o1 o2 o3, Below w.heap.size w (((w.alloc o1).alloc o2).alloc o3) := fun o1 o2 o3 => ((below_new w o1).alloc (by simp) o2).alloc (by simp; omega) o3
  have k1 := B1 #[.int .i64 code, .int .i64 pc, .slice (some ad) n c, .slice B m d, .slice none 0 0] (.cells #[.int .i64 0, .int .i64 0, .slice none 0 0, .slice none 0 0, .slice none 0 0] 55) (.cells (ws.map (Value.int .u64)).toArray 46)
  have k2 := B2 (.cells #[.int .i64 code, .int .i64 pc, .slice (some ad) n c, .slice B m d, .slice none 0 0] 55) #[.int .i64 0, .int .i64 0, .slice none 0 0, .slice none 0 0, .slice none 0 0] (.cells (ws.map (Value.int .u64)).toArray 46)
  have k3 := B3 (.cells #[.int .i64 code, .int .i64 pc, .slice (some ad) n c, .slice B m d, .slice none 0 0] 55) (.cells #[.int .i64 0, .int .i64 0, .slice none 0 0, .slice none 0 0, .slice none 0 0] 55) (ws.map (Value.int .u64)).toArray
  have kb := hbl (.cells #[.int .i64 code, .int .i64 pc, .slice (some ad) n c, .slice B m d, .slice none 0 0] 55) (.cells #[.int .i64 0, .int .i64 0, .slice none 0 0, .slice none 0 0, .slice none 0 0] 55) (.cells (ws.map (Value.int .u64)).toArray 46)
  clear B1 B2 B3 hbl HCP
  generalize (((w.alloc (.cells #[.int .i64 code, .int .i64 pc, .slice (some ad) n c, .slice B m d, .slice none 0 0] 55)).alloc (.cells #[.int .i64 0, .int .i64 0, .slice none 0 0, .slice none 0 0, .slice none 0 0] 55)).alloc (.cells (ws.map (Value.int .u64)).toArray 46)) = w2 at k1 k2 k3 kb ⊢
  obtain ⟨c10, c11, c12, c13, c14, f1⟩ := bk5 k1
  obtain ⟨c20, c21, c22, c23, c24, f2⟩ := bk5 k2
  have f3 := k3.frozen i
  have c3 : w2.cell? ⟨w.heap.size + 1 + 1, i, none⟩ = some (.int .u64 (ws.getD i 0)) := by
    rw [k3.cell i]
    simp [List.getD, List.getElem?_eq_getElem hi]
  have K3 := hide (k3.set_ i (.int .u64 v))
  have KB := hide kb
  have HI3 := hide H3.out
  generalize ws.getD i 0 = x0 at c3
  clear k1 k2 k3 kb H2 H3
  go_wp2
  have KF : Below w.heap.size w (((((((w2.setCell ⟨w.heap.size + 1 + 1, i, none⟩ (.int .u64 v)).setCell ⟨w.heap.size, 2, none⟩ (.slice (some ⟨w.heap.size + 1 + 1, 0, none⟩) n n)).setCell ⟨w.heap.size + 1, 0, none⟩ (.int .i64 code)).setCell ⟨w.heap.size + 1, 1, none⟩ (.int .i64 pc)).setCell
      ⟨w.heap.size + 1, 2, none⟩ (.slice (some ⟨w.heap.size + 1 + 1, 0, none⟩) n n)).setCell ⟨w.heap.size + 1, 3, none⟩ (.slice B m d)).setCell ⟨w.heap.size + 1, 4, none⟩ (.slice none 0 0)) :=
    ((((((KB.out.setCell (by simp; omega) _).setCell (by simp) _).setCell (by simp) _).setCell (by simp) _).setCell (by simp) _).setCell (by simp) _).setCell (by simp) _
  have KW : IsI .u64 (w2.setCell ⟨w.heap.size + 1 + 1, i, none⟩ (.int .u64 v)) (some ⟨w.heap.size + 1 + 1, 0, none⟩) n (ws.set i v) := by
    have h0 := K3.out
    refine ⟨by simpa using HL.out, fun _ => ⟨_, rfl, h0.lt, fun j u hu => ?_⟩⟩
    have hadd : (⟨w.heap.size + 1 + 1, 0, none⟩ : Addr).add j = ⟨w.heap.size + 1 + 1, j, none⟩ := by unfold Addr.add; split <;> simp_all
    rw [hadd, h0.cell j]
    simpa using hu
  have hne : ∀ (p : Addr), p.block = w.heap.size ∨ p.block = w.heap.size + 1 → ∀ ad, (some (⟨w.heap.size + 1 + 1, 0, none⟩ : Addr)) = some ad → ad.block ≠ p.block := by
    intro p hp ad e
    injection e with e
    subst e
    show w.heap.size + 1 + 1 ≠ p.block
    omega
  have KW2 := ((((((Rds.far KW (hne ⟨w.heap.size, 2, none⟩ (.inl rfl)) (.slice (some ⟨w.heap.size + 1 + 1, 0, none⟩) n n)).far (hne ⟨w.heap.size + 1, 0, none⟩ (.inr rfl)) (.int .i64 code)).far (hne ⟨w.heap.size + 1, 1, none⟩ (.inr rfl)) (.int .i64 pc)).far
    (hne ⟨w.heap.size + 1, 2, none⟩ (.inr rfl)) (.slice (some ⟨w.heap.size + 1 + 1, 0, none⟩) n n)).far (hne ⟨w.heap.size + 1, 3, none⟩ (.inr rfl)) (.slice B m d)).far (hne ⟨w.heap.size + 1, 4, none⟩ (.inr rfl)) (.slice none 0 0))
  have KY := (((((K3.out.far (p := ⟨w.heap.size, 2, none⟩) (by simp; omega) (.slice (some ⟨w.heap.size + 1 + 1, 0, none⟩) n n)).far (p := ⟨w.heap.size + 1, 0, none⟩) (by simp) (.int .i64 code)).far (p := ⟨w.heap.size + 1, 1, none⟩) (by simp) (.int .i64 pc)).far (p := ⟨w.heap.size + 1, 2, none⟩) (by simp) (.slice (some ⟨w.heap.size + 1 + 1, 0, none⟩) n n)).far (p := ⟨w.heap.size + 1, 3, none⟩) (by simp) (.slice B m d)).far (p := ⟨w.heap.size + 1, 4, none⟩) (by simp) (.slice none 0 0)
  exact bodyPost_ret (v := .agg #[.int .i64 code, .int .i64 pc, .slice (some ⟨w.heap.size + 1 + 1, 0, none⟩) n n, .slice B m d, .slice none 0 0]) (by simp [results, Try.results79, go_sem, c20, c21, c22, c23, c24]) rfl
    ⟨_, rfl, ⟨_, _, _, _, _, _, rfl, KW2, HI3.out.below KF, hn, hm, TyA.bk KY 0 n, ht2.below KF⟩, KF⟩
end Go.Proofs.Ytadaoobdnnleaaa
