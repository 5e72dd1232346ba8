/- Contracts: the machines of a lock (lock). -/
import Derived.Test.YtadaoobdnnleaaaF2
import Derived.Test.YtadaoobdnnleaaaM
import Derived.Test.YtadaoobdnnleaaaR
import Derived.Test.YtadaoobdnnleaaaV
import Derived.Test.YtadaoobdnnleaaaP
namespace Go.Proofs.Ytadaoobdnnleaaa
open Go.RowKit
set_option linter.unusedVariables false

theorem Try.fr_und : ∃ fs, Try.prog.underlying 55 = some (.struct fs) := ⟨_, Try.underlying55⟩
theorem Try.fr_inf : (Try.prog.info? 55).map (·.size) = some 5 := by kernel_rfl
theorem fr_one (a b : Int) (A : Option Addr) (n c : Nat) (B : Option Addr) (m d : Nat) (D : Option Addr) (p e : Nat) : (#[.int .i64 a, .int .i64 b, .slice A n c, .slice B m d, .slice D p e] : Array Value).all (·.oneCell') = true := by
  refine all_oneCell_toArray (cs := [_, _, _, _, _]) fun v hv => ?_
  simp only [List.mem_cons, List.not_mem_nil, or_false] at hv
  rcases hv with rfl | rfl | rfl | rfl | rfl <;> rfl
theorem isI_stored {w wz : World} {k : IntKind} {g : Nat} {vs : List Value} {ad : Addr} {n : Nat} {l : List Int} (hw : Hid (wz = w.setCells g 0 vs)) (h : IsI k w (some ad) n l) (hne : ad.block ≠ g) : IsI k wz (some ad) n l := by
  have hw := hw.out
  subst hw
  refine ⟨h.1, fun hn => ?_⟩
  obtain ⟨ad', h1, h2, h3⟩ := h.2 hn
  cases h1
  exact ⟨_, rfl, Nat.lt_of_lt_of_le h2 (below_setCells vs 0 (Below.refl g w) (Nat.le_refl g)).size, fun j v hv => by
    rw [World.cell?_setCells_out g vs 0 w (ad.add j) (fun hb _ => absurd (by rwa [block_add] at hb) hne)]
    exact h3 j v hv⟩
theorem bk_setCells {g g' : Nat} {t : TypeId} (vs : List Value) : ∀ (o : Nat) {w : World} {xs : Array Value}, Bk w g t xs → ∃ ys, Bk (w.setCells g' o vs) g t ys := by
  induction vs with
  | nil => intro o w xs h; exact ⟨xs, h⟩
  | cons v r ih =>
    intro o w xs h
    by_cases e : g = g'
    · subst e
      exact ih (o + 1) (h.set_ o v)
    · exact ih (o + 1) (h.far (p := ⟨g', o, none⟩) e v)
theorem tyA_stored {w wz : World} {g : Nat} {vs : List Value} {A : Option Addr} {n : Nat} {t : TypeId} (hw : Hid (wz = w.setCells g 0 vs)) (h : TyA w A n t) : TyA wz A n t := by
  have hw := hw.out
  subst hw
  intro hn
  obtain ⟨ad, xs, e, k⟩ := h hn
  obtain ⟨ys, k'⟩ := bk_setCells (g' := g) vs 0 k
  exact ⟨ad, ys, e, k'⟩
/-- A frame, seen again behind a store into a frame's block. -/
theorem Fr.stored {w wz : World} {g : Nat} {vs : List Value} {cs xs : Array Value} {code pc : Int} {ws ls : List Int} (hw : Hid (wz = w.setCells g 0 vs)) (h : Fr w cs code pc ws ls) (k : Bk w g 55 xs) : Fr wz cs code pc ws ls := by
  obtain ⟨A, n, c, B, m, d, e, h1, h2, h3, h4, h5, h6⟩ := h
  refine ⟨A, n, c, B, m, d, e, ?_, ?_, h3, h4, tyA_stored hw h5, tyA_stored hw h6⟩
  · by_cases hn : 0 < n
    · obtain ⟨ad, rfl, -⟩ := h1.2 hn
      exact isI_stored hw h1 (h5.ne k (by decide) hn _ rfl)
    · exact ⟨h1.1, fun h => absurd h hn⟩
  · by_cases hn : 0 < m
    · obtain ⟨ad, rfl, -⟩ := h2.2 hn
      exact isI_stored hw h2 (h6.ne k (by decide) hn _ rfl)
    · exact ⟨h2.1, fun h => absurd h hn⟩
set_option maxRecDepth 100000 in
theorem lockStart_any (w : World) (A : Option Addr) (n c : Nat) (l : List Int) (B : Option Addr) (m d : Nat) (t : Int) (h : Cf w A n l) (k : Nat) (hk : k ≤ n) (pc : Int) :
    Calls Try.prog 55 #[.agg #[.slice A n c, .slice B m d, .int .i64 t], .int .i64 k, .int .i64 pc] w fun e w' => ∃ cs, e = .returned (.agg cs) ∧ Fr w' cs 0 pc [] [tlN l k + 2] ∧ Below w.heap.size w w' := by
  have hs : ∀ o1 o2, Calls Try.prog 87 #[.agg #[.slice A n c, .slice B m d, .int .i64 t], .int .i64 k] ((w.alloc o1).alloc o2) fun e w' => e = .returned (.int .i64 (tlN l k + 2)) ∧ Below ((w.alloc o1).alloc o2).heap.size ((w.alloc o1).alloc o2) w' := fun o1 o2 => llock_any _ A n c l B m d t ((h.alloc o1).alloc o2) k hk
  generalize tlN l k + 2 = p at hs ⊢
  have HS := hide hs
  clear h hs
  go_enter Try.func55, Try.ntmps55
  go_wp2_with fail
  refine (HS.out _ _).mono ?_
  rintro e w2 ⟨rfl, hb⟩
  obtain ⟨k2, kb⟩ := at_second hb
  have KB := hide kb
  have HT := hide ((k2.alloc (.cells #[.int .i64 p] 3)).there (n := 5) rfl)
  have hlt := hide k2.lt
  clear hb k2 kb
  go_wp2_with ((with_reducible show wpList _ _ _ _ _ _); refine wpList_store_res (by rfl) 55 _ _ (by rfl) (w.heap.size + 1) #[.int .i64 0, .int .i64 pc, .slice none 0 0, .slice (some ⟨w2.heap.size, 0, none⟩) 1 1, .slice none 0 0] (by rfl) (by rfl) HT.out Try.fr_inf (fr_one _ _ _ _ _ _ _ _ _ _ _) ?_; intro wz HZ)
  have hfs := Try.fr_und
  obtain ⟨fs, hfs⟩ := hfs
  exact ret_stored HZ Try.results55 rfl HT.out hfs rfl Try.fr_inf rfl ⟨_, rfl, ⟨_, _, _, _, _, _, rfl, IsI.nil _ _ _, isI_stored HZ (isI_one (w := w2) p) (by have := hlt.out; show w2.heap.size ≠ w.heap.size + 1; omega), by omega, by omega, TyA.nil _ _ _, tyA_stored HZ (TyA.bk (by simpa using Bk.new w2 3 _) 0 1)⟩, below_stored HZ (KB.out.alloc KB.out.size _) (by omega)⟩
theorem lockTake_any (w : World) (A : Option Addr) (n c : Nat) (l : List Int) (B : Option Addr) (m d : Nat) (t : Int) (h : Cf w A n l) (k : Nat) (hk : k ≤ n) :
    Calls Try.prog 25 #[.agg #[.slice A n c, .slice B m d, .int .i64 t], .int .i64 k] w fun e w' => ∃ cs, e = .returned (.agg cs) ∧ Fr w' cs 0 0 [] [tlN l k + 2] ∧ Below w.heap.size w w' := by
  have hs : ∀ o1 o2, Calls Try.prog 55 #[.agg #[.slice A n c, .slice B m d, .int .i64 t], .int .i64 k, .int .i64 0] ((w.alloc o1).alloc o2) fun e w' => ∃ cs, e = .returned (.agg cs) ∧ Fr w' cs 0 0 [] [tlN l k + 2] ∧ Below ((w.alloc o1).alloc o2).heap.size ((w.alloc o1).alloc o2) w' := fun o1 o2 => lockStart_any _ A n c l B m d t ((h.alloc o1).alloc o2) k hk 0
  generalize tlN l k + 2 = p at hs ⊢
  have HS := hide hs
  clear h hs
  go_enter Try.func25, Try.ntmps25
  go_wp2_with fail
  refine (HS.out _ _).mono ?_
  rintro e w2 ⟨cs, rfl, hf, hb⟩
  obtain ⟨k2, kb⟩ := at_second hb
  obtain ⟨FA, fn, fc, FB, fm, fd, rfl, -⟩ := id hf
  have HF := hide hf
  have KB := hide kb
  have K2 := hide k2
  have HT := hide (k2.there (n := 5) rfl)
  clear hb k2 kb hf
  go_wp2_with ((with_reducible show wpList _ _ _ _ _ _); refine wpList_store_res (by rfl) 55 _ _ (by rfl) (w.heap.size + 1) #[.int .i64 0, .int .i64 0, .slice FA fn fc, .slice FB fm fd, .slice none 0 0] (by rfl) (by rfl) HT.out Try.fr_inf (fr_one _ _ _ _ _ _ _ _ _ _ _) ?_; intro wz HZ)
  obtain ⟨fs, hfs⟩ := Try.fr_und
  exact ret_stored HZ Try.results25 rfl HT.out hfs rfl Try.fr_inf rfl ⟨_, rfl, Fr.stored HZ HF.out K2.out, below_stored HZ KB.out (by omega)⟩
theorem lockRelease_any (w : World) (A : Option Addr) (n c : Nat) (l : List Int) (B : Option Addr) (m d : Nat) (t : Int) (h : Cf w A n l) (k : Nat) (hk : k ≤ n) :
    Calls Try.prog 23 #[.agg #[.slice A n c, .slice B m d, .int .i64 t], .int .i64 k] w fun e w' => ∃ cs, e = .returned (.agg cs) ∧ Fr w' cs 0 1 [] [tlN l k + 2] ∧ Below w.heap.size w w' := by
  have hs : ∀ o1 o2, Calls Try.prog 55 #[.agg #[.slice A n c, .slice B m d, .int .i64 t], .int .i64 k, .int .i64 1] ((w.alloc o1).alloc o2) fun e w' => ∃ cs, e = .returned (.agg cs) ∧ Fr w' cs 0 1 [] [tlN l k + 2] ∧ Below ((w.alloc o1).alloc o2).heap.size ((w.alloc o1).alloc o2) w' := fun o1 o2 => lockStart_any _ A n c l B m d t ((h.alloc o1).alloc o2) k hk 1
  generalize tlN l k + 2 = p at hs ⊢
  have HS := hide hs
  clear h hs
  go_enter Try.func23, Try.ntmps23
  go_wp2_with fail
  refine (HS.out _ _).mono ?_
  rintro e w2 ⟨cs, rfl, hf, hb⟩
  obtain ⟨k2, kb⟩ := at_second hb
  obtain ⟨FA, fn, fc, FB, fm, fd, rfl, -⟩ := id hf
  have HF := hide hf
  have KB := hide kb
  have K2 := hide k2
  have HT := hide (k2.there (n := 5) rfl)
  clear hb k2 kb hf
  go_wp2_with ((with_reducible show wpList _ _ _ _ _ _); refine wpList_store_res (by rfl) 55 _ _ (by rfl) (w.heap.size + 1) #[.int .i64 0, .int .i64 1, .slice FA fn fc, .slice FB fm fd, .slice none 0 0] (by rfl) (by rfl) HT.out Try.fr_inf (fr_one _ _ _ _ _ _ _ _ _ _ _) ?_; intro wz HZ)
  obtain ⟨fs, hfs⟩ := Try.fr_und
  exact ret_stored HZ Try.results23 rfl HT.out hfs rfl Try.fr_inf rfl ⟨_, rfl, Fr.stored HZ HF.out K2.out, below_stored HZ KB.out (by omega)⟩
theorem lockNext_0 (w : World) (cs : Array Value) (p : Int) (ws : List Int) (h : Fr w cs 0 0 ws [p]) :
    Calls Try.prog 28 #[.agg cs] w fun e w' => e = .returned (.agg (Acc.cells ⟨3, p, 0, 1⟩)) ∧ Below w.heap.size w w' := by
  obtain ⟨A, n, c, B, m, d, rfl, hh⟩ := id h
  have HS : Hid (∀ o1 o2, Calls Try.prog 60 #[.agg #[.int .i64 0, .int .i64 0, .slice A n c, .slice B m d, .slice none 0 0], .int .i64 0] ((w.alloc o1).alloc o2) fun e w' => e = .returned (.int .i64 p) ∧ Below ((w.alloc o1).alloc o2).heap.size ((w.alloc o1).alloc o2) w') := fun o1 o2 => int_any _ _ 0 0 ws [p] ((h.below (below_new w o1)).below (below_new _ o2)) 0 (by omega)
  clear h hh
  go_enter Try.func28, Try.ntmps28
  go_wp2_with fail
  refine (HS.out _ _).mono ?_
  rintro e w2 ⟨rfl, hb⟩
  obtain ⟨k2, kb⟩ := at_second hb
  have KB := hide kb
  have HT := hide (k2.there (n := 5) rfl)
  clear hb k2 kb
  go_wp2_with ((with_reducible show wpList _ _ _ _ _ _); refine wpList_store_res (by rfl) 65 _ _ (by rfl) (w.heap.size + 1) (Acc.cells ⟨3, p, 0, 1⟩) (by rfl) (by rfl) HT.out Try.ac_inf (ac_one _) ?_; intro wz HZ)
  obtain ⟨fs, hfs⟩ := Try.ac_und
  exact ret_stored HZ Try.results28 rfl HT.out hfs rfl Try.ac_inf rfl ⟨rfl, below_stored HZ KB.out (by omega)⟩
theorem lockNext_1 (w : World) (cs : Array Value) (p : Int) (ws : List Int) (h : Fr w cs 0 1 ws [p]) :
    Calls Try.prog 28 #[.agg cs] w fun e w' => e = .returned (.agg (Acc.cells ⟨2, p, 0, 0⟩)) ∧ Below w.heap.size w w' := by
  obtain ⟨A, n, c, B, m, d, rfl, hh⟩ := id h
  have HS : Hid (∀ o1 o2, Calls Try.prog 60 #[.agg #[.int .i64 0, .int .i64 1, .slice A n c, .slice B m d, .slice none 0 0], .int .i64 0] ((w.alloc o1).alloc o2) fun e w' => e = .returned (.int .i64 p) ∧ Below ((w.alloc o1).alloc o2).heap.size ((w.alloc o1).alloc o2) w') := fun o1 o2 => int_any _ _ 0 1 ws [p] ((h.below (below_new w o1)).below (below_new _ o2)) 0 (by omega)
  clear h hh
  go_enter Try.func28, Try.ntmps28
  go_wp2_with fail
  refine (HS.out _ _).mono ?_
  rintro e w2 ⟨rfl, hb⟩
  obtain ⟨k2, kb⟩ := at_second hb
  have KB := hide kb
  have HT := hide (k2.there (n := 5) rfl)
  clear hb k2 kb
  go_wp2_with ((with_reducible show wpList _ _ _ _ _ _); refine wpList_store_res (by rfl) 65 _ _ (by rfl) (w.heap.size + 1) (Acc.cells ⟨2, p, 0, 0⟩) (by rfl) (by rfl) HT.out Try.ac_inf (ac_one _) ?_; intro wz HZ)
  obtain ⟨fs, hfs⟩ := Try.ac_und
  exact ret_stored HZ Try.results28 rfl HT.out hfs rfl Try.ac_inf rfl ⟨rfl, below_stored HZ KB.out (by omega)⟩
theorem lockNext_e (w : World) (cs : Array Value) (ws ls : List Int) (code : Int) (h : Fr w cs code (-1) ws ls) :
    Calls Try.prog 28 #[.agg cs] w fun e w' => e = .returned (.agg (Acc.cells ⟨0, 0, 0, 0⟩)) ∧ Below w.heap.size w w' := by
  obtain ⟨A, n, c, B, m, d, rfl, hh⟩ := id h
  clear h hh
  go_enter Try.func28, Try.ntmps28
  go_wp2
  exact bodyPost_ret (v := .agg #[.int .i64 0, .int .i64 0, .int .u64 0, .int .u64 0, .int .i64 0]) (by simp [results, Try.results28, go_sem]) rfl
    ⟨rfl, (by first | exact (below_new _ _).alloc (by simp) _ | exact ((below_new _ _).alloc (by simp) _).alloc (by simp; omega) _)⟩
theorem lockResume_stay (w : World) (cs : Array Value) (code pc v : Int) (ws ls : List Int) (ok lt : Bool) (D : Option Addr) (ln lc : Nat) (h : Fr w cs code pc ws ls) (hp : pc = -1 ∨ pc = 0 ∧ ok = false) :
    Calls Try.prog 27 #[.agg cs, .agg #[.int .u64 v, .bool ok, .bool lt, .slice D ln lc]] w fun e w' => e = .returned (.agg cs) ∧ Below w.heap.size w w' := by
  obtain ⟨A, n, c, B, m, d, rfl, hh⟩ := id h
  clear h hh
  rcases hp with rfl | ⟨rfl, rfl⟩
  · go_enter Try.func27, Try.ntmps27
    go_wp2
    apply wp_scope_n 1
    go_wp2
    (go_step3; refine JQ_goto _ (by rfl) ?_)
    go_wp2
    exact bodyPost_ret (v := .agg #[.int .i64 code, .int .i64 (-1), .slice A n c, .slice B m d, .slice none 0 0]) (by simp [results, Try.results27, go_sem]) rfl
      ⟨rfl, (by first | exact (below_new _ _).alloc (by simp) _ | exact ((below_new _ _).alloc (by simp) _).alloc (by simp; omega) _)⟩
  · go_enter Try.func27, Try.ntmps27
    go_wp2
    apply wp_scope_n 1
    go_wp2
    (go_step3; refine JQ_goto _ (by rfl) ?_)
    go_wp2
    exact bodyPost_ret (v := .agg #[.int .i64 code, .int .i64 0, .slice A n c, .slice B m d, .slice none 0 0]) (by simp [results, Try.results27, go_sem]) rfl
      ⟨rfl, (by first | exact (below_new _ _).alloc (by simp) _ | exact ((below_new _ _).alloc (by simp) _).alloc (by simp; omega) _)⟩
theorem lockResume_done (w : World) (cs : Array Value) (code pc v : Int) (ws ls : List Int) (ok lt : Bool) (D : Option Addr) (ln lc : Nat) (h : Fr w cs code pc ws ls) (hp : pc = 1 ∨ pc = 0 ∧ ok = true) :
    Calls Try.prog 27 #[.agg cs, .agg #[.int .u64 v, .bool ok, .bool lt, .slice D ln lc]] w fun e w' => ∃ cs', e = .returned (.agg cs') ∧ Fr w' cs' 1 (-1) [0] [] ∧ Below w.heap.size w w' := by
  obtain ⟨A, n, c, B, m, d, rfl, hh⟩ := id h
  clear h hh
  rcases hp with rfl | ⟨rfl, rfl⟩
  all_goals
    go_enter Try.func27, Try.ntmps27
    go_wp2
    apply wp_scope_n 1
    go_wp2_with fail
    refine (done_any _ _ _).mono ?_
    rintro e w2 ⟨cs, rfl, hf, hb⟩
    obtain ⟨k2, kb⟩ := at_third hb
    obtain ⟨FA, fn, fc, FB, fm, fd, rfl, -⟩ := id hf
    have HF := hide hf
    have KB := hide kb
    have K2 := hide k2
    have HT := hide (k2.there (n := 5) rfl)
    clear hb k2 kb hf
    go_wp2_with ((with_reducible show wpList _ _ _ _ _ _); refine wpList_store_res (by rfl) 55 _ _ (by rfl) (w.heap.size + 1 + 1) #[.int .i64 1, .int .i64 (-1), .slice FA fn fc, .slice FB fm fd, .slice none 0 0] (by rfl) (by rfl) HT.out Try.fr_inf (fr_one _ _ _ _ _ _ _ _ _ _ _) ?_; intro wz HZ)
    obtain ⟨fs, hfs⟩ := Try.fr_und
    exact ret_stored HZ Try.results27 rfl HT.out hfs rfl Try.fr_inf rfl ⟨_, rfl, Fr.stored HZ HF.out K2.out, below_stored HZ KB.out (by omega)⟩
end Go.Proofs.Ytadaoobdnnleaaa
