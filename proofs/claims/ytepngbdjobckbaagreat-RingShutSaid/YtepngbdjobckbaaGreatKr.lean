/- Rings in the plain: bounds of a frame's list; starts. -/
import Derived.Test.YtepngbdjobckbaaGreatR2
import Derived.Test.YtepngbdjobckbaaGreatG0
namespace Go.Proofs.YtepngbdjobckbaaGreat
open Go.RowKit
set_option linter.unusedVariables false
theorem rg_bd {l : List Int} (hc : Cap l) {k : Nat} (hk : k < l.length) : (1 ≤ sz (l.getD k 0) ∧ sz (l.getD k 0) ≤ 16) ∧ (0 ≤ tlN l k + 5 ∧ tlN l k + 5 ≤ 1000) ∧ (0 ≤ l.getD k 0 ∧ l.getD k 0 ≤ 16) := by
  have g := hc.at_ hk
  have t := hc.tl k (by omega)
  have h8 := hc.1
  exact ⟨sz_bd _ g.1 g.2, by omega, g⟩
set_option maxRecDepth 100000 in
theorem shutStart_any (w : World) (A : Option Addr) (n c : Nat) (l : List Int) (B : Option Addr) (m d : Nat) (t : Int) (h : Cf w A n l) (k : Nat) (hk : k < n) :
    Calls Tryz.prog 45 #[.agg #[.slice A n c, .slice B m d, .int .i64 t], .int .i64 k] w fun e w' => ∃ cs, e = .returned (.agg cs) ∧ Fr w' cs 0 1 [0] (rgL l k) ∧ Below w.heap.size w w' := by
  have HS := hide (fun o1 o2 => ringStart_any (((w.alloc o1).alloc o2).alloc (.cells ([0].map (Value.int .u64)).toArray 42)) A n c l B m d t (((h.alloc o1).alloc o2).alloc _) k hk 1 (some ⟨w.heap.size + 1 + 1, 0, none⟩) 1 1 [0] (by
    have q : IsI .u64 (((w.alloc o1).alloc o2).alloc (.cells ([0].map (Value.int .u64)).toArray 42)) (some ⟨((w.alloc o1).alloc o2).heap.size, 0, none⟩) 1 [0] := isI_bk (Bk.new ((w.alloc o1).alloc o2) 42 _)
    simpa using q) (TyA.bk (by simpa using Bk.new ((w.alloc o1).alloc o2) 42 ([0].map (Value.int .u64)).toArray) 0 1) (by omega))
  clear h
  go_enter Tryz.func45, Tryz.ntmps45
  go_wp2_with fail
  refine (HS.out _ _).mono ?_
  rintro e w2 ⟨cs, rfl, hf, hb⟩
  have kb : Below w.heap.size w w2 := ((((below_new w _).alloc (by simp) _).alloc (by simp; omega) _)).trans (hb.mono (by simp; omega))
  have k2 := (((by simpa using Bk.new (w.alloc (.cells #[.slice A n c, .slice B m d, .int .i64 t] 30)) 51 #[.int .i64 0, .int .i64 0, .slice none 0 0, .slice none 0 0, .slice none 0 0] : Bk ((w.alloc (.cells #[.slice A n c, .slice B m d, .int .i64 t] 30)).alloc (.cells #[.int .i64 0, .int .i64 0, .slice none 0 0, .slice none 0 0, .slice none 0 0] 51)) (w.heap.size + 1) 51 #[.int .i64 0, .int .i64 0, .slice none 0 0, .slice none 0 0, .slice none 0 0])).alloc (.cells ([0].map (Value.int .u64)).toArray 42)).below hb (by simp <;> omega)
  obtain ⟨FA, fn, fc, FB, fm, fd, rfl, -⟩ := id hf
  have HF := hide hf
  have KB := hide kb
  have K2 := hide k2
  have HT := hide (k2.there (n := 5) rfl)
  clear hb k2 kb hf
  go_wp2_with ((with_reducible show wpList _ _ _ _ _ _); refine wpList_store_res (by rfl) 51 _ _ (by rfl) (w.heap.size + 1) #[.int .i64 0, .int .i64 1, .slice FA fn fc, .slice FB fm fd, .slice none 0 0] (by rfl) (by rfl) HT.out Tryz.fr_inf (fr_one _ _ _ _ _ _ _ _ _ _ _) ?_; intro wz HZ)
  obtain ⟨fs, hfs⟩ := Tryz.fr_und
  exact ret_stored HZ Tryz.results45 rfl HT.out hfs rfl Tryz.fr_inf rfl ⟨_, rfl, Fr.stored HZ HF.out K2.out, below_stored HZ KB.out (by omega)⟩
set_option maxRecDepth 100000 in
theorem countStart_any (w : World) (A : Option Addr) (n c : Nat) (l : List Int) (B : Option Addr) (m d : Nat) (t : Int) (h : Cf w A n l) (k : Nat) (hk : k < n) :
    Calls Tryz.prog 46 #[.agg #[.slice A n c, .slice B m d, .int .i64 t], .int .i64 k] w fun e w' => ∃ cs, e = .returned (.agg cs) ∧ Fr w' cs 0 1 [0, 0] (rgL l k) ∧ Below w.heap.size w w' := by
  have HS := hide (fun o1 o2 => ringStart_any (((w.alloc o1).alloc o2).alloc (.cells ([0, 0].map (Value.int .u64)).toArray 42)) A n c l B m d t (((h.alloc o1).alloc o2).alloc _) k hk 1 (some ⟨w.heap.size + 1 + 1, 0, none⟩) 2 2 [0, 0] (by
    have q : IsI .u64 (((w.alloc o1).alloc o2).alloc (.cells ([0, 0].map (Value.int .u64)).toArray 42)) (some ⟨((w.alloc o1).alloc o2).heap.size, 0, none⟩) 2 [0, 0] := isI_bk (Bk.new ((w.alloc o1).alloc o2) 42 _)
    simpa using q) (TyA.bk (by simpa using Bk.new ((w.alloc o1).alloc o2) 42 ([0, 0].map (Value.int .u64)).toArray) 0 2) (by omega))
  clear h
  go_enter Tryz.func46, Tryz.ntmps46
  go_wp2_with fail
  refine (HS.out _ _).mono ?_
  rintro e w2 ⟨cs, rfl, hf, hb⟩
  have kb : Below w.heap.size w w2 := ((((below_new w _).alloc (by simp) _).alloc (by simp; omega) _)).trans (hb.mono (by simp; omega))
  have k2 := (((by simpa using Bk.new (w.alloc (.cells #[.slice A n c, .slice B m d, .int .i64 t] 30)) 51 #[.int .i64 0, .int .i64 0, .slice none 0 0, .slice none 0 0, .slice none 0 0] : Bk ((w.alloc (.cells #[.slice A n c, .slice B m d, .int .i64 t] 30)).alloc (.cells #[.int .i64 0, .int .i64 0, .slice none 0 0, .slice none 0 0, .slice none 0 0] 51)) (w.heap.size + 1) 51 #[.int .i64 0, .int .i64 0, .slice none 0 0, .slice none 0 0, .slice none 0 0])).alloc (.cells ([0, 0].map (Value.int .u64)).toArray 42)).below hb (by simp <;> omega)
  obtain ⟨FA, fn, fc, FB, fm, fd, rfl, -⟩ := id hf
  have HF := hide hf
  have KB := hide kb
  have K2 := hide k2
  have HT := hide (k2.there (n := 5) rfl)
  clear hb k2 kb hf
  go_wp2_with ((with_reducible show wpList _ _ _ _ _ _); refine wpList_store_res (by rfl) 51 _ _ (by rfl) (w.heap.size + 1) #[.int .i64 0, .int .i64 1, .slice FA fn fc, .slice FB fm fd, .slice none 0 0] (by rfl) (by rfl) HT.out Tryz.fr_inf (fr_one _ _ _ _ _ _ _ _ _ _ _) ?_; intro wz HZ)
  obtain ⟨fs, hfs⟩ := Tryz.fr_und
  exact ret_stored HZ Tryz.results46 rfl HT.out hfs rfl Tryz.fr_inf rfl ⟨_, rfl, Fr.stored HZ HF.out K2.out, below_stored HZ KB.out (by omega)⟩
set_option maxRecDepth 100000 in
theorem popStart_any (w : World) (A : Option Addr) (n c : Nat) (l : List Int) (B : Option Addr) (m d : Nat) (t : Int) (h : Cf w A n l) (k : Nat) (hk : k < n) :
    Calls Tryz.prog 44 #[.agg #[.slice A n c, .slice B m d, .int .i64 t], .int .i64 k] w fun e w' => ∃ cs, e = .returned (.agg cs) ∧ Fr w' cs 0 1 [0, 0, 0] (rgL l k) ∧ Below w.heap.size w w' := by
  have HS := hide (fun o1 o2 => ringStart_any (((w.alloc o1).alloc o2).alloc (.cells ([0, 0, 0].map (Value.int .u64)).toArray 42)) A n c l B m d t (((h.alloc o1).alloc o2).alloc _) k hk 1 (some ⟨w.heap.size + 1 + 1, 0, none⟩) 3 3 [0, 0, 0] (by
    have q : IsI .u64 (((w.alloc o1).alloc o2).alloc (.cells ([0, 0, 0].map (Value.int .u64)).toArray 42)) (some ⟨((w.alloc o1).alloc o2).heap.size, 0, none⟩) 3 [0, 0, 0] := isI_bk (Bk.new ((w.alloc o1).alloc o2) 42 _)
    simpa using q) (TyA.bk (by simpa using Bk.new ((w.alloc o1).alloc o2) 42 ([0, 0, 0].map (Value.int .u64)).toArray) 0 3) (by omega))
  clear h
  go_enter Tryz.func44, Tryz.ntmps44
  go_wp2_with fail
  refine (HS.out _ _).mono ?_
  rintro e w2 ⟨cs, rfl, hf, hb⟩
  have kb : Below w.heap.size w w2 := ((((below_new w _).alloc (by simp) _).alloc (by simp; omega) _)).trans (hb.mono (by simp; omega))
  have k2 := (((by simpa using Bk.new (w.alloc (.cells #[.slice A n c, .slice B m d, .int .i64 t] 30)) 51 #[.int .i64 0, .int .i64 0, .slice none 0 0, .slice none 0 0, .slice none 0 0] : Bk ((w.alloc (.cells #[.slice A n c, .slice B m d, .int .i64 t] 30)).alloc (.cells #[.int .i64 0, .int .i64 0, .slice none 0 0, .slice none 0 0, .slice none 0 0] 51)) (w.heap.size + 1) 51 #[.int .i64 0, .int .i64 0, .slice none 0 0, .slice none 0 0, .slice none 0 0])).alloc (.cells ([0, 0, 0].map (Value.int .u64)).toArray 42)).below hb (by simp <;> omega)
  obtain ⟨FA, fn, fc, FB, fm, fd, rfl, -⟩ := id hf
  have HF := hide hf
  have KB := hide kb
  have K2 := hide k2
  have HT := hide (k2.there (n := 5) rfl)
  clear hb k2 kb hf
  go_wp2_with ((with_reducible show wpList _ _ _ _ _ _); refine wpList_store_res (by rfl) 51 _ _ (by rfl) (w.heap.size + 1) #[.int .i64 0, .int .i64 1, .slice FA fn fc, .slice FB fm fd, .slice none 0 0] (by rfl) (by rfl) HT.out Tryz.fr_inf (fr_one _ _ _ _ _ _ _ _ _ _ _) ?_; intro wz HZ)
  obtain ⟨fs, hfs⟩ := Tryz.fr_und
  exact ret_stored HZ Tryz.results44 rfl HT.out hfs rfl Tryz.fr_inf rfl ⟨_, rfl, Fr.stored HZ HF.out K2.out, below_stored HZ KB.out (by omega)⟩
set_option maxRecDepth 100000 in
theorem pushStart_any (w : World) (A : Option Addr) (n c : Nat) (l : List Int) (B : Option Addr) (m d : Nat) (t : Int) (h : Cf w A n l) (k : Nat) (hk : k < n) (v : Int) :
    Calls Tryz.prog 43 #[.agg #[.slice A n c, .slice B m d, .int .i64 t], .int .i64 k, .int .u64 v] w fun e w' => ∃ cs, e = .returned (.agg cs) ∧ Fr w' cs 0 1 [0, v] (rgL l k) ∧ Below w.heap.size w w' := by
  have HS := hide (fun o1 o2 => ringStart_any (((w.alloc o1).alloc o2).alloc (.cells ([0, v].map (Value.int .u64)).toArray 42)) A n c l B m d t (((h.alloc o1).alloc o2).alloc _) k hk 1 (some ⟨w.heap.size + 1 + 1, 0, none⟩) 2 2 [0, v] (by
    have q : IsI .u64 (((w.alloc o1).alloc o2).alloc (.cells ([0, v].map (Value.int .u64)).toArray 42)) (some ⟨((w.alloc o1).alloc o2).heap.size, 0, none⟩) 2 [0, v] := isI_bk (Bk.new ((w.alloc o1).alloc o2) 42 _)
    simpa using q) (TyA.bk (by simpa using Bk.new ((w.alloc o1).alloc o2) 42 ([0, v].map (Value.int .u64)).toArray) 0 2) (by omega))
  clear h
  go_enter Tryz.func43, Tryz.ntmps43
  go_wp2_with fail
  refine (HS.out _ _).mono ?_
  rintro e w2 ⟨cs, rfl, hf, hb⟩
  have kb : Below w.heap.size w w2 := ((((below_new w _).alloc (by simp) _).alloc (by simp; omega) _)).trans (hb.mono (by simp; omega))
  have k2 := (((by simpa using Bk.new (w.alloc (.cells #[.slice A n c, .slice B m d, .int .i64 t] 30)) 51 #[.int .i64 0, .int .i64 0, .slice none 0 0, .slice none 0 0, .slice none 0 0] : Bk ((w.alloc (.cells #[.slice A n c, .slice B m d, .int .i64 t] 30)).alloc (.cells #[.int .i64 0, .int .i64 0, .slice none 0 0, .slice none 0 0, .slice none 0 0] 51)) (w.heap.size + 1) 51 #[.int .i64 0, .int .i64 0, .slice none 0 0, .slice none 0 0, .slice none 0 0])).alloc (.cells ([0, v].map (Value.int .u64)).toArray 42)).below hb (by simp <;> omega)
  obtain ⟨FA, fn, fc, FB, fm, fd, rfl, -⟩ := id hf
  have HF := hide hf
  have KB := hide kb
  have K2 := hide k2
  have HT := hide (k2.there (n := 5) rfl)
  clear hb k2 kb hf
  go_wp2_with ((with_reducible show wpList _ _ _ _ _ _); refine wpList_store_res (by rfl) 51 _ _ (by rfl) (w.heap.size + 1) #[.int .i64 0, .int .i64 1, .slice FA fn fc, .slice FB fm fd, .slice none 0 0] (by rfl) (by rfl) HT.out Tryz.fr_inf (fr_one _ _ _ _ _ _ _ _ _ _ _) ?_; intro wz HZ)
  obtain ⟨fs, hfs⟩ := Tryz.fr_und
  exact ret_stored HZ Tryz.results43 rfl HT.out hfs rfl Tryz.fr_inf rfl ⟨_, rfl, Fr.stored HZ HF.out K2.out, below_stored HZ KB.out (by omega)⟩
end Go.Proofs.YtepngbdjobckbaaGreat
