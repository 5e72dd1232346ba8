/- Contracts: the machines of a claim (claim). -/
import Derived.Test.YtadaoobdnnleaaaGF
import Derived.Test.YtadaoobdnnleaaaP
import Derived.Deep.RegionHeld3
import Derived.Deep.RegionLaw
import Derived.Deep.DeepCutAuto
import Derived.Deep.DrawnRows
namespace Go.Proofs.Ytadaoobdnnleaaa
open Go.RowKit
set_option linter.unusedVariables false

/-- The words of a thread. -/
def clL (p : Int) : List Int := [p, p + 1, p + 2, p + 3, p + 4]
set_option maxHeartbeats 2000000 in
set_option maxRecDepth 100000 in
theorem claimStart_any (w : World) (A : Option Addr) (n c : Nat) (l : List Int) (B : Option Addr) (m d : Nat) (t : Int) (h : Cf w A n l) (k : Nat) (hk : k ≤ 8) (pc : Int) (WA : Option Addr) (wn wc : Nat) (ws : List Int) (hw : IsI .u64 w WA wn ws) (hwt : TyA w WA wn 46) (hwn : wn ≤ 1000) (p : Int) (hp : tlN l n + k * 11 = p) :
    Calls Try.prog 119 #[.agg #[.slice A n c, .slice B m d, .int .i64 t], .int .i64 k, .int .i64 pc, .slice WA wn wc] w fun e w' => ∃ cs, e = .returned (.agg cs) ∧ Fr w' cs 0 pc ws (clL p) ∧ Below w.heap.size w w' := by
  have Q0 := hide (fun W (hW : Below w.heap.size w W) => show Calls Try.prog 123 #[.agg #[.slice A n c, .slice B m d, .int .i64 t], .int .i64 k] W fun e w' => e = .returned (.int .i64 p) ∧ Below W.heap.size W w' by
    have q := lclaim_any W A n c l B m d t (h.below hW) k hk
    rwa [hp, Int.add_zero] at q)
  have Q1 := hide (fun W (hW : Below w.heap.size w W) => show Calls Try.prog 124 #[.agg #[.slice A n c, .slice B m d, .int .i64 t], .int .i64 k] W fun e w' => e = .returned (.int .i64 (p + 1)) ∧ Below W.heap.size W w' by
    have q := lflag_any W A n c l B m d t (h.below hW) k hk
    rwa [hp] at q)
  have Q2 := hide (fun W (hW : Below w.heap.size w W) => show Calls Try.prog 125 #[.agg #[.slice A n c, .slice B m d, .int .i64 t], .int .i64 k] W fun e w' => e = .returned (.int .i64 (p + 2)) ∧ Below W.heap.size W w' by
    have q := lkind_any W A n c l B m d t (h.below hW) k hk
    rwa [hp] at q)
  have Q3 := hide (fun W (hW : Below w.heap.size w W) => show Calls Try.prog 126 #[.agg #[.slice A n c, .slice B m d, .int .i64 t], .int .i64 k] W fun e w' => e = .returned (.int .i64 (p + 3)) ∧ Below W.heap.size W w' by
    have q := lcase_any W A n c l B m d t (h.below hW) k hk
    rwa [hp] at q)
  have Q4 := hide (fun W (hW : Below w.heap.size w W) => show Calls Try.prog 127 #[.agg #[.slice A n c, .slice B m d, .int .i64 t], .int .i64 k] W fun e w' => e = .returned (.int .i64 (p + 4)) ∧ Below W.heap.size W w' by
    have q := lvalue_any W A n c l B m d t (h.below hW) k hk
    rwa [hp] at q)
  have B1 := hide (show Bk ((w.alloc (.cells #[.slice A n c, .slice B m d, .int .i64 t] 30)).alloc (.cells #[.int .i64 0, .int .i64 0, .slice none 0 0, .slice none 0 0, .slice none 0 0] 55)) w.heap.size 30 #[.slice A n c, .slice B m d, .int .i64 t] from (Bk.new _ _ _).alloc _)
  have B2 := hide (show Bk ((w.alloc (.cells #[.slice A n c, .slice B m d, .int .i64 t] 30)).alloc (.cells #[.int .i64 0, .int .i64 0, .slice none 0 0, .slice none 0 0, .slice none 0 0] 55)) (w.heap.size + 1) 55 #[.int .i64 0, .int .i64 0, .slice none 0 0, .slice none 0 0, .slice none 0 0] by
    simpa using Bk.new (w.alloc (.cells #[.slice A n c, .slice B m d, .int .i64 t] 30)) 55 #[.int .i64 0, .int .i64 0, .slice none 0 0, .slice none 0 0, .slice none 0 0])
  have HU := hide ((below_new w (.cells #[.slice A n c, .slice B m d, .int .i64 t] 30)).alloc (by simp) (.cells #[.int .i64 0, .int .i64 0, .slice none 0 0, .slice none 0 0, .slice none 0 0] 55))
  have HW := hide hw
  have HWT := hide hwt
  clear h hp hw hwt
  go_enter Try.func119, Try.ntmps119
  go_upto_region 1 with fail
  have hsz : w.heap.size + 1 < ((w.alloc (.cells #[.slice A n c, .slice B m d, .int .i64 t] 30)).alloc (.cells #[.int .i64 0, .int .i64 0, .slice none 0 0, .slice none 0 0, .slice none 0 0] 55)).heap.size := B2.out.lt
  generalize ((w.alloc (.cells #[.slice A n c, .slice B m d, .int .i64 t] 30)).alloc (.cells #[.int .i64 0, .int .i64 0, .slice none 0 0, .slice none 0 0, .slice none 0 0] 55)) = w1 at *
  obtain ⟨k0, k1, k2, -⟩ := bk3 B1.out
  have HYX : Hid (Below w1.heap.size w1 w1.drew) := hide (Below.refl w1.heap.size w1).drew
  have hle : w.heap.size ≤ w1.heap.size := by omega
  go_region_held3 (fun u => u.cell? ⟨w.heap.size, 0, none⟩ = some (.slice A n c) ∧ u.cell? ⟨w.heap.size, 1, none⟩ = some (.slice B m d) ∧ u.cell? ⟨w.heap.size, 2, none⟩ = some (.int .i64 t)) (go_keep) (first
    | (go_at_call 127; refine (Q4.out _ (HU.out.trans (HY3.out.mono hle))).mono ?_; rintro e v5 ⟨rfl, hb⟩; have HY4 := hide (HY3.out.trans (hb.mono HY3.out.size)); obtain ⟨k0, k1, k2, -⟩ := bk3 (B1.out.below HY4.out B1.out.lt); obtain ⟨e0, e1, e2, e3, e4, ef⟩ := bk5 ((B2.out.below HY4.out B2.out.lt).alloc (.cells #[.int .i64 p, .int .i64 (p + 1), .int .i64 (p + 2), .int .i64 (p + 3), .int .i64 (p + 4)] 3)); have n1 : w.heap.size + 1 ≠ v5.heap.size := (by have := HY4.out.size; omega); have n2 := Ne.symm n1; clear hb)
    | (go_at_call 126; refine (Q3.out _ (HU.out.trans (HY2.out.mono hle))).mono ?_; rintro e v4 ⟨rfl, hb⟩; have HY3 := hide (HY2.out.trans (hb.mono HY2.out.size)); obtain ⟨k0, k1, k2, -⟩ := bk3 (B1.out.below HY3.out B1.out.lt); obtain ⟨e0, e1, e2, e3, e4, ef⟩ := bk5 ((B2.out.below HY3.out B2.out.lt).alloc (.cells #[.int .i64 p, .int .i64 (p + 1), .int .i64 (p + 2), .int .i64 (p + 3), .int .i64 (p + 4)] 3)); have n1 : w.heap.size + 1 ≠ v4.heap.size := (by have := HY3.out.size; omega); have n2 := Ne.symm n1; clear hb)
    | (go_at_call 125; refine (Q2.out _ (HU.out.trans (HY1.out.mono hle))).mono ?_; rintro e v3 ⟨rfl, hb⟩; have HY2 := hide (HY1.out.trans (hb.mono HY1.out.size)); obtain ⟨k0, k1, k2, -⟩ := bk3 (B1.out.below HY2.out B1.out.lt); obtain ⟨e0, e1, e2, e3, e4, ef⟩ := bk5 ((B2.out.below HY2.out B2.out.lt).alloc (.cells #[.int .i64 p, .int .i64 (p + 1), .int .i64 (p + 2), .int .i64 (p + 3), .int .i64 (p + 4)] 3)); have n1 : w.heap.size + 1 ≠ v3.heap.size := (by have := HY2.out.size; omega); have n2 := Ne.symm n1; clear hb)
    | (go_at_call 124; refine (Q1.out _ (HU.out.trans (HY0.out.mono hle))).mono ?_; rintro e v2 ⟨rfl, hb⟩; have HY1 := hide (HY0.out.trans (hb.mono HY0.out.size)); obtain ⟨k0, k1, k2, -⟩ := bk3 (B1.out.below HY1.out B1.out.lt); obtain ⟨e0, e1, e2, e3, e4, ef⟩ := bk5 ((B2.out.below HY1.out B2.out.lt).alloc (.cells #[.int .i64 p, .int .i64 (p + 1), .int .i64 (p + 2), .int .i64 (p + 3), .int .i64 (p + 4)] 3)); have n1 : w.heap.size + 1 ≠ v2.heap.size := (by have := HY1.out.size; omega); have n2 := Ne.symm n1; clear hb)
    | (go_at_call 123; refine (Q0.out _ (HU.out.trans (HYX.out.mono hle))).mono ?_; rintro e v1 ⟨rfl, hb⟩; have HY0 := hide (HYX.out.trans (hb.mono HYX.out.size)); obtain ⟨k0, k1, k2, -⟩ := bk3 (B1.out.below HY0.out B1.out.lt); obtain ⟨e0, e1, e2, e3, e4, ef⟩ := bk5 ((B2.out.below HY0.out B2.out.lt).alloc (.cells #[.int .i64 p, .int .i64 (p + 1), .int .i64 (p + 2), .int .i64 (p + 3), .int .i64 (p + 4)] 3)); have n1 : w.heap.size + 1 ≠ v1.heap.size := (by have := HY0.out.size; omega); have n2 := Ne.symm n1; clear hb)
    | fail)
  all_goals
    have KU := hide (HU.out.trans (HY4.out.mono hle))
    have K2 := hide (B2.out.below HY4.out B2.out.lt)
    clear k0 k1 k2 Q0 Q1 Q2 Q3 Q4
    have HT := hide ((K2.out.alloc (.cells #[.int .i64 p, .int .i64 (p + 1), .int .i64 (p + 2), .int .i64 (p + 3), .int .i64 (p + 4)] 3)).there (n := 5) rfl)
    have HF : Hid (Fr (v5.alloc (.cells #[.int .i64 p, .int .i64 (p + 1), .int .i64 (p + 2), .int .i64 (p + 3), .int .i64 (p + 4)] 3)) #[.int .i64 0, .int .i64 pc, .slice WA wn wc, .slice (some ⟨v5.heap.size, 0, none⟩) 5 5, .slice none 0 0] 0 pc ws (clL p)) :=
      hide ⟨_, _, _, _, _, _, rfl, (HW.out.below KU.out).alloc _, ⟨rfl, fun _ => ⟨_, rfl, by simp, cells_new v5 [.int .i64 p, .int .i64 (p + 1), .int .i64 (p + 2), .int .i64 (p + 3), .int .i64 (p + 4)] 3⟩⟩, hwn, by omega, (HWT.out.below KU.out).alloc _, TyA.bk (by simpa using Bk.new v5 3 _) 0 5⟩
    go_wp2_with fail
    obtain ⟨fs, hfs⟩ := Try.fr_und
    have HZ : Hid (_ = (v5.alloc (.cells #[.int .i64 p, .int .i64 (p + 1), .int .i64 (p + 2), .int .i64 (p + 3), .int .i64 (p + 4)] 3)).setCells (w.heap.size + 1) 0 (#[.int .i64 0, .int .i64 pc, .slice WA wn wc, .slice (some ⟨v5.heap.size, 0, none⟩) 5 5, .slice none 0 0] : Array Value).toList) := hide rfl
    exact ret_stored (hide rfl : Hid (_ = (v5.alloc (.cells #[.int .i64 p, .int .i64 (p + 1), .int .i64 (p + 2), .int .i64 (p + 3), .int .i64 (p + 4)] 3)).setCells (w.heap.size + 1) 0 (#[.int .i64 0, .int .i64 pc, .slice WA wn wc, .slice (some ⟨v5.heap.size, 0, none⟩) 5 5, .slice none 0 0] : Array Value).toList)) Try.results119 rfl HT.out hfs rfl Try.fr_inf rfl ⟨_, rfl, Fr.stored HZ HF.out (K2.out.alloc _), below_stored HZ (KU.out.alloc KU.out.size _) (by omega)⟩
theorem claimReserve_any (w : World) (A : Option Addr) (n c : Nat) (l : List Int) (B : Option Addr) (m d : Nat) (t : Int) (h : Cf w A n l) (k : Nat) (hk : k ≤ 8) (p : Int) (hp : tlN l n + k * 11 = p) :
    Calls Try.prog 91 #[.agg #[.slice A n c, .slice B m d, .int .i64 t], .int .i64 k] w fun e w' => ∃ cs, e = .returned (.agg cs) ∧ Fr w' cs 0 1 [] (clL p) ∧ Below w.heap.size w w' := by
  have HS := hide (fun o1 o2 => claimStart_any ((w.alloc o1).alloc o2) A n c l B m d t ((h.alloc o1).alloc o2) k hk 1 none 0 0 [] (IsI.nil _ _ _) (TyA.nil _ _ _) (by omega) p hp)
  clear h hp
  go_enter Try.func91, Try.ntmps91
  go_wp2_with fail
  refine (HS.out _ _).mono ?_
  rintro e w2 ⟨cs, rfl, hf, hb⟩
  obtain ⟨k2, kb⟩ := at_second hb
  obtain ⟨FA, fn, fc, FB, fm, fd, rfl, -⟩ := id hf
  have HF := hide hf
  have KB := hide kb
  have K2 := hide k2
  have HT := hide (k2.there (n := 5) rfl)
  clear hb k2 kb hf
  go_wp2_with ((with_reducible show wpList _ _ _ _ _ _); refine wpList_store_res (by rfl) 55 _ _ (by rfl) (w.heap.size + 1) #[.int .i64 0, .int .i64 1, .slice FA fn fc, .slice FB fm fd, .slice none 0 0] (by rfl) (by rfl) HT.out Try.fr_inf (fr_one _ _ _ _ _ _ _ _ _ _ _) ?_; intro wz HZ)
  obtain ⟨fs, hfs⟩ := Try.fr_und
  exact ret_stored HZ Try.results91 rfl HT.out hfs rfl Try.fr_inf rfl ⟨_, rfl, Fr.stored HZ HF.out K2.out, below_stored HZ KB.out (by omega)⟩
theorem claimUndo_any (w : World) (A : Option Addr) (n c : Nat) (l : List Int) (B : Option Addr) (m d : Nat) (t : Int) (h : Cf w A n l) (k : Nat) (hk : k ≤ 8) (p : Int) (hp : tlN l n + k * 11 = p) :
    Calls Try.prog 92 #[.agg #[.slice A n c, .slice B m d, .int .i64 t], .int .i64 k] w fun e w' => ∃ cs, e = .returned (.agg cs) ∧ Fr w' cs 0 2 [] (clL p) ∧ Below w.heap.size w w' := by
  have HS := hide (fun o1 o2 => claimStart_any ((w.alloc o1).alloc o2) A n c l B m d t ((h.alloc o1).alloc o2) k hk 2 none 0 0 [] (IsI.nil _ _ _) (TyA.nil _ _ _) (by omega) p hp)
  clear h hp
  go_enter Try.func92, Try.ntmps92
  go_wp2_with fail
  refine (HS.out _ _).mono ?_
  rintro e w2 ⟨cs, rfl, hf, hb⟩
  obtain ⟨k2, kb⟩ := at_second hb
  obtain ⟨FA, fn, fc, FB, fm, fd, rfl, -⟩ := id hf
  have HF := hide hf
  have KB := hide kb
  have K2 := hide k2
  have HT := hide (k2.there (n := 5) rfl)
  clear hb k2 kb hf
  go_wp2_with ((with_reducible show wpList _ _ _ _ _ _); refine wpList_store_res (by rfl) 55 _ _ (by rfl) (w.heap.size + 1) #[.int .i64 0, .int .i64 2, .slice FA fn fc, .slice FB fm fd, .slice none 0 0] (by rfl) (by rfl) HT.out Try.fr_inf (fr_one _ _ _ _ _ _ _ _ _ _ _) ?_; intro wz HZ)
  obtain ⟨fs, hfs⟩ := Try.fr_und
  exact ret_stored HZ Try.results92 rfl HT.out hfs rfl Try.fr_inf rfl ⟨_, rfl, Fr.stored HZ HF.out K2.out, below_stored HZ KB.out (by omega)⟩
theorem claimExpire_any (w : World) (A : Option Addr) (n c : Nat) (l : List Int) (B : Option Addr) (m d : Nat) (t : Int) (h : Cf w A n l) (k : Nat) (hk : k ≤ 8) (p : Int) (hp : tlN l n + k * 11 = p) :
    Calls Try.prog 93 #[.agg #[.slice A n c, .slice B m d, .int .i64 t], .int .i64 k] w fun e w' => ∃ cs, e = .returned (.agg cs) ∧ Fr w' cs 0 3 [] (clL p) ∧ Below w.heap.size w w' := by
  have HS := hide (fun o1 o2 => claimStart_any ((w.alloc o1).alloc o2) A n c l B m d t ((h.alloc o1).alloc o2) k hk 3 none 0 0 [] (IsI.nil _ _ _) (TyA.nil _ _ _) (by omega) p hp)
  clear h hp
  go_enter Try.func93, Try.ntmps93
  go_wp2_with fail
  refine (HS.out _ _).mono ?_
  rintro e w2 ⟨cs, rfl, hf, hb⟩
  obtain ⟨k2, kb⟩ := at_second hb
  obtain ⟨FA, fn, fc, FB, fm, fd, rfl, -⟩ := id hf
  have HF := hide hf
  have KB := hide kb
  have K2 := hide k2
  have HT := hide (k2.there (n := 5) rfl)
  clear hb k2 kb hf
  go_wp2_with ((with_reducible show wpList _ _ _ _ _ _); refine wpList_store_res (by rfl) 55 _ _ (by rfl) (w.heap.size + 1) #[.int .i64 0, .int .i64 3, .slice FA fn fc, .slice FB fm fd, .slice none 0 0] (by rfl) (by rfl) HT.out Try.fr_inf (fr_one _ _ _ _ _ _ _ _ _ _ _) ?_; intro wz HZ)
  obtain ⟨fs, hfs⟩ := Try.fr_und
  exact ret_stored HZ Try.results93 rfl HT.out hfs rfl Try.fr_inf rfl ⟨_, rfl, Fr.stored HZ HF.out K2.out, below_stored HZ KB.out (by omega)⟩
theorem claimRest_any (w : World) (A : Option Addr) (n c : Nat) (l : List Int) (B : Option Addr) (m d : Nat) (t : Int) (h : Cf w A n l) (k : Nat) (hk : k ≤ 8) (p : Int) (hp : tlN l n + k * 11 = p) :
    Calls Try.prog 94 #[.agg #[.slice A n c, .slice B m d, .int .i64 t], .int .i64 k] w fun e w' => ∃ cs, e = .returned (.agg cs) ∧ Fr w' cs 0 4 [] (clL p) ∧ Below w.heap.size w w' := by
  have HS := hide (fun o1 o2 => claimStart_any ((w.alloc o1).alloc o2) A n c l B m d t ((h.alloc o1).alloc o2) k hk 4 none 0 0 [] (IsI.nil _ _ _) (TyA.nil _ _ _) (by omega) p hp)
  clear h hp
  go_enter Try.func94, Try.ntmps94
  go_wp2_with fail
  refine (HS.out _ _).mono ?_
  rintro e w2 ⟨cs, rfl, hf, hb⟩
  obtain ⟨k2, kb⟩ := at_second hb
  obtain ⟨FA, fn, fc, FB, fm, fd, rfl, -⟩ := id hf
  have HF := hide hf
  have KB := hide kb
  have K2 := hide k2
  have HT := hide (k2.there (n := 5) rfl)
  clear hb k2 kb hf
  go_wp2_with ((with_reducible show wpList _ _ _ _ _ _); refine wpList_store_res (by rfl) 55 _ _ (by rfl) (w.heap.size + 1) #[.int .i64 0, .int .i64 4, .slice FA fn fc, .slice FB fm fd, .slice none 0 0] (by rfl) (by rfl) HT.out Try.fr_inf (fr_one _ _ _ _ _ _ _ _ _ _ _) ?_; intro wz HZ)
  obtain ⟨fs, hfs⟩ := Try.fr_und
  exact ret_stored HZ Try.results94 rfl HT.out hfs rfl Try.fr_inf rfl ⟨_, rfl, Fr.stored HZ HF.out K2.out, below_stored HZ KB.out (by omega)⟩
theorem claimFire_any (w : World) (A : Option Addr) (n c : Nat) (l : List Int) (B : Option Addr) (m d : Nat) (t : Int) (h : Cf w A n l) (k : Nat) (hk : k ≤ 8) (p : Int) (hp : tlN l n + k * 11 = p) (i kd v : Int) (hi : 0 ≤ i ∧ i ≤ 7) (hkd : 0 ≤ kd ∧ kd ≤ 7) :
    Calls Try.prog 95 #[.agg #[.slice A n c, .slice B m d, .int .i64 t], .int .i64 k, .int .i64 i, .int .i64 kd, .int .u64 v] w fun e w' => ∃ cs, e = .returned (.agg cs) ∧ Fr w' cs 0 5 [i, kd, v] (clL p) ∧ Below w.heap.size w w' := by
  have HS := hide (fun o1 o2 => claimStart_any (((w.alloc o1).alloc o2).alloc (.cells #[.int .u64 i, .int .u64 kd, .int .u64 v] 46)) A n c l B m d t (((h.alloc o1).alloc o2).alloc _) k hk 5 (some ⟨w.heap.size + 1 + 1, 0, none⟩) 3 3 [i, kd, v] (by
    have q : IsI .u64 (((w.alloc o1).alloc o2).alloc (.cells #[.int .u64 i, .int .u64 kd, .int .u64 v] 46)) (some ⟨((w.alloc o1).alloc o2).heap.size, 0, none⟩) 3 [i, kd, v] := ⟨rfl, fun _ => ⟨_, rfl, by simp, cells_new ((w.alloc o1).alloc o2) [.int .u64 i, .int .u64 kd, .int .u64 v] 46⟩⟩
    simpa using q) (TyA.bk (by simpa using Bk.new ((w.alloc o1).alloc o2) 46 #[.int .u64 i, .int .u64 kd, .int .u64 v]) 0 3) (by omega) p hp)
  have ei : IntKind.u64.wrap i = i := by rw [wrap_u64]; omega
  have ek : IntKind.u64.wrap kd = kd := by rw [wrap_u64]; omega
  clear h hp
  go_enter Try.func95, Try.ntmps95
  go_wp2_with fail
  refine (HS.out _ _).mono ?_
  rintro e w2 ⟨cs, rfl, hf, hb⟩
  have kb : Below w.heap.size w w2 := ((((below_new w _).alloc (by simp) _).alloc (by simp; omega) _)).trans (hb.mono (by simp; omega))
  have k2 := (((by simpa using Bk.new (w.alloc (.cells #[.slice A n c, .slice B m d, .int .i64 t] 30)) 55 #[.int .i64 0, .int .i64 0, .slice none 0 0, .slice none 0 0, .slice none 0 0] : Bk ((w.alloc (.cells #[.slice A n c, .slice B m d, .int .i64 t] 30)).alloc (.cells #[.int .i64 0, .int .i64 0, .slice none 0 0, .slice none 0 0, .slice none 0 0] 55)) (w.heap.size + 1) 55 #[.int .i64 0, .int .i64 0, .slice none 0 0, .slice none 0 0, .slice none 0 0])).alloc (.cells #[.int .u64 i, .int .u64 kd, .int .u64 v] 46)).below hb (by simp <;> omega)
  obtain ⟨FA, fn, fc, FB, fm, fd, rfl, -⟩ := id hf
  have HF := hide hf
  have KB := hide kb
  have K2 := hide k2
  have HT := hide (k2.there (n := 5) rfl)
  clear hb k2 kb hf
  go_wp2_with ((with_reducible show wpList _ _ _ _ _ _); refine wpList_store_res (by rfl) 55 _ _ (by rfl) (w.heap.size + 1) #[.int .i64 0, .int .i64 5, .slice FA fn fc, .slice FB fm fd, .slice none 0 0] (by rfl) (by rfl) HT.out Try.fr_inf (fr_one _ _ _ _ _ _ _ _ _ _ _) ?_; intro wz HZ)
  obtain ⟨fs, hfs⟩ := Try.fr_und
  exact ret_stored HZ Try.results95 rfl HT.out hfs rfl Try.fr_inf rfl ⟨_, rfl, Fr.stored HZ HF.out K2.out, below_stored HZ KB.out (by omega)⟩
theorem claimAccess_any (w : World) (cs : Array Value) (code pc : Int) (ws ls : List Int) (h : Fr w cs code pc ws ls) (k o nn : Int) (i : Nat) (hi : i ≤ 1000) (q : Int) (hq : ls.getD i 0 = q) :
    Calls Try.prog 96 #[.agg cs, .int .i64 k, .int .i64 i, .int .u64 o, .int .u64 nn] w fun e w' => e = .returned (.agg (Acc.cells ⟨k, q, o, nn⟩)) ∧ Below w.heap.size w w' := by
  obtain ⟨A, n, c, B, m, d, rfl, hh⟩ := id h
  have HS : Hid (∀ o1 o2, Calls Try.prog 60 #[.agg #[.int .i64 code, .int .i64 pc, .slice A n c, .slice B m d, .slice none 0 0], .int .i64 i] ((w.alloc o1).alloc o2) fun e w' => e = .returned (.int .i64 q) ∧ Below ((w.alloc o1).alloc o2).heap.size ((w.alloc o1).alloc o2) w') := hide fun o1 o2 => by
    have := int_any _ _ code pc ws ls ((h.below (below_new w o1)).below (below_new _ o2)) i hi
    rwa [hq] at this
  clear h hh hq
  go_enter Try.func96, Try.ntmps96
  go_wp2_with fail
  refine (HS.out _ _).mono ?_
  rintro e w2 ⟨rfl, hb⟩
  obtain ⟨k2, kb⟩ := at_second hb
  have KB := hide kb
  have HT := hide (k2.there (n := 5) rfl)
  clear hb k2 kb
  go_wp2_with ((with_reducible show wpList _ _ _ _ _ _); refine wpList_store_res (by rfl) 65 _ _ (by rfl) (w.heap.size + 1) (Acc.cells ⟨k, q, o, nn⟩) (by rfl) (by rfl) HT.out Try.ac_inf (ac_one _) ?_; intro wz HZ)
  obtain ⟨fs, hfs⟩ := Try.ac_und
  exact ret_stored HZ Try.results96 rfl HT.out hfs rfl Try.ac_inf rfl ⟨rfl, below_stored HZ KB.out (by omega)⟩
theorem claimWord_any (w : World) (cs : Array Value) (code pc : Int) (ws ls : List Int) (h : Fr w cs code pc ws ls) (i : Nat) (hi : i ≤ 1000) (q : Int) (hq : ws.getD i 0 = q) :
    Calls Try.prog 97 #[.agg cs, .int .i64 i] w fun e w' => e = .returned (.int .u64 q) ∧ Below w.heap.size w w' := by
  obtain ⟨A, n, c, B, m, d, rfl, hh⟩ := id h
  have HS : Hid (∀ o1, Calls Try.prog 90 #[.agg #[.int .i64 code, .int .i64 pc, .slice A n c, .slice B m d, .slice none 0 0], .int .i64 i] (w.alloc o1) fun e w' => e = .returned (.int .u64 q) ∧ Below (w.alloc o1).heap.size (w.alloc o1) w') := hide fun o1 => by
    have := word_any _ _ code pc ws ls (h.below (below_new w o1)) i hi
    rwa [hq] at this
  clear h hh hq
  go_enter Try.func97, Try.ntmps97
  go_wp2_with fail
  refine (HS.out _).mono ?_
  rintro e w2 ⟨rfl, hb⟩
  go_wp2
  go_ret
  exact ⟨rfl, below_next (below_new _ _) hb⟩
theorem Try.pl_inf : (Try.prog.info? 116).map (·.size) = some 5 := by kernel_rfl
set_option maxHeartbeats 1000000 in
set_option maxRecDepth 100000 in
theorem claimNext_1 (w : World) (cs : Array Value) (p q : Int) (ws : List Int) (h : Fr w cs 0 1 ws (clL p)) (hq : (clL p).getD 0 0 = q) :
    Calls Try.prog 64 #[.agg cs] w fun e w' => e = .returned (.agg (Acc.cells ⟨3, q, 1, 2⟩)) ∧ Below w.heap.size w w' := by
  obtain ⟨A, n, c, B, m, d, rfl, hh⟩ := id h
  have HS := hide (fun o1 o2 o3 => claimAccess_any (((w.alloc o1).alloc o2).alloc o3) _ 0 1 ws (clL p) (((h.below (below_new w o1)).below (below_new _ o2)).below (below_new _ o3)) 3 1 2 0 (by omega) q hq)
  clear h hh hq
  go_enter Try.func64, Try.ntmps64
  go_wp2_with ((with_reducible show wpList _ _ _ _ _ _); refine wpList_store_new (by rfl) 116 _ _ (by rfl) #[.int .i64 0, .int .i64 0, .slice none 0 0, .slice none 0 0, .slice none 0 0] #[.int .i64 0, .int .i64 1, .slice A n c, .slice B m d, .slice none 0 0] 116 (by rfl) (by rfl) (by rfl) Try.pl_inf (fr_one _ _ _ _ _ _ _ _ _ _ _) ?_)
  refine (HS.out _ _ _).mono ?_
  rintro e w2 ⟨rfl, hb⟩
  have kb : Below w.heap.size w w2 := ((((below_new w _).alloc (by simp) _).alloc (by simp; omega) _)).trans (hb.mono (by simp; omega))
  have k2 := (((by simpa using Bk.new (w.alloc (.cells #[.int .i64 0, .int .i64 1, .slice A n c, .slice B m d, .slice none 0 0] 55)) 65 #[.int .i64 0, .int .i64 0, .int .u64 0, .int .u64 0, .int .i64 0] : Bk ((w.alloc (.cells #[.int .i64 0, .int .i64 1, .slice A n c, .slice B m d, .slice none 0 0] 55)).alloc (.cells #[.int .i64 0, .int .i64 0, .int .u64 0, .int .u64 0, .int .i64 0] 65)) (w.heap.size + 1) 65 #[.int .i64 0, .int .i64 0, .int .u64 0, .int .u64 0, .int .i64 0])).alloc (.cells #[.int .i64 0, .int .i64 1, .slice A n c, .slice B m d, .slice none 0 0] 116)).below hb (by simp <;> omega)
  have KB := hide kb
  have HT := hide (k2.there (n := 5) rfl)
  clear hb k2 kb HS
  go_wp2_with ((with_reducible show wpList _ _ _ _ _ _); refine wpList_store_res (by rfl) 65 _ _ (by rfl) (w.heap.size + 1) (Acc.cells ⟨3, q, 1, 2⟩) (by rfl) (by rfl) HT.out Try.ac_inf (ac_one _) ?_; intro wz HZ)
  obtain ⟨fs, hfs⟩ := Try.ac_und
  exact ret_stored HZ Try.results64 rfl HT.out hfs rfl Try.ac_inf rfl ⟨rfl, below_stored HZ KB.out (by omega)⟩
set_option maxHeartbeats 1000000 in
set_option maxRecDepth 100000 in
theorem claimNext_3 (w : World) (cs : Array Value) (p q : Int) (ws : List Int) (h : Fr w cs 0 3 ws (clL p)) (hq : (clL p).getD 0 0 = q) :
    Calls Try.prog 64 #[.agg cs] w fun e w' => e = .returned (.agg (Acc.cells ⟨3, q, 1, 4⟩)) ∧ Below w.heap.size w w' := by
  obtain ⟨A, n, c, B, m, d, rfl, hh⟩ := id h
  have HS := hide (fun o1 o2 o3 => claimAccess_any (((w.alloc o1).alloc o2).alloc o3) _ 0 3 ws (clL p) (((h.below (below_new w o1)).below (below_new _ o2)).below (below_new _ o3)) 3 1 4 0 (by omega) q hq)
  clear h hh hq
  go_enter Try.func64, Try.ntmps64
  go_wp2_with ((with_reducible show wpList _ _ _ _ _ _); refine wpList_store_new (by rfl) 116 _ _ (by rfl) #[.int .i64 0, .int .i64 0, .slice none 0 0, .slice none 0 0, .slice none 0 0] #[.int .i64 0, .int .i64 3, .slice A n c, .slice B m d, .slice none 0 0] 116 (by rfl) (by rfl) (by rfl) Try.pl_inf (fr_one _ _ _ _ _ _ _ _ _ _ _) ?_)
  refine (HS.out _ _ _).mono ?_
  rintro e w2 ⟨rfl, hb⟩
  have kb : Below w.heap.size w w2 := ((((below_new w _).alloc (by simp) _).alloc (by simp; omega) _)).trans (hb.mono (by simp; omega))
  have k2 := (((by simpa using Bk.new (w.alloc (.cells #[.int .i64 0, .int .i64 3, .slice A n c, .slice B m d, .slice none 0 0] 55)) 65 #[.int .i64 0, .int .i64 0, .int .u64 0, .int .u64 0, .int .i64 0] : Bk ((w.alloc (.cells #[.int .i64 0, .int .i64 3, .slice A n c, .slice B m d, .slice none 0 0] 55)).alloc (.cells #[.int .i64 0, .int .i64 0, .int .u64 0, .int .u64 0, .int .i64 0] 65)) (w.heap.size + 1) 65 #[.int .i64 0, .int .i64 0, .int .u64 0, .int .u64 0, .int .i64 0])).alloc (.cells #[.int .i64 0, .int .i64 3, .slice A n c, .slice B m d, .slice none 0 0] 116)).below hb (by simp <;> omega)
  have KB := hide kb
  have HT := hide (k2.there (n := 5) rfl)
  clear hb k2 kb HS
  go_wp2_with ((with_reducible show wpList _ _ _ _ _ _); refine wpList_store_res (by rfl) 65 _ _ (by rfl) (w.heap.size + 1) (Acc.cells ⟨3, q, 1, 4⟩) (by rfl) (by rfl) HT.out Try.ac_inf (ac_one _) ?_; intro wz HZ)
  obtain ⟨fs, hfs⟩ := Try.ac_und
  exact ret_stored HZ Try.results64 rfl HT.out hfs rfl Try.ac_inf rfl ⟨rfl, below_stored HZ KB.out (by omega)⟩
set_option maxHeartbeats 1000000 in
set_option maxRecDepth 100000 in
theorem claimNext_2 (w : World) (cs : Array Value) (p q : Int) (ws : List Int) (h : Fr w cs 0 2 ws (clL p)) (hq : (clL p).getD 0 0 = q) :
    Calls Try.prog 64 #[.agg cs] w fun e w' => e = .returned (.agg (Acc.cells ⟨2, q, 0, 1⟩)) ∧ Below w.heap.size w w' := by
  obtain ⟨A, n, c, B, m, d, rfl, hh⟩ := id h
  have HS := hide (fun o1 o2 o3 => claimAccess_any (((w.alloc o1).alloc o2).alloc o3) _ 0 2 ws (clL p) (((h.below (below_new w o1)).below (below_new _ o2)).below (below_new _ o3)) 2 0 1 0 (by omega) q hq)
  clear h hh hq
  go_enter Try.func64, Try.ntmps64
  go_wp2_with ((with_reducible show wpList _ _ _ _ _ _); refine wpList_store_new (by rfl) 116 _ _ (by rfl) #[.int .i64 0, .int .i64 0, .slice none 0 0, .slice none 0 0, .slice none 0 0] #[.int .i64 0, .int .i64 2, .slice A n c, .slice B m d, .slice none 0 0] 116 (by rfl) (by rfl) (by rfl) Try.pl_inf (fr_one _ _ _ _ _ _ _ _ _ _ _) ?_)
  refine (HS.out _ _ _).mono ?_
  rintro e w2 ⟨rfl, hb⟩
  have kb : Below w.heap.size w w2 := ((((below_new w _).alloc (by simp) _).alloc (by simp; omega) _)).trans (hb.mono (by simp; omega))
  have k2 := (((by simpa using Bk.new (w.alloc (.cells #[.int .i64 0, .int .i64 2, .slice A n c, .slice B m d, .slice none 0 0] 55)) 65 #[.int .i64 0, .int .i64 0, .int .u64 0, .int .u64 0, .int .i64 0] : Bk ((w.alloc (.cells #[.int .i64 0, .int .i64 2, .slice A n c, .slice B m d, .slice none 0 0] 55)).alloc (.cells #[.int .i64 0, .int .i64 0, .int .u64 0, .int .u64 0, .int .i64 0] 65)) (w.heap.size + 1) 65 #[.int .i64 0, .int .i64 0, .int .u64 0, .int .u64 0, .int .i64 0])).alloc (.cells #[.int .i64 0, .int .i64 2, .slice A n c, .slice B m d, .slice none 0 0] 116)).below hb (by simp <;> omega)
  have KB := hide kb
  have HT := hide (k2.there (n := 5) rfl)
  clear hb k2 kb HS
  go_wp2_with ((with_reducible show wpList _ _ _ _ _ _); refine wpList_store_res (by rfl) 65 _ _ (by rfl) (w.heap.size + 1) (Acc.cells ⟨2, q, 0, 1⟩) (by rfl) (by rfl) HT.out Try.ac_inf (ac_one _) ?_; intro wz HZ)
  obtain ⟨fs, hfs⟩ := Try.ac_und
  exact ret_stored HZ Try.results64 rfl HT.out hfs rfl Try.ac_inf rfl ⟨rfl, below_stored HZ KB.out (by omega)⟩
set_option maxHeartbeats 1000000 in
set_option maxRecDepth 100000 in
theorem claimNext_4 (w : World) (cs : Array Value) (p q : Int) (ws : List Int) (h : Fr w cs 0 4 ws (clL p)) (hq : (clL p).getD 0 0 = q) :
    Calls Try.prog 64 #[.agg cs] w fun e w' => e = .returned (.agg (Acc.cells ⟨2, q, 0, 0⟩)) ∧ Below w.heap.size w w' := by
  obtain ⟨A, n, c, B, m, d, rfl, hh⟩ := id h
  have HS := hide (fun o1 o2 o3 => claimAccess_any (((w.alloc o1).alloc o2).alloc o3) _ 0 4 ws (clL p) (((h.below (below_new w o1)).below (below_new _ o2)).below (below_new _ o3)) 2 0 0 0 (by omega) q hq)
  clear h hh hq
  go_enter Try.func64, Try.ntmps64
  go_wp2_with ((with_reducible show wpList _ _ _ _ _ _); refine wpList_store_new (by rfl) 116 _ _ (by rfl) #[.int .i64 0, .int .i64 0, .slice none 0 0, .slice none 0 0, .slice none 0 0] #[.int .i64 0, .int .i64 4, .slice A n c, .slice B m d, .slice none 0 0] 116 (by rfl) (by rfl) (by rfl) Try.pl_inf (fr_one _ _ _ _ _ _ _ _ _ _ _) ?_)
  refine (HS.out _ _ _).mono ?_
  rintro e w2 ⟨rfl, hb⟩
  have kb : Below w.heap.size w w2 := ((((below_new w _).alloc (by simp) _).alloc (by simp; omega) _)).trans (hb.mono (by simp; omega))
  have k2 := (((by simpa using Bk.new (w.alloc (.cells #[.int .i64 0, .int .i64 4, .slice A n c, .slice B m d, .slice none 0 0] 55)) 65 #[.int .i64 0, .int .i64 0, .int .u64 0, .int .u64 0, .int .i64 0] : Bk ((w.alloc (.cells #[.int .i64 0, .int .i64 4, .slice A n c, .slice B m d, .slice none 0 0] 55)).alloc (.cells #[.int .i64 0, .int .i64 0, .int .u64 0, .int .u64 0, .int .i64 0] 65)) (w.heap.size + 1) 65 #[.int .i64 0, .int .i64 0, .int .u64 0, .int .u64 0, .int .i64 0])).alloc (.cells #[.int .i64 0, .int .i64 4, .slice A n c, .slice B m d, .slice none 0 0] 116)).below hb (by simp <;> omega)
  have KB := hide kb
  have HT := hide (k2.there (n := 5) rfl)
  clear hb k2 kb HS
  go_wp2_with ((with_reducible show wpList _ _ _ _ _ _); refine wpList_store_res (by rfl) 65 _ _ (by rfl) (w.heap.size + 1) (Acc.cells ⟨2, q, 0, 0⟩) (by rfl) (by rfl) HT.out Try.ac_inf (ac_one _) ?_; intro wz HZ)
  obtain ⟨fs, hfs⟩ := Try.ac_und
  exact ret_stored HZ Try.results64 rfl HT.out hfs rfl Try.ac_inf rfl ⟨rfl, below_stored HZ KB.out (by omega)⟩
set_option maxHeartbeats 1000000 in
set_option maxRecDepth 100000 in
theorem claimNext_8 (w : World) (cs : Array Value) (p q : Int) (ws : List Int) (h : Fr w cs 0 8 ws (clL p)) (hq : (clL p).getD 0 0 = q) :
    Calls Try.prog 64 #[.agg cs] w fun e w' => e = .returned (.agg (Acc.cells ⟨2, q, 0, 3⟩)) ∧ Below w.heap.size w w' := by
  obtain ⟨A, n, c, B, m, d, rfl, hh⟩ := id h
  have HS := hide (fun o1 o2 o3 => claimAccess_any (((w.alloc o1).alloc o2).alloc o3) _ 0 8 ws (clL p) (((h.below (below_new w o1)).below (below_new _ o2)).below (below_new _ o3)) 2 0 3 0 (by omega) q hq)
  clear h hh hq
  go_enter Try.func64, Try.ntmps64
  go_wp2_with ((with_reducible show wpList _ _ _ _ _ _); refine wpList_store_new (by rfl) 116 _ _ (by rfl) #[.int .i64 0, .int .i64 0, .slice none 0 0, .slice none 0 0, .slice none 0 0] #[.int .i64 0, .int .i64 8, .slice A n c, .slice B m d, .slice none 0 0] 116 (by rfl) (by rfl) (by rfl) Try.pl_inf (fr_one _ _ _ _ _ _ _ _ _ _ _) ?_)
  refine (HS.out _ _ _).mono ?_
  rintro e w2 ⟨rfl, hb⟩
  have kb : Below w.heap.size w w2 := ((((below_new w _).alloc (by simp) _).alloc (by simp; omega) _)).trans (hb.mono (by simp; omega))
  have k2 := (((by simpa using Bk.new (w.alloc (.cells #[.int .i64 0, .int .i64 8, .slice A n c, .slice B m d, .slice none 0 0] 55)) 65 #[.int .i64 0, .int .i64 0, .int .u64 0, .int .u64 0, .int .i64 0] : Bk ((w.alloc (.cells #[.int .i64 0, .int .i64 8, .slice A n c, .slice B m d, .slice none 0 0] 55)).alloc (.cells #[.int .i64 0, .int .i64 0, .int .u64 0, .int .u64 0, .int .i64 0] 65)) (w.heap.size + 1) 65 #[.int .i64 0, .int .i64 0, .int .u64 0, .int .u64 0, .int .i64 0])).alloc (.cells #[.int .i64 0, .int .i64 8, .slice A n c, .slice B m d, .slice none 0 0] 116)).below hb (by simp <;> omega)
  have KB := hide kb
  have HT := hide (k2.there (n := 5) rfl)
  clear hb k2 kb HS
  go_wp2_with ((with_reducible show wpList _ _ _ _ _ _); refine wpList_store_res (by rfl) 65 _ _ (by rfl) (w.heap.size + 1) (Acc.cells ⟨2, q, 0, 3⟩) (by rfl) (by rfl) HT.out Try.ac_inf (ac_one _) ?_; intro wz HZ)
  obtain ⟨fs, hfs⟩ := Try.ac_und
  exact ret_stored HZ Try.results64 rfl HT.out hfs rfl Try.ac_inf rfl ⟨rfl, below_stored HZ KB.out (by omega)⟩
set_option maxHeartbeats 1000000 in
set_option maxRecDepth 100000 in
theorem claimNext_9 (w : World) (cs : Array Value) (p q : Int) (ws : List Int) (h : Fr w cs 0 9 ws (clL p)) (hq : (clL p).getD 1 0 = q) :
    Calls Try.prog 64 #[.agg cs] w fun e w' => e = .returned (.agg (Acc.cells ⟨2, q, 0, 1⟩)) ∧ Below w.heap.size w w' := by
  obtain ⟨A, n, c, B, m, d, rfl, hh⟩ := id h
  have HS := hide (fun o1 o2 o3 => claimAccess_any (((w.alloc o1).alloc o2).alloc o3) _ 0 9 ws (clL p) (((h.below (below_new w o1)).below (below_new _ o2)).below (below_new _ o3)) 2 0 1 1 (by omega) q hq)
  clear h hh hq
  go_enter Try.func64, Try.ntmps64
  go_wp2_with ((with_reducible show wpList _ _ _ _ _ _); refine wpList_store_new (by rfl) 116 _ _ (by rfl) #[.int .i64 0, .int .i64 0, .slice none 0 0, .slice none 0 0, .slice none 0 0] #[.int .i64 0, .int .i64 9, .slice A n c, .slice B m d, .slice none 0 0] 116 (by rfl) (by rfl) (by rfl) Try.pl_inf (fr_one _ _ _ _ _ _ _ _ _ _ _) ?_)
  refine (HS.out _ _ _).mono ?_
  rintro e w2 ⟨rfl, hb⟩
  have kb : Below w.heap.size w w2 := ((((below_new w _).alloc (by simp) _).alloc (by simp; omega) _)).trans (hb.mono (by simp; omega))
  have k2 := (((by simpa using Bk.new (w.alloc (.cells #[.int .i64 0, .int .i64 9, .slice A n c, .slice B m d, .slice none 0 0] 55)) 65 #[.int .i64 0, .int .i64 0, .int .u64 0, .int .u64 0, .int .i64 0] : Bk ((w.alloc (.cells #[.int .i64 0, .int .i64 9, .slice A n c, .slice B m d, .slice none 0 0] 55)).alloc (.cells #[.int .i64 0, .int .i64 0, .int .u64 0, .int .u64 0, .int .i64 0] 65)) (w.heap.size + 1) 65 #[.int .i64 0, .int .i64 0, .int .u64 0, .int .u64 0, .int .i64 0])).alloc (.cells #[.int .i64 0, .int .i64 9, .slice A n c, .slice B m d, .slice none 0 0] 116)).below hb (by simp <;> omega)
  have KB := hide kb
  have HT := hide (k2.there (n := 5) rfl)
  clear hb k2 kb HS
  go_wp2_with ((with_reducible show wpList _ _ _ _ _ _); refine wpList_store_res (by rfl) 65 _ _ (by rfl) (w.heap.size + 1) (Acc.cells ⟨2, q, 0, 1⟩) (by rfl) (by rfl) HT.out Try.ac_inf (ac_one _) ?_; intro wz HZ)
  obtain ⟨fs, hfs⟩ := Try.ac_und
  exact ret_stored HZ Try.results64 rfl HT.out hfs rfl Try.ac_inf rfl ⟨rfl, below_stored HZ KB.out (by omega)⟩
end Go.Proofs.Ytadaoobdnnleaaa
