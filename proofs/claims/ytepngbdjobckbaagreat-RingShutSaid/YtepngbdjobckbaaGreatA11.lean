/- Chapter 11: awake. -/
import Derived.Test.YtepngbdjobckbaaGreatK11
import Derived.Test.YtepngbdjobckbaaGreatG2
import Derived.Test.YtepngbdjobckbaaGreatQ11
namespace Go.Proofs.YtepngbdjobckbaaGreat
open Go.RowKit
set_option linter.unusedVariables false
set_option linter.unusedSimpArgs false
theorem addOk11 : AddOk11 Rp11 := fun w base G s what ch th v H hw hch hth hv hms => add11_wi w base G s what ch th v H hw hch hth hv hms
/-- One machine makes n accesses. -/
def stpn (s : St) (i : Nat) : Nat → St
  | 0 => s
  | n + 1 => stp (stpn s i n) i
theorem stpn_len (s : St) (i : Nat) : ∀ n, (stpn s i n).ms.length = s.ms.length := by
  intro n
  induction n with
  | zero => rfl
  | succ n ih => rw [stpn, stp_len, ih]
theorem stpn_tr (s : St) (i : Nat) : ∀ n, (stpn s i n).tr.length ≤ s.tr.length + n := by
  intro n
  induction n with
  | zero => exact Nat.le_refl _
  | succ n ih => exact Nat.le_trans (stp_tr _ _) (by omega)
def sA : St := { st0 [1] [0] 2 with ms := [mc0 3 0 0 5, mc0 6 0 0 0] }
def sB : St := stpn sA 0 7
def sC : St := stp (stp (stp sB 1) 1) 1
theorem sA_l : sA.ms.length = 2 := by decide +kernel
theorem sA_t : sA.tr.length = 0 := by decide +kernel
theorem sB_l : sB.ms.length = 2 := by decide +kernel
theorem sB_t : sB.tr.length = 6 := by decide +kernel
theorem sB1_l : (stp sB 1).ms.length = 2 := by decide +kernel
theorem sB1_t : (stp sB 1).tr.length = 7 := by decide +kernel
theorem sB2_l : (stp (stp sB 1) 1).ms.length = 2 := by decide +kernel
theorem sB2_t : (stp (stp sB 1) 1).tr.length = 8 := by decide +kernel
theorem sC_l : sC.ms.length = 2 := by decide +kernel
theorem sC_1 : sC.ms[1]? = some ⟨6, 0, 0, 0, 0, 0, 0, 2, 0, 9, 1⟩ := by decide +kernel
set_option maxHeartbeats 2000000 in
set_option maxRecDepth 100000 in
theorem awake11_any (w : World) :
    Calls Tryz.prog 5 #[] w fun e w' => e = .returned (.bool true) ∧ Below w.heap.size w w' := by
  go_enter Tryz.func5, Tryz.ntmps5
  go_wp2_with fail
  refine (one11_ty w).mono ?_
  rintro e y2 ⟨A, B, rfl, hcf, hty, hsi, hb2⟩
  have BJ2 := hide hb2
  have CF := hide hcf
  have TY := hide hty
  have SI := hide hsi
  clear hcf hty hsi hb2
  go_wp2_with fail
  refine (begin_one y2 A B CF.out SI.out).mono ?_
  rintro e y4 ⟨gW, gL, rfl, hk, hgw, hb4⟩
  have BW4 := hide (BJ2.out.trans (hb4.mono BJ2.out.size))
  have CF4 := hide (CF.out.below hb4)
  have TY4 := hide (TY.out.below hb4)
  have HK := hide hk
  clear hk hb4 BJ2 CF TY SI hgw
  go_upto_region 2 with fail
  have KG := hide (Bk.new y4 66 #[.slice A 1 1, .slice B 1 1, .int .i64 2, .slice (some ⟨gW, 0, none⟩) 31 31, .slice (some ⟨gL, 0, none⟩) 2 2, .int .i64 0, .slice none 0 0, .slice none 0 0, .slice none 0 0, .slice none 0 0])
  have HB5 := hide (below_new y4 (.cells #[.slice A 1 1, .slice B 1 1, .int .i64 2, .slice (some ⟨gW, 0, none⟩) 31 31, .slice (some ⟨gL, 0, none⟩) 2 2, .int .i64 0, .slice none 0 0, .slice none 0 0, .slice none 0 0, .slice none 0 0] 66))
  have hwG : w.heap.size ≤ y4.heap.size := BW4.out.size
  have CF5 := hide (CF4.out.below HB5.out)
  have TY5 := hide (TY4.out.below HB5.out)
  have HK5 := hide (HK.out.below HB5.out HK.out.lt)
  have BJ := hide (BW4.out.trans (HB5.out.mono hwG))
  clear CF4 TY4 HK BW4 HB5
  generalize (y4.alloc (.cells #[.slice A 1 1, .slice B 1 1, .int .i64 2, .slice (some ⟨gW, 0, none⟩) 31 31, .slice (some ⟨gL, 0, none⟩) 2 2, .int .i64 0, .slice none 0 0, .slice none 0 0, .slice none 0 0, .slice none 0 0] 66)) = v0 at *
  generalize y4.heap.size = G at *
  have WJ := hide (wi_one0 (own := Own11) (Rp := Rp11) tw11 KG.out CF5.out TY5.out HK5.out)
  clear KG CF5 TY5 HK5
  have AD := hide (add11_wi v0 G G _ 3 0 0 5 WJ.out (by omega) (by show 0 < 1; omega) (by omega) (by unfold u64; omega) (by first | (show 0 ≤ 1000; omega) | decide +kernel))
  go_wp2_with fail
  refine AD.out.mono ?_
  rintro e v1 ⟨rfl, hw5, hb5, hkp⟩
  have WJ2 := hide hw5
  have BJ2 := hide (BJ.out.trans (hb5.mono hwG))
  clear hw5 hb5 hkp AD WJ BJ
  have WJ := WJ2
  have BJ := BJ2
  clear WJ2 BJ2
  have AD := hide (add11_wi v1 G G _ 6 0 0 0 WJ.out (by omega) (by show 0 < 1; omega) (by omega) (by unfold u64; omega) (by first | (show 1 ≤ 1000; omega) | decide +kernel))
  go_wp2_with fail
  refine AD.out.mono ?_
  rintro e v2 ⟨rfl, hw5, hb5, hkp⟩
  have WJ2 := hide hw5
  have BJ2 := hide (BJ.out.trans (hb5.mono hwG))
  clear hw5 hb5 hkp AD WJ BJ
  have WJ := WJ2
  have BJ := BJ2
  clear WJ2 BJ2
  have WJ2 : Hid (WI Own11 Rp11 v2 G G 66 sA) := hide WJ.out
  clear WJ
  have WJ := WJ2
  clear WJ2
  have WL := hide WJ.out
  have BL := hide BJ.out
  clear WJ BJ
  go_wp2
  go_loopg [2, 3] 7 (fun g s2 s3 wr => ∃ j : Nat, g + j = 7 ∧ s2 = .bool true ∧ s3 = .int .i64 j ∧ WI Own11 Rp11 wr G G 66 (stpn sA 0 j) ∧ Below w.heap.size w wr)
  case atStart => exact ⟨0, by omega, rfl, rfl, WL.out, BL.out⟩
  case round =>
  obtain ⟨j, hj, rfl, rfl, hwi, hbw⟩ := hrel
  have WJ := hide hwi
  have BJ := hide hbw
  clear hwi hbw WL BL
  by_cases hlt : j < 7
  · have ST := hide (step11_any knows11 wr G G 0 _ WJ.out (by rw [stpn_len, sA_l]; omega) (Nat.le_trans (stpn_tr _ _ _) (by rw [sA_t]; omega)))
    go_wp2_with fail
    refine ST.out.mono ?_
    rintro e w5 ⟨rfl, hw5, hb5⟩
    have WJ2 := hide hw5
    have BJ2 := hide (BJ.out.trans (hb5.mono hwG))
    clear hw5 hb5 ST WJ BJ
    go_wp2
    go_roundg (gk - 1)
    case rel => exact ⟨j + 1, by omega, rfl, by go_num, WJ2.out, BJ2.out⟩
    case measure => omega
  obtain rfl : j = 7 := by omega
  have hvv : ∃ v, v = wr := ⟨_, rfl⟩
  obtain ⟨v3, hvv⟩ := hvv
  subst hvv
  have WJ2 : Hid (WI Own11 Rp11 v3 G G 66 sB) := hide WJ.out
  clear WJ
  have WJ := WJ2
  clear WJ2
  have ST := hide (step11_any knows11 v3 G G 1 _ WJ.out (by rw [sB_l]; omega) (by rw [sB_t]; omega))
  go_wp2_with fail
  refine ST.out.mono ?_
  rintro e v4 ⟨rfl, hw6, hb6⟩
  have WJ2 := hide hw6
  have BJ2 := hide (BJ.out.trans (hb6.mono hwG))
  clear hw6 hb6 ST WJ BJ
  have WJ := WJ2
  have BJ := BJ2
  clear WJ2 BJ2
  have ST := hide (step11_any knows11 v4 G G 1 _ WJ.out (by rw [sB1_l]; omega) (by rw [sB1_t]; omega))
  go_wp2_with fail
  refine ST.out.mono ?_
  rintro e v5 ⟨rfl, hw6, hb6⟩
  have WJ2 := hide hw6
  have BJ2 := hide (BJ.out.trans (hb6.mono hwG))
  clear hw6 hb6 ST WJ BJ
  have WJ := WJ2
  have BJ := BJ2
  clear WJ2 BJ2
  have ST := hide (step11_any knows11 v5 G G 1 _ WJ.out (by rw [sB2_l]; omega) (by rw [sB2_t]; omega))
  go_wp2_with fail
  refine ST.out.mono ?_
  rintro e v6 ⟨rfl, hw6, hb6⟩
  have WJ2 := hide hw6
  have BJ2 := hide (BJ.out.trans (hb6.mono hwG))
  clear hw6 hb6 ST WJ BJ
  have WJ := WJ2
  have BJ := BJ2
  clear WJ2 BJ2
  have WJ2 : Hid (WI Own11 Rp11 v6 G G 66 sC) := hide WJ.out
  clear WJ
  have WJ := WJ2
  clear WJ2
  obtain ⟨gF, cF, FA, fn, fc, FB, fm, fd, code, pc, k9, f0, f1, f2, f3, f4, hend⟩ := WJ.out.fend knows11 (i := 1) sC_1 rfl
  rw [sC_l] at k9
  simp only [Nat.zero_mul, Nat.zero_add, Nat.one_mul, Nat.reduceMul] at f0 f1 f2 f3 f4
  have HE := hide (fun W (hW : Below v6.heap.size v6 W) => show Calls Tryz.prog 18 #[.agg #[.int .i64 code, .int .i64 pc, .slice FA fn fc, .slice FB fm fd, .slice none 0 0]] W fun e w' => e = .returned (.tuple #[.agg #[.int .i64 9, .int .u64 1], .bool true]) ∧ Below W.heap.size W w' from hend W hW)
  clear hend
  go_wp2_with fail
  refine (HE.out _ (Below.refl _ _)).mono ?_
  rintro e v7 ⟨rfl, hb7⟩
  have KO := hide (Bk.new v7 47 #[.int .i64 9, .int .u64 1])
  have HB10 := hide (hb7.trans ((below_new v7 (.cells #[.int .i64 9, .int .u64 1] 47)).mono hb7.size))
  have WJ2 := hide (WJ.out.below HB10.out)
  have BJ2 := hide (BJ.out.trans (HB10.out.mono BJ.out.size))
  clear k9 f0 f1 f2 f3 f4 hb7 HE WJ BJ HB10
  have WJ := WJ2
  have BJ := BJ2
  clear WJ2 BJ2
  go_upto_region 11 with fail
  generalize (v7.alloc (.cells #[.int .i64 9, .int .u64 1] 47)) = v8 at *
  generalize v7.heap.size = gKO at *
  obtain ⟨o0, q0, -⟩ := bk2 KO.out
  have l0 := KO.out.lt
  go_wp2
  go_ret
  exact ⟨rfl, BJ.out⟩
end Go.Proofs.YtepngbdjobckbaaGreat
