/- Chapter 8: awake. -/
import Derived.Test.YtepngbdjobckbaaK8
import Derived.Test.YtepngbdjobckbaaG2
import Derived.Test.YtepngbdjobckbaaQ8
namespace Go.Proofs.Ytepngbdjobckbaa
open Go.RowKit
set_option linter.unusedVariables false
set_option linter.unusedSimpArgs false
theorem addOk8 : AddOk8 Rp8 := fun w base G s what ch th v H hw hch hth hv hms => add8_wi w base G s what ch th v H hw hch hth hv hms
/-- One machine makes n accesses. -/
def stpn (s : St) (i : Nat) : Nat → St
  | 0 => s
  | n + 1 => stp (stpn s i n) i
theorem stpn_len (s : St) (i : Nat) : ∀ n, (stpn s i n).ms.length = s.ms.length := by
  intro n
  induction n with
  | zero => rfl
  | succ n ih => rw [stpn, stp_len, ih]
theorem stpn_tr (s : St) (i : Nat) : ∀ n, (stpn s i n).tr.length ≤ s.tr.length + n := by
  intro n
  induction n with
  | zero => exact Nat.le_refl _
  | succ n ih => exact Nat.le_trans (stp_tr _ _) (by omega)
def sA : St := { st0 [1] [0] 2 with ms := [mc0 3 0 0 5] }
def sB : St := plays [] 0 7 sA
theorem sB_l : sB.ms.length = 1 := by decide +kernel
theorem sB_0 : sB.ms[0]? = some ⟨3, 0, 0, 0, 1, 5, 5, 0, 0, 1, 0⟩ := by decide +kernel
set_option maxHeartbeats 2000000 in
set_option maxRecDepth 100000 in
theorem awake8_any (w : World) :
    Calls Try.prog 34 #[] w fun e w' => e = .returned (.bool true) ∧ Below w.heap.size w w' := by
  go_enter Try.func34, Try.ntmps34
  go_wp2_with fail
  refine (one8_ty w).mono ?_
  rintro e y2 ⟨A, B, rfl, hcf, hty, hsi, hb2⟩
  have BJ2 := hide hb2
  have CF := hide hcf
  have TY := hide hty
  have SI := hide hsi
  clear hcf hty hsi hb2
  go_wp2_with fail
  refine (begin_one y2 A B CF.out SI.out).mono ?_
  rintro e y4 ⟨gW, gL, rfl, hk, hgw, hb4⟩
  have BW4 := hide (BJ2.out.trans (hb4.mono BJ2.out.size))
  have CF4 := hide (CF.out.below hb4)
  have TY4 := hide (TY.out.below hb4)
  have HK := hide hk
  clear hk hb4 BJ2 CF TY SI hgw
  go_upto_region 2 with fail
  have KG := hide (Bk.new y4 81 #[.slice A 1 1, .slice B 1 1, .int .i64 2, .slice (some ⟨gW, 0, none⟩) 31 31, .slice (some ⟨gL, 0, none⟩) 2 2, .int .i64 0, .slice none 0 0, .slice none 0 0, .slice none 0 0, .slice none 0 0])
  have HB5 := hide (below_new y4 (.cells #[.slice A 1 1, .slice B 1 1, .int .i64 2, .slice (some ⟨gW, 0, none⟩) 31 31, .slice (some ⟨gL, 0, none⟩) 2 2, .int .i64 0, .slice none 0 0, .slice none 0 0, .slice none 0 0, .slice none 0 0] 81))
  have hwG : w.heap.size ≤ y4.heap.size := BW4.out.size
  have CF5 := hide (CF4.out.below HB5.out)
  have TY5 := hide (TY4.out.below HB5.out)
  have HK5 := hide (HK.out.below HB5.out HK.out.lt)
  have BJ := hide (BW4.out.trans (HB5.out.mono hwG))
  clear CF4 TY4 HK BW4 HB5
  generalize (y4.alloc (.cells #[.slice A 1 1, .slice B 1 1, .int .i64 2, .slice (some ⟨gW, 0, none⟩) 31 31, .slice (some ⟨gL, 0, none⟩) 2 2, .int .i64 0, .slice none 0 0, .slice none 0 0, .slice none 0 0, .slice none 0 0] 81)) = v0 at *
  generalize y4.heap.size = G at *
  have WJ := hide (wi_one0 (own := Own8) (Rp := Rp8) tw8 KG.out CF5.out TY5.out HK5.out)
  clear KG CF5 TY5 HK5
  have AD := hide (add8_wi v0 G G _ 3 0 0 5 WJ.out (by omega) (by show 0 < 1; omega) (by omega) (by unfold u64; omega) (by first | (show 0 ≤ 1000; omega) | decide +kernel))
  go_wp2_with fail
  refine AD.out.mono ?_
  rintro e v1 ⟨rfl, hw5, hb5, hkp⟩
  have WJ2 := hide hw5
  have BJ2 := hide (BJ.out.trans (hb5.mono hwG))
  clear hw5 hb5 hkp AD WJ BJ
  have WJ := WJ2
  have BJ := BJ2
  clear WJ2 BJ2
  have WJ2 : Hid (WI Own8 Rp8 v1 G G 81 sA) := hide WJ.out
  clear WJ
  have WJ := WJ2
  clear WJ2
  have PL := hide (play8_any knows8 v1 G G _ none 0 0 [] 0 7 WJ.out (IsI.nil _ _ _) (fun x hx => by simp at hx) (fun h => by omega) (by omega) (by omega) (by omega) (by show 0 < 1; omega) (by show 1 ≤ 20; omega) (by show 0 ≤ 100; omega))
  go_wp2_with fail
  refine PL.out.mono ?_
  rintro e v2 ⟨rfl, hw6, hb6⟩
  have WJ2 := hide hw6
  have BJ2 := hide (BJ.out.trans (hb6.mono hwG))
  clear hw6 hb6 PL WJ BJ
  have WJ := WJ2
  have BJ := BJ2
  clear WJ2 BJ2
  have WJ2 : Hid (WI Own8 Rp8 v2 G G 81 sB) := hide WJ.out
  clear WJ
  have WJ := WJ2
  clear WJ2
  obtain ⟨gF, cF, FA, fn, fc, FB, fm, fd, code, pc, k9, f0, f1, f2, f3, f4, hend⟩ := WJ.out.fend knows8 (i := 0) sB_0 rfl
  rw [sB_l] at k9
  simp only [Nat.zero_mul, Nat.zero_add, Nat.one_mul, Nat.reduceMul] at f0 f1 f2 f3 f4
  have HE := hide (fun W (hW : Below v2.heap.size v2 W) => show Calls Try.prog 41 #[.agg #[.int .i64 code, .int .i64 pc, .slice FA fn fc, .slice FB fm fd, .slice none 0 0]] W fun e w' => e = .returned (.tuple #[.agg #[.int .i64 1, .int .u64 0], .bool true]) ∧ Below W.heap.size W w' from hend W hW)
  clear hend
  go_wp2_with fail
  refine (HE.out _ (Below.refl _ _)).mono ?_
  rintro e v3 ⟨rfl, hb7⟩
  have KO := hide (Bk.new v3 56 #[.int .i64 1, .int .u64 0])
  have HB10 := hide (hb7.trans ((below_new v3 (.cells #[.int .i64 1, .int .u64 0] 56)).mono hb7.size))
  have WJ2 := hide (WJ.out.below HB10.out)
  have BJ2 := hide (BJ.out.trans (HB10.out.mono BJ.out.size))
  clear k9 f0 f1 f2 f3 f4 hb7 HE WJ BJ HB10
  have WJ := WJ2
  have BJ := BJ2
  clear WJ2 BJ2
  go_upto_region 5 with fail
  generalize (v3.alloc (.cells #[.int .i64 1, .int .u64 0] 56)) = v4 at *
  generalize v3.heap.size = gKO at *
  obtain ⟨o0, q0, -⟩ := bk2 KO.out
  have l0 := KO.out.lt
  go_wp2
  go_ret
  exact ⟨rfl, BJ.out⟩
end Go.Proofs.Ytepngbdjobckbaa
