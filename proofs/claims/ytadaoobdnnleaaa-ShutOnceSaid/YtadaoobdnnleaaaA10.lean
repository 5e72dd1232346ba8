/- Chapter 10: a channel is closed twice (awake). -/
import Derived.Test.YtadaoobdnnleaaaK10
import Derived.Test.YtadaoobdnnleaaaG2
import Derived.Test.YtadaoobdnnleaaaQ10
namespace Go.Proofs.Ytadaoobdnnleaaa
open Go.RowKit
set_option linter.unusedVariables false
theorem addOk10 : AddOk10 Rp10 := fun w base G s what ch th v H hw hch hth hv hms => add10_wi w base G s what ch th v H hw hch hth hv hms
def sS : St := { st0 [1] [0] 2 with ms := [mc0 5 0 0 0, mc0 5 0 0 0] }
def sT : St := stp (stp (stp sS 0) 0) 1
theorem sT_l : sT.ms.length = 2 := by decide +kernel
theorem sT_0 : sT.ms[0]? = some ⟨5, 0, 0, 0, 0, 0, 0, 0, 0, 1, 0⟩ := by decide +kernel
theorem sT_1 : sT.ms[1]? = some ⟨5, 0, 0, 0, 0, 0, 0, 1, 0, 4, 0⟩ := by decide +kernel
set_option maxHeartbeats 2000000 in
set_option maxRecDepth 100000 in
theorem awake10_any (w : World) :
    Calls Try.prog 44 #[] w fun e w' => e = .returned (.bool true) ∧ Below w.heap.size w w' := by
  go_enter Try.func44, Try.ntmps44
  go_wp2_with fail
  refine (one10_ty w).mono ?_
  rintro e y2 ⟨A, B, rfl, hcf, hty, hsi, hb2⟩
  have BW2 := hide hb2
  have CF := hide hcf
  have TY := hide hty
  have SI := hide hsi
  clear hcf hty hsi hb2
  go_wp2_with fail
  refine (begin_one y2 A B CF.out SI.out).mono ?_
  rintro e y4 ⟨gW, gL, rfl, hk, hgw, hb4⟩
  have BW4 := hide (BW2.out.trans (hb4.mono BW2.out.size))
  have CF4 := hide (CF.out.below hb4)
  have TY4 := hide (TY.out.below hb4)
  have HK := hide hk
  clear hk hb4 BW2 CF TY SI hgw
  go_upto_region 2 with fail
  have KG := hide (Bk.new y4 82 #[.slice A 1 1, .slice B 1 1, .int .i64 2, .slice (some ⟨gW, 0, none⟩) 31 31, .slice (some ⟨gL, 0, none⟩) 2 2, .int .i64 0, .slice none 0 0, .slice none 0 0, .slice none 0 0, .slice none 0 0])
  have HB5 := hide (below_new y4 (.cells #[.slice A 1 1, .slice B 1 1, .int .i64 2, .slice (some ⟨gW, 0, none⟩) 31 31, .slice (some ⟨gL, 0, none⟩) 2 2, .int .i64 0, .slice none 0 0, .slice none 0 0, .slice none 0 0, .slice none 0 0] 82))
  have hwG : w.heap.size ≤ y4.heap.size := BW4.out.size
  have CF5 := hide (CF4.out.below HB5.out)
  have TY5 := hide (TY4.out.below HB5.out)
  have HK5 := hide (HK.out.below HB5.out HK.out.lt)
  have BW5 := hide (BW4.out.trans (HB5.out.mono hwG))
  clear CF4 TY4 HK BW4 HB5
  generalize (y4.alloc (.cells #[.slice A 1 1, .slice B 1 1, .int .i64 2, .slice (some ⟨gW, 0, none⟩) 31 31, .slice (some ⟨gL, 0, none⟩) 2 2, .int .i64 0, .slice none 0 0, .slice none 0 0, .slice none 0 0, .slice none 0 0] 82)) = y5 at *
  generalize y4.heap.size = G at *
  have WI5 := hide (wi_one0 (own := Own10) (Rp := Rp10) tw10 KG.out CF5.out TY5.out HK5.out)
  have BW6 := hide BW5.out
  clear KG CF5 TY5 HK5 BW5
  have AD := hide (add10_wi y5 G G _ 5 0 0 0 WI5.out (by omega) (by show 0 < 1; omega) (by omega) (by unfold u64; omega) (by show 0 ≤ 1000; omega))
  go_wp2_with fail
  refine AD.out.mono ?_
  rintro e w5 ⟨rfl, hw5, hb5, -⟩
  have WI6 := hide hw5
  have BW7 := hide (BW6.out.trans (hb5.mono hwG))
  clear hw5 hb5 AD WI5 BW6
  have AD := hide (add10_wi w5 G G _ 5 0 0 0 WI6.out (by omega) (by show 0 < 1; omega) (by omega) (by unfold u64; omega) (by show 1 ≤ 1000; omega))
  go_wp2_with fail
  refine AD.out.mono ?_
  rintro e w6 ⟨rfl, hw5, hb5, -⟩
  have WI7 : Hid (WI Own10 Rp10 w6 G G 82 sS) := hide hw5
  have BW8 := hide (BW7.out.trans (hb5.mono hwG))
  clear hw5 hb5 AD WI6 BW7
  have ST := hide (step10_any knows10 w6 G G 0 _ WI7.out (by show 0 < 2; omega) (by show 0 ≤ 1000000; omega))
  go_wp2_with fail
  refine ST.out.mono ?_
  rintro e w7 ⟨rfl, hw6, hb6⟩
  have WI8 := hide hw6
  have BW9 := hide (BW8.out.trans (hb6.mono hwG))
  clear hw6 hb6 ST WI7 BW8
  have ST := hide (step10_any knows10 w7 G G 0 _ WI8.out (by rw [stp_len]; show 0 < 2; omega) (Nat.le_trans (stp_tr _ _) (by show 0 + 1 ≤ 1000000; omega)))
  go_wp2_with fail
  refine ST.out.mono ?_
  rintro e w8 ⟨rfl, hw6, hb6⟩
  have WI9 := hide hw6
  have BW10 := hide (BW9.out.trans (hb6.mono hwG))
  clear hw6 hb6 ST WI8 BW9
  have ST := hide (step10_any knows10 w8 G G 1 _ WI9.out (by rw [stp_len, stp_len]; show 1 < 2; omega) (Nat.le_trans (stp_tr _ _) (Nat.le_trans (Nat.succ_le_succ (stp_tr _ _)) (by show 0 + 1 + 1 ≤ 1000000; omega))))
  go_wp2_with fail
  refine ST.out.mono ?_
  rintro e w9 ⟨rfl, hw6, hb6⟩
  have WI10 : Hid (WI Own10 Rp10 w9 G G 82 sT) := hide hw6
  have BW11 := hide (BW10.out.trans (hb6.mono hwG))
  clear hw6 hb6 ST WI9 BW10
  obtain ⟨gF, cF, FA, fn, fc, FB, fm, fd, code, pc, k9, f0, f1, f2, f3, f4, hend⟩ := WI10.out.fend knows10 (i := 0) sT_0 rfl
  rw [sT_l] at k9
  simp only [Nat.zero_mul, Nat.zero_add] at f0 f1 f2 f3 f4
  have HE := hide (fun W (hW : Below w9.heap.size w9 W) => show Calls Try.prog 50 #[.agg #[.int .i64 code, .int .i64 pc, .slice FA fn fc, .slice FB fm fd, .slice none 0 0]] W fun e w' => e = .returned (.tuple #[.agg #[.int .i64 1, .int .u64 0], .bool true]) ∧ Below W.heap.size W w' from hend W hW)
  clear hend
  go_wp2_with fail
  refine (HE.out _ (Below.refl _ _)).mono ?_
  rintro e w10 ⟨rfl, hb7⟩
  have KO := hide (Bk.new w10 50 #[.int .i64 1, .int .u64 0])
  have HB10 := hide (hb7.trans ((below_new w10 (.cells #[.int .i64 1, .int .u64 0] 50)).mono hb7.size))
  have WI11 := hide (WI10.out.below HB10.out)
  have BW12 := hide (BW11.out.trans (HB10.out.mono BW11.out.size))
  clear k9 f0 f1 f2 f3 f4 hb7 HE BW11 WI10 HB10
  go_upto_region 6 with fail
  generalize (w10.alloc (.cells #[.int .i64 1, .int .u64 0] 50)) = w11 at *
  generalize w10.heap.size = gO at *
  obtain ⟨gF, cF, FA, fn, fc, FB, fm, fd, code, pc, k9, f0, f1, f2, f3, f4, hend⟩ := WI11.out.fend knows10 (i := 1) sT_1 rfl
  rw [sT_l] at k9
  simp only [Nat.one_mul] at f0 f1 f2 f3 f4
  have HE := hide (fun W (hW : Below w11.heap.size w11 W) => show Calls Try.prog 50 #[.agg #[.int .i64 code, .int .i64 pc, .slice FA fn fc, .slice FB fm fd, .slice none 0 0]] W fun e w' => e = .returned (.tuple #[.agg #[.int .i64 4, .int .u64 0], .bool true]) ∧ Below W.heap.size W w' from hend W hW)
  clear hend
  go_wp2_with fail
  refine (HE.out _ (Below.refl _ _)).mono ?_
  rintro e w12 ⟨rfl, hb7⟩
  have BW13 := hide ((BW12.out.trans (hb7.mono BW12.out.size)).trans ((below_new w12 (.cells #[.int .i64 4, .int .u64 0] 50)).mono (Nat.le_trans BW12.out.size hb7.size)))
  have hgO := KO.out.lt
  obtain ⟨o0, o1, -⟩ := bk2 ((KO.out.below hb7 KO.out.lt).alloc (.cells #[.int .i64 4, .int .u64 0] 50))
  clear k9 f0 f1 f2 f3 f4 hb7 HE BW12 WI11 KO
  go_wp2
  go_ret
  exact ⟨rfl, BW13.out⟩
end Go.Proofs.Ytadaoobdnnleaaa
