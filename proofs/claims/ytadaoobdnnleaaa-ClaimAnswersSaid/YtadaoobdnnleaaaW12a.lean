/- Chapter 12: a claim is reserved (awake). -/
import Derived.Test.YtadaoobdnnleaaaK12
import Derived.Test.YtadaoobdnnleaaaG2
namespace Go.Proofs.Ytadaoobdnnleaaa
open Go.RowKit
set_option linter.unusedVariables false
theorem tw12 : TWok 70 := by unfold TWok; decide
/-- The world with one claim armed. -/
def sArm (k : Nat) : St := { st0 [1] [0] 2 with ws := (iniI [1] [0] 2).set k 1 }
theorem arm_len {k : Nat} : (sArm k).l.length = 1 := rfl
set_option maxHeartbeats 2000000 in
set_option maxRecDepth 100000 in
theorem awake12_any (w : World) :
    Calls Try.prog 29 #[] w fun e w' => e = .returned (.bool true) ∧ Below w.heap.size w w' := by
  go_enter Try.func29, Try.ntmps29
  go_wp2_with fail
  refine (one12_ty w).mono ?_
  rintro e y2 ⟨A, B, rfl, hcf, hty, hsi, hb2⟩
  have BW2 := hide hb2
  have CF := hide hcf
  have TY := hide hty
  have SI := hide hsi
  clear hcf hty hsi hb2
  go_wp2_with fail
  refine (begin_one y2 A B CF.out SI.out).mono ?_
  rintro e y4 ⟨gW, gL, rfl, hk, hgw, hb4⟩
  have hgW : w.heap.size ≤ gW := Nat.le_trans BW2.out.size hgw
  clear hgw
  have BW4 := hide (BW2.out.trans (hb4.mono BW2.out.size))
  have CF4 := hide (CF.out.below hb4)
  have TY4 := hide (TY.out.below hb4)
  have HK := hide hk
  clear hk hb4 BW2 CF TY SI
  go_upto_region 2 with fail
  have KG := hide (Bk.new y4 70 #[.slice A 1 1, .slice B 1 1, .int .i64 2, .slice (some ⟨gW, 0, none⟩) 31 31, .slice (some ⟨gL, 0, none⟩) 2 2, .int .i64 0, .slice none 0 0, .slice none 0 0, .slice none 0 0, .slice none 0 0])
  have HB5 := hide (below_new y4 (.cells #[.slice A 1 1, .slice B 1 1, .int .i64 2, .slice (some ⟨gW, 0, none⟩) 31 31, .slice (some ⟨gL, 0, none⟩) 2 2, .int .i64 0, .slice none 0 0, .slice none 0 0, .slice none 0 0, .slice none 0 0] 70))
  have hwG : w.heap.size ≤ y4.heap.size := BW4.out.size
  have CF5 := hide (CF4.out.below HB5.out)
  have TY5 := hide (TY4.out.below HB5.out)
  have HK5 := hide (HK.out.below HB5.out HK.out.lt)
  have BW5 := hide (BW4.out.trans (HB5.out.mono hwG))
  clear CF4 TY4 HK BW4 HB5
  generalize (y4.alloc (.cells #[.slice A 1 1, .slice B 1 1, .int .i64 2, .slice (some ⟨gW, 0, none⟩) 31 31, .slice (some ⟨gL, 0, none⟩) 2 2, .int .i64 0, .slice none 0 0, .slice none 0 0, .slice none 0 0, .slice none 0 0] 70)) = y5 at *
  generalize y4.heap.size = G at *
  obtain ⟨k0, k1, k2, k3, -⟩ := bk10 KG.out
  have HB0 : Hid (Below y5.heap.size y5 y5.drew) := hide (Below.refl y5.heap.size y5).drew
  have QC := hide (fun W (hW : Below y5.heap.size y5 W) => show Calls Try.prog 30 #[.agg #[.slice A 1 1, .slice B 1 1, .int .i64 2], .int .i64 0] W fun e w' => e = .returned (.int .i64 9) ∧ Below W.heap.size W w' from rclaim_any W A 1 1 [1] B 1 1 2 (CF5.out.below hW) 0 (by omega))
  go_region_held3 (fun u => u.cell? ⟨G, 0, none⟩ = some (.slice A 1 1) ∧ u.cell? ⟨G, 1, none⟩ = some (.slice B 1 1) ∧ u.cell? ⟨G, 2, none⟩ = some (.int .i64 2) ∧ u.cell? ⟨G, 3, none⟩ = some (.slice (some ⟨gW, 0, none⟩) 31 31)) (go_keep) (first
    | (go_at_call 30; refine (QC.out _ HB0.out).mono ?_; rintro e w3 ⟨rfl, hb⟩; have HB3 := hide (HB0.out.trans (hb.mono HB0.out.size)); obtain ⟨k0, k1, k2, k3, -⟩ := bk10 (KG.out.below HB3.out KG.out.lt); have HK3 := hide (HK5.out.below HB3.out HK5.out.lt); have c9 := wc_cell HK3.out (k := 9) (by decide +kernel); have f9 := HK3.out.frozen 9; have nGW : G ≠ gW := (fun e => by have a := KG.out; have b := HK5.out; rw [e] at a; unfold Bk at a b; rw [a] at b; simp at b); have nWG := Ne.symm nGW; clear hb))
  all_goals
    have WI5 := hide (wi_one (own := Own12) (Rp := Rp12) tw12 (KG.out.below HB3.out KG.out.lt) (CF5.out.below HB3.out) (TY5.out.below HB3.out) HK3.out 9 1 (by unfold u64; omega))
    have BW6 := hide ((BW5.out.trans (HB3.out.mono BW5.out.size)).setCell (p := ⟨gW, 9, none⟩) hgW (.int .u64 1))
    have hGl := HB3.out.size
    have hGy := KG.out.lt
    clear k0 k1 k2 k3 HK3 c9 f9 nGW nWG QC HB0 BW5 HK5 TY5 CF5 KG HB3
    generalize w3.setCell ⟨gW, 9, none⟩ (.int .u64 1) = w4 at *
    have AD := hide (add12_wi w4 G G _ 7 0 0 0 WI5.out (by omega) (by show 0 < 1; omega) (by omega) (by unfold u64; omega) (by show 0 ≤ 1000; omega))
    go_wp2_with fail
    refine AD.out.mono ?_
    rintro e w5 ⟨rfl, hw5, hb5⟩
    have WI6 := hide hw5
    have BW7 := hide (BW6.out.trans (hb5.mono hwG))
    clear hw5 hb5 AD WI5 BW6
    have ST := hide (step12_any knows12 w5 G G 0 _ WI6.out (by show 0 < 1; omega) (by show 0 ≤ 1000000; omega))
    go_wp2_with fail
    refine ST.out.mono ?_
    rintro e w6 ⟨rfl, hw6, hb6⟩
    have BW8 := hide (BW7.out.trans (hb6.mono hwG))
    obtain ⟨gF, cF, FA, fn, fc, FB, fm, fd, code, pc, k9, f0, f1, f2, f3, f4, hend⟩ := hw6.fend knows12 (i := 0) (x := mend (mc0 7 0 0 0) 7 0) (by decide +kernel) (by unfold Own12; decide)
    rw [stp_len, show ∀ s : St, ({ s with ms := s.ms ++ [mc0 7 0 0 0] } : St).ms.length = s.ms.length + 1 from fun s => by simp] at k9
    simp only [Nat.zero_mul, Nat.zero_add] at f0 f1 f2 f3 f4
    have HE := hide (fun W (hW : Below w6.heap.size w6 W) => show Calls Try.prog 38 #[.agg #[.int .i64 code, .int .i64 pc, .slice FA fn fc, .slice FB fm fd, .slice none 0 0]] W fun e w' => e = .returned (.tuple #[.agg #[.int .i64 7, .int .u64 0], .bool true]) ∧ Below W.heap.size W w' from hend W hW)
    clear hw6 hb6 ST WI6 BW7 hend hgW hGl hGy
    go_wp2_with fail
    refine (HE.out _ (Below.refl _ _)).mono ?_
    rintro e w7 ⟨rfl, hb7⟩
    have BW9 := hide ((BW8.out.trans (hb7.mono BW8.out.size)).trans ((below_new w7 (.cells #[.int .i64 7, .int .u64 0] 50)).mono (Nat.le_trans BW8.out.size hb7.size)))
    clear k9 f0 f1 f2 f3 f4 hb7 HE BW8
    go_wp2
    go_ret
    exact ⟨rfl, BW9.out⟩
end Go.Proofs.Ytadaoobdnnleaaa
