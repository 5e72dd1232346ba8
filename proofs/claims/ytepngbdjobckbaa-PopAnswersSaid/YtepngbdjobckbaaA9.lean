/- Chapter 9: awake. -/
import Derived.Test.YtepngbdjobckbaaK9
import Derived.Test.YtepngbdjobckbaaG2
import Derived.Test.YtepngbdjobckbaaQ9
namespace Go.Proofs.Ytepngbdjobckbaa
open Go.RowKit
set_option linter.unusedVariables false
set_option linter.unusedSimpArgs false
theorem addOk9 : AddOk9 Rp9 := fun w base G s what ch th v H hw hch hth hv hms => add9_wi w base G s what ch th v H hw hch hth hv hms
/-- One machine makes n accesses. -/
def stpn (s : St) (i : Nat) : Nat → St
  | 0 => s
  | n + 1 => stp (stpn s i n) i
theorem stpn_len (s : St) (i : Nat) : ∀ n, (stpn s i n).ms.length = s.ms.length := by
  intro n
  induction n with
  | zero => rfl
  | succ n ih => rw [stpn, stp_len, ih]
theorem stpn_tr (s : St) (i : Nat) : ∀ n, (stpn s i n).tr.length ≤ s.tr.length + n := by
  intro n
  induction n with
  | zero => exact Nat.le_refl _
  | succ n ih => exact Nat.le_trans (stp_tr _ _) (by omega)
/-- A state with outcomes beside it. -/
def wx (s : St) (E : List (Nat × Int × Int)) : St := { s with ex := E }
theorem wx_stp (s : St) (e : List (Nat × Int × Int)) (i : Nat) : stp (wx s e) i = wx (stp s i) e := by
  unfold stp
  show (match s.ms[i]? with | none => wx s e | some x => if x.at_ = 0 then wx s e else stS (wx s e) i x) = _
  cases s.ms[i]? with
  | none => rfl
  | some x =>
    by_cases h : x.at_ = 0
    · simp only [if_pos h]
    · simp only [if_neg h]
      rfl
theorem wx_add (s : St) (e : List (Nat × Int × Int)) (m : Mc) : ({ wx s e with ms := (wx s e).ms ++ [m] } : St) = wx { s with ms := s.ms ++ [m] } e := rfl
theorem wx_ms (s : St) (e : List (Nat × Int × Int)) : (wx s e).ms = s.ms := rfl
theorem wx_l (s : St) (e : List (Nat × Int × Int)) : (wx s e).l = s.l := rfl
theorem wx_tr (s : St) (e : List (Nat × Int × Int)) : (wx s e).tr = s.tr := rfl
theorem wx_ex (s : St) (e : List (Nat × Int × Int)) : (wx s e).ex = e := rfl
theorem wx_keep {own : Nat → Prop} {Rp : List Int → Mc → Fa → Prop} {w : World} {base G : Nat} {TW : TypeId} {s : St} (hs : s.ex = []) (H : WI own Rp w base G TW s) {g : Nat} {a b : Int} (k : Bk w g 56 #[.int .i64 a, .int .u64 b]) : WI own Rp w base G TW (wx s [(g, a, b)]) := by
  have := H.keep k
  rw [hs] at this
  exact this
def sA : St := { st0 [1] [0] 2 with ms := [mc0 4 0 0 0, mc0 3 0 0 5] }
def sB : St := stp (stp (stp sA 0) 0) 0
def sC : St := stpn sB 1 7
def sD : St := { sC with ms := sC.ms ++ [mc0 4 0 0 0] }
def sE : St := stpn sD 2 7
theorem sC_eq : stpn sB 1 7 = sC := rfl
theorem sE_eq : stpn sD 2 7 = sE := rfl
theorem sD_eq : ({ sC with ms := sC.ms ++ [mc0 4 0 0 0] } : St) = sD := rfl
theorem sA_l : sA.ms.length = 2 := by decide +kernel
theorem sA_t : sA.tr.length = 0 := by decide +kernel
theorem sA1_l : (stp sA 0).ms.length = 2 := by decide +kernel
theorem sA1_t : (stp sA 0).tr.length = 1 := by decide +kernel
theorem sA2_l : (stp (stp sA 0) 0).ms.length = 2 := by decide +kernel
theorem sA2_t : (stp (stp sA 0) 0).tr.length = 2 := by decide +kernel
theorem sB_l : sB.ms.length = 2 := by decide +kernel
theorem sB_t : sB.tr.length = 3 := by decide +kernel
theorem sB_x : sB.ex = [] := by decide +kernel
theorem sB_0 : sB.ms[0]? = some ⟨4, 0, 0, 0, 0, 0, 0, 0, 0, 3, 0⟩ := by decide +kernel
theorem sC_l : sC.ms.length = 2 := by decide +kernel
theorem sC_ll : sC.l.length = 1 := by decide +kernel
theorem sD_l : sD.ms.length = 3 := by decide +kernel
theorem sD_t : sD.tr.length = 9 := by decide +kernel
theorem sE_l : sE.ms.length = 3 := by decide +kernel
theorem sE_2 : sE.ms[2]? = some ⟨4, 0, 0, 0, 0, 0, 5, 2, 0, 6, 5⟩ := by decide +kernel
set_option maxHeartbeats 2000000 in
set_option maxRecDepth 100000 in
theorem awake9_any (w : World) :
    Calls Try.prog 26 #[] w fun e w' => e = .returned (.bool true) ∧ Below w.heap.size w w' := by
  go_enter Try.func26, Try.ntmps26
  go_wp2_with fail
  refine (one9_ty w).mono ?_
  rintro e y2 ⟨A, B, rfl, hcf, hty, hsi, hb2⟩
  have BJ2 := hide hb2
  have CF := hide hcf
  have TY := hide hty
  have SI := hide hsi
  clear hcf hty hsi hb2
  go_wp2_with fail
  refine (begin_one y2 A B CF.out SI.out).mono ?_
  rintro e y4 ⟨gW, gL, rfl, hk, hgw, hb4⟩
  have BW4 := hide (BJ2.out.trans (hb4.mono BJ2.out.size))
  have CF4 := hide (CF.out.below hb4)
  have TY4 := hide (TY.out.below hb4)
  have HK := hide hk
  clear hk hb4 BJ2 CF TY SI hgw
  go_upto_region 2 with fail
  have KG := hide (Bk.new y4 75 #[.slice A 1 1, .slice B 1 1, .int .i64 2, .slice (some ⟨gW, 0, none⟩) 31 31, .slice (some ⟨gL, 0, none⟩) 2 2, .int .i64 0, .slice none 0 0, .slice none 0 0, .slice none 0 0, .slice none 0 0])
  have HB5 := hide (below_new y4 (.cells #[.slice A 1 1, .slice B 1 1, .int .i64 2, .slice (some ⟨gW, 0, none⟩) 31 31, .slice (some ⟨gL, 0, none⟩) 2 2, .int .i64 0, .slice none 0 0, .slice none 0 0, .slice none 0 0, .slice none 0 0] 75))
  have hwG : w.heap.size ≤ y4.heap.size := BW4.out.size
  have CF5 := hide (CF4.out.below HB5.out)
  have TY5 := hide (TY4.out.below HB5.out)
  have HK5 := hide (HK.out.below HB5.out HK.out.lt)
  have BJ := hide (BW4.out.trans (HB5.out.mono hwG))
  clear CF4 TY4 HK BW4 HB5
  generalize (y4.alloc (.cells #[.slice A 1 1, .slice B 1 1, .int .i64 2, .slice (some ⟨gW, 0, none⟩) 31 31, .slice (some ⟨gL, 0, none⟩) 2 2, .int .i64 0, .slice none 0 0, .slice none 0 0, .slice none 0 0, .slice none 0 0] 75)) = v0 at *
  generalize y4.heap.size = G at *
  have WJ := hide (wi_one0 (own := Own9) (Rp := Rp9) tw9 KG.out CF5.out TY5.out HK5.out)
  clear KG CF5 TY5 HK5
  have AD := hide (add9_wi v0 G G _ 4 0 0 0 WJ.out (by omega) (by show 0 < 1; omega) (by omega) (by unfold u64; omega) (by first | (show 0 ≤ 1000; omega) | decide +kernel))
  go_wp2_with fail
  refine AD.out.mono ?_
  rintro e v1 ⟨rfl, hw5, hb5, hkp⟩
  have WJ2 := hide hw5
  have BJ2 := hide (BJ.out.trans (hb5.mono hwG))
  clear hw5 hb5 hkp AD WJ BJ
  have WJ := WJ2
  have BJ := BJ2
  clear WJ2 BJ2
  have AD := hide (add9_wi v1 G G _ 3 0 0 5 WJ.out (by omega) (by show 0 < 1; omega) (by omega) (by unfold u64; omega) (by first | (show 1 ≤ 1000; omega) | decide +kernel))
  go_wp2_with fail
  refine AD.out.mono ?_
  rintro e v2 ⟨rfl, hw5, hb5, hkp⟩
  have WJ2 := hide hw5
  have BJ2 := hide (BJ.out.trans (hb5.mono hwG))
  clear hw5 hb5 hkp AD WJ BJ
  have WJ := WJ2
  have BJ := BJ2
  clear WJ2 BJ2
  have WJ2 : Hid (WI Own9 Rp9 v2 G G 75 sA) := hide WJ.out
  clear WJ
  have WJ := WJ2
  clear WJ2
  have ST := hide (step9_any knows9 v2 G G 0 _ WJ.out (by rw [sA_l]; omega) (by rw [sA_t]; omega))
  go_wp2_with fail
  refine ST.out.mono ?_
  rintro e v3 ⟨rfl, hw6, hb6⟩
  have WJ2 := hide hw6
  have BJ2 := hide (BJ.out.trans (hb6.mono hwG))
  clear hw6 hb6 ST WJ BJ
  have WJ := WJ2
  have BJ := BJ2
  clear WJ2 BJ2
  have ST := hide (step9_any knows9 v3 G G 0 _ WJ.out (by rw [sA1_l]; omega) (by rw [sA1_t]; omega))
  go_wp2_with fail
  refine ST.out.mono ?_
  rintro e v4 ⟨rfl, hw6, hb6⟩
  have WJ2 := hide hw6
  have BJ2 := hide (BJ.out.trans (hb6.mono hwG))
  clear hw6 hb6 ST WJ BJ
  have WJ := WJ2
  have BJ := BJ2
  clear WJ2 BJ2
  have ST := hide (step9_any knows9 v4 G G 0 _ WJ.out (by rw [sA2_l]; omega) (by rw [sA2_t]; omega))
  go_wp2_with fail
  refine ST.out.mono ?_
  rintro e v5 ⟨rfl, hw6, hb6⟩
  have WJ2 := hide hw6
  have BJ2 := hide (BJ.out.trans (hb6.mono hwG))
  clear hw6 hb6 ST WJ BJ
  have WJ := WJ2
  have BJ := BJ2
  clear WJ2 BJ2
  have WJ2 : Hid (WI Own9 Rp9 v5 G G 75 sB) := hide WJ.out
  clear WJ
  have WJ := WJ2
  clear WJ2
  obtain ⟨gF, cF, FA, fn, fc, FB, fm, fd, code, pc, k9, f0, f1, f2, f3, f4, hend⟩ := WJ.out.fend knows9 (i := 0) sB_0 rfl
  rw [sB_l] at k9
  simp only [Nat.zero_mul, Nat.zero_add, Nat.one_mul, Nat.reduceMul] at f0 f1 f2 f3 f4
  have HE := hide (fun W (hW : Below v5.heap.size v5 W) => show Calls Try.prog 33 #[.agg #[.int .i64 code, .int .i64 pc, .slice FA fn fc, .slice FB fm fd, .slice none 0 0]] W fun e w' => e = .returned (.tuple #[.agg #[.int .i64 3, .int .u64 0], .bool true]) ∧ Below W.heap.size W w' from hend W hW)
  clear hend
  go_wp2_with fail
  refine (HE.out _ (Below.refl _ _)).mono ?_
  rintro e v6 ⟨rfl, hb7⟩
  have KO := hide (Bk.new v6 56 #[.int .i64 3, .int .u64 0])
  have HB10 := hide (hb7.trans ((below_new v6 (.cells #[.int .i64 3, .int .u64 0] 56)).mono hb7.size))
  have WJ2 := hide (WJ.out.below HB10.out)
  have BJ2 := hide (BJ.out.trans (HB10.out.mono BJ.out.size))
  clear k9 f0 f1 f2 f3 f4 hb7 HE WJ BJ HB10
  have WJ := WJ2
  have BJ := BJ2
  clear WJ2 BJ2
  go_upto_region 6 with fail
  generalize (v6.alloc (.cells #[.int .i64 3, .int .u64 0] 56)) = v7 at *
  generalize v6.heap.size = gKO at *
  obtain ⟨E, hE⟩ : ∃ E : List (Nat × Int × Int), [(gKO, (3 : Int), (0 : Int))] = E := ⟨_, rfl⟩
  have WJ2 : Hid (WI Own9 Rp9 v7 G G 75 (wx sB E)) := hide (by rw [← hE]; exact wx_keep sB_x WJ.out KO.out)
  clear WJ
  have WJ := WJ2
  clear WJ2
  have HEE := hide hE
  clear KO hE
  have WL := hide WJ.out
  have BL := hide BJ.out
  clear WJ BJ
  go_wp2
  go_loopg [2, 5] 7 (fun g s2 s3 wr => ∃ j : Nat, g + j = 7 ∧ s2 = .bool true ∧ s3 = .int .i64 j ∧ WI Own9 Rp9 wr G G 75 (wx (stpn sB 1 j) E) ∧ Below w.heap.size w wr)
  case atStart => exact ⟨0, by omega, rfl, rfl, WL.out, BL.out⟩
  case round =>
  obtain ⟨j, hj, rfl, rfl, hwi, hbw⟩ := hrel
  have WJ := hide hwi
  have BJ := hide hbw
  clear hwi hbw WL BL
  by_cases hlt : j < 7
  · have ST := hide (step9_any knows9 wr G G 1 _ WJ.out (by rw [wx_ms, stpn_len, sB_l]; omega) (by rw [wx_tr]; exact Nat.le_trans (stpn_tr _ _ _) (by rw [sB_t]; omega)))
    go_wp2_with fail
    refine ST.out.mono ?_
    rintro e w5 ⟨rfl, hw5, hb5⟩
    rw [wx_stp] at hw5
    have WJ2 := hide hw5
    have BJ2 := hide (BJ.out.trans (hb5.mono hwG))
    clear hw5 hb5 ST WJ BJ
    go_wp2
    go_roundg (gk - 1)
    case rel => exact ⟨j + 1, by omega, rfl, by go_num, WJ2.out, BJ2.out⟩
    case measure => omega
  obtain rfl : j = 7 := by omega
  have hvv : ∃ v, v = wr := ⟨_, rfl⟩
  obtain ⟨v8, hvv⟩ := hvv
  subst hvv
  have WJ2 : Hid (WI Own9 Rp9 v8 G G 75 (wx sC E)) := hide (by rw [← sC_eq]; exact WJ.out)
  clear WJ
  have WJ := WJ2
  clear WJ2
  have AD := hide (add9_wi v8 G G _ 4 0 0 0 WJ.out (by omega) (by rw [wx_l, sC_ll]; omega) (by omega) (by unfold u64; omega) (by rw [wx_ms, sC_l]; omega))
  go_wp2_with fail
  refine AD.out.mono ?_
  rintro e v9 ⟨rfl, hw5, hb5, hkp⟩
  rw [wx_add, sD_eq] at hw5
  have WJ2 := hide hw5
  have BJ2 := hide (BJ.out.trans (hb5.mono hwG))
  clear hw5 hb5 hkp AD WJ BJ
  have WJ := WJ2
  have BJ := BJ2
  clear WJ2 BJ2
  have WL := hide WJ.out
  have BL := hide BJ.out
  clear WJ BJ
  go_wp2
  go_loopg [2, 6] 7 (fun g s2 s3 wr => ∃ j : Nat, g + j = 7 ∧ s2 = .bool true ∧ s3 = .int .i64 j ∧ WI Own9 Rp9 wr G G 75 (wx (stpn sD 2 j) E) ∧ Below w.heap.size w wr)
  case atStart => exact ⟨0, by omega, rfl, rfl, WL.out, BL.out⟩
  case round =>
  obtain ⟨j, hj, rfl, rfl, hwi, hbw⟩ := hrel
  have WJ := hide hwi
  have BJ := hide hbw
  clear hwi hbw WL BL
  by_cases hlt : j < 7
  · have ST := hide (step9_any knows9 wr G G 2 _ WJ.out (by rw [wx_ms, stpn_len, sD_l]; omega) (by rw [wx_tr]; exact Nat.le_trans (stpn_tr _ _ _) (by rw [sD_t]; omega)))
    go_wp2_with fail
    refine ST.out.mono ?_
    rintro e w5 ⟨rfl, hw5, hb5⟩
    rw [wx_stp] at hw5
    have WJ2 := hide hw5
    have BJ2 := hide (BJ.out.trans (hb5.mono hwG))
    clear hw5 hb5 ST WJ BJ
    go_wp2
    go_roundg (gk - 1)
    case rel => exact ⟨j + 1, by omega, rfl, by go_num, WJ2.out, BJ2.out⟩
    case measure => omega
  obtain rfl : j = 7 := by omega
  have hvv : ∃ v, v = wr := ⟨_, rfl⟩
  obtain ⟨v10, hvv⟩ := hvv
  subst hvv
  have WJ2 : Hid (WI Own9 Rp9 v10 G G 75 (wx sE E)) := hide (by rw [← sE_eq]; exact WJ.out)
  clear WJ
  have WJ := WJ2
  clear WJ2
  obtain ⟨gF, cF, FA, fn, fc, FB, fm, fd, code, pc, k9, f0, f1, f2, f3, f4, hend⟩ := WJ.out.fend knows9 (i := 2) (show (wx sE E).ms[2]? = some ⟨4, 0, 0, 0, 0, 0, 5, 2, 0, 6, 5⟩ by rw [wx_ms]; exact sE_2) rfl
  rw [wx_ms, sE_l] at k9
  simp only [Nat.zero_mul, Nat.zero_add, Nat.one_mul, Nat.reduceMul] at f0 f1 f2 f3 f4
  have HE := hide (fun W (hW : Below v10.heap.size v10 W) => show Calls Try.prog 33 #[.agg #[.int .i64 code, .int .i64 pc, .slice FA fn fc, .slice FB fm fd, .slice none 0 0]] W fun e w' => e = .returned (.tuple #[.agg #[.int .i64 6, .int .u64 5], .bool true]) ∧ Below W.heap.size W w' from hend W hW)
  clear hend
  go_wp2_with fail
  refine (HE.out _ (Below.refl _ _)).mono ?_
  rintro e v11 ⟨rfl, hb7⟩
  have KQ := hide (Bk.new v11 56 #[.int .i64 6, .int .u64 5])
  have HB10 := hide (hb7.trans ((below_new v11 (.cells #[.int .i64 6, .int .u64 5] 56)).mono hb7.size))
  have WJ2 := hide (WJ.out.below HB10.out)
  have BJ2 := hide (BJ.out.trans (HB10.out.mono BJ.out.size))
  clear k9 f0 f1 f2 f3 f4 hb7 HE WJ BJ HB10
  have WJ := WJ2
  have BJ := BJ2
  clear WJ2 BJ2
  go_upto_region 16 with fail
  generalize (v11.alloc (.cells #[.int .i64 6, .int .u64 5] 56)) = v12 at *
  generalize v11.heap.size = gKQ at *
  have KO := hide (WJ.out.kept (by decide) (g := gKO) (a := 3) (b := 0) (by rw [wx_ex, ← HEE.out]; exact List.mem_singleton.2 rfl))
  obtain ⟨o0, q0, -⟩ := bk2 KO.out
  have l0 := KO.out.lt
  obtain ⟨o1, q1, -⟩ := bk2 KQ.out
  have l1 := KQ.out.lt
  go_wp2
  go_ret
  exact ⟨rfl, BJ.out⟩
end Go.Proofs.Ytepngbdjobckbaa
