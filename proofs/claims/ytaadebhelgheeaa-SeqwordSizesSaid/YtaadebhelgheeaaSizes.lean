/- SeqwordSizes: for every n and small the law's call returns true; no condition. -/
import Derived.Handy
import Derived.Test.YtaadebhelgheeaaA
import Derived.Test.YtaadebhelgheeaaRows
import Derived.WalkKit
import Derived.ProofKit
import Derived.OpenShut
namespace Go.Proofs.Ytaadebhelgheeaa.seqwordSizes
open Go.ChangeShapes Go.WideShapes Go.ChangeAt Go.RowKit
set_option linter.unusedVariables false      -- a walk need not use every 'w<i>' (that an integer argument fits its kind)

theorem own : ownKnob Try.prog.godebug = none := by kernel_rfl

/-! ### STEP 1: THE WALK: the Go text returns true. 'Grown w w'': the world has at most new blocks (Derived/RowKit3.lean). Part the cases AHEAD of 'go_enter' where a test parts the walk; take each callee by a contract of your own. -/
theorem rsize_any (c : Int) (w : World) :
    Calls Try.prog 13 #[.int .i64 c] w fun e w' => e = .returned (.int .i64 (sz c)) ∧ w = w' := by
  by_cases h : 1073741824 < c
  · go_enter Try.func13, Try.ntmps13
    go_wp2
    go_ret
    exact ⟨ret_u64 _ (by unfold sz; rw [if_pos h]), rfl⟩
  · by_cases h1 : c = 1
    · subst h1
      go_enter Try.func13, Try.ntmps13
      go_wp2
      go_ret
      exact ⟨ret_u64 _ (by decide), rfl⟩
    · have h2 : (c == 1) = false := by simpa using h1
      have h3 : sz c = dbl c 31 1 := by unfold sz; rw [if_neg h, if_neg h1]
      clear h1
      rw [h3]
      clear h3
      go_enter Try.func13, Try.ntmps13
      go_wp2
      go_loop [3] (fun s => ∃ (f : Nat) (x : Int), s = .int .i64 x ∧ f ≤ 31 ∧ 1 ≤ x ∧ x * 2 ^ f = 2147483648 ∧ dbl c f x = dbl c 31 1) (fun s => (c - intOf s).toNat)
      case atStart => exact ⟨31, 1, rfl, by omega, by omega, by decide, rfl⟩
      case round =>
        obtain ⟨f, x, rfl, hf, hx, hp, hd⟩ := hrel
        have H := Lib.hid hd
        have HP := Lib.hid hp
        clear hd hp
        by_cases hlt : x < c
        · go_wp2
          go_round
          case rel =>
            cases f with
            | zero => exfalso; have := HP.out; simp at this; omega
            | succ f =>
              have hp := HP.out
              rw [Int.pow_succ] at hp
              refine ⟨f, 2 * x, ?_, by omega, by omega, by rw [← hp, Int.mul_comm 2 x, Int.mul_assoc, Int.mul_comm 2], by rw [← dbl_go _ _ _ hlt]; exact H.out⟩
              go_num
          case measure => simp [intOf]; omega
        · go_wp2
          go_ret
          exact ⟨ret_u64 _ (by rw [← H.out, dbl_stop _ _ _ (by omega)]), rfl⟩
def smallOk (n : Nat) : Bool := (n == 1 && sz n == 2) || (decide (n ≠ 1) && decide (1 ≤ sz n) && bits BinOp.and IntKind.i64 (sz n) (sz n - 1) == 0 && decide ((n : Int) ≤ sz n) && (sz n == 1 || decide (sz n / 2 < n)) && decide (sz n ≤ 256))
theorem small_all : ∀ n : Fin 256, smallOk n.val = true := by decide +kernel
set_option maxHeartbeats 1000000 in
theorem walk (a0 : Int) (a1 : Int) (w0 : (Lit.int .i64 a0).wf = true) (w1 : (Lit.int .u8 a1).wf = true) (w : World) :
    Calls Try.prog 4 #[.int .i64 a0, .int .u8 a1] w fun e w' => e = .returned (.bool true) ∧ Grown w w' := by
  have b0 := bounds_i64 w0
  have b1 := bounds_u8 w1
  obtain ⟨n, rfl⟩ := Int.eq_ofNat_of_zero_le b1.1
  have hs := small_all ⟨n, by omega⟩
  by_cases h1 : n = 1
  · subst h1
    have e2 : (sz 1 == 2) = true := by decide
    clear hs
    go_enter Try.func4, Try.ntmps4
    go_wp2_with (first | (go_at_call 9; refine (awake_any _).mono ?_; rintro e w' ⟨rfl, rfl⟩) | (go_at_call 12; refine (size_any _ _).mono ?_; rintro e w' ⟨rfl, rfl⟩) | (go_at_call 13; refine (rsize_any _ _).mono ?_; rintro e w' ⟨rfl, rfl⟩))
    refine wp_loop_rounds 5 ?_
    iterate 5 (rw [rounds_succ]; go_wp2_with (first | (go_at_call 9; refine (awake_any _).mono ?_; rintro e w' ⟨rfl, rfl⟩) | (go_at_call 12; refine (size_any _ _).mono ?_; rintro e w' ⟨rfl, rfl⟩) | (go_at_call 13; refine (rsize_any _ _).mono ?_; rintro e w' ⟨rfl, rfl⟩)))
    go_ret
    exact ⟨rfl, by go_grown⟩
  · have e1 : ((n : Int) == 1) = false := by simp; omega
    simp only [smallOk, Bool.or_eq_true, Bool.and_eq_true, decide_eq_true_eq] at hs
    obtain ⟨h, -⟩ | ⟨⟨⟨⟨⟨-, h2⟩, h3⟩, h4⟩, h5⟩, h6⟩ := hs
    · exact absurd (by simpa using h) h1
    clear h1
    by_cases h7 : sz n = 1
    · have h8 : (sz n == 1) = true := by simp [h7]
      clear h7 h5
      go_enter Try.func4, Try.ntmps4
      go_wp2_with (first | (go_at_call 9; refine (awake_any _).mono ?_; rintro e w' ⟨rfl, rfl⟩) | (go_at_call 12; refine (size_any _ _).mono ?_; rintro e w' ⟨rfl, rfl⟩) | (go_at_call 13; refine (rsize_any _ _).mono ?_; rintro e w' ⟨rfl, rfl⟩))
      refine wp_loop_rounds 5 ?_
      iterate 5 (rw [rounds_succ]; go_wp2_with (first | (go_at_call 9; refine (awake_any _).mono ?_; rintro e w' ⟨rfl, rfl⟩) | (go_at_call 12; refine (size_any _ _).mono ?_; rintro e w' ⟨rfl, rfl⟩) | (go_at_call 13; refine (rsize_any _ _).mono ?_; rintro e w' ⟨rfl, rfl⟩)))
      go_ret
      exact ⟨rfl, by go_grown⟩
    · have h8 : (sz n == 1) = false := by simp [h7]
      have h9 : sz n / 2 < n := by rcases h5 with h5 | h5; exact absurd (by simpa using h5) h7; exact h5
      clear h7 h5
      go_enter Try.func4, Try.ntmps4
      go_wp2_with (first | (go_at_call 9; refine (awake_any _).mono ?_; rintro e w' ⟨rfl, rfl⟩) | (go_at_call 12; refine (size_any _ _).mono ?_; rintro e w' ⟨rfl, rfl⟩) | (go_at_call 13; refine (rsize_any _ _).mono ?_; rintro e w' ⟨rfl, rfl⟩))
      refine wp_loop_rounds 5 ?_
      iterate 5 (rw [rounds_succ]; go_wp2_with (first | (go_at_call 9; refine (awake_any _).mono ?_; rintro e w' ⟨rfl, rfl⟩) | (go_at_call 12; refine (size_any _ _).mono ?_; rintro e w' ⟨rfl, rfl⟩) | (go_at_call 13; refine (rsize_any _ _).mono ?_; rintro e w' ⟨rfl, rfl⟩)))
      go_ret
      exact ⟨rfl, by go_grown⟩

/-! ### THE ROW's STEP: WRITTEN OUT: LEAVE IT -/
set_option maxRecDepth 100000 in
theorem lifted (os : Os) (started : os.Started) (H : Type) (enc : TypeId × Value → H) :
    ReturnsInHanded {} Try.checked os 4 .any (Rows.seqwordSizesSpec.pre6 enc Try.prog Try.f4 Rows.seqwordSizesRow.domain false) (Rows.seqwordSizesSpec.post enc Try.prog Try.f4 false true false false) := by
  refine returnsInHanded_of_change (C := Try.checked) own started (by kernel_rfl) Try.func4
    (ChangeSpec.witness6 (enc := enc) (C := Try.checked) false ⟨#[], #[.int .i64 0, .int .u8 0], []⟩ 8 (by kernel_rfl) (by kernel_rfl) (by kernel_rfl) (by kernel_rfl)) ?_
  intro W base args ds gs before hval0 hW hcnd _
  have hval : ∀ (j : Nat) t v, Try.f4.params[j]? = some t → args[j]? = some v → Value.okWide Try.prog W .any base t v := hval0
  have hW' := hW
  obtain ⟨p, q, hA0, hV, rfl, hfz, hnd⟩ := hW
  have hA : DataW.TrodAll enc Try.prog W 0 (fun _ => true) true Try.f4.params.toList args.toList ds p := hA0
  rw [Try.params4] at hA hval
  obtain ⟨v0, vs0, d0, ds0, p0, q0, hargs, rfl, rfl, h0, r0⟩ := trodAll_cons hA
  obtain ⟨v1, vs1, d1, ds1, p1, q1, rfl, rfl, rfl, h1, r1⟩ := trodAll_cons r0
  obtain ⟨rfl, rfl, rfl⟩ := trodAll_nil r1
  obtain rfl : args = #[v0, v1] := by cases args; simp_all
  obtain ⟨rfl, rfl⟩ := trodVars_none hV
  obtain ⟨a0, rfl, rfl, rfl, w0⟩ := open_int Try.underlying3 (hval 0 3 v0 rfl rfl) h0
  obtain ⟨a1, rfl, rfl, rfl, w1⟩ := open_int Try.underlying5 (hval 1 5 v1 rfl rfl) h1
  clear hA0 hval0
  simp only [List.append_nil] at hW'
  refine (walk a0 a1 w0 w1 W).mono fun e W' ⟨he, hg⟩ => ?_
  subst he
  exact ⟨_, rfl, post_of_same (pa := []) (pv := []) hW' (fun _ _ _ => (trodAll_cons_mk (shut_bool Try.underlying4 _) trodAll_mk0)) (fun sp _ => (trodAll_cons_mk (shut_int Try.underlying3 w0) (trodAll_cons_mk (shut_int Try.underlying5 w1) trodAll_mk0))) (fun _ _ => rfl) rfl
    (hg.frame _) hg.2.1 (ok_one (by kernel_rfl) rfl (okWide_bool_mk Try.underlying4 _))⟩

theorem over : Rows.seqwordSizesRow.holds Try.pinned (OpenSpec.ofChange Rows.seqwordSizesSpec) :=
  OpenClaim.holds_of_wide 4 Try.f4 rfl rfl rfl rfl rfl rfl rfl ⟨rfl, rfl, rfl, rfl, rfl⟩ rfl rfl rfl rfl rfl (by kernel_rfl) Try.func4 (by kernel_rfl)
    (of_decide_eq_true (by kernel_rfl)) (by unfold Func.isWrapper; first | (rw [if_pos (by decide +kernel)]; kernel_rfl) | (rw [if_neg (by decide +kernel)]; exact ⟨rfl, rfl⟩))
    (fun os started H enc _ => lifted os started H enc)

/-- ████ THE STATEMENT ████ -/
theorem proved : Rows.SeqwordSizesSaid :=
  over
#print axioms proved
end Go.Proofs.Ytaadebhelgheeaa.seqwordSizes
