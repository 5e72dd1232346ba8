/- SeqwordSlots: for every a, size and power the law's call returns true; no condition. -/
import Derived.Laws.BitsAllLaws
import Derived.BigQuiet
import Derived.Deep.QuietTactic
import Derived.Handy
import Derived.Test.YtaadebhelgheeaaA
import Derived.Test.YtaadebhelgheeaaRows
import Derived.WalkKit
import Derived.ProofKit
import Derived.OpenShut
namespace Go.Proofs.Ytaadebhelgheeaa.seqwordSlots
open Go.ChangeShapes Go.WideShapes Go.ChangeAt Go.RowKit
set_option linter.unusedVariables false      -- a walk need not use every 'w<i>' (that an integer argument fits its kind)

theorem own : ownKnob Try.prog.godebug = none := by kernel_rfl

/-! ### STEP 1: THE WALK: the Go text returns true. 'Grown w w'': the world has at most new blocks (Derived/RowKit3.lean). Part the cases AHEAD of 'go_enter' where a test parts the walk; take each callee by a contract of your own. -/
theorem quiet_same {P : Program} {f : FuncId} {args : Array Value} {w : World} {n : Nat} {v : Value}
    (h : Calls P f args (w.drewN n) fun e w' => e = .returned v ∧ w.drewN n = w') : Calls P f args (w.drewN n) fun e w'' => e = .returned v ∧ ∃ m, w'' = w.drewN m :=
  h.mono fun _ _ ⟨he, hm⟩ => ⟨he, n, hm.symm⟩
theorem quiet_add {P : Program} {f : FuncId} {args : Array Value} {w : World} {a n : Nat} {v : Value}
    (h : Calls P f args (w.drewN (a + n)) fun e w' => e = .returned v ∧ w.drewN (a + n) = w') :
    Calls P f args (w.drewN (a + n)) fun e w'' => e = .returned v ∧ ∃ m, w'' = w.drewN (a + m) :=
  h.mono fun _ _ ⟨he, hm⟩ => ⟨he, n, hm.symm⟩
theorem grown_drewN {a w : World} (h : Grown a w) (n : Nat) : Grown a (w.drewN n) := h
theorem nx_bd (a n : Int) : 0 ≤ nx a n ∧ nx a n ≤ 18446744073709551615 := by unfold nx; omega
theorem and31 (x : Int) (b : -9223372036854775808 ≤ x ∧ x ≤ 9223372036854775807) : ∃ K : Int, bits BinOp.and IntKind.i64 x 31 = K ∧ 0 ≤ K ∧ K ≤ 31 := by
  refine ⟨_, rfl, ?_⟩
  have h : bits BinOp.and IntKind.i64 x 31 = IntKind.i64.wrap ((BitVec.ofInt 64 x &&& BitVec.ofInt 64 31).toNat : Int) := by unfold bits; rfl
  rw [h, BitVec.toNat_and]
  have h1 : (BitVec.ofInt 64 31).toNat = 31 := by decide
  rw [h1, nat_mask5, IntWalk.i64_left, wrap_i64]
  omega
theorem pow_dvd (j : Nat) (h : j ≤ 31) : ∃ q : Int, (9223372036854775808 : Int) = q * 2 ^ j := by
  refine ⟨2 ^ (63 - j), ?_⟩
  rw [← Int.pow_add, show 63 - j + j = 63 by omega]
  decide
theorem slots_at (K : Int) (h0 : 0 ≤ K) (h1 : K ≤ 31) : ∃ p : Int, wrap64 (2 ^ K.toNat) = p ∧ 1 ≤ p ∧ p ≤ 2147483648 ∧ ∀ x, 0 ≤ sl x p ∧ sl x p < p ∧ sl (nx x 1) p = (sl x p + 1) % p := by
  obtain ⟨q, hq⟩ := pow_dvd K.toNat (by omega)
  have hp1 : (1 : Int) ≤ 2 ^ K.toNat := by have := Int.pow_pos (n := 2) (m := K.toNat) (by decide); omega
  have hp2 : (2 : Int) ^ K.toNat ≤ 2147483648 := by
    have := Nat.pow_le_pow_right (n := 2) (by decide) (show K.toNat ≤ 31 by omega)
    have e : ((2 ^ K.toNat : Nat) : Int) = (2 : Int) ^ K.toNat := by simp
    omega
  generalize (2 : Int) ^ K.toNat = P at hq hp1 hp2
  refine ⟨P, by rw [wrap_i64]; omega, hp1, hp2, fun x => ?_⟩
  have e : ∀ y, sl y P = y % P := fun y => by
    unfold sl
    rw [if_neg (by omega), hq, Int.emod_emod_of_dvd y ⟨q, Int.mul_comm _ _⟩]
  have en : sl (nx x 1) P = (x + 1) % P := by
    rw [e]
    unfold nx
    rw [hq, Int.emod_emod_of_dvd _ ⟨q, Int.mul_comm _ _⟩]
  rw [en, e, Int.emod_add_emod]
  exact ⟨Int.emod_nonneg _ (by omega), Int.emod_lt_of_pos _ (by omega), rfl⟩
set_option maxHeartbeats 1000000 in
theorem walk (a0 : Int) (a1 : Int) (a2 : Int) (w0 : (Lit.int .u64 a0).wf = true) (w1 : (Lit.int .i64 a1).wf = true) (w2 : (Lit.int .i64 a2).wf = true) (w : World) :
    Calls Try.prog 8 #[.int .u64 a0, .int .i64 a1, .int .i64 a2] w fun e w' => e = .returned (.bool true) ∧ Grown w w' := by
  have b0 := bounds_u64 w0
  have b1 := bounds_i64 w1
  have b2 := bounds_i64 w2
  obtain ⟨K, hK, k1, k2⟩ := and31 a2 b2
  obtain ⟨p, hp, p1, p2, hx⟩ := slots_at K k1 k2
  obtain ⟨u0, u1, u2⟩ := hx a0
  obtain ⟨v0, v1, v2⟩ := hx 9223372036854775807
  obtain ⟨x0, x1, x2⟩ := hx 9223372036854775806
  obtain ⟨y0, y1, y2⟩ := hx 0
  clear hx b2
  go_enter Try.func8, Try.ntmps8
  go_wp2_with (first | (go_at_call 9; refine (awake_any _).mono ?_; rintro e w' ⟨rfl, rfl⟩))
  refine wp_loop_rounds 5 ?_
  iterate 4 (rw [rounds_succ]; go_wp2_with (first | (go_at_call 21; refine (slot_any _ _ _ (by omega) (by omega) (by omega)).mono ?_; rintro e w' ⟨rfl, rfl⟩) | (go_at_call 22; refine (rslot_any _ _ _ (by omega) (by omega) (by omega)).mono ?_; rintro e w' ⟨rfl, rfl⟩) | (go_at_call 10; refine (next_any _ _ _).mono ?_; rintro e w' ⟨rfl, rfl⟩)); go_quiet ((first | (go_at_call 10; first | exact quiet_same (next_any _ _ _) | exact quiet_add (next_any _ _ _)) | (go_at_call 21; first | exact quiet_same (slot_any _ _ _ (nx_bd _ _).1 (nx_bd _ _).2 (by omega)) | exact quiet_add (slot_any _ _ _ (nx_bd _ _).1 (nx_bd _ _).2 (by omega))))); go_wp2)
  rw [rounds_succ]
  go_wp2
  go_ret
  exact ⟨rfl, grown_drewN (by go_grown) _⟩

/-! ### THE ROW's STEP: WRITTEN OUT: LEAVE IT -/
set_option maxRecDepth 100000 in
theorem lifted (os : Os) (started : os.Started) (H : Type) (enc : TypeId × Value → H) :
    ReturnsInHanded {} Try.checked os 8 .any (Rows.seqwordSlotsSpec.pre6 enc Try.prog Try.f8 Rows.seqwordSlotsRow.domain false) (Rows.seqwordSlotsSpec.post enc Try.prog Try.f8 false true false false) := by
  refine returnsInHanded_of_change (C := Try.checked) own started (by kernel_rfl) Try.func8
    (ChangeSpec.witness6 (enc := enc) (C := Try.checked) false ⟨#[], #[.int .u64 0, .int .i64 0, .int .i64 0], []⟩ 8 (by kernel_rfl) (by kernel_rfl) (by kernel_rfl) (by kernel_rfl)) ?_
  intro W base args ds gs before hval0 hW hcnd _
  have hval : ∀ (j : Nat) t v, Try.f8.params[j]? = some t → args[j]? = some v → Value.okWide Try.prog W .any base t v := hval0
  have hW' := hW
  obtain ⟨p, q, hA0, hV, rfl, hfz, hnd⟩ := hW
  have hA : DataW.TrodAll enc Try.prog W 0 (fun _ => true) true Try.f8.params.toList args.toList ds p := hA0
  rw [Try.params8] at hA hval
  obtain ⟨v0, vs0, d0, ds0, p0, q0, hargs, rfl, rfl, h0, r0⟩ := trodAll_cons hA
  obtain ⟨v1, vs1, d1, ds1, p1, q1, rfl, rfl, rfl, h1, r1⟩ := trodAll_cons r0
  obtain ⟨v2, vs2, d2, ds2, p2, q2, rfl, rfl, rfl, h2, r2⟩ := trodAll_cons r1
  obtain ⟨rfl, rfl, rfl⟩ := trodAll_nil r2
  obtain rfl : args = #[v0, v1, v2] := by cases args; simp_all
  obtain ⟨rfl, rfl⟩ := trodVars_none hV
  obtain ⟨a0, rfl, rfl, rfl, w0⟩ := open_int Try.underlying22 (hval 0 22 v0 rfl rfl) h0
  obtain ⟨a1, rfl, rfl, rfl, w1⟩ := open_int Try.underlying3 (hval 1 3 v1 rfl rfl) h1
  obtain ⟨a2, rfl, rfl, rfl, w2⟩ := open_int Try.underlying3 (hval 2 3 v2 rfl rfl) h2
  clear hA0 hval0
  simp only [List.append_nil] at hW'
  refine (walk a0 a1 a2 w0 w1 w2 W).mono fun e W' ⟨he, hg⟩ => ?_
  subst he
  exact ⟨_, rfl, post_of_same (pa := []) (pv := []) hW' (fun _ _ _ => (trodAll_cons_mk (shut_bool Try.underlying4 _) trodAll_mk0)) (fun sp _ => (trodAll_cons_mk (shut_int Try.underlying22 w0) (trodAll_cons_mk (shut_int Try.underlying3 w1) (trodAll_cons_mk (shut_int Try.underlying3 w2) trodAll_mk0)))) (fun _ _ => rfl) rfl
    (hg.frame _) hg.2.1 (ok_one (by kernel_rfl) rfl (okWide_bool_mk Try.underlying4 _))⟩

theorem over : Rows.seqwordSlotsRow.holds Try.pinned (OpenSpec.ofChange Rows.seqwordSlotsSpec) :=
  OpenClaim.holds_of_wide 8 Try.f8 rfl rfl rfl rfl rfl rfl rfl ⟨rfl, rfl, rfl, rfl, rfl⟩ rfl rfl rfl rfl rfl (by kernel_rfl) Try.func8 (by kernel_rfl)
    (of_decide_eq_true (by kernel_rfl)) (by unfold Func.isWrapper; first | (rw [if_pos (by decide +kernel)]; kernel_rfl) | (rw [if_neg (by decide +kernel)]; exact ⟨rfl, rfl⟩))
    (fun os started H enc _ => lifted os started H enc)

/-- ████ THE STATEMENT ████ -/
theorem proved : Rows.SeqwordSlotsSaid :=
  over
#print axioms proved
end Go.Proofs.Ytaadebhelgheeaa.seqwordSlots
