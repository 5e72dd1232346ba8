/- What the ring's laws read; what holds behind a run. -/
import Derived.Test.YtepngbdjobckbaaGreatRE
import Derived.Test.YtepngbdjobckbaaGreatYY
namespace Go.Proofs.YtepngbdjobckbaaGreat
open Go.RowKit
set_option linter.unusedVariables false
set_option linter.unusedSimpArgs false
section
attribute [local irreducible] Go.bits
theorem rdiff_any (a n : Int) (w : World) :
    Calls Tryz.prog 10 #[.int .u64 a, .int .u64 n] w fun e w' => e = .returned (.int .i64 (df a n)) ∧ w = w' := by
  go_enter Tryz.func10, Tryz.ntmps10
  go_wp2
  · rename_i h
    go_ret
    rw [mask63_wrap] at h
    exact ⟨ret_u64 _ (by simp only [mask63_wrap]; exact df_ref _ _ h), rfl⟩
  · rename_i h
    go_ret
    rw [mask63_wrap] at h
    exact ⟨ret_u64 _ (by simp only [mask63_wrap]; exact df_ref' _ _ h), rfl⟩
end
/-- Below: a call that leaves the world. -/
theorem below_same {P : Program} {f : FuncId} {args : Array Value} {w : World} {v : Value} (h : Calls P f args w fun e w' => e = .returned v ∧ w = w') : Calls P f args w fun e w' => e = .returned v ∧ Below w.heap.size w w' :=
  h.mono fun _ _ hh => ⟨hh.1, hh.2 ▸ Below.refl _ _⟩
theorem isi_at0 {w : World} {A : Option Addr} {n : Nat} {l : List Int} {k : IntKind} (h : IsI k w A n l) (hn : 0 < n) : ∃ ad, A = some ad ∧ w.cell? ad = some (.int k (l.getD 0 0)) := by
  obtain ⟨ad, e, -, hc⟩ := h.at_ hn
  exact ⟨ad, e, by rwa [show ad.add 0 = ad by rcases ad with ⟨_, _, _ | _⟩ <;> rfl] at hc⟩
set_option maxHeartbeats 4000000 in
set_option maxRecDepth 100000 in
theorem used_any (w : World) (A : Option Addr) (n c : Nat) (l : List Int) (B : Option Addr) (m d : Nat) (t : Int) (h : Cf w A n l) (hn : 0 < n) (MA : Option Addr) (mn mc : Nat) (ws : List Int) (LA : Option Addr) (ln lc : Nat) (tk : Int) (hi : IsI .u64 w MA mn ws) (h2 : 2 ≤ mn) (hu0 : u64 (ws.getD 0 0)) :
    Calls Tryz.prog 9 #[.agg #[.slice A n c, .slice B m d, .int .i64 t], .agg #[.slice MA mn mc, .slice LA ln lc, .int .i64 tk]] w fun e w' => e = .returned (.tuple #[.int .i64 (rest (ws.getD 0 0 / 2) (ws.getD 1 0)), .bool (cl (ws.getD 0 0))]) ∧ Below w.heap.size w w' := by
  have KC := hide ((Bk.new w 30 #[.slice A n c, .slice B m d, .int .i64 t]).alloc (.cells #[.slice MA mn mc, .slice LA ln lc, .int .i64 tk] 33))
  have KM : Hid (Bk ((w.alloc (.cells #[.slice A n c, .slice B m d, .int .i64 t] 30)).alloc (.cells #[.slice MA mn mc, .slice LA ln lc, .int .i64 tk] 33)) (w.heap.size + 1) 33 #[.slice MA mn mc, .slice LA ln lc, .int .i64 tk]) := hide (by simpa using Bk.new (w.alloc (.cells #[.slice A n c, .slice B m d, .int .i64 t] 30)) 33 #[.slice MA mn mc, .slice LA ln lc, .int .i64 tk])
  have HB := hide (below_next (below_new w (.cells #[.slice A n c, .slice B m d, .int .i64 t] 30)) (below_new _ (.cells #[.slice MA mn mc, .slice LA ln lc, .int .i64 tk] 33)))
  have HC := hide (h.below HB.out)
  have HI := hide (hi.below HB.out)
  have HU := hide hu0
  clear h hi hu0
  go_enter Tryz.func9, Tryz.ntmps9
  go_upto_region 1 with fail
  generalize ((w.alloc (.cells #[.slice A n c, .slice B m d, .int .i64 t] 30)).alloc (.cells #[.slice MA mn mc, .slice LA ln lc, .int .i64 tk] 33)) = W at *
  obtain ⟨ad, hA, x0⟩ := isi_at0 HI.out (show 0 < mn by omega)
  obtain ⟨ad', hA', -, x1⟩ := HI.out.at_ (show 1 < mn by omega)
  rw [hA] at hA'
  cases hA'
  subst hA
  obtain ⟨v0, hv0⟩ : ∃ v, ws.getD 0 0 = v := ⟨_, rfl⟩
  obtain ⟨v1, hv1⟩ : ∃ v, ws.getD 1 0 = v := ⟨_, rfl⟩
  rw [hv0] at x0 HU
  rw [hv1] at x1
  have HV0 := hide hv0
  have HV1 := hide hv1
  clear hv0 hv1
  have Q1 := hide (fun (u : Up W) => show Calls Tryz.prog 7 #[.agg #[.slice A n c, .slice B m d, .int .i64 t], .int .i64 0] u.1 fun e w' => e = .returned (.int .i64 0) ∧ Below u.1.heap.size u.1 w' from by
    have := rtl_any u.1 A n c l B m d t (HC.out.below u.2) 0 (by omega)
    rwa [show tlN l 0 = 0 from rfl] at this)
  have Q2 := hide (fun (u : Up W) => show Calls Tryz.prog 8 #[.agg #[.slice A n c, .slice B m d, .int .i64 t], .int .i64 0] u.1 fun e w' => e = .returned (.int .i64 1) ∧ Below u.1.heap.size u.1 w' from by
    have := rhead_any u.1 A n c l B m d t (HC.out.below u.2) 0 (by omega)
    rwa [show tlN l 0 + 1 = 1 from rfl] at this)
  have c0 := fun u => up_cell (KC.out.cell 0) u
  have c1 := fun u => up_cell (KC.out.cell 1) u
  have c2 := fun u => up_cell (KC.out.cell 2) u
  have m0 := fun u => up_cell (KM.out.cell 0) u
  have y0 := fun u => up_cell x0 u
  have x1' : W.cell? ⟨ad.block, ad.off + 1, none⟩ = some (.int .u64 v1) := x1
  have y1 := fun u => up_cell x1' u
  have e1 : decide (mn ≤ 0) = false := by simp; omega
  have e2 : decide (mn ≤ 1) = false := by simp; omega
  clear x0 x1 x1' HC HI
  refine wp_region_up (by kernel_rfl) (by kernel_rfl) ?_
  repeat (go_big_quiet_step (first
    | (go_at_call 7; exact up_call (Q1.out _))
    | (go_at_call 8; exact up_call (Q2.out _))))
  refine wpQuiet_nil ?_
  rintro _ ⟨u, rfl⟩
  have HB2 := hide (HB.out.trans (u.2.mono HB.out.size))
  clear c0 c1 c2 m0 y0 y1 Q1 Q2 e1 e2 KC KM HB
  generalize u.1 = W2 at *
  clear u
  go_wp2_with fail
  refine (rseq_any _ _).mono ?_
  rintro e _ ⟨rfl, rfl⟩
  go_wp2_with fail
  refine (rrest_any _ _ _).mono ?_
  rintro e _ ⟨rfl, rfl⟩
  go_wp2_with fail
  refine (rclosed_any _ _ HU.out.1 HU.out.2).mono ?_
  rintro e _ ⟨rfl, rfl⟩
  go_wp2
  exact bodyPost_ret (v := .tuple #[.int .i64 ((v0 / 2 - v1) % 9223372036854775808), .bool (cl v0)]) (by simp [results, Tryz.results9, go_sem]) rfl ⟨by rw [HV0.out, HV1.out]; rfl, HB2.out⟩
/-! ### Behind a run -/
theorem plays_ind {P : St → Prop} (hstp : ∀ s i, P s → P (stp s i)) {s : St} (h : P s) (p : List Int) (most turns : Nat) : P (plays p most turns s) := by
  have h1 : ∀ j, P (pl1 p s j) := by
    intro j
    induction j with
    | zero => exact h
    | succ j ih => rw [pl1]; exact hstp _ _ ih
  have h3 : ∀ s', P s' → ∀ i, P (pl3 s' i) := by
    intro s' hs' i
    induction i with
    | zero => exact hs'
    | succ i ih => rw [pl3]; exact hstp _ _ ih
  have h2 : ∀ K s', P s' → ∀ m, P (pl2 K s' m) := by
    intro K s' hs' m
    induction m with
    | zero => exact hs'
    | succ m ih => rw [pl2]; exact h3 _ ih _
  rw [plays]
  exact h2 _ _ (h1 _) _
theorem stp_l (s : St) (i : Nat) : (stp s i).l = s.l ∧ (stp s i).th = s.th := by
  unfold stp
  split
  · exact ⟨rfl, rfl⟩
  · split <;> exact ⟨rfl, rfl⟩
theorem stp_what (s : St) (i : Nat) : (stp s i).ms.map Mc.what = s.ms.map Mc.what := by
  unfold stp
  split
  · rfl
  next x hx =>
    split
    · rfl
    · show (s.ms.set i _).map Mc.what = _
      apply List.ext_getElem?
      intro j
      rw [List.getElem?_map, List.getElem?_map]
      by_cases e : i = j
      · subst e
        rw [List.getElem?_set_self (List.getElem?_eq_some_iff.1 hx).1, hx]
        simp [mres_what]
      · rw [List.getElem?_set_ne e]
/-- The trace's machines are there. -/
def ThOk (s : St) : Prop := ∀ it ∈ s.tr, ∃ k : Nat, it.th = (k : Int) ∧ k < s.ms.length
theorem thok_stp (s : St) (i : Nat) (h : ThOk s) : ThOk (stp s i) := by
  have hl := stp_len s i
  intro it hit
  rw [hl]
  unfold stp at hit
  split at hit
  · exact h it hit
  next x hx =>
    split at hit
    · exact h it hit
    · have hit' : it ∈ s.tr ++ [_] := hit
      rcases List.mem_append.1 hit' with h1 | h1
      · exact h it h1
      · rw [List.mem_singleton.1 h1]
        exact ⟨i, rfl, (List.getElem?_eq_some_iff.1 hx).1⟩
theorem ri_pl3 {c s0 : Int} {s : St} (H : ∃ f, RI c s0 f s) : ∀ i, s.tr.length + i ≤ 400000 → (∃ f, RI c s0 f (pl3 s i)) ∧ (pl3 s i).tr.length ≤ s.tr.length + i := by
  intro i
  induction i with
  | zero => exact fun _ => ⟨H, Nat.le_refl _⟩
  | succ i ih =>
    intro h
    obtain ⟨⟨f, hf⟩, ht⟩ := ih (by omega)
    rw [pl3]
    exact ⟨hf.step _ (by omega), Nat.le_trans (stp_tr _ _) (by omega)⟩
theorem ri_pl2 {c s0 : Int} {s : St} (K : Nat) (H : ∃ f, RI c s0 f s) : ∀ m, s.tr.length + m * K ≤ 400000 → (∃ f, RI c s0 f (pl2 K s m)) ∧ (pl2 K s m).tr.length ≤ s.tr.length + m * K := by
  intro m
  induction m with
  | zero => exact fun _ => ⟨H, by rw [pl2]; omega⟩
  | succ m ih =>
    intro h
    rw [Nat.succ_mul] at h ⊢
    obtain ⟨h1, h2⟩ := ih (by omega)
    rw [pl2]
    obtain ⟨h3, h4⟩ := ri_pl3 h1 K (by omega)
    exact ⟨h3, by omega⟩
theorem ri_all {c s0 : Int} {s : St} (H : ∃ f, RI c s0 f s) (p : List Int) (hl : s.ms.length ≤ 20) (ht : s.tr.length ≤ 100) : (∃ f, RI c s0 f (plays p 200 200 s)) ∧ (plays p 200 200 s).tr.length ≤ 10000 := by
  rw [plays]
  have hmin : min p.length 200 ≤ 200 := Nat.min_le_right _ _
  obtain ⟨h1, h2⟩ := ri_pl1 H p (min p.length 200) (by omega)
  have hK : 200 * s.ms.length ≤ 200 * 20 := Nat.mul_le_mul_left _ hl
  obtain ⟨h3, h4⟩ := ri_pl2 s.ms.length h1 200 (by omega)
  exact ⟨h3, by omega⟩
theorem df_up {s0 : Int} {a b : Nat} (h : a ≤ b) (hb : b ≤ 1000000) : decide (df (nx s0 b) (nx s0 a) < 0) = false := by
  simp only [decide_eq_false_iff_not]
  unfold df nx
  split <;> omega
/-- A run's state. -/
theorem run_ri {shuts : Nat} {l s : List Int} {tn : Nat} {ms : List Mc} (R : RunOk shuts l s tn ms) (hsh : shuts ≤ 3) (p : List Int) :
    ∃ f, RI (l.getD 0 0) (s.getD 0 0) f (plays p 200 200 { st0 l s tn with ms := ms }) ∧ (plays p 200 200 { st0 l s tn with ms := ms }).tr.length ≤ 10000 ∧ (plays p 200 200 { st0 l s tn with ms := ms }).l = l ∧ (plays p 200 200 { st0 l s tn with ms := ms }).ms.map Mc.what = ms.map Mc.what ∧ (plays p 200 200 { st0 l s tn with ms := ms }).ms.length = ms.length ∧ ThOk (plays p 200 200 { st0 l s tn with ms := ms }) ∧
      (0 < shuts → ∃ (k : Nat) (x : Mc), (plays p 200 200 { st0 l s tn with ms := ms }).ms[k]? = some x ∧ x.what = 5 ∧ x.at_ = 0) := by
  have hb : 0 ≤ s.getD 0 0 ∧ s.getD 0 0 < 9223372036854775808 := by
    have h1 := R.n1
    have h2 := R.sl
    rw [List.getD, List.getElem?_eq_getElem (by omega)]
    exact R.sb _ (List.getElem_mem _)
  have H0 : ∃ f, RI (l.getD 0 0) (s.getD 0 0) f { st0 l s tn with ms := ms } := ⟨_, ri_init R.cap R.n1 R.c1 hb R.mo⟩
  have hlen := R.len
  obtain ⟨⟨f, hf⟩, ht⟩ := ri_all H0 p (show ms.length ≤ 20 by omega) (show ([] : List It).length ≤ 100 by simp)
  have hw := plays_ind (P := fun q => q.l = l ∧ q.ms.map Mc.what = ms.map Mc.what ∧ q.ms.length = ms.length ∧ ThOk q) (fun q i h => ⟨(stp_l q i).1.trans h.1, (stp_what q i).trans h.2.1, (stp_len q i).trans h.2.2.1, thok_stp q i h.2.2.2⟩) (s := { st0 l s tn with ms := ms }) ⟨rfl, rfl, rfl, fun it h => by simp [st0] at h⟩ p 200 200
  refine ⟨f, hf, ht, hw.1, hw.2.1, hw.2.2.1, hw.2.2.2, fun h => ?_⟩
  obtain ⟨k, x, hx, h5⟩ := R.sh h
  obtain ⟨-, x', h1, h2, h3⟩ := ri_plays H0 (k := k) (x := x) hx (.inl h5) p 200 200 (by omega) (by omega) (show ms.length ≤ 20 by omega) (show ([] : List It).length ≤ 100 by simp) (show 4 + 2 * ms.length < 200 by omega)
  exact ⟨k, x', h1, by rw [h2, h5], h3⟩
end Go.Proofs.YtepngbdjobckbaaGreat
