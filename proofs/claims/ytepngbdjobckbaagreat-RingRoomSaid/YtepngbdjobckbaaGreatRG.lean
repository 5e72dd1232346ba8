/- RingRoom: what it answers. -/
import Derived.Test.YtepngbdjobckbaaGreatRF
import Derived.Test.YtepngbdjobckbaaGreatA11
namespace Go.Proofs.YtepngbdjobckbaaGreat
open Go.RowKit
set_option linter.unusedVariables false
set_option linter.unusedSimpArgs false
/-- append of a whole slice as one step of a region. -/
theorem step_cat {P : Program} {ops : Array Oper} {o : Oper} {a : Act} {K : Act → World → Prop} {Q : Exit → Act → World → Prop} {E : Prop} (w : World) (hgd : o.guard = none) (s x : Operand) (t : TypeId)
    (ho : o.op = .call { callee := .builtin .append, args := #[s, x], argTypes := #[t, t] })
    (base : Nat) (e : TypeId) (i : TypeInfo) (z : Value) (size bytes : Nat) (ht : P.underlying t = some (.slice e)) (hi : P.info? e = some i) (hz : i.zero = some z)
    (hsize : i.size = size) (hby : i.bytes = bytes) (hzs : z.cells.size = size) (hsz : 0 < size)
    (v : Value) (n : Nat) (xs : List Value) (hs : a.eval s = v) (hown : w.ownsRow base e size v n xs)
    (A : Option Addr) (m c : Nat) (ys : List Value) (hx : a.eval x = .slice A m c) (hr : Rds w A m size ys) (h1 : ∀ u ∈ ys, u.oneCell' = true)
    (hn : n + m ≤ 1073741824) (hb8 : bytes ≤ 65536) (hbase : base ≤ w.heap.size)
    (h : ∀ v' w', w'.ownsRow base e size v' (n + m) (xs ++ ys) → w.grownBy w' v.ownBlock → (v'.ownBlock = v.ownBlock ∨ v'.ownBlock = some w.heap.size) → K (a.put o.dst v') w') :
    if Region.wanted o (yielded ops a.tmps) = true then Oper.wp P o a w K Q else E := by
  have hw : Region.wanted o (yielded ops a.tmps) = true := by simp [Region.wanted, hgd]
  rw [if_pos hw]
  have hm : (n + m) * bytes ≤ 140737488355328 := Nat.le_trans (Nat.mul_le_mul (show n + m ≤ 1073741825 by omega) hb8) (by omega)
  have fin : ∃ v' w', (Builtin.append_ #[t, t] o.type #[v, .slice A m c]).run P w = .ok v' w' ∧ w'.ownsRow base e size v' (n + m) (xs ++ ys) ∧ w.grownBy w' v.ownBlock ∧ (v'.ownBlock = v.ownBlock ∨ v'.ownBlock = some w.heap.size) := by
    cases A with
    | none =>
      have hm0 : m = 0 := by
        rcases Nat.eq_zero_or_pos m with h0 | h0
        · exact h0
        · obtain ⟨ad, h, _⟩ := hr.2 h0
          cases h
      subst hm0
      have hy : ys = [] := List.eq_nil_of_length_eq_zero (by simpa using hr.1)
      subst hy
      exact ⟨v, w, run_cat_nil w base t o.type e i size ht hi v n xs hown c, by simpa using hown, World.grownBy.refl w _, .inl rfl⟩
    | some ad =>
      have hcells : ∀ j u, ys[j]? = some u → w.cell? (ad.add j) = some u := by
        intro j u hu
        rcases Nat.eq_zero_or_pos m with h0 | h0
        · subst h0
          have hy : ys = [] := List.eq_nil_of_length_eq_zero (by simpa using hr.1)
          subst hy
          simp at hu
        · obtain ⟨ad', h, _, hc⟩ := hr.2 h0
          injection h with h
          subst h
          exact hc j u hu
      obtain ⟨v', w', hrun, h2, h3, _, h5⟩ := run_append_own_at (P := P) w base t o.type e i z size bytes ht hi hz hsize hby hzs hsz v n xs hown ad m c ys hr.1 hcells h1 (by unfold maxLen; omega) hm hbase
      exact ⟨v', w', hrun, h2, h3, h5⟩
  obtain ⟨v', w', hrun, h2, h3, h4⟩ := fin
  unfold Oper.wp execOp
  simp only [ho, resolve, invoke, builtin, Sem.run_bind, Sem.run_pure, Result.andThen_ok, List.map_toArray, List.map_cons, List.map_nil, hs, hx, hrun]
  exact h v' w' h2 h3 h4
theorem pm_one {w : World} {ps : List (Array Value)} {pa : List (List Int)} (h : All2 (Pm w) ps pa) : ∀ u ∈ ps.flatMap Array.toList, u.oneCell' = true := by
  intro u hu
  obtain ⟨cs, hcs, huc⟩ := List.mem_flatMap.1 hu
  obtain ⟨i, hi, rfl⟩ := List.mem_iff_getElem.1 hcs
  have hi' : i < pa.length := by rw [← h.1]; exact hi
  obtain ⟨A, n, c, B, m, d, tk, e, -⟩ := h.2 i _ _ (List.getElem?_eq_getElem hi) (List.getElem?_eq_getElem hi')
  rw [e] at huc
  simp only [List.mem_cons, List.not_mem_nil, or_false] at huc
  rcases huc with rfl | rfl | rfl <;> rfl
theorem pm_sz {w : World} {ps : List (Array Value)} {pa : List (List Int)} (h : All2 (Pm w) ps pa) : ∀ x ∈ ps, x.toList.length = 3 := by
  intro x hx
  obtain ⟨i, hi, rfl⟩ := List.mem_iff_getElem.1 hx
  have hi' : i < pa.length := by rw [← h.1]; exact hi
  obtain ⟨A, n, c, B, m, d, tk, e, -⟩ := h.2 i _ _ (List.getElem?_eq_getElem hi) (List.getElem?_eq_getElem hi')
  rw [e]
  rfl
theorem room_ok {c s0 : Int} {f : Nat → Rq} {st : St} (H : RI c s0 f st) : ∀ j ws, (st.pa ++ [st.ws])[j]? = some ws → j ≤ st.tr.length ∧ Okw c s0 ws (f j) := by
  intro j ws hj
  have hpl := H.pl
  rcases Nat.lt_or_ge j st.pa.length with h | h
  · rw [List.getElem?_append_left h] at hj
    exact ⟨by omega, H.pa j ws hj⟩
  · rw [List.getElem?_append_right h] at hj
    cases e : j - st.pa.length with
    | zero =>
      rw [e] at hj
      simp at hj
      subst hj
      rw [show j = st.tr.length by omega]
      exact ⟨Nat.le_refl _, H.ok⟩
    | succ k =>
      rw [e] at hj
      simp at hj
theorem room_rest {c s0 : Int} {u : List Int} {q : Rq} (H : Okw c s0 u q) (ha : q.a ≤ 1000000) : rest (nx s0 q.a) (nx s0 q.b) = (q.a : Int) - q.b ∧ (q.a : Int) - q.b ≤ c := by
  have h1 := H.ba
  have h2 := H.ac
  rcases rest_nx (s0 := s0) ha (show q.b ≤ 1000000 by omega) with ⟨-, h⟩ | ⟨h, -⟩
  · exact ⟨h, by omega⟩
  · omega
theorem rg3 {w : World} {g o : Nat} {a0 a1 a2 : Value} (h : w.rangeAt g o [a0, a1, a2]) :
    w.cell? ⟨g, o, none⟩ = some a0 ∧ w.cell? ⟨g, o + 1, none⟩ = some a1 ∧ w.cell? ⟨g, o + 2, none⟩ = some a2 :=
  ⟨h 0 _ rfl, h 1 _ rfl, h 2 _ rfl⟩
/-- One row of the ring's readings. -/
theorem room_row {w : World} {base gR LC : Nat} {LS : List (Array Value)} {pa : List (List Int)} (hp : All2 (Pm w) LS pa) (how : w.ownsRow base 33 3 (.slice (some ⟨gR, 0, none⟩) LS.length LC) LS.length (LS.flatMap Array.toList)) {c s0 : Int} {f : Nat → Rq} (hok : ∀ j ws, pa[j]? = some ws → Okw c s0 ws (f j)) (hc : 1 ≤ c ∧ c ≤ 16) {j : Nat} (hj : j < LS.length) :
    ∃ (ad : Addr) (n cc : Nat) (B : Option Addr) (m d : Nat) (tk : Int) (ws : List Int), w.cell? ⟨gR, j * 3, none⟩ = some (.slice (some ad) n cc) ∧ w.cell? ⟨gR, j * 3 + 1, none⟩ = some (.slice B m d) ∧ w.cell? ⟨gR, j * 3 + 2, none⟩ = some (.int .i64 tk) ∧ IsI .u64 w (some ad) n ws ∧ 2 ≤ n ∧ w.cell? ad = some (.int .u64 (pk (nx s0 (f j).a) (f j).z)) ∧ w.cell? ⟨ad.block, ad.off + 1, none⟩ = some (.int .u64 (nx s0 (f j).b)) ∧ Okw c s0 ws (f j) := by
  have hj' : j < pa.length := by rw [← hp.1]; exact hj
  have e1 := List.getElem?_eq_getElem hj
  have e2 := List.getElem?_eq_getElem hj'
  obtain ⟨A, n, cc, B, m, d, tk, e, hi, -, -⟩ := hp.2 j _ _ e1 e2
  have ok := hok j _ e2
  have hr := own_rangeA (pm_sz hp) how e1
  rw [e] at hr
  obtain ⟨k0, k1, k2⟩ := rg3 hr
  have hn : 2 ≤ n := by
    have := hi.len
    have := ok.wl
    have := (sz_bd c (by omega) hc.2).1
    omega
  obtain ⟨ad, hA, x0⟩ := isi_at0 hi (show 0 < n by omega)
  obtain ⟨ad', hA', -, x1⟩ := hi.at_ (show 1 < n by omega)
  rw [hA] at hA'
  cases hA'
  subst hA
  rw [ok.w0] at x0
  rw [ok.w1] at x1
  exact ⟨ad, n, cc, B, m, d, tk, _, k0, k1, k2, hi, hn, x0, x1, ok⟩
set_option maxHeartbeats 16000000 in
set_option maxRecDepth 100000 in
theorem room_any (w : World) (a0 : Option Addr) (len0 cap0 : Nat) (l0 : List Int) (hI1 : IsI .u8 w a0 len0 l0) (hB1 : ∀ x ∈ l0, 0 ≤ x ∧ x ≤ 255) (hc1 : len0 ≤ cap0) (hcm1 : cap0 ≤ 9223372036854775807)
    (a1 : Option Addr) (len1 cap1 : Nat) (p : List Int) (hI2 : IsI .u8 w a1 len1 p) (hB2 : ∀ x ∈ p, 0 ≤ x ∧ x ≤ 255) (hl2 : len1 ≤ 9223372036854775807) (x2 : Int) (hx2 : 0 ≤ x2 ∧ x2 ≤ 255) :
    Calls Tryz.prog 3 #[.slice a0 len0 cap0, .slice a1 len1 cap1, .int .u8 x2] w fun e w' => e = .returned (.bool true) ∧ Below w.heap.size w w' := by
  have H1 := hide hI1
  have HB1 := hide hB1
  have H2 := hide hI2
  have HB2 := hide hB2
  obtain ⟨sx, rfl⟩ : ∃ k : Nat, x2 = k := ⟨x2.toNat, by omega⟩
  have hq3 : sx % 3 < 3 := Nat.mod_lt _ (by omega)
  have eT : ((sx : Nat) : Int).tmod 3 = ((sx % 3 : Nat) : Int) := by rw [Int.tmod_eq_emod_of_nonneg (by omega)]; rfl
  generalize sx % 3 = sh at *
  have eU : IntKind.u8.wrap (sh : Int) = (sh : Int) := by simp [IntKind.wrap, IntKind.bits, IntKind.signed]; omega
  have eI : IntKind.i64.wrap (sh : Int) = (sh : Int) := IntWalk.i64_in _ ⟨by omega, by omega⟩
  have hsh : sh ≤ 3 := by omega
  clear hI1 hB1 hI2 hB2 hq3
  go_enter Tryz.func3, Tryz.ntmps3
  go_wp2_with fail
  refine (awake11_any _).mono ?_
  rintro e y1 ⟨rfl, hb1⟩
  have HBA := hide hb1
  clear hb1
  go_wp2_with fail
  refine (run_rg y1 _ _ _ _ (H1.out.below HBA.out) HB1.out hc1 hcm1 _ _ _ _ (H2.out.below HBA.out) HB2.out hl2 sh hsh).mono ?_
  rintro e y2 ⟨G, l, s, tn, ms, rfl, hrg, hok, hG, hb2⟩
  obtain ⟨f, hri, htr, hstl, -, -, -, -⟩ := run_ri hok hsh p
  have HBW := hide (HBA.out.trans (hb2.mono HBA.out.size))
  have hwG : w.heap.size ≤ G := Nat.le_trans HBA.out.size hG
  generalize plays p 200 200 { st0 l s tn with ms := ms } = st at *
  obtain ⟨⟨h, hh⟩, hi⟩ := hrg
  have HH := hide hh
  have II := hide hi
  have RI0 := hide hri
  have OK := hide hok
  have HTR := hide htr
  have HSTL := hide hstl
  have hGlt : G < y2.heap.size := hh.bk.lt
  have hpl : h.ps.length = st.tr.length := by rw [hh.pa.1, hi.pl]
  have HPL := hide hpl
  have hps : h.ps.length ≤ 10000 := by omega
  clear hh hi hri hok htr hstl hb2 hG HBA H1 HB1 H2 HB2 eT eU eI hpl
  obtain ⟨mi0, hmi, hmz, hmsz, hmby⟩ := info_parts Tryz.me_inf
  go_upto_region 4 with fail
  have hvf := own_form HH.out.rP
  obtain ⟨PA, pc, hvP, -⟩ := hvf
  have T4 := hide (fun (W : World) (hW : Below y2.heap.size y2 W) => show W.cell? ⟨G, 8, none⟩ = some (.slice PA h.ps.length pc) ∧ W.cell? ⟨G, 3, none⟩ = some (.slice h.MA h.mn h.mc) ∧ W.cell? ⟨G, 4, none⟩ = some (.slice h.LA h.ln h.lc) ∧ W.cell? ⟨G, 5, none⟩ = some (.int .i64 h.tk) from by
    have hR := HH.out.below hW
    exact ⟨hvP ▸ hR.bk.cell 8, hR.bk.cell 3, hR.bk.cell 4, hR.bk.cell 5⟩)
  have RP := hide (show Rds y2 PA h.ps.length 3 (h.ps.flatMap Array.toList) from by have := HH.out.rP; rw [hvP] at this; exact Rds.of_own this)
  have ONE := hide (pm_one HH.out.pa)
  clear hvP
  go_cut [8] (fun s8 wx => ∃ (LA2 : Option Addr) (LC2 : Nat), s8 = .slice LA2 (h.ps.length + 1) LC2 ∧ wx.ownsRow y2.heap.size 33 3 (.slice LA2 (h.ps.length + 1) LC2) (h.ps.length + 1) (h.ps.flatMap Array.toList ++ [.slice h.MA h.mn h.mc, .slice h.LA h.ln h.lc, .int .i64 h.tk]) ∧ Below y2.heap.size y2 wx)
  case first =>
    refine wp_region_L (fun W => W.cell? ⟨G, 8, none⟩ = some (.slice PA h.ps.length pc) ∧ W.cell? ⟨G, 3, none⟩ = some (.slice h.MA h.mn h.mc) ∧ W.cell? ⟨G, 4, none⟩ = some (.slice h.LA h.ln h.lc) ∧ W.cell? ⟨G, 5, none⟩ = some (.int .i64 h.tk)) 10 (by kernel_rfl) ?_
    have HB := hide (show Below y2.heap.size y2 y2.drew from (Below.refl y2.heap.size y2).drew)
    generalize y2.drew = xd at *
    refine wpAnyL_any (i := 0) (oi := ⟨some 24, _, _, _, _, _⟩) (v := ?vvg4_0_1) rfl (by kernel_rfl) (by kernel_rfl) (by kernel_rfl) (by kernel_rfl) (fun _ _ _ h => h) (fun _ => (T4.out _ HB.out)) (by rfl) ?hhg4_0_1 ?rrg4_0_1
    case hhg4_0_1 => (intro W; go_simp; try with_reducible rfl)
    (try simp only [Act.put, List.setIfInBounds_toArray, List.set_cons_zero, List.set_cons_succ])
    refine wpAnyL_any (i := 1) (oi := ⟨some 25, _, _, _, _, _⟩) (v := ?vvg4_1_2) rfl (by kernel_rfl) (by kernel_rfl) (by kernel_rfl) (by kernel_rfl) (fun _ _ _ h => h) (fun _ => (T4.out _ HB.out)) (by rfl) ?hhg4_1_2 ?rrg4_1_2
    case hhg4_1_2 => (intro W; go_simp; try with_reducible rfl)
    (try simp only [Act.put, List.setIfInBounds_toArray, List.set_cons_zero, List.set_cons_succ])
    refine wpAnyL_any (i := 2) (oi := ⟨some 26, _, _, _, _, _⟩) (v := ?vvg4_2_3) rfl (by kernel_rfl) (by kernel_rfl) (by kernel_rfl) (by kernel_rfl) (fun _ _ _ h => h) (fun _ => (T4.out _ HB.out)) (by rfl) ?hhg4_2_3 ?rrg4_2_3
    case hhg4_2_3 => (intro W; go_simp; try with_reducible rfl)
    (try simp only [Act.put, List.setIfInBounds_toArray, List.set_cons_zero, List.set_cons_succ])
    refine wpAnyL_take (i := 3) (oi := ⟨some 27, _, _, _, _, _⟩) [4, 10, 11] (v := ?vvg4_3_4) rfl (by kernel_rfl) (by kernel_rfl) (by kernel_rfl) (by kernel_rfl) (fun _ _ _ h => h) (T4.out _ HB.out) (by rfl) ?hhg4_3_4 ?rrg4_3_4
    case hhg4_3_4 => (intro W hW; obtain ⟨k8, k3, k4, k5⟩ := hW; go_simp; try with_reducible rfl)
    (try simp only [Act.put, List.setIfInBounds_toArray, List.set_cons_zero, List.set_cons_succ])
    refine wpAnyL_any (i := 5) (oi := ⟨some 29, _, _, _, _, _⟩) (v := ?vvg4_5_5) rfl (by kernel_rfl) (by kernel_rfl) (by kernel_rfl) (by kernel_rfl) (fun _ _ _ h => h) (fun _ => (T4.out _ HB.out)) (by rfl) ?hhg4_5_5 ?rrg4_5_5
    case hhg4_5_5 => (intro W; go_simp; try with_reducible rfl)
    (try simp only [Act.put, List.setIfInBounds_toArray, List.set_cons_zero, List.set_cons_succ])
    refine wpAnyL_any (i := 6) (oi := ⟨some 30, _, _, _, _, _⟩) (v := ?vvg4_6_6) rfl (by kernel_rfl) (by kernel_rfl) (by kernel_rfl) (by kernel_rfl) (fun _ _ _ h => h) (fun _ => (T4.out _ HB.out)) (by rfl) ?hhg4_6_6 ?rrg4_6_6
    case hhg4_6_6 => (intro W; go_simp; try with_reducible rfl)
    (try simp only [Act.put, List.setIfInBounds_toArray, List.set_cons_zero, List.set_cons_succ])
    refine wpAnyL_any (i := 7) (oi := ⟨some 31, _, _, _, _, _⟩) (v := ?vvg4_7_7) rfl (by kernel_rfl) (by kernel_rfl) (by kernel_rfl) (by kernel_rfl) (fun _ _ _ h => h) (fun _ => (T4.out _ HB.out)) (by rfl) ?hhg4_7_7 ?rrg4_7_7
    case hhg4_7_7 => (intro W; go_simp; try with_reducible rfl)
    (try simp only [Act.put, List.setIfInBounds_toArray, List.set_cons_zero, List.set_cons_succ])
    refine wpAnyL_take (i := 8) (oi := ⟨some 32, _, _, _, _, _⟩) [9, 10, 11] (v := ?vvg4_8_8) rfl (by kernel_rfl) (by kernel_rfl) (by kernel_rfl) (by kernel_rfl) (fun _ _ _ h => h) (T4.out _ HB.out) (by rfl) ?hhg4_8_8 ?rrg4_8_8
    case hhg4_8_8 => (intro W hW; obtain ⟨k8, k3, k4, k5⟩ := hW; go_simp; try with_reducible rfl)
    (try simp only [Act.put, List.setIfInBounds_toArray, List.set_cons_zero, List.set_cons_succ])
    refine wpAnyL_some 4 [9] (by kernel_rfl) ?_
    refine wpAnyLs_cons (oi := ⟨some 28, _, _, _, _, _⟩) rfl (fun K hK => ?_) ?_
    · refine step_cat xd (by rfl) _ _ _ (by rfl) y2.heap.size 33 mi0 _ 3 56 Tryz.underlying26 hmi hmz hmsz hmby (by rfl) (by decide) _ 0 [] (by rfl) (World.ownsRow_nil _ _ _ _) _ h.ps.length _ (h.ps.flatMap Array.toList) (by rfl) (RP.out.below HB.out) ONE.out (by omega) (by omega) HB.out.size ?_
      intro v1 r4_4 hown hg hv
      rw [Nat.zero_add, List.nil_append] at hown
      obtain ⟨LA1, LC1, rfl, -⟩ := own_form hown
      have hb : Below xd.heap.size xd r4_4 := own_below (World.ownsRow_nil xd _ 33 3) hg (Nat.le_refl _) (Nat.le_refl _)
      have OW := hide hown
      replace HB := hide (HB.out.trans (hb.mono HB.out.size))
      clear hb hown hg hv
      refine hK.out _ _ (fun _ => (T4.out _ HB.out)) ?_
      clear hK K
      (try simp only [Act.put, List.setIfInBounds_toArray, List.set_cons_zero, List.set_cons_succ])
      refine wpAnyL_one (i := 9) (oi := ⟨some 33, _, _, _, _, _⟩) rfl (by kernel_rfl) (fun K hK => ?_)
      go_simp
      have KE := hide (Bk.new r4_4 33 #[.slice h.MA h.mn h.mc, .slice h.LA h.ln h.lc, .int .i64 h.tk])
      have hb := below_new r4_4 (.cells #[.slice h.MA h.mn h.mc, .slice h.LA h.ln h.lc, .int .i64 h.tk] 33)
      replace OW := hide (own_bel OW.out hb)
      have hbE := HB.out.size
      generalize (World.alloc r4_4 (.cells #[.slice h.MA h.mn h.mc, .slice h.LA h.ln h.lc, .int .i64 h.tk] 33)) = r4_4_9 at *
      generalize (r4_4).heap.size = gE at *
      replace HB := hide (HB.out.trans (hb.mono hbE))
      clear hb
      refine hK.out _ _ (fun _ => (T4.out _ HB.out)) ?_
      clear hK K
      (try simp only [Act.put, List.setIfInBounds_toArray, List.set_cons_zero, List.set_cons_succ])
      refine wpAnyL_one (i := 10) (oi := ⟨some 34, _, _, _, _, _⟩) rfl (by kernel_rfl) (fun K hK => ?_)
      refine step_push3 r4_4_9 (by rfl) (.tmp 28) (.tmp 33) _ (by rfl) y2.heap.size 33 mi0 _ 3 56 Tryz.underlying26 hmi hmz hmsz hmby (by rfl) (by decide) _ _ _ (by rfl) OW.out [.slice h.MA h.mn h.mc, .slice h.LA h.ln h.lc, .int .i64 h.tk] ⟨gE, 0, none⟩ (by rfl) (cells_bkR KE.out) (by rfl) (by simp [Value.oneCell']) (by omega) (by omega) HB.out.size ?_
      intro v2 r4_4_9_10 hown hg hv
      obtain ⟨LA2, LC2, rfl, -⟩ := own_form hown
      have hb : Below y2.heap.size r4_4_9 r4_4_9_10 := own_below OW.out hg (Nat.le_refl _) HB.out.size
      replace OW := hide hown
      replace HB := hide (HB.out.trans (hb))
      clear hown hg hv hb KE
      refine hK.out _ _ (fun h => by first | cases h | simp at h) ?_
      clear hK K
      (try simp only [Act.put, List.setIfInBounds_toArray, List.set_cons_zero, List.set_cons_succ])
      refine wpAnyL_any (i := 11) (oi := ⟨some 8, _, _, _, _, _⟩) (v := ?vvg4_11_9) rfl (by kernel_rfl) (by kernel_rfl) (by kernel_rfl) (by kernel_rfl) (fun _ _ _ h => h) (fun h => by first | cases h | simp at h) (by rfl) ?hhg4_11_9 ?rrg4_11_9
      case hhg4_11_9 => (intro W; go_simp; try with_reducible rfl)
      (try simp only [Act.put, List.setIfInBounds_toArray, List.set_cons_zero, List.set_cons_succ])
      refine wpAnyL_done (by kernel_rfl) ?_ _
      go_wp2_with fail
      go_meet
      case rel => exact ⟨LA2, LC2, rfl, OW.out, HB.out⟩
    refine wpAnyLs_cons (oi := ⟨some 33, _, _, _, _, _⟩) rfl (fun K hK => ?_) ?_
    · go_simp
      have KE := hide (Bk.new xd 33 #[.slice h.MA h.mn h.mc, .slice h.LA h.ln h.lc, .int .i64 h.tk])
      have hb := below_new xd (.cells #[.slice h.MA h.mn h.mc, .slice h.LA h.ln h.lc, .int .i64 h.tk] 33)
      have hbE := HB.out.size
      generalize (World.alloc xd (.cells #[.slice h.MA h.mn h.mc, .slice h.LA h.ln h.lc, .int .i64 h.tk] 33)) = r4_9 at *
      generalize (xd).heap.size = gE at *
      replace HB := hide (HB.out.trans (hb.mono hbE))
      clear hb
      refine hK.out _ _ (fun _ => (T4.out _ HB.out)) ?_
      clear hK K
      (try simp only [Act.put, List.setIfInBounds_toArray, List.set_cons_zero, List.set_cons_succ])
      refine wpAnyL_one (i := 4) (oi := ⟨some 28, _, _, _, _, _⟩) rfl (by kernel_rfl) (fun K hK => ?_)
      refine step_cat r4_9 (by rfl) _ _ _ (by rfl) y2.heap.size 33 mi0 _ 3 56 Tryz.underlying26 hmi hmz hmsz hmby (by rfl) (by decide) _ 0 [] (by rfl) (World.ownsRow_nil _ _ _ _) _ h.ps.length _ (h.ps.flatMap Array.toList) (by rfl) (RP.out.below HB.out) ONE.out (by omega) (by omega) HB.out.size ?_
      intro v1 r4_4_9 hown hg hv
      rw [Nat.zero_add, List.nil_append] at hown
      obtain ⟨LA1, LC1, rfl, -⟩ := own_form hown
      have hb : Below r4_9.heap.size r4_9 r4_4_9 := own_below (World.ownsRow_nil r4_9 _ 33 3) hg (Nat.le_refl _) (Nat.le_refl _)
      have OW := hide hown
      replace KE := hide (KE.out.below hb KE.out.lt)
      replace HB := hide (HB.out.trans (hb.mono HB.out.size))
      clear hb hown hg hv
      refine hK.out _ _ (fun _ => (T4.out _ HB.out)) ?_
      clear hK K
      (try simp only [Act.put, List.setIfInBounds_toArray, List.set_cons_zero, List.set_cons_succ])
      refine wpAnyL_one (i := 10) (oi := ⟨some 34, _, _, _, _, _⟩) rfl (by kernel_rfl) (fun K hK => ?_)
      refine step_push3 r4_4_9 (by rfl) (.tmp 28) (.tmp 33) _ (by rfl) y2.heap.size 33 mi0 _ 3 56 Tryz.underlying26 hmi hmz hmsz hmby (by rfl) (by decide) _ _ _ (by rfl) OW.out [.slice h.MA h.mn h.mc, .slice h.LA h.ln h.lc, .int .i64 h.tk] ⟨gE, 0, none⟩ (by rfl) (cells_bkR KE.out) (by rfl) (by simp [Value.oneCell']) (by omega) (by omega) HB.out.size ?_
      intro v2 r4_4_9_10 hown hg hv
      obtain ⟨LA2, LC2, rfl, -⟩ := own_form hown
      have hb : Below y2.heap.size r4_4_9 r4_4_9_10 := own_below OW.out hg (Nat.le_refl _) HB.out.size
      replace OW := hide hown
      replace HB := hide (HB.out.trans (hb))
      clear hown hg hv hb KE
      refine hK.out _ _ (fun h => by first | cases h | simp at h) ?_
      clear hK K
      (try simp only [Act.put, List.setIfInBounds_toArray, List.set_cons_zero, List.set_cons_succ])
      refine wpAnyL_any (i := 11) (oi := ⟨some 8, _, _, _, _, _⟩) (v := ?vvg4_11_10) rfl (by kernel_rfl) (by kernel_rfl) (by kernel_rfl) (by kernel_rfl) (fun _ _ _ h => h) (fun h => by first | cases h | simp at h) (by rfl) ?hhg4_11_10 ?rrg4_11_10
      case hhg4_11_10 => (intro W; go_simp; try with_reducible rfl)
      (try simp only [Act.put, List.setIfInBounds_toArray, List.set_cons_zero, List.set_cons_succ])
      refine wpAnyL_done (by kernel_rfl) ?_ _
      go_wp2_with fail
      go_meet
      case rel => exact ⟨LA2, LC2, rfl, OW.out, HB.out⟩
    exact wpAnyLs_nil
  case rest =>
  obtain ⟨LA2, LC2, rfl, hown, hb⟩ := hcut
  obtain ⟨w5, hw5⟩ : ∃ q, q = wc := ⟨_, rfl⟩
  subst hw5
  obtain ⟨gR, rfl⟩ : ∃ gR, LA2 = some ⟨gR, 0, none⟩ := by
    rcases hown.2 with ⟨_, h0⟩ | ⟨g, cap, cur, h1, _⟩
    · omega
    · injection h1 with h1 h2 h3
      exact ⟨g, h1⟩
  obtain ⟨LS, hLS⟩ : ∃ q, q = h.ps ++ [#[.slice h.MA h.mn h.mc, .slice h.LA h.ln h.lc, .int .i64 h.tk]] := ⟨_, rfl⟩
  have hLl : LS.length = h.ps.length + 1 := by rw [hLS]; simp
  have hfl : LS.flatMap Array.toList = h.ps.flatMap Array.toList ++ [.slice h.MA h.mn h.mc, .slice h.LA h.ln h.lc, .int .i64 h.tk] := by rw [hLS]; simp
  have hpm : All2 (Pm w5) LS (st.pa ++ [st.ws]) := by
    rw [hLS]
    exact (HH.out.below hb).pa.snoc ⟨_, _, _, _, _, _, _, rfl, (HH.out.below hb).mi, (HH.out.below hb).mty, HH.out.mn⟩
  have HOK := hide (room_ok RI0.out)
  have HPM := hide hpm
  have OW : Hid (w5.ownsRow y2.heap.size 33 3 (.slice (some ⟨gR, 0, none⟩) LS.length LC2) LS.length (LS.flatMap Array.toList)) := hide (by rw [hfl, hLl]; exact hown)
  have HBW5 := hide (HBW.out.trans (hb.mono HBW.out.size))
  have HG5 := hide (HH.out.below hb).bk
  have HC5 := hide (HH.out.below hb).cf
  have HLL := hide hLl
  have hN : LS.length ≤ 10001 := by omega
  have hN1 : 0 < LS.length := by omega
  have hln : 0 < h.n := by have := OK.out.n1; have := HH.out.cf.len; have := HSTL.out; rw [HSTL.out] at *; omega
  clear hown hb hLS hfl hpm HH RP ONE T4 HBW
  rw [← hLl]
  clear hLl
  go_upto_region 5 with fail

  have Q1 := hide (fun (u : Up w5) => show Calls Tryz.prog 7 #[.agg #[.slice h.A h.n h.c, .slice h.B h.m h.d, .int .i64 st.th], .int .i64 0] u.1 fun e w' => e = .returned (.int .i64 0) ∧ Below u.1.heap.size u.1 w' from by
    have := rtl_any u.1 h.A h.n h.c st.l h.B h.m h.d st.th (HC5.out.below u.2) 0 (by omega)
    rwa [show tlN st.l 0 = 0 from rfl] at this)
  have Q2 := hide (fun (u : Up w5) => show Calls Tryz.prog 8 #[.agg #[.slice h.A h.n h.c, .slice h.B h.m h.d, .int .i64 st.th], .int .i64 0] u.1 fun e w' => e = .returned (.int .i64 1) ∧ Below u.1.heap.size u.1 w' from by
    have := rhead_any u.1 h.A h.n h.c st.l h.B h.m h.d st.th (HC5.out.below u.2) 0 (by omega)
    rwa [show tlN st.l 0 + 1 = 1 from rfl] at this)
  have c0 := fun u => up_cell (HG5.out.cell 0) u
  have c1 := fun u => up_cell (HG5.out.cell 1) u
  have c2 := fun u => up_cell (HG5.out.cell 2) u
  refine wp_region_up (by kernel_rfl) (by kernel_rfl) ?_
  repeat (go_big_quiet_step (first
    | (go_at_call 7; exact up_call (Q1.out _))
    | (go_at_call 8; exact up_call (Q2.out _))))
  refine wpQuiet_nil ?_
  rintro _ ⟨u, rfl⟩
  have HB6 := hide u.2
  clear c0 c1 c2 Q1 Q2
  generalize u.1 = w6 at *
  clear u
  have hHAL := isi_at0 HC5.out.1 hln
  obtain ⟨aA, hA, hca⟩ := hHAL
  have CA := hide (show w5.cell? aA = some (.int .i64 (l.getD 0 0)) from by rw [HSTL.out] at hca; exact hca)
  have GA0 := hide (show w5.cell? ⟨G, 0, none⟩ = some (.slice (some aA) h.n h.c) from by rw [← hA]; exact HG5.out.cell 0)
  have GA1 := hide (show w5.cell? ⟨G, 1, none⟩ = some (.slice h.B h.m h.d) from HG5.out.cell 1)
  have GA2 := hide (show w5.cell? ⟨G, 2, none⟩ = some (.int .i64 st.th) from HG5.out.cell 2)
  have CFA := hide (show Cf w5 (some aA) h.n st.l from by rw [← hA]; exact HC5.out)
  have HC1 := hide RI0.out.c1
  have HALE : Hid (∀ j, j ≤ 10001 → j < LS.length → (f j).a ≤ 1000000) := hide (fun j h1 h2 => Nat.le_trans (RI0.out.a_le j (by have := HLL.out; have := HPL.out; omega)) (by omega))
  clear hca hA HG5 HC5
  generalize l.getD 0 0 = cv at *
  generalize s.getD 0 0 = s0 at *
  go_upto_block 0 with fail

  go_wp2_with fail
  go_loopg [11, 12, 13, 14, 15, 47] (LS.length + 1) (fun g s11 s12 s13 s14 s15 i wr => ∃ j : Nat, g + j = LS.length + 1 ∧ i = .int .i64 j ∧ Below w5.heap.size w5 wr)
  case atStart => exact ⟨0, by omega, rfl, HB6.out⟩
  case round =>
    obtain ⟨j, hj, rfl, hbr⟩ := hrel
    have HBR := hide hbr
    clear hbr HB6
    by_cases hlt : j < LS.length
    · go_upto_region 9 with fail
      obtain ⟨an, nn, cn, Bn, mn, dn, tkn, wsn, k0, k1, k2, hin, hn2, x0, x1, okn⟩ := room_row HPM.out OW.out (fun j ws h => (HOK.out j ws h).2) HC1.out hlt
      have hz0 := pk_u (nx s0 (f j).a) (f j).z
      have U9 := hide (fun (u : Up wr) => show Calls Tryz.prog 9 #[.agg #[.slice (some aA) h.n h.c, .slice h.B h.m h.d, .int .i64 st.th], .agg #[.slice (some an) nn cn, .slice Bn mn dn, .int .i64 tkn]] u.1 fun e w' => e = .returned (.tuple #[.int .i64 (((f j).a : Int) - (f j).b), .bool (f j).z]) ∧ Below u.1.heap.size u.1 w' from by
        have hbu := HBR.out.trans (u.2.mono HBR.out.size)
        have := used_any u.1 (some aA) h.n h.c st.l h.B h.m h.d st.th (CFA.out.below hbu) hln (some an) nn cn wsn Bn mn dn tkn (hin.below hbu) hn2 (by rw [okn.w0]; exact hz0)
        rwa [okn.w0, okn.w1, pk_half, pk_cl, (room_rest okn (HALE.out j (by omega) hlt)).1] at this)
      have hrc := hide (room_rest okn (HALE.out j (by omega) hlt)).2
      have b0 := (HBR.out.cell (block_lt GA0.out)).trans GA0.out
      have b1 := (HBR.out.cell (block_lt GA1.out)).trans GA1.out
      have b2 := (HBR.out.cell (block_lt GA2.out)).trans GA2.out
      have bA := (HBR.out.cell (block_lt CA.out)).trans CA.out
      have m0 := (HBR.out.cell (block_lt k0)).trans k0
      have m1 := (HBR.out.cell (block_lt k1)).trans k1
      have m2 := (HBR.out.cell (block_lt k2)).trans k2
      have X0 := hide (show wr.cell? an = _ from (HBR.out.cell (block_lt x0)).trans x0)
      have X1 := hide (show wr.cell? ⟨an.block, an.off + 1, none⟩ = _ from (HBR.out.cell (block_lt x1)).trans x1)
      have HB0 := hide b0
      have HB1 := hide b1
      have HB2 := hide b2
      have HBA := hide bA
      have HK0 := hide k0
      have HX0 := hide x0
      have HX1 := hide x1
      have OKN := hide okn
      clear k0 k1 k2 hin x0 x1 okn hz0 b0 b1 b2 bA X0 X1
      have g0 := fun u => up_cell HB0.out u
      have g1 := fun u => up_cell HB1.out u
      have g2 := fun u => up_cell HB2.out u
      have q0 := fun u => up_cell m0 u
      have q1 := fun u => up_cell m1 u
      have q2 := fun u => up_cell m2 u
      clear m0 m1 m2
      have d1 : decide ((j : Int) < 0) = false := by simp
      have d2 : decide (LS.length ≤ j) = false := by simp; omega
      have d3 : (j : Int) < LS.length := by omega
      obtain ⟨ρ, hρ⟩ : ∃ ρ : Int, ((f j).a : Int) - (f j).b = ρ := ⟨_, rfl⟩
      rw [hρ] at U9 hrc
      clear hρ
      refine wp_region_up (by kernel_rfl) (by kernel_rfl) ?_
      repeat (go_big_quiet_step (first
        | (go_at_call 9; exact up_call (U9.out _))))
      refine wpQuiet_nil ?_
      rintro _ ⟨u, rfl⟩
      clear g0 g1 g2 q0 q1 q2 U9
      have HBR2 := hide (HBR.out.trans (u.2.mono HBR.out.size))
      have b0 := up_cell HB0.out u
      have bA := up_cell HBA.out u
      have hUP := hide u.2
      clear HB0 HB1 HB2 HBA
      generalize u.1 = w7 at *
      clear u
      have e1 : decide (h.n ≤ 0) = false := by simp; omega
      have e2 : decide (cv < ρ) = false := by have := hrc.out; simp; omega
      rcases Nat.eq_zero_or_pos j with h0 | h0
      · subst h0
        go_wp2
        go_roundg (gk - 1)
        case rel => exact ⟨0 + 1, by omega, by go_num, HBR2.out⟩
        case measure => omega
      · have eQ : ((j : Int) == 0) = false := by simp; omega
        obtain ⟨jj, hjj⟩ : ∃ jj : Nat, jj + 1 = j := ⟨j - 1, by omega⟩
        go_upto_region 13 with fail
        clear eQ e1 e2 b0 bA
        obtain ⟨ap, np, cp, Bp, mp, dp, tkp, wsp, k0, k1, k2, hip, hp2, x0, x1, okp⟩ := room_row HPM.out OW.out (fun j ws h => (HOK.out j ws h).2) HC1.out (show jj < LS.length by omega)
        have hle : Lew (f jj) (f j) := by
          have := RI0.out.le jj (by have := HLL.out; have := HPL.out; omega)
          rwa [hjj] at this
        have hja := HALE.out j (by omega) hlt
        have hjb : (f j).b ≤ 1000000 := Nat.le_trans OKN.out.ba hja
        have W1 := df_up (s0 := s0) hle.a hja
        have W2 := df_up (s0 := s0) hle.b hjb
        have W3 : (f jj).z = true → pk (nx s0 (f j).a) (f j).z = pk (nx s0 (f jj).a) (f jj).z := fun h => by
          obtain ⟨h1, h2⟩ := hle.z h
          rw [h, h1, h2]
        have W4 : (f jj).z = true → nx s0 (f j).a = nx s0 (f jj).a := fun h => by rw [(hle.z h).2]
        have S1 := fun W => rseq_any (pk (nx s0 (f j).a) (f j).z) W
        have S2 := fun W => rseq_any (pk (nx s0 (f jj).a) (f jj).z) W
        have C1 := fun W => rclosed_any (pk (nx s0 (f jj).a) (f jj).z) W (pk_u _ _).1 (pk_u _ _).2
        have D1 := fun W => rdiff_any (nx s0 (f j).b) (nx s0 (f jj).b) W
        have D2 := fun W => rdiff_any (nx s0 (f j).a) (nx s0 (f jj).a) W
        rw [pk_half] at S1 S2
        rw [pk_cl] at C1
        have y0 := (HBR2.out.cell (block_lt HX0.out)).trans HX0.out
        have y1 := (HBR2.out.cell (block_lt HX1.out)).trans HX1.out
        have z0 := (HBR2.out.cell (block_lt x0)).trans x0
        have z1 := (HBR2.out.cell (block_lt x1)).trans x1
        have yk := (HBR2.out.cell (block_lt HK0.out)).trans HK0.out
        have zk := (HBR2.out.cell (block_lt k0)).trans k0
        have y1' : w7.cell? ⟨an.block, an.off + 1, none⟩ = _ := y1
        have z1' : w7.cell? ⟨ap.block, ap.off + 1, none⟩ = _ := z1
        generalize (f jj).z = zw at *
        generalize df (nx s0 (f j).b) (nx s0 (f jj).b) = dd1 at *
        generalize df (nx s0 (f j).a) (nx s0 (f jj).a) = dd2 at *
        generalize pk (nx s0 (f j).a) (f j).z = vn at *
        generalize pk (nx s0 (f jj).a) zw = vw at *
        generalize nx s0 (f j).a = n1 at *
        generalize nx s0 (f jj).a = n2 at *
        generalize nx s0 (f j).b = n3 at *
        generalize nx s0 (f jj).b = n4 at *
        have HS1 := hide S1
        have HS2 := hide S2
        have HCC := hide C1
        have HD1 := hide D1
        have HD2 := hide D2
        have HW3 := hide W3
        have HW4 := hide W4
        have yy0 := fun u => up_cell y0 u
        have yy1 := fun u => up_cell y1' u
        have zz0 := fun u => up_cell z0 u
        have zz1 := fun u => up_cell z1' u
        have yyk := fun u => up_cell yk u
        have zzk := fun u => up_cell zk u
        have eS : IntKind.i64.wrap ((j : Int) - 1) = (jj : Int) := by rw [← hjj]; exact (congrArg _ (by omega)).trans (IntWalk.i64_in (jj : Int) ⟨by omega, by omega⟩)
        have d4 : decide ((jj : Int) < 0) = false := by simp
        have d5 : decide (LS.length ≤ jj) = false := by simp; omega
        have d6 : (jj : Int) < LS.length := by omega
        clear S1 S2 C1 D1 D2 W3 W4 y0 y1 y1' z0 z1 z1' yk zk k0 k1 k2 hip x0 x1 okp hle hja hjb HX0 HX1 HK0 OKN
        refine wp_region_up (by kernel_rfl) (by kernel_rfl) ?_
        repeat (go_big_quiet_step (fail))
        refine wpQuiet_nil ?_
        rintro _ ⟨u, rfl⟩
        have y0 := yy0 u
        have y1 := yy1 u
        have z0 := zz0 u
        have z1 := zz1 u
        clear yy0 yy1 zz0 zz1 yyk zzk eS
        have HBR3 := hide (HBR2.out.trans (u.2.mono HBR2.out.size))
        generalize u.1 = w8 at *
        clear u
        have yy0 := fun u => up_cell y0 u
        have yy1 := fun u => up_cell y1 u
        have zz0 := fun u => up_cell z0 u
        have zz1 := fun u => up_cell z1 u
        clear y0 y1 z0 z1
        have f1 : decide (nn ≤ 0) = false := by simp; omega
        have f2 : decide (nn ≤ 1) = false := by simp; omega
        have f3 : decide (np ≤ 0) = false := by simp; omega
        have f4 : decide (np ≤ 1) = false := by simp; omega
        cases zw
        case' true =>
          obtain rfl : vn = vw := HW3.out rfl
          obtain rfl : n1 = n2 := HW4.out rfl
        all_goals
          go_upto_region 14 with fail
          refine wp_region_up (by kernel_rfl) (by kernel_rfl) ?_
          repeat (go_big_quiet_step (first
            | (go_at_call 10; first | with_reducible exact up_same (HD1.out _) | with_reducible exact up_same (HD2.out _))
            | (go_at_call 11; first | with_reducible exact up_same (HS1.out _) | with_reducible exact up_same (HS2.out _))
            | (go_at_call 12; exact up_same (HCC.out _))))
          refine wpQuiet_nil ?_
          rintro _ ⟨u, rfl⟩
          clear yy0 yy1 zz0 zz1
          have HBR4 := hide (HBR3.out.trans (u.2.mono HBR3.out.size))
          generalize u.1 = w9 at *
          clear u
          go_wp2
          go_roundg (gk - 1)
          case rel => exact ⟨j + 1, by omega, by go_num, HBR4.out⟩
          case measure => omega
    · go_wp2
      go_ret
      exact ⟨rfl, HBW5.out.trans (HBR.out.mono HBW5.out.size)⟩

theorem ringRoom_walk (a0 : Option Addr) (len0 cap0 : Nat) (z0 : List Int) (a1 : Option Addr) (len1 cap1 : Nat) (z1 : List Int) (a2 : Int) (w : World) (w0 : Row .u8 w a0 len0 cap0 z0) (w1 : Row .u8 w a1 len1 cap1 z1) (w2 : (Lit.int .u8 a2).wf = true) :
    Calls Tryz.prog 3 #[.slice a0 len0 cap0, .slice a1 len1 cap1, .int .u8 a2] w fun e w' => e = .returned (.bool true) ∧ Below w.heap.size w w' := by
  obtain ⟨hI1, hc1, hm1, hwf1⟩ := w0.isI
  obtain ⟨hI2, hc2, hm2, hwf2⟩ := w1.isI
  have hcm1 : cap0 ≤ 9223372036854775807 := hm1
  have hcm2 : cap1 ≤ 9223372036854775807 := hm2
  exact room_any w _ _ _ _ hI1 (fun x hx => bounds_u8 (hwf1 x hx)) hc1 hcm1 _ _ _ _ hI2 (fun x hx => bounds_u8 (hwf2 x hx)) (by omega) a2 (bounds_u8 w2)
end Go.Proofs.YtepngbdjobckbaaGreat
