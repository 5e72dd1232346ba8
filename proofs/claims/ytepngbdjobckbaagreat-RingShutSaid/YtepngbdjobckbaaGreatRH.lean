/- RingShut: what it answers. -/
import Derived.Test.YtepngbdjobckbaaGreatRF
import Derived.Test.YtepngbdjobckbaaGreatA11
namespace Go.Proofs.YtepngbdjobckbaaGreat
open Go.RowKit
set_option linter.unusedVariables false
set_option linter.unusedSimpArgs false
/-- The fold over the whole is some: so is each beginning's. -/
theorem ckS_none (W : List Nat) (l : List It) : l.foldl (ckS W) none = none := by
  induction l with
  | nil => rfl
  | cons x l ih => exact ih
theorem ckT_take {W : List Nat} {tr : List It} {z : Bool} (h : ckT W tr = some z) (j : Nat) : ∃ y, ckT W (tr.take j) = some y := by
  cases e : ckT W (tr.take j) with
  | some y => exact ⟨y, rfl⟩
  | none =>
    have h2 : ckT W tr = (tr.drop j).foldl (ckS W) (ckT W (tr.take j)) := by
      unfold ckT
      rw [← List.foldl_append, List.take_append_drop]
    rw [e, ckS_none, h] at h2
    cases h2
theorem ckT_next {W : List Nat} {tr : List It} {j : Nat} {x : It} (hx : tr[j]? = some x) : ckT W (tr.take (j + 1)) = ckS W (ckT W (tr.take j)) x := by
  have hj := (List.getElem?_eq_some_iff.1 hx).1
  have h1 : tr.take (j + 1) = tr.take j ++ [x] := by
    rw [List.take_add_one, hx]
    rfl
  unfold ckT
  rw [h1, List.foldl_append]
  rfl

/-- The one that closed. -/
theorem shut_won {c s0 : Int} {f : Nat → Rq} {s : St} (H : RI c s0 f s) (h : ∃ (k : Nat) (x : Mc), s.ms[k]? = some x ∧ x.what = 5 ∧ x.at_ = 0) :
    (f s.tr.length).z = true ∧ ∃ (k : Nat), k < s.ms.length ∧ ∀ (i : Nat) y, s.ms[i]? = some y → ((y.at_ = 0 ∧ y.what = 5 ∧ y.ok = 1) ↔ i = k) := by
  obtain ⟨k0, x0, h0, h1, h2⟩ := h
  have hz : (f s.tr.length).z = true := by
    cases e : (f s.tr.length).z with
    | true => rfl
    | false => exact absurd h2 (H.sd e k0 x0 h0 h1)
  obtain ⟨k, x, g0, g1, g2, g3, g4⟩ := H.se hz
  refine ⟨hz, k, (List.getElem?_eq_some_iff.1 g0).1, fun i y hy => ⟨fun ⟨p1, p2, p3⟩ => ?_, fun e => ?_⟩⟩
  · by_cases e : i = k
    · exact e
    · have := g4 i y hy p2 p1 e
      omega
  · subst e
    rw [g0] at hy
    cases hy
    exact ⟨g2, g1, g3⟩

theorem rl_row {w : World} {base G : Nat} {h : Hr} {st : St} (H : RgH w base G h st) : ∃ A c, h.vL = .slice A h.ls.length c ∧ h.ls.length = st.ms.length := by
  obtain ⟨A, c, e, -⟩ := own_form H.rL
  exact ⟨A, c, e, H.ml.1⟩
/-- Eight cells of a row. -/
theorem rg8 {w : World} {g o : Nat} {a0 a1 a2 a3 a4 a5 a6 a7 : Value} (h : w.rangeAt g o [a0, a1, a2, a3, a4, a5, a6, a7]) :
    w.cell? ⟨g, o, none⟩ = some a0 ∧ w.cell? ⟨g, o + 1, none⟩ = some a1 ∧ w.cell? ⟨g, o + 2, none⟩ = some a2 ∧ w.cell? ⟨g, o + 3, none⟩ = some a3 ∧ w.cell? ⟨g, o + 4, none⟩ = some a4 ∧ w.cell? ⟨g, o + 5, none⟩ = some a5 ∧ w.cell? ⟨g, o + 6, none⟩ = some a6 ∧ w.cell? ⟨g, o + 7, none⟩ = some a7 :=
  ⟨h 0 _ rfl, h 1 _ rfl, h 2 _ rfl, h 3 _ rfl, h 4 _ rfl, h 5 _ rfl, h 6 _ rfl, h 7 _ rfl⟩
theorem rt_row {w : World} {base G : Nat} {h : Hr} {st : St} (H : RgH w base G h st) : ∃ A c, h.vT = .slice A st.tr.length c := by
  obtain ⟨A, c, e, -⟩ := own_form H.rT
  exact ⟨A, c, e⟩
/-- An item of the trace, where it lies. -/
theorem rt_item {w : World} {base G : Nat} {h : Hr} {st : St} (H : RgH w base G h st) {A : Option Addr} {n c : Nat} (hv : h.vT = .slice A n c) {j : Nat} {it : It} (hj : st.tr[j]? = some it) : ∃ g, A = some ⟨g, 0, none⟩ ∧ w.rangeAt g (j * 8) (It.cells it) := by
  have hlt := (List.getElem?_eq_some_iff.1 hj).1
  rcases H.rT.2 with ⟨_, h0⟩ | ⟨g, cap, cur, h1, _⟩
  · omega
  · have hr := H.rT
    rw [h1] at hr
    rw [hv] at h1
    injection h1 with h1 h2 h3
    exact ⟨g, h1, own_range (f := It.cells) (sz := 8) (fun _ => rfl) hr hj⟩
set_option maxHeartbeats 16000000 in
set_option maxRecDepth 100000 in
theorem shut_any (w : World) (a0 : Option Addr) (len0 cap0 : Nat) (l0 : List Int) (hI1 : IsI .u8 w a0 len0 l0) (hB1 : ∀ x ∈ l0, 0 ≤ x ∧ x ≤ 255) (hc1 : len0 ≤ cap0) (hcm1 : cap0 ≤ 9223372036854775807)
    (a1 : Option Addr) (len1 cap1 : Nat) (p : List Int) (hI2 : IsI .u8 w a1 len1 p) (hB2 : ∀ x ∈ p, 0 ≤ x ∧ x ≤ 255) (hl2 : len1 ≤ 9223372036854775807) (x2 : Int) (hx2 : 0 ≤ x2 ∧ x2 ≤ 255) :
    Calls Tryz.prog 4 #[.slice a0 len0 cap0, .slice a1 len1 cap1, .int .u8 x2] w fun e w' => e = .returned (.bool true) ∧ Below w.heap.size w w' := by
  have H1 := hide hI1
  have HB1 := hide hB1
  have H2 := hide hI2
  have HB2 := hide hB2
  obtain ⟨sx, rfl⟩ : ∃ k : Nat, x2 = k := ⟨x2.toNat, by omega⟩
  have hq3 : sx % 3 < 3 := Nat.mod_lt _ (by omega)
  have eT : ((sx : Nat) : Int).tmod 3 = ((sx % 3 : Nat) : Int) := by rw [Int.tmod_eq_emod_of_nonneg (by omega)]; rfl
  generalize sx % 3 = sh at *
  have eU : IntKind.u8.wrap (sh : Int) = (sh : Int) := by simp [IntKind.wrap, IntKind.bits, IntKind.signed]; omega
  have eI : IntKind.i64.wrap (sh : Int) = (sh : Int) := IntWalk.i64_in _ ⟨by omega, by omega⟩
  obtain ⟨sn, hsn⟩ : ∃ sn : Nat, sn = sh + 1 := ⟨_, rfl⟩
  have eA : IntKind.i64.wrap (1 + (sh : Int)) = (sn : Int) := by rw [hsn]; exact (congrArg _ (by omega)).trans (IntWalk.i64_in ((sh + 1 : Nat) : Int) ⟨by omega, by omega⟩)
  have hsh : sn ≤ 3 := by omega
  have hsn0 : 0 < sn := by omega
  clear hI1 hB1 hI2 hB2 hq3 hsn
  go_enter Tryz.func4, Tryz.ntmps4
  go_wp2_with fail
  refine (awake11_any _).mono ?_
  rintro e y1 ⟨rfl, hb1⟩
  have HBA := hide hb1
  clear hb1
  go_wp2_with fail
  refine (run_rg y1 _ _ _ _ (H1.out.below HBA.out) HB1.out hc1 hcm1 _ _ _ _ (H2.out.below HBA.out) HB2.out hl2 sn hsh).mono ?_
  rintro e y2 ⟨G, l, s, tn, ms, rfl, hrg, hok, hG, hb2⟩
  obtain ⟨f, hri, htr, hstl, -, hsl, hth, hsx⟩ := run_ri hok hsh p
  have HBW := hide (HBA.out.trans (hb2.mono HBA.out.size))
  have hwG : w.heap.size ≤ G := Nat.le_trans HBA.out.size hG
  have hKl : ms.length ≤ 20 := by have := hok.len; omega
  generalize plays p 200 200 { st0 l s tn with ms := ms } = st at *
  obtain ⟨⟨h, hh⟩, hi⟩ := hrg
  obtain ⟨hz, k, hk, hwon⟩ := shut_won hri (hsx hsn0)
  have hln : 0 < h.n := by have := hok.n1; have := hh.cf.len; rw [hstl] at *; omega
  have HH := hide hh
  have II := hide hi
  have CK : Hid (ckT (st.ms.map Mc.what) st.tr = some true) := hide (by rw [hri.ck, hz])
  have HTH := hide hth
  have HTR := hide htr
  have HWON := hide hwon
  have hK : st.ms.length ≤ 20 := by omega
  obtain ⟨K, hKe⟩ : ∃ K, st.ms.length = K := ⟨_, rfl⟩
  rw [hKe] at hK hk
  have HKE := hide hKe
  have hGlt : G < y2.heap.size := hh.bk.lt
  obtain ⟨LA, lc, hvL, hll⟩ := rl_row hh
  rw [hll, hKe] at hvL
  have G6 := hide (show y2.cell? ⟨G, 6, none⟩ = some (.slice LA K lc) from hvL ▸ hh.bk.cell 6)
  have HVL := hide hvL
  clear hh hi hri htr hth hstl hsl hsx hb2 hG HBA H1 HB1 H2 HB2 eT eU eI eA hz hwon hok hKe hvL hll hKl
  have g6 := G6.out
  go_upto_block 0 with fail
  clear g6
  go_cut [8] (fun s8 wx => s8 = .int .i64 1 ∧ Below y2.heap.size y2 wx)
  case first =>
    go_wp2_with fail
    go_loopg [8, 9, 10, 11, 29] K (fun g s8 s9 s10 s11 i wr => ∃ j : Nat, g + j = K ∧ i = .int .i64 j ∧ s8 = .int .i64 (if k < j then 1 else 0) ∧ Below y2.heap.size y2 wr)
    case atStart => exact ⟨0, by omega, rfl, by simp, Below.refl _ _⟩
    case round =>
      obtain ⟨j, hj, rfl, rfl, hbr⟩ := hrel
      have HBR := hide hbr
      clear hbr
      by_cases hlt : j < K
      · obtain ⟨gL, cL, cs, hv, hgl, hjl, hcs, hrg7, hmq⟩ := HH.out.rowL (i := j) (by rw [HKE.out]; exact hlt)
        obtain ⟨x, hx⟩ : ∃ x, st.ms[j]? = some x := ⟨_, List.getElem?_eq_getElem (by rw [HKE.out]; exact hlt)⟩
        have hM := hmq x hx
        have hE := mq_end wr st.l cs x (hM.below HBR.out) II.out.cap (II.out.mv j x hx)
        obtain ⟨val, code, pc, FA, fn, fc, FB, fm, fd, q, rfl, -, -⟩ := id hM
        unfold mqc at hE hrg7
        obtain ⟨k0, k1, k2, k3, k4, k5, k6⟩ := rg7 hrg7
        rw [HVL.out] at hv
        have eLA : LA = some ⟨gL, 0, none⟩ := by injection hv
        subst eLA
        have hW := hide (HWON.out j x hx)
        have hE := hide hE
        have g6 := (HBR.out.cell (block_lt G6.out)).trans G6.out
        have m0 := (HBR.out.cell (block_lt k0)).trans k0
        have m1 := (HBR.out.cell (block_lt k1)).trans k1
        have m2 := (HBR.out.cell (block_lt k2)).trans k2
        have m3 := (HBR.out.cell (block_lt k3)).trans k3
        have m4 := (HBR.out.cell (block_lt k4)).trans k4
        have m5 := (HBR.out.cell (block_lt k5)).trans k5
        have m6 := (HBR.out.cell (block_lt k6)).trans k6
        have d1 : decide ((j : Int) < 0) = false := by simp
        have d2 : decide (K ≤ j) = false := by simp; omega
        have d3 : (j : Int) < K := by omega
        clear hv hgl hjl hcs hrg7 hmq hM k0 k1 k2 k3 k4 k5 k6
        obtain ⟨xw, hxw⟩ : ∃ q, x.what = q := ⟨_, rfl⟩
        obtain ⟨xa, hxa⟩ : ∃ q, x.at_ = q := ⟨_, rfl⟩
        obtain ⟨xo, hxo⟩ : ∃ q, x.ok = q := ⟨_, rfl⟩
        obtain ⟨xv, hxv⟩ : ∃ q, x.ov = q := ⟨_, rfl⟩
        rw [hxw, hxa, hxo] at hW
        rw [hxw] at m0
        rw [hxw, hxa, hxo, hxv] at hE
        clear hxw hxa hxo hxv hx
        obtain ⟨eb, heb⟩ : ∃ b, ((xa : Int) == 0) = b := ⟨_, rfl⟩
        obtain ⟨b5, hb5⟩ : ∃ b, ((xw : Int) == 5) = b := ⟨_, rfl⟩
        obtain ⟨bo, hbo⟩ : ∃ b, (xo == 1) = b := ⟨_, rfl⟩
        obtain ⟨bv, hbv⟩ : ∃ v : Int, (if k < j then 1 else 0) = v := ⟨_, rfl⟩
        rw [heb] at hE
        have hq : (eb = true ∧ b5 = true ∧ bo = true) ↔ j = k := by
          subst heb; subst hb5; subst hbo
          rw [← hW.out]
          simp only [beq_iff_eq]
          exact ⟨fun ⟨p1, p2, p3⟩ => ⟨by omega, by omega, by omega⟩, fun ⟨p1, p2, p3⟩ => ⟨by omega, by omega, by omega⟩⟩
        have HN : Hid (¬ (eb = true ∧ b5 = true ∧ bo = true) → Value.int .i64 bv = .int .i64 (if k < j + 1 then 1 else 0)) := hide (fun hn => by
          have hne : j ≠ k := fun e => hn (hq.2 e)
          rw [← hbv]
          by_cases hk1 : k < j
          · rw [if_pos hk1, if_pos (by omega)]
          · rw [if_neg hk1, if_neg (by omega)])
        have HY : Hid (eb = true ∧ b5 = true ∧ bo = true → bv = 0 ∧ Value.int .i64 1 = .int .i64 (if k < j + 1 then 1 else 0)) := hide (fun hn => by
          have e := hq.1 hn
          rw [← hbv, if_neg (by omega), if_pos (by omega)]
          exact ⟨rfl, rfl⟩)
        have HE := hide hE
        have HB5 := hide hb5
        have HBO := hide hbo
        rw [hbv]
        clear hW hE heb hq hbv hb5 hbo HWON
        go_wp2_with fail
        refine HE.out.mono ?_
        rintro e w7 ⟨rfl, hb7⟩
        have HB7 := hide (HBR.out.trans (hb7.mono HBR.out.size))
        have HB8 := hide (below_next HB7.out (below_new w7 (.cells #[.int .i64 xo, .int .u64 xv] 47)))
        have KO := hide (Bk.new w7 47 #[.int .i64 xo, .int .u64 xv])
        have M0 := hide (show w7.cell? ⟨gL, j * 7, none⟩ = _ from (hb7.cell (block_lt m0)).trans m0)
        have M1 := hide (show (w7.alloc (.cells #[.int .i64 xo, .int .u64 xv] 47)).cell? ⟨gL, j * 7, none⟩ = _ from ((below_new w7 (.cells #[.int .i64 xo, .int .u64 xv] 47)).cell (block_lt M0.out)).trans M0.out)
        clear hb7 HE m0 m1 m2 m3 m4 m5 m6 g6
        go_upto_region 9 with fail
        generalize (w7.alloc (.cells #[.int .i64 xo, .int .u64 xv] 47)) = w8 at *
        have g6 := (HB8.out.cell (block_lt G6.out)).trans G6.out
        have m0 := M1.out
        obtain ⟨q0, q1, -⟩ : w8.cell? ⟨w7.heap.size, 0, none⟩ = some (.int .i64 xo) ∧ w8.cell? ⟨w7.heap.size, 1, none⟩ = some (.int .u64 xv) ∧ True := ⟨KO.out.cell 0, KO.out.cell 1, trivial⟩
        generalize w7.heap.size = p8 at *
        have hb5 := HB5.out
        have hbo := HBO.out
        clear HB5 HBO M0 M1 KO HB7
        cases eb
        case' true => cases b5
        case' true.true => cases bo
        case' true.true.true => obtain ⟨rfl, hv1⟩ := HY.out ⟨rfl, rfl, rfl⟩
        case true.true.true =>
          have HV1 := hide hv1
          clear hv1
          go_wp2
          go_roundg (gk - 1)
          case rel => exact ⟨j + 1, by omega, by go_num, HV1.out, HB8.out⟩
          case measure => omega
        all_goals
          go_wp2
          go_roundg (gk - 1)
          case rel => exact ⟨j + 1, by omega, by go_num, HN.out (by simp), HB8.out⟩
          case measure => omega
      · obtain rfl : j = K := by omega
        have e0 : decide (j < j) = false := by simp
        have hv1 : (if k < j then (1 : Int) else 0) = 1 := if_pos hk
        rw [hv1]
        clear hv1
        go_wp2_with fail
        go_meet
        case rel => exact ⟨rfl, HBR.out⟩
  case rest =>
  obtain ⟨rfl, hb⟩ := hcut
  obtain ⟨w5, hw5⟩ : ∃ q, q = wc := ⟨_, rfl⟩
  subst hw5
  have HBW5 := hide (HBW.out.trans (hb.mono HBW.out.size))
  have HH5 := hide (HH.out.below hb)
  clear hb HH HBW HWON G6
  obtain ⟨TA, tc, hvT⟩ := rt_row HH5.out
  have HI5 := hide (fun j it hj => rt_item HH5.out hvT (j := j) (it := it) hj)
  obtain ⟨N, hN⟩ : ∃ N, st.tr.length = N := ⟨_, rfl⟩
  have HG7 := hide (show w5.cell? ⟨G, 7, none⟩ = some (.slice TA N tc) from hN ▸ hvT ▸ HH5.out.bk.cell 7)
  have HG6 := hide (show w5.cell? ⟨G, 6, none⟩ = some (.slice LA K lc) from HVL.out ▸ HH5.out.bk.cell 6)
  have HG0 := hide (show w5.cell? ⟨G, 0, none⟩ = some (.slice h.A h.n h.c) from HH5.out.bk.cell 0)
  have HG1 := hide (show w5.cell? ⟨G, 1, none⟩ = some (.slice h.B h.m h.d) from HH5.out.bk.cell 1)
  have HG2 := hide (show w5.cell? ⟨G, 2, none⟩ = some (.int .i64 st.th) from HH5.out.bk.cell 2)
  have HCF := hide HH5.out.cf
  have HRL := hide (fun i (hi : i < st.ms.length) => HH5.out.rowL hi)
  have HNE := hide hN
  have hNb : N ≤ 10000 := by have := HTR.out; omega
  clear hvT hN HH5
  have g7 := HG7.out
  go_wp2_with fail
  clear g7
  go_loopg [12, 14, 68] N (fun g s12 s14 i wr => ∃ (j : Nat) (cl : Bool), g + j = N ∧ i = .int .i64 j ∧ s12 = .bool cl ∧ ckT (st.ms.map Mc.what) (st.tr.take j) = some cl ∧ Below w5.heap.size w5 wr)
  case atStart => exact ⟨0, false, by omega, rfl, rfl, rfl, Below.refl _ _⟩
  case round =>
    obtain ⟨j, cl, hj, rfl, rfl, hck, hbr⟩ := hrel
    have HBR := hide hbr
    clear hbr
    by_cases hlt : j < N
    · obtain ⟨it, hit⟩ : ∃ it, st.tr[j]? = some it := ⟨_, List.getElem?_eq_getElem (by rw [HNE.out]; exact hlt)⟩
      obtain ⟨y, hy⟩ := ckT_take CK.out (j + 1)
      have hck2 := hy
      rw [ckT_next hit, hck] at hy
      obtain ⟨gT, eTA, hr⟩ := HI5.out j it hit
      subst eTA
      obtain ⟨kt, hkt, hkl⟩ := HTH.out it (List.mem_of_getElem? hit)
      obtain ⟨x, hx⟩ : ∃ x, st.ms[kt]? = some x := ⟨_, List.getElem?_eq_getElem hkl⟩
      obtain ⟨gL, cL, cs, hv, -, hjl, hcs, hrg7, hmq⟩ := HRL.out kt hkl
      have hM := hmq x hx
      obtain ⟨val, code, pc, FA, fn, fc, FB, fm, fd, q, rfl, -, -⟩ := hM
      unfold mqc at hrg7
      obtain ⟨k0, -, -, -, -, -, -⟩ := rg7 hrg7
      rw [HVL.out] at hv
      have eLA : LA = some ⟨gL, 0, none⟩ := by injection hv
      subst eLA
      obtain ⟨th, ⟨ak, aa, ao, an⟩, v, yy⟩ := it
      obtain rfl : th = (kt : Int) := hkt
      have hgd : (st.ms.map Mc.what).getD kt 0 = x.what := by rw [List.getD, List.getElem?_map, hx]; rfl
      obtain ⟨xw, hxw⟩ : ∃ q, x.what = q := ⟨_, rfl⟩
      rw [hxw] at hgd k0
      have hy2 : (if ak = 3 ∧ yy = true ∧ aa = 0 then (if cl = true then none else some ((st.ms.map Mc.what).getD kt 0 == 5)) else some cl) = some y := hy
      rw [hgd] at hy2
      have HNO : Hid (¬ (ak = 3 ∧ yy = true ∧ aa = 0) → ckT (st.ms.map Mc.what) (st.tr.take (j + 1)) = some cl) := hide (fun hn => by
        rw [if_neg hn] at hy2
        rw [hck2, hy2])
      have HYE : Hid (ak = 3 ∧ yy = true ∧ aa = 0 → cl = false ∧ ckT (st.ms.map Mc.what) (st.tr.take (j + 1)) = some ((xw : Int) == 5)) := hide (fun hn => by
        rw [if_pos hn] at hy2
        cases cl
        · rw [if_neg (by simp)] at hy2
          refine ⟨rfl, ?_⟩
          rw [hck2, ← hy2]
          congr 1
          by_cases h5 : xw = 5
          · subst h5; rfl
          · rw [show (xw == 5) = false by simp [h5], show ((xw : Int) == 5) = false by simp; omega]
        · simp at hy2)
      have HT := hide (rg8 hr)
      have HK0 := hide k0
      have hktK : kt < K := by have := HKE.out; omega
      have d1 : decide ((j : Int) < 0) = false := by simp
      have d2 : decide (N ≤ j) = false := by simp; omega
      have d3 : (j : Int) < N := by omega
      have d4 : decide ((kt : Int) < 0) = false := by simp
      have d5 : decide (K ≤ kt) = false := by simp; omega
      have d6 : (kt : Int) < K := by omega
      clear hck hy hck2 hr hit hkl hx hv hjl hcs hrg7 hmq hy2 hgd hxw k0
      obtain ⟨b3, hb3⟩ : ∃ b, (ak != 3) = b := ⟨_, rfl⟩
      obtain ⟨ba, hba⟩ : ∃ b, (aa != 0) = b := ⟨_, rfl⟩
      have hq : (ak = 3 ∧ yy = true ∧ aa = 0) ↔ (b3 = false ∧ yy = true ∧ ba = false) := by
        subst hb3; subst hba
        simp only [bne_eq_false_iff_eq]
      have HNO := hide (fun (hn : ¬ (b3 = false ∧ yy = true ∧ ba = false)) => HNO.out (fun he => hn (hq.1 he)))
      have HYE := hide (fun (hn : b3 = false ∧ yy = true ∧ ba = false) => HYE.out (hq.2 hn))
      have HBB3 := hide hb3
      have HBBA := hide hba
      clear hq hb3 hba
      obtain ⟨t0, t1, t2, t3, t4, t5, t6, t7⟩ := HT.out
      replace t0 := (HBR.out.cell (block_lt t0)).trans t0
      replace t1 := (HBR.out.cell (block_lt t1)).trans t1
      replace t2 := (HBR.out.cell (block_lt t2)).trans t2
      replace t3 := (HBR.out.cell (block_lt t3)).trans t3
      replace t4 := (HBR.out.cell (block_lt t4)).trans t4
      replace t5 := (HBR.out.cell (block_lt t5)).trans t5
      replace t6 := (HBR.out.cell (block_lt t6)).trans t6
      replace t7 := (HBR.out.cell (block_lt t7)).trans t7
      go_upto_region 16 with fail
      have KT := hide (Bk.new wr 58 #[.int .i64 kt, .int .i64 ak, .int .i64 aa, .int .u64 ao, .int .u64 an, .int .i64 0, .int .u64 v, .bool yy])
      have HB6 := hide (below_next HBR.out (below_new wr (.cells #[.int .i64 kt, .int .i64 ak, .int .i64 aa, .int .u64 ao, .int .u64 an, .int .i64 0, .int .u64 v, .bool yy] 58)))
      generalize (wr.alloc (.cells #[.int .i64 kt, .int .i64 ak, .int .i64 aa, .int .u64 ao, .int .u64 an, .int .i64 0, .int .u64 v, .bool yy] 58)) = w7 at *
      generalize wr.heap.size = p7 at *
      have Q7 := hide (fun (u : Up w7) => show Calls Tryz.prog 7 #[.agg #[.slice h.A h.n h.c, .slice h.B h.m h.d, .int .i64 st.th], .int .i64 0] u.1 fun e w' => e = .returned (.int .i64 0) ∧ Below u.1.heap.size u.1 w' from by
        have := rtl_any u.1 h.A h.n h.c st.l h.B h.m h.d st.th (HCF.out.below (HB6.out.trans (u.2.mono HB6.out.size))) 0 (by omega)
        rwa [show tlN st.l 0 = 0 from rfl] at this)
      have HI0 := hide (show w7.cell? ⟨p7, 0, none⟩ = some (.int .i64 kt) from KT.out.cell 0)
      have c0 := fun u => up_cell (show w7.cell? ⟨G, 0, none⟩ = _ from (HB6.out.cell (block_lt HG0.out)).trans HG0.out) u
      have c1 := fun u => up_cell (show w7.cell? ⟨G, 1, none⟩ = _ from (HB6.out.cell (block_lt HG1.out)).trans HG1.out) u
      have c2 := fun u => up_cell (show w7.cell? ⟨G, 2, none⟩ = _ from (HB6.out.cell (block_lt HG2.out)).trans HG2.out) u
      have i1 := fun u => up_cell (show w7.cell? ⟨p7, 1, none⟩ = some (.int .i64 ak) from KT.out.cell 1) u
      have i2 := fun u => up_cell (show w7.cell? ⟨p7, 2, none⟩ = some (.int .i64 aa) from KT.out.cell 2) u
      have i7 := fun u => up_cell (show w7.cell? ⟨p7, 7, none⟩ = some (.bool yy) from KT.out.cell 7) u
      have hb3 := HBB3.out
      have hba := HBBA.out
      clear t0 t1 t2 t3 t4 t5 t6 t7 HT KT
      cases b3
      case' false => cases yy
      case' false.true => cases ba
      all_goals
        refine wp_region_up (by kernel_rfl) (by kernel_rfl) ?_
        repeat (go_big_quiet_step (first
          | (go_at_call 7; with_reducible exact up_call (Q7.out _))))
        refine wpQuiet_nil ?_
        rintro _ ⟨u, rfl⟩
        clear c0 c1 c2 i1 i2 i7 hb3 hba Q7
        have HB9 := hide (HB6.out.trans (u.2.mono HB6.out.size))
        have i0 := up_cell HI0.out u
        have HI9 := hide i0
        clear i0
        generalize u.1 = w9 at *
        clear u
      case false.true.false =>
        obtain ⟨rfl, hv1⟩ := HYE.out ⟨rfl, rfl, rfl⟩
        have HV1 := hide hv1
        clear hv1
        go_upto_region 19 with fail
        have i0 := fun u => up_cell HI9.out u
        have g6 := fun u => up_cell (show w9.cell? ⟨G, 6, none⟩ = _ from (HB9.out.cell (block_lt HG6.out)).trans HG6.out) u
        have k0 := fun u => up_cell (show w9.cell? ⟨gL, kt * 7, none⟩ = _ from (HB9.out.cell (block_lt HK0.out)).trans HK0.out) u
        refine wp_region_up (by kernel_rfl) (by kernel_rfl) ?_
        repeat (go_big_quiet_step (fail))
        refine wpQuiet_nil ?_
        rintro _ ⟨u, rfl⟩
        clear i0 g6 k0
        have HB10 := hide (HB9.out.trans (u.2.mono HB9.out.size))
        generalize u.1 = w10 at *
        clear u
        go_wp2
        go_roundg (gk - 1)
        case rel => exact ⟨j + 1, ((xw : Int) == 5), by omega, by go_num, rfl, HV1.out, HB10.out⟩
        case measure => omega
      all_goals
        go_wp2
        go_roundg (gk - 1)
        case rel => exact ⟨j + 1, cl, by omega, by go_num, rfl, HNO.out (by simp), HB9.out⟩
        case measure => omega
    · obtain rfl : j = N := by omega
      have e0 : decide (j < j) = false := by simp
      rw [List.take_of_length_le (by rw [HNE.out]; omega), CK.out] at hck
      cases hck
      go_wp2
      go_ret
      exact ⟨rfl, HBW5.out.trans (HBR.out.mono HBW5.out.size)⟩
theorem ringShut_walk (a0 : Option Addr) (len0 cap0 : Nat) (z0 : List Int) (a1 : Option Addr) (len1 cap1 : Nat) (z1 : List Int) (a2 : Int) (w : World) (w0 : Row .u8 w a0 len0 cap0 z0) (w1 : Row .u8 w a1 len1 cap1 z1) (w2 : (Lit.int .u8 a2).wf = true) :
    Calls Tryz.prog 4 #[.slice a0 len0 cap0, .slice a1 len1 cap1, .int .u8 a2] w fun e w' => e = .returned (.bool true) ∧ Below w.heap.size w w' := by
  obtain ⟨hI1, hc1, hm1, hwf1⟩ := w0.isI
  obtain ⟨hI2, hc2, hm2, hwf2⟩ := w1.isI
  have hcm1 : cap0 ≤ 9223372036854775807 := hm1
  have hcm2 : cap1 ≤ 9223372036854775807 := hm2
  exact shut_any w _ _ _ _ hI1 (fun x hx => bounds_u8 (hwf1 x hx)) hc1 hcm1 _ _ _ _ hI2 (fun x hx => bounds_u8 (hwf2 x hx)) (by omega) a2 (bounds_u8 w2)
end Go.Proofs.YtepngbdjobckbaaGreat
