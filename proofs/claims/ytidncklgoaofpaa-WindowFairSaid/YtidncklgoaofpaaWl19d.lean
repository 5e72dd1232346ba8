/- The walk of WindowFair. -/
import Derived.Test.YtidncklgoaofpaaD6
import Derived.Test.YtidncklgoaofpaaU
import Derived.Outline
namespace Go.Proofs.Ytidncklgoaofpaa
open Go.RowKit
set_option linter.unusedVariables false

theorem Try.bool_inf : (Try.prog.info? 4).map (fun i => (i.zero, i.size, i.bytes)) = some (some (.bool false), 1, 1) := by kernel_rfl
theorem madeB_eq (n : Nat) : madeCells #[Value.bool false] n = cellsB (List.replicate n false) := by
  unfold cellsB madeCells
  apply Array.ext
  · simp
  · intro i h1 h2
    simp [Nat.mod_one]
def mark (t : Nat) (l : List Int) (j : Nat) : List Bool := (List.range t).map fun (i : Nat) => (l.take j).contains (i : Int)
theorem mark_len (t : Nat) (l : List Int) (j : Nat) : (mark t l j).length = t := by unfold mark; simp
theorem mark_zero (t : Nat) (l : List Int) : mark t l 0 = List.replicate t false := by
  unfold mark
  apply List.ext_getElem
  · simp
  · intro i h1 h2
    simp
theorem mark_at (t : Nat) (l : List Int) (j i : Nat) (h : i < t) : (mark t l j).getD i false = (l.take j).contains (i : Int) := by
  unfold mark
  simp [List.getD, List.getElem?_map, List.getElem?_range h]
theorem mark_step (t : Nat) (l : List Int) (j x : Nat) (hj : j < l.length) (hx : l.getD j 0 = (x : Int)) : (mark t l j).set x true = mark t l (j + 1) := by
  have e : l.getD j 0 = l[j] := by simp [List.getD, List.getElem?_eq_getElem hj]
  rw [e] at hx
  apply List.ext_getElem
  · simp [mark_len]
  · intro i h1 h2
    have key : ∀ (q i : Nat) (h : i < (mark t l q).length), (mark t l q)[i] = (l.take q).contains (i : Int) := by
      intro q i h
      unfold mark
      simp
    rw [List.getElem_set, key, key]
    rw [List.take_succ_eq_append_getElem hj, hx]
    by_cases ei : x = i
    · subst ei; simp
    · rw [if_neg ei]
      rw [Bool.eq_iff_iff]
      simp
      omega
theorem mark_no (t : Nat) (l : List Int) (j x : Nat) (hj : j < l.length) (hx : l.getD j 0 = (x : Int)) (hn : l.Nodup) (ht : x < t) : (mark t l j).getD x false = false := by
  rw [mark_at t l j x ht]
  have e : l.getD j 0 = l[j] := by simp [List.getD, List.getElem?_eq_getElem hj]
  rw [e] at hx
  rw [← hx, Bool.eq_false_iff]
  intro h
  rw [List.contains_iff_mem] at h
  have h2 := List.nodup_append.1 (by rw [List.take_append_drop]; exact hn : (l.take j ++ l.drop j).Nodup)
  have h3 : l[j] ∈ l.drop j := by rw [List.drop_eq_getElem_cons hj]; exact List.mem_cons_self
  exact h2.2.2 _ h _ h3 rfl
theorem bkB_set {w : World} {g : Nat} {t : TypeId} {l : List Bool} (i : Nat) (b : Bool) (h : Bk w g t (cellsB l)) : Bk (w.setCell ⟨g, i, none⟩ (.bool b)) g t (cellsB (l.set i b)) := by
  have := h.set_ i (.bool b)
  unfold cellsB at *
  simpa using this
theorem atB_cell {w : World} {g n : Nat} {t : TypeId} {l : List Bool} (h : Bk w g t (cellsB l)) (hl : l.length = n) (i : Nat) (hi : i < n) : w.cell? ⟨g, i, none⟩ = some (.bool (l.getD i false)) := by
  rw [h.cell i]
  unfold cellsB
  simp [List.getD, List.getElem?_eq_getElem (show i < l.length by omega)]
theorem IsI.drop {k : IntKind} {w : World} {ad : Addr} {n m : Nat} {l : List Int} (h : IsI k w (some ad) n l) (hm : m ≤ n) : IsI k w (some (ad.add m)) (n - m) (l.drop m) := by
  have hl := h.len
  refine ⟨by simp; omega, fun h0 => ?_⟩
  obtain ⟨ad', e, hb, hc⟩ := h.2 (by omega)
  injection e with e
  subst e
  refine ⟨_, rfl, by rw [block_add]; exact hb, fun j u hu => ?_⟩
  rw [add_add]
  refine hc _ u ?_
  rw [List.map_drop, List.getElem?_drop] at hu
  exact hu
theorem ms_bd (t : Int) (l : List Int) : ∀ s n q, q ≤ ms t l s n q ∧ ms t l s n q ≤ q + l.length := by
  induction l with
  | nil => intro s n q; rw [ms]; simp
  | cons x l ih =>
    intro s n q
    rw [ms, List.length_cons]
    split
    · have := ih s n q; omega
    · split
      · have := ih (List.replicate 8 false) 0 (q + 1); omega
      · have := ih (s.set x.toNat true) (n + 1) q; omega
theorem msr_bd (t : Int) (l : List Int) : 0 ≤ msr t l ∧ msr t l ≤ l.length := by
  unfold msr
  split
  · omega
  · have := ms_bd t l noneSeen 0 0
    omega
def nine (l : List Int) (k : Nat) : List Int := (l.take k).map fun x => x % 9
theorem nine_len (l : List Int) (k : Nat) : (nine l k).length ≤ k := by
  unfold nine
  rw [List.length_map]
  exact List.length_take_le k l
theorem nine_step (l : List Int) (k : Nat) (hk : k < l.length) : nine l (k + 1) = nine l k ++ [l.getD k 0 % 9] := by
  unfold nine
  have e : l.getD k 0 = l[k] := by simp [List.getD, List.getElem?_eq_getElem hk]
  rw [List.take_succ_eq_append_getElem hk, List.map_append, e]
  rfl
set_option maxHeartbeats 4000000 in
set_option maxRecDepth 100000 in
theorem fairW_walk (a0 : Int) (a1 : Option Addr) (len1 cap1 : Nat) (z1 : List Int) (a2 : Option Addr) (len2 cap2 : Nat) (z2 : List Int) (a3 : Int) (w : World) (w0 : (Lit.int .i64 a0).wf = true) (w1 : Row .i64 w a1 len1 cap1 z1) (w2 : Row .u8 w a2 len2 cap2 z2) (w3 : (Lit.int .i64 a3).wf = true) :
    Calls Try.prog 13 #[.int .i64 a0, .slice a1 len1 cap1, .slice a2 len2 cap2, .int .i64 a3] w fun e w' => e = .returned (.bool true) ∧ Below w.heap.size w w' := by
  obtain ⟨hI1, hc1, hm1, hwf1⟩ := w1.isI
  obtain ⟨hI2, hc2, hm2, hwf2⟩ := w2.isI
  have b0 := bounds_i64 w0
  have b3 := bounds_i64 w3
  have hbd1 : ∀ x ∈ z1.take len1, -9223372036854775808 ≤ x ∧ x ≤ 9223372036854775807 := fun x hx => bounds_i64 (hwf1 x hx)
  have hbd2 : ∀ x ∈ z2.take len2, 0 ≤ x ∧ x ≤ 255 := fun x hx => bounds_u8 (hwf2 x hx)
  have HB1 := hide hbd1
  have HB2 := hide hbd2
  have H1 := hide hI1
  have H2 := hide hI2
  have HL1 := hide hI1.len
  have HL2 := hide hI2.len
  clear hwf1 hwf2 w1 w2 w0 w3 hbd1 hbd2 hI1 hI2
  generalize z1.take len1 = l1 at H1 HB1 HL1
  generalize z2.take len2 = l2 at H2 HB2 HL2
  by_cases h20 : 20 < len1
  · go_enter Try.func13, Try.ntmps13
    go_wp2_with (go_at_call 14; refine (awake_any _).mono ?_; rintro e y ⟨rfl, hb⟩)
    go_ret
    exact ⟨rfl, hb⟩
  by_cases h60 : 60 < len2
  · go_enter Try.func13, Try.ntmps13
    go_wp2_with (go_at_call 14; refine (awake_any _).mono ?_; rintro e y ⟨rfl, hb⟩)
    go_ret
    exact ⟨rfl, hb⟩
  have m1 := Int.emod_nonneg a0 (show (8 : Int) ≠ 0 by omega)
  have m2 := Int.emod_lt_of_pos a0 (show (0 : Int) < 8 by omega)
  obtain ⟨t, ht⟩ := Int.eq_ofNat_of_zero_le (show 0 ≤ 1 + a0 % 8 by omega)
  have hm := hide (show a0 % 8 = (t : Int) - 1 by omega)
  have h1 : 1 ≤ t := by omega
  have h8 : t ≤ 8 := by omega
  clear ht m1 m2
  have md := fun W => mod_any a0 8 W (by omega) (by omega) b0.1 b0.2
  rw [hm.out] at md
  have MD := hide md
  have rd : ∀ W x, -9223372036854775808 ≤ x → x ≤ 9223372036854775807 → Calls Try.prog 35 #[.int .i64 t, .int .i64 x] W fun e w' => ∃ A c, e = .returned (.slice A t c) ∧ IsI .i64 w' A t (rnd t x) ∧ Below W.heap.size W w' := fun W x hx1 hx2 => by
    refine (round_any W t x hx1 hx2).mono fun e w' hh => ?_
    obtain ⟨A, c, he, hi, _, _, hb⟩ := hh
    have := (rnd_in t x h1 h8).2.2
    rw [this] at he hi
    exact ⟨A, c, he, hi, hb⟩
  have RD := hide rd
  have hmk := fun W => run_make_row' (P := Try.prog) 47 4 (.bool false) 1 Try.underlying47 Try.bool_inf rfl .i64 .i64 t (by omega) (by omega) W
  have HMK := hide hmk
  have rs : ∀ W, IsI .i64 W a1 len1 l1 → Calls Try.prog 37 #[.int .i64 t, .slice a1 len1 cap1] W fun e w' => ∃ A n d, e = .returned (.slice A n d) ∧ IsI .i64 w' A n (rnds t l1) ∧ n ≤ 1000 ∧ Below W.heap.size W w' := fun W hW => by
    refine (rounds_any W t a1 len1 cap1 l1 hW HB1.out (by omega)).mono fun e w' hh => ?_
    obtain ⟨A, d, he, hi, _, _, hb⟩ := hh
    have := rnds_len t l1
    have := HL1.out
    exact ⟨A, _, d, he, hi, by omega, hb⟩
  have RS := hide rs
  have mr : ∀ W A n c, IsI .i64 W A n (rnds t l1) → n ≤ 1000 → Calls Try.prog 16 #[.slice A n c, .int .i64 t] W fun e w' => e = .returned (.int .i64 (len1 : Nat)) ∧ Below W.heap.size W w' := fun W A n c hW hn => by
    have := measure_any W A n c _ t hW (by omega)
    rwa [msr_rounds t h1 h8, HL1.out] at this
  have MR := hide mr
  clear md rd hmk rs mr
  have hs : 1 + ((t : Int) - 1) = t := by omega
  have d20 : decide ((20 : Int) < (len1 : Int)) = false := by simp; omega
  have d60 : decide ((60 : Int) < (len2 : Int)) = false := by simp; omega
  go_enter Try.func13, Try.ntmps13
  go_wp2_with (first
    | (go_at_call 14; refine (awake_any _).mono ?_; rintro e y ⟨rfl, hb0⟩)
    | (go_at_call 15; refine (MD.out _).mono ?_; rintro e w' ⟨rfl, rfl⟩))
  clear hs d20 d60
  have HB0 := hide hb0
  clear hb0
  go_loopg [34] len1 (fun m i wr => ∃ k : Nat, m + k = len1 ∧ i = .int .i64 k ∧ Below w.heap.size w wr)
  case atStart => exact ⟨0, by omega, rfl, HB0.out⟩
  case round =>
    obtain ⟨k, hk, rfl, hbel⟩ := hrel
    obtain ⟨gko, hgo⟩ : ∃ g, g = gk := ⟨_, rfl⟩
    subst hgo
    have HBr := hide hbel
    have hsz := hbel.size
    clear hbel
    by_cases hlt : k < len1
    · obtain ⟨ad, rfl, _, c1⟩ := (H1.out.below HBr.out).at_ hlt
      have hbx := HB1.out (l1.getD k 0) (by rw [List.getD, List.getElem?_eq_getElem (by rw [HL1.out]; exact hlt)]; exact List.getElem_mem _)
      generalize l1.getD k 0 = x at c1 hbx
      go_wp2_with fail
      refine (RD.out _ x hbx.1 hbx.2).mono ?_
      rintro e y1 ⟨RA, RC, rfl, hir, hb1⟩
      obtain ⟨r1, r2, r3⟩ := rnd_in t x h1 h8
      have HI := hide hir
      have HR1 := hide r1
      have HR2 := hide r2
      have HR3 := hide r3
      have hs1 := hb1.size
      have HBy := hide (HBr.out.trans (hb1.mono hsz))
      have hne : ∀ ad, RA = some ad → ad.block ≠ y1.heap.size := by
        intro ad e
        obtain ⟨ad', e', hlt', _⟩ := hir.at_ (i := 0) (by omega)
        rw [e] at e'
        injection e' with e'
        subst e'
        omega
      have HNE := hide hne
      clear r1 r2 r3 hir hb1 c1 hne
      generalize rnd t x = L at HI HR1 HR2 HR3
      have hmk := HMK.out
      go_wp2
      clear hmk
      have HI2 := hide (HI.out.alloc (.cells (madeCells #[Value.bool false] t) 4))
      have HBK : Hid (Bk (y1.alloc (.cells (madeCells #[Value.bool false] t) 4)) y1.heap.size 4 (cellsB (mark t L 0))) := by
        rw [mark_zero, ← madeB_eq]
        exact Bk.new _ _ _
      go_loopg [45] t (fun m i wq => ∃ j : Nat, m + j = t ∧ i = .int .i64 j ∧ Below w.heap.size w wq ∧ IsI .i64 wq RA t L ∧ Bk wq y1.heap.size 4 (cellsB (mark t L j)))
      case atStart => exact ⟨0, by omega, rfl, HBy.out.alloc (by omega) _, HI2.out, HBK.out⟩
      case round =>
        obtain ⟨j, hj, rfl, hbq, hiq, hkq⟩ := hrel
        have HBq := hide hbq
        have HIq := hide hiq
        have HKq := hide hkq
        have hsq := hbq.size
        clear hbq HBK HI2
        by_cases hjt : j < t
        · obtain ⟨bd, rfl, _, cj⟩ := hiq.at_ hjt
          obtain ⟨x1, x2⟩ := HR1.out (L.getD j 0) (by rw [List.getD, List.getElem?_eq_getElem (by rw [HR3.out]; exact hjt)]; exact List.getElem_mem _)
          obtain ⟨v, hv, hvv⟩ : ∃ v : Nat, v < t ∧ L.getD j 0 = v := ⟨(L.getD j 0).toNat, by omega, by omega⟩
          rw [hvv] at cj
          have cs := atB_cell hkq (mark_len t L j) v hv
          rw [mark_no t L j v (by rw [HR3.out]; exact hjt) hvv HR2.out hv] at cs
          have hst := hide (mark_step t L j v (by rw [HR3.out]; exact hjt) hvv)
          have f1 := hkq.frozen v
          have d1 : decide ((v : Int) < 0) = false := by simp
          have d2 : decide (t ≤ v) = false := by simp; omega
          clear hiq hkq x1 x2 hvv
          go_wp2
          go_roundg (gk - 1)
          case rel => exact ⟨j + 1, by omega, by go_num, HBq.out.setCell (show w.heap.size ≤ y1.heap.size by omega) _, Rds.far HIq.out (p := ⟨y1.heap.size, v, none⟩) HNE.out _, by rw [← hst.out]; exact bkB_set _ _ HKq.out⟩
          case measure => omega
        · have hq : ((t : Int) != t) = false := by simp
          clear hiq hkq
          go_wp2
          go_roundg (gko - 1)
          case rel => exact ⟨k + 1, by omega, by go_num, HBq.out⟩
          case measure => omega
    · have hq : ((len1 : Int) != len1) = false := by simp
      have HI1 := hide (H1.out.below HBr.out)
      obtain ⟨i0, hi, hz0, hz1, hz2⟩ := info_parts Try.int_inf
      go_wp2_with fail
      refine (RS.out _ HI1.out).mono ?_
      rintro e y1 ⟨RA, rn, RC, rfl, hir, hrn, hb1⟩
      have HIR := hide hir
      have hs1 := hb1.size
      have HBy := hide (HBr.out.trans (hb1.mono hsz))
      clear hir hb1
      go_wp2_with fail
      refine (MR.out _ _ _ _ HIR.out hrn).mono ?_
      rintro e y2 ⟨rfl, hb2⟩
      have hs2 := hb2.size
      have HBz := hide (HBy.out.trans (hb2.mono (by omega)))
      clear hb2
      go_wp2
      clear hq
      go_loopg [16, 81] len2 (fun m u i wq => ∃ j : Nat, m + j = len2 ∧ i = .int .i64 j ∧ Below w.heap.size w wq ∧ wq.ownsRow w.heap.size 3 1 u (nine l2 j).length ((nine l2 j).map (Value.int .i64)))
      case atStart => exact ⟨0, by omega, rfl, HBz.out, World.ownsRow_nil _ _ _ _⟩
      case round =>
        obtain ⟨j, hj, rfl, hbq, hown⟩ := hrel
        have HBq := hide hbq
        have OW := hide hown
        have hsq := hbq.size
        have hnl := nine_len l2 j
        clear hbq hown
        by_cases hjt : j < len2
        · obtain ⟨bd, rfl, _, cj⟩ := (H2.out.below HBq.out).at_ hjt
          have hbx := HB2.out (l2.getD j 0) (by rw [List.getD, List.getElem?_eq_getElem (by rw [HL2.out]; exact hjt)]; exact List.getElem_mem _)
          have hst := nine_step l2 j (by rw [HL2.out]; exact hjt)
          generalize l2.getD j 0 = x at cj hbx hst
          have HST := hide hst
          clear hst
          go_wp2_with (at_builtin; refine wpList_pushI wr (by rfl) _ _ _ (by rfl) w.heap.size 3 i0 .i64 8 Try.underlying22 hi hz0 hz1 hz2 _ _ (by rfl) OW.out _ (by rfl) ?_ ?_ ?_ ?_)
          · omega
          · omega
          · omega
          intro v' w3 hown3 hg3 _
          have hb3 : Below w.heap.size wr w3 := own_below OW.out hg3 (Nat.le_refl _) (by omega)
          have HB3 := hide (HBq.out.trans hb3)
          have O3 := hide hown3
          clear hown3 hg3 hb3
          go_wp2
          go_roundg (gk - 1)
          case rel => exact ⟨j + 1, by omega, by go_num, HB3.out, by rw [HST.out]; simpa using O3.out⟩
          case measure => omega
        · obtain ⟨SA, SC, rfl, hsc, hsc2, hsA, hsN⟩ := own_form OW.out
          have HS := hide (IsI.of_own OW.out)
          clear OW hi hz0 hz1 hz2
          generalize nine l2 j = S at HS hnl hsc hsN ⊢
          have hmx := hide hsc2
          unfold maxLen at hsc2
          have q1 := Int.emod_nonneg a3 (show ((S.length : Int) + 1) ≠ 0 by omega)
          have q2 := Int.emod_lt_of_pos a3 (show (0 : Int) < (S.length : Int) + 1 by omega)
          obtain ⟨p, hp⟩ := Int.eq_ofNat_of_zero_le q1
          rw [hp] at q2
          have md := fun W => mod_any a3 ((S.length : Int) + 1) W (by omega) (by omega) b3.1 b3.2
          rw [hp] at md
          have MD3 := hide md
          have HSL := hide (show S.length = S.length from rfl)
          have hpl : p ≤ S.length := by omega
          clear md q1 q2 hp
          go_wp2_with (go_at_call 15; refine (MD3.out _).mono ?_; rintro e w' ⟨rfl, rfl⟩)
          clear HSL
          have g1 := msr_bd t S
          have g2 := msr_bd t (S.take p)
          have g3 := msr_bd t (S.drop p)
          have g4 := msr_parts t h1 h8 S p
          have h0p : (0 : Int) ≤ (p : Int) := by omega
          cases SA with
          | none =>
            have hS : S = [] := List.eq_nil_of_length_eq_zero (hsN rfl)
            subst hS
            have hp0 : p = 0 := by simpa using hpl
            subst hp0
            have hz : msr t [] = 0 := by have := msr_bd t []; simp at this; omega
            have M0 : Hid (∀ W c, Calls Try.prog 16 #[.slice none 0 c, .int .i64 t] W fun e w' => e = .returned (.int .i64 0) ∧ Below W.heap.size W w') := fun W c => by
              have := measure_any W none 0 c [] t (IsI.nil _ _ _) (by omega)
              rwa [hz] at this
            clear hsA hsN hsc2 hmx h20 h60 hc1 hm1 hc2 hm2 b0 b3 HI1 hz g1 g2 g3 g4
            refine wp_region_up (by kernel_rfl) (by kernel_rfl) ?_
            repeat (go_big_quiet_step (first | (go_at_call 16; exact up_call (M0.out _ _))))
            refine wpQuiet_nil ?_
            rintro _ ⟨u, rfl⟩
            go_wp2
            go_ret
            exact ⟨rfl, HBq.out.trans (u.2.mono hsq)⟩
          | some ad =>
            have hpc : p ≤ SC := by omega
            have hpi : (p : Int) ≤ (SC : Int) := by omega
            have hpj : (p : Int) ≤ (S.length : Int) := by omega
            have M1 : Hid (∀ u : Up wr, Calls Try.prog 16 #[.slice (some ad) S.length SC, .int .i64 t] u.1 fun e w' => e = .returned (.int .i64 (msr t S)) ∧ Below u.1.heap.size u.1 w') := fun u => measure_any u.1 _ _ _ _ t (HS.out.below u.2) (by omega)
            have M2 : Hid (∀ u : Up wr, Calls Try.prog 16 #[.slice (some ad) p SC, .int .i64 t] u.1 fun e w' => e = .returned (.int .i64 (msr t (S.take p))) ∧ Below u.1.heap.size u.1 w') := fun u => measure_any u.1 _ _ _ _ t ((HS.out.take hpl).below u.2) (by omega)
            by_cases hSp : SC = p
            · subst hSp
              have hz : msr t [] = 0 := by have := msr_bd t []; simp at this; omega
              have M3 : Hid (∀ (u : Up wr) c, Calls Try.prog 16 #[.slice (some ad) 0 c, .int .i64 t] u.1 fun e w' => e = .returned (.int .i64 0) ∧ Below u.1.heap.size u.1 w') := fun u c => by
                have := measure_any u.1 (some ad) 0 c [] t (IsI.nil _ _ _) (by omega)
                rwa [hz] at this
              have hSS : S.length = SC := by omega
              generalize msr t S = v1 at M1 g1 g4
              rw [hSS] at M1
              have hw := hide (show wrap64 (v1 + 0) = v1 by rw [Int.add_zero]; exact IntWalk.wrap64_in v1 ⟨by omega, by omega⟩)
              clear hsA hsN hsc2 hmx h20 h60 hc1 hm1 hc2 hm2 b0 b3 HI1 hz M2 g2 g3 g4
              refine wp_region_up (by kernel_rfl) (by kernel_rfl) ?_
              repeat (go_big_quiet_step (first
                | (go_at_call 16; with_reducible exact up_call (M1.out _))
                | (go_at_call 16; with_reducible exact up_call (M3.out _ _))))
              refine wpQuiet_nil ?_
              rintro _ ⟨u, rfl⟩
              go_wp2
              go_ret
              have hw := hw.out
              simp only [Int.add_zero] at hw
              exact ⟨ret_eq (by simp [hw]), HBq.out.trans (u.2.mono hsq)⟩
            · have M3 : Hid (∀ u : Up wr, Calls Try.prog 16 #[.slice (some (ad.add p)) (S.length - p) (SC - p), .int .i64 t] u.1 fun e w' => e = .returned (.int .i64 (msr t (S.drop p))) ∧ Below u.1.heap.size u.1 w') := fun u => measure_any u.1 _ _ _ _ t ((HS.out.drop hpl).below u.2) (by omega)
              generalize msr t S = v1 at M1 g1 g4
              generalize msr t (S.take p) = v2 at M2 g2 g4
              generalize msr t (S.drop p) = v3 at M3 g3 g4
              have hw := hide (show wrap64 (v2 + v3) = v2 + v3 from IntWalk.wrap64_in (v2 + v3) ⟨by omega, by omega⟩)
              have hg4 := hide g4
              clear hsA hsN hsc2 hmx h20 h60 hc1 hm1 hc2 hm2 b0 b3 HI1
              refine wp_region_up (by kernel_rfl) (by kernel_rfl) ?_
              repeat (go_big_quiet_step (first
                | (go_at_call 16; with_reducible exact up_call (M1.out _))
                | (go_at_call 16; with_reducible exact up_call (M2.out _))
                | (go_at_call 16; with_reducible exact up_call (M3.out _))))
              refine wpQuiet_nil ?_
              rintro _ ⟨u, rfl⟩
              go_wp2
              go_ret
              exact ⟨ret_eq (by simp [hw.out, hg4.out]), HBq.out.trans (u.2.mono hsq)⟩
end Go.Proofs.Ytidncklgoaofpaa
