/- Contract: machines make accesses by picks, and then all of them in turn (play). -/
import Derived.Test.YtadaoobdnnleaaaB9
import Derived.Test.YtadaoobdnnleaaaW
import Derived.Deep.RegionHeld3
import Derived.Deep.RegionLaw
import Derived.Deep.DeepCutAuto
import Derived.Deep.DrawnRows
namespace Go.Proofs.Ytadaoobdnnleaaa
open Go.RowKit
set_option linter.unusedVariables false

/-- By picks. -/
def pl1 (p : List Int) (s : St) : Nat → St
  | 0 => s
  | j + 1 => stp (pl1 p s j) ((p.getD j 0) % (s.ms.length : Int)).toNat
/-- All in turn. -/
def pl3 (s : St) : Nat → St
  | 0 => s
  | i + 1 => stp (pl3 s i) i
def pl2 (K : Nat) (s : St) : Nat → St
  | 0 => s
  | n + 1 => pl3 (pl2 K s n) K
def plays (p : List Int) (most turns : Nat) (s : St) : St := pl2 s.ms.length (pl1 p s (min p.length most)) turns
theorem stp_len (s : St) (i : Nat) : (stp s i).ms.length = s.ms.length := by
  unfold stp
  split
  · rfl
  · split
    · rfl
    · simp [stS]
theorem stp_tr (s : St) (i : Nat) : (stp s i).tr.length ≤ s.tr.length + 1 := by
  unfold stp
  split
  · omega
  · split
    · omega
    · simp [stS]
theorem WdH.row6 {w : World} {base G : Nat} {TW : TypeId} {h : Hd} {st : St} (H : WdH w base G TW h st) : ∃ A c, h.vL = .slice A st.ms.length c := by
  rcases H.rL.2 with ⟨h1, h2⟩ | ⟨g, cap, cur, h1, h2, _⟩
  · exact ⟨none, 0, by rw [h1, h2]⟩
  · exact ⟨_, _, h1⟩
theorem WI.row6 {own : Nat → Prop} {Rp : List Int → Mc → Fa → Prop} {w : World} {base G : Nat} {TW : TypeId} {s : St} (H : WI own Rp w base G TW s) : base ≤ G ∧ G < w.heap.size ∧ ∃ A c, w.cell? ⟨G, 6, none⟩ = some (.slice A s.ms.length c) := by
  obtain ⟨qs, ⟨h, H⟩, -⟩ := H
  obtain ⟨A, c, e⟩ := H.row6
  have bk := H.bk
  rw [Hd.cells, e] at bk
  exact ⟨H.hG, bk.lt, A, c, (bk10 bk).2.2.2.2.2.2.1⟩
theorem WI.base_le {own : Nat → Prop} {Rp : List Int → Mc → Fa → Prop} {w : World} {base G : Nat} {TW : TypeId} {s : St} (H : WI own Rp w base G TW s) : base ≤ w.heap.size := by
  obtain ⟨qs, ⟨h, H⟩, -⟩ := H
  exact H.base_le
/-- What is known while they play. -/
structure Pi (own : Nat → Prop) (Rp : List Int → Mc → Fa → Prop) (w wr : World) (base G : Nat) (TW : TypeId) (K T : Nat) (s : St) : Prop where
  wi : WI own Rp wr base G TW s
  bl : Below base w wr
  len : s.ms.length = K
  tr : s.tr.length ≤ T
theorem Pi.below {own : Nat → Prop} {Rp : List Int → Mc → Fa → Prop} {w wr wx : World} {base G : Nat} {TW : TypeId} {K T : Nat} {s : St} (H : Pi own Rp w wr base G TW K T s) (h : Below wr.heap.size wr wx) : Pi own Rp w wx base G TW K T s :=
  ⟨H.wi.below h, H.bl.trans (h.mono H.wi.base_le), H.len, H.tr⟩
theorem Pi.drew {own : Nat → Prop} {Rp : List Int → Mc → Fa → Prop} {w wr : World} {base G : Nat} {TW : TypeId} {K T : Nat} {s : St} (H : Pi own Rp w wr base G TW K T s) : Pi own Rp w wr.drew base G TW K T s := H.below (Below.refl _ _).drew
theorem Pi.step7 {Rp : List Int → Mc → Fa → Prop} (KN : Knows Own7 Rp 28 26 27) {w wr : World} {base G K T i : Nat} {s : St} (H : Pi Own7 Rp w wr base G 43 K T s) (hi : i < K) (hT : T ≤ 1000000) :
    Calls Try.prog 24 #[.pointer (some ⟨G, 0, none⟩), .int .i64 i] wr fun e w' => e = .returned (.bool true) ∧ Pi Own7 Rp w w' base G 43 K (T + 1) (stp s i) := by
  refine (step7_any KN wr base G i s H.wi (by rw [H.len]; exact hi) (Nat.le_trans H.tr hT)).mono ?_
  rintro e w' ⟨rfl, h1, h2⟩
  exact ⟨rfl, h1, H.bl.trans h2, by rw [stp_len]; exact H.len, Nat.le_trans (stp_tr s i) (by have := H.tr; omega)⟩
set_option maxHeartbeats 4000000 in
set_option maxRecDepth 100000 in
theorem play7_any {Rp : List Int → Mc → Fa → Prop} (KN : Knows Own7 Rp 28 26 27) (w : World) (base G : Nat) (s : St) (A : Option Addr) (n c : Nat) (p : List Int) (most turns : Nat) (H : WI Own7 Rp w base G 43 s) (hp : IsI .u8 w A n p) (hpb : ∀ x ∈ p, 0 ≤ x ∧ x ≤ 255) (hA : 0 < n → ∀ ad, A = some ad → ad.block < base)
    (hn : n ≤ 9223372036854775807) (hm : most ≤ 1000) (ht : turns ≤ 1000) (hK : 0 < s.ms.length) (hK2 : s.ms.length ≤ 20) (htr : s.tr.length ≤ 100) :
    Calls Try.prog 20 #[.pointer (some ⟨G, 0, none⟩), .slice A n c, .int .i64 most, .int .i64 turns] w fun e w' => e = .returned (.bool true) ∧ WI Own7 Rp w' base G 43 (plays p most turns s) ∧ Below base w w' := by
  have hl := hp.len
  obtain ⟨K, hKe⟩ : ∃ K, s.ms.length = K := ⟨_, rfl⟩
  have H0 := hide (Pi.mk (w := w) (K := K) (T := 100) H (Below.refl _ _) hKe htr)
  have HP := hide hp
  have HPB := hide hpb
  have HAD := hide hA
  have HKE := hide hKe
  have HL := hide hl
  have hk1 : 0 < K := by omega
  have hk2 : K ≤ 20 := by omega
  have dk : ((K : Int) == 0) = false := by simp; omega
  have hk0 : ¬ (K = 0) := by omega
  have dk2 : decide ((0 : Int) < K) = true := by simp; omega
  clear H hp hpb hA hKe hK hK2 htr hl
  go_enter Try.func20, Try.ntmps20
  go_wp2
  go_loopg [9] (min n most) (fun g i wr => ∃ j : Nat, g + j = min n most ∧ i = .int .i64 j ∧ Pi Own7 Rp w wr base G 43 K (100 + j) (pl1 p s j))
  case atStart => exact ⟨0, by omega, rfl, H0.out⟩
  case round =>
    obtain ⟨j, hj, rfl, hpi⟩ := hrel
    have H1 := hide hpi
    obtain ⟨hbG, hGl, LA, lc, k6⟩ := hpi.wi.row6
    rw [hpi.len] at k6
    clear hpi H0
    by_cases hlt : j < min n most
    · have hjn : j < n := by omega
      have hjm : j < most := by omega
      obtain ⟨ad, rfl, _, hc⟩ := HP.out.at_ hjn
      have hm' : p.getD j 0 ∈ p := by
        have := HL.out
        rw [List.getD, List.getElem?_eq_getElem (by omega)]
        exact List.getElem_mem _
      have hpv := HPB.out _ hm'
      have HC := hide (show wr.cell? (ad.add j) = some (.int .u8 (p.getD j 0)) from (H1.out.bl.cell (by rw [block_add]; exact HAD.out (by omega) ad rfl)).trans hc)
      have hcb := block_lt HC.out
      obtain ⟨r, hr⟩ : ∃ r : Nat, (p.getD j 0) % (K : Int) = r := Int.eq_ofNat_of_zero_le (Int.emod_nonneg _ (by omega))
      have hrK : r < K := by have := Int.emod_lt_of_pos (p.getD j 0) (show 0 < (K : Int) by omega); omega
      have HX := hide (show pl1 p s (j + 1) = stp (pl1 p s j) r by rw [pl1, HKE.out, hr]; rfl)
      have eT : (p.getD j 0).tmod (K : Int) = (r : Int) := by rw [Int.tmod_eq_emod_of_nonneg hpv.1, hr]
      have eW : IntKind.i64.wrap (r : Int) = (r : Int) := IntWalk.i64_in _ ⟨by omega, by omega⟩
      have eV : IntKind.i64.wrap (p.getD j 0) = p.getD j 0 := IntWalk.i64_in _ ⟨by omega, by omega⟩
      have cA := HC.out
      generalize p.getD j 0 = pv at *
      have ST := hide (Pi.step7 KN H1.out.drew hrK (by omega))
      clear hc hm' hr HC
      go_upto_region 4 with fail
      go_region_law (first
        | (refine step_call _ (by rfl) 24 _ (by go_simp) ST.out ?_; rintro e w3 ⟨rfl, hpi3⟩; refine ⟨_, rfl, ?_⟩; have H3 := hide hpi3; clear hpi3))
      all_goals
        go_wp2
        go_roundg (gk - 1)
        case rel => exact ⟨j + 1, by omega, by go_num, by rw [HX.out]; exact H3.out⟩
        case measure => omega
    · obtain rfl : j = min n most := by omega
      have hex : decide (min n most < n) = false ∨ decide (min n most < n) = true ∧ decide (min n most < most) = false := by
        by_cases h1 : n ≤ most
        · left; rw [Nat.min_eq_left h1]; simp
        · right; rw [Nat.min_eq_right (by omega)]; exact ⟨by simp; omega, by simp⟩
      have HX := hide (show pl1 p s (min n most) = pl1 p s (min p.length most) by rw [HL.out])
      have hmj : min n most ≤ most := Nat.min_le_right _ _
      generalize min n most = J at *
      have H2 : Hid (Pi Own7 Rp w wr base G 43 K 1100 (pl1 p s J)) := hide ⟨H1.out.wi, H1.out.bl, H1.out.len, Nat.le_trans H1.out.tr (by omega)⟩
      clear H1
      obtain ⟨wo, hwo⟩ : ∃ x, x = wr := ⟨_, rfl⟩
      subst hwo
      rcases hex with hx1 | ⟨hx1, hx2⟩
      all_goals
        go_wp2
        go_loopg [10, 11, 57, 58] turns (fun g s10 s11 s57 s58 wr2 => ∃ m : Nat, g + m = turns ∧ s10 = .int .i64 m ∧ Pi Own7 Rp w wr2 base G 43 K (1100 + m * K) (pl2 K (pl1 p s J) m))
        case atStart => exact ⟨0, by omega, rfl, by rw [Nat.zero_mul]; exact H2.out⟩
        case round =>
          obtain ⟨m, hm2, rfl, hpi⟩ := hrel
          have H3 := hide hpi
          clear hpi
          by_cases hmt : m < turns
          · obtain ⟨-, hGl3, LA3, lc3, k63⟩ := H3.out.wi.row6
            rw [H3.out.len] at k63
            have hmK : m * K ≤ 20000 := Nat.le_trans (Nat.mul_le_mul (show m ≤ 1000 by omega) hk2) (by omega)
            go_wp2
            go_loopg [11, 58] K (fun g s11 s58 wr3 => ∃ i : Nat, g + i = K ∧ s58 = .int .i64 i ∧ Pi Own7 Rp w wr3 base G 43 K (1100 + m * K + i) (pl3 (pl2 K (pl1 p s J) m) i))
            case atStart => exact ⟨0, by omega, rfl, H3.out⟩
            case round =>
              obtain ⟨i, hi, rfl, hpi⟩ := hrel
              have H4 := hide hpi
              clear hpi
              by_cases hiK : i < K
              · go_wp2_with (go_at_call 24; refine (Pi.step7 KN H4.out hiK (by omega)).mono ?_; rintro e w3 ⟨rfl, hpi3⟩; have H5 := hide hpi3; clear hpi3)
                go_roundg (gk - 1)
                case rel => exact ⟨i + 1, by omega, by go_num, H5.out⟩
                case measure => omega
              · obtain rfl : i = K := by omega
                go_wp2
                go_roundg (turns - m - 1)
                case rel => exact ⟨m + 1, by omega, by go_num, by rw [Nat.succ_mul, ← Nat.add_assoc]; exact H4.out⟩
                case measure => omega
          · obtain rfl : m = turns := by omega
            go_wp2
            go_ret
            exact ⟨rfl, by rw [plays, HKE.out, ← HX.out]; exact H3.out.wi, H3.out.bl⟩
end Go.Proofs.Ytadaoobdnnleaaa
