/- Contracts: what the machines of a ring know about it (ring). -/
import Derived.Test.YtepngbdjobckbaaGreatGF
import Derived.Test.YtepngbdjobckbaaGreatPP
import Derived.Deep.RegionHeld3
import Derived.Deep.RegionLaw
import Derived.Deep.DeepCutAuto
import Derived.Deep.DrawnRows
namespace Go.Proofs.YtepngbdjobckbaaGreat
open Go.RowKit
set_option linter.unusedVariables false

/-- The list of a frame of a ring. -/
def rgL (l : List Int) (k : Nat) : List Int := [tlN l k, tlN l k + 1, tlN l k + 5, sz (l.getD k 0), l.getD k 0]
theorem isI_bk {w : World} {g : Nat} {t : TypeId} {k : IntKind} {l : List Int} (h : Bk w g t ((l.map (Value.int k)).toArray)) : IsI k w (some ⟨g, 0, none⟩) l.length l :=
  ⟨by simp, fun _ => ⟨_, rfl, h.lt, fun j u hu => by
    have : (⟨g, 0, none⟩ : Addr).add j = ⟨g, j, none⟩ := by unfold Addr.add; split <;> simp_all
    rw [this, h.cell j]
    simpa using hu⟩⟩
set_option maxHeartbeats 2000000 in
set_option maxRecDepth 100000 in
theorem ringStart_any (w : World) (A : Option Addr) (n c : Nat) (l : List Int) (B : Option Addr) (m d : Nat) (t : Int) (h : Cf w A n l) (k : Nat) (hk : k < n) (pc : Int) (WA : Option Addr) (wn wc : Nat) (ws : List Int) (hw : IsI .u64 w WA wn ws) (hwt : TyA w WA wn 42) (hwn : wn ≤ 1000) :
    Calls Tryz.prog 62 #[.agg #[.slice A n c, .slice B m d, .int .i64 t], .int .i64 k, .int .i64 pc, .slice WA wn wc] w fun e w' => ∃ cs, e = .returned (.agg cs) ∧ Fr w' cs 0 pc ws (rgL l k) ∧ Below w.heap.size w w' := by
  have hb := h.tl k (by omega)
  have hin := h.in_ hk
  have hsz := sz_bd _ hin.1 hin.2
  have hkn : n ≤ 8 := h.2.1
  have e0 : sl 0 (sz (l.getD k 0)) = 0 := by
    unfold sl
    split
    · rfl
    · simp
  have Q2 := hide (fun W (hW : Below w.heap.size w W) => show Calls Tryz.prog 95 #[.agg #[.slice A n c, .slice B m d, .int .i64 t], .int .i64 k, .int .u64 0] W fun e w' => e = .returned (.int .i64 (tlN l k + 5)) ∧ Below W.heap.size W w' by
    have q := lslotseq_any W A n c l B m d t (h.below hW) k hk 0 (by omega) (by omega)
    rwa [e0, Int.mul_zero, Int.add_zero, Int.add_zero] at q)
  have Q1 := hide (fun W (hW : Below w.heap.size w W) => show Calls Tryz.prog 94 #[.agg #[.slice A n c, .slice B m d, .int .i64 t], .int .i64 k] W fun e w' => e = .returned (.int .i64 (tlN l k + 1)) ∧ Below W.heap.size W w' from lhead_any W A n c l B m d t (h.below hW) k (by omega))
  have Q0 := hide (fun W (hW : Below w.heap.size w W) => show Calls Tryz.prog 93 #[.agg #[.slice A n c, .slice B m d, .int .i64 t], .int .i64 k] W fun e w' => e = .returned (.int .i64 (tlN l k)) ∧ Below W.heap.size W w' by
    have q := ltail_any W A n c l B m d t (h.below hW) k (by omega)
    rwa [Int.add_zero] at q)
  obtain ⟨ad, rfl, hcA, -⟩ := h.at_ hk
  have HCA := hide hcA
  have hadl := block_lt hcA
  have QS := hide (fun W => size_any (l.getD k 0) W)
  unfold rgL
  generalize tlN l k = p at *
  generalize sz (l.getD k 0) = z at *
  generalize l.getD k 0 = x at *
  have HW := hide hw
  have HWT := hide hwt
  clear h hw hwt hcA e0 hsz hin
  go_enter Tryz.func62, Tryz.ntmps62
  go_upto_region 2 with ((with_reducible show wpList _ _ _ _ _ _); refine wpList_store_new (by rfl) 51 _ _ (by rfl) #[.int .i64 0, .int .i64 0, .slice none 0 0, .slice none 0 0, .slice none 0 0] #[.int .i64 0, .int .i64 pc, .slice WA wn wc, .slice none 0 0, .slice none 0 0] 51 (by rfl) (by rfl) (by rfl) Tryz.fr_inf (fr_one _ _ _ _ _ _ _ _ _ _ _) ?_)
  have B1 := hide (show Bk (((w.alloc (.cells #[.slice (some ad) n c, .slice B m d, .int .i64 t] 30)).alloc (.cells #[.int .i64 0, .int .i64 0, .slice none 0 0, .slice none 0 0, .slice none 0 0] 51)).alloc (.cells #[.int .i64 0, .int .i64 pc, .slice WA wn wc, .slice none 0 0, .slice none 0 0] 51)) w.heap.size 30 #[.slice (some ad) n c, .slice B m d, .int .i64 t] from ((Bk.new _ _ _).alloc _).alloc _)
  have B2 := hide (show Bk (((w.alloc (.cells #[.slice (some ad) n c, .slice B m d, .int .i64 t] 30)).alloc (.cells #[.int .i64 0, .int .i64 0, .slice none 0 0, .slice none 0 0, .slice none 0 0] 51)).alloc (.cells #[.int .i64 0, .int .i64 pc, .slice WA wn wc, .slice none 0 0, .slice none 0 0] 51)) (w.heap.size + 1) 51 #[.int .i64 0, .int .i64 0, .slice none 0 0, .slice none 0 0, .slice none 0 0] from Bk.alloc (by simpa using Bk.new (w.alloc (.cells #[.slice (some ad) n c, .slice B m d, .int .i64 t] 30)) 51 #[.int .i64 0, .int .i64 0, .slice none 0 0, .slice none 0 0, .slice none 0 0]) _)
  have B3 := hide (show Bk (((w.alloc (.cells #[.slice (some ad) n c, .slice B m d, .int .i64 t] 30)).alloc (.cells #[.int .i64 0, .int .i64 0, .slice none 0 0, .slice none 0 0, .slice none 0 0] 51)).alloc (.cells #[.int .i64 0, .int .i64 pc, .slice WA wn wc, .slice none 0 0, .slice none 0 0] 51)) (w.heap.size + 1 + 1) 51 #[.int .i64 0, .int .i64 pc, .slice WA wn wc, .slice none 0 0, .slice none 0 0] by simpa using Bk.new ((w.alloc (.cells #[.slice (some ad) n c, .slice B m d, .int .i64 t] 30)).alloc (.cells #[.int .i64 0, .int .i64 0, .slice none 0 0, .slice none 0 0, .slice none 0 0] 51)) 51 #[.int .i64 0, .int .i64 pc, .slice WA wn wc, .slice none 0 0, .slice none 0 0])
  have HU := hide (((below_new w (.cells #[.slice (some ad) n c, .slice B m d, .int .i64 t] 30)).alloc (by simp) (.cells #[.int .i64 0, .int .i64 0, .slice none 0 0, .slice none 0 0, .slice none 0 0] 51)).alloc (by simp; omega) (.cells #[.int .i64 0, .int .i64 pc, .slice WA wn wc, .slice none 0 0, .slice none 0 0] 51))
  have hsz1 : w.heap.size + 1 + 1 < (((w.alloc (.cells #[.slice (some ad) n c, .slice B m d, .int .i64 t] 30)).alloc (.cells #[.int .i64 0, .int .i64 0, .slice none 0 0, .slice none 0 0, .slice none 0 0] 51)).alloc (.cells #[.int .i64 0, .int .i64 pc, .slice WA wn wc, .slice none 0 0, .slice none 0 0] 51)).heap.size := B3.out.lt
  generalize (((w.alloc (.cells #[.slice (some ad) n c, .slice B m d, .int .i64 t] 30)).alloc (.cells #[.int .i64 0, .int .i64 0, .slice none 0 0, .slice none 0 0, .slice none 0 0] 51)).alloc (.cells #[.int .i64 0, .int .i64 pc, .slice WA wn wc, .slice none 0 0, .slice none 0 0] 51)) = w1 at *
  obtain ⟨k0, k1, k2, -⟩ := bk3 B1.out
  have HY0 : Hid (Below w1.heap.size w1 w1.drew) := hide (Below.refl w1.heap.size w1).drew
  have hle : w.heap.size ≤ w1.heap.size := by omega
  have n3 : w.heap.size ≠ w.heap.size + 1 + 1 := by omega
  have n4 := Ne.symm n3
  go_region_held3 (fun u => u.cell? ⟨w.heap.size, 0, none⟩ = some (.slice (some ad) n c) ∧ u.cell? ⟨w.heap.size, 1, none⟩ = some (.slice B m d) ∧ u.cell? ⟨w.heap.size, 2, none⟩ = some (.int .i64 t)) (go_keep) (first
    | (go_at_call 95; refine (Q2.out _ (HU.out.trans (HY2.out.mono hle))).mono ?_; rintro e v3 ⟨rfl, hb3⟩; have HY3 := hide (HY2.out.trans (hb3.mono HY2.out.size)); obtain ⟨k0, k1, k2, -⟩ := bk3 (B1.out.below HY3.out B1.out.lt); obtain ⟨e0, e1, e2, e3, e4, ef⟩ := bk5 ((B3.out.below HY3.out B3.out.lt).alloc (.cells #[.int .i64 p, .int .i64 (p + 1), .int .i64 (p + 5), .int .i64 1, .int .i64 0] 3)); have n1 : w.heap.size + 1 + 1 ≠ v3.heap.size := (by have := HY3.out.size; omega); have n2 := Ne.symm n1; have n5 : w.heap.size ≠ v3.heap.size := (by have := HY3.out.size; omega); have n6 := Ne.symm n5; clear hb3)
    | (go_at_call 94; refine (Q1.out _ (HU.out.trans (HY1.out.mono hle))).mono ?_; rintro e v2 ⟨rfl, hb2⟩; have HY2 := hide (HY1.out.trans (hb2.mono HY1.out.size)); obtain ⟨k0, k1, k2, -⟩ := bk3 (B1.out.below HY2.out B1.out.lt); clear hb2)
    | (go_at_call 93; refine (Q0.out _ (HU.out.trans (HY0.out.mono hle))).mono ?_; rintro e v1 ⟨rfl, hb1⟩; have HY1 := hide (HY0.out.trans (hb1.mono HY0.out.size)); obtain ⟨k0, k1, k2, -⟩ := bk3 (B1.out.below HY1.out B1.out.lt); clear hb1)
    | fail)
  all_goals
    clear k0 k1 k2 e0 e1 e2 e3 e4 ef n2 n5 n6 Q0 Q1 Q2
    have K0 := hide (((HU.out.trans (HY3.out.mono hle)).alloc (HU.out.trans (HY3.out.mono hle)).size (.cells #[.int .i64 p, .int .i64 (p + 1), .int .i64 (p + 5), .int .i64 1, .int .i64 0] 3)).setCell (p := ⟨w.heap.size + 1 + 1, 3, none⟩) (show w.heap.size ≤ w.heap.size + 1 + 1 by omega) (.slice (some ⟨v3.heap.size, 0, none⟩) 5 5))
    have C1 := hide (((B1.out.below HY3.out B1.out.lt).alloc (.cells #[.int .i64 p, .int .i64 (p + 1), .int .i64 (p + 5), .int .i64 1, .int .i64 0] 3)).far (p := ⟨w.heap.size + 1 + 1, 3, none⟩) n3 (.slice (some ⟨v3.heap.size, 0, none⟩) 5 5))
    have C2 := hide (((B2.out.below HY3.out B2.out.lt).alloc (.cells #[.int .i64 p, .int .i64 (p + 1), .int .i64 (p + 5), .int .i64 1, .int .i64 0] 3)).far (p := ⟨w.heap.size + 1 + 1, 3, none⟩) (show w.heap.size + 1 ≠ w.heap.size + 1 + 1 by omega) (.slice (some ⟨v3.heap.size, 0, none⟩) 5 5))
    have C3 : Hid (Bk ((v3.alloc (.cells #[.int .i64 p, .int .i64 (p + 1), .int .i64 (p + 5), .int .i64 1, .int .i64 0] 3)).setCell ⟨w.heap.size + 1 + 1, 3, none⟩ (.slice (some ⟨v3.heap.size, 0, none⟩) 5 5)) (w.heap.size + 1 + 1) 51 #[.int .i64 0, .int .i64 pc, .slice WA wn wc, .slice (some ⟨v3.heap.size, 0, none⟩) 5 5, .slice none 0 0]) := hide (((B3.out.below HY3.out B3.out.lt).alloc (.cells #[.int .i64 p, .int .i64 (p + 1), .int .i64 (p + 5), .int .i64 1, .int .i64 0] 3)).set_ 3 (.slice (some ⟨v3.heap.size, 0, none⟩) 5 5))
    have C4 := hide ((Bk.new v3 3 #[.int .i64 p, .int .i64 (p + 1), .int .i64 (p + 5), .int .i64 1, .int .i64 0]).far (p := ⟨w.heap.size + 1 + 1, 3, none⟩) (Ne.symm n1) (.slice (some ⟨v3.heap.size, 0, none⟩) 5 5))
    have hgN : w.heap.size + 1 + 1 < v3.heap.size := (by have := HY3.out.size; omega)
    clear HY0 HY1 HY2 HY3 HU B1 B2 B3 n1
    generalize ((v3.alloc (.cells #[.int .i64 p, .int .i64 (p + 1), .int .i64 (p + 5), .int .i64 1, .int .i64 0] 3)).setCell ⟨w.heap.size + 1 + 1, 3, none⟩ (.slice (some ⟨v3.heap.size, 0, none⟩) 5 5)) = w4 at *
    generalize v3.heap.size = gN at *
    obtain ⟨k0, k1, k2, -⟩ := bk3 C1.out
    obtain ⟨e0, e1, e2, e3, e4, ef⟩ := bk5 C3.out
    obtain ⟨g0, g1, g2, g3, g4, gf⟩ := bk5 C4.out
    have cA := (K0.out.cell hadl).trans HCA.out
    have hl4 : gN < w4.heap.size := C4.out.lt
    have hl5 := C2.out.lt
    have d1 : decide ((k : Int) < 0) = false := by simp
    have d2 : decide (n ≤ k) = false := by simp; omega
    have d3 : decide ((0 : Int) ≤ (k : Int)) = true := by simp
    have d4 : decide (k < n) = true := by simp; omega
    have m1 : gN ≠ w.heap.size := by omega
    have m2 : gN ≠ w.heap.size + 1 + 1 := by omega
    have m3 : (ad.add k).block ≠ gN := (by have := hadl; omega)
    have m4 := Ne.symm m3
    have m5 : ∀ i, ad.add k ≠ ⟨gN, i, none⟩ := fun i e => m3 (by rw [e])
    have m6 : ∀ i, (⟨gN, i, none⟩ : Addr) ≠ ad.add k := fun i e => m3 (by rw [← e])
    go_upto_region 4 with fail
    go_region_held3 (fun u => u.cell? ⟨w.heap.size + 1 + 1, 3, none⟩ = some (.slice (some ⟨gN, 0, none⟩) 5 5) ∧ u.cell? ⟨w.heap.size, 0, none⟩ = some (.slice (some ad) n c) ∧ u.cell? (ad.add k) = some (.int .i64 x)) (go_keep) (fail)
    all_goals
      clear k0 k1 k2 e0 e1 e2 e3 e4 ef g0 g1 g2 g3 g4 gf cA
      have K6 := hide ((K0.out).setCell (p := ⟨gN, 4, none⟩) (show w.heap.size ≤ gN by omega) (.int .i64 x))
      have D1 := hide (C1.out.far (p := ⟨gN, 4, none⟩) (Ne.symm m1) (.int .i64 x))
      have D2 := hide (C2.out.far (p := ⟨gN, 4, none⟩) (show w.heap.size + 1 ≠ gN by omega) (.int .i64 x))
      have D3 := hide (C3.out.far (p := ⟨gN, 4, none⟩) (Ne.symm m2) (.int .i64 x))
      have D4 : Hid (Bk (w4.setCell ⟨gN, 4, none⟩ (.int .i64 x)) gN 3 #[.int .i64 p, .int .i64 (p + 1), .int .i64 (p + 5), .int .i64 1, .int .i64 x]) := hide (C4.out.set_ 4 (.int .i64 x))
      clear K0 C1 C2 C3 C4 hl4 hl5
      generalize w4.setCell ⟨gN, 4, none⟩ (.int .i64 x) = w5 at *
      obtain ⟨k0, k1, k2, -⟩ := bk3 D1.out
      obtain ⟨e0, e1, e2, e3, e4, ef⟩ := bk5 D3.out
      obtain ⟨g0, g1, g2, g3, g4, gf⟩ := bk5 D4.out
      have cA := (K6.out.cell hadl).trans HCA.out
      have hl4 : gN < w5.heap.size := D4.out.lt
      have hl5 := D2.out.lt
      go_upto_region 5 with fail
      go_region_held3 (fun u => u.cell? ⟨w.heap.size + 1 + 1, 3, none⟩ = some (.slice (some ⟨gN, 0, none⟩) 5 5) ∧ u.cell? ⟨w.heap.size, 0, none⟩ = some (.slice (some ad) n c) ∧ u.cell? (ad.add k) = some (.int .i64 x)) (go_keep) (first
        | (go_at_call 96; refine (QS.out _).mono ?_; rintro e w6 ⟨rfl, rfl⟩)
        | fail)
      all_goals
        clear k0 k1 k2 e0 e1 e2 e3 e4 ef g0 g1 g2 g3 g4 gf cA hl4 hl5
        have K7 : Hid (Below w.heap.size w (w5.setCell ⟨gN, 3, none⟩ (.int .i64 z)).drew.drew) := hide (((K6.out.setCell (p := ⟨gN, 3, none⟩) (show w.heap.size ≤ gN by omega) (.int .i64 z)).drew).drew)
        have E2 : Hid (Bk (w5.setCell ⟨gN, 3, none⟩ (.int .i64 z)).drew.drew (w.heap.size + 1) 51 #[.int .i64 0, .int .i64 0, .slice none 0 0, .slice none 0 0, .slice none 0 0]) := hide (D2.out.far (p := ⟨gN, 3, none⟩) (show w.heap.size + 1 ≠ gN by omega) (.int .i64 z))
        have E3 : Hid (Bk (w5.setCell ⟨gN, 3, none⟩ (.int .i64 z)).drew.drew (w.heap.size + 1 + 1) 51 #[.int .i64 0, .int .i64 pc, .slice WA wn wc, .slice (some ⟨gN, 0, none⟩) 5 5, .slice none 0 0]) := hide (D3.out.far (p := ⟨gN, 3, none⟩) (Ne.symm m2) (.int .i64 z))
        have E4 : Hid (Bk (w5.setCell ⟨gN, 3, none⟩ (.int .i64 z)).drew.drew gN 3 ([p, p + 1, p + 5, z, x].map (Value.int .i64)).toArray) := hide (D4.out.set_ 3 (.int .i64 z))
        clear K6 D1 D2 D3 D4
        generalize (w5.setCell ⟨gN, 3, none⟩ (.int .i64 z)).drew.drew = w6 at *
        obtain ⟨e0, e1, e2, e3, e4, ef⟩ := bk5 E3.out
        have HF : Hid (Fr w6 #[.int .i64 0, .int .i64 pc, .slice WA wn wc, .slice (some ⟨gN, 0, none⟩) 5 5, .slice none 0 0] 0 pc ws [p, p + 1, p + 5, z, x]) := hide ⟨_, _, _, _, _, _, rfl, HW.out.below K7.out, isI_bk E4.out, hwn, by omega, HWT.out.below K7.out, TyA.bk E4.out 0 5⟩
        have HT := hide (E2.out.there (n := 5) rfl)
        have hl6 := E3.out.lt
        clear E4
        go_wp2_with ((with_reducible show wpList _ _ _ _ _ _); refine wpList_store_res (by rfl) 51 _ _ (by rfl) (w.heap.size + 1) #[.int .i64 0, .int .i64 pc, .slice WA wn wc, .slice (some ⟨gN, 0, none⟩) 5 5, .slice none 0 0] (by rfl) (by rfl) HT.out Tryz.fr_inf (fr_one _ _ _ _ _ _ _ _ _ _ _) ?_; intro wz HZ)
        obtain ⟨fs, hfs⟩ := Tryz.fr_und
        exact ret_stored HZ Tryz.results62 rfl HT.out hfs rfl Tryz.fr_inf rfl ⟨_, rfl, Fr.stored HZ HF.out E2.out, below_stored HZ K7.out (by omega)⟩
end Go.Proofs.YtepngbdjobckbaaGreat
