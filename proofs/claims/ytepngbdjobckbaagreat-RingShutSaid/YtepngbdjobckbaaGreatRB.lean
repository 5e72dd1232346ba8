/- The ring's machine: what it wants, how it ended, how it goes on. -/
import Derived.Test.YtepngbdjobckbaaGreatRA
namespace Go.Proofs.YtepngbdjobckbaaGreat
open Go.RowKit
set_option linter.unusedVariables false
set_option linter.unusedSimpArgs false
set_option maxHeartbeats 4000000 in
set_option maxRecDepth 100000 in
theorem mq_next (w : World) (l : List Int) (cs : Array Value) (x : Mc) (H : Mq w l cs x) (hc : Cap l) (hm : Mv l.length x) :
    Calls Tryz.prog 48 #[.agg cs] w fun e w' => e = .returned (.agg (Acc.cells (mnext l x))) ∧ Below w.heap.size w w' := by
  obtain ⟨val, code, pc, A, n, c, B, m, d, q, rfl, hf, hr⟩ := H
  have GD := good_any (w := w) hc hm hr
  obtain ⟨wh, hwh⟩ : ∃ k, x.what = k := ⟨_, rfl⟩
  rw [hwh] at GD ⊢
  clear hwh hr
  obtain ⟨⟨ak, aa, ao, an⟩, hacc⟩ : ∃ a, mnext l x = a := ⟨_, rfl⟩
  rw [hacc]
  rcases GD with ⟨rfl, g⟩ | ⟨rfl, g⟩ | ⟨rfl, g⟩ | ⟨rfl, g⟩
  · have G1 := hide (fun (W : World) (hF : FrA W #[.int .i64 code, .int .i64 pc, .slice A n c, .slice B m d, .slice none 0 0] q) => (g W _ hF).1)
    rw [hacc] at G1
    have HF := hide (Fr.below hf (below_next (below_new w (.cells #[.int .i64 3, .int .u64 val, .int .i64 code, .int .i64 pc, .slice A n c, .slice B m d, .slice none 0 0] 53)) (below_new _ (.cells #[.int .i64 0, .int .i64 0, .int .u64 0, .int .u64 0, .int .i64 0] 56))))
    have K1 := hide ((Bk.new w 53 #[.int .i64 3, .int .u64 val, .int .i64 code, .int .i64 pc, .slice A n c, .slice B m d, .slice none 0 0]).alloc (.cells #[.int .i64 0, .int .i64 0, .int .u64 0, .int .u64 0, .int .i64 0] 56))
    have K2 : Hid (Bk ((w.alloc (.cells #[.int .i64 3, .int .u64 val, .int .i64 code, .int .i64 pc, .slice A n c, .slice B m d, .slice none 0 0] 53)).alloc (.cells #[.int .i64 0, .int .i64 0, .int .u64 0, .int .u64 0, .int .i64 0] 56)) (w.heap.size + 1) 56 #[.int .i64 0, .int .i64 0, .int .u64 0, .int .u64 0, .int .i64 0]) := hide (by simpa using Bk.new (w.alloc (.cells #[.int .i64 3, .int .u64 val, .int .i64 code, .int .i64 pc, .slice A n c, .slice B m d, .slice none 0 0] 53)) 56 #[.int .i64 0, .int .i64 0, .int .u64 0, .int .u64 0, .int .i64 0])
    have HB := hide (below_next (below_new w (.cells #[.int .i64 3, .int .u64 val, .int .i64 code, .int .i64 pc, .slice A n c, .slice B m d, .slice none 0 0] 53)) (below_new _ (.cells #[.int .i64 0, .int .i64 0, .int .u64 0, .int .u64 0, .int .i64 0] 56)))
    clear g hf
    show Calls Tryz.prog 48 #[.agg #[.int .i64 3, .int .u64 val, .int .i64 code, .int .i64 pc, .slice A n c, .slice B m d, .slice none 0 0]] w _
    go_enter Tryz.func48, Tryz.ntmps48
    go_upto_region 1 with fail
    generalize ((w.alloc (.cells #[.int .i64 3, .int .u64 val, .int .i64 code, .int .i64 pc, .slice A n c, .slice B m d, .slice none 0 0] 53)).alloc (.cells #[.int .i64 0, .int .i64 0, .int .u64 0, .int .u64 0, .int .i64 0] 56)) = W at *
    have k0 := K1.out.cell 0
    have k2 := K1.out.cell 2
    have k3 := K1.out.cell 3
    have k4 := K1.out.cell 4
    have k5 := K1.out.cell 5
    have k6 := K1.out.cell 6
    simp only [List.getElem?_toArray, List.getElem?_cons_zero, List.getElem?_cons_succ] at k0 k2 k3 k4 k5 k6
    go_wp2_with fail
    refine (G1.out _ HF.out).mono ?_
    rintro e W2 ⟨rfl, hb⟩
    have KR := hide (K2.out.below hb K2.out.lt)
    have HB2 := hide (HB.out.trans (hb.mono HB.out.size))
    clear hb k0 k2 k3 k4 k5 k6 G1 HF K1 K2 HB
    obtain ⟨r0, r1, r2, r3, r4, rf⟩ : W2.cell? ⟨w.heap.size + 1, 0, none⟩ = some (.int .i64 0) ∧ W2.cell? ⟨w.heap.size + 1, 1, none⟩ = some (.int .i64 0) ∧ W2.cell? ⟨w.heap.size + 1, 2, none⟩ = some (.int .u64 0) ∧ W2.cell? ⟨w.heap.size + 1, 3, none⟩ = some (.int .u64 0) ∧ W2.cell? ⟨w.heap.size + 1, 4, none⟩ = some (.int .i64 0) ∧ ∀ i, W2.frozen? ⟨w.heap.size + 1, i, none⟩ = false := ⟨KR.out.cell 0, KR.out.cell 1, KR.out.cell 2, KR.out.cell 3, KR.out.cell 4, KR.out.frozen⟩
    have ea : Acc.cells ⟨ak, aa, ao, an⟩ = #[.int .i64 ak, .int .i64 aa, .int .u64 ao, .int .u64 an, .int .i64 0] := rfl
    rw [ea]
    go_wp2
    exact bodyPost_ret (v := .agg #[.int .i64 ak, .int .i64 aa, .int .u64 ao, .int .u64 an, .int .i64 0]) (by simp [results, Tryz.results48, go_sem, r0, r1, r2, r3, r4]) rfl
      ⟨rfl, below_setCells [.int .i64 ak, .int .i64 aa, .int .u64 ao, .int .u64 an, .int .i64 0] 0 HB2.out (by omega)⟩
  · have G1 := hide (fun (W : World) (hF : FrA W #[.int .i64 code, .int .i64 pc, .slice A n c, .slice B m d, .slice none 0 0] q) => (g W _ hF).1)
    rw [hacc] at G1
    have HF := hide (Fr.below hf (below_next (below_new w (.cells #[.int .i64 4, .int .u64 val, .int .i64 code, .int .i64 pc, .slice A n c, .slice B m d, .slice none 0 0] 53)) (below_new _ (.cells #[.int .i64 0, .int .i64 0, .int .u64 0, .int .u64 0, .int .i64 0] 56))))
    have K1 := hide ((Bk.new w 53 #[.int .i64 4, .int .u64 val, .int .i64 code, .int .i64 pc, .slice A n c, .slice B m d, .slice none 0 0]).alloc (.cells #[.int .i64 0, .int .i64 0, .int .u64 0, .int .u64 0, .int .i64 0] 56))
    have K2 : Hid (Bk ((w.alloc (.cells #[.int .i64 4, .int .u64 val, .int .i64 code, .int .i64 pc, .slice A n c, .slice B m d, .slice none 0 0] 53)).alloc (.cells #[.int .i64 0, .int .i64 0, .int .u64 0, .int .u64 0, .int .i64 0] 56)) (w.heap.size + 1) 56 #[.int .i64 0, .int .i64 0, .int .u64 0, .int .u64 0, .int .i64 0]) := hide (by simpa using Bk.new (w.alloc (.cells #[.int .i64 4, .int .u64 val, .int .i64 code, .int .i64 pc, .slice A n c, .slice B m d, .slice none 0 0] 53)) 56 #[.int .i64 0, .int .i64 0, .int .u64 0, .int .u64 0, .int .i64 0])
    have HB := hide (below_next (below_new w (.cells #[.int .i64 4, .int .u64 val, .int .i64 code, .int .i64 pc, .slice A n c, .slice B m d, .slice none 0 0] 53)) (below_new _ (.cells #[.int .i64 0, .int .i64 0, .int .u64 0, .int .u64 0, .int .i64 0] 56)))
    clear g hf
    show Calls Tryz.prog 48 #[.agg #[.int .i64 4, .int .u64 val, .int .i64 code, .int .i64 pc, .slice A n c, .slice B m d, .slice none 0 0]] w _
    go_enter Tryz.func48, Tryz.ntmps48
    go_upto_region 1 with fail
    generalize ((w.alloc (.cells #[.int .i64 4, .int .u64 val, .int .i64 code, .int .i64 pc, .slice A n c, .slice B m d, .slice none 0 0] 53)).alloc (.cells #[.int .i64 0, .int .i64 0, .int .u64 0, .int .u64 0, .int .i64 0] 56)) = W at *
    have k0 := K1.out.cell 0
    have k2 := K1.out.cell 2
    have k3 := K1.out.cell 3
    have k4 := K1.out.cell 4
    have k5 := K1.out.cell 5
    have k6 := K1.out.cell 6
    simp only [List.getElem?_toArray, List.getElem?_cons_zero, List.getElem?_cons_succ] at k0 k2 k3 k4 k5 k6
    go_wp2_with fail
    refine (G1.out _ HF.out).mono ?_
    rintro e W2 ⟨rfl, hb⟩
    have KR := hide (K2.out.below hb K2.out.lt)
    have HB2 := hide (HB.out.trans (hb.mono HB.out.size))
    clear hb k0 k2 k3 k4 k5 k6 G1 HF K1 K2 HB
    obtain ⟨r0, r1, r2, r3, r4, rf⟩ : W2.cell? ⟨w.heap.size + 1, 0, none⟩ = some (.int .i64 0) ∧ W2.cell? ⟨w.heap.size + 1, 1, none⟩ = some (.int .i64 0) ∧ W2.cell? ⟨w.heap.size + 1, 2, none⟩ = some (.int .u64 0) ∧ W2.cell? ⟨w.heap.size + 1, 3, none⟩ = some (.int .u64 0) ∧ W2.cell? ⟨w.heap.size + 1, 4, none⟩ = some (.int .i64 0) ∧ ∀ i, W2.frozen? ⟨w.heap.size + 1, i, none⟩ = false := ⟨KR.out.cell 0, KR.out.cell 1, KR.out.cell 2, KR.out.cell 3, KR.out.cell 4, KR.out.frozen⟩
    have ea : Acc.cells ⟨ak, aa, ao, an⟩ = #[.int .i64 ak, .int .i64 aa, .int .u64 ao, .int .u64 an, .int .i64 0] := rfl
    rw [ea]
    go_wp2
    exact bodyPost_ret (v := .agg #[.int .i64 ak, .int .i64 aa, .int .u64 ao, .int .u64 an, .int .i64 0]) (by simp [results, Tryz.results48, go_sem, r0, r1, r2, r3, r4]) rfl
      ⟨rfl, below_setCells [.int .i64 ak, .int .i64 aa, .int .u64 ao, .int .u64 an, .int .i64 0] 0 HB2.out (by omega)⟩
  · have G1 := hide (fun (W : World) (hF : FrA W #[.int .i64 code, .int .i64 pc, .slice A n c, .slice B m d, .slice none 0 0] q) => (g W _ hF).1)
    rw [hacc] at G1
    have HF := hide (Fr.below hf (below_next (below_new w (.cells #[.int .i64 5, .int .u64 val, .int .i64 code, .int .i64 pc, .slice A n c, .slice B m d, .slice none 0 0] 53)) (below_new _ (.cells #[.int .i64 0, .int .i64 0, .int .u64 0, .int .u64 0, .int .i64 0] 56))))
    have K1 := hide ((Bk.new w 53 #[.int .i64 5, .int .u64 val, .int .i64 code, .int .i64 pc, .slice A n c, .slice B m d, .slice none 0 0]).alloc (.cells #[.int .i64 0, .int .i64 0, .int .u64 0, .int .u64 0, .int .i64 0] 56))
    have K2 : Hid (Bk ((w.alloc (.cells #[.int .i64 5, .int .u64 val, .int .i64 code, .int .i64 pc, .slice A n c, .slice B m d, .slice none 0 0] 53)).alloc (.cells #[.int .i64 0, .int .i64 0, .int .u64 0, .int .u64 0, .int .i64 0] 56)) (w.heap.size + 1) 56 #[.int .i64 0, .int .i64 0, .int .u64 0, .int .u64 0, .int .i64 0]) := hide (by simpa using Bk.new (w.alloc (.cells #[.int .i64 5, .int .u64 val, .int .i64 code, .int .i64 pc, .slice A n c, .slice B m d, .slice none 0 0] 53)) 56 #[.int .i64 0, .int .i64 0, .int .u64 0, .int .u64 0, .int .i64 0])
    have HB := hide (below_next (below_new w (.cells #[.int .i64 5, .int .u64 val, .int .i64 code, .int .i64 pc, .slice A n c, .slice B m d, .slice none 0 0] 53)) (below_new _ (.cells #[.int .i64 0, .int .i64 0, .int .u64 0, .int .u64 0, .int .i64 0] 56)))
    clear g hf
    show Calls Tryz.prog 48 #[.agg #[.int .i64 5, .int .u64 val, .int .i64 code, .int .i64 pc, .slice A n c, .slice B m d, .slice none 0 0]] w _
    go_enter Tryz.func48, Tryz.ntmps48
    go_upto_region 1 with fail
    generalize ((w.alloc (.cells #[.int .i64 5, .int .u64 val, .int .i64 code, .int .i64 pc, .slice A n c, .slice B m d, .slice none 0 0] 53)).alloc (.cells #[.int .i64 0, .int .i64 0, .int .u64 0, .int .u64 0, .int .i64 0] 56)) = W at *
    have k0 := K1.out.cell 0
    have k2 := K1.out.cell 2
    have k3 := K1.out.cell 3
    have k4 := K1.out.cell 4
    have k5 := K1.out.cell 5
    have k6 := K1.out.cell 6
    simp only [List.getElem?_toArray, List.getElem?_cons_zero, List.getElem?_cons_succ] at k0 k2 k3 k4 k5 k6
    go_wp2_with fail
    refine (G1.out _ HF.out).mono ?_
    rintro e W2 ⟨rfl, hb⟩
    have KR := hide (K2.out.below hb K2.out.lt)
    have HB2 := hide (HB.out.trans (hb.mono HB.out.size))
    clear hb k0 k2 k3 k4 k5 k6 G1 HF K1 K2 HB
    obtain ⟨r0, r1, r2, r3, r4, rf⟩ : W2.cell? ⟨w.heap.size + 1, 0, none⟩ = some (.int .i64 0) ∧ W2.cell? ⟨w.heap.size + 1, 1, none⟩ = some (.int .i64 0) ∧ W2.cell? ⟨w.heap.size + 1, 2, none⟩ = some (.int .u64 0) ∧ W2.cell? ⟨w.heap.size + 1, 3, none⟩ = some (.int .u64 0) ∧ W2.cell? ⟨w.heap.size + 1, 4, none⟩ = some (.int .i64 0) ∧ ∀ i, W2.frozen? ⟨w.heap.size + 1, i, none⟩ = false := ⟨KR.out.cell 0, KR.out.cell 1, KR.out.cell 2, KR.out.cell 3, KR.out.cell 4, KR.out.frozen⟩
    have ea : Acc.cells ⟨ak, aa, ao, an⟩ = #[.int .i64 ak, .int .i64 aa, .int .u64 ao, .int .u64 an, .int .i64 0] := rfl
    rw [ea]
    go_wp2
    exact bodyPost_ret (v := .agg #[.int .i64 ak, .int .i64 aa, .int .u64 ao, .int .u64 an, .int .i64 0]) (by simp [results, Tryz.results48, go_sem, r0, r1, r2, r3, r4]) rfl
      ⟨rfl, below_setCells [.int .i64 ak, .int .i64 aa, .int .u64 ao, .int .u64 an, .int .i64 0] 0 HB2.out (by omega)⟩
  · have G1 := hide (fun (W : World) (hF : FrA W #[.int .i64 code, .int .i64 pc, .slice A n c, .slice B m d, .slice none 0 0] q) => (g W _ hF).1)
    rw [hacc] at G1
    have HF := hide (Fr.below hf (below_next (below_new w (.cells #[.int .i64 6, .int .u64 val, .int .i64 code, .int .i64 pc, .slice A n c, .slice B m d, .slice none 0 0] 53)) (below_new _ (.cells #[.int .i64 0, .int .i64 0, .int .u64 0, .int .u64 0, .int .i64 0] 56))))
    have K1 := hide ((Bk.new w 53 #[.int .i64 6, .int .u64 val, .int .i64 code, .int .i64 pc, .slice A n c, .slice B m d, .slice none 0 0]).alloc (.cells #[.int .i64 0, .int .i64 0, .int .u64 0, .int .u64 0, .int .i64 0] 56))
    have K2 : Hid (Bk ((w.alloc (.cells #[.int .i64 6, .int .u64 val, .int .i64 code, .int .i64 pc, .slice A n c, .slice B m d, .slice none 0 0] 53)).alloc (.cells #[.int .i64 0, .int .i64 0, .int .u64 0, .int .u64 0, .int .i64 0] 56)) (w.heap.size + 1) 56 #[.int .i64 0, .int .i64 0, .int .u64 0, .int .u64 0, .int .i64 0]) := hide (by simpa using Bk.new (w.alloc (.cells #[.int .i64 6, .int .u64 val, .int .i64 code, .int .i64 pc, .slice A n c, .slice B m d, .slice none 0 0] 53)) 56 #[.int .i64 0, .int .i64 0, .int .u64 0, .int .u64 0, .int .i64 0])
    have HB := hide (below_next (below_new w (.cells #[.int .i64 6, .int .u64 val, .int .i64 code, .int .i64 pc, .slice A n c, .slice B m d, .slice none 0 0] 53)) (below_new _ (.cells #[.int .i64 0, .int .i64 0, .int .u64 0, .int .u64 0, .int .i64 0] 56)))
    clear g hf
    show Calls Tryz.prog 48 #[.agg #[.int .i64 6, .int .u64 val, .int .i64 code, .int .i64 pc, .slice A n c, .slice B m d, .slice none 0 0]] w _
    go_enter Tryz.func48, Tryz.ntmps48
    go_upto_region 1 with fail
    generalize ((w.alloc (.cells #[.int .i64 6, .int .u64 val, .int .i64 code, .int .i64 pc, .slice A n c, .slice B m d, .slice none 0 0] 53)).alloc (.cells #[.int .i64 0, .int .i64 0, .int .u64 0, .int .u64 0, .int .i64 0] 56)) = W at *
    have k0 := K1.out.cell 0
    have k2 := K1.out.cell 2
    have k3 := K1.out.cell 3
    have k4 := K1.out.cell 4
    have k5 := K1.out.cell 5
    have k6 := K1.out.cell 6
    simp only [List.getElem?_toArray, List.getElem?_cons_zero, List.getElem?_cons_succ] at k0 k2 k3 k4 k5 k6
    go_wp2_with fail
    refine (G1.out _ HF.out).mono ?_
    rintro e W2 ⟨rfl, hb⟩
    have KR := hide (K2.out.below hb K2.out.lt)
    have HB2 := hide (HB.out.trans (hb.mono HB.out.size))
    clear hb k0 k2 k3 k4 k5 k6 G1 HF K1 K2 HB
    obtain ⟨r0, r1, r2, r3, r4, rf⟩ : W2.cell? ⟨w.heap.size + 1, 0, none⟩ = some (.int .i64 0) ∧ W2.cell? ⟨w.heap.size + 1, 1, none⟩ = some (.int .i64 0) ∧ W2.cell? ⟨w.heap.size + 1, 2, none⟩ = some (.int .u64 0) ∧ W2.cell? ⟨w.heap.size + 1, 3, none⟩ = some (.int .u64 0) ∧ W2.cell? ⟨w.heap.size + 1, 4, none⟩ = some (.int .i64 0) ∧ ∀ i, W2.frozen? ⟨w.heap.size + 1, i, none⟩ = false := ⟨KR.out.cell 0, KR.out.cell 1, KR.out.cell 2, KR.out.cell 3, KR.out.cell 4, KR.out.frozen⟩
    have ea : Acc.cells ⟨ak, aa, ao, an⟩ = #[.int .i64 ak, .int .i64 aa, .int .u64 ao, .int .u64 an, .int .i64 0] := rfl
    rw [ea]
    go_wp2
    exact bodyPost_ret (v := .agg #[.int .i64 ak, .int .i64 aa, .int .u64 ao, .int .u64 an, .int .i64 0]) (by simp [results, Tryz.results48, go_sem, r0, r1, r2, r3, r4]) rfl
      ⟨rfl, below_setCells [.int .i64 ak, .int .i64 aa, .int .u64 ao, .int .u64 an, .int .i64 0] 0 HB2.out (by omega)⟩
set_option maxHeartbeats 4000000 in
set_option maxRecDepth 100000 in
theorem mq_end (w : World) (l : List Int) (cs : Array Value) (x : Mc) (H : Mq w l cs x) (hc : Cap l) (hm : Mv l.length x) :
    Calls Tryz.prog 13 #[.agg cs] w fun e w' => e = .returned (.tuple #[.agg #[.int .i64 x.ok, .int .u64 x.ov], .bool ((x.at_ : Int) == 0)]) ∧ Below w.heap.size w w' := by
  obtain ⟨val, code, pc, A, n, c, B, m, d, q, rfl, hf, hr⟩ := H
  have GD := good_any (w := w) hc hm hr
  obtain ⟨wh, hwh⟩ : ∃ k, x.what = k := ⟨_, rfl⟩
  rw [hwh] at GD ⊢
  clear hwh hr
  obtain ⟨ek, hek⟩ : ∃ k, x.ok = k := ⟨_, rfl⟩
  obtain ⟨ev, hev⟩ : ∃ k, x.ov = k := ⟨_, rfl⟩
  obtain ⟨eb, heb⟩ : ∃ b, ((x.at_ : Int) == 0) = b := ⟨_, rfl⟩
  rw [hek, hev, heb]
  rcases GD with ⟨rfl, g⟩ | ⟨rfl, g⟩ | ⟨rfl, g⟩ | ⟨rfl, g⟩
  · have G1 := hide (fun (W : World) (hF : FrA W #[.int .i64 code, .int .i64 pc, .slice A n c, .slice B m d, .slice none 0 0] q) => (g W _ hF).2)
    rw [hek, hev, heb] at G1
    have HF := hide (Fr.below hf (below_next (below_new w (.cells #[.int .i64 3, .int .u64 val, .int .i64 code, .int .i64 pc, .slice A n c, .slice B m d, .slice none 0 0] 53)) (below_new _ (.cells #[.int .i64 0, .int .u64 0] 47))))
    have K1 := hide ((Bk.new w 53 #[.int .i64 3, .int .u64 val, .int .i64 code, .int .i64 pc, .slice A n c, .slice B m d, .slice none 0 0]).alloc (.cells #[.int .i64 0, .int .u64 0] 47))
    have K2 : Hid (Bk ((w.alloc (.cells #[.int .i64 3, .int .u64 val, .int .i64 code, .int .i64 pc, .slice A n c, .slice B m d, .slice none 0 0] 53)).alloc (.cells #[.int .i64 0, .int .u64 0] 47)) (w.heap.size + 1) 47 #[.int .i64 0, .int .u64 0]) := hide (by simpa using Bk.new (w.alloc (.cells #[.int .i64 3, .int .u64 val, .int .i64 code, .int .i64 pc, .slice A n c, .slice B m d, .slice none 0 0] 53)) 47 #[.int .i64 0, .int .u64 0])
    have HB := hide (below_next (below_new w (.cells #[.int .i64 3, .int .u64 val, .int .i64 code, .int .i64 pc, .slice A n c, .slice B m d, .slice none 0 0] 53)) (below_new _ (.cells #[.int .i64 0, .int .u64 0] 47)))
    clear g hf
    show Calls Tryz.prog 13 #[.agg #[.int .i64 3, .int .u64 val, .int .i64 code, .int .i64 pc, .slice A n c, .slice B m d, .slice none 0 0]] w _
    go_enter Tryz.func13, Tryz.ntmps13
    go_upto_region 1 with fail
    generalize ((w.alloc (.cells #[.int .i64 3, .int .u64 val, .int .i64 code, .int .i64 pc, .slice A n c, .slice B m d, .slice none 0 0] 53)).alloc (.cells #[.int .i64 0, .int .u64 0] 47)) = W at *
    have k0 := K1.out.cell 0
    have k2 := K1.out.cell 2
    have k3 := K1.out.cell 3
    have k4 := K1.out.cell 4
    have k5 := K1.out.cell 5
    have k6 := K1.out.cell 6
    simp only [List.getElem?_toArray, List.getElem?_cons_zero, List.getElem?_cons_succ] at k0 k2 k3 k4 k5 k6
    go_wp2_with fail
    refine (G1.out _ HF.out).mono ?_
    rintro e W2 ⟨rfl, hb⟩
    have KR := hide (K2.out.below hb K2.out.lt)
    have HB2 := hide (HB.out.trans (hb.mono HB.out.size))
    clear hb k0 k2 k3 k4 k5 k6 G1 HF K1 K2 HB
    obtain ⟨r0, r1, rf⟩ : W2.cell? ⟨w.heap.size + 1, 0, none⟩ = some (.int .i64 0) ∧ W2.cell? ⟨w.heap.size + 1, 1, none⟩ = some (.int .u64 0) ∧ ∀ i, W2.frozen? ⟨w.heap.size + 1, i, none⟩ = false := ⟨KR.out.cell 0, KR.out.cell 1, KR.out.frozen⟩
    go_wp2
    exact bodyPost_ret (v := .tuple #[.agg #[.int .i64 ek, .int .u64 ev], .bool eb]) (by simp [results, Tryz.results13, go_sem, r0, r1]) rfl
      ⟨rfl, below_setCells [.int .i64 ek, .int .u64 ev] 0 HB2.out (by omega)⟩
  · have G1 := hide (fun (W : World) (hF : FrA W #[.int .i64 code, .int .i64 pc, .slice A n c, .slice B m d, .slice none 0 0] q) => (g W _ hF).2)
    rw [hek, hev, heb] at G1
    have HF := hide (Fr.below hf (below_next (below_new w (.cells #[.int .i64 4, .int .u64 val, .int .i64 code, .int .i64 pc, .slice A n c, .slice B m d, .slice none 0 0] 53)) (below_new _ (.cells #[.int .i64 0, .int .u64 0] 47))))
    have K1 := hide ((Bk.new w 53 #[.int .i64 4, .int .u64 val, .int .i64 code, .int .i64 pc, .slice A n c, .slice B m d, .slice none 0 0]).alloc (.cells #[.int .i64 0, .int .u64 0] 47))
    have K2 : Hid (Bk ((w.alloc (.cells #[.int .i64 4, .int .u64 val, .int .i64 code, .int .i64 pc, .slice A n c, .slice B m d, .slice none 0 0] 53)).alloc (.cells #[.int .i64 0, .int .u64 0] 47)) (w.heap.size + 1) 47 #[.int .i64 0, .int .u64 0]) := hide (by simpa using Bk.new (w.alloc (.cells #[.int .i64 4, .int .u64 val, .int .i64 code, .int .i64 pc, .slice A n c, .slice B m d, .slice none 0 0] 53)) 47 #[.int .i64 0, .int .u64 0])
    have HB := hide (below_next (below_new w (.cells #[.int .i64 4, .int .u64 val, .int .i64 code, .int .i64 pc, .slice A n c, .slice B m d, .slice none 0 0] 53)) (below_new _ (.cells #[.int .i64 0, .int .u64 0] 47)))
    clear g hf
    show Calls Tryz.prog 13 #[.agg #[.int .i64 4, .int .u64 val, .int .i64 code, .int .i64 pc, .slice A n c, .slice B m d, .slice none 0 0]] w _
    go_enter Tryz.func13, Tryz.ntmps13
    go_upto_region 1 with fail
    generalize ((w.alloc (.cells #[.int .i64 4, .int .u64 val, .int .i64 code, .int .i64 pc, .slice A n c, .slice B m d, .slice none 0 0] 53)).alloc (.cells #[.int .i64 0, .int .u64 0] 47)) = W at *
    have k0 := K1.out.cell 0
    have k2 := K1.out.cell 2
    have k3 := K1.out.cell 3
    have k4 := K1.out.cell 4
    have k5 := K1.out.cell 5
    have k6 := K1.out.cell 6
    simp only [List.getElem?_toArray, List.getElem?_cons_zero, List.getElem?_cons_succ] at k0 k2 k3 k4 k5 k6
    go_wp2_with fail
    refine (G1.out _ HF.out).mono ?_
    rintro e W2 ⟨rfl, hb⟩
    have KR := hide (K2.out.below hb K2.out.lt)
    have HB2 := hide (HB.out.trans (hb.mono HB.out.size))
    clear hb k0 k2 k3 k4 k5 k6 G1 HF K1 K2 HB
    obtain ⟨r0, r1, rf⟩ : W2.cell? ⟨w.heap.size + 1, 0, none⟩ = some (.int .i64 0) ∧ W2.cell? ⟨w.heap.size + 1, 1, none⟩ = some (.int .u64 0) ∧ ∀ i, W2.frozen? ⟨w.heap.size + 1, i, none⟩ = false := ⟨KR.out.cell 0, KR.out.cell 1, KR.out.frozen⟩
    go_wp2
    exact bodyPost_ret (v := .tuple #[.agg #[.int .i64 ek, .int .u64 ev], .bool eb]) (by simp [results, Tryz.results13, go_sem, r0, r1]) rfl
      ⟨rfl, below_setCells [.int .i64 ek, .int .u64 ev] 0 HB2.out (by omega)⟩
  · have G1 := hide (fun (W : World) (hF : FrA W #[.int .i64 code, .int .i64 pc, .slice A n c, .slice B m d, .slice none 0 0] q) => (g W _ hF).2)
    rw [hek, hev, heb] at G1
    have HF := hide (Fr.below hf (below_next (below_new w (.cells #[.int .i64 5, .int .u64 val, .int .i64 code, .int .i64 pc, .slice A n c, .slice B m d, .slice none 0 0] 53)) (below_new _ (.cells #[.int .i64 0, .int .u64 0] 47))))
    have K1 := hide ((Bk.new w 53 #[.int .i64 5, .int .u64 val, .int .i64 code, .int .i64 pc, .slice A n c, .slice B m d, .slice none 0 0]).alloc (.cells #[.int .i64 0, .int .u64 0] 47))
    have K2 : Hid (Bk ((w.alloc (.cells #[.int .i64 5, .int .u64 val, .int .i64 code, .int .i64 pc, .slice A n c, .slice B m d, .slice none 0 0] 53)).alloc (.cells #[.int .i64 0, .int .u64 0] 47)) (w.heap.size + 1) 47 #[.int .i64 0, .int .u64 0]) := hide (by simpa using Bk.new (w.alloc (.cells #[.int .i64 5, .int .u64 val, .int .i64 code, .int .i64 pc, .slice A n c, .slice B m d, .slice none 0 0] 53)) 47 #[.int .i64 0, .int .u64 0])
    have HB := hide (below_next (below_new w (.cells #[.int .i64 5, .int .u64 val, .int .i64 code, .int .i64 pc, .slice A n c, .slice B m d, .slice none 0 0] 53)) (below_new _ (.cells #[.int .i64 0, .int .u64 0] 47)))
    clear g hf
    show Calls Tryz.prog 13 #[.agg #[.int .i64 5, .int .u64 val, .int .i64 code, .int .i64 pc, .slice A n c, .slice B m d, .slice none 0 0]] w _
    go_enter Tryz.func13, Tryz.ntmps13
    go_upto_region 1 with fail
    generalize ((w.alloc (.cells #[.int .i64 5, .int .u64 val, .int .i64 code, .int .i64 pc, .slice A n c, .slice B m d, .slice none 0 0] 53)).alloc (.cells #[.int .i64 0, .int .u64 0] 47)) = W at *
    have k0 := K1.out.cell 0
    have k2 := K1.out.cell 2
    have k3 := K1.out.cell 3
    have k4 := K1.out.cell 4
    have k5 := K1.out.cell 5
    have k6 := K1.out.cell 6
    simp only [List.getElem?_toArray, List.getElem?_cons_zero, List.getElem?_cons_succ] at k0 k2 k3 k4 k5 k6
    go_wp2_with fail
    refine (G1.out _ HF.out).mono ?_
    rintro e W2 ⟨rfl, hb⟩
    have KR := hide (K2.out.below hb K2.out.lt)
    have HB2 := hide (HB.out.trans (hb.mono HB.out.size))
    clear hb k0 k2 k3 k4 k5 k6 G1 HF K1 K2 HB
    obtain ⟨r0, r1, rf⟩ : W2.cell? ⟨w.heap.size + 1, 0, none⟩ = some (.int .i64 0) ∧ W2.cell? ⟨w.heap.size + 1, 1, none⟩ = some (.int .u64 0) ∧ ∀ i, W2.frozen? ⟨w.heap.size + 1, i, none⟩ = false := ⟨KR.out.cell 0, KR.out.cell 1, KR.out.frozen⟩
    go_wp2
    exact bodyPost_ret (v := .tuple #[.agg #[.int .i64 ek, .int .u64 ev], .bool eb]) (by simp [results, Tryz.results13, go_sem, r0, r1]) rfl
      ⟨rfl, below_setCells [.int .i64 ek, .int .u64 ev] 0 HB2.out (by omega)⟩
  · have G1 := hide (fun (W : World) (hF : FrA W #[.int .i64 code, .int .i64 pc, .slice A n c, .slice B m d, .slice none 0 0] q) => (g W _ hF).2)
    rw [hek, hev, heb] at G1
    have HF := hide (Fr.below hf (below_next (below_new w (.cells #[.int .i64 6, .int .u64 val, .int .i64 code, .int .i64 pc, .slice A n c, .slice B m d, .slice none 0 0] 53)) (below_new _ (.cells #[.int .i64 0, .int .u64 0] 47))))
    have K1 := hide ((Bk.new w 53 #[.int .i64 6, .int .u64 val, .int .i64 code, .int .i64 pc, .slice A n c, .slice B m d, .slice none 0 0]).alloc (.cells #[.int .i64 0, .int .u64 0] 47))
    have K2 : Hid (Bk ((w.alloc (.cells #[.int .i64 6, .int .u64 val, .int .i64 code, .int .i64 pc, .slice A n c, .slice B m d, .slice none 0 0] 53)).alloc (.cells #[.int .i64 0, .int .u64 0] 47)) (w.heap.size + 1) 47 #[.int .i64 0, .int .u64 0]) := hide (by simpa using Bk.new (w.alloc (.cells #[.int .i64 6, .int .u64 val, .int .i64 code, .int .i64 pc, .slice A n c, .slice B m d, .slice none 0 0] 53)) 47 #[.int .i64 0, .int .u64 0])
    have HB := hide (below_next (below_new w (.cells #[.int .i64 6, .int .u64 val, .int .i64 code, .int .i64 pc, .slice A n c, .slice B m d, .slice none 0 0] 53)) (below_new _ (.cells #[.int .i64 0, .int .u64 0] 47)))
    clear g hf
    show Calls Tryz.prog 13 #[.agg #[.int .i64 6, .int .u64 val, .int .i64 code, .int .i64 pc, .slice A n c, .slice B m d, .slice none 0 0]] w _
    go_enter Tryz.func13, Tryz.ntmps13
    go_upto_region 1 with fail
    generalize ((w.alloc (.cells #[.int .i64 6, .int .u64 val, .int .i64 code, .int .i64 pc, .slice A n c, .slice B m d, .slice none 0 0] 53)).alloc (.cells #[.int .i64 0, .int .u64 0] 47)) = W at *
    have k0 := K1.out.cell 0
    have k2 := K1.out.cell 2
    have k3 := K1.out.cell 3
    have k4 := K1.out.cell 4
    have k5 := K1.out.cell 5
    have k6 := K1.out.cell 6
    simp only [List.getElem?_toArray, List.getElem?_cons_zero, List.getElem?_cons_succ] at k0 k2 k3 k4 k5 k6
    go_wp2_with fail
    refine (G1.out _ HF.out).mono ?_
    rintro e W2 ⟨rfl, hb⟩
    have KR := hide (K2.out.below hb K2.out.lt)
    have HB2 := hide (HB.out.trans (hb.mono HB.out.size))
    clear hb k0 k2 k3 k4 k5 k6 G1 HF K1 K2 HB
    obtain ⟨r0, r1, rf⟩ : W2.cell? ⟨w.heap.size + 1, 0, none⟩ = some (.int .i64 0) ∧ W2.cell? ⟨w.heap.size + 1, 1, none⟩ = some (.int .u64 0) ∧ ∀ i, W2.frozen? ⟨w.heap.size + 1, i, none⟩ = false := ⟨KR.out.cell 0, KR.out.cell 1, KR.out.frozen⟩
    go_wp2
    exact bodyPost_ret (v := .tuple #[.agg #[.int .i64 ek, .int .u64 ev], .bool eb]) (by simp [results, Tryz.results13, go_sem, r0, r1]) rfl
      ⟨rfl, below_setCells [.int .i64 ek, .int .u64 ev] 0 HB2.out (by omega)⟩
set_option maxHeartbeats 8000000 in
set_option maxRecDepth 100000 in
theorem mq_resume (w : World) (l : List Int) (cs : Array Value) (x : Mc) (H : Mq w l cs x) (hc : Cap l) (hm : Mv l.length x) (a : Int) (y z : Bool) (LA : Option Addr) (ln lc : Nat) (ha : u64 a) :
    Calls Tryz.prog 50 #[.agg cs, .agg #[.int .u64 a, .bool y, .bool z, .slice LA ln lc]] w fun e w' => ∃ cs', e = .returned (.agg cs') ∧ Mq w' l cs' (mres l x a y) ∧ Below w.heap.size w w' := by
  obtain ⟨val, code, pc, A, n, c, B, m, d, q, rfl, hf, hr⟩ := H
  have hmw : (mres l x a y).what = x.what := mres_what l x a y
  rcases hr with ⟨hw, r⟩ | ⟨hw, r⟩ | ⟨hw, r⟩ | ⟨hw, r⟩
  · have G1 := hide (fun (W : World) (hF : FrA W #[.int .i64 code, .int .i64 pc, .slice A n c, .slice B m d, .slice none 0 0] q) => knows8.res l x q hc hm hw r W _ a y z LA ln lc ha hF)
    rw [hw]
    have HW := hide (hmw.trans hw)
    generalize mres l x a y = x' at *
    have HF := hide (Fr.below hf (below_next (below_next (below_new w (.cells #[.int .i64 3, .int .u64 val, .int .i64 code, .int .i64 pc, .slice A n c, .slice B m d, .slice none 0 0] 53)) (below_new _ (.cells #[.int .u64 a, .bool y, .bool z, .slice LA ln lc] 86))) (below_new _ (.cells #[.int .i64 0, .int .u64 0, .int .i64 0, .int .i64 0, .slice none 0 0, .slice none 0 0, .slice none 0 0] 53))))
    have K1 := hide (((Bk.new w 53 #[.int .i64 3, .int .u64 val, .int .i64 code, .int .i64 pc, .slice A n c, .slice B m d, .slice none 0 0]).alloc (.cells #[.int .u64 a, .bool y, .bool z, .slice LA ln lc] 86)).alloc (.cells #[.int .i64 0, .int .u64 0, .int .i64 0, .int .i64 0, .slice none 0 0, .slice none 0 0, .slice none 0 0] 53))
    have K2 : Hid (Bk (((w.alloc (.cells #[.int .i64 3, .int .u64 val, .int .i64 code, .int .i64 pc, .slice A n c, .slice B m d, .slice none 0 0] 53)).alloc (.cells #[.int .u64 a, .bool y, .bool z, .slice LA ln lc] 86)).alloc (.cells #[.int .i64 0, .int .u64 0, .int .i64 0, .int .i64 0, .slice none 0 0, .slice none 0 0, .slice none 0 0] 53)) (w.heap.size + 1) 86 #[.int .u64 a, .bool y, .bool z, .slice LA ln lc]) := hide (by simpa using (Bk.new (w.alloc (.cells #[.int .i64 3, .int .u64 val, .int .i64 code, .int .i64 pc, .slice A n c, .slice B m d, .slice none 0 0] 53)) 86 #[.int .u64 a, .bool y, .bool z, .slice LA ln lc]).alloc (.cells #[.int .i64 0, .int .u64 0, .int .i64 0, .int .i64 0, .slice none 0 0, .slice none 0 0, .slice none 0 0] 53))
    have K3 : Hid (Bk (((w.alloc (.cells #[.int .i64 3, .int .u64 val, .int .i64 code, .int .i64 pc, .slice A n c, .slice B m d, .slice none 0 0] 53)).alloc (.cells #[.int .u64 a, .bool y, .bool z, .slice LA ln lc] 86)).alloc (.cells #[.int .i64 0, .int .u64 0, .int .i64 0, .int .i64 0, .slice none 0 0, .slice none 0 0, .slice none 0 0] 53)) (w.heap.size + 1 + 1) 53 #[.int .i64 0, .int .u64 0, .int .i64 0, .int .i64 0, .slice none 0 0, .slice none 0 0, .slice none 0 0]) := hide (by simpa using Bk.new ((w.alloc (.cells #[.int .i64 3, .int .u64 val, .int .i64 code, .int .i64 pc, .slice A n c, .slice B m d, .slice none 0 0] 53)).alloc (.cells #[.int .u64 a, .bool y, .bool z, .slice LA ln lc] 86)) 53 #[.int .i64 0, .int .u64 0, .int .i64 0, .int .i64 0, .slice none 0 0, .slice none 0 0, .slice none 0 0])
    have HB := hide (below_next (below_next (below_new w (.cells #[.int .i64 3, .int .u64 val, .int .i64 code, .int .i64 pc, .slice A n c, .slice B m d, .slice none 0 0] 53)) (below_new _ (.cells #[.int .u64 a, .bool y, .bool z, .slice LA ln lc] 86))) (below_new _ (.cells #[.int .i64 0, .int .u64 0, .int .i64 0, .int .i64 0, .slice none 0 0, .slice none 0 0, .slice none 0 0] 53)))
    clear hf hmw r hm hc
    show Calls Tryz.prog 50 #[.agg #[.int .i64 3, .int .u64 val, .int .i64 code, .int .i64 pc, .slice A n c, .slice B m d, .slice none 0 0], .agg #[.int .u64 a, .bool y, .bool z, .slice LA ln lc]] w _
    go_enter Tryz.func50, Tryz.ntmps50
    go_upto_region 1 with fail
    generalize (((w.alloc (.cells #[.int .i64 3, .int .u64 val, .int .i64 code, .int .i64 pc, .slice A n c, .slice B m d, .slice none 0 0] 53)).alloc (.cells #[.int .u64 a, .bool y, .bool z, .slice LA ln lc] 86)).alloc (.cells #[.int .i64 0, .int .u64 0, .int .i64 0, .int .i64 0, .slice none 0 0, .slice none 0 0, .slice none 0 0] 53)) = W at *
    have k0 := K1.out.cell 0
    have k2 := K1.out.cell 2
    have k3 := K1.out.cell 3
    have k4 := K1.out.cell 4
    have k5 := K1.out.cell 5
    have k6 := K1.out.cell 6
    simp only [List.getElem?_toArray, List.getElem?_cons_zero, List.getElem?_cons_succ] at k0 k2 k3 k4 k5 k6
    obtain ⟨a0, a1, a2, a3, -⟩ := bk4 K2.out
    go_wp2_with fail
    refine (G1.out _ HF.out).mono ?_
    rintro e W2 ⟨cs2, q2, rfl, hf2, r2, hb⟩
    obtain ⟨A2, n2, c2, B2, m2, d2, rfl, -⟩ := id hf2
    have L1 := hide (K1.out.below hb K1.out.lt)
    have L3 := hide (K3.out.below hb K3.out.lt)
    have HB2 := hide (HB.out.trans (hb.mono HB.out.size))
    have HF2 := hide hf2
    have R2 := hide r2
    clear hb k0 k2 k3 k4 k5 k6 a0 a1 a2 a3 G1 HF K1 K2 K3 HB hf2 r2
    have HT1 := hide (L1.out.thereO (o := 2) (n := 5) (Nat.le_refl 7))
    go_upto_region 9 with ((with_reducible show wpList _ _ _ _ _ _); refine wpList_store_resO (by rfl) 51 _ _ (by rfl) (w.heap.size) 2 #[.int .i64 q2.code, .int .i64 q2.pc, .slice A2 n2 c2, .slice B2 m2 d2, .slice none 0 0] (by rfl) (by rfl) HT1.out Tryz.fr_inf (fr_one _ _ _ _ _ _ _ _ _ _ _) ?_; intro wz HZ1)
    have M1 := hide (mq_box L1.out HZ1)
    have M3 : Hid (Bk wz (w.heap.size + 1 + 1) 53 #[.int .i64 0, .int .u64 0, .int .i64 0, .int .i64 0, .slice none 0 0, .slice none 0 0, .slice none 0 0]) := hide (by rw [HZ1.out]; exact L3.out.grown (grown_sets _ 2 W2) (by intro e; injection e with e; omega))
    have HT3 := hide (M3.out.there (n := 7) rfl)
    obtain ⟨u0, u1, u2, u3, u4, u5, u6, uf⟩ := bk7 M1.out
    go_wp2_with ((with_reducible show wpList _ _ _ _ _ _); refine wpList_store_res (by rfl) 53 _ _ (by rfl) (w.heap.size + 1 + 1) #[.int .i64 3, .int .u64 val, .int .i64 q2.code, .int .i64 q2.pc, .slice A2 n2 c2, .slice B2 m2 d2, .slice none 0 0] (by rfl) (by rfl) HT3.out Tryz.mq_sz (mq_one _ _ _ _ _ _ _ _ _ _) ?_; intro wy HZ2)
    have kk : ∀ T, T ≠ 53 → Kp W2 wy T := fun T hT => by
      rw [HZ2.out]
      refine Kp.trans (w' := wz) ?_ (kp_sets hT _ 0 M3.out)
      rw [HZ1.out]
      exact kp_sets hT _ 2 L1.out
    have KF := hide (Fr.kp HF2.out (kk 42 (by decide)) (kk 3 (by decide)))
    obtain ⟨fs, hfs⟩ := Tryz.mq_und
    exact ret_stored HZ2 Tryz.results50 rfl HT3.out hfs rfl Tryz.mq_sz rfl ⟨_, rfl, ⟨val, q2.code, q2.pc, A2, n2, c2, B2, m2, d2, q2, by rw [HW.out]; rfl, KF.out, .inl ⟨HW.out, R2.out⟩⟩, below_stored HZ2 (below_stored' HZ1 HB2.out (Nat.le_refl _)) (by omega)⟩
  · have G1 := hide (fun (W : World) (hF : FrA W #[.int .i64 code, .int .i64 pc, .slice A n c, .slice B m d, .slice none 0 0] q) => knows9.res l x q hc hm hw r W _ a y z LA ln lc ha hF)
    rw [hw]
    have HW := hide (hmw.trans hw)
    generalize mres l x a y = x' at *
    have HF := hide (Fr.below hf (below_next (below_next (below_new w (.cells #[.int .i64 4, .int .u64 val, .int .i64 code, .int .i64 pc, .slice A n c, .slice B m d, .slice none 0 0] 53)) (below_new _ (.cells #[.int .u64 a, .bool y, .bool z, .slice LA ln lc] 86))) (below_new _ (.cells #[.int .i64 0, .int .u64 0, .int .i64 0, .int .i64 0, .slice none 0 0, .slice none 0 0, .slice none 0 0] 53))))
    have K1 := hide (((Bk.new w 53 #[.int .i64 4, .int .u64 val, .int .i64 code, .int .i64 pc, .slice A n c, .slice B m d, .slice none 0 0]).alloc (.cells #[.int .u64 a, .bool y, .bool z, .slice LA ln lc] 86)).alloc (.cells #[.int .i64 0, .int .u64 0, .int .i64 0, .int .i64 0, .slice none 0 0, .slice none 0 0, .slice none 0 0] 53))
    have K2 : Hid (Bk (((w.alloc (.cells #[.int .i64 4, .int .u64 val, .int .i64 code, .int .i64 pc, .slice A n c, .slice B m d, .slice none 0 0] 53)).alloc (.cells #[.int .u64 a, .bool y, .bool z, .slice LA ln lc] 86)).alloc (.cells #[.int .i64 0, .int .u64 0, .int .i64 0, .int .i64 0, .slice none 0 0, .slice none 0 0, .slice none 0 0] 53)) (w.heap.size + 1) 86 #[.int .u64 a, .bool y, .bool z, .slice LA ln lc]) := hide (by simpa using (Bk.new (w.alloc (.cells #[.int .i64 4, .int .u64 val, .int .i64 code, .int .i64 pc, .slice A n c, .slice B m d, .slice none 0 0] 53)) 86 #[.int .u64 a, .bool y, .bool z, .slice LA ln lc]).alloc (.cells #[.int .i64 0, .int .u64 0, .int .i64 0, .int .i64 0, .slice none 0 0, .slice none 0 0, .slice none 0 0] 53))
    have K3 : Hid (Bk (((w.alloc (.cells #[.int .i64 4, .int .u64 val, .int .i64 code, .int .i64 pc, .slice A n c, .slice B m d, .slice none 0 0] 53)).alloc (.cells #[.int .u64 a, .bool y, .bool z, .slice LA ln lc] 86)).alloc (.cells #[.int .i64 0, .int .u64 0, .int .i64 0, .int .i64 0, .slice none 0 0, .slice none 0 0, .slice none 0 0] 53)) (w.heap.size + 1 + 1) 53 #[.int .i64 0, .int .u64 0, .int .i64 0, .int .i64 0, .slice none 0 0, .slice none 0 0, .slice none 0 0]) := hide (by simpa using Bk.new ((w.alloc (.cells #[.int .i64 4, .int .u64 val, .int .i64 code, .int .i64 pc, .slice A n c, .slice B m d, .slice none 0 0] 53)).alloc (.cells #[.int .u64 a, .bool y, .bool z, .slice LA ln lc] 86)) 53 #[.int .i64 0, .int .u64 0, .int .i64 0, .int .i64 0, .slice none 0 0, .slice none 0 0, .slice none 0 0])
    have HB := hide (below_next (below_next (below_new w (.cells #[.int .i64 4, .int .u64 val, .int .i64 code, .int .i64 pc, .slice A n c, .slice B m d, .slice none 0 0] 53)) (below_new _ (.cells #[.int .u64 a, .bool y, .bool z, .slice LA ln lc] 86))) (below_new _ (.cells #[.int .i64 0, .int .u64 0, .int .i64 0, .int .i64 0, .slice none 0 0, .slice none 0 0, .slice none 0 0] 53)))
    clear hf hmw r hm hc
    show Calls Tryz.prog 50 #[.agg #[.int .i64 4, .int .u64 val, .int .i64 code, .int .i64 pc, .slice A n c, .slice B m d, .slice none 0 0], .agg #[.int .u64 a, .bool y, .bool z, .slice LA ln lc]] w _
    go_enter Tryz.func50, Tryz.ntmps50
    go_upto_region 1 with fail
    generalize (((w.alloc (.cells #[.int .i64 4, .int .u64 val, .int .i64 code, .int .i64 pc, .slice A n c, .slice B m d, .slice none 0 0] 53)).alloc (.cells #[.int .u64 a, .bool y, .bool z, .slice LA ln lc] 86)).alloc (.cells #[.int .i64 0, .int .u64 0, .int .i64 0, .int .i64 0, .slice none 0 0, .slice none 0 0, .slice none 0 0] 53)) = W at *
    have k0 := K1.out.cell 0
    have k2 := K1.out.cell 2
    have k3 := K1.out.cell 3
    have k4 := K1.out.cell 4
    have k5 := K1.out.cell 5
    have k6 := K1.out.cell 6
    simp only [List.getElem?_toArray, List.getElem?_cons_zero, List.getElem?_cons_succ] at k0 k2 k3 k4 k5 k6
    obtain ⟨a0, a1, a2, a3, -⟩ := bk4 K2.out
    go_wp2_with fail
    refine (G1.out _ HF.out).mono ?_
    rintro e W2 ⟨cs2, q2, rfl, hf2, r2, hb⟩
    obtain ⟨A2, n2, c2, B2, m2, d2, rfl, -⟩ := id hf2
    have L1 := hide (K1.out.below hb K1.out.lt)
    have L3 := hide (K3.out.below hb K3.out.lt)
    have HB2 := hide (HB.out.trans (hb.mono HB.out.size))
    have HF2 := hide hf2
    have R2 := hide r2
    clear hb k0 k2 k3 k4 k5 k6 a0 a1 a2 a3 G1 HF K1 K2 K3 HB hf2 r2
    have HT1 := hide (L1.out.thereO (o := 2) (n := 5) (Nat.le_refl 7))
    go_upto_region 9 with ((with_reducible show wpList _ _ _ _ _ _); refine wpList_store_resO (by rfl) 51 _ _ (by rfl) (w.heap.size) 2 #[.int .i64 q2.code, .int .i64 q2.pc, .slice A2 n2 c2, .slice B2 m2 d2, .slice none 0 0] (by rfl) (by rfl) HT1.out Tryz.fr_inf (fr_one _ _ _ _ _ _ _ _ _ _ _) ?_; intro wz HZ1)
    have M1 := hide (mq_box L1.out HZ1)
    have M3 : Hid (Bk wz (w.heap.size + 1 + 1) 53 #[.int .i64 0, .int .u64 0, .int .i64 0, .int .i64 0, .slice none 0 0, .slice none 0 0, .slice none 0 0]) := hide (by rw [HZ1.out]; exact L3.out.grown (grown_sets _ 2 W2) (by intro e; injection e with e; omega))
    have HT3 := hide (M3.out.there (n := 7) rfl)
    obtain ⟨u0, u1, u2, u3, u4, u5, u6, uf⟩ := bk7 M1.out
    go_wp2_with ((with_reducible show wpList _ _ _ _ _ _); refine wpList_store_res (by rfl) 53 _ _ (by rfl) (w.heap.size + 1 + 1) #[.int .i64 4, .int .u64 val, .int .i64 q2.code, .int .i64 q2.pc, .slice A2 n2 c2, .slice B2 m2 d2, .slice none 0 0] (by rfl) (by rfl) HT3.out Tryz.mq_sz (mq_one _ _ _ _ _ _ _ _ _ _) ?_; intro wy HZ2)
    have kk : ∀ T, T ≠ 53 → Kp W2 wy T := fun T hT => by
      rw [HZ2.out]
      refine Kp.trans (w' := wz) ?_ (kp_sets hT _ 0 M3.out)
      rw [HZ1.out]
      exact kp_sets hT _ 2 L1.out
    have KF := hide (Fr.kp HF2.out (kk 42 (by decide)) (kk 3 (by decide)))
    obtain ⟨fs, hfs⟩ := Tryz.mq_und
    exact ret_stored HZ2 Tryz.results50 rfl HT3.out hfs rfl Tryz.mq_sz rfl ⟨_, rfl, ⟨val, q2.code, q2.pc, A2, n2, c2, B2, m2, d2, q2, by rw [HW.out]; rfl, KF.out, .inr (.inl ⟨HW.out, R2.out⟩)⟩, below_stored HZ2 (below_stored' HZ1 HB2.out (Nat.le_refl _)) (by omega)⟩
  · have G1 := hide (fun (W : World) (hF : FrA W #[.int .i64 code, .int .i64 pc, .slice A n c, .slice B m d, .slice none 0 0] q) => knows10.res l x q hc hm hw r W _ a y z LA ln lc ha hF)
    rw [hw]
    have HW := hide (hmw.trans hw)
    generalize mres l x a y = x' at *
    have HF := hide (Fr.below hf (below_next (below_next (below_new w (.cells #[.int .i64 5, .int .u64 val, .int .i64 code, .int .i64 pc, .slice A n c, .slice B m d, .slice none 0 0] 53)) (below_new _ (.cells #[.int .u64 a, .bool y, .bool z, .slice LA ln lc] 86))) (below_new _ (.cells #[.int .i64 0, .int .u64 0, .int .i64 0, .int .i64 0, .slice none 0 0, .slice none 0 0, .slice none 0 0] 53))))
    have K1 := hide (((Bk.new w 53 #[.int .i64 5, .int .u64 val, .int .i64 code, .int .i64 pc, .slice A n c, .slice B m d, .slice none 0 0]).alloc (.cells #[.int .u64 a, .bool y, .bool z, .slice LA ln lc] 86)).alloc (.cells #[.int .i64 0, .int .u64 0, .int .i64 0, .int .i64 0, .slice none 0 0, .slice none 0 0, .slice none 0 0] 53))
    have K2 : Hid (Bk (((w.alloc (.cells #[.int .i64 5, .int .u64 val, .int .i64 code, .int .i64 pc, .slice A n c, .slice B m d, .slice none 0 0] 53)).alloc (.cells #[.int .u64 a, .bool y, .bool z, .slice LA ln lc] 86)).alloc (.cells #[.int .i64 0, .int .u64 0, .int .i64 0, .int .i64 0, .slice none 0 0, .slice none 0 0, .slice none 0 0] 53)) (w.heap.size + 1) 86 #[.int .u64 a, .bool y, .bool z, .slice LA ln lc]) := hide (by simpa using (Bk.new (w.alloc (.cells #[.int .i64 5, .int .u64 val, .int .i64 code, .int .i64 pc, .slice A n c, .slice B m d, .slice none 0 0] 53)) 86 #[.int .u64 a, .bool y, .bool z, .slice LA ln lc]).alloc (.cells #[.int .i64 0, .int .u64 0, .int .i64 0, .int .i64 0, .slice none 0 0, .slice none 0 0, .slice none 0 0] 53))
    have K3 : Hid (Bk (((w.alloc (.cells #[.int .i64 5, .int .u64 val, .int .i64 code, .int .i64 pc, .slice A n c, .slice B m d, .slice none 0 0] 53)).alloc (.cells #[.int .u64 a, .bool y, .bool z, .slice LA ln lc] 86)).alloc (.cells #[.int .i64 0, .int .u64 0, .int .i64 0, .int .i64 0, .slice none 0 0, .slice none 0 0, .slice none 0 0] 53)) (w.heap.size + 1 + 1) 53 #[.int .i64 0, .int .u64 0, .int .i64 0, .int .i64 0, .slice none 0 0, .slice none 0 0, .slice none 0 0]) := hide (by simpa using Bk.new ((w.alloc (.cells #[.int .i64 5, .int .u64 val, .int .i64 code, .int .i64 pc, .slice A n c, .slice B m d, .slice none 0 0] 53)).alloc (.cells #[.int .u64 a, .bool y, .bool z, .slice LA ln lc] 86)) 53 #[.int .i64 0, .int .u64 0, .int .i64 0, .int .i64 0, .slice none 0 0, .slice none 0 0, .slice none 0 0])
    have HB := hide (below_next (below_next (below_new w (.cells #[.int .i64 5, .int .u64 val, .int .i64 code, .int .i64 pc, .slice A n c, .slice B m d, .slice none 0 0] 53)) (below_new _ (.cells #[.int .u64 a, .bool y, .bool z, .slice LA ln lc] 86))) (below_new _ (.cells #[.int .i64 0, .int .u64 0, .int .i64 0, .int .i64 0, .slice none 0 0, .slice none 0 0, .slice none 0 0] 53)))
    clear hf hmw r hm hc
    show Calls Tryz.prog 50 #[.agg #[.int .i64 5, .int .u64 val, .int .i64 code, .int .i64 pc, .slice A n c, .slice B m d, .slice none 0 0], .agg #[.int .u64 a, .bool y, .bool z, .slice LA ln lc]] w _
    go_enter Tryz.func50, Tryz.ntmps50
    go_upto_region 1 with fail
    generalize (((w.alloc (.cells #[.int .i64 5, .int .u64 val, .int .i64 code, .int .i64 pc, .slice A n c, .slice B m d, .slice none 0 0] 53)).alloc (.cells #[.int .u64 a, .bool y, .bool z, .slice LA ln lc] 86)).alloc (.cells #[.int .i64 0, .int .u64 0, .int .i64 0, .int .i64 0, .slice none 0 0, .slice none 0 0, .slice none 0 0] 53)) = W at *
    have k0 := K1.out.cell 0
    have k2 := K1.out.cell 2
    have k3 := K1.out.cell 3
    have k4 := K1.out.cell 4
    have k5 := K1.out.cell 5
    have k6 := K1.out.cell 6
    simp only [List.getElem?_toArray, List.getElem?_cons_zero, List.getElem?_cons_succ] at k0 k2 k3 k4 k5 k6
    obtain ⟨a0, a1, a2, a3, -⟩ := bk4 K2.out
    go_wp2_with fail
    refine (G1.out _ HF.out).mono ?_
    rintro e W2 ⟨cs2, q2, rfl, hf2, r2, hb⟩
    obtain ⟨A2, n2, c2, B2, m2, d2, rfl, -⟩ := id hf2
    have L1 := hide (K1.out.below hb K1.out.lt)
    have L3 := hide (K3.out.below hb K3.out.lt)
    have HB2 := hide (HB.out.trans (hb.mono HB.out.size))
    have HF2 := hide hf2
    have R2 := hide r2
    clear hb k0 k2 k3 k4 k5 k6 a0 a1 a2 a3 G1 HF K1 K2 K3 HB hf2 r2
    have HT1 := hide (L1.out.thereO (o := 2) (n := 5) (Nat.le_refl 7))
    go_upto_region 9 with ((with_reducible show wpList _ _ _ _ _ _); refine wpList_store_resO (by rfl) 51 _ _ (by rfl) (w.heap.size) 2 #[.int .i64 q2.code, .int .i64 q2.pc, .slice A2 n2 c2, .slice B2 m2 d2, .slice none 0 0] (by rfl) (by rfl) HT1.out Tryz.fr_inf (fr_one _ _ _ _ _ _ _ _ _ _ _) ?_; intro wz HZ1)
    have M1 := hide (mq_box L1.out HZ1)
    have M3 : Hid (Bk wz (w.heap.size + 1 + 1) 53 #[.int .i64 0, .int .u64 0, .int .i64 0, .int .i64 0, .slice none 0 0, .slice none 0 0, .slice none 0 0]) := hide (by rw [HZ1.out]; exact L3.out.grown (grown_sets _ 2 W2) (by intro e; injection e with e; omega))
    have HT3 := hide (M3.out.there (n := 7) rfl)
    obtain ⟨u0, u1, u2, u3, u4, u5, u6, uf⟩ := bk7 M1.out
    go_wp2_with ((with_reducible show wpList _ _ _ _ _ _); refine wpList_store_res (by rfl) 53 _ _ (by rfl) (w.heap.size + 1 + 1) #[.int .i64 5, .int .u64 val, .int .i64 q2.code, .int .i64 q2.pc, .slice A2 n2 c2, .slice B2 m2 d2, .slice none 0 0] (by rfl) (by rfl) HT3.out Tryz.mq_sz (mq_one _ _ _ _ _ _ _ _ _ _) ?_; intro wy HZ2)
    have kk : ∀ T, T ≠ 53 → Kp W2 wy T := fun T hT => by
      rw [HZ2.out]
      refine Kp.trans (w' := wz) ?_ (kp_sets hT _ 0 M3.out)
      rw [HZ1.out]
      exact kp_sets hT _ 2 L1.out
    have KF := hide (Fr.kp HF2.out (kk 42 (by decide)) (kk 3 (by decide)))
    obtain ⟨fs, hfs⟩ := Tryz.mq_und
    exact ret_stored HZ2 Tryz.results50 rfl HT3.out hfs rfl Tryz.mq_sz rfl ⟨_, rfl, ⟨val, q2.code, q2.pc, A2, n2, c2, B2, m2, d2, q2, by rw [HW.out]; rfl, KF.out, .inr (.inr (.inl ⟨HW.out, R2.out⟩))⟩, below_stored HZ2 (below_stored' HZ1 HB2.out (Nat.le_refl _)) (by omega)⟩
  · have G1 := hide (fun (W : World) (hF : FrA W #[.int .i64 code, .int .i64 pc, .slice A n c, .slice B m d, .slice none 0 0] q) => knows11.res l x q hc hm hw r W _ a y z LA ln lc ha hF)
    rw [hw]
    have HW := hide (hmw.trans hw)
    generalize mres l x a y = x' at *
    have HF := hide (Fr.below hf (below_next (below_next (below_new w (.cells #[.int .i64 6, .int .u64 val, .int .i64 code, .int .i64 pc, .slice A n c, .slice B m d, .slice none 0 0] 53)) (below_new _ (.cells #[.int .u64 a, .bool y, .bool z, .slice LA ln lc] 86))) (below_new _ (.cells #[.int .i64 0, .int .u64 0, .int .i64 0, .int .i64 0, .slice none 0 0, .slice none 0 0, .slice none 0 0] 53))))
    have K1 := hide (((Bk.new w 53 #[.int .i64 6, .int .u64 val, .int .i64 code, .int .i64 pc, .slice A n c, .slice B m d, .slice none 0 0]).alloc (.cells #[.int .u64 a, .bool y, .bool z, .slice LA ln lc] 86)).alloc (.cells #[.int .i64 0, .int .u64 0, .int .i64 0, .int .i64 0, .slice none 0 0, .slice none 0 0, .slice none 0 0] 53))
    have K2 : Hid (Bk (((w.alloc (.cells #[.int .i64 6, .int .u64 val, .int .i64 code, .int .i64 pc, .slice A n c, .slice B m d, .slice none 0 0] 53)).alloc (.cells #[.int .u64 a, .bool y, .bool z, .slice LA ln lc] 86)).alloc (.cells #[.int .i64 0, .int .u64 0, .int .i64 0, .int .i64 0, .slice none 0 0, .slice none 0 0, .slice none 0 0] 53)) (w.heap.size + 1) 86 #[.int .u64 a, .bool y, .bool z, .slice LA ln lc]) := hide (by simpa using (Bk.new (w.alloc (.cells #[.int .i64 6, .int .u64 val, .int .i64 code, .int .i64 pc, .slice A n c, .slice B m d, .slice none 0 0] 53)) 86 #[.int .u64 a, .bool y, .bool z, .slice LA ln lc]).alloc (.cells #[.int .i64 0, .int .u64 0, .int .i64 0, .int .i64 0, .slice none 0 0, .slice none 0 0, .slice none 0 0] 53))
    have K3 : Hid (Bk (((w.alloc (.cells #[.int .i64 6, .int .u64 val, .int .i64 code, .int .i64 pc, .slice A n c, .slice B m d, .slice none 0 0] 53)).alloc (.cells #[.int .u64 a, .bool y, .bool z, .slice LA ln lc] 86)).alloc (.cells #[.int .i64 0, .int .u64 0, .int .i64 0, .int .i64 0, .slice none 0 0, .slice none 0 0, .slice none 0 0] 53)) (w.heap.size + 1 + 1) 53 #[.int .i64 0, .int .u64 0, .int .i64 0, .int .i64 0, .slice none 0 0, .slice none 0 0, .slice none 0 0]) := hide (by simpa using Bk.new ((w.alloc (.cells #[.int .i64 6, .int .u64 val, .int .i64 code, .int .i64 pc, .slice A n c, .slice B m d, .slice none 0 0] 53)).alloc (.cells #[.int .u64 a, .bool y, .bool z, .slice LA ln lc] 86)) 53 #[.int .i64 0, .int .u64 0, .int .i64 0, .int .i64 0, .slice none 0 0, .slice none 0 0, .slice none 0 0])
    have HB := hide (below_next (below_next (below_new w (.cells #[.int .i64 6, .int .u64 val, .int .i64 code, .int .i64 pc, .slice A n c, .slice B m d, .slice none 0 0] 53)) (below_new _ (.cells #[.int .u64 a, .bool y, .bool z, .slice LA ln lc] 86))) (below_new _ (.cells #[.int .i64 0, .int .u64 0, .int .i64 0, .int .i64 0, .slice none 0 0, .slice none 0 0, .slice none 0 0] 53)))
    clear hf hmw r hm hc
    show Calls Tryz.prog 50 #[.agg #[.int .i64 6, .int .u64 val, .int .i64 code, .int .i64 pc, .slice A n c, .slice B m d, .slice none 0 0], .agg #[.int .u64 a, .bool y, .bool z, .slice LA ln lc]] w _
    go_enter Tryz.func50, Tryz.ntmps50
    go_upto_region 1 with fail
    generalize (((w.alloc (.cells #[.int .i64 6, .int .u64 val, .int .i64 code, .int .i64 pc, .slice A n c, .slice B m d, .slice none 0 0] 53)).alloc (.cells #[.int .u64 a, .bool y, .bool z, .slice LA ln lc] 86)).alloc (.cells #[.int .i64 0, .int .u64 0, .int .i64 0, .int .i64 0, .slice none 0 0, .slice none 0 0, .slice none 0 0] 53)) = W at *
    have k0 := K1.out.cell 0
    have k2 := K1.out.cell 2
    have k3 := K1.out.cell 3
    have k4 := K1.out.cell 4
    have k5 := K1.out.cell 5
    have k6 := K1.out.cell 6
    simp only [List.getElem?_toArray, List.getElem?_cons_zero, List.getElem?_cons_succ] at k0 k2 k3 k4 k5 k6
    obtain ⟨a0, a1, a2, a3, -⟩ := bk4 K2.out
    go_wp2_with fail
    refine (G1.out _ HF.out).mono ?_
    rintro e W2 ⟨cs2, q2, rfl, hf2, r2, hb⟩
    obtain ⟨A2, n2, c2, B2, m2, d2, rfl, -⟩ := id hf2
    have L1 := hide (K1.out.below hb K1.out.lt)
    have L3 := hide (K3.out.below hb K3.out.lt)
    have HB2 := hide (HB.out.trans (hb.mono HB.out.size))
    have HF2 := hide hf2
    have R2 := hide r2
    clear hb k0 k2 k3 k4 k5 k6 a0 a1 a2 a3 G1 HF K1 K2 K3 HB hf2 r2
    have HT1 := hide (L1.out.thereO (o := 2) (n := 5) (Nat.le_refl 7))
    go_upto_region 9 with ((with_reducible show wpList _ _ _ _ _ _); refine wpList_store_resO (by rfl) 51 _ _ (by rfl) (w.heap.size) 2 #[.int .i64 q2.code, .int .i64 q2.pc, .slice A2 n2 c2, .slice B2 m2 d2, .slice none 0 0] (by rfl) (by rfl) HT1.out Tryz.fr_inf (fr_one _ _ _ _ _ _ _ _ _ _ _) ?_; intro wz HZ1)
    have M1 := hide (mq_box L1.out HZ1)
    have M3 : Hid (Bk wz (w.heap.size + 1 + 1) 53 #[.int .i64 0, .int .u64 0, .int .i64 0, .int .i64 0, .slice none 0 0, .slice none 0 0, .slice none 0 0]) := hide (by rw [HZ1.out]; exact L3.out.grown (grown_sets _ 2 W2) (by intro e; injection e with e; omega))
    have HT3 := hide (M3.out.there (n := 7) rfl)
    obtain ⟨u0, u1, u2, u3, u4, u5, u6, uf⟩ := bk7 M1.out
    go_wp2_with ((with_reducible show wpList _ _ _ _ _ _); refine wpList_store_res (by rfl) 53 _ _ (by rfl) (w.heap.size + 1 + 1) #[.int .i64 6, .int .u64 val, .int .i64 q2.code, .int .i64 q2.pc, .slice A2 n2 c2, .slice B2 m2 d2, .slice none 0 0] (by rfl) (by rfl) HT3.out Tryz.mq_sz (mq_one _ _ _ _ _ _ _ _ _ _) ?_; intro wy HZ2)
    have kk : ∀ T, T ≠ 53 → Kp W2 wy T := fun T hT => by
      rw [HZ2.out]
      refine Kp.trans (w' := wz) ?_ (kp_sets hT _ 0 M3.out)
      rw [HZ1.out]
      exact kp_sets hT _ 2 L1.out
    have KF := hide (Fr.kp HF2.out (kk 42 (by decide)) (kk 3 (by decide)))
    obtain ⟨fs, hfs⟩ := Tryz.mq_und
    exact ret_stored HZ2 Tryz.results50 rfl HT3.out hfs rfl Tryz.mq_sz rfl ⟨_, rfl, ⟨val, q2.code, q2.pc, A2, n2, c2, B2, m2, d2, q2, by rw [HW.out]; rfl, KF.out, .inr (.inr (.inr ⟨HW.out, R2.out⟩))⟩, below_stored HZ2 (below_stored' HZ1 HB2.out (Nat.le_refl _)) (by omega)⟩
end Go.Proofs.YtepngbdjobckbaaGreat
