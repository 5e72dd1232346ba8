/- Contracts: the draws of a permutation (draw.Draws, chanfabricref2.Draws). -/
import Derived.Test.YtidncklgoaofpaaD7
namespace Go.Proofs.Ytidncklgoaofpaa
open Go.RowKit
set_option linter.unusedVariables false

theorem Try.bool_infD : (Try.prog.info? 4).map (fun i => (i.zero, i.size, i.bytes)) = some (some (.bool false), 1, 1) := by kernel_rfl
def bsC (l : List Bool) : Array Value := (l.map Value.bool).toArray
theorem madeBs (n : Nat) : madeCells #[Value.bool false] n = bsC (List.replicate n false) := by
  unfold bsC madeCells
  apply Array.ext
  · simp
  · intro i h1 h2
    simp [Nat.mod_one]
def markL (t : Nat) (l : List Int) (j : Nat) : List Bool := (List.range t).map fun (i : Nat) => (l.take j).contains (i : Int)
theorem markL_len (t : Nat) (l : List Int) (j : Nat) : (markL t l j).length = t := by unfold markL; simp
theorem markL_zero (t : Nat) (l : List Int) : markL t l 0 = List.replicate t false := by
  unfold markL
  apply List.ext_getElem
  · simp
  · intro i h1 h2
    simp
theorem markL_at (t : Nat) (l : List Int) (j i : Nat) (h : i < t) : (markL t l j).getD i false = (l.take j).contains (i : Int) := by
  unfold markL
  simp [List.getD, List.getElem?_map, List.getElem?_range h]
theorem markL_step (t : Nat) (l : List Int) (j x : Nat) (hj : j < l.length) (hx : l.getD j 0 = (x : Int)) : (markL t l j).set x true = markL t l (j + 1) := by
  have e : l.getD j 0 = l[j] := by simp [List.getD, List.getElem?_eq_getElem hj]
  rw [e] at hx
  apply List.ext_getElem
  · simp [markL_len]
  · intro i h1 h2
    have key : ∀ (q i : Nat) (h : i < (markL t l q).length), (markL t l q)[i] = (l.take q).contains (i : Int) := by
      intro q i h
      unfold markL
      simp
    rw [List.getElem_set, key, key]
    rw [List.take_succ_eq_append_getElem hj, hx]
    by_cases ei : x = i
    · subst ei; simp
    · rw [if_neg ei]
      rw [Bool.eq_iff_iff]
      simp
      omega
theorem markL_no (t : Nat) (l : List Int) (j x : Nat) (hj : j < l.length) (hx : l.getD j 0 = (x : Int)) (hn : l.Nodup) (ht : x < t) : (markL t l j).getD x false = false := by
  rw [markL_at t l j x ht]
  have e : l.getD j 0 = l[j] := by simp [List.getD, List.getElem?_eq_getElem hj]
  rw [e] at hx
  rw [← hx, Bool.eq_false_iff]
  intro h
  rw [List.contains_iff_mem] at h
  have h2 := List.nodup_append.1 (by rw [List.take_append_drop]; exact hn : (l.take j ++ l.drop j).Nodup)
  have h3 : l[j] ∈ l.drop j := by rw [List.drop_eq_getElem_cons hj]; exact List.mem_cons_self
  exact h2.2.2 _ h _ h3 rfl
theorem bsC_set {w : World} {g : Nat} {t : TypeId} {l : List Bool} (i : Nat) (b : Bool) (h : Bk w g t (bsC l)) : Bk (w.setCell ⟨g, i, none⟩ (.bool b)) g t (bsC (l.set i b)) := by
  have := h.set_ i (.bool b)
  unfold bsC at *
  simpa using this
theorem bsC_cell {w : World} {g n : Nat} {t : TypeId} {l : List Bool} (h : Bk w g t (bsC l)) (hl : l.length = n) (i : Nat) (hi : i < n) : w.cell? ⟨g, i, none⟩ = some (.bool (l.getD i false)) := by
  rw [h.cell i]
  unfold bsC
  simp [List.getD, List.getElem?_eq_getElem (show i < l.length by omega)]
theorem nodup_take_succ {l : List Int} {k : Nat} (hk : k < l.length) (h : (l.take k).Nodup) (hx : (l.take k).contains l[k] = false) : (l.take (k + 1)).Nodup := by
  rw [List.take_succ_eq_append_getElem hk]
  refine List.nodup_append.2 ⟨h, by simp, ?_⟩
  intro a ha b hb e
  simp only [List.mem_singleton] at hb
  subst e
  subst hb
  rw [Bool.eq_false_iff] at hx
  exact hx (List.contains_iff_mem.2 ha)

theorem find_any (w : World) (A : Option Addr) (n c : Nat) (l : List Int) (x : Int) (h : IsI .i64 w A n l) (hn : n ≤ 100000) :
    Calls Try.prog 42 #[.slice A n c, .int .i64 x] w fun e w' => e = .returned (.int .i64 (if idx l x < n then (idx l x : Nat) else -1)) ∧ w = w' := by
  have hl := h.len
  have hle := idx_le l x
  rw [hl] at hle
  have HAT : Hid (idx l x < l.length → l.getD (idx l x) 0 = x) := fun h => idx_at h
  have HBF : Hid (∀ j, j < idx l x → l.getD j 0 ≠ x) := fun j h => idx_before h
  have HL := hide hl
  clear hl
  generalize idx l x = q at HAT HBF hle
  go_enter Try.func42, Try.ntmps42
  go_wp2
  go_loopg [5] n (fun g i wr => ∃ k : Nat, g + k = n ∧ k ≤ q ∧ i = .int .i64 k ∧ wr = w)
  case atStart => exact ⟨0, by omega, by omega, rfl, rfl⟩
  case round =>
    obtain ⟨k, hk, hkq, rfl, rfl⟩ := hrel
    by_cases hlt : k < n
    · obtain ⟨ad, rfl, _, c1⟩ := h.at_ hlt
      by_cases hq : k = q
      · subst hq
        rw [HAT.out (by rw [HL.out]; exact hlt)] at c1
        have he : (x == x) = true := by simp
        go_wp2
        go_ret
        exact ⟨rfl, rfl⟩
      · have hne := HBF.out k (by omega)
        have he : (l.getD k 0 == x) = false := by simpa using hne
        have HQ : Hid (k ≠ q) := hq
        clear hne hq
        generalize l.getD k 0 = y at c1 he
        go_wp2
        go_roundg (gk - 1)
        case rel =>
          have hq2 : k ≠ q := HQ.out
          exact ⟨k + 1, by omega, by omega, by go_num, rfl⟩
        case measure => omega
    · go_wp2
      go_ret
      exact ⟨rfl, rfl⟩

theorem drsB_no {o : List Int} (h : 20 < o.length ∨ isPB o = false) : drsB o = false ∧ drsO o = [] := by
  have e : drsB o = false := by
    unfold drsB
    rcases h with h | h
    · rw [decide_eq_false (by omega)]; rfl
    · rw [h]; simp
  exact ⟨e, by unfold drsO; rw [e]; rfl⟩
theorem drsB_yes {o : List Int} (h1 : o.length ≤ 20) (h2 : isPB o = true) : drsB o = true ∧ drsO o = drsL o := by
  have e : drsB o = true := by unfold drsB; rw [h2, decide_eq_true h1]; rfl
  exact ⟨e, by unfold drsO; rw [e]; rfl⟩

set_option maxHeartbeats 2000000 in
theorem pdraws_no (w : World) (A : Option Addr) (n c : Nat) (o : List Int) (h : IsI .i64 w A n o) (hn : n ≤ 100000) (hno : 20 < n ∨ isPB o = false) :
    Calls Try.prog 33 #[.slice A n c] w fun e w' => e = .returned (.tuple #[.slice none 0 0, .bool false]) ∧ Below w.heap.size w w' := by
  have HL := hide h.len
  have H := hide h
  clear h
  by_cases h20 : 20 < n
  · go_enter Try.func33, Try.ntmps33
    go_wp2
    go_ret2
    exact ⟨rfl, Below.refl _ _⟩
  have hno' : Hid (isPB o = false) := by
    rcases hno with h | h
    · omega
    · exact h
  clear hno
  have hmk := fun W => run_make_row' (P := Try.prog) 47 4 (.bool false) 1 Try.underlying47 Try.bool_infD rfl .i64 .i64 n (by omega) (by omega) W
  have h4 : decide ((20 : Int) < n) = false := by simp; omega
  go_enter Try.func33, Try.ntmps33
  go_wp2
  clear hmk h4
  have HBK : Hid (Bk (w.alloc (.cells (madeCells #[Value.bool false] n) 4)) w.heap.size 4 (bsC (markL n o 0))) := by
    rw [markL_zero, ← madeBs]
    exact Bk.new _ _ _
  go_loopg [21] n (fun g i wr => ∃ k : Nat, g + k = n ∧ i = .int .i64 k ∧ Bk wr w.heap.size 4 (bsC (markL n o k)) ∧ Below w.heap.size w wr ∧ (o.take k).Nodup ∧ ∀ x ∈ o.take k, 0 ≤ x ∧ x < n)
  case atStart => exact ⟨0, by omega, rfl, HBK.out, (Below.refl _ _).alloc (Nat.le_refl _) _, by simp, by simp⟩
  case round =>
    obtain ⟨k, hk, rfl, hB, hbel, hnd, hin⟩ := hrel
    have HB := hide hB
    have HND := hide hnd
    have HIN := hide hin
    have HBL := hide hbel
    clear hB hnd hin HBK
    by_cases hlt : k < n
    · obtain ⟨ad, rfl, _, c1⟩ := (H.out.below hbel).at_ hlt
      have hkl : k < o.length := by rw [HL.out]; exact hlt
      have HE : Hid (o.getD k 0 = o[k]) := by
        show o.getD k 0 = o[k]
        simp [List.getD, List.getElem?_eq_getElem hkl]
      clear hbel
      by_cases hx0 : o.getD k 0 < 0
      · generalize o.getD k 0 = x at c1 hx0
        go_wp2
        go_ret2
        exact ⟨rfl, HBL.out⟩
      by_cases hx1 : (n : Int) ≤ o.getD k 0
      · have d0 : decide (o.getD k 0 < 0) = false := by simpa using hx0
        generalize o.getD k 0 = x at c1 hx0 hx1 d0
        go_wp2
        go_ret2
        exact ⟨rfl, HBL.out⟩
      obtain ⟨v, hv, hvv⟩ : ∃ v : Nat, v < n ∧ o.getD k 0 = v := ⟨(o.getD k 0).toNat, by omega, by omega⟩
      have HST := hide (markL_step n o k v hkl hvv)
      have cs := bsC_cell HB.out (markL_len n o k) v hv
      rw [markL_at n o k v hv] at cs
      have f1 := HB.out.frozen v
      have HVV := hide hvv
      rw [hvv] at c1
      have d1 : decide ((v : Int) < 0) = false := by simp
      have d2 : decide (n ≤ v) = false := by simp; omega
      clear hx0 hx1 hvv
      rcases hc : (o.take k).contains (v : Int) with _ | _
      · rw [hc] at cs
        have HC : Hid ((o.take k).contains o[k] = false) := by
          rw [← HE.out, HVV.out]
          exact hc
        clear hc
        go_wp2
        go_roundg (gk - 1)
        case rel =>
          refine ⟨k + 1, by omega, by go_num, by rw [← HST.out]; exact bsC_set _ _ HB.out, HBL.out.setCell (Nat.le_refl _) _, nodup_take_succ hkl HND.out HC.out, ?_⟩
          intro x hx
          rw [List.take_succ_eq_append_getElem hkl, List.mem_append] at hx
          rcases hx with hx | hx
          · exact HIN.out x hx
          · simp only [List.mem_singleton] at hx
            rw [hx, ← HE.out, HVV.out]
            omega
        case measure => omega
      · rw [hc] at cs
        clear hc
        go_wp2
        go_ret2
        exact ⟨rfl, HBL.out⟩
    · exfalso
      have hkn : o.take k = o := List.take_of_length_le (by rw [HL.out]; omega)
      have h1 := HND.out
      have h2 := HIN.out
      rw [hkn] at h1 h2
      have h3 := isPB_of (fun x hx => by rw [HL.out]; exact h2 x hx) h1
      rw [hno'.out] at h3
      cases h3
theorem idl_at (n j : Nat) (h : j < n) : (idl n).getD j 0 = (j : Int) := by
  unfold idl
  simp [List.getD, List.getElem?_map, List.getElem?_range h]
/-- The state of undoing: what is left to do gives what is wanted. -/
def UnS (o : List Int) (n g : Nat) (l out : List Int) : Prop := l.length = n ∧ out.length = n ∧ l.Perm (idl n) ∧ unord o g l out = drsL o
theorem UnS.start (o : List Int) (n : Nat) (h : o.length = n) : UnS o n (n - 1) (idl n) (List.replicate n 0) := ⟨idl_len n, by simp, .refl _, by unfold drsL; rw [h]⟩
theorem UnS.idx_ {o : List Int} {n g : Nat} {l out : List Int} (h : UnS o n g l out) (hp : isPB o = true) (hn : o.length = n) (hg : g < n) :
    idx l (o.getD g 0) < n ∧ l.getD (idx l (o.getD g 0)) 0 = o.getD g 0 := by
  have hm : o.getD g 0 ∈ l := by
    refine h.2.2.1.mem_iff.2 ?_
    have e : o.getD g 0 = o[g]'(by omega) := by simp [List.getD, List.getElem?_eq_getElem (show g < o.length by omega)]
    have := (isPB_range hp).1 (o.getD g 0) (by rw [e]; exact List.getElem_mem _)
    rw [hn] at this
    exact (midl n _).2 this
  have := idx_lt hm
  exact ⟨by have := h.1; omega, idx_at this⟩
theorem UnS.step {o : List Int} {n g d : Nat} {l out : List Int} (h : UnS o n g l out) (h1 : 1 ≤ g) (hg : g < n) (hd : d < n) (e : idx l (o.getD g 0) = d) : UnS o n (g - 1) (swp l g d) (out.set g (d : Int)) := by
  obtain ⟨h2, h3, h4, h5⟩ := h
  refine ⟨by rw [swp_len]; exact h2, by rw [List.length_set]; exact h3, (pswp l g d (by omega) (by omega)).trans h4, ?_⟩
  rw [unord_step o g l out h1, e] at h5
  exact h5
theorem UnS.done {o : List Int} {n : Nat} {l out : List Int} (h : UnS o n 0 l out) : out = drsL o := h.2.2.2

set_option maxHeartbeats 4000000 in
theorem pdraws_yes (w : World) (A : Option Addr) (n c : Nat) (o : List Int) (h : IsI .i64 w A n o) (h1 : 1 ≤ n) (hn : n ≤ 20) (hp : isPB o = true) :
    Calls Try.prog 33 #[.slice A n c] w fun e w' => ∃ g, e = .returned (.tuple #[.slice (some ⟨g, 0, none⟩) n n, .bool true]) ∧ Bk w' g 3 (cellsI (drsL o)) ∧ Below w.heap.size w w' := by
  have HL := hide h.len
  have H := hide h
  have HP := hide hp
  obtain ⟨hr1, hr2⟩ := isPB_range hp
  have HR1 := hide hr1
  have HR2 := hide hr2
  clear h hp hr1 hr2
  have hmk := fun W => run_make_row' (P := Try.prog) 47 4 (.bool false) 1 Try.underlying47 Try.bool_infD rfl .i64 .i64 n (by omega) (by omega) W
  have h4 : decide ((20 : Int) < n) = false := by simp; omega
  go_enter Try.func33, Try.ntmps33
  go_wp2
  clear hmk h4
  have HBK : Hid (Bk (w.alloc (.cells (madeCells #[Value.bool false] n) 4)) w.heap.size 4 (bsC (markL n o 0))) := by
    rw [markL_zero, ← madeBs]
    exact Bk.new _ _ _
  go_loopg [21] n (fun g i wr => ∃ k : Nat, g + k = n ∧ i = .int .i64 k ∧ Bk wr w.heap.size 4 (bsC (markL n o k)) ∧ Below w.heap.size w wr)
  case atStart => exact ⟨0, by omega, rfl, HBK.out, (Below.refl _ _).alloc (Nat.le_refl _) _⟩
  case round =>
    obtain ⟨k, hk, rfl, hB, hbel⟩ := hrel
    obtain ⟨wo, hwo⟩ : ∃ x, x = wr := ⟨_, rfl⟩
    subst hwo
    have HB := hide hB
    have HBL := hide hbel
    clear hB HBK
    by_cases hlt : k < n
    · obtain ⟨ad, rfl, _, c1⟩ := (H.out.below hbel).at_ hlt
      have hkl : k < o.length := by rw [HL.out]; exact hlt
      obtain ⟨x1, x2⟩ := HR1.out (o.getD k 0) (by rw [List.getD, List.getElem?_eq_getElem hkl]; exact List.getElem_mem _)
      have hol := HL.out
      clear hbel
      obtain ⟨v, hv, hvv⟩ : ∃ v : Nat, v < n ∧ o.getD k 0 = v := ⟨(o.getD k 0).toNat, by omega, by omega⟩
      have HST := hide (markL_step n o k v hkl hvv)
      have cs := bsC_cell HB.out (markL_len n o k) v hv
      rw [markL_no n o k v hkl hvv HR2.out hv] at cs
      have f1 := HB.out.frozen v
      rw [hvv] at c1
      have d1 : decide ((v : Int) < 0) = false := by simp
      have d2 : decide (n ≤ v) = false := by simp; omega
      clear x1 x2 hvv hol
      go_wp2
      go_roundg (gk - 1)
      case rel => exact ⟨k + 1, by omega, by go_num, by rw [← HST.out]; exact bsC_set _ _ HB.out, HBL.out.setCell (Nat.le_refl _) _⟩
      case measure => omega
    · clear hbel HB
      go_wp2_with fail
      refine (order_bk _ n _ _ _ [] (IsI.nil _ _ _) h1 (by omega) (by omega)).mono ?_
      rintro e w2 ⟨rfl, hb2, hbel2⟩
      have hs0 := HBL.out.size
      have hs2 := hbel2.size
      have HB2 := hide (HBL.out.trans (hbel2.mono hs0))
      have HK2 := hide (show ∃ l : List Int, l.length = n ∧ Bk w2 wo.heap.size 3 (cellsI l) from ⟨_, by rw [ord_len, idl_len], hb2⟩)
      have hgl : wo.heap.size < w2.heap.size := hb2.lt
      clear hb2 hbel2
      go_wp2
      go_loopg [46] n (fun g i wq => ∃ (k : Nat) (l : List Int), g + k = n ∧ i = .int .i64 k ∧ l.length = n ∧ (∀ j, j < k → l.getD j 0 = (j : Int)) ∧ Bk wq wo.heap.size 3 (cellsI l) ∧ Below w.heap.size w wq)
      case atStart =>
        obtain ⟨l, hl, hb⟩ := HK2.out
        exact ⟨0, l, by omega, rfl, hl, fun j hj => absurd hj (by omega), hb, HB2.out⟩
      case round =>
        obtain ⟨k, l, hk, rfl, hll, hid, hB, hbel⟩ := hrel
        obtain ⟨wq, hwq⟩ : ∃ x, x = wr := ⟨_, rfl⟩
        subst hwq
        have HB := hide hB
        have HID := hide hid
        have HLL := hide hll
        have HBL := hide hbel
        clear hid hbel
        by_cases hkn : k < n
        · have c1 := at_cell hB hll k hkn
          have f1 := hB.frozen k
          generalize l.getD k 0 = x at c1
          clear hB hll
          go_wp2
          go_roundg (gk - 1)
          case rel =>
            refine ⟨k + 1, l.set k k, by omega, by go_num, by rw [List.length_set]; exact HLL.out, ?_, bkI_set _ _ HB.out, HBL.out.setCell (by omega) _⟩
            intro j hj
            rw [getD_set _ _ _ _ (by rw [HLL.out]; exact hkn)]
            by_cases e : k = j
            · rw [if_pos e, e]
            · rw [if_neg e]; exact HID.out j (by omega)
          case measure => omega
        · have hl : l = idl n := list_ext0 (by rw [hll, idl_len]) (fun j hj => by rw [HID.out j (by omega), idl_at n j (by omega)])
          have HB3 : Hid (Bk wq wo.heap.size 3 (cellsI (idl n))) := by rw [← hl]; exact HB.out
          have hmk2 := fun W => run_make_row' (P := Try.prog) 22 3 (.int .i64 0) 8 Try.underlying22 Try.int_inf rfl .i64 .i64 n (by omega) (by omega) W
          have hsq : wo.heap.size < wq.heap.size := hB.lt
          have hsw := HBL.out.size
          clear hB hll hl HB
          go_wp2
          clear hmk2
          have HO : Hid (Bk (wq.alloc (.cells (madeCells #[Value.int .i64 0] n) 3)) wq.heap.size 3 (cellsI (List.replicate n 0))) := by
            rw [← made_eq]
            exact Bk.new _ _ _
          go_loopg [11] (n - 1) (fun g i wx => ∃ l out : List Int, i = .int .i64 g ∧ g ≤ n - 1 ∧ UnS o n g l out ∧ Bk wx wo.heap.size 3 (cellsI l) ∧ Bk wx wq.heap.size 3 (cellsI out) ∧ Below w.heap.size w wx)
          case atStart => exact ⟨idl n, _, by simp only [Value.int.injEq, true_and]; omega, Nat.le_refl _, UnS.start o n HL.out, HB3.out.alloc _, HO.out, HBL.out.alloc (by omega) _⟩
          case round =>
            obtain ⟨l, out, rfl, hg, hus, hB, hBo, hbx⟩ := hrel
            obtain ⟨wx, hwx⟩ : ∃ x, x = wr := ⟨_, rfl⟩
            subst hwx
            obtain ⟨gko, hgo⟩ : ∃ g, g = gk := ⟨_, rfl⟩
            subst hgo
            have US := hide hus
            have HBB := hide hB
            have HBO := hide hBo
            have HBX := hide hbx
            by_cases hg1 : 1 ≤ gko
            · obtain ⟨ad, rfl, _, co⟩ := (H.out.below hbx).at_ (show gko < n by omega)
              obtain ⟨i1, i2⟩ := hus.idx_ HP.out HL.out (by omega)
              have HBF : Hid (∀ j, j < idx l (o.getD gko 0) → l.getD j 0 ≠ o.getD gko 0) := fun j h => idx_before h
              have HST : Hid (∀ d, d < n → idx l (o.getD gko 0) = d → UnS o n (gko - 1) (swp l gko d) (out.set gko (d : Int))) := fun d hd e => hus.step hg1 (by omega) hd e
              have HI2 := hide i2
              have hHD : Hid (idx l (o.getD gko 0) = idx l (o.getD gko 0)) := rfl
              obtain ⟨q, hq⟩ : ∃ q, idx l (o.getD gko 0) = q := ⟨_, rfl⟩
              have HQ := hide hq
              rw [hq] at HBF i1 HI2
              generalize o.getD gko 0 = x at co HBF HST HI2 HQ
              clear hus hbx i2 hHD hq hB hBo
              go_wp2
              go_loopg [12] q (fun m i wy => ∃ (d a : Nat), m + d = q ∧ i = .int .i64 d ∧ wy = wx.drewN a)
              case atStart => exact ⟨0, 0, by omega, rfl, rfl⟩
              case round =>
                obtain ⟨d, a, hd, rfl, rfl⟩ := hrel
                have cd := at_cell HBB.out US.out.1 d (by omega)
                by_cases hdq : d = q
                · subst hdq
                  rw [HI2.out] at cd
                  have he : (x != x) = false := by simp
                  go_wp2
                  go_quiet (fail)
                  clear he
                  have ci := at_cell HBB.out US.out.1 gko (by omega)
                  have fi := HBB.out.frozen gko
                  have fd := HBB.out.frozen d
                  have co1 := at_cell HBO.out US.out.2.1 gko (by omega)
                  have fo1 := HBO.out.frozen gko
                  have hne : ¬ wo.heap.size = wq.heap.size := by omega
                  have hne2 : ¬ wq.heap.size = wo.heap.size := by omega
                  have hsw : swp l gko d = (l.set gko (l.getD d 0)).set d (l.getD gko 0) := rfl
                  rw [HI2.out] at hsw
                  generalize hxi : l.getD gko 0 = xi at ci hsw
                  generalize out.getD gko 0 = xo at co1
                  have XI := hide hxi
                  have HSW := hide hsw
                  clear hxi hsw
                  by_cases hdg : d = gko
                  · obtain rfl : xi = x := by rw [← XI.out, ← HI2.out, hdg]
                    subst hdg
                    go_wp2
                    go_region
                    go_wp2
                    go_roundg (d - 1)
                    case rel => exact ⟨swp l d d, out.set d (d : Int), by simp only [Value.int.injEq, true_and]; omega, by omega, HST.out d (by omega) HQ.out, by rw [HSW.out]; exact bkI_set _ _ (bkI_set _ _ ((HBB.out.drewN _).far hne _)), ((bkI_set _ _ (HBO.out.drewN _)).far hne2 _).far hne2 _, ((((below_drewN HBX.out _).setCell (show w.heap.size ≤ wq.heap.size by omega) _).setCell (show w.heap.size ≤ wo.heap.size by omega) _).setCell (show w.heap.size ≤ wo.heap.size by omega) _).drew⟩
                    case measure => omega
                  · go_wp2
                    go_region
                    go_wp2
                    go_roundg (gko - 1)
                    case rel => exact ⟨swp l gko d, out.set gko (d : Int), by simp only [Value.int.injEq, true_and]; omega, by omega, HST.out d (by omega) HQ.out, by rw [HSW.out]; exact bkI_set _ _ (bkI_set _ _ ((HBB.out.drewN _).far hne _)), ((bkI_set _ _ (HBO.out.drewN _)).far hne2 _).far hne2 _, ((((below_drewN HBX.out _).setCell (show w.heap.size ≤ wq.heap.size by omega) _).setCell (show w.heap.size ≤ wo.heap.size by omega) _).setCell (show w.heap.size ≤ wo.heap.size by omega) _).drew⟩
                    case measure => omega
                · have hne := HBF.out d (by omega)
                  have he : (l.getD d 0 != x) = true := by simpa using hne
                  generalize l.getD d 0 = y at cd he
                  have hdq2 : d < q := by omega
                  clear hne hdq
                  go_wp2
                  go_quiet (fail)
                  go_wp2
                  go_roundg (gk - 1)
                  case rel => exact ⟨d + 1, _, by omega, by go_num, rfl⟩
                  case measure => omega
            · obtain rfl : gko = 0 := by omega
              have HF := hide hus.done
              clear hus hB hBo hbx
              go_wp2
              go_ret2
              exact ⟨_, rfl, by rw [← HF.out]; exact HBO.out, HBX.out⟩
theorem pdraws_zero (w : World) (A : Option Addr) (c : Nat) (h : IsI .i64 w A 0 []) :
    Calls Try.prog 33 #[.slice A 0 c] w fun e w' => ∃ g, e = .returned (.tuple #[.slice (some ⟨g, 0, none⟩) 0 0, .bool true]) ∧ Below w.heap.size w w' := by
  have hmk := fun W => run_make_row' (P := Try.prog) 47 4 (.bool false) 1 Try.underlying47 Try.bool_infD rfl .i64 .i64 0 (by omega) (by omega) W
  have hmk2 := fun W => run_make_row' (P := Try.prog) 22 3 (.int .i64 0) 8 Try.underlying22 Try.int_inf rfl .i64 .i64 0 (by omega) (by omega) W
  simp only [Int.natCast_zero] at hmk hmk2
  go_enter Try.func33, Try.ntmps33
  go_wp2
  refine wp_loop_rounds 1 ?_
  rw [rounds_succ]
  go_wp2_with fail
  refine (order_any _ 0 none 0 0 [] (IsI.nil _ _ _) (by omega)).mono ?_
  rintro e w2 ⟨A2, c2, rfl, hI2, hc1, hc2, hb2⟩
  have e0 : (ordr 0 []).length = 0 := by decide
  rw [e0]
  have HB2 := hide hb2
  have hs2 := hb2.size
  simp only [World.size_alloc] at hs2
  clear hI2 hc1 hc2 hb2
  go_wp2
  refine wp_loop_rounds 1 ?_
  rw [rounds_succ]
  go_wp2
  refine wp_loop_rounds 1 ?_
  rw [rounds_succ]
  go_wp2
  go_ret2
  exact ⟨_, rfl, (((Below.refl _ _).alloc (Nat.le_refl _) _).trans (HB2.out.mono (by simp))).alloc (by omega) _⟩
theorem pdraws_any (w : World) (A : Option Addr) (n c : Nat) (o : List Int) (h : IsI .i64 w A n o) (hn : n ≤ 100000) :
    Calls Try.prog 33 #[.slice A n c] w fun e w' => ∃ B m d, e = .returned (.tuple #[.slice B m d, .bool (drsB o)]) ∧ IsI .i64 w' B m (drsO o) ∧ m ≤ 20 ∧ Below w.heap.size w w' := by
  have hl := h.len
  by_cases hno : 20 < n ∨ isPB o = false
  · obtain ⟨e1, e2⟩ := drsB_no (o := o) (by rw [hl]; exact hno)
    refine (pdraws_no w A n c o h hn hno).mono fun e w' hh => ?_
    obtain ⟨rfl, hb⟩ := hh
    exact ⟨none, 0, 0, by rw [e1], by rw [e2]; exact IsI.nil _ _ _, by omega, hb⟩
  · have hp : isPB o = true := by
      rcases h : isPB o with _ | _
      · exact absurd (.inr h) hno
      · rfl
    have h20 : n ≤ 20 := by
      rcases Nat.lt_or_ge 20 n with h | h
      · exact absurd (.inl h) hno
      · exact h
    obtain ⟨e1, e2⟩ := drsB_yes (o := o) (by omega) hp
    rw [e1, e2]
    by_cases h1 : 1 ≤ n
    · refine (pdraws_yes w A n c o h h1 h20 hp).mono fun e w' hh => ?_
      obtain ⟨g, he, hb, hbel⟩ := hh
      exact ⟨_, n, n, he, bkI_isI hb (by rw [drsL_len, hl]), h20, hbel⟩
    · obtain rfl : n = 0 := by omega
      have ho : o = [] := List.eq_nil_of_length_eq_zero hl
      subst ho
      refine (pdraws_zero w A c h).mono fun e w' hh => ?_
      obtain ⟨g, he, hbel⟩ := hh
      exact ⟨_, 0, 0, he, IsI.nil _ _ _, by omega, hbel⟩

/-! ### The document's -/
theorem idx_big {l : List Int} {x : Int} (h : ¬ x ∈ l) : ¬ idx l x < l.length := fun hh => h (idx_mem hh)
set_option maxHeartbeats 2000000 in
theorem rdraws_no (w : World) (A : Option Addr) (n c : Nat) (o : List Int) (h : IsI .i64 w A n o) (hn : n ≤ 100000) (hno : 20 < n ∨ isPB o = false) :
    Calls Try.prog 34 #[.slice A n c] w fun e w' => e = .returned (.tuple #[.slice none 0 0, .bool false]) ∧ Below w.heap.size w w' := by
  have HL := hide h.len
  by_cases h20 : 20 < n
  · go_enter Try.func34, Try.ntmps34
    go_wp2
    go_ret2
    exact ⟨rfl, Below.refl _ _⟩
  have hno' : Hid (isPB o = false) := by
    rcases hno with h | h
    · omega
    · exact h
  clear hno
  have fa := fun W x (hW : IsI .i64 W A n o) => find_any W A n c o x hW (by omega)
  have FA := hide fa
  have H := hide h
  clear fa h
  have h4 : decide ((20 : Int) < n) = false := by simp; omega
  go_enter Try.func34, Try.ntmps34
  go_wp2
  clear h4
  go_loopg [5] n (fun g i wr => ∃ k : Nat, g + k = n ∧ i = .int .i64 k ∧ wr = w ∧ ∀ j : Nat, j < k → (j : Int) ∈ o)
  case atStart => exact ⟨0, by omega, rfl, rfl, fun j hj => absurd hj (by omega)⟩
  case round =>
    obtain ⟨k, hk, rfl, rfl, hin⟩ := hrel
    have HIN := hide hin
    clear hin
    by_cases hlt : k < n
    · have fk := FA.out wr (k : Int) H.out
      by_cases hm : (k : Int) ∈ o
      · have hi := idx_lt hm
        rw [HL.out] at hi
        rw [if_pos hi] at fk
        have FK := hide fk
        have HM := hide hm
        clear fk hm hi
        generalize idx o (k : Int) = q at FK
        go_wp2_with (go_at_call 42; refine FK.out.mono ?_; rintro e w' ⟨rfl, rfl⟩)
        go_roundg (gk - 1)
        case rel =>
          refine ⟨k + 1, by omega, by go_num, rfl, fun j hj => ?_⟩
          rcases Nat.lt_or_ge j k with h | h
          · exact HIN.out j h
          · obtain rfl : j = k := by omega
            exact HM.out
        case measure => omega
      · have hi := idx_big hm
        rw [HL.out] at hi
        rw [if_neg hi] at fk
        have FK := hide fk
        clear fk hm hi
        go_wp2_with (go_at_call 42; refine FK.out.mono ?_; rintro e w' ⟨rfl, rfl⟩)
        go_ret2
        exact ⟨rfl, Below.refl _ _⟩
    · exfalso
      have h3 : isPB o = true := by
        unfold isPB
        rw [List.all_eq_true, HL.out]
        intro x hx
        obtain ⟨h1, h2⟩ := (midl n x).1 hx
        have := HIN.out x.toNat (by omega)
        rw [List.contains_iff_mem]
        have e : ((x.toNat : Nat) : Int) = x := by omega
        rw [e] at this
        exact this
      rw [hno'.out] at h3
      cases h3
set_option maxHeartbeats 4000000 in
theorem rdraws_yes (w : World) (A : Option Addr) (n c : Nat) (o : List Int) (h : IsI .i64 w A n o) (hn : n ≤ 20) (hp : isPB o = true) :
    Calls Try.prog 34 #[.slice A n c] w fun e w' => ∃ g, e = .returned (.tuple #[.slice (some ⟨g, 0, none⟩) n n, .bool true]) ∧ Bk w' g 3 (cellsI (drsL o)) ∧ Below w.heap.size w w' := by
  have HL := hide h.len
  have H := hide h
  have HP := hide hp
  have fk : ∀ W (k : Nat), k < n → IsI .i64 W A n o → Calls Try.prog 42 #[.slice A n c, .int .i64 (k : Nat)] W fun e w' => e = .returned (.int .i64 (idx o k : Nat)) ∧ W = w' := fun W k hk hW => by
    have := find_any W A n c o k hW (by omega)
    rwa [if_pos (by
      have := idx_lt (l := o) (x := (k : Int)) (((isPB_iff o).1 hp).mem_iff.2 ((midl _ _).2 (by have := HL.out; omega)))
      have := HL.out
      omega)] at this
  have FK := hide fk
  clear h hp fk
  have h4 : decide ((20 : Int) < n) = false := by simp; omega
  have hmk := fun W => run_make_row' (P := Try.prog) 22 3 (.int .i64 0) 8 Try.underlying22 Try.int_inf rfl .i64 .i64 n (by omega) (by omega) W
  have HMK := hide hmk
  clear hmk
  go_enter Try.func34, Try.ntmps34
  go_wp2
  clear h4
  go_loopg [5] n (fun g i wr => ∃ k : Nat, g + k = n ∧ i = .int .i64 k ∧ wr = w)
  case atStart => exact ⟨0, by omega, rfl, rfl⟩
  case round =>
    obtain ⟨k, hk, rfl, rfl⟩ := hrel
    by_cases hlt : k < n
    · have hF := FK.out wr k hlt H.out
      generalize idx o (k : Int) = q at hF
      have HF := hide hF
      clear hF
      go_wp2_with (go_at_call 42; refine HF.out.mono ?_; rintro e w' ⟨rfl, rfl⟩)
      go_roundg (gk - 1)
      case rel => exact ⟨k + 1, by omega, by go_num, rfl⟩
      case measure => omega
    · obtain ⟨wo, hwo⟩ : ∃ x, x = wr := ⟨_, rfl⟩
      subst hwo
      have hmk := HMK.out
      go_wp2
      clear hmk
      have HK2 : Hid (Bk (wo.alloc (.cells (madeCells #[Value.int .i64 0] n) 3)) wo.heap.size 3 (cellsI (List.replicate n 0))) := by
        rw [← made_eq]
        exact Bk.new _ _ _
      go_loopg [7] n (fun g i wq => ∃ (k : Nat) (l : List Int), g + k = n ∧ i = .int .i64 k ∧ l.length = n ∧ (∀ j, j < k → l.getD j 0 = (j : Int)) ∧ Bk wq wo.heap.size 3 (cellsI l) ∧ Below wo.heap.size wo wq)
      case atStart => exact ⟨0, _, by omega, rfl, by simp, fun j hj => absurd hj (by omega), HK2.out, (Below.refl _ _).alloc (Nat.le_refl _) _⟩
      case round =>
        obtain ⟨k, l, hk, rfl, hll, hid, hB, hbel⟩ := hrel
        obtain ⟨wq, hwq⟩ : ∃ x, x = wr := ⟨_, rfl⟩
        subst hwq
        have HB := hide hB
        have HID := hide hid
        have HLL := hide hll
        have HBL := hide hbel
        clear hid hbel
        by_cases hkn : k < n
        · have c1 := at_cell hB hll k hkn
          have f1 := hB.frozen k
          generalize l.getD k 0 = x at c1
          clear hB hll
          go_wp2
          go_roundg (gk - 1)
          case rel =>
            refine ⟨k + 1, l.set k k, by omega, by go_num, by rw [List.length_set]; exact HLL.out, ?_, bkI_set _ _ HB.out, HBL.out.setCell (Nat.le_refl _) _⟩
            intro j hj
            rw [getD_set _ _ _ _ (by rw [HLL.out]; exact hkn)]
            by_cases e : k = j
            · rw [if_pos e, e]
            · rw [if_neg e]; exact HID.out j (by omega)
          case measure => omega
        · have hl : l = idl n := list_ext0 (by rw [hll, idl_len]) (fun j hj => by rw [HID.out j (by omega), idl_at n j (by omega)])
          have HB3 : Hid (Bk wq wo.heap.size 3 (cellsI (idl n))) := by rw [← hl]; exact HB.out
          have hsq : wo.heap.size < wq.heap.size := hB.lt
          clear hB hll hl HB
          have hmk := HMK.out
          go_wp2
          clear hmk
          have HO : Hid (Bk (wq.alloc (.cells (madeCells #[Value.int .i64 0] n) 3)) wq.heap.size 3 (cellsI (List.replicate n 0))) := by
            rw [← made_eq]
            exact Bk.new _ _ _
          go_loopg [9] (n - 1) (fun g i wx => ∃ (l out : List Int) (ii : Int), i = .int .i64 ii ∧ (ii = g ∨ (n = 0 ∧ ii = -1)) ∧ g ≤ n - 1 ∧ UnS o n g l out ∧ Bk wx wo.heap.size 3 (cellsI l) ∧ Bk wx wq.heap.size 3 (cellsI out) ∧ Below wo.heap.size wo wx)
          case atStart => exact ⟨idl n, _, (n : Int) - 1, rfl, by omega, Nat.le_refl _, UnS.start o n HL.out, HB3.out.alloc _, HO.out, HBL.out.alloc (by omega) _⟩
          case round =>
            obtain ⟨l, out, ii, rfl, hii, hg, hus, hB, hBo, hbx⟩ := hrel
            obtain ⟨gko, hgo⟩ : ∃ g, g = gk := ⟨_, rfl⟩
            subst hgo
            have US := hide hus
            have HBB := hide hB
            have HBO := hide hBo
            have HBX := hide hbx
            by_cases hg1 : 1 ≤ gko
            · obtain rfl : ii = (gko : Int) := by omega
              obtain ⟨ad, rfl, _, co⟩ := (H.out.below hbx).at_ (show gko < n by omega)
              obtain ⟨i1, i2⟩ := hus.idx_ HP.out HL.out (by omega)
              have HST : Hid (∀ d, d < n → idx l (o.getD gko 0) = d → UnS o n (gko - 1) (swp l gko d) (out.set gko (d : Int))) := fun d hd e => hus.step hg1 (by omega) hd e
              have HI2 := hide i2
              have hF := find_any wr (some ⟨wo.heap.size, 0, none⟩) n n l (o.getD gko 0) (bkI_isI hB hus.1) (by omega)
              rw [if_pos i1] at hF
              obtain ⟨q, hq⟩ : ∃ q, idx l (o.getD gko 0) = q := ⟨_, rfl⟩
              have HQ := hide hq
              rw [hq] at i1 HI2 hF
              generalize o.getD gko 0 = x at co HST HI2 HQ hF
              have HF := hide hF
              have hqn : q < n := i1
              clear hus hbx i2 hq hB hBo hF hii i1
              have ci := at_cell HBB.out US.out.1 gko (by omega)
              have cd := at_cell HBB.out US.out.1 q hqn
              have fi := HBB.out.frozen gko
              have fd := HBB.out.frozen q
              have co1 := at_cell HBO.out US.out.2.1 gko (by omega)
              have fo1 := HBO.out.frozen gko
              have hne : ¬ wo.heap.size = wq.heap.size := by omega
              have hne2 : ¬ wq.heap.size = wo.heap.size := by omega
              have hsw : swp l gko q = (l.set gko (l.getD q 0)).set q (l.getD gko 0) := rfl
              rw [HI2.out] at hsw cd
              generalize hxi : l.getD gko 0 = xi at ci hsw
              generalize out.getD gko 0 = xo at co1
              have XI := hide hxi
              have HSW := hide hsw
              clear hxi hsw
              go_wp2_with (go_at_call 42; refine HF.out.mono ?_; rintro e w' ⟨rfl, rfl⟩)
              by_cases hdg : q = gko
              · obtain rfl : xi = x := by rw [← XI.out, ← HI2.out, hdg]
                subst hdg
                go_quiet (fail)
                go_wp2
                go_roundg (q - 1)
                case rel => exact ⟨swp l q q, out.set q (q : Int), _, rfl, by omega, by omega, HST.out q (by omega) HQ.out, by rw [HSW.out]; exact bkI_set _ _ (bkI_set _ _ (((HBB.out.far hne _)).drewN _)), ((bkI_set _ _ HBO.out).far hne2 _).far hne2 _, (((below_drewN (HBX.out.setCell (show wo.heap.size ≤ wq.heap.size by omega) _) _).setCell (show wo.heap.size ≤ wo.heap.size by omega) _).setCell (show wo.heap.size ≤ wo.heap.size by omega) _)⟩
                case measure => omega
              · go_quiet (fail)
                go_wp2
                go_roundg (gko - 1)
                case rel => exact ⟨swp l gko q, out.set gko (q : Int), _, rfl, by omega, by omega, HST.out q (by omega) HQ.out, by rw [HSW.out]; exact bkI_set _ _ (bkI_set _ _ (((HBB.out.far hne _)).drewN _)), ((bkI_set _ _ HBO.out).far hne2 _).far hne2 _, (((below_drewN (HBX.out.setCell (show wo.heap.size ≤ wq.heap.size by omega) _) _).setCell (show wo.heap.size ≤ wo.heap.size by omega) _).setCell (show wo.heap.size ≤ wo.heap.size by omega) _)⟩
                case measure => omega
            · obtain rfl : gko = 0 := by omega
              have HF := hide hus.done
              have hi0 : ii < 1 := by omega
              clear hus hB hBo hbx hii
              go_wp2
              go_ret2
              exact ⟨_, rfl, by rw [← HF.out]; exact HBO.out, HBX.out⟩
theorem rdraws_any (w : World) (A : Option Addr) (n c : Nat) (o : List Int) (h : IsI .i64 w A n o) (hn : n ≤ 100000) :
    Calls Try.prog 34 #[.slice A n c] w fun e w' => ∃ B m d, e = .returned (.tuple #[.slice B m d, .bool (drsB o)]) ∧ IsI .i64 w' B m (drsO o) ∧ m ≤ 20 ∧ Below w.heap.size w w' := by
  have hl := h.len
  by_cases hno : 20 < n ∨ isPB o = false
  · obtain ⟨e1, e2⟩ := drsB_no (o := o) (by rw [hl]; exact hno)
    refine (rdraws_no w A n c o h hn hno).mono fun e w' hh => ?_
    obtain ⟨rfl, hb⟩ := hh
    exact ⟨none, 0, 0, by rw [e1], by rw [e2]; exact IsI.nil _ _ _, by omega, hb⟩
  · have hp : isPB o = true := by
      rcases h : isPB o with _ | _
      · exact absurd (.inr h) hno
      · rfl
    have h20 : n ≤ 20 := by
      rcases Nat.lt_or_ge 20 n with h | h
      · exact absurd (.inl h) hno
      · exact h
    obtain ⟨e1, e2⟩ := drsB_yes (o := o) (by omega) hp
    rw [e1, e2]
    refine (rdraws_yes w A n c o h h20 hp).mono fun e w' hh => ?_
    obtain ⟨g, he, hb, hbel⟩ := hh
    exact ⟨_, n, n, he, bkI_isI hb (by rw [drsL_len, hl]), h20, hbel⟩
end Go.Proofs.Ytidncklgoaofpaa
