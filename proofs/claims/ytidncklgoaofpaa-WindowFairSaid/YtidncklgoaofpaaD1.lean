/- Contracts: permutations by the shuffle (draw.Order), the program's and the document's. -/
import Derived.Test.YtidncklgoaofpaaRows
import Derived.Test.YtidncklgoaofpaaK
import Derived.BigRegion
import Derived.RegionTactic
import Derived.Deep.OwnRows
namespace Go.Proofs.Ytidncklgoaofpaa
open Go.RowKit
set_option linter.unusedVariables false

theorem Try.int_inf : (Try.prog.info? 3).map (fun i => (i.zero, i.size, i.bytes)) = some (some (.int .i64 0), 1, 8) := by kernel_rfl
def cellsI (l : List Int) : Array Value := (l.map (Value.int .i64)).toArray
theorem cellsI_at (l : List Int) (i : Nat) (h : i < l.length) : (cellsI l)[i]? = some (.int .i64 (l.getD i 0)) := by
  unfold cellsI
  simp [List.getD, List.getElem?_eq_getElem h]
theorem bkI_set {w : World} {g : Nat} {t : TypeId} {l : List Int} (i : Nat) (b : Int) (h : Bk w g t (cellsI l)) : Bk (w.setCell ⟨g, i, none⟩ (.int .i64 b)) g t (cellsI (l.set i b)) := by
  have := h.set_ i (.int .i64 b)
  unfold cellsI at *
  rw [List.map_set]
  simpa using this
theorem bkI_isI {w : World} {g n : Nat} {t : TypeId} {l : List Int} (h : Bk w g t (cellsI l)) (hn : l.length = n) : IsI .i64 w (some ⟨g, 0, none⟩) n l := by
  refine ⟨by simpa using hn, fun _ => ⟨_, rfl, h.lt, fun j u hu => ?_⟩⟩
  have hadd : (⟨g, 0, none⟩ : Addr).add j = ⟨g, j, none⟩ := by unfold Addr.add; split <;> simp_all
  rw [hadd, h.cell j]
  unfold cellsI
  simpa using hu
theorem made_eq (n : Nat) : madeCells #[Value.int .i64 0] n = cellsI (List.replicate n 0) := by
  unfold cellsI madeCells
  apply Array.ext
  · simp
  · intro i h1 h2
    simp [Nat.mod_one]

def rst (a b : Int) : Int := a % b
theorem rest_any (a b : Int) (w : World) (h1 : 1 ≤ b) (h2 : b ≤ 1000) :
    Calls Try.prog 40 #[.int .i64 a, .int .i64 b] w fun e w' => e = .returned (.int .i64 (a % b)) ∧ w = w' := by
  have e1 : a.tmod b = a % b ∨ a.tmod b = a % b - b := by
    rw [Int.tmod_eq_emod]
    have := Int.emod_nonneg a (show b ≠ 0 by omega)
    have := Int.emod_lt_of_pos a (show 0 < b by omega)
    split <;> omega
  have b1 := Int.emod_nonneg a (show b ≠ 0 by omega)
  have b2 := Int.emod_lt_of_pos a (show 0 < b by omega)
  have hb : -1000 ≤ a.tmod b ∧ a.tmod b ≤ 1000 := by rcases e1 with e | e <;> omega
  have hp : 0 ≤ a.tmod b + b := by rcases e1 with e | e <;> omega
  have E := hide (show (a.tmod b + b) % b = a % b by
    rcases e1 with e | e
    · rw [e, Int.add_emod_right, Int.emod_emod]
    · rw [e, show a % b - b + b = a % b by omega, Int.emod_emod])
  clear e1
  go_enter Try.func40, Try.ntmps40
  go_wp2
  go_ret
  exact ⟨ret_int E.out, rfl⟩

/-- The draw at i, as a place. -/
def dr (ds : List Int) (i : Nat) : Nat := if i < ds.length then (ds.getD i 0 % ((i : Int) + 1)).toNat else 0
theorem dr_le (ds : List Int) (i : Nat) : dr ds i ≤ i := by
  unfold dr
  split
  · have := Int.emod_nonneg (ds.getD i 0) (show (i : Int) + 1 ≠ 0 by omega)
    have := Int.emod_lt_of_pos (ds.getD i 0) (show (0 : Int) < (i : Int) + 1 by omega)
    omega
  · omega
theorem dr_in (ds : List Int) (i : Nat) (h : i < ds.length) : (dr ds i : Int) = ds.getD i 0 % ((i : Int) + 1) := by
  unfold dr
  rw [if_pos h]
  have := Int.emod_nonneg (ds.getD i 0) (show (i : Int) + 1 ≠ 0 by omega)
  omega
theorem rdraw_any (w : World) (A : Option Addr) (n c : Nat) (ds : List Int) (i : Nat) (h : IsI .i64 w A n ds) (hi : i ≤ 100) :
    Calls Try.prog 41 #[.slice A n c, .int .i64 i] w fun e w' => e = .returned (.int .i64 (dr ds i)) ∧ w = w' := by
  have hl := h.len
  by_cases hlt : i < n
  · obtain ⟨ad, rfl, _, hc⟩ := h.at_ hlt
    have hd := dr_in ds i (by omega)
    generalize ds.getD i 0 = a at hc hd
    have e1 : a.tmod ((i : Int) + 1) = a % ((i : Int) + 1) ∨ (a.tmod ((i : Int) + 1) < 0 ∧ a.tmod ((i : Int) + 1) + ((i : Int) + 1) = a % ((i : Int) + 1)) := by
      rw [Int.tmod_eq_emod]
      have := Int.emod_nonneg a (show (i : Int) + 1 ≠ 0 by omega)
      have := Int.emod_lt_of_pos a (show (0 : Int) < (i : Int) + 1 by omega)
      split <;> omega
    have b1 := Int.emod_nonneg a (show (i : Int) + 1 ≠ 0 by omega)
    have b2 := Int.emod_lt_of_pos a (show (0 : Int) < (i : Int) + 1 by omega)
    have hb : -1000 ≤ a.tmod ((i : Int) + 1) ∧ a.tmod ((i : Int) + 1) ≤ 1000 := by rcases e1 with e | e <;> omega
    by_cases h0 : 0 ≤ a
    · have E := hide (show (dr ds i : Int) = a % ((i : Int) + 1) from hd)
      clear e1 hd hl
      go_enter Try.func41, Try.ntmps41
      go_wp2
      go_ret
      exact ⟨ret_int E.out.symm, rfl⟩
    · by_cases h9 : a.tmod ((i : Int) + 1) < 0
      · have E := hide (show (dr ds i : Int) = a.tmod ((i : Int) + 1) + ((i : Int) + 1) by rcases e1 with e | e <;> omega)
        clear e1 hd hl
        go_enter Try.func41, Try.ntmps41
        go_wp2
        go_ret
        exact ⟨ret_int E.out.symm, rfl⟩
      · have E := hide (show (dr ds i : Int) = a.tmod ((i : Int) + 1) by rcases e1 with e | e <;> omega)
        clear e1 hd hl
        go_enter Try.func41, Try.ntmps41
        go_wp2
        go_ret
        exact ⟨ret_int E.out.symm, rfl⟩
  · have E := hide (show dr ds i = 0 by unfold dr; rw [if_neg (by omega)])
    clear hl
    go_enter Try.func41, Try.ntmps41
    go_wp2
    go_ret
    exact ⟨ret_int (by rw [E.out]; rfl), rfl⟩

def swp (l : List Int) (i d : Nat) : List Int := (l.set i (l.getD d 0)).set d (l.getD i 0)
theorem swp_len (l : List Int) (i d : Nat) : (swp l i d).length = l.length := by unfold swp; simp
def ord (ds : List Int) : Nat → List Int → List Int
  | 0, l => l
  | i + 1, l => ord ds i (swp l (i + 1) (dr ds (i + 1)))
theorem ord_step (ds : List Int) (i : Nat) (l : List Int) (h : 1 ≤ i) : ord ds i l = ord ds (i - 1) (swp l i (dr ds i)) := by
  obtain ⟨j, rfl⟩ : ∃ j, i = j + 1 := ⟨i - 1, by omega⟩
  rfl
def idl (n : Nat) : List Int := (List.range n).map fun (k : Nat) => (k : Int)
def ordr (n : Int) (ds : List Int) : List Int := if n < 1 ∨ 20 < n then [] else ord ds (n.toNat - 1) (idl n.toNat)
theorem ord_len (ds : List Int) (i : Nat) (l : List Int) : (ord ds i l).length = l.length := by
  induction i generalizing l with
  | zero => rfl
  | succ i ih => rw [ord, ih, swp_len]
theorem idl_len (n : Nat) : (idl n).length = n := by unfold idl; simp
/-- Filled up to k. -/
def upTo (n k : Nat) : List Int := idl k ++ List.replicate (n - k) 0
theorem upTo_zero (n : Nat) : upTo n 0 = List.replicate n 0 := by unfold upTo idl; simp
theorem upTo_end (n : Nat) : upTo n n = idl n := by unfold upTo; simp
theorem upTo_len (n k : Nat) (h : k ≤ n) : (upTo n k).length = n := by unfold upTo; simp [idl_len]; omega
theorem upTo_step (n k : Nat) (h : k < n) : (upTo n k).set k (k : Int) = upTo n (k + 1) := by
  unfold upTo
  rw [List.set_append_right _ _ (by rw [idl_len]; omega), idl_len, Nat.sub_self]
  rw [show n - k = (n - (k + 1)) + 1 by omega, List.replicate_succ, List.set_cons_zero]
  unfold idl
  rw [List.range_succ]
  simp
theorem at_cell {w : World} {g n : Nat} {t : TypeId} {l : List Int} (h : Bk w g t (cellsI l)) (hl : l.length = n) (i : Nat) (hi : i < n) : w.cell? ⟨g, i, none⟩ = some (.int .i64 (l.getD i 0)) := by
  rw [h.cell i, cellsI_at _ _ (by omega)]

set_option maxHeartbeats 2000000 in
theorem order_bk (w : World) (n : Nat) (B : Option Addr) (m c : Nat) (ds : List Int) (h : IsI .i64 w B m ds) (h1 : 1 ≤ n) (h2 : n ≤ 20) (hm : m ≤ 100000) :
    Calls Try.prog 25 #[.int .i64 n, .slice B m c] w fun e w' => e = .returned (.slice (some ⟨w.heap.size, 0, none⟩) n n) ∧ Bk w' w.heap.size 3 (cellsI (ord ds (n - 1) (idl n))) ∧ Below w.heap.size w w' := by
  have hmk := fun W => run_make_row' (P := Try.prog) 22 3 (.int .i64 0) 8 Try.underlying22 Try.int_inf rfl .i64 .i64 n (by omega) (by omega) W
  have h3 : decide ((n : Int) < 1) = false := by simp; omega
  have h4 : decide ((20 : Int) < n) = false := by simp; omega
  have hl := h.len
  have H := hide h
  have HL := hide hl
  clear h hl
  go_enter Try.func25, Try.ntmps25
  go_wp2
  clear hmk
  go_loopg [19] n (fun g i wr => ∃ k : Nat, g + k = n ∧ i = .int .i64 k ∧ Bk wr w.heap.size 3 (cellsI (upTo n k)) ∧ Below w.heap.size w wr)
  case atStart => exact ⟨0, by omega, rfl, by rw [upTo_zero, ← made_eq]; exact Bk.new _ _ _, (Below.refl _ _).alloc (Nat.le_refl _) _⟩
  case round =>
    obtain ⟨k, hk, rfl, hB, hbel⟩ := hrel
    have HB := hide hB
    by_cases hlt : k < n
    · have c1 := at_cell hB (upTo_len n k (by omega)) k hlt
      have f1 := hB.frozen k
      generalize (upTo n k).getD k 0 = x0 at c1
      clear hB
      go_wp2
      go_roundg (gk - 1)
      case rel => exact ⟨k + 1, by omega, by go_num, by rw [← upTo_step n k hlt]; exact bkI_set _ _ HB.out, hbel.setCell (Nat.le_refl _) _⟩
      case measure => omega
    · obtain rfl : k = n := by omega
      have HB2 := hide (upTo_end k ▸ HB.out)
      clear hB
      go_wp2
      go_loopg [7] (k - 1) (fun g i wq => ∃ l : List Int, i = .int .i64 g ∧ g ≤ k - 1 ∧ l.length = k ∧ Bk wq w.heap.size 3 (cellsI l) ∧ Below w.heap.size w wq ∧ ord ds g l = ord ds (k - 1) (idl k))
      case atStart => exact ⟨idl k, by simp only [Value.int.injEq, true_and]; omega, Nat.le_refl _, idl_len k, HB2.out, hbel, rfl⟩
      case round =>
        obtain ⟨l, rfl, hg, hll, hB, hbq, ho⟩ := hrel
        have HO := hide ho
        have HB3 := hide hB
        have HLL := hide hll
        clear ho
        by_cases hg1 : 1 ≤ gk
        · have hd := dr_le ds gk
          have ci := at_cell hB hll gk (by omega)
          have cd := at_cell hB hll (dr ds gk) (by omega)
          have fi := hB.frozen gk
          have fd := hB.frozen (dr ds gk)
          have hst := ord_step ds gk l hg1
          have hsw : swp l gk (dr ds gk) = (l.set gk (l.getD (dr ds gk) 0)).set (dr ds gk) (l.getD gk 0) := rfl
          have hdi := fun (h : gk < m) => dr_in ds gk (by have := HL.out; omega)
          have hdo := fun (h : ¬ gk < m) => (show dr ds gk = 0 by unfold dr; rw [if_neg (by have := HL.out; omega)])
          generalize hd0 : dr ds gk = d at hd ci cd fi fd hst hsw hdi hdo
          have HST := hide hst
          have HSW := hide hsw
          clear hd0 hB hst hsw hll
          generalize hxd : l.getD d 0 = xd at cd HSW
          generalize hxi : l.getD gk 0 = xi at ci HSW
          have XD := hide hxd
          have XI := hide hxi
          clear hxd hxi
          by_cases him : gk < m
          · obtain ⟨bd, rfl, _, cb⟩ := (H.out.below hbq).at_ him
            have HDI := hide (hdi him)
            clear hdi hdo
            generalize ds.getD gk 0 = a at cb HDI
            go_wp2_with (go_at_call 40; refine (rest_any _ _ _ (by omega) (by omega)).mono ?_; rw [← HDI.out]; rintro e w' ⟨rfl, rfl⟩)
            by_cases hdg : d = gk
            · obtain rfl : xi = xd := by rw [← XI.out, ← XD.out, hdg]
              subst hdg
              go_region
              go_wp2
              go_roundg (d - 1)
              case rel => exact ⟨swp l d d, by simp only [Value.int.injEq, true_and]; omega, by omega, by rw [swp_len]; exact HLL.out, by rw [HSW.out]; exact bkI_set _ _ (bkI_set _ _ HB3.out), ((hbq.setCell (Nat.le_refl _) _).setCell (Nat.le_refl _) _).drew, by rw [← HST.out]; exact HO.out⟩
              case measure => omega
            · go_region
              go_wp2
              go_roundg (gk - 1)
              case rel => exact ⟨swp l gk d, by simp only [Value.int.injEq, true_and]; omega, by omega, by rw [swp_len]; exact HLL.out, by rw [HSW.out]; exact bkI_set _ _ (bkI_set _ _ HB3.out), ((hbq.setCell (Nat.le_refl _) _).setCell (Nat.le_refl _) _).drew, by rw [← HST.out]; exact HO.out⟩
              case measure => omega
          · have hd1 := hdo him
            subst hd1
            clear hdi hdo
            go_wp2
            go_region
            go_wp2
            go_roundg (gk - 1)
            case rel => exact ⟨swp l gk 0, by simp only [Value.int.injEq, true_and]; omega, by omega, by rw [swp_len]; exact HLL.out, by rw [HSW.out]; exact bkI_set _ _ (bkI_set _ _ HB3.out), ((hbq.setCell (Nat.le_refl _) _).setCell (Nat.le_refl _) _).drew, by rw [← HST.out]; exact HO.out⟩
            case measure => omega
        · obtain rfl : gk = 0 := by omega
          have HF := hide (show l = ord ds (k - 1) (idl k) from HO.out)
          clear hB
          go_wp2
          go_ret
          exact ⟨rfl, by rw [← HF.out]; exact HB3.out, hbq⟩
set_option maxHeartbeats 2000000 in
theorem rorder_bk (w : World) (n : Nat) (B : Option Addr) (m c : Nat) (ds : List Int) (h : IsI .i64 w B m ds) (h1 : 1 ≤ n) (h2 : n ≤ 20) (hm : m ≤ 100000) :
    Calls Try.prog 26 #[.int .i64 n, .slice B m c] w fun e w' => e = .returned (.slice (some ⟨w.heap.size, 0, none⟩) n n) ∧ Bk w' w.heap.size 3 (cellsI (ord ds (n - 1) (idl n))) ∧ Below w.heap.size w w' := by
  have hmk := fun W => run_make_row' (P := Try.prog) 22 3 (.int .i64 0) 8 Try.underlying22 Try.int_inf rfl .i64 .i64 n (by omega) (by omega) W
  have h3 : decide ((n : Int) < 1) = false := by simp; omega
  have h4 : decide ((20 : Int) < n) = false := by simp; omega
  have hl := h.len
  have H := hide h
  have HL := hide hl
  clear h hl
  go_enter Try.func26, Try.ntmps26
  go_wp2
  clear hmk
  go_loopg [6] n (fun g i wr => ∃ k : Nat, g + k = n ∧ i = .int .i64 k ∧ Bk wr w.heap.size 3 (cellsI (upTo n k)) ∧ Below w.heap.size w wr)
  case atStart => exact ⟨0, by omega, rfl, by rw [upTo_zero, ← made_eq]; exact Bk.new _ _ _, (Below.refl _ _).alloc (Nat.le_refl _) _⟩
  case round =>
    obtain ⟨k, hk, rfl, hB, hbel⟩ := hrel
    have HB := hide hB
    by_cases hlt : k < n
    · have c1 := at_cell hB (upTo_len n k (by omega)) k hlt
      have f1 := hB.frozen k
      generalize (upTo n k).getD k 0 = x0 at c1
      clear hB
      go_wp2
      go_roundg (gk - 1)
      case rel => exact ⟨k + 1, by omega, by go_num, by rw [← upTo_step n k hlt]; exact bkI_set _ _ HB.out, hbel.setCell (Nat.le_refl _) _⟩
      case measure => omega
    · obtain rfl : k = n := by omega
      have HB2 := hide (upTo_end k ▸ HB.out)
      clear hB
      go_wp2
      go_loopg [7] (k - 1) (fun g i wq => ∃ l : List Int, i = .int .i64 g ∧ g ≤ k - 1 ∧ l.length = k ∧ Bk wq w.heap.size 3 (cellsI l) ∧ Below w.heap.size w wq ∧ ord ds g l = ord ds (k - 1) (idl k))
      case atStart => exact ⟨idl k, by simp only [Value.int.injEq, true_and]; omega, Nat.le_refl _, idl_len k, HB2.out, hbel, rfl⟩
      case round =>
        obtain ⟨l, rfl, hg, hll, hB, hbq, ho⟩ := hrel
        have HO := hide ho
        have HB3 := hide hB
        have HLL := hide hll
        clear ho
        by_cases hg1 : 1 ≤ gk
        · have hd := dr_le ds gk
          have ci := at_cell hB hll gk (by omega)
          have cd := at_cell hB hll (dr ds gk) (by omega)
          have fi := hB.frozen gk
          have fd := hB.frozen (dr ds gk)
          have hst := ord_step ds gk l hg1
          have hsw : swp l gk (dr ds gk) = (l.set gk (l.getD (dr ds gk) 0)).set (dr ds gk) (l.getD gk 0) := rfl
          have hdi := fun (h : gk < m) => dr_in ds gk (by have := HL.out; omega)
          have hdo := fun (h : ¬ gk < m) => (show dr ds gk = 0 by unfold dr; rw [if_neg (by have := HL.out; omega)])
          generalize hd0 : dr ds gk = d at hd ci cd fi fd hst hsw hdi hdo
          have HST := hide hst
          have HSW := hide hsw
          have HD0 := hide hd0
          clear hd0 hB hst hsw hll
          generalize hxd : l.getD d 0 = xd at cd HSW
          generalize hxi : l.getD gk 0 = xi at ci HSW
          have XD := hide hxd
          have XI := hide hxi
          clear hxd hxi
          clear hdi hdo
          have hdr : Calls Try.prog 41 #[.slice B m c, .int .i64 gk] wr fun e w' => e = .returned (.int .i64 d) ∧ wr = w' := by
            have := rdraw_any wr B m c ds gk (H.out.below hbq) (by omega)
            rw [HD0.out] at this
            exact this
          have HDR := hide hdr
          clear hdr
          go_wp2_with (go_at_call 41; refine HDR.out.mono ?_; rintro e w' ⟨rfl, rfl⟩)
          by_cases hdg : d = gk
          · obtain rfl : xi = xd := by rw [← XI.out, ← XD.out, hdg]
            subst hdg
            go_quiet (fail)
            go_wp2
            go_roundg (d - 1)
            case rel => exact ⟨swp l d d, by simp only [Value.int.injEq, true_and]; omega, by omega, by rw [swp_len]; exact HLL.out, by rw [HSW.out]; exact bkI_set _ _ (bkI_set _ _ (HB3.out.drewN nq)), (((below_drewN hbq nq).setCell (Nat.le_refl _) _).setCell (Nat.le_refl _) _), by rw [← HST.out]; exact HO.out⟩
            case measure => omega
          · go_quiet (fail)
            go_wp2
            go_roundg (gk - 1)
            case rel => exact ⟨swp l gk d, by simp only [Value.int.injEq, true_and]; omega, by omega, by rw [swp_len]; exact HLL.out, by rw [HSW.out]; exact bkI_set _ _ (bkI_set _ _ (HB3.out.drewN nq)), (((below_drewN hbq nq).setCell (Nat.le_refl _) _).setCell (Nat.le_refl _) _), by rw [← HST.out]; exact HO.out⟩
            case measure => omega
        · obtain rfl : gk = 0 := by omega
          have HF := hide (show l = ord ds (k - 1) (idl k) from HO.out)
          clear hB
          go_wp2
          go_ret
          exact ⟨rfl, by rw [← HF.out]; exact HB3.out, hbq⟩

theorem order_any (w : World) (n : Int) (B : Option Addr) (m c : Nat) (ds : List Int) (h : IsI .i64 w B m ds) (hm : m ≤ 100000) :
    Calls Try.prog 25 #[.int .i64 n, .slice B m c] w fun e w' => ∃ A c, e = .returned (.slice A (ordr n ds).length c) ∧ IsI .i64 w' A (ordr n ds).length (ordr n ds) ∧ (ordr n ds).length ≤ c ∧ c ≤ 20 ∧ Below w.heap.size w w' := by
  by_cases h1 : n < 1
  · have e : ordr n ds = [] := by unfold ordr; rw [if_pos (.inl h1)]
    have key : Calls Try.prog 25 #[.int .i64 n, .slice B m c] w fun e w' => e = .returned (.slice none 0 0) ∧ w = w' := by
      clear e
      go_enter Try.func25, Try.ntmps25
      go_wp2
      go_ret
      exact ⟨rfl, rfl⟩
    rw [e]
    refine key.mono fun e' w' hh => ?_
    obtain ⟨he, rfl⟩ := hh
    exact ⟨none, 0, he, IsI.nil _ _ _, Nat.le_refl _, by omega, Below.refl _ _⟩
  by_cases h2 : 20 < n
  · have e : ordr n ds = [] := by unfold ordr; rw [if_pos (.inr h2)]
    have h3 : decide (n < 1) = false := by simpa using h1
    have key : Calls Try.prog 25 #[.int .i64 n, .slice B m c] w fun e w' => e = .returned (.slice none 0 0) ∧ w = w' := by
      clear e
      go_enter Try.func25, Try.ntmps25
      go_wp2
      go_ret
      exact ⟨rfl, rfl⟩
    rw [e]
    refine key.mono fun e' w' hh => ?_
    obtain ⟨he, rfl⟩ := hh
    exact ⟨none, 0, he, IsI.nil _ _ _, Nat.le_refl _, by omega, Below.refl _ _⟩
  obtain ⟨k, rfl⟩ := Int.eq_ofNat_of_zero_le (show 0 ≤ n by omega)
  have e : ordr k ds = ord ds (k - 1) (idl k) := by unfold ordr; rw [if_neg (by omega), Int.toNat_natCast]
  have hl : (ord ds (k - 1) (idl k)).length = k := by rw [ord_len, idl_len]
  refine (order_bk w k B m c ds h (by omega) (by omega) hm).mono fun e' w' hh => ?_
  obtain ⟨he, hB, hb⟩ := hh
  rw [e, hl]
  exact ⟨_, k, he, bkI_isI hB hl, Nat.le_refl _, by omega, hb⟩
theorem rorder_any (w : World) (n : Int) (B : Option Addr) (m c : Nat) (ds : List Int) (h : IsI .i64 w B m ds) (hm : m ≤ 100000) :
    Calls Try.prog 26 #[.int .i64 n, .slice B m c] w fun e w' => ∃ A c, e = .returned (.slice A (ordr n ds).length c) ∧ IsI .i64 w' A (ordr n ds).length (ordr n ds) ∧ (ordr n ds).length ≤ c ∧ c ≤ 20 ∧ Below w.heap.size w w' := by
  by_cases h1 : n < 1
  · have e : ordr n ds = [] := by unfold ordr; rw [if_pos (.inl h1)]
    have key : Calls Try.prog 26 #[.int .i64 n, .slice B m c] w fun e w' => e = .returned (.slice none 0 0) ∧ w = w' := by
      clear e
      go_enter Try.func26, Try.ntmps26
      go_wp2
      go_ret
      exact ⟨rfl, rfl⟩
    rw [e]
    refine key.mono fun e' w' hh => ?_
    obtain ⟨he, rfl⟩ := hh
    exact ⟨none, 0, he, IsI.nil _ _ _, Nat.le_refl _, by omega, Below.refl _ _⟩
  by_cases h2 : 20 < n
  · have e : ordr n ds = [] := by unfold ordr; rw [if_pos (.inr h2)]
    have h3 : decide (n < 1) = false := by simpa using h1
    have key : Calls Try.prog 26 #[.int .i64 n, .slice B m c] w fun e w' => e = .returned (.slice none 0 0) ∧ w = w' := by
      clear e
      go_enter Try.func26, Try.ntmps26
      go_wp2
      go_ret
      exact ⟨rfl, rfl⟩
    rw [e]
    refine key.mono fun e' w' hh => ?_
    obtain ⟨he, rfl⟩ := hh
    exact ⟨none, 0, he, IsI.nil _ _ _, Nat.le_refl _, by omega, Below.refl _ _⟩
  obtain ⟨k, rfl⟩ := Int.eq_ofNat_of_zero_le (show 0 ≤ n by omega)
  have e : ordr k ds = ord ds (k - 1) (idl k) := by unfold ordr; rw [if_neg (by omega), Int.toNat_natCast]
  have hl : (ord ds (k - 1) (idl k)).length = k := by rw [ord_len, idl_len]
  refine (rorder_bk w k B m c ds h (by omega) (by omega) hm).mono fun e' w' hh => ?_
  obtain ⟨he, hB, hb⟩ := hh
  rw [e, hl]
  exact ⟨_, k, he, bkI_isI hB hl, Nat.le_refl _, by omega, hb⟩
end Go.Proofs.Ytidncklgoaofpaa
