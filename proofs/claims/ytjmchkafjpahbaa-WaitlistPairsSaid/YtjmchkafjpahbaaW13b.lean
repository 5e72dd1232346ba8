/- Contracts of Without, of the drawn records and of Pairs. -/
import Derived.Test.YtjmchkafjpahbaaW13
import Derived.Test.YtjmchkafjpahbaaC
namespace Go.Proofs.Ytjmchkafjpahbaa
open Go.RowKit
set_option linter.unusedVariables false

def wout (l : List Int) (t : Int) : List Int := l.filter fun r => th r != t
theorem wout_step (l : List Int) (t : Int) (k : Nat) (hk : k < l.length) :
    wout (l.take (k + 1)) t = if th (l.getD k 0) != t then wout (l.take k) t ++ [l.getD k 0] else wout (l.take k) t := by
  unfold wout
  rw [List.take_succ_eq_append_getElem hk, List.filter_append]
  have e : l.getD k 0 = l[k] := by simp [List.getD, List.getElem?_eq_getElem hk]
  rw [e]
  by_cases h : (th l[k] != t) = true
  · rw [if_pos h]; simp [h]
  · rw [if_neg h]; simp [h]
theorem wout_len (l : List Int) (t : Int) (k : Nat) : (wout (l.take k) t).length ≤ k := by
  unfold wout
  exact Nat.le_trans (List.length_filter_le _ _) (List.length_take_le _ _)
theorem Try.int_info : (Try.prog.info? 3).map (fun i => (i.zero, i.size, i.bytes)) = some (some (.int .i64 0), 1, 8) := by kernel_rfl
set_option maxHeartbeats 800000 in
theorem without_any (w : World) (A : Option Addr) (n c : Nat) (l : List Int) (t : Int) (h : IsI .i64 w A n l) (hl : ∀ x ∈ l, x ≤ 9223372036854775807) (hn : n ≤ 100000) :
    Calls Try.prog 23 #[.slice A n c, .int .i64 t] w fun e w' => ∃ v, e = .returned v ∧ w'.ownsRow w.heap.size 3 1 v (wout l t).length ((wout l t).map (Value.int .i64)) ∧ Below w.heap.size w w' := by
  obtain ⟨i0, hi, hz0, hz1, hz2⟩ := info_parts Try.int_info
  have hlen := h.len
  have L := hide hlen
  have HL := hide hl
  clear hlen hl
  go_enter Try.func23, Try.ntmps23
  go_wp2
  go_loopw [5, 10] (fun v i wr => ∃ k : Nat, k ≤ n ∧ i = .int .i64 k ∧ wr.ownsRow w.heap.size 3 1 v (wout (l.take k) t).length ((wout (l.take k) t).map (Value.int .i64)) ∧ Below w.heap.size w wr) (fun _ i _ => n - (intOf i).toNat)
  case atStart => exact ⟨0, Nat.zero_le _, rfl, World.ownsRow_nil _ _ _ _, Below.refl _ _⟩
  case round =>
    obtain ⟨k, hk, rfl, hown, hbel⟩ := hrel
    have OW := hide hown
    clear hown
    by_cases hlt : k < n
    · have h' := h.below hbel
      obtain ⟨ad, rfl, hadb, c1⟩ := h'.at_ hlt
      have hb := HL.out (l.getD k 0) (by rw [List.getD, List.getElem?_eq_getElem (by rw [L.out]; omega)]; exact List.getElem_mem _)
      have hst := hide (wout_step l t k (by rw [L.out]; omega))
      have hwl := wout_len l t k
      have hsz := hbel.size
      by_cases heq : th (l.getD k 0) = t
      · have e1 : (th (l.getD k 0) != t) = false := by simpa using heq
        clear heq
        have HE := hide e1
        generalize hx : l.getD k 0 = x at c1 e1 hb
        have HX := hide hx
        clear hx h'
        go_wp2_with (go_at_call 11; refine (thread_any _ _ hb).mono ?_; rintro e w' ⟨rfl, rfl⟩)
        go_roundw
        case rel => exact ⟨k + 1, by omega, by go_num, by rw [hst.out, HE.out]; exact OW.out, hbel⟩
        case measure => simp [intOf]; omega
      · have e1 : (th (l.getD k 0) != t) = true := by simpa using heq
        clear heq
        have HE := hide e1
        generalize hx : l.getD k 0 = x at c1 e1 hb
        have HX := hide hx
        clear hx h'
        go_wp2_with (first
          | (go_at_call 11; refine (thread_any _ _ hb).mono ?_; rintro e w' ⟨rfl, rfl⟩)
          | (at_builtin; go_must (refine wpList_pushI wr (by rfl) _ _ _ (by rfl) w.heap.size 3 i0 .i64 8 Try.underlying27 hi hz0 hz1 hz2 _ _ (by rfl) OW.out _ (by rfl) ?_ ?_ ?_ ?_)))
        · omega
        · omega
        · omega
        intro v' w1 hown1 hg1 _
        have hb1 : Below w.heap.size w w1 := hbel.trans (own_below OW.out hg1 (Nat.le_refl _) hbel.size)
        have O1 := hide hown1
        clear hown1 hg1
        go_wp2
        go_roundw
        case rel => exact ⟨k + 1, by omega, by go_num, by rw [hst.out, HE.out, HX.out]; simpa using O1.out, hb1⟩
        case measure => simp [intOf]; omega
    · have hkn : wout (l.take k) t = wout l t := by rw [List.take_of_length_le (by rw [L.out]; omega)]
      have O2 := hide (hkn ▸ OW.out)
      clear hkn
      go_wp2
      go_ret
      exact ⟨_, rfl, O2.out, hbel⟩
set_option maxHeartbeats 800000 in
theorem rwithout_any (w : World) (A : Option Addr) (n c : Nat) (l : List Int) (t : Int) (h : IsI .i64 w A n l) (hl : ∀ x ∈ l, x ≤ 9223372036854775807) (hn : n ≤ 100000) :
    Calls Try.prog 25 #[.slice A n c, .int .i64 t] w fun e w' => ∃ v, e = .returned v ∧ w'.ownsRow w.heap.size 3 1 v (wout l t).length ((wout l t).map (Value.int .i64)) ∧ Below w.heap.size w w' := by
  obtain ⟨i0, hi, hz0, hz1, hz2⟩ := info_parts Try.int_info
  have hlen := h.len
  have L := hide hlen
  have HL := hide hl
  clear hlen hl
  go_enter Try.func25, Try.ntmps25
  go_wp2
  go_loopw [5, 6] (fun v i wr => ∃ k : Nat, k ≤ n ∧ i = .int .i64 k ∧ wr.ownsRow w.heap.size 3 1 v (wout (l.take k) t).length ((wout (l.take k) t).map (Value.int .i64)) ∧ Below w.heap.size w wr) (fun _ i _ => n - (intOf i).toNat)
  case atStart => exact ⟨0, Nat.zero_le _, rfl, World.ownsRow_nil _ _ _ _, Below.refl _ _⟩
  case round =>
    obtain ⟨k, hk, rfl, hown, hbel⟩ := hrel
    have OW := hide hown
    clear hown
    by_cases hlt : k < n
    · have h' := h.below hbel
      obtain ⟨ad, rfl, hadb, c1⟩ := h'.at_ hlt
      have hb := HL.out (l.getD k 0) (by rw [List.getD, List.getElem?_eq_getElem (by rw [L.out]; omega)]; exact List.getElem_mem _)
      have hst := hide (wout_step l t k (by rw [L.out]; omega))
      have hwl := wout_len l t k
      have hsz := hbel.size
      by_cases heq : th (l.getD k 0) = t
      · have e1 : (th (l.getD k 0) != t) = false := by simpa using heq
        clear heq
        have HE := hide e1
        generalize hx : l.getD k 0 = x at c1 e1 hb
        have HX := hide hx
        clear hx h'
        go_wp2_with (go_at_call 14; refine (rthread_any _ _ hb).mono ?_; rintro e w' ⟨rfl, rfl⟩)
        go_roundw
        case rel => exact ⟨k + 1, by omega, by go_num, by rw [hst.out, HE.out]; exact OW.out, hbel⟩
        case measure => simp [intOf]; omega
      · have e1 : (th (l.getD k 0) != t) = true := by simpa using heq
        clear heq
        have HE := hide e1
        generalize hx : l.getD k 0 = x at c1 e1 hb
        have HX := hide hx
        clear hx h'
        go_wp2_with (first
          | (go_at_call 14; refine (rthread_any _ _ hb).mono ?_; rintro e w' ⟨rfl, rfl⟩)
          | (at_builtin; go_must (refine wpList_pushI wr (by rfl) _ _ _ (by rfl) w.heap.size 3 i0 .i64 8 Try.underlying27 hi hz0 hz1 hz2 _ _ (by rfl) OW.out _ (by rfl) ?_ ?_ ?_ ?_)))
        · omega
        · omega
        · omega
        intro v' w1 hown1 hg1 _
        have hb1 : Below w.heap.size w w1 := hbel.trans (own_below OW.out hg1 (Nat.le_refl _) hbel.size)
        have O1 := hide hown1
        clear hown1 hg1
        go_wp2
        go_roundw
        case rel => exact ⟨k + 1, by omega, by go_num, by rw [hst.out, HE.out, HX.out]; simpa using O1.out, hb1⟩
        case measure => simp [intOf]; omega
    · have hkn : wout (l.take k) t = wout l t := by rw [List.take_of_length_le (by rw [L.out]; omega)]
      have O2 := hide (hkn ▸ OW.out)
      clear hkn
      go_wp2
      go_ret
      exact ⟨_, rfl, O2.out, hbel⟩
/-! ### The drawn records -/
def recs (l : List Int) : List Int := (l.take 24).map fun b => b % 26 - 1
set_option maxHeartbeats 800000 in
theorem records_any (w : World) (A : Option Addr) (n c : Nat) (l : List Int) (h : IsI .u8 w A n l) (hby : ∀ x ∈ l, 0 ≤ x ∧ x ≤ 255) (hc : n ≤ c) (hc' : c ≤ 9223372036854775807) :
    Calls Try.prog 18 #[.slice A n c] w fun e w' => ∃ v, e = .returned v ∧ w'.ownsRow (w.heap.size + 1) 3 1 v (recs l).length ((recs l).map (Value.int .i64)) ∧ Below w.heap.size w w' := by
  obtain ⟨i0, hi, hz0, hz1, hz2⟩ := info_parts Try.int_info
  have hn24 : (l.take 24).length ≤ 24 := List.length_take_le _ _
  generalize hr : l.take 24 = r at hn24
  have HR := hide hr
  have hby' : ∀ x ∈ r, 0 ≤ x ∧ x ≤ 255 := fun x hx => hby x (List.mem_of_mem_take (by rw [hr]; exact hx))
  have HBY := hide hby'
  have hnew := new_any w A n c l 24 h hby (by omega) hc hc'
  rw [hr] at hnew
  have HN := hide hnew
  clear hnew hr hby hby'
  go_enter Try.func18, Try.ntmps18
  go_wp2_with (go_at_call 26; refine HN.out.mono ?_; rintro e w1 ⟨rfl, hcd, hb1⟩)
  go_loopg [4] r.length (fun m v wr => ∃ k : Nat, m + k = r.length ∧ Cd wr w.heap.size (r.drop k) 0 ∧ wr.ownsRow (w.heap.size + 1) 3 1 v ((r.take k).map fun b => b % 26 - 1).length (((r.take k).map fun b => b % 26 - 1).map (Value.int .i64)) ∧ Below w.heap.size w wr)
  case atStart => exact ⟨0, by omega, hcd, World.ownsRow_nil _ _ _ _, hb1⟩
  case round =>
    obtain ⟨k, hk, hcd', hown, hbel⟩ := hrel
    have hlt := hcd'.lt
    have OW := hide hown
    have CD := hide hcd'
    clear hown hcd' hcd
    have hlen : ((r.take k).map fun b => b % 26 - 1).length ≤ 24 := by simp; omega
    by_cases hk3 : k < r.length
    · have hd : r.drop k = r.getD k 0 :: r.drop (k + 1) := by rw [List.drop_eq_getElem_cons hk3, List.getD, List.getElem?_eq_getElem hk3]; rfl
      have ht : (r.take (k + 1)).map (fun b => b % 26 - 1) = (r.take k).map (fun b => b % 26 - 1) ++ [r.getD k 0 % 26 - 1] := by
        rw [List.take_succ_eq_append_getElem hk3, List.map_append, List.getD, List.getElem?_eq_getElem hk3]; rfl
      have HT := hide ht
      have c1 := CD.out
      rw [hd] at c1
      have C1 := hide c1
      have hb := HBY.out (r.getD k 0) (by rw [List.getD, List.getElem?_eq_getElem hk3]; exact List.getElem_mem hk3)
      clear hd ht c1
      generalize r.getD k 0 = b at C1 HT hb
      go_wp2_with (first
        | (go_at_call 27; refine (left_any _ _ _ _ C1.out).mono ?_; rintro e w2 ⟨rfl, q, rfl⟩)
        | (go_at_call 28; refine (codeNext_cons (wr.drewN q) _ b _ _ _ (C1.out.drewN q) (by omega) (by omega)).mono ?_; rintro e w2 ⟨rfl, hc2, hg2⟩; have O2 := hide (own_far (own_bel OW.out (below_drewN (Below.refl _ _) q)) hg2 (Nat.lt_succ_self _)); have hlt2 := hc2.lt; have C2 := hide hc2; clear hc2)
        | (at_builtin; refine wpList_pushI w2 (by rfl) _ _ _ (by rfl) (w.heap.size + 1) 3 i0 .i64 8 Try.underlying27 hi hz0 hz1 hz2 _ _ (by rfl) O2.out _ (by rfl) ?_ ?_ ?_ ?_))
      · omega
      · omega
      · omega
      intro v' w3 hown3 hg3 _
      have hb2 : Below w.heap.size w w2 := (below_drewN hbel q).trans (below_of_grownBy hg2 hbel.size (fun g e => by injection e with e; omega))
      have hb3 : Below (w.heap.size + 1) w2 w3 := own_below O2.out hg3 (Nat.le_refl _) hlt2
      have C3 := hide (C2.out.belowB hb3 (Nat.lt_succ_self _))
      have O3 := hide hown3
      have hb4 : Below w.heap.size w w3 := hb2.trans (hb3.mono (by omega))
      clear hown3 hg3 hg2
      go_wp2
      go_roundg (gk - 1)
      case rel => exact ⟨k + 1, by omega, C3.out, by rw [HT.out]; simpa using O3.out, hb4⟩
      case measure => omega
    · have hd : r.drop k = [] := List.drop_of_length_le (by omega)
      have c1 := CD.out
      rw [hd] at c1
      have C1 := hide c1
      have ht : (r.take k).map (fun b => b % 26 - 1) = recs l := by unfold recs; rw [HR.out, List.take_of_length_le (by omega)]
      have O1 := OW.out
      rw [ht] at O1
      have OF := hide O1
      clear c1 hd ht O1 OW
      go_wp2_with (first
        | (go_at_call 27; refine (left_any _ _ _ _ C1.out).mono ?_; rintro e w2 ⟨rfl, q, rfl⟩))
      go_ret
      exact ⟨_, rfl, own_bel OF.out (below_drewN (Below.refl _ _) q), below_drewN hbel q⟩
end Go.Proofs.Ytjmchkafjpahbaa
