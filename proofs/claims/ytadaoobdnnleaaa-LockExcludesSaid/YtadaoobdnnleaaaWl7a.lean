/- Chapter 7: the lock's frames. -/
import Derived.Test.YtadaoobdnnleaaaH
import Derived.Test.YtadaoobdnnleaaaI
import Derived.Test.YtadaoobdnnleaaaJ
import Derived.Test.YtadaoobdnnleaaaE5
namespace Go.Proofs.Ytadaoobdnnleaaa
open Go.RowKit
set_option linter.unusedVariables false

theorem Try.cfg_und : ∃ fs, Try.prog.underlying 30 = some (.struct fs) := ⟨_, Try.underlying30⟩
theorem Try.cfg_inf : (Try.prog.info? 30).map (·.size) = some 3 := by kernel_rfl
theorem cfg_one (A : Option Addr) (n c : Nat) (B : Option Addr) (m d : Nat) (t : Int) : (#[.slice A n c, .slice B m d, .int .i64 t] : Array Value).all (·.oneCell') = true := by
  refine all_oneCell_toArray (cs := [_, _, _]) fun v hv => ?_
  simp only [List.mem_cons, List.not_mem_nil, or_false] at hv
  rcases hv with rfl | rfl | rfl <;> rfl
theorem out_one (k v : Int) : (#[.int .i64 k, .int .u64 v] : Array Value).all (·.oneCell') = true := by
  refine all_oneCell_toArray (cs := [_, _]) fun v hv => ?_
  simp only [List.mem_cons, List.not_mem_nil, or_false] at hv
  rcases hv with rfl | rfl <;> rfl
theorem Try.out_inf : (Try.prog.info? 50).map (·.size) = some 2 := by kernel_rfl
theorem one7_any (w : World) :
    Calls Try.prog 21 #[] w fun e w' => ∃ A B, e = .returned (.agg #[.slice A 1 1, .slice B 1 1, .int .i64 2]) ∧ Cf w' A 1 [1] ∧ IsI .u64 w' B 1 [0] ∧ Below w.heap.size w w' := by
  go_enter Try.func21, Try.ntmps21
  go_wp2
  exact bodyPost_ret (v := .agg #[.slice (some ⟨w.heap.size + 1, 0, none⟩) 1 1, .slice (some ⟨w.heap.size + 1 + 1, 0, none⟩) 1 1, .int .i64 2]) (by simp [results, Try.results21, go_sem]) rfl
    ⟨_, _, rfl, ⟨by simpa using (isI_one (w := w.alloc _) (t := 3) (k := .i64) 1).alloc _, by omega, fun x hx => by simp at hx; omega⟩, by simpa using isI_one (w := (w.alloc _).alloc _) (t := 46) (k := .u64) 0, ((below_new _ _).alloc (by simp) _).alloc (by simp; omega) _⟩
set_option maxRecDepth 100000 in
theorem awake7_any (w : World) :
    Calls Try.prog 14 #[] w fun e w' => e = .returned (.bool true) ∧ Below w.heap.size w w' := by
  go_enter Try.func14, Try.ntmps14
  go_wp2_with fail
  refine (one7_any w).mono ?_
  rintro e w1 ⟨A, B, rfl, hcf, -, hb1⟩
  have HB1 := hide hb1
  have HT := hide (lockTake_any w1 A 1 1 [1] B 1 1 2 hcf 0 (by omega))
  clear hb1 hcf
  go_wp2_with fail
  refine HT.out.mono ?_
  rintro e w2 ⟨cs, rfl, hf, hb⟩
  obtain ⟨FA, fn, fc, FB, fm, fd, rfl, -⟩ := id hf
  have HF := hide hf
  have HB2 := hide (HB1.out.trans (hb.mono HB1.out.size))
  have hlt2 := hide HB2.out.size
  clear hf hb HT HB1
  go_wp2_with fail
  refine (lockNext_0 _ _ (tlN [1] 0 + 2) _ (HF.out.below (below_new _ _))).mono ?_
  rintro e w3 ⟨rfl, hb⟩
  have K1 := hide ((Bk.new w2 55 #[.int .i64 0, .int .i64 0, .slice FA fn fc, .slice FB fm fd, .slice none 0 0]).below hb (by simp))
  have HF3 := hide (HF.out.below ((below_new _ _).trans (hb.mono (by simp))))
  have HB3 := hide ((HB2.out.alloc HB2.out.size _).trans (hb.mono (by have := HB2.out.size; simp; omega)))
  have hlt3 := hide (show w2.heap.size < w3.heap.size from by have := hb.size; simp at this; omega)
  clear hb HF HB2
  rw [Acc.cells]
  obtain ⟨k10, k11, k12, k13, k14, f1⟩ := bk5 (K1.out.alloc (.cells #[.int .i64 3, .int .i64 (tlN [1] 0 + 2), .int .u64 0, .int .u64 1, .int .i64 0] 65))
  go_wp2_with fail
  refine (lockResume_done _ _ 0 0 0 [] _ true false none 0 0 (HF3.out.below (below_new _ _)) (Or.inr ⟨rfl, rfl⟩)).mono ?_
  rintro e w4 ⟨cs, rfl, hf, hb⟩
  obtain ⟨FA', fn', fc', FB', fm', fd', rfl, -⟩ := id hf
  have K2 := hide ((Bk.new w3 65 #[.int .i64 3, .int .i64 (tlN [1] 0 + 2), .int .u64 0, .int .u64 1, .int .i64 0]).below hb (by simp))
  have K1' := hide ((K1.out.alloc _).below hb (by have := hlt3.out; simp; omega))
  have HT := hide (K1'.out.there (n := 5) rfl)
  have HB4 := hide ((HB3.out.alloc HB3.out.size _).trans (hb.mono (by have := HB3.out.size; simp; omega)))
  have HF4 := hide hf
  clear hb hf HF3 K1 HB3 k10 k11 k12 k13 k14 f1
  go_wp2_with ((with_reducible show wpList _ _ _ _ _ _); refine wpList_store_res (by rfl) 55 _ _ (by rfl) w2.heap.size #[.int .i64 1, .int .i64 (-1), .slice FA' fn' fc', .slice FB' fm' fd', .slice none 0 0] (by rfl) (by rfl) HT.out Try.fr_inf (fr_one _ _ _ _ _ _ _ _ _ _ _) ?_; intro wz HZ; obtain ⟨k10, k11, k12, k13, k14, f1⟩ := bk5 (Bk.stored HZ K1'.out rfl); have HF5 := hide (Fr.stored HZ HF4.out K1'.out); have KE := hide (Env.far (L := [(w3.heap.size, 65, #[.int .i64 3, .int .i64 (tlN [1] 0 + 2), .int .u64 0, .int .u64 1, .int .i64 0])]) HZ (fun x hx => by rw [List.mem_singleton.1 hx]; exact K2.out) (fun x hx => by rw [List.mem_singleton.1 hx]; have := hlt3.out; show w3.heap.size ≠ w2.heap.size; omega)); have HB5 := hide (below_stored HZ HB4.out (by have := hlt2.out; omega)))
  refine (lockEnd_yes _ _ 1 [0] [] HF5.out).mono ?_
  rintro e w6 ⟨rfl, hb⟩
  have HB6 := hide (HB5.out.trans (hb.mono HB5.out.size))
  have K6 := ((KE.out _ (List.mem_singleton.2 rfl)).below hb (KE.out _ (List.mem_singleton.2 rfl)).lt).alloc (.cells #[.int .i64 1, .int .u64 0] 50)
  obtain ⟨c10, c11, c12, c13, c14, f6⟩ := bk5 K6
  clear hb HF5 KE HB5 HB4 HF4 HT K1' K2 hlt3 k10 k11 k12 k13 k14 f1 K6
  go_wp2
  go_ret
  exact ⟨rfl, HB6.out.alloc HB6.out.size _⟩
/-- The drawn configuration, as the layout's contracts want it. -/
theorem config_cf (w : World) (g : Nat) (r : List Int) (v : Int) (h : Cd w g r v) :
    Calls Try.prog 17 #[.pointer (some ⟨g, 0, none⟩)] w fun e w' => ∃ (A : Option Addr) (n c : Nat) (B : Option Addr) (d : Nat) (t : Int) (l s r' : List Int), e = .returned (.agg #[.slice A n c, .slice B n d, .int .i64 t]) ∧ Cf w' A n l ∧ IsI .u64 w' B n s ∧ 1 ≤ n ∧ n ≤ 3 ∧ capOk l ∧ staOk s ∧ 2 ≤ t ∧ t ≤ 4 ∧ Cd w' g r' v ∧ w.grownBy w' (some g) := by
  refine (config_any w g r v h).mono ?_
  rintro e w' ⟨u1, u2, t, l, s, r', rfl, hr, h1, h2, h3, h4, h5, h6, h7, h8, h9⟩
  have o1 := hr.at_ 0 (Nat.succ_pos _)
  have o2 := hr.at_ 1 (by show 1 < 2; omega)
  obtain ⟨A, C, e1, -⟩ := own_form o1
  obtain ⟨B, D, e2, -⟩ := own_form o2
  have e1' : u1 = .slice A l.length C := e1
  have e2' : u2 = .slice B s.length D := e2
  subst e1' e2'
  refine ⟨A, l.length, C, B, D, t, l, s, r', by rw [h3], ⟨IsI.of_own o1, by omega, fun x hx => ?_⟩, by have := IsI.of_own o2; rwa [h3] at this, h1, h2, h4, h5, h6, h7, h8, h9⟩
  have := h4 x hx
  omega
/-- The frame that was answered yes or no. -/
def GFr (w : World) (cs : Array Value) (y : Bool) (p : Int) : Prop := Fr w cs (if y then 1 else 0) (if y then -1 else 0) (if y then [0] else []) (if y then [] else [p])
theorem GFr.below {w w' : World} {cs : Array Value} {y : Bool} {p : Int} (h : GFr w cs y p) (hb : Below w.heap.size w w') : GFr w' cs y p := Fr.below h hb
theorem GFr.form {w : World} {cs : Array Value} {y : Bool} {p : Int} (h : GFr w cs y p) : ∃ A n c B m d, cs = #[.int .i64 (if y then 1 else 0), .int .i64 (if y then -1 else 0), .slice A n c, .slice B m d, .slice none 0 0] := by
  obtain ⟨A, n, c, B, m, d, e, -⟩ := h
  exact ⟨A, n, c, B, m, d, e⟩
theorem lockG_res (w : World) (cs : Array Value) (p v : Int) (y : Bool) (h : Fr w cs 0 0 [] [p]) :
    Calls Try.prog 27 #[.agg cs, .agg #[.int .u64 v, .bool y, .bool false, .slice none 0 0]] w fun e w' => ∃ cs', e = .returned (.agg cs') ∧ GFr w' cs' y p ∧ Below w.heap.size w w' := by
  cases y
  · exact (lockResume_stay w cs 0 0 v [] [p] false false none 0 0 h (Or.inr ⟨rfl, rfl⟩)).mono fun e w' ⟨h1, h2⟩ => ⟨cs, h1, h.below h2, h2⟩
  · exact (lockResume_done w cs 0 0 v [] [p] true false none 0 0 h (Or.inr ⟨rfl, rfl⟩)).mono fun e w' ⟨cs', h1, h2, h3⟩ => ⟨cs', h1, h2, h3⟩
theorem lockG_end (w : World) (cs : Array Value) (p : Int) (y : Bool) (h : GFr w cs y p) :
    Calls Try.prog 26 #[.agg cs] w fun e w' => e = .returned (.tuple #[.agg #[.int .i64 (if y then 1 else 0), .int .u64 0], .bool y]) ∧ Below w.heap.size w w' := by
  cases y
  · exact lockEnd_no w cs 0 0 [] [p] h (by decide)
  · exact lockEnd_yes w cs 1 [0] [] h
theorem lockG_next (w : World) (cs : Array Value) (p : Int) (y : Bool) (h : GFr w cs y p) :
    Calls Try.prog 28 #[.agg cs] w fun e w' => e = .returned (.agg (Acc.cells (if y then ⟨0, 0, 0, 0⟩ else ⟨3, p, 0, 1⟩))) ∧ Below w.heap.size w w' := by
  cases y
  · exact lockNext_0 w cs p [] h
  · exact lockNext_e w cs [0] [] 1 h
set_option maxRecDepth 100000 in
theorem frames_walk (a0 : Option Addr) (len0 cap0 : Nat) (z0 : List Int) (a1 : Int) (a2 : Bool) (w : World) (w0 : Row .u8 w a0 len0 cap0 z0) :
    Calls Try.prog 5 #[.slice a0 len0 cap0, .int .u64 a1, .bool a2] w fun e w' => e = .returned (.bool true) ∧ Below w.heap.size w w' := by
  obtain ⟨hI1, hc1, hm1, hwf1⟩ := w0.isI
  have hbd1 : ∀ x ∈ z0.take len0, 0 ≤ x ∧ x ≤ 255 := fun x hx => bounds_u8 (hwf1 x hx)
  have HB1 := hide hbd1
  have H1 := hide hI1
  clear hwf1 w0 hbd1 hI1
  generalize z0.take len0 = l1 at H1 HB1
  go_enter Try.func5, Try.ntmps5
  go_wp2_with fail
  refine (awake7_any _).mono ?_
  rintro e y1 ⟨rfl, hb1⟩
  have hs1 := hb1.size
  go_wp2_with fail
  refine (new_any _ _ _ _ _ 40 (H1.out.below hb1) HB1.out (by omega) hc1 hm1).mono ?_
  rintro e y2 ⟨rfl, hcd, hb2⟩
  have HB2 := hide (hb1.trans (hb2.mono hs1))
  have HCD := hide hcd
  clear hb1 hb2 hcd
  go_wp2_with fail
  refine (config_cf _ _ _ _ HCD.out).mono ?_
  rintro e y3 ⟨A, n, c, B, d, t, l, s, r', rfl, hcf, -, hn1, hn3, -, -, -, -, -, hg⟩
  have HB3 := hide (below_grownBy HB2.out hg (Nat.le_refl _) hs1)
  have HC := hide hcf
  clear hcf hg HCD HB2 H1 HB1
  have hs3 := HB3.out.size
  go_wp2_with fail
  refine (lockRelease_any _ A n c l B n d t (HC.out.alloc _) 0 (by omega)).mono ?_
  rintro e y4 ⟨cs, rfl, hf, hb⟩
  have K7 := hide ((Bk.new y3 30 #[.slice A n c, .slice B n d, .int .i64 t]).below hb (by simp))
  have hg4 := (below_new y3 (.cells #[.slice A n c, .slice B n d, .int .i64 t] 30)).trans (hb.mono (by simp))
  have HC4 := hide (HC.out.below hg4)
  have HB4 := hide (HB3.out.trans (hg4.mono hs3))
  have h34 := hide (show y3.heap.size < y4.heap.size from by have := hb.size; simp at this; omega)
  have HF := hide hf
  clear hb hg4 hf HC HB3
  go_wp2_with fail
  refine (lockResume_done _ _ 0 1 a1 [] _ a2 false none 0 0 HF.out (Or.inl rfl)).mono ?_
  rintro e y5 ⟨cs1, rfl, hf, hb⟩
  obtain ⟨FA, fn, fc, FB, fm, fd, rfl, -⟩ := id hf
  have K7' := hide (K7.out.below hb h34.out)
  have HC5 := hide (HC4.out.below hb)
  have HB5 := hide (HB4.out.trans (hb.mono HB4.out.size))
  have h35 := hide (show y3.heap.size < y5.heap.size from by have := hb.size; have := h34.out; omega)
  have HF1 := hide hf
  clear hb hf HF HC4 HB4 K7 h34
  obtain ⟨k0, k1, k2, kf⟩ := bk3 (K7'.out.alloc (.cells #[.int .i64 1, .int .i64 (-1), .slice FA fn fc, .slice FB fm fd, .slice none 0 0] 55))
  go_wp2_with fail
  refine (lockTake_any _ A n c l B n d t (HC5.out.alloc _) 0 (by omega)).mono ?_
  rintro e y6 ⟨cs, rfl, hf, hb⟩
  have hg6 := (below_new y5 (.cells #[.int .i64 1, .int .i64 (-1), .slice FA fn fc, .slice FB fm fd, .slice none 0 0] 55)).trans (hb.mono (by simp))
  have K8 := hide ((Bk.new y5 55 #[.int .i64 1, .int .i64 (-1), .slice FA fn fc, .slice FB fm fd, .slice none 0 0]).below hb (by simp))
  have HF6 := hide (HF1.out.below hg6)
  have HB6 := hide (HB5.out.trans (hg6.mono HB5.out.size))
  have h56 := hide (show y5.heap.size < y6.heap.size from by have := hb.size; simp at this; omega)
  have HG := hide hf
  have h05 := hide HB5.out.size
  clear hb hf hg6 k0 k1 k2 kf HF1 HB5 HC5 K7' h35
  go_wp2_with fail
  refine (lockG_res _ _ _ a1 a2 HG.out).mono ?_
  rintro e y7 ⟨cs2, rfl, hf, hb⟩
  generalize tlN l 0 + 2 = p at hf
  obtain ⟨GA, gn, gc, GB, gm, gd, rfl⟩ := hf.form
  have K8' := hide (K8.out.below hb h56.out)
  have HF7 := hide (HF6.out.below hb)
  have HB7 := hide (HB6.out.trans (hb.mono HB6.out.size))
  have h57 := hide (show y5.heap.size < y7.heap.size from by have := hb.size; have := h56.out; omega)
  have HG7 := hide hf
  clear hb hf HG HF6 HB6 K8 h56
  generalize hkg : (if a2 = true then (1 : Int) else 0) = kg at *
  generalize hpg : (if a2 = true then (-1 : Int) else 0) = pg at *
  have HKG := hide hkg
  clear hkg hpg
  obtain ⟨k0, k1, k2, k3, k4, kf⟩ := bk5 (K8'.out.alloc (.cells #[.int .i64 kg, .int .i64 pg, .slice GA gn gc, .slice GB gm gd, .slice none 0 0] 55))
  go_wp2_with fail
  refine (lockEnd_yes _ _ 1 [0] [] (HF7.out.below (below_new _ _))).mono ?_
  rintro e y8 ⟨rfl, hb⟩
  have hg8 := (below_new y7 (.cells #[.int .i64 kg, .int .i64 pg, .slice GA gn gc, .slice GB gm gd, .slice none 0 0] 55)).trans (hb.mono (by simp))
  have K9 := hide ((Bk.new y7 55 #[.int .i64 kg, .int .i64 pg, .slice GA gn gc, .slice GB gm gd, .slice none 0 0]).below hb (by simp))
  have K8 := hide (K8'.out.below hg8 h57.out)
  have HF8 := hide (HF7.out.below hg8)
  have HG8 := hide (HG7.out.below hg8)
  have HB8 := hide (HB7.out.trans (hg8.mono HB7.out.size))
  have h78 := hide (show y7.heap.size < y8.heap.size from by have := hb.size; simp at this; omega)
  clear hb hg8 HF7 HG7 HB7 K8' k0 k1 k2 k3 k4 kf
  obtain ⟨k0, k1, k2, k3, k4, kf⟩ := bk5 (K9.out.alloc (.cells #[.int .i64 1, .int .u64 0] 50))
  simp only [List.getD_cons_zero]
  go_wp2_with fail
  refine (lockG_end _ _ p a2 (HG8.out.below (below_new _ _))).mono ?_
  rintro e y9 ⟨rfl, hb⟩
  rw [HKG.out]
  have hg9 := (below_new y8 (.cells #[.int .i64 1, .int .u64 0] 50)).trans (hb.mono (by simp))
  have K10 := hide ((Bk.new y8 50 #[.int .i64 1, .int .u64 0]).below hb (by simp))
  have K9' := hide (K9.out.below hg9 h78.out)
  have K8' := hide (K8.out.below hg9 (by have := h57.out; have := h78.out; omega))
  have HF9 := hide (HF8.out.below hg9)
  have HG9 := hide (HG8.out.below hg9)
  have HB9 := hide (HB8.out.trans (hg9.mono HB8.out.size))
  have h89 := hide (show y8.heap.size < y9.heap.size from by have := hb.size; simp at this; omega)
  clear hb hg9 HF8 HG8 HB8 K9 K8 k0 k1 k2 k3 k4 kf
  obtain ⟨o0, o1, of⟩ := bk2 (K10.out.alloc (.cells #[.int .i64 kg, .int .u64 0] 50))
  obtain ⟨k0, k1, k2, k3, k4, kf⟩ := bk5 (K8'.out.alloc (.cells #[.int .i64 kg, .int .u64 0] 50))
  have hs9 := HB9.out.size
  have hkk : (a2 = false ∧ kg = 0) ∨ (a2 = true ∧ kg = 1) := by rw [← HKG.out]; cases a2 <;> simp
  clear HKG
  rcases hkk with ⟨rfl, rfl⟩ | ⟨rfl, rfl⟩
  all_goals
    go_wp2_with fail
    refine (lockResume_stay _ _ 1 (-1) a1 [0] [] false false none 0 0 (HF9.out.below (below_new _ _)) (Or.inl rfl)).mono ?_
    rintro e y10 ⟨rfl, hb⟩
    have hg10 := (below_new y9 (.cells #[.int .i64 _, .int .u64 0] 50)).trans (hb.mono (by simp))
    have K10' := hide (K10.out.below hg10 h89.out)
    have K9 := hide (K9'.out.below hg10 (by have := h78.out; have := h89.out; omega))
    have K8 := hide (K8'.out.below hg10 (by have := h57.out; have := h78.out; have := h89.out; omega))
    have HF10 := hide (HF9.out.below hg10)
    have HG10 := hide (HG9.out.below hg10)
    have HB10 := hide (HB9.out.trans (hg10.mono hs9))
    have HT := hide (K8.out.there (n := 5) rfl)
    clear hb hg10 HF9 HG9 HB9 K9' K8' K10 k0 k1 k2 k3 k4 kf o0 o1 of
    go_wp2_with ((with_reducible show wpList _ _ _ _ _ _); refine wpList_store_res (by rfl) 55 _ _ (by rfl) y5.heap.size #[.int .i64 1, .int .i64 (-1), .slice FA fn fc, .slice FB fm fd, .slice none 0 0] (by rfl) (by rfl) HT.out Try.fr_inf (fr_one _ _ _ _ _ _ _ _ _ _ _) ?_; intro wz HZ; have K8' := hide (Bk.stored HZ K8.out rfl); obtain ⟨k0, k1, k2, k3, k4, kf⟩ := bk5 K8'.out; have HF11 := hide (Fr.stored HZ HF10.out K8.out); have HG11 := hide (show GFr wz _ _ p from Fr.stored HZ HG10.out K8.out); have KE1 := hide (Bk.apart HZ K9.out (by have := h57.out; omega)); have KE2 := hide (Bk.apart HZ K10'.out (by have := h57.out; have := h78.out; omega)); have HB11 := hide (below_stored HZ HB10.out h05.out))
    refine (lockEnd_yes _ _ 1 [0] [] HF11.out).mono ?_
    rintro e y11 ⟨rfl, hb⟩
    have L8 := hide ((K8'.out.below hb K8'.out.lt).alloc (.cells #[.int .i64 1, .int .u64 0] 50))
    have L9 := hide ((KE1.out.below hb KE1.out.lt).alloc (.cells #[.int .i64 1, .int .u64 0] 50))
    have L10 := hide ((KE2.out.below hb KE2.out.lt).alloc (.cells #[.int .i64 1, .int .u64 0] 50))
    have L11 := hide (Bk.new y11 50 #[.int .i64 1, .int .u64 0])
    have hg11 := hb.trans ((below_new y11 (.cells #[.int .i64 1, .int .u64 0] 50)).mono hb.size)
    have HF12 := hide (HF11.out.below hg11)
    have HG12 := hide (HG11.out.below hg11)
    have HB12 := hide (HB11.out.trans (hg11.mono HB11.out.size))
    clear hb hg11 HF11 HG11 HB11 K8' KE1 KE2 k0 k1 k2 k3 k4 kf HT HB10 HG10 HF10 K8 K9 K10' HZ
    simp only [List.getD_cons_zero]
    have E1 := fun W => eq_out W 1 0 1 0
    have E2 := fun W => eq_acc W ⟨0, 0, 0, 0⟩ ⟨0, 0, 0, 0⟩
    have E3 := fun W => eq_acc W ⟨3, p, 0, 1⟩ ⟨0, 0, 0, 0⟩
    simp only [Acc.cells] at E2 E3
    simp at E1 E2 E3
    obtain ⟨b0, b1, b2, b3, b4, bf⟩ := bk5 L8.out
    obtain ⟨o0, o1, of⟩ := bk2 L10.out
    go_wp2_with fail
    refine (lockNext_e _ _ [0] [] 1 HF12.out).mono ?_
    rintro e y12 ⟨rfl, hb⟩
    obtain ⟨d0, d1, d2, d3, d4, df⟩ := bk5 (L9.out.below hb L9.out.lt)
    have HG13 := hide (HG12.out.below hb)
    have HB13 := hide (HB12.out.trans (hb.mono HB12.out.size))
    clear hb HF12 HG12 HB12 L8 L9 L10 L11 b0 b1 b2 b3 b4 bf o0 o1 of
    rw [Acc.cells]
    go_wp2_with fail
    refine (lockG_next _ _ p _ HG13.out).mono ?_
    rintro e y14 ⟨rfl, hb⟩
    have HB14 := hide (HB13.out.trans (hb.mono HB13.out.size))
    clear hb HG13 HB13 d0 d1 d2 d3 d4 df
    simp only [Acc.cells, Bool.false_eq_true, if_false, if_true]
    go_wp2
    go_ret
    exact ⟨rfl, HB14.out⟩
end Go.Proofs.Ytadaoobdnnleaaa
