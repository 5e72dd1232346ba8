/- What the machines of a claim do beside the document's, and how they start. -/
import Derived.Test.YtadaoobdnnleaaaH12
import Derived.Test.YtadaoobdnnleaaaI12b
namespace Go.Proofs.Ytadaoobdnnleaaa
open Go.RowKit
set_option linter.unusedVariables false

def pc12 (x : Mc) : Int := match x.what with | 7 => 1 | 8 => 2 | 10 => 3 | 11 => 4 | _ => 4 + (x.at_ : Int)
def ws12 (x : Mc) : List Int := if x.what = 9 then [x.ix, x.kd, x.v] else []
def Rp12 (l : List Int) (x : Mc) (q : Fa) : Prop :=
  (x.at_ = 0 ∧ q = ⟨x.ok, -1, [x.ov], []⟩) ∨ (x.at_ ≠ 0 ∧ x.ok = 0 ∧ x.ov = 0 ∧ q = ⟨0, pc12 x, ws12 x, clL (clN l x.th)⟩)
theorem at12 {n : Nat} {x : Mc} (h : Mv n x) (ho : 7 ≤ x.what) (h0 : x.at_ ≠ 0) : (x.what = 7 ∧ x.at_ = 1) ∨ (x.what = 8 ∧ x.at_ = 1) ∨ (x.what = 10 ∧ x.at_ = 1) ∨ (x.what = 11 ∧ x.at_ = 1) ∨ (x.what = 9 ∧ x.at_ = 1) ∨ (x.what = 9 ∧ x.at_ = 2) ∨ (x.what = 9 ∧ x.at_ = 3) ∨ (x.what = 9 ∧ x.at_ = 4) ∨ (x.what = 9 ∧ x.at_ = 5) := by
  have w2 := h.w2
  have hat := h.hat
  have hw : x.what = 7 ∨ x.what = 8 ∨ x.what = 9 ∨ x.what = 10 ∨ x.what = 11 := by omega
  rcases hw with e | e | e | e | e <;> rw [e] at hat <;> simp only [atMax] at hat <;> omega
theorem good12 (l : List Int) (x : Mc) (q : Fa) (hmv : Mv l.length x) (ho : 7 ≤ x.what) (hr : Rp12 l x q) : Good 64 38 l x q := by
  intro W cs hf
  rcases hr with ⟨h0, rfl⟩ | ⟨h0, h2, h3, rfl⟩
  · have e1 : mnext l x = ⟨0, 0, 0, 0⟩ := by rw [mnext, if_pos h0]
    rw [e1, h0]
    exact ⟨claimNext_e W cs _ _ _ hf, claimEnd_yes W cs _ _ _ hf⟩
  · have hix := hmv.ix
    have hkd := hmv.kd
    have hc := at12 hmv ho h0
    obtain ⟨what, at_, ch, th, ix, kd, v, tt, hh, ok, ov⟩ := x
    dsimp only at h2 h3 hix hkd hc
    subst h2 h3
    rcases hc with ⟨rfl, rfl⟩ | ⟨rfl, rfl⟩ | ⟨rfl, rfl⟩ | ⟨rfl, rfl⟩ | ⟨rfl, rfl⟩ | ⟨rfl, rfl⟩ | ⟨rfl, rfl⟩ | ⟨rfl, rfl⟩ | ⟨rfl, rfl⟩
    · exact ⟨claimNext_1 W cs (clN l th) _ _ hf rfl, claimEnd_no W cs 0 1 _ _ hf (by decide)⟩
    · exact ⟨claimNext_2 W cs (clN l th) _ _ hf rfl, claimEnd_no W cs 0 2 _ _ hf (by decide)⟩
    · exact ⟨claimNext_3 W cs (clN l th) _ _ hf rfl, claimEnd_no W cs 0 3 _ _ hf (by decide)⟩
    · exact ⟨claimNext_4 W cs (clN l th) _ _ hf rfl, claimEnd_no W cs 0 4 _ _ hf (by decide)⟩
    · exact ⟨claimNext_5 W cs (clN l th) _ _ _ hf rfl (by show ix = ix % 18446744073709551616; omega), claimEnd_no W cs 0 5 _ _ hf (by decide)⟩
    · exact ⟨claimNext_6 W cs (clN l th) _ _ _ hf rfl (by show kd = kd % 18446744073709551616; omega), claimEnd_no W cs 0 6 _ _ hf (by decide)⟩
    · exact ⟨claimNext_7 W cs (clN l th) _ _ _ hf rfl rfl, claimEnd_no W cs 0 7 _ _ hf (by decide)⟩
    · exact ⟨claimNext_8 W cs (clN l th) _ _ hf rfl, claimEnd_no W cs 0 8 _ _ hf (by decide)⟩
    · exact ⟨claimNext_9 W cs (clN l th) _ _ hf rfl, claimEnd_no W cs 0 9 _ _ hf (by decide)⟩
theorem res12 (l : List Int) (x : Mc) (q : Fa) (hmv : Mv l.length x) (ho : 7 ≤ x.what) (hr : Rp12 l x q) (W : World) (cs : Array Value) (a : Int) (y z : Bool) (LA : Option Addr) (ln lc : Nat) (hf : FrA W cs q) :
    Calls Try.prog 36 #[.agg cs, .agg #[.int .u64 a, .bool y, .bool z, .slice LA ln lc]] W fun e w' => ∃ cs' q', e = .returned (.agg cs') ∧ FrA w' cs' q' ∧ Rp12 l (mres l x a y) q' ∧ Below W.heap.size W w' := by
  rcases hr with ⟨h0, rfl⟩ | ⟨h0, h2, h3, rfl⟩
  · have e1 : mres l x a y = x := by rw [mres, if_pos h0]
    rw [e1]
    refine (claimResume_se W cs _ a _ _ y z LA ln lc hf trivial).mono ?_
    rintro e w' ⟨rfl, hb⟩
    exact ⟨_, _, rfl, Fr.below hf hb, Or.inl ⟨h0, rfl⟩, hb⟩
  · have hc := at12 hmv ho h0
    obtain ⟨what, at_, ch, th, ix, kd, v, tt, hh, ok, ov⟩ := x
    dsimp only at h2 h3 hc
    subst h2 h3
    have fin : ∀ (k : Int) (x' : Mc), x'.at_ = 0 → x'.ok = k → x'.ov = 0 → mres l ⟨what, at_, ch, th, ix, kd, v, tt, hh, 0, 0⟩ a y = x' →
        (Calls Try.prog 36 #[.agg cs, .agg #[.int .u64 a, .bool y, .bool z, .slice LA ln lc]] W fun e w' => ∃ cs', e = .returned (.agg cs') ∧ Fr w' cs' k (-1) [0] [] ∧ Below W.heap.size W w') →
        Calls Try.prog 36 #[.agg cs, .agg #[.int .u64 a, .bool y, .bool z, .slice LA ln lc]] W fun e w' => ∃ cs' q', e = .returned (.agg cs') ∧ FrA w' cs' q' ∧ Rp12 l (mres l ⟨what, at_, ch, th, ix, kd, v, tt, hh, 0, 0⟩ a y) q' ∧ Below W.heap.size W w' := by
      intro k x' e1 e2 e3 e4 hC
      rw [e4]
      refine hC.mono ?_
      rintro e w' ⟨cs', rfl, h, hb⟩
      exact ⟨cs', ⟨k, -1, [0], []⟩, rfl, h, Or.inl ⟨e1, by rw [e2, e3]⟩, hb⟩
    rcases hc with ⟨rfl, rfl⟩ | ⟨rfl, rfl⟩ | ⟨rfl, rfl⟩ | ⟨rfl, rfl⟩ | ⟨rfl, rfl⟩ | ⟨rfl, rfl⟩ | ⟨rfl, rfl⟩ | ⟨rfl, rfl⟩ | ⟨rfl, rfl⟩
    · cases y
      · by_cases h2 : a = 2
        · have e1 : mres l ⟨7, 1, ch, th, ix, kd, v, tt, hh, 0, 0⟩ a false = ⟨7, 1, ch, th, ix, kd, v, tt, hh, 0, 0⟩ := by rw [mres, if_neg (show ¬ (1 : Nat) = 0 by decide)]; simp [h2]
          rw [e1]
          refine (claimResume_s1 W cs _ a _ _ false z LA ln lc hf (by simpa using h2)).mono ?_
          rintro e w' ⟨rfl, hb⟩
          exact ⟨_, _, rfl, Fr.below hf hb, Or.inr ⟨h0, rfl, rfl, rfl⟩, hb⟩
        · exact fin 8 (mend ⟨7, 1, ch, th, ix, kd, v, tt, hh, 0, 0⟩ 8 0) rfl rfl rfl (by rw [mres, if_neg (show ¬ (1 : Nat) = 0 by decide)]; simp [h2]) (claimResume_n1 W cs _ a _ _ z LA ln lc hf (by simpa using h2))
      · exact fin 7 (mend ⟨7, 1, ch, th, ix, kd, v, tt, hh, 0, 0⟩ 7 0) rfl rfl rfl rfl (claimResume_y1 W cs _ a _ _ true z LA ln lc hf)
    · exact fin 1 (mend ⟨8, 1, ch, th, ix, kd, v, tt, hh, 0, 0⟩ 1 0) rfl rfl rfl rfl (claimResume_u2 W cs _ a _ _ y z LA ln lc hf)
    · cases y
      · exact fin 8 (mend ⟨10, 1, ch, th, ix, kd, v, tt, hh, 0, 0⟩ 8 0) rfl rfl rfl rfl (claimResume_n3 W cs _ a _ _ false z LA ln lc hf)
      · exact fin 7 (mend ⟨10, 1, ch, th, ix, kd, v, tt, hh, 0, 0⟩ 7 0) rfl rfl rfl rfl (claimResume_y3 W cs _ a _ _ true z LA ln lc hf)
    · exact fin 1 (mend ⟨11, 1, ch, th, ix, kd, v, tt, hh, 0, 0⟩ 1 0) rfl rfl rfl rfl (claimResume_u4 W cs _ a _ _ y z LA ln lc hf)
    · refine (claimResume_a5 W cs _ a _ _ y z LA ln lc hf).mono ?_
      rintro e w' ⟨cs', rfl, h, hb⟩
      exact ⟨cs', ⟨0, 6, [ix, kd, v], clL (clN l th)⟩, rfl, h, Or.inr ⟨(by decide : (2 : Nat) ≠ 0), rfl, rfl, rfl⟩, hb⟩
    · refine (claimResume_a6 W cs _ a _ _ y z LA ln lc hf).mono ?_
      rintro e w' ⟨cs', rfl, h, hb⟩
      exact ⟨cs', ⟨0, 7, [ix, kd, v], clL (clN l th)⟩, rfl, h, Or.inr ⟨(by decide : (3 : Nat) ≠ 0), rfl, rfl, rfl⟩, hb⟩
    · refine (claimResume_a7 W cs _ a _ _ y z LA ln lc hf).mono ?_
      rintro e w' ⟨cs', rfl, h, hb⟩
      exact ⟨cs', ⟨0, 8, [ix, kd, v], clL (clN l th)⟩, rfl, h, Or.inr ⟨(by decide : (4 : Nat) ≠ 0), rfl, rfl, rfl⟩, hb⟩
    · refine (claimResume_a8 W cs _ a _ _ y z LA ln lc hf).mono ?_
      rintro e w' ⟨cs', rfl, h, hb⟩
      exact ⟨cs', ⟨0, 9, [ix, kd, v], clL (clN l th)⟩, rfl, h, Or.inr ⟨(by decide : (5 : Nat) ≠ 0), rfl, rfl, rfl⟩, hb⟩
    · exact fin 1 (mend ⟨9, 5, ch, th, ix, kd, v, tt, hh, 0, 0⟩ 1 0) rfl rfl rfl rfl (claimResume_u9 W cs _ a _ _ y z LA ln lc hf)
theorem knows12 : Knows Own12 Rp12 64 38 36 :=
  ⟨fun l x q _ hmv ho hr => good12 l x q hmv ho hr, fun l x q _ hmv ho hr W cs a y z LA ln lc _ hf => res12 l x q hmv ho hr W cs a y z LA ln lc hf⟩
set_option maxHeartbeats 1000000 in
set_option maxRecDepth 100000 in
theorem start12_7 (w : World) (A : Option Addr) (n c : Nat) (l : List Int) (B : Option Addr) (m d : Nat) (t : Int) (h : Cf w A n l) (ch th : Nat) (hth : th ≤ 8) (ix kd v : Int) (p : Int) (hp : tlN l n + th * 11 = p) :
    Calls Try.prog 63 #[.agg #[.slice A n c, .slice B m d, .int .i64 t], .agg (Mc.cells A n c B m d t ⟨7, 1, ch, th, ix, kd, v, 0, 0, 0, 0⟩)] w fun e w' => ∃ cs, e = .returned (.agg cs) ∧ Fr w' cs 0 1 [] (clL p) ∧ Below w.heap.size w w' := by
  have HS := hide (fun o1 o2 o3 => claimReserve_any (((w.alloc o1).alloc o2).alloc o3) A n c l B m d t (((h.alloc o1).alloc o2).alloc o3) th hth p hp)
  clear h hp
  rw [Mc.cells]
  go_enter Try.func63, Try.ntmps63
  go_wp2_with fail
  refine (HS.out _ _ _).mono ?_
  rintro e w2 ⟨cs, rfl, hf, hb⟩
  obtain ⟨k2, kb⟩ := at_third hb
  obtain ⟨FA, fn, fc, FB, fm, fd, rfl, -⟩ := id hf
  have HF := hide hf
  have KB := hide kb
  have K2 := hide k2
  have HT := hide (k2.there (n := 5) rfl)
  clear hb k2 kb hf
  go_wp2_with ((with_reducible show wpList _ _ _ _ _ _); refine wpList_store_res (by rfl) 55 _ _ (by rfl) (w.heap.size + 1 + 1) #[.int .i64 0, .int .i64 1, .slice FA fn fc, .slice FB fm fd, .slice none 0 0] (by rfl) (by rfl) HT.out Try.fr_inf (fr_one _ _ _ _ _ _ _ _ _ _ _) ?_; intro wz HZ)
  obtain ⟨fs, hfs⟩ := Try.fr_und
  exact ret_stored HZ Try.results63 rfl HT.out hfs rfl Try.fr_inf rfl ⟨_, rfl, Fr.stored HZ HF.out K2.out, below_stored HZ KB.out (by omega)⟩
set_option maxHeartbeats 1000000 in
set_option maxRecDepth 100000 in
theorem start12_8 (w : World) (A : Option Addr) (n c : Nat) (l : List Int) (B : Option Addr) (m d : Nat) (t : Int) (h : Cf w A n l) (ch th : Nat) (hth : th ≤ 8) (ix kd v : Int) (p : Int) (hp : tlN l n + th * 11 = p) :
    Calls Try.prog 63 #[.agg #[.slice A n c, .slice B m d, .int .i64 t], .agg (Mc.cells A n c B m d t ⟨8, 1, ch, th, ix, kd, v, 0, 0, 0, 0⟩)] w fun e w' => ∃ cs, e = .returned (.agg cs) ∧ Fr w' cs 0 2 [] (clL p) ∧ Below w.heap.size w w' := by
  have HS := hide (fun o1 o2 o3 => claimUndo_any (((w.alloc o1).alloc o2).alloc o3) A n c l B m d t (((h.alloc o1).alloc o2).alloc o3) th hth p hp)
  clear h hp
  rw [Mc.cells]
  go_enter Try.func63, Try.ntmps63
  go_wp2_with fail
  refine (HS.out _ _ _).mono ?_
  rintro e w2 ⟨cs, rfl, hf, hb⟩
  obtain ⟨k2, kb⟩ := at_third hb
  obtain ⟨FA, fn, fc, FB, fm, fd, rfl, -⟩ := id hf
  have HF := hide hf
  have KB := hide kb
  have K2 := hide k2
  have HT := hide (k2.there (n := 5) rfl)
  clear hb k2 kb hf
  go_wp2_with ((with_reducible show wpList _ _ _ _ _ _); refine wpList_store_res (by rfl) 55 _ _ (by rfl) (w.heap.size + 1 + 1) #[.int .i64 0, .int .i64 2, .slice FA fn fc, .slice FB fm fd, .slice none 0 0] (by rfl) (by rfl) HT.out Try.fr_inf (fr_one _ _ _ _ _ _ _ _ _ _ _) ?_; intro wz HZ)
  obtain ⟨fs, hfs⟩ := Try.fr_und
  exact ret_stored HZ Try.results63 rfl HT.out hfs rfl Try.fr_inf rfl ⟨_, rfl, Fr.stored HZ HF.out K2.out, below_stored HZ KB.out (by omega)⟩
set_option maxHeartbeats 1000000 in
set_option maxRecDepth 100000 in
theorem start12_10 (w : World) (A : Option Addr) (n c : Nat) (l : List Int) (B : Option Addr) (m d : Nat) (t : Int) (h : Cf w A n l) (ch th : Nat) (hth : th ≤ 8) (ix kd v : Int) (p : Int) (hp : tlN l n + th * 11 = p) :
    Calls Try.prog 63 #[.agg #[.slice A n c, .slice B m d, .int .i64 t], .agg (Mc.cells A n c B m d t ⟨10, 1, ch, th, ix, kd, v, 0, 0, 0, 0⟩)] w fun e w' => ∃ cs, e = .returned (.agg cs) ∧ Fr w' cs 0 3 [] (clL p) ∧ Below w.heap.size w w' := by
  have HS := hide (fun o1 o2 o3 => claimExpire_any (((w.alloc o1).alloc o2).alloc o3) A n c l B m d t (((h.alloc o1).alloc o2).alloc o3) th hth p hp)
  clear h hp
  rw [Mc.cells]
  go_enter Try.func63, Try.ntmps63
  go_wp2_with fail
  refine (HS.out _ _ _).mono ?_
  rintro e w2 ⟨cs, rfl, hf, hb⟩
  obtain ⟨k2, kb⟩ := at_third hb
  obtain ⟨FA, fn, fc, FB, fm, fd, rfl, -⟩ := id hf
  have HF := hide hf
  have KB := hide kb
  have K2 := hide k2
  have HT := hide (k2.there (n := 5) rfl)
  clear hb k2 kb hf
  go_wp2_with ((with_reducible show wpList _ _ _ _ _ _); refine wpList_store_res (by rfl) 55 _ _ (by rfl) (w.heap.size + 1 + 1) #[.int .i64 0, .int .i64 3, .slice FA fn fc, .slice FB fm fd, .slice none 0 0] (by rfl) (by rfl) HT.out Try.fr_inf (fr_one _ _ _ _ _ _ _ _ _ _ _) ?_; intro wz HZ)
  obtain ⟨fs, hfs⟩ := Try.fr_und
  exact ret_stored HZ Try.results63 rfl HT.out hfs rfl Try.fr_inf rfl ⟨_, rfl, Fr.stored HZ HF.out K2.out, below_stored HZ KB.out (by omega)⟩
set_option maxHeartbeats 1000000 in
set_option maxRecDepth 100000 in
theorem start12_11 (w : World) (A : Option Addr) (n c : Nat) (l : List Int) (B : Option Addr) (m d : Nat) (t : Int) (h : Cf w A n l) (ch th : Nat) (hth : th ≤ 8) (ix kd v : Int) (p : Int) (hp : tlN l n + th * 11 = p) :
    Calls Try.prog 63 #[.agg #[.slice A n c, .slice B m d, .int .i64 t], .agg (Mc.cells A n c B m d t ⟨11, 1, ch, th, ix, kd, v, 0, 0, 0, 0⟩)] w fun e w' => ∃ cs, e = .returned (.agg cs) ∧ Fr w' cs 0 4 [] (clL p) ∧ Below w.heap.size w w' := by
  have HS := hide (fun o1 o2 o3 => claimRest_any (((w.alloc o1).alloc o2).alloc o3) A n c l B m d t (((h.alloc o1).alloc o2).alloc o3) th hth p hp)
  clear h hp
  rw [Mc.cells]
  go_enter Try.func63, Try.ntmps63
  go_wp2_with fail
  refine (HS.out _ _ _).mono ?_
  rintro e w2 ⟨cs, rfl, hf, hb⟩
  obtain ⟨k2, kb⟩ := at_third hb
  obtain ⟨FA, fn, fc, FB, fm, fd, rfl, -⟩ := id hf
  have HF := hide hf
  have KB := hide kb
  have K2 := hide k2
  have HT := hide (k2.there (n := 5) rfl)
  clear hb k2 kb hf
  go_wp2_with ((with_reducible show wpList _ _ _ _ _ _); refine wpList_store_res (by rfl) 55 _ _ (by rfl) (w.heap.size + 1 + 1) #[.int .i64 0, .int .i64 4, .slice FA fn fc, .slice FB fm fd, .slice none 0 0] (by rfl) (by rfl) HT.out Try.fr_inf (fr_one _ _ _ _ _ _ _ _ _ _ _) ?_; intro wz HZ)
  obtain ⟨fs, hfs⟩ := Try.fr_und
  exact ret_stored HZ Try.results63 rfl HT.out hfs rfl Try.fr_inf rfl ⟨_, rfl, Fr.stored HZ HF.out K2.out, below_stored HZ KB.out (by omega)⟩
set_option maxHeartbeats 1000000 in
set_option maxRecDepth 100000 in
theorem start12_9 (w : World) (A : Option Addr) (n c : Nat) (l : List Int) (B : Option Addr) (m d : Nat) (t : Int) (h : Cf w A n l) (ch th : Nat) (hth : th ≤ 8) (ix kd v : Int) (hi : 0 ≤ ix ∧ ix ≤ 7) (hk : 0 ≤ kd ∧ kd ≤ 7) (p : Int) (hp : tlN l n + th * 11 = p) :
    Calls Try.prog 63 #[.agg #[.slice A n c, .slice B m d, .int .i64 t], .agg (Mc.cells A n c B m d t ⟨9, 1, ch, th, ix, kd, v, 0, 0, 0, 0⟩)] w fun e w' => ∃ cs, e = .returned (.agg cs) ∧ Fr w' cs 0 5 [ix, kd, v] (clL p) ∧ Below w.heap.size w w' := by
  have HS := hide (fun o1 o2 o3 => claimFire_any (((w.alloc o1).alloc o2).alloc o3) A n c l B m d t (((h.alloc o1).alloc o2).alloc o3) th hth p hp ix kd v hi hk)
  clear h hp
  rw [Mc.cells]
  go_enter Try.func63, Try.ntmps63
  go_wp2_with fail
  refine (HS.out _ _ _).mono ?_
  rintro e w2 ⟨cs, rfl, hf, hb⟩
  obtain ⟨k2, kb⟩ := at_third hb
  obtain ⟨FA, fn, fc, FB, fm, fd, rfl, -⟩ := id hf
  have HF := hide hf
  have KB := hide kb
  have K2 := hide k2
  have HT := hide (k2.there (n := 5) rfl)
  clear hb k2 kb hf
  go_wp2_with ((with_reducible show wpList _ _ _ _ _ _); refine wpList_store_res (by rfl) 55 _ _ (by rfl) (w.heap.size + 1 + 1) #[.int .i64 0, .int .i64 5, .slice FA fn fc, .slice FB fm fd, .slice none 0 0] (by rfl) (by rfl) HT.out Try.fr_inf (fr_one _ _ _ _ _ _ _ _ _ _ _) ?_; intro wz HZ)
  obtain ⟨fs, hfs⟩ := Try.fr_und
  exact ret_stored HZ Try.results63 rfl HT.out hfs rfl Try.fr_inf rfl ⟨_, rfl, Fr.stored HZ HF.out K2.out, below_stored HZ KB.out (by omega)⟩
theorem start12_any (w : World) (A : Option Addr) (n c : Nat) (l : List Int) (B : Option Addr) (m d : Nat) (t : Int) (h : Cf w A n l) (what ch th : Nat) (hw : 7 ≤ what ∧ what ≤ 11) (hth : th ≤ 8) (ix kd v : Int) (hi : 0 ≤ ix ∧ ix ≤ 7) (hk : 0 ≤ kd ∧ kd ≤ 7) :
    Calls Try.prog 63 #[.agg #[.slice A n c, .slice B m d, .int .i64 t], .agg (Mc.cells A n c B m d t ⟨what, 1, ch, th, ix, kd, v, 0, 0, 0, 0⟩)] w fun e w' => ∃ cs q', e = .returned (.agg cs) ∧ FrA w' cs q' ∧ Rp12 l ⟨what, 1, ch, th, ix, kd, v, 0, 0, 0, 0⟩ q' ∧ Below w.heap.size w w' := by
  have hcl : tlN l n + (th : Int) * 11 = clN l th := by rw [clN, h.len]
  have hc : what = 7 ∨ what = 8 ∨ what = 10 ∨ what = 11 ∨ what = 9 := by omega
  rcases hc with rfl | rfl | rfl | rfl | rfl
  · refine (start12_7 w A n c l B m d t h ch th hth ix kd v _ hcl).mono ?_
    rintro e w' ⟨cs, rfl, hf, hb⟩
    exact ⟨cs, ⟨0, _, _, _⟩, rfl, hf, Or.inr ⟨(by decide : (1 : Nat) ≠ 0), rfl, rfl, rfl⟩, hb⟩
  · refine (start12_8 w A n c l B m d t h ch th hth ix kd v _ hcl).mono ?_
    rintro e w' ⟨cs, rfl, hf, hb⟩
    exact ⟨cs, ⟨0, _, _, _⟩, rfl, hf, Or.inr ⟨(by decide : (1 : Nat) ≠ 0), rfl, rfl, rfl⟩, hb⟩
  · refine (start12_10 w A n c l B m d t h ch th hth ix kd v _ hcl).mono ?_
    rintro e w' ⟨cs, rfl, hf, hb⟩
    exact ⟨cs, ⟨0, _, _, _⟩, rfl, hf, Or.inr ⟨(by decide : (1 : Nat) ≠ 0), rfl, rfl, rfl⟩, hb⟩
  · refine (start12_11 w A n c l B m d t h ch th hth ix kd v _ hcl).mono ?_
    rintro e w' ⟨cs, rfl, hf, hb⟩
    exact ⟨cs, ⟨0, _, _, _⟩, rfl, hf, Or.inr ⟨(by decide : (1 : Nat) ≠ 0), rfl, rfl, rfl⟩, hb⟩
  · refine (start12_9 w A n c l B m d t h ch th hth ix kd v hi hk _ hcl).mono ?_
    rintro e w' ⟨cs, rfl, hf, hb⟩
    exact ⟨cs, ⟨0, _, _, _⟩, rfl, hf, Or.inr ⟨(by decide : (1 : Nat) ≠ 0), rfl, rfl, rfl⟩, hb⟩
theorem add12_wi (w : World) (base G : Nat) (s : St) (what ch th : Nat) (v : Int) (H : WI Own12 Rp12 w base G 70 s) (hw : 7 ≤ what ∧ what ≤ 11) (hch : ch < s.l.length) (hth : th ≤ 8) (hv : u64 v) (hms : s.ms.length ≤ 1000) :
    Calls Try.prog 31 #[.pointer (some ⟨G, 0, none⟩), .int .i64 what, .int .i64 ch, .int .i64 th, .int .u64 v] w fun e w' => e = .returned (.tuple #[]) ∧ WI Own12 Rp12 w' base G 70 { s with ms := s.ms ++ [mc0 what ch th v] } ∧ Below base w w' := by
  obtain ⟨qs, ⟨h, H1⟩, I⟩ := H
  have hl : s.l.length = h.n := H1.cf.len
  have hfl : h.fs.length = qs.length := H1.fr.1
  have hln : qs.length = s.ms.length := I.ln
  refine (add12_own w base G h _ what ch th v (v % 4) (v % 8) (mc0 what ch th v) (fun q' => Rp12 s.l (mc0 what ch th v) q') H1 rfl rfl rfl hv.1 (by show 7 ≤ what; omega) (by show s.ms.length ≤ 1000000; omega) (by omega) (fun W hW => start12_any W h.A h.n h.c s.l h.B h.m h.d s.th hW what ch th hw hth _ _ _ (by omega) (by omega))).mono ?_
  rintro e w' ⟨rfl, q', hR, hW, hB⟩
  exact ⟨rfl, ⟨qs ++ [q'], hW, I.add (mv0 (by omega) (by omega) hch hth hv) (fun _ => hR)⟩, hB⟩
end Go.Proofs.Ytadaoobdnnleaaa
