/- Several texts in one. -/
import Derived.Test.YtepngbdjobckbaaGreatY1
import Derived.Test.YtepngbdjobckbaaGreatQ0
section
namespace Go.Proofs.YtepngbdjobckbaaGreat
open Go.RowKit
set_option linter.unusedVariables false

/-- How often the tail and the head have gone on, and whether it is closed. -/
structure Rq where
  a : Nat
  b : Nat
  z : Bool
/-- The words of a ring of capacity c that began with s0. -/
structure Okw (c s0 : Int) (u : List Int) (q : Rq) : Prop where
  wl : 5 + 2 * sz c ≤ u.length
  w0 : u.getD 0 0 = pk (nx s0 q.a) q.z
  w1 : u.getD 1 0 = nx s0 q.b
  ba : q.b ≤ q.a
  ac : (q.a : Int) ≤ q.b + c
structure Lew (q q' : Rq) : Prop where
  a : q.a ≤ q'.a
  a1 : q'.a ≤ q.a + 1
  b : q.b ≤ q'.b
  z : q.z = true → q'.z = true ∧ q'.a = q.a
/-- Entry j of the trace is of machine i. -/
def Of (tr : List It) (j i : Nat) : Prop := ∃ y, tr[j]? = some y ∧ y.th = (i : Int)
/-- What a machine of the ring knows; n accesses were made. -/
structure RM (c s0 : Int) (f : Nat → Rq) (n : Nat) (tr : List It) (i : Nat) (x : Mc) : Prop where
  ch : x.ch = 0
  hat : x.at_ ≤ atMax x.what
  wh : x.what = 3 ∨ x.what = 4 ∨ x.what = 5 ∨ x.what = 6
  pu : x.what = 3 → 2 ≤ x.at_ → x.at_ ≤ 5 → ∃ a' : Nat, a' ≤ (f n).a ∧ x.t = pk (nx s0 a') false ∧ (4 ≤ x.at_ → ∃ b' : Nat, b' ≤ (f n).b ∧ (a' : Int) < b' + c)
  po : x.what = 4 → 2 ≤ x.at_ → x.at_ ≤ 5 → ∃ b' : Nat, b' ≤ (f n).b ∧ x.h = nx s0 b' ∧ (4 ≤ x.at_ → b' < (f n).a)
  sh : x.what = 5 → x.at_ = 2 → ∃ a' : Nat, a' ≤ (f n).a ∧ x.t = pk (nx s0 a') false
  co : x.what = 6 → 2 ≤ x.at_ → ∃ (a' : Nat) (z' : Bool), a' ≤ (f n).a ∧ x.t = pk (nx s0 a') z' ∧ (x.at_ = 3 → ∃ j, j < n ∧ Of tr j i ∧ x.h = nx s0 (f j).b ∧ a' ≤ (f j).a)
  ce : x.what = 6 → x.at_ = 0 → x.ok = 9 ∧ ∃ j, j < n ∧ Of tr j i ∧ x.ov = (f j).a - (f j).b
theorem Of.app {tr : List It} {j i : Nat} (h : Of tr j i) (it : It) : Of (tr ++ [it]) j i := by
  obtain ⟨y, hy, h⟩ := h
  exact ⟨y, by rw [List.getElem?_append_left (List.getElem?_eq_some_iff.1 hy).1]; exact hy, h⟩
theorem Of.last (tr : List It) {i : Nat} {it : It} (h : it.th = (i : Int)) : Of (tr ++ [it]) tr.length i := ⟨it, by simp, h⟩
theorem RM.mono {c s0 : Int} {f f' : Nat → Rq} {n : Nat} {tr : List It} {i : Nat} {x : Mc} (H : RM c s0 f n tr i x) (hf : ∀ j, j ≤ n → f' j = f j) (hl : Lew (f n) (f' (n + 1))) (it : It) : RM c s0 f' (n + 1) (tr ++ [it]) i x := by
  have ha := hl.a
  have hb := hl.b
  refine ⟨H.ch, H.hat, H.wh, fun hw h2 h5 => ?_, fun hw h2 h5 => ?_, fun hw h2 => ?_, fun hw h2 => ?_, fun hw h0 => ?_⟩
  · obtain ⟨a', h1, h3, h4⟩ := H.pu hw h2 h5
    refine ⟨a', by omega, h3, fun h => ?_⟩
    obtain ⟨b', h6, h7⟩ := h4 h
    exact ⟨b', by omega, h7⟩
  · obtain ⟨b', h1, h3, h4⟩ := H.po hw h2 h5
    exact ⟨b', by omega, h3, fun h => by have := h4 h; omega⟩
  · obtain ⟨a', h1, h3⟩ := H.sh hw h2
    exact ⟨a', by omega, h3⟩
  · obtain ⟨a', z', h1, h3, h4⟩ := H.co hw h2
    refine ⟨a', z', by omega, h3, fun h => ?_⟩
    obtain ⟨j, h5, h6, h7, h8⟩ := h4 h
    exact ⟨j, by omega, h6.app it, by rw [hf j (by omega)]; exact h7, by rw [hf j (by omega)]; exact h8⟩
  · obtain ⟨h1, j, h5, h6, h7⟩ := H.ce hw h0
    exact ⟨h1, j, by omega, h6.app it, by rw [hf j (by omega)]; exact h7⟩
/-- Whether the trace closes once, and nothing is pushed behind it. -/
def ckS (W : List Nat) (o : Option Bool) (x : It) : Option Bool := match o with
  | none => none
  | some cl => if x.acc.k = 3 ∧ x.y = true ∧ x.acc.a = 0 then (if cl = true then none else some (W.getD x.th.toNat 0 == 5)) else some cl
def ckT (W : List Nat) (tr : List It) : Option Bool := tr.foldl (ckS W) (some false)
/-- What holds of a ring at all times. -/
structure RI (c s0 : Int) (f : Nat → Rq) (s : St) : Prop where
  c1 : 1 ≤ c ∧ c ≤ 16
  hc : s.l.getD 0 0 = c
  s1 : 0 ≤ s0 ∧ s0 < 9223372036854775808
  pl : s.pa.length = s.tr.length
  f0 : (f 0).a = 0
  le : ∀ j, j < s.tr.length → Lew (f j) (f (j + 1))
  pa : ∀ j u, s.pa[j]? = some u → Okw c s0 u (f j)
  ok : Okw c s0 s.ws (f s.tr.length)
  ms : ∀ (i : Nat) x, s.ms[i]? = some x → RM c s0 f s.tr.length s.tr i x
  sd : (f s.tr.length).z = false → ∀ (i : Nat) x, s.ms[i]? = some x → x.what = 5 → x.at_ ≠ 0
  se : (f s.tr.length).z = true → ∃ (k : Nat) (x : Mc), s.ms[k]? = some x ∧ x.what = 5 ∧ x.at_ = 0 ∧ x.ok = 1 ∧ ∀ (i : Nat) y, s.ms[i]? = some y → y.what = 5 → y.at_ = 0 → i ≠ k → y.ok = 4
  ck : ckT (s.ms.map Mc.what) s.tr = some (f s.tr.length).z
theorem RI.a_le {c s0 : Int} {f : Nat → Rq} {s : St} (H : RI c s0 f s) : ∀ j, j ≤ s.tr.length → (f j).a ≤ j := by
  intro j
  induction j with
  | zero => intro _; rw [H.f0]; exact Nat.le_refl _
  | succ j ih =>
    intro h
    have := (H.le j (by omega)).a1
    have := ih (by omega)
    omega
theorem RI.mono_a {c s0 : Int} {f : Nat → Rq} {s : St} (H : RI c s0 f s) {j : Nat} : ∀ k, j ≤ k → k ≤ s.tr.length → (f j).a ≤ (f k).a := by
  intro k
  induction k with
  | zero => intro h _; rw [show j = 0 by omega]; exact Nat.le_refl _
  | succ k ih =>
    intro h h2
    by_cases e : j = k + 1
    · rw [e]; exact Nat.le_refl _
    · exact Nat.le_trans (ih (by omega) (by omega)) (H.le k (by omega)).a
theorem RI.next {c s0 : Int} {f : Nat → Rq} {s : St} (H : RI c s0 f s) {i : Nat} {x : Mc} (hx : s.ms[i]? = some x) (h0 : x.at_ ≠ 0) (q' : Rq) (hq : Lew (f s.tr.length) q') (ws' : List Int) (hok : Okw c s0 ws' q') (x' : Mc) (it : It) (hth : it.th = (i : Int))
    (hRM : ∀ f' : Nat → Rq, (∀ j, j ≤ s.tr.length → f' j = f j) → f' (s.tr.length + 1) = q' → RM c s0 f' (s.tr.length + 1) (s.tr ++ [it]) i x') (hw : x'.what = x.what)
    (hck : (it.acc.k = 3 ∧ it.y = true ∧ it.acc.a = 0 ∧ (f s.tr.length).z = false ∧ q'.z = (x.what == 5)) ∨ (¬ (it.acc.k = 3 ∧ it.y = true ∧ it.acc.a = 0) ∧ q'.z = (f s.tr.length).z))
    (hsh : x.what = 5 → x'.at_ = 0 → ((f s.tr.length).z = false ∧ q'.z = true ∧ x'.ok = 1) ∨ ((f s.tr.length).z = true ∧ x'.ok = 4))
    (hz : q'.z ≠ (f s.tr.length).z → x.what = 5 ∧ x'.at_ = 0 ∧ x'.ok = 1) :
    ∃ f', RI c s0 f' { s with ws := ws', ms := s.ms.set i x', tr := s.tr ++ [it], pa := s.pa ++ [s.ws] } := by
  obtain ⟨n, hn⟩ : ∃ n, s.tr.length = n := ⟨_, rfl⟩
  have hi := (List.getElem?_eq_some_iff.1 hx).1
  have hpl := H.pl
  have fe : ∀ j, j ≤ n → (fun j => if j ≤ n then f j else q') j = f j := fun j hj => by simp [hj]
  have fn : (fun j => if j ≤ n then f j else q') (n + 1) = q' := if_neg (by omega)
  refine ⟨fun j => if j ≤ n then f j else q', ?_⟩
  generalize (fun j => if j ≤ n then f j else q') = f' at fe fn
  have hmap : (s.ms.set i x').map Mc.what = s.ms.map Mc.what := by
    apply List.ext_getElem?
    intro j
    rw [List.getElem?_map, List.getElem?_map]
    by_cases e : i = j
    · subst e
      rw [List.getElem?_set_self hi, hx]
      simp [hw]
    · rw [List.getElem?_set_ne e]
  have hlen : (s.tr ++ [it]).length = n + 1 := by simp [hn]
  rw [hn] at hq hRM hck hsh hz
  have hRM' := hRM f' fe fn
  refine ⟨H.c1, H.hc, H.s1, ?_, by rw [fe 0 (by omega)]; exact H.f0, fun j hj => ?_, fun j u hu => ?_, ?_, fun j y hy => ?_, fun hzz j y hy h5 => ?_, fun hzz => ?_, ?_⟩
  · simp [hpl]
  · have hj' : j < n + 1 := by rw [← hlen]; exact hj
    by_cases e : j = n
    · subst e
      rw [fe j (by omega), fn]
      exact hq
    · rw [fe j (by omega), fe (j + 1) (by omega)]
      exact H.le j (by omega)
  · rcases Nat.lt_or_ge j s.pa.length with h | h
    · have hu' : (s.pa ++ [s.ws])[j]? = some u := hu
      rw [List.getElem?_append_left h] at hu'
      rw [fe j (by omega)]
      exact H.pa j u hu'
    · have hu' : (s.pa ++ [s.ws])[j]? = some u := hu
      rw [List.getElem?_append_right h] at hu'
      have e : j - s.pa.length = 0 := by
        have := (List.getElem?_eq_some_iff.1 hu').1
        simp at this
        omega
      rw [e] at hu'
      cases hu'
      have ej : j = n := by omega
      subst ej
      rw [fe j (by omega)]
      have := H.ok
      rwa [hn] at this
  · show Okw c s0 ws' (f' (s.tr ++ [it]).length)
    rw [hlen, fn]
    exact hok
  · show RM c s0 f' (s.tr ++ [it]).length (s.tr ++ [it]) j y
    rw [hlen]
    rcases set_get (show (s.ms.set i x')[j]? = some y from hy) with ⟨rfl, rfl⟩ | ⟨-, h⟩
    · exact hRM'
    · have hm := H.ms j y h
      rw [hn] at hm
      exact hm.mono fe (by rw [fn]; exact hq) it
  · have hzz' : q'.z = false := by
      have : (f' (s.tr ++ [it]).length).z = false := hzz
      rwa [hlen, fn] at this
    have hfz : (f n).z = false := by
      cases hb : (f n).z with
      | false => rfl
      | true =>
        have := (hq.z hb).1
        rw [hzz'] at this
        cases this
    rcases set_get (show (s.ms.set i x')[j]? = some y from hy) with ⟨-, rfl⟩ | ⟨-, h⟩
    · intro h00
      rcases hsh (by rw [← hw]; exact h5) h00 with ⟨-, h', -⟩ | ⟨h', -⟩
      · rw [hzz'] at h'; cases h'
      · rw [hfz] at h'; cases h'
    · have := H.sd
      rw [hn] at this
      exact this hfz j y h h5
  · have hzz' : q'.z = true := by
      have : (f' (s.tr ++ [it]).length).z = true := hzz
      rwa [hlen, fn] at this
    cases hb : (f n).z with
    | true =>
      have hse := H.se
      rw [hn] at hse
      obtain ⟨k, xk, hk, h5, ha, hok1, hall⟩ := hse hb
      have hki : i ≠ k := fun e => by
        subst e
        rw [hx] at hk
        cases hk
        exact h0 ha
      refine ⟨k, xk, by show (s.ms.set i x')[k]? = some xk; rw [List.getElem?_set_ne hki]; exact hk, h5, ha, hok1, fun j y hy hy5 hya hjk => ?_⟩
      rcases set_get (show (s.ms.set i x')[j]? = some y from hy) with ⟨-, rfl⟩ | ⟨-, h⟩
      · rcases hsh (by rw [← hw]; exact hy5) hya with ⟨h', -⟩ | ⟨-, h'⟩
        · rw [hb] at h'; cases h'
        · exact h'
      · exact hall j y h hy5 hya hjk
    | false =>
      obtain ⟨h5, ha, hok1⟩ := hz (by rw [hzz', hb]; simp)
      refine ⟨i, x', List.getElem?_set_self hi, by rw [hw]; exact h5, ha, hok1, fun j y hy hy5 hya hjk => ?_⟩
      rcases set_get (show (s.ms.set i x')[j]? = some y from hy) with ⟨e, -⟩ | ⟨-, h⟩
      · exact absurd e.symm hjk
      · have hsd := H.sd
        rw [hn] at hsd
        exact absurd hya (hsd hb j y h hy5)
  · show ckT ((s.ms.set i x').map Mc.what) (s.tr ++ [it]) = some (f' (s.tr ++ [it]).length).z
    rw [hmap, hlen, fn, ckT, List.foldl_append]
    have hcc := H.ck
    rw [ckT, hn] at hcc
    rw [hcc]
    show (if it.acc.k = 3 ∧ it.y = true ∧ it.acc.a = 0 then (if (f n).z = true then none else some ((s.ms.map Mc.what).getD it.th.toNat 0 == 5)) else some (f n).z) = some q'.z
    rcases hck with ⟨e1, e2, e3, e4, e5⟩ | ⟨e1, e2⟩
    · rw [if_pos ⟨e1, e2, e3⟩, e4, if_neg (by simp), e5, hth]
      have : (s.ms.map Mc.what).getD (i : Int).toNat 0 = x.what := by simp [List.getD, hx]
      rw [this]
    · rw [if_neg e1, e2]
theorem nx_eq {s0 : Int} {a b : Nat} (h : nx s0 a = nx s0 b) (ha : a ≤ 1000000) (hb : b ≤ 1000000) : a = b := by
  unfold nx at h
  omega
theorem pk_eq {s0 : Int} {a b : Nat} {y z : Bool} (h : pk (nx s0 a) y = pk (nx s0 b) z) (ha : a ≤ 1000000) (hb : b ≤ 1000000) : a = b ∧ y = z := by
  unfold pk nx at h
  cases y <;> cases z <;> simp at h ⊢ <;> omega
theorem pk_half {s0 : Int} (a : Nat) (z : Bool) : pk (nx s0 a) z / 2 = nx s0 a := by
  unfold pk nx
  cases z <;> simp <;> omega
theorem pk_cl {s0 : Int} (a : Nat) (z : Bool) : cl (pk (nx s0 a) z) = z := by
  unfold cl pk nx
  cases z <;> simp <;> omega
theorem nx_nx (s0 : Int) (a k : Nat) : nx (nx s0 a) k = nx s0 (a + k : Nat) := by
  unfold nx
  omega
theorem rest_nx {s0 : Int} {a b : Nat} (ha : a ≤ 1000000) (hb : b ≤ 1000000) : (b ≤ a ∧ rest (nx s0 a) (nx s0 b) = (a : Int) - b) ∨ (a < b ∧ 1000000000 < rest (nx s0 a) (nx s0 b)) := by
  unfold rest nx
  omega
theorem Lew.same (q : Rq) : Lew q q := ⟨Nat.le_refl _, by omega, Nat.le_refl _, fun h => ⟨h, rfl⟩⟩
theorem Okw.set {c s0 : Int} {u : List Int} {q : Rq} (H : Okw c s0 u q) {p : Nat} (hp : 5 ≤ p) (v : Int) : Okw c s0 (u.set p v) q :=
  ⟨by rw [List.length_set]; exact H.wl, by rw [getD_set_other (by omega)]; exact H.w0, by rw [getD_set_other (by omega)]; exact H.w1, H.ba, H.ac⟩
theorem slN_nat {l : List Int} {c : Int} (hc : l.getD 0 0 = c) (c1 : 1 ≤ c ∧ c ≤ 16) (v : Int) {n : Nat} (hn : 5 + 2 * sz c ≤ (n : Int)) : ∃ p : Nat, slN l 0 v = (p : Int) ∧ 5 ≤ p ∧ p + 1 < n := by
  have h := sz_bd c (by omega) c1.2
  have h2 := sl_in v (sz c) h.1 h.2
  refine ⟨(slN l 0 v).toNat, ?_, ?_, ?_⟩ <;> (unfold slN; rw [show tlN l 0 = 0 from rfl, hc]; omega)
theorem RM.mk3 {c s0 : Int} {f : Nat → Rq} {n : Nat} {tr : List It} {i : Nat} {x : Mc} (hw : x.what = 3) (hc : x.ch = 0) (ha : x.at_ ≤ 7)
    (pu : 2 ≤ x.at_ → x.at_ ≤ 5 → ∃ a' : Nat, a' ≤ (f n).a ∧ x.t = pk (nx s0 a') false ∧ (4 ≤ x.at_ → ∃ b' : Nat, b' ≤ (f n).b ∧ (a' : Int) < b' + c)) : RM c s0 f n tr i x :=
  ⟨hc, by rw [hw]; exact ha, Or.inl hw, fun _ => pu, fun h => by rw [hw] at h; omega, fun h => by rw [hw] at h; omega, fun h => by rw [hw] at h; omega, fun h => by rw [hw] at h; omega⟩
theorem RM.mk4 {c s0 : Int} {f : Nat → Rq} {n : Nat} {tr : List It} {i : Nat} {x : Mc} (hw : x.what = 4) (hc : x.ch = 0) (ha : x.at_ ≤ 7)
    (po : 2 ≤ x.at_ → x.at_ ≤ 5 → ∃ b' : Nat, b' ≤ (f n).b ∧ x.h = nx s0 b' ∧ (4 ≤ x.at_ → b' < (f n).a)) : RM c s0 f n tr i x :=
  ⟨hc, by rw [hw]; exact ha, Or.inr (Or.inl hw), fun h => by rw [hw] at h; omega, fun _ => po, fun h => by rw [hw] at h; omega, fun h => by rw [hw] at h; omega, fun h => by rw [hw] at h; omega⟩
theorem RM.mk5 {c s0 : Int} {f : Nat → Rq} {n : Nat} {tr : List It} {i : Nat} {x : Mc} (hw : x.what = 5) (hc : x.ch = 0) (ha : x.at_ ≤ 2)
    (sh : x.at_ = 2 → ∃ a' : Nat, a' ≤ (f n).a ∧ x.t = pk (nx s0 a') false) : RM c s0 f n tr i x :=
  ⟨hc, by rw [hw]; exact ha, Or.inr (Or.inr (Or.inl hw)), fun h => by rw [hw] at h; omega, fun h => by rw [hw] at h; omega, fun _ => sh, fun h => by rw [hw] at h; omega, fun h => by rw [hw] at h; omega⟩
theorem RM.mk6 {c s0 : Int} {f : Nat → Rq} {n : Nat} {tr : List It} {i : Nat} {x : Mc} (hw : x.what = 6) (hc : x.ch = 0) (ha : x.at_ ≤ 3)
    (co : 2 ≤ x.at_ → ∃ (a' : Nat) (z' : Bool), a' ≤ (f n).a ∧ x.t = pk (nx s0 a') z' ∧ (x.at_ = 3 → ∃ j, j < n ∧ Of tr j i ∧ x.h = nx s0 (f j).b ∧ a' ≤ (f j).a))
    (ce : x.at_ = 0 → x.ok = 9 ∧ ∃ j, j < n ∧ Of tr j i ∧ x.ov = (f j).a - (f j).b) : RM c s0 f n tr i x :=
  ⟨hc, by rw [hw]; exact ha, Or.inr (Or.inr (Or.inr hw)), fun h => by rw [hw] at h; omega, fun h => by rw [hw] at h; omega, fun h => by rw [hw] at h; omega, fun _ => co, fun _ => ce⟩
section
variable {c s0 : Int} {f : Nat → Rq} {s : St} {i : Nat}
theorem RI.quiet (H : RI c s0 f s) {x : Mc} (hx : s.ms[i]? = some x) (h0 : x.at_ ≠ 0) {ws' : List Int} (hok : Okw c s0 ws' (f s.tr.length)) (x' : Mc) (it : It) (hth : it.th = (i : Int)) (hnc : ¬ (it.acc.k = 3 ∧ it.y = true ∧ it.acc.a = 0)) (hw : x'.what = x.what)
    (hsh : x.what = 5 → x'.at_ = 0 → (f s.tr.length).z = true ∧ x'.ok = 4)
    (hRM : ∀ f' : Nat → Rq, (∀ j, j ≤ s.tr.length → f' j = f j) → f' (s.tr.length + 1) = f s.tr.length → RM c s0 f' (s.tr.length + 1) (s.tr ++ [it]) i x') :
    ∃ f', RI c s0 f' { s with ws := ws', ms := s.ms.set i x', tr := s.tr ++ [it], pa := s.pa ++ [s.ws] } :=
  H.next hx h0 _ (Lew.same _) ws' hok x' it hth hRM hw (Or.inr ⟨hnc, rfl⟩) (fun a b => Or.inr (hsh a b)) (fun h => absurd rfl h)
theorem RI.wlen (H : RI c s0 f s) : 7 ≤ s.ws.length := by
  have h := sz_bd c (by have := H.c1; omega) H.c1.2
  have := H.ok.wl
  omega
variable {th : Nat} {ix kd v tt hh ok ov : Int}
/-! push -/
theorem RI.push1 (H : RI c s0 f s) (hx : s.ms[i]? = some ⟨3, 1, 0, th, ix, kd, v, tt, hh, ok, ov⟩) : ∃ f', RI c s0 f' (stp s i) := by
  rw [stp_ld hx (by simp) (p := 0) (k := 1) (o := 0) (n := 0) rfl (Or.inl rfl) (by have := H.wlen; omega), H.ok.w0]
  show ∃ f', RI c s0 f' { s with ms := s.ms.set i (if cl (pk (nx s0 (f s.tr.length).a) (f s.tr.length).z) = true then mend ⟨3, 1, 0, th, ix, kd, v, _, hh, ok, ov⟩ 4 0 else mto ⟨3, 1, 0, th, ix, kd, v, _, hh, ok, ov⟩ 2), tr := _, pa := _ }
  rw [pk_cl]
  cases hz : (f s.tr.length).z
  · rw [if_neg (by simp)]
    refine H.quiet hx (by simp) H.ok _ _ rfl (by simp) rfl (by simp) fun f' hf hn => RM.mk3 rfl rfl (by show 2 ≤ 7; omega) fun _ _ => ⟨(f s.tr.length).a, by rw [hn]; exact Nat.le_refl _, rfl, fun h => by simp [mto] at h⟩
  · rw [if_pos rfl]
    exact H.quiet hx (by simp) H.ok _ _ rfl (by simp) rfl (by simp) fun f' hf hn => RM.mk3 rfl rfl (by show 0 ≤ 7; omega) fun h => by simp [mend] at h
theorem RI.push2 (H : RI c s0 f s) (ht : s.tr.length ≤ 500000) (hx : s.ms[i]? = some ⟨3, 2, 0, th, ix, kd, v, tt, hh, ok, ov⟩) : ∃ f', RI c s0 f' (stp s i) := by
  obtain ⟨a', ha, htt, -⟩ := (H.ms i _ hx).pu rfl (by simp) (by simp)
  dsimp only at htt
  have hal := H.a_le _ (Nat.le_refl _)
  have hba := H.ok.ba
  have hc1 := H.c1
  rw [stp_ld hx (by simp) (p := 1) (k := 1) (o := 0) (n := 0) rfl (Or.inl rfl) (by have := H.wlen; omega), H.ok.w1]
  show ∃ f', RI c s0 f' { s with ms := s.ms.set i (if rest (tt / 2) (nx s0 (f s.tr.length).b) = s.l.getD 0 0 then mto ⟨3, 2, 0, th, ix, kd, v, tt, hh, ok, ov⟩ 3 else if s.l.getD 0 0 < rest (tt / 2) (nx s0 (f s.tr.length).b) then mto ⟨3, 2, 0, th, ix, kd, v, tt, hh, ok, ov⟩ 1 else mto ⟨3, 2, 0, th, ix, kd, v, tt, hh, ok, ov⟩ 4), tr := _, pa := _ }
  have hr := rest_nx (s0 := s0) (a := a') (b := (f s.tr.length).b) (by omega) (by omega)
  rw [htt, pk_half, H.hc]
  split
  · exact H.quiet hx (by simp) H.ok _ _ rfl (by simp) rfl (by simp) fun f' hf hn => RM.mk3 rfl rfl (by show 3 ≤ 7; omega) fun _ _ => ⟨a', by rw [hn]; exact ha, rfl, fun h => by simp [mto] at h⟩
  · split
    · exact H.quiet hx (by simp) H.ok _ _ rfl (by simp) rfl (by simp) fun f' hf hn => RM.mk3 rfl rfl (by show 1 ≤ 7; omega) fun h => by simp [mto] at h
    · exact H.quiet hx (by simp) H.ok _ _ rfl (by simp) rfl (by simp) fun f' hf hn => RM.mk3 rfl rfl (by show 4 ≤ 7; omega) fun _ _ => ⟨a', by rw [hn]; exact ha, rfl, fun _ => ⟨(f s.tr.length).b, by rw [hn]; exact Nat.le_refl _, by omega⟩⟩
theorem RI.push3 (H : RI c s0 f s) (hx : s.ms[i]? = some ⟨3, 3, 0, th, ix, kd, v, tt, hh, ok, ov⟩) : ∃ f', RI c s0 f' (stp s i) := by
  rw [stp_ld hx (by simp) (p := 0) (k := 1) (o := 0) (n := 0) rfl (Or.inl rfl) (by have := H.wlen; omega), H.ok.w0]
  show ∃ f', RI c s0 f' { s with ms := s.ms.set i (if pk (nx s0 (f s.tr.length).a) (f s.tr.length).z = tt then mend ⟨3, 3, 0, th, ix, kd, v, tt, hh, ok, ov⟩ 2 0 else if cl (pk (nx s0 (f s.tr.length).a) (f s.tr.length).z) = true then mend ⟨3, 3, 0, th, ix, kd, v, _, hh, ok, ov⟩ 4 0 else mto ⟨3, 3, 0, th, ix, kd, v, _, hh, ok, ov⟩ 2), tr := _, pa := _ }
  rw [pk_cl]
  split
  · exact H.quiet hx (by simp) H.ok _ _ rfl (by simp) rfl (by simp) fun f' hf hn => RM.mk3 rfl rfl (by show 0 ≤ 7; omega) fun h => by simp [mend] at h
  · cases hz : (f s.tr.length).z
    · rw [if_neg (by simp)]
      refine H.quiet hx (by simp) H.ok _ _ rfl (by simp) rfl (by simp) fun f' hf hn => RM.mk3 rfl rfl (by show 2 ≤ 7; omega) fun _ _ => ⟨(f s.tr.length).a, by rw [hn]; exact Nat.le_refl _, rfl, fun h => by simp [mto] at h⟩
    · rw [if_pos rfl]
      exact H.quiet hx (by simp) H.ok _ _ rfl (by simp) rfl (by simp) fun f' hf hn => RM.mk3 rfl rfl (by show 0 ≤ 7; omega) fun h => by simp [mend] at h
theorem RI.push4 (H : RI c s0 f s) (hx : s.ms[i]? = some ⟨3, 4, 0, th, ix, kd, v, tt, hh, ok, ov⟩) : ∃ f', RI c s0 f' (stp s i) := by
  obtain ⟨a', ha, htt, hb⟩ := (H.ms i _ hx).pu rfl (by simp) (by simp)
  dsimp only at htt
  obtain ⟨b', hb1, hb2⟩ := hb (by simp)
  obtain ⟨p, hp, hp5, hpn⟩ := slN_nat H.hc H.c1 (tt / 2) (n := s.ws.length) H.ok.wl
  rw [stp_ld hx (by simp) (p := p) (k := 1) (o := 0) (n := 0) (by rw [← hp]; rfl) (Or.inl rfl) (by omega)]
  show ∃ f', RI c s0 f' { s with ms := s.ms.set i (if s.ws.getD p 0 = tt / 2 then mto ⟨3, 4, 0, th, ix, kd, v, tt, hh, ok, ov⟩ 5 else mto ⟨3, 4, 0, th, ix, kd, v, tt, hh, ok, ov⟩ 1), tr := _, pa := _ }
  split
  · exact H.quiet hx (by simp) H.ok _ _ rfl (by simp) rfl (by simp) fun f' hf hn => RM.mk3 rfl rfl (by show 5 ≤ 7; omega) fun _ _ => ⟨a', by rw [hn]; exact ha, htt, fun _ => ⟨b', by rw [hn]; exact hb1, hb2⟩⟩
  · exact H.quiet hx (by simp) H.ok _ _ rfl (by simp) rfl (by simp) fun f' hf hn => RM.mk3 rfl rfl (by show 1 ≤ 7; omega) fun h => by simp [mto] at h
theorem RI.push5 (H : RI c s0 f s) (ht : s.tr.length ≤ 500000) (hx : s.ms[i]? = some ⟨3, 5, 0, th, ix, kd, v, tt, hh, ok, ov⟩) : ∃ f', RI c s0 f' (stp s i) := by
  obtain ⟨a', ha, htt, hb⟩ := (H.ms i _ hx).pu rfl (by simp) (by simp)
  dsimp only at htt
  obtain ⟨b', hb1, hb2⟩ := hb (by simp)
  have hal := H.a_le _ (Nat.le_refl _)
  have hw7 := H.wlen
  by_cases he : s.ws.getD 0 0 = tt
  · have he' := he
    rw [H.ok.w0, htt] at he'
    obtain ⟨e1, e2⟩ := pk_eq he' (by omega) (by omega)
    have en : pk (nx (tt / 2) 1) false = pk (nx s0 ((f s.tr.length).a + 1 : Nat)) false := by
      rw [htt, pk_half, e1, show (1 : Int) = ((1 : Nat) : Int) from rfl, nx_nx]
    rw [stp_yes hx (by simp) (p := 0) (o := tt) (n := pk (nx (tt / 2) 1) false) rfl (by omega) he]
    rw [en]
    show ∃ f', RI c s0 f' { s with ws := _, ms := s.ms.set i (mto ⟨3, 5, 0, th, ix, kd, v, tt, hh, ok, ov⟩ 6), tr := _, pa := _ }
    refine H.next hx (by simp) ⟨(f s.tr.length).a + 1, (f s.tr.length).b, false⟩ ⟨Nat.le_succ _, Nat.le_refl _, Nat.le_refl _, fun h => by rw [e2] at h; cases h⟩ _ ⟨?_, ?_, ?_, ?_, ?_⟩ _ _ rfl (fun f' hf hn => RM.mk3 rfl rfl (by show 6 ≤ 7; omega) fun _ h => by simp [mto] at h) rfl (Or.inl ⟨rfl, rfl, rfl, e2, rfl⟩) (by simp) (by simp [e2])
    · rw [List.length_set]; exact H.ok.wl
    · exact getD_set_self (by omega) _
    · rw [getD_set_other (by omega)]; exact H.ok.w1
    · have := H.ok.ba
      show (f s.tr.length).b ≤ (f s.tr.length).a + 1
      omega
    · show (((f s.tr.length).a + 1 : Nat) : Int) ≤ _
      show (((f s.tr.length).a + 1 : Nat) : Int) ≤ ((f s.tr.length).b : Int) + c
      omega
  · rw [stp_no hx (by simp) (p := 0) (o := tt) (n := pk (nx (tt / 2) 1) false) rfl (by omega) he]
    exact H.quiet hx (by simp) H.ok (mto ⟨3, 5, 0, th, ix, kd, v, tt, hh, ok, ov⟩ 1) _ rfl (by simp) rfl (by simp) fun f' hf hn => RM.mk3 rfl rfl (by show 1 ≤ 7; omega) fun h => by simp [mto] at h
theorem RI.push6 (H : RI c s0 f s) (hx : s.ms[i]? = some ⟨3, 6, 0, th, ix, kd, v, tt, hh, ok, ov⟩) : ∃ f', RI c s0 f' (stp s i) := by
  obtain ⟨p, hp, hp5, hpn⟩ := slN_nat H.hc H.c1 (tt / 2) (n := s.ws.length) H.ok.wl
  rw [stp_st hx (by simp) (p := p + 1) (k := 6) (o := 0) (n := v) (by rw [show ((p + 1 : Nat) : Int) = (p : Int) + 1 by omega, ← hp]; rfl) (Or.inr rfl) (by omega)]
  exact H.quiet hx (by simp) (H.ok.set (by omega) _) (mto ⟨3, 6, 0, th, ix, kd, v, tt, hh, ok, ov⟩ 7) _ rfl (by simp) rfl (by simp) fun f' hf hn => RM.mk3 rfl rfl (by show 7 ≤ 7; omega) fun _ h => by simp [mto] at h
theorem RI.push7 (H : RI c s0 f s) (hx : s.ms[i]? = some ⟨3, 7, 0, th, ix, kd, v, tt, hh, ok, ov⟩) : ∃ f', RI c s0 f' (stp s i) := by
  obtain ⟨p, hp, hp5, hpn⟩ := slN_nat H.hc H.c1 (tt / 2) (n := s.ws.length) H.ok.wl
  rw [stp_st hx (by simp) (p := p) (k := 2) (o := 0) (n := nx (tt / 2) 1) (by rw [← hp]; rfl) (Or.inl rfl) (by omega)]
  exact H.quiet hx (by simp) (H.ok.set (by omega) _) (mend ⟨3, 7, 0, th, ix, kd, v, tt, hh, ok, ov⟩ 1 0) _ rfl (by simp) rfl (by simp) fun f' hf hn => RM.mk3 rfl rfl (by show 0 ≤ 7; omega) fun h => by simp [mend] at h
/-! pop -/
theorem RI.pop1 (H : RI c s0 f s) (hx : s.ms[i]? = some ⟨4, 1, 0, th, ix, kd, v, tt, hh, ok, ov⟩) : ∃ f', RI c s0 f' (stp s i) := by
  rw [stp_ld hx (by simp) (p := 1) (k := 1) (o := 0) (n := 0) rfl (Or.inl rfl) (by have := H.wlen; omega), H.ok.w1]
  exact H.quiet hx (by simp) H.ok (mto ⟨4, 1, 0, th, ix, kd, v, tt, _, ok, ov⟩ 2) _ rfl (by simp) rfl (by simp) fun f' hf hn => RM.mk4 rfl rfl (by show 2 ≤ 7; omega) fun _ _ => ⟨(f s.tr.length).b, by rw [hn]; exact Nat.le_refl _, rfl, fun h => by simp [mto] at h⟩
theorem RI.pop2 (H : RI c s0 f s) (ht : s.tr.length ≤ 500000) (hx : s.ms[i]? = some ⟨4, 2, 0, th, ix, kd, v, tt, hh, ok, ov⟩) : ∃ f', RI c s0 f' (stp s i) := by
  obtain ⟨b', hb, hhh, -⟩ := (H.ms i _ hx).po rfl (by simp) (by simp)
  dsimp only at hhh
  have hal := H.a_le _ (Nat.le_refl _)
  have hba := H.ok.ba
  have hc1 := H.c1
  rw [stp_ld hx (by simp) (p := 0) (k := 1) (o := 0) (n := 0) rfl (Or.inl rfl) (by have := H.wlen; omega), H.ok.w0]
  show ∃ f', RI c s0 f' { s with ms := s.ms.set i (if rest (pk (nx s0 (f s.tr.length).a) (f s.tr.length).z / 2) hh = 0 then mto ⟨4, 2, 0, th, ix, kd, v, _, hh, ok, ov⟩ 3 else if s.l.getD 0 0 < rest (pk (nx s0 (f s.tr.length).a) (f s.tr.length).z / 2) hh then mto ⟨4, 2, 0, th, ix, kd, v, _, hh, ok, ov⟩ 1 else mto ⟨4, 2, 0, th, ix, kd, v, _, hh, ok, ov⟩ 4), tr := _, pa := _ }
  have hr := rest_nx (s0 := s0) (a := (f s.tr.length).a) (b := b') (by omega) (by omega)
  rw [pk_half, H.hc, hhh]
  split
  · exact H.quiet hx (by simp) H.ok _ _ rfl (by simp) rfl (by simp) fun f' hf hn => RM.mk4 rfl rfl (by show 3 ≤ 7; omega) fun _ _ => ⟨b', by rw [hn]; exact hb, rfl, fun h => by simp [mto] at h⟩
  · split
    · exact H.quiet hx (by simp) H.ok _ _ rfl (by simp) rfl (by simp) fun f' hf hn => RM.mk4 rfl rfl (by show 1 ≤ 7; omega) fun h => by simp [mto] at h
    · exact H.quiet hx (by simp) H.ok _ _ rfl (by simp) rfl (by simp) fun f' hf hn => RM.mk4 rfl rfl (by show 4 ≤ 7; omega) fun _ _ => ⟨b', by rw [hn]; exact hb, rfl, fun _ => by rw [hn]; omega⟩
theorem RI.pop3 (H : RI c s0 f s) (hx : s.ms[i]? = some ⟨4, 3, 0, th, ix, kd, v, tt, hh, ok, ov⟩) : ∃ f', RI c s0 f' (stp s i) := by
  rw [stp_ld hx (by simp) (p := 1) (k := 1) (o := 0) (n := 0) rfl (Or.inl rfl) (by have := H.wlen; omega), H.ok.w1]
  show ∃ f', RI c s0 f' { s with ms := s.ms.set i (if nx s0 (f s.tr.length).b ≠ hh then mto ⟨4, 3, 0, th, ix, kd, v, tt, _, ok, ov⟩ 2 else if cl tt = true then mend ⟨4, 3, 0, th, ix, kd, v, tt, hh, ok, ov⟩ 5 0 else mend ⟨4, 3, 0, th, ix, kd, v, tt, hh, ok, ov⟩ 3 0), tr := _, pa := _ }
  split
  · exact H.quiet hx (by simp) H.ok _ _ rfl (by simp) rfl (by simp) fun f' hf hn => RM.mk4 rfl rfl (by show 2 ≤ 7; omega) fun _ _ => ⟨(f s.tr.length).b, by rw [hn]; exact Nat.le_refl _, rfl, fun h => by simp [mto] at h⟩
  · split
    all_goals exact H.quiet hx (by simp) H.ok _ _ rfl (by simp) rfl (by simp) fun f' hf hn => RM.mk4 rfl rfl (by show 0 ≤ 7; omega) fun h => by simp [mend] at h
theorem RI.pop4 (H : RI c s0 f s) (hx : s.ms[i]? = some ⟨4, 4, 0, th, ix, kd, v, tt, hh, ok, ov⟩) : ∃ f', RI c s0 f' (stp s i) := by
  obtain ⟨b', hb, hhh, hb2⟩ := (H.ms i _ hx).po rfl (by simp) (by simp)
  dsimp only at hhh
  have hb3 := hb2 (by simp)
  obtain ⟨p, hp, hp5, hpn⟩ := slN_nat H.hc H.c1 hh (n := s.ws.length) H.ok.wl
  rw [stp_ld hx (by simp) (p := p) (k := 1) (o := 0) (n := 0) (by rw [← hp]; rfl) (Or.inl rfl) (by omega)]
  show ∃ f', RI c s0 f' { s with ms := s.ms.set i (if s.ws.getD p 0 = nx hh 1 then mto ⟨4, 4, 0, th, ix, kd, v, tt, hh, ok, ov⟩ 5 else mto ⟨4, 4, 0, th, ix, kd, v, tt, hh, ok, ov⟩ 1), tr := _, pa := _ }
  split
  · exact H.quiet hx (by simp) H.ok _ _ rfl (by simp) rfl (by simp) fun f' hf hn => RM.mk4 rfl rfl (by show 5 ≤ 7; omega) fun _ _ => ⟨b', by rw [hn]; exact hb, hhh, fun _ => by rw [hn]; exact hb3⟩
  · exact H.quiet hx (by simp) H.ok _ _ rfl (by simp) rfl (by simp) fun f' hf hn => RM.mk4 rfl rfl (by show 1 ≤ 7; omega) fun h => by simp [mto] at h
theorem RI.pop5 (H : RI c s0 f s) (ht : s.tr.length ≤ 500000) (hx : s.ms[i]? = some ⟨4, 5, 0, th, ix, kd, v, tt, hh, ok, ov⟩) : ∃ f', RI c s0 f' (stp s i) := by
  obtain ⟨b', hb, hhh, hb2⟩ := (H.ms i _ hx).po rfl (by simp) (by simp)
  dsimp only at hhh
  have hb3 := hb2 (by simp)
  have hal := H.a_le _ (Nat.le_refl _)
  have hba := H.ok.ba
  have hac := H.ok.ac
  have hw7 := H.wlen
  by_cases he : s.ws.getD 1 0 = hh
  · have he' := he
    rw [H.ok.w1, hhh] at he'
    have e1 := nx_eq he' (by omega) (by omega)
    have en : nx hh 1 = nx s0 ((f s.tr.length).b + 1 : Nat) := by
      rw [hhh, e1, show (1 : Int) = ((1 : Nat) : Int) from rfl, nx_nx]
    rw [stp_yes hx (by simp) (p := 1) (o := hh) (n := nx hh 1) rfl (by omega) he]
    rw [en]
    show ∃ f', RI c s0 f' { s with ws := _, ms := s.ms.set i (mto ⟨4, 5, 0, th, ix, kd, v, tt, hh, ok, ov⟩ 6), tr := _, pa := _ }
    refine H.next hx (by simp) ⟨(f s.tr.length).a, (f s.tr.length).b + 1, (f s.tr.length).z⟩ ⟨Nat.le_refl _, Nat.le_succ _, Nat.le_succ _, fun h => ⟨h, rfl⟩⟩ _ ⟨?_, ?_, ?_, ?_, ?_⟩ _ _ rfl (fun f' hf hn => RM.mk4 rfl rfl (by show 6 ≤ 7; omega) fun _ h => by simp [mto] at h) rfl (Or.inr ⟨by simp, rfl⟩) (by simp) (by simp)
    · rw [List.length_set]; exact H.ok.wl
    · rw [getD_set_other (by omega)]; exact H.ok.w0
    · exact getD_set_self (by omega) _
    · show (f s.tr.length).b + 1 ≤ (f s.tr.length).a
      omega
    · show ((f s.tr.length).a : Int) ≤ (((f s.tr.length).b + 1 : Nat) : Int) + c
      omega
  · rw [stp_no hx (by simp) (p := 1) (o := hh) (n := nx hh 1) rfl (by omega) he]
    exact H.quiet hx (by simp) H.ok (mto ⟨4, 5, 0, th, ix, kd, v, tt, hh, ok, ov⟩ 1) _ rfl (by simp) rfl (by simp) fun f' hf hn => RM.mk4 rfl rfl (by show 1 ≤ 7; omega) fun h => by simp [mto] at h
theorem RI.pop6 (H : RI c s0 f s) (hx : s.ms[i]? = some ⟨4, 6, 0, th, ix, kd, v, tt, hh, ok, ov⟩) : ∃ f', RI c s0 f' (stp s i) := by
  obtain ⟨p, hp, hp5, hpn⟩ := slN_nat H.hc H.c1 hh (n := s.ws.length) H.ok.wl
  rw [stp_ld hx (by simp) (p := p + 1) (k := 5) (o := 0) (n := 0) (by rw [show ((p + 1 : Nat) : Int) = (p : Int) + 1 by omega, ← hp]; rfl) (Or.inr rfl) (by omega)]
  exact H.quiet hx (by simp) H.ok (mto ⟨4, 6, 0, th, ix, kd, s.ws.getD (p + 1) 0, tt, hh, ok, ov⟩ 7) _ rfl (by simp) rfl (by simp) fun f' hf hn => RM.mk4 rfl rfl (by show 7 ≤ 7; omega) fun _ h => by simp [mto] at h
theorem RI.pop7 (H : RI c s0 f s) (hx : s.ms[i]? = some ⟨4, 7, 0, th, ix, kd, v, tt, hh, ok, ov⟩) : ∃ f', RI c s0 f' (stp s i) := by
  obtain ⟨p, hp, hp5, hpn⟩ := slN_nat H.hc H.c1 hh (n := s.ws.length) H.ok.wl
  rw [stp_st hx (by simp) (p := p) (k := 2) (o := 0) (n := nx hh (sz (s.l.getD 0 0))) (by rw [← hp]; rfl) (Or.inl rfl) (by omega)]
  exact H.quiet hx (by simp) (H.ok.set (by omega) _) (mend ⟨4, 7, 0, th, ix, kd, v, tt, hh, ok, ov⟩ 6 v) _ rfl (by simp) rfl (by simp) fun f' hf hn => RM.mk4 rfl rfl (by show 0 ≤ 7; omega) fun h => by simp [mend] at h
/-! shut -/
theorem RI.shut1 (H : RI c s0 f s) (hx : s.ms[i]? = some ⟨5, 1, 0, th, ix, kd, v, tt, hh, ok, ov⟩) : ∃ f', RI c s0 f' (stp s i) := by
  rw [stp_ld hx (by simp) (p := 0) (k := 1) (o := 0) (n := 0) rfl (Or.inl rfl) (by have := H.wlen; omega), H.ok.w0]
  show ∃ f', RI c s0 f' { s with ms := s.ms.set i (if cl (pk (nx s0 (f s.tr.length).a) (f s.tr.length).z) = true then mend ⟨5, 1, 0, th, ix, kd, v, _, hh, ok, ov⟩ 4 0 else mto ⟨5, 1, 0, th, ix, kd, v, _, hh, ok, ov⟩ 2), tr := _, pa := _ }
  rw [pk_cl]
  cases hz : (f s.tr.length).z
  · rw [if_neg (by simp)]
    exact H.quiet hx (by simp) H.ok _ _ rfl (by simp) rfl (fun _ h => by simp [mto] at h) fun f' hf hn => RM.mk5 rfl rfl (by show 2 ≤ 2; omega) fun _ => ⟨(f s.tr.length).a, by rw [hn]; exact Nat.le_refl _, rfl⟩
  · rw [if_pos rfl]
    exact H.quiet hx (by simp) H.ok _ _ rfl (by simp) rfl (fun _ _ => ⟨hz, rfl⟩) fun f' hf hn => RM.mk5 rfl rfl (by show 0 ≤ 2; omega) fun h => by simp [mend] at h
theorem RI.shut2 (H : RI c s0 f s) (ht : s.tr.length ≤ 500000) (hx : s.ms[i]? = some ⟨5, 2, 0, th, ix, kd, v, tt, hh, ok, ov⟩) : ∃ f', RI c s0 f' (stp s i) := by
  obtain ⟨a', ha, htt⟩ := (H.ms i _ hx).sh rfl rfl
  dsimp only at htt
  have hal := H.a_le _ (Nat.le_refl _)
  have hw7 := H.wlen
  by_cases he : s.ws.getD 0 0 = tt
  · have he' := he
    rw [H.ok.w0, htt] at he'
    obtain ⟨e1, e2⟩ := pk_eq he' (by omega) (by omega)
    have en : pk (tt / 2) true = pk (nx s0 (f s.tr.length).a) true := by rw [htt, pk_half, e1]
    rw [stp_yes hx (by simp) (p := 0) (o := tt) (n := pk (tt / 2) true) rfl (by omega) he]
    rw [en]
    show ∃ f', RI c s0 f' { s with ws := _, ms := s.ms.set i (mend ⟨5, 2, 0, th, ix, kd, v, tt, hh, ok, ov⟩ 1 0), tr := _, pa := _ }
    refine H.next hx (by simp) ⟨(f s.tr.length).a, (f s.tr.length).b, true⟩ ⟨Nat.le_refl _, Nat.le_succ _, Nat.le_refl _, fun h => by rw [e2] at h; cases h⟩ _ ⟨?_, ?_, ?_, H.ok.ba, H.ok.ac⟩ _ _ rfl (fun f' hf hn => RM.mk5 rfl rfl (by show 0 ≤ 2; omega) fun h => by simp [mend] at h) rfl (Or.inl ⟨rfl, rfl, rfl, e2, rfl⟩) (fun _ _ => Or.inl ⟨e2, rfl, rfl⟩) (fun _ => ⟨rfl, rfl, rfl⟩)
    · rw [List.length_set]; exact H.ok.wl
    · exact getD_set_self (by omega) _
    · rw [getD_set_other (by omega)]; exact H.ok.w1
  · rw [stp_no hx (by simp) (p := 0) (o := tt) (n := pk (tt / 2) true) rfl (by omega) he]
    exact H.quiet hx (by simp) H.ok (mto ⟨5, 2, 0, th, ix, kd, v, tt, hh, ok, ov⟩ 1) _ rfl (by simp) rfl (fun _ h => by simp [mto] at h) fun f' hf hn => RM.mk5 rfl rfl (by show 1 ≤ 2; omega) fun h => by simp [mto] at h
/-! count -/
theorem RI.count1 (H : RI c s0 f s) (hx : s.ms[i]? = some ⟨6, 1, 0, th, ix, kd, v, tt, hh, ok, ov⟩) : ∃ f', RI c s0 f' (stp s i) := by
  rw [stp_ld hx (by simp) (p := 0) (k := 1) (o := 0) (n := 0) rfl (Or.inl rfl) (by have := H.wlen; omega), H.ok.w0]
  exact H.quiet hx (by simp) H.ok (mto ⟨6, 1, 0, th, ix, kd, v, _, hh, ok, ov⟩ 2) _ rfl (by simp) rfl (by simp) fun f' hf hn => RM.mk6 rfl rfl (by show 2 ≤ 3; omega) (fun _ => ⟨(f s.tr.length).a, (f s.tr.length).z, by rw [hn]; exact Nat.le_refl _, rfl, fun h => by simp [mto] at h⟩) (fun h => by simp [mto] at h)
theorem RI.count2 (H : RI c s0 f s) (hx : s.ms[i]? = some ⟨6, 2, 0, th, ix, kd, v, tt, hh, ok, ov⟩) : ∃ f', RI c s0 f' (stp s i) := by
  obtain ⟨a', z', ha, htt, -⟩ := (H.ms i _ hx).co rfl (by simp)
  dsimp only at htt
  rw [stp_ld hx (by simp) (p := 1) (k := 1) (o := 0) (n := 0) rfl (Or.inl rfl) (by have := H.wlen; omega), H.ok.w1]
  exact H.quiet hx (by simp) H.ok (mto ⟨6, 2, 0, th, ix, kd, v, tt, _, ok, ov⟩ 3) _ rfl (by simp) rfl (by simp) fun f' hf hn => RM.mk6 rfl rfl (by show 3 ≤ 3; omega) (fun _ => ⟨a', z', by rw [hn]; exact ha, htt, fun _ => ⟨s.tr.length, by omega, Of.last _ rfl, by rw [hf _ (Nat.le_refl _)]; rfl, by rw [hf _ (Nat.le_refl _)]; exact ha⟩⟩) (fun h => by simp [mto] at h)
theorem RI.count3 (H : RI c s0 f s) (ht : s.tr.length ≤ 500000) (hx : s.ms[i]? = some ⟨6, 3, 0, th, ix, kd, v, tt, hh, ok, ov⟩) : ∃ f', RI c s0 f' (stp s i) := by
  obtain ⟨a', z', ha, htt, hj⟩ := (H.ms i _ hx).co rfl (by simp)
  dsimp only at htt
  obtain ⟨j, hj1, hj2, hj3, hj4⟩ := hj rfl
  dsimp only at hj3
  have hal := H.a_le _ (Nat.le_refl _)
  have haj := H.a_le j (by omega)
  have hmj := H.mono_a (j := j) s.tr.length (by omega) (Nat.le_refl _)
  rw [stp_ld hx (by simp) (p := 0) (k := 1) (o := 0) (n := 0) rfl (Or.inl rfl) (by have := H.wlen; omega), H.ok.w0]
  show ∃ f', RI c s0 f' { s with ms := s.ms.set i (if pk (nx s0 (f s.tr.length).a) (f s.tr.length).z = tt then mend ⟨6, 3, 0, th, ix, kd, v, tt, hh, ok, ov⟩ 9 (rest (tt / 2) hh) else mto ⟨6, 3, 0, th, ix, kd, v, _, hh, ok, ov⟩ 2), tr := _, pa := _ }
  split
  · rename_i he
    rw [htt] at he
    obtain ⟨e1, e2⟩ := pk_eq he (by omega) (by omega)
    have ef : (f j).a = a' := by omega
    obtain ⟨u, hu⟩ : ∃ u, s.pa[j]? = some u := ⟨_, List.getElem?_eq_getElem (by have := H.pl; omega)⟩
    have okj := H.pa j u hu
    have hba := okj.ba
    have hr := rest_nx (s0 := s0) (a := a') (b := (f j).b) (by omega) (by omega)
    have hrr : rest (tt / 2) hh = ((f j).a : Int) - (f j).b := by
      rw [htt, pk_half, hj3]
      omega
    rw [hrr]
    exact H.quiet hx (by simp) H.ok _ _ rfl (by simp) rfl (by simp) fun f' hf hn => RM.mk6 rfl rfl (by show 0 ≤ 3; omega) (fun h => by simp [mend] at h) (fun _ => ⟨rfl, j, by omega, hj2.app _, by rw [hf j (by omega)]; rfl⟩)
  · exact H.quiet hx (by simp) H.ok _ _ rfl (by simp) rfl (by simp) fun f' hf hn => RM.mk6 rfl rfl (by show 2 ≤ 3; omega) (fun _ => ⟨(f s.tr.length).a, (f s.tr.length).z, by rw [hn]; exact Nat.le_refl _, rfl, fun h => by simp [mto] at h⟩) (fun h => by simp [mto] at h)
theorem RI.step (H : RI c s0 f s) (i : Nat) (ht : s.tr.length ≤ 500000) : ∃ f', RI c s0 f' (stp s i) := by
  cases hx : s.ms[i]? with
  | none =>
    have e : stp s i = s := by unfold stp; rw [hx]
    rw [e]
    exact ⟨f, H⟩
  | some x =>
    by_cases h0 : x.at_ = 0
    · rw [stp_end hx h0]
      exact ⟨f, H⟩
    have hm := H.ms i x hx
    have hc := hm.ch
    have hwh := hm.wh
    have hat := hm.hat
    clear hm
    obtain ⟨what, at_, ch, th, ix, kd, v, tt, hh, ok, ov⟩ := x
    dsimp only at hc hwh hat h0
    subst hc
    rcases hwh with rfl | rfl | rfl | rfl <;> simp only [atMax] at hat
    · have h7 : at_ = 1 ∨ at_ = 2 ∨ at_ = 3 ∨ at_ = 4 ∨ at_ = 5 ∨ at_ = 6 ∨ at_ = 7 := by omega
      rcases h7 with rfl | rfl | rfl | rfl | rfl | rfl | rfl
      · exact H.push1 hx
      · exact H.push2 ht hx
      · exact H.push3 hx
      · exact H.push4 hx
      · exact H.push5 ht hx
      · exact H.push6 hx
      · exact H.push7 hx
    · have h7 : at_ = 1 ∨ at_ = 2 ∨ at_ = 3 ∨ at_ = 4 ∨ at_ = 5 ∨ at_ = 6 ∨ at_ = 7 := by omega
      rcases h7 with rfl | rfl | rfl | rfl | rfl | rfl | rfl
      · exact H.pop1 hx
      · exact H.pop2 ht hx
      · exact H.pop3 hx
      · exact H.pop4 hx
      · exact H.pop5 ht hx
      · exact H.pop6 hx
      · exact H.pop7 hx
    · have h7 : at_ = 1 ∨ at_ = 2 := by omega
      rcases h7 with rfl | rfl
      · exact H.shut1 hx
      · exact H.shut2 ht hx
    · have h7 : at_ = 1 ∨ at_ = 2 ∨ at_ = 3 := by omega
      rcases h7 with rfl | rfl | rfl
      · exact H.count1 hx
      · exact H.count2 hx
      · exact H.count3 ht hx
end
end Go.Proofs.YtepngbdjobckbaaGreat
end
section
namespace Go.Proofs.YtepngbdjobckbaaGreat
open Go.RowKit
set_option linter.unusedVariables false

/-- A machine that may still change the tail word. -/
def tc (x : Mc) : Bool := (x.what == 3 && (decide (1 ≤ x.at_) && decide (x.at_ ≤ 5))) || (x.what == 5 && decide (1 ≤ x.at_))
def Dn (ms : List Mc) : Nat := ms.countP tc
/-- How many accesses a machine that counts or closes has still to make at most, if the tail word stays. -/
def rk (w0 : Int) (x : Mc) : Nat :=
  if x.at_ = 0 then 0 else if x.what = 5 then (if x.at_ = 1 then 2 else if x.t = w0 then 1 else 3)
  else if x.at_ = 1 then 3 else if x.at_ = 2 then (if x.t = w0 then 2 else 4) else if x.t = w0 then 1 else 3
theorem mapply_w0 (ws : List Int) (a : Acc) : (mapply ws a).1.getD 0 0 = ws.getD 0 0 ∨ (a.a = 0 ∧ (a.k = 2 ∨ a.k = 6 ∨ (a.k = 3 ∧ (mapply ws a).2.2 = true))) := by
  unfold mapply
  split
  · exact Or.inl rfl
  · rename_i h
    have h1 : 0 ≤ a.a := by simp at h; omega
    by_cases h0 : a.a = 0
    · split
      · rename_i hk
        exact Or.inr ⟨h0, by omega⟩
      · split
        · rename_i hk
          split
          · exact Or.inr ⟨h0, Or.inr (Or.inr ⟨hk, rfl⟩)⟩
          · exact Or.inl rfl
        · exact Or.inl rfl
    · have hn : a.a.toNat ≠ 0 := by omega
      left
      split
      · exact getD_set_other hn _
      · split
        · split
          · exact getD_set_other hn _
          · rfl
        · rfl
theorem dn_set_le {ms : List Mc} {i : Nat} {x x' : Mc} (hx : ms[i]? = some x) (h : tc x' = true → tc x = true) : Dn (ms.set i x') ≤ Dn ms := by
  have hi := (List.getElem?_eq_some_iff.1 hx).1
  have e : ms[i] = x := (List.getElem?_eq_some_iff.1 hx).2
  unfold Dn
  rw [List.countP_set hi, e]
  have hp : tc x = true → 0 < ms.countP tc := fun hh => List.countP_pos_iff.2 ⟨x, List.mem_of_getElem? hx, hh⟩
  cases h1 : tc x' <;> cases h2 : tc x <;> simp_all <;> omega
theorem dn_set_lt {ms : List Mc} {i : Nat} {x x' : Mc} (hx : ms[i]? = some x) (h : tc x = true) (h' : tc x' = false) : Dn (ms.set i x') + 1 ≤ Dn ms := by
  have hi := (List.getElem?_eq_some_iff.1 hx).1
  have e : ms[i] = x := (List.getElem?_eq_some_iff.1 hx).2
  unfold Dn
  rw [List.countP_set hi, e]
  have hp : 0 < ms.countP tc := List.countP_pos_iff.2 ⟨x, List.mem_of_getElem? hx, h⟩
  rw [h, h']
  simp
  omega
section
variable {c s0 : Int} {f : Nat → Rq} {s : St} {i : Nat} {x : Mc}
/-- The tail word changes only by a machine that cannot change it again. -/
theorem stp_tail (H : RI c s0 f s) (hx : s.ms[i]? = some x) (h0 : x.at_ ≠ 0) :
    ((mapply s.ws (mnext s.l x)).1.getD 0 0 = s.ws.getD 0 0 ∧ (tc (mres s.l x (mapply s.ws (mnext s.l x)).2.1 (mapply s.ws (mnext s.l x)).2.2) = true → tc x = true)) ∨
    (tc x = true ∧ tc (mres s.l x (mapply s.ws (mnext s.l x)).2.1 (mapply s.ws (mnext s.l x)).2.2) = false) := by
  have hm := H.ms i x hx
  have hch := hm.ch
  have hwh := hm.wh
  have hat := hm.hat
  have slp : ∀ v, 5 ≤ slN s.l 0 v := fun v => by
    obtain ⟨p, hp, h5, -⟩ := slN_nat H.hc H.c1 v (n := s.ws.length) H.ok.wl
    omega
  clear hm
  have hw0 := mapply_w0 s.ws (mnext s.l x)
  generalize hr : mapply s.ws (mnext s.l x) = r at hw0 ⊢
  obtain ⟨what, at_, ch, th, ix, kd, v, tt, hh, ok, ov⟩ := x
  dsimp only at hch hwh hat h0
  subst hch
  rcases hwh with rfl | rfl | rfl | rfl <;> simp only [atMax] at hat
  · have h7 : at_ = 1 ∨ at_ = 2 ∨ at_ = 3 ∨ at_ = 4 ∨ at_ = 5 ∨ at_ = 6 ∨ at_ = 7 := by omega
    rcases h7 with rfl | rfl | rfl | rfl | rfl | rfl | rfl
    · rcases hw0 with h | ⟨-, h⟩
      · exact Or.inl ⟨h, fun _ => rfl⟩
      · exact absurd h (by simp [mnext])
    · rcases hw0 with h | ⟨-, h⟩
      · exact Or.inl ⟨h, fun _ => rfl⟩
      · exact absurd h (by simp [mnext])
    · rcases hw0 with h | ⟨-, h⟩
      · exact Or.inl ⟨h, fun _ => rfl⟩
      · exact absurd h (by simp [mnext])
    · rcases hw0 with h | ⟨-, h⟩
      · exact Or.inl ⟨h, fun _ => rfl⟩
      · exact absurd h (by simp [mnext])
    · rcases hw0 with h | ⟨-, h⟩
      · exact Or.inl ⟨h, fun _ => rfl⟩
      · rcases h with h | h | ⟨-, h⟩
        · exact absurd h (by simp [mnext])
        · exact absurd h (by simp [mnext])
        · right
          rw [h]
          exact ⟨rfl, rfl⟩
    · rcases hw0 with h | ⟨h, -⟩
      · exact Or.inl ⟨h, fun h => absurd h (by show ¬ false = true; simp)⟩
      · exact absurd h (by have := slp (tt / 2); show ¬ slN s.l 0 (tt / 2) + 1 = 0; omega)
    · rcases hw0 with h | ⟨h, -⟩
      · exact Or.inl ⟨h, fun h => absurd h (by show ¬ false = true; simp)⟩
      · exact absurd h (by have := slp (tt / 2); show ¬ slN s.l 0 (tt / 2) = 0; omega)
  · have nt : ∀ a y, tc (mres s.l ⟨4, at_, 0, th, ix, kd, v, tt, hh, ok, ov⟩ a y) = false := fun a y => by
      have := mres_what s.l ⟨4, at_, 0, th, ix, kd, v, tt, hh, ok, ov⟩ a y
      unfold tc
      rw [this]
      rfl
    have h7 : at_ = 1 ∨ at_ = 2 ∨ at_ = 3 ∨ at_ = 4 ∨ at_ = 5 ∨ at_ = 6 ∨ at_ = 7 := by omega
    have hz : ¬ ((mnext s.l ⟨4, at_, 0, th, ix, kd, v, tt, hh, ok, ov⟩).a = 0 ∧ ((mnext s.l ⟨4, at_, 0, th, ix, kd, v, tt, hh, ok, ov⟩).k = 2 ∨ (mnext s.l ⟨4, at_, 0, th, ix, kd, v, tt, hh, ok, ov⟩).k = 6 ∨ ((mnext s.l ⟨4, at_, 0, th, ix, kd, v, tt, hh, ok, ov⟩).k = 3 ∧ r.2.2 = true))) := by
      rcases h7 with rfl | rfl | rfl | rfl | rfl | rfl | rfl
      · simp [mnext]
      · simp [mnext]
      · simp [mnext]
      · simp [mnext]
      · rintro ⟨h, -⟩
        exact absurd h (by show ¬ tlN s.l 0 + 1 = 0; rw [show tlN s.l 0 = 0 from rfl]; omega)
      · simp [mnext]
      · rintro ⟨h, -⟩
        exact absurd h (by have := slp hh; show ¬ slN s.l 0 hh = 0; omega)
    rcases hw0 with h | h
    · exact Or.inl ⟨h, fun h => absurd h (by rw [nt]; simp)⟩
    · exact absurd h hz
  · have h7 : at_ = 1 ∨ at_ = 2 := by omega
    rcases h7 with rfl | rfl
    · rcases hw0 with h | ⟨-, h⟩
      · exact Or.inl ⟨h, fun _ => rfl⟩
      · exact absurd h (by simp [mnext])
    · rcases hw0 with h | ⟨-, h⟩
      · exact Or.inl ⟨h, fun _ => rfl⟩
      · rcases h with h | h | ⟨-, h⟩
        · exact absurd h (by simp [mnext])
        · exact absurd h (by simp [mnext])
        · right
          rw [h]
          exact ⟨rfl, rfl⟩
  · have nt : ∀ a y, tc (mres s.l ⟨6, at_, 0, th, ix, kd, v, tt, hh, ok, ov⟩ a y) = false := fun a y => by
      have := mres_what s.l ⟨6, at_, 0, th, ix, kd, v, tt, hh, ok, ov⟩ a y
      unfold tc
      rw [this]
      rfl
    have h7 : at_ = 1 ∨ at_ = 2 ∨ at_ = 3 := by omega
    rcases hw0 with h | ⟨-, h⟩
    · exact Or.inl ⟨h, fun h => absurd h (by rw [nt]; simp)⟩
    · exact absurd h (by rcases h7 with rfl | rfl | rfl <;> simp [mnext])
/-- A machine that counts or closes is nearer its end behind its own access. -/
theorem stp_own (H : RI c s0 f s) (hx : s.ms[i]? = some x) (h0 : x.at_ ≠ 0) (hw : x.what = 5 ∨ x.what = 6) :
    rk ((mapply s.ws (mnext s.l x)).1.getD 0 0) (mres s.l x (mapply s.ws (mnext s.l x)).2.1 (mapply s.ws (mnext s.l x)).2.2) + 1 ≤ rk (s.ws.getD 0 0) x := by
  have hm := H.ms i x hx
  have hch := hm.ch
  have hat := hm.hat
  have h7 := H.wlen
  clear hm
  obtain ⟨what, at_, ch, th, ix, kd, v, tt, hh, ok, ov⟩ := x
  dsimp only at hch hat h0 hw
  subst hch
  rcases hw with rfl | rfl <;> simp only [atMax] at hat
  · have h7' : at_ = 1 ∨ at_ = 2 := by omega
    rcases h7' with rfl | rfl
    · have e : mapply s.ws (mnext s.l ⟨5, 1, 0, th, ix, kd, v, tt, hh, ok, ov⟩) = (s.ws, s.ws.getD 0 0, false) := by
        show mapply s.ws ⟨1, ((0 : Nat) : Int), 0, 0⟩ = _
        rw [mapply_at _ _ _ _ _ (by omega)]
        simp
      rw [e]
      show rk (s.ws.getD 0 0) (if cl (s.ws.getD 0 0) = true then mend ⟨5, 1, 0, th, ix, kd, v, s.ws.getD 0 0, hh, ok, ov⟩ 4 0 else mto ⟨5, 1, 0, th, ix, kd, v, s.ws.getD 0 0, hh, ok, ov⟩ 2) + 1 ≤ 2
      split
      · show 0 + 1 ≤ 2; omega
      · show (if s.ws.getD 0 0 = s.ws.getD 0 0 then 1 else 3) + 1 ≤ 2
        rw [if_pos rfl]
        omega
    · have e : mapply s.ws (mnext s.l ⟨5, 2, 0, th, ix, kd, v, tt, hh, ok, ov⟩) = if s.ws.getD 0 0 = tt then (s.ws.set 0 (pk (tt / 2) true), s.ws.getD 0 0, true) else (s.ws, s.ws.getD 0 0, false) := by
        show mapply s.ws ⟨3, ((0 : Nat) : Int), tt, pk (tt / 2) true⟩ = _
        rw [mapply_at _ _ _ _ _ (by omega)]
        simp
      rw [e]
      by_cases he : s.ws.getD 0 0 = tt
      · rw [if_pos he]
        show 0 + 1 ≤ (if tt = s.ws.getD 0 0 then 1 else 3)
        split <;> omega
      · rw [if_neg he]
        show 2 + 1 ≤ (if tt = s.ws.getD 0 0 then 1 else 3)
        rw [if_neg (fun h => he h.symm)]
        omega
  · have h7' : at_ = 1 ∨ at_ = 2 ∨ at_ = 3 := by omega
    rcases h7' with rfl | rfl | rfl
    · have e : mapply s.ws (mnext s.l ⟨6, 1, 0, th, ix, kd, v, tt, hh, ok, ov⟩) = (s.ws, s.ws.getD 0 0, false) := by
        show mapply s.ws ⟨1, ((0 : Nat) : Int), 0, 0⟩ = _
        rw [mapply_at _ _ _ _ _ (by omega)]
        simp
      rw [e]
      show (if s.ws.getD 0 0 = s.ws.getD 0 0 then 2 else 4) + 1 ≤ 3
      rw [if_pos rfl]
      omega
    · have e : mapply s.ws (mnext s.l ⟨6, 2, 0, th, ix, kd, v, tt, hh, ok, ov⟩) = (s.ws, s.ws.getD 1 0, false) := by
        show mapply s.ws ⟨1, ((1 : Nat) : Int), 0, 0⟩ = _
        rw [mapply_at _ _ _ _ _ (by omega)]
        simp
      rw [e]
      show (if tt = s.ws.getD 0 0 then 1 else 3) + 1 ≤ (if tt = s.ws.getD 0 0 then 2 else 4)
      split <;> omega
    · have e : mapply s.ws (mnext s.l ⟨6, 3, 0, th, ix, kd, v, tt, hh, ok, ov⟩) = (s.ws, s.ws.getD 0 0, false) := by
        show mapply s.ws ⟨1, ((0 : Nat) : Int), 0, 0⟩ = _
        rw [mapply_at _ _ _ _ _ (by omega)]
        simp
      rw [e]
      show rk (s.ws.getD 0 0) (if s.ws.getD 0 0 = tt then mend ⟨6, 3, 0, th, ix, kd, v, tt, hh, ok, ov⟩ 9 (rest (tt / 2) hh) else mto ⟨6, 3, 0, th, ix, kd, v, s.ws.getD 0 0, hh, ok, ov⟩ 2) + 1 ≤ (if tt = s.ws.getD 0 0 then 1 else 3)
      by_cases he : s.ws.getD 0 0 = tt
      · rw [if_pos he]
        show 0 + 1 ≤ _
        split <;> omega
      · rw [if_neg he, if_neg (fun h => he h.symm)]
        show (if s.ws.getD 0 0 = s.ws.getD 0 0 then 2 else 4) + 1 ≤ 3
        rw [if_pos rfl]
        omega
theorem rk_two (a b : Int) (x : Mc) : rk a x ≤ rk b x + 2 := by
  unfold rk
  repeat' split
  all_goals omega
/-- What is left for machine k. -/
def phi (s : St) (x : Mc) : Nat := rk (s.ws.getD 0 0) x + 2 * Dn s.ms
theorem phi_step (H : RI c s0 f s) (i : Nat) {k : Nat} {x : Mc} (hx : s.ms[k]? = some x) (hw : x.what = 5 ∨ x.what = 6) :
    ∃ x', (stp s i).ms[k]? = some x' ∧ x'.what = x.what ∧ (x.at_ = 0 → x' = x) ∧ phi (stp s i) x' ≤ phi s x ∧ (i = k → x.at_ ≠ 0 → phi (stp s i) x' + 1 ≤ phi s x) := by
  have hk := (List.getElem?_eq_some_iff.1 hx).1
  cases hy : s.ms[i]? with
  | none =>
    have e : stp s i = s := by unfold stp; rw [hy]
    rw [e]
    exact ⟨x, hx, rfl, fun _ => rfl, Nat.le_refl _, fun h => by rw [h, hx] at hy; cases hy⟩
  | some y =>
    by_cases h0 : y.at_ = 0
    · rw [stp_end hy h0]
      exact ⟨x, hx, rfl, fun _ => rfl, Nat.le_refl _, fun h h1 => by rw [h, hx] at hy; cases hy; exact absurd h0 h1⟩
    · rw [stp_go hy h0]
      have ht := stp_tail H hy h0
      have hD : Dn (s.ms.set i (mres s.l y (mapply s.ws (mnext s.l y)).2.1 (mapply s.ws (mnext s.l y)).2.2)) ≤ Dn s.ms := by
        rcases ht with ⟨-, h⟩ | ⟨h, h'⟩
        · exact dn_set_le hy h
        · have := dn_set_lt hy h h'
          omega
      by_cases hik : i = k
      · subst hik
        rw [hx] at hy
        cases hy
        have ho := stp_own H hx h0 hw
        refine ⟨_, List.getElem?_set_self hk, mres_what _ _ _ _, fun h => absurd h h0, ?_, fun _ _ => ?_⟩
        · unfold phi
          show rk ((mapply s.ws (mnext s.l x)).1.getD 0 0) (mres s.l x (mapply s.ws (mnext s.l x)).2.1 (mapply s.ws (mnext s.l x)).2.2) + 2 * Dn (s.ms.set i (mres s.l x (mapply s.ws (mnext s.l x)).2.1 (mapply s.ws (mnext s.l x)).2.2)) ≤ _
          omega
        · unfold phi
          show rk ((mapply s.ws (mnext s.l x)).1.getD 0 0) (mres s.l x (mapply s.ws (mnext s.l x)).2.1 (mapply s.ws (mnext s.l x)).2.2) + 2 * Dn (s.ms.set i (mres s.l x (mapply s.ws (mnext s.l x)).2.1 (mapply s.ws (mnext s.l x)).2.2)) + 1 ≤ _
          omega
      · refine ⟨x, by show (s.ms.set i _)[k]? = _; rw [List.getElem?_set_ne hik]; exact hx, rfl, fun _ => rfl, ?_, fun h => absurd h hik⟩
        unfold phi
        show rk ((mapply s.ws (mnext s.l y)).1.getD 0 0) x + 2 * Dn (s.ms.set i (mres s.l y (mapply s.ws (mnext s.l y)).2.1 (mapply s.ws (mnext s.l y)).2.2)) ≤ _
        rcases ht with ⟨h, -⟩ | ⟨h, h'⟩
        · rw [h]
          omega
        · have := dn_set_lt hy h h'
          have := rk_two ((mapply s.ws (mnext s.l y)).1.getD 0 0) (s.ws.getD 0 0) x
          omega
end
section
variable {c s0 : Int}
theorem ri_pl1 {s : St} (H : ∃ f, RI c s0 f s) (p : List Int) : ∀ j, s.tr.length + j ≤ 400000 → (∃ f, RI c s0 f (pl1 p s j)) ∧ (pl1 p s j).tr.length ≤ s.tr.length + j := by
  intro j
  induction j with
  | zero => exact fun _ => ⟨H, Nat.le_refl _⟩
  | succ j ih =>
    intro h
    obtain ⟨⟨f, hf⟩, ht⟩ := ih (by omega)
    rw [pl1]
    exact ⟨hf.step _ (by omega), Nat.le_trans (stp_tr _ _) (by omega)⟩
/-- A turn of all: machine k is nearer its end. -/
theorem phi_turn {s : St} (H : ∃ f, RI c s0 f s) {k : Nat} {x : Mc} (hx : s.ms[k]? = some x) (hw : x.what = 5 ∨ x.what = 6) : ∀ i, s.tr.length + i ≤ 400000 →
    (∃ f, RI c s0 f (pl3 s i)) ∧ (pl3 s i).tr.length ≤ s.tr.length + i ∧ ∃ x', (pl3 s i).ms[k]? = some x' ∧ x'.what = x.what ∧ (x.at_ = 0 → x'.at_ = 0) ∧ phi (pl3 s i) x' ≤ phi s x ∧ (k < i → x'.at_ = 0 ∨ phi (pl3 s i) x' + 1 ≤ phi s x) := by
  intro i
  induction i with
  | zero => exact fun _ => ⟨H, Nat.le_refl _, x, hx, rfl, fun h => h, Nat.le_refl _, fun h => by omega⟩
  | succ i ih =>
    intro h
    obtain ⟨⟨f, hf⟩, ht, x1, h1, h2, h3, h4, h5⟩ := ih (by omega)
    obtain ⟨x2, g1, g2, g3, g4, g5⟩ := phi_step hf i h1 (by rw [h2]; exact hw)
    rw [pl3]
    refine ⟨hf.step _ (by omega), Nat.le_trans (stp_tr _ _) (by omega), x2, g1, by rw [g2, h2], fun h => by rw [g3 (h3 h)]; exact h3 h, Nat.le_trans g4 h4, fun hk => ?_⟩
    by_cases e : i = k
    · by_cases h0 : x1.at_ = 0
      · left
        rw [g3 h0]
        exact h0
      · right
        have := g5 e h0
        omega
    · rcases h5 (by omega) with h6 | h6
      · left
        rw [g3 h6]
        exact h6
      · right
        omega
theorem phi_turns {s : St} (H : ∃ f, RI c s0 f s) {k K : Nat} (hk : k < K) (hK : s.ms.length = K) {x : Mc} (hx : s.ms[k]? = some x) (hw : x.what = 5 ∨ x.what = 6) : ∀ n, s.tr.length + n * K ≤ 400000 →
    (∃ f, RI c s0 f (pl2 K s n)) ∧ (pl2 K s n).tr.length ≤ s.tr.length + n * K ∧ ∃ x', (pl2 K s n).ms[k]? = some x' ∧ x'.what = x.what ∧ (x'.at_ = 0 ∨ phi (pl2 K s n) x' + n ≤ phi s x) := by
  intro n
  induction n with
  | zero => exact fun _ => ⟨H, by rw [Nat.zero_mul]; exact Nat.le_refl _, x, hx, rfl, Or.inr (Nat.le_refl _)⟩
  | succ n ih =>
    intro h
    rw [Nat.succ_mul] at h
    obtain ⟨hf, ht, x1, h1, h2, h3⟩ := ih (by omega)
    obtain ⟨gf, gt, x2, g1, g2, g3, g4, g5⟩ := phi_turn hf h1 (by rw [h2]; exact hw) K (by omega)
    rw [pl2, Nat.succ_mul]
    refine ⟨gf, by omega, x2, g1, by rw [g2, h2], ?_⟩
    rcases h3 with h3 | h3
    · exact Or.inl (g3 h3)
    · rcases g5 hk with h6 | h6
      · exact Or.inl h6
      · right
        omega
theorem rk_le (a : Int) (x : Mc) : rk a x ≤ 4 := by
  unfold rk
  repeat' split
  all_goals omega
theorem dn_le (ms : List Mc) : Dn ms ≤ ms.length := List.countP_le_length
/-- Behind a play a machine that counts or closes has ended. -/
theorem ri_plays {s : St} (H : ∃ f, RI c s0 f s) {k : Nat} {x : Mc} (hx : s.ms[k]? = some x) (hw : x.what = 5 ∨ x.what = 6) (p : List Int) (most turns : Nat) (hm : most ≤ 1000) (ht : turns ≤ 1000) (hl : s.ms.length ≤ 20) (htr : s.tr.length ≤ 100) (hn : 4 + 2 * s.ms.length < turns) :
    (∃ f, RI c s0 f (plays p most turns s)) ∧ ∃ x', (plays p most turns s).ms[k]? = some x' ∧ x'.what = x.what ∧ x'.at_ = 0 := by
  have hk := (List.getElem?_eq_some_iff.1 hx).1
  rw [plays]
  have hmin : min p.length most ≤ most := Nat.min_le_right _ _
  obtain ⟨h1, h2⟩ := ri_pl1 H p (min p.length most) (by omega)
  have hlen := pl1_len p s (min p.length most)
  have hwh : ∀ j, j ≤ min p.length most → ∃ y, (pl1 p s j).ms[k]? = some y ∧ y.what = x.what := by
    intro j
    induction j with
    | zero => exact fun _ => ⟨x, hx, rfl⟩
    | succ j ih =>
      intro hj
      obtain ⟨y, hy, e⟩ := ih (by omega)
      obtain ⟨⟨f, hf⟩, -⟩ := ri_pl1 H p j (by omega)
      obtain ⟨y', g1, g2, -⟩ := phi_step hf ((p.getD j 0) % (s.ms.length : Int)).toNat hy (by rw [e]; exact hw)
      exact ⟨y', by rw [pl1]; exact g1, by rw [g2, e]⟩
  obtain ⟨y, hy, hyw⟩ := hwh _ (Nat.le_refl _)
  generalize pl1 p s (min p.length most) = s1 at *
  have hmul : turns * s.ms.length ≤ 1000 * 20 := Nat.mul_le_mul ht hl
  obtain ⟨g1, -, x', g3, g4, g5⟩ := phi_turns h1 hk hlen hy (by rw [hyw]; exact hw) turns (by omega)
  refine ⟨g1, x', g3, by rw [g4, hyw], ?_⟩
  rcases g5 with h | h
  · exact h
  · exfalso
    have a1 := rk_le (s1.ws.getD 0 0) y
    have a2 := dn_le s1.ms
    unfold phi at h
    omega
end
end Go.Proofs.YtepngbdjobckbaaGreat
end
section
namespace Go.Proofs.YtepngbdjobckbaaGreat
open Go.RowKit
set_option linter.unusedVariables false

theorem slotsI_low (l s : List Int) (i : Nat) (p : Nat) (hp : (p : Int) < tlN l i + 5) (h1 : 1 ≤ sz (l.getD i 0)) (h2 : sz (l.getD i 0) ≤ 16) (h0 : 0 ≤ tlN l i) (ws : List Int) : ∀ n, (slotsI l s i n ws).getD p 0 = ws.getD p 0 := by
  intro n
  induction n with
  | zero => rfl
  | succ n ih =>
    rw [slotsI, getD_set_other ?_, ih]
    have := sl_in (nx (s.getD i 0) n) _ h1 h2
    unfold slN
    omega
theorem tlN_up {l : List Int} (hl : Cap l) : ∀ n, 1 ≤ n → n ≤ l.length → tlN l 1 ≤ tlN l n := by
  intro n
  induction n with
  | zero => intro h; omega
  | succ n ih =>
    intro h1 h2
    by_cases e : n = 0
    · subst e; exact Int.le_refl _
    · have := ih (by omega) (by omega)
      have g := hl.at_ (show n < l.length by omega)
      have g1 := sz_bd _ g.1 g.2
      rw [show tlN l (n + 1) = tlN l n + (5 + 2 * sz (l.getD n 0)) by rw [tlN]]
      omega
theorem chansI_low {l : List Int} (hl : Cap l) (s : List Int) (p : Nat) (hp : (p : Int) < tlN l 1) : ∀ n, 1 ≤ n → n ≤ l.length → ∀ ws, (chansI l s n ws).getD p 0 = (chansI l s 1 ws).getD p 0 := by
  intro n
  induction n with
  | zero => intro h; omega
  | succ n ih =>
    intro h1 h2 ws
    by_cases e : n = 0
    · subst e; rfl
    · have g := hl.at_ (show n < l.length by omega)
      have g1 := sz_bd _ g.1 g.2
      have g2 := tlN_up hl n (by omega) (by omega)
      have g3 := hl.tl n (by omega)
      rw [chansI, slotsI_low l s n p (by omega) g1.1 g1.2 g3.1, getD_set_other (by omega), getD_set_other (by omega), ih (by omega) (by omega)]
theorem tlN_one (l : List Int) : tlN l 1 = 5 + 2 * sz (l.getD 0 0) := by
  rw [tlN, tlN]
  omega
theorem tot_lo {l : List Int} (hl : Cap l) (hn : 1 ≤ l.length) (t : Nat) : 5 + 2 * sz (l.getD 0 0) ≤ (totI l t : Int) := by
  have := tlN_up hl l.length hn (Nat.le_refl _)
  rw [tlN_one] at this
  unfold totI
  omega
theorem ini_len (l s : List Int) (t : Nat) : (iniI l s t).length = totI l t := by rw [iniI, chansI_len]; simp
section
variable {l s : List Int} (hl : Cap l) (hn : 1 ≤ l.length) (t : Nat)
include hl hn
theorem ini_0 : (iniI l s t).getD 0 0 = pk (s.getD 0 0) false := by
  have g := hl.at_ (show 0 < l.length by omega)
  have g1 := sz_bd _ g.1 g.2
  have g3 := tot_lo hl hn t
  have z0 : tlN l 0 = 0 := rfl
  rw [iniI, chansI_low hl s 0 (by rw [tlN_one]; omega) _ hn (Nat.le_refl _), chansI, slotsI_low l s 0 0 (by rw [show tlN l 0 = 0 from rfl]; omega) g1.1 g1.2 (Int.le_refl _), getD_set_other (by rw [show tlN l 0 = 0 from rfl]; omega)]
  exact getD_set_self (by rw [chansI_len]; simp; omega) _
theorem ini_1 : (iniI l s t).getD 1 0 = s.getD 0 0 := by
  have g := hl.at_ (show 0 < l.length by omega)
  have g1 := sz_bd _ g.1 g.2
  have g3 := tot_lo hl hn t
  have z0 : tlN l 0 = 0 := rfl
  rw [iniI, chansI_low hl s 1 (by rw [tlN_one]; omega) _ hn (Nat.le_refl _), chansI, slotsI_low l s 0 1 (by rw [show tlN l 0 = 0 from rfl]; omega) g1.1 g1.2 (Int.le_refl _)]
  exact getD_set_self (by rw [List.length_set, chansI_len]; simp; omega) _
end
/-- A ring at its beginning. -/
theorem ri_init {l s : List Int} {t : Nat} {ms : List Mc} (hl : Cap l) (hn : 1 ≤ l.length) (c1 : 1 ≤ l.getD 0 0) (hs : 0 ≤ s.getD 0 0 ∧ s.getD 0 0 < 9223372036854775808)
    (hm : ∀ x ∈ ms, ∃ (wh : Nat) (v : Int), 3 ≤ wh ∧ wh ≤ 6 ∧ u64 v ∧ x = mc0 wh 0 0 v) : RI (l.getD 0 0) (s.getD 0 0) (fun _ => ⟨0, 0, false⟩) { st0 l s t with ms := ms } := by
  have g := hl.at_ (show 0 < l.length by omega)
  have hnx : nx (s.getD 0 0) ((0 : Nat) : Int) = s.getD 0 0 := by unfold nx; omega
  refine ⟨⟨c1, g.2⟩, rfl, hs, rfl, rfl, fun j hj => by simp [st0] at hj, fun j u hu => by simp [st0] at hu, ⟨?_, ?_, ?_, Nat.le_refl _, by show ((0 : Nat) : Int) ≤ ((0 : Nat) : Int) + l.getD 0 0; omega⟩, fun i x hx => ?_, fun _ i x hx h5 => ?_, (fun h => by cases h), rfl⟩
  · show 5 + 2 * sz (l.getD 0 0) ≤ ((iniI l s t).length : Int)
    rw [ini_len]
    exact tot_lo hl hn t
  · show (iniI l s t).getD 0 0 = pk (nx (s.getD 0 0) ((0 : Nat) : Int)) false
    rw [hnx]
    exact ini_0 hl hn t
  · show (iniI l s t).getD 1 0 = nx (s.getD 0 0) ((0 : Nat) : Int)
    rw [hnx]
    exact ini_1 hl hn t
  · obtain ⟨wh, v, h3, h6, hv, rfl⟩ := hm x (List.mem_of_getElem? hx)
    have hw : wh = 3 ∨ wh = 4 ∨ wh = 5 ∨ wh = 6 := by omega
    rcases hw with rfl | rfl | rfl | rfl
    · exact RM.mk3 rfl rfl (by show 1 ≤ 7; omega) (fun h => by simp [mc0] at h)
    · exact RM.mk4 rfl rfl (by show 1 ≤ 7; omega) (fun h => by simp [mc0] at h)
    · exact RM.mk5 rfl rfl (by show 1 ≤ 2; omega) (fun h => by simp [mc0] at h)
    · exact RM.mk6 rfl rfl (by show 1 ≤ 3; omega) (fun h => by simp [mc0] at h) (fun h => by simp [mc0] at h)
  · obtain ⟨wh, v, h3, h6, hv, rfl⟩ := hm x (List.mem_of_getElem? hx)
    show 1 ≠ 0
    omega
theorem tot_small {l : List Int} (hl : Cap l) (hn : 1 ≤ l.length) (h3 : l.length ≤ 3) {t : Nat} (ht : t ≤ 4) : 1 ≤ totI l t ∧ totI l t ≤ 256 := by
  have h1 := hl.tl l.length (Nat.le_refl _)
  have h2 := tot_lo hl hn t
  have g := hl.at_ (show 0 < l.length by omega)
  have g1 := sz_bd _ g.1 g.2
  unfold totI at *
  omega
theorem hcap_len {TW : TypeId} {w : World} {G : Nat} {A : Option Addr} {n c : Nat} {B : Option Addr} {d tn gW gL : Nat} {l s ws : List Int} (H : Fw TW w G A n c B d tn gW gL l s ws) : Cap l :=
  ⟨by rw [H.cf.len]; exact H.cf.2.1, H.cf.2.2⟩
end Go.Proofs.YtepngbdjobckbaaGreat
end
