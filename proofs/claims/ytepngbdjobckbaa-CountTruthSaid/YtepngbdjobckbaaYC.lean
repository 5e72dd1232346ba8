/- What is counted was true: in the plain. -/
import Derived.Test.YtepngbdjobckbaaYT
import Derived.Test.YtepngbdjobckbaaYI
namespace Go.Proofs.Ytepngbdjobckbaa
open Go.RowKit
set_option linter.unusedVariables false

theorem stp_l (s : St) (i : Nat) : (stp s i).l = s.l := by
  unfold stp
  split
  · rfl
  · split
    · rfl
    · rfl
theorem plays_l (p : List Int) (most turns : Nat) (s : St) : (plays p most turns s).l = s.l := by
  have h1 : ∀ j, (pl1 p s j).l = s.l := fun j => by
    induction j with
    | zero => rfl
    | succ j ih => rw [pl1, stp_l, ih]
  have h3 : ∀ (s : St) j, (pl3 s j).l = s.l := fun s j => by
    induction j with
    | zero => rfl
    | succ j ih => rw [pl3, stp_l, ih]
  have h2 : ∀ K (s : St) n, (pl2 K s n).l = s.l := fun K s n => by
    induction n with
    | zero => rfl
    | succ n ih => rw [pl2, h3, ih]
  rw [plays, h2, h1]
/-- What CountTruth asks. -/
structure Truth (K : Nat) (c : Int) (s : St) (x : Mc) (j : Nat) : Prop where
  hx : s.ms[K]? = some x
  w : x.what = 6
  a : x.at_ = 0
  ok : x.ok = 9
  ov : 0 ≤ x.ov ∧ x.ov ≤ c
  jl : j < s.tr.length ∧ j < s.pa.length
  tl : s.tr.length ≤ 100000
  th : ∃ y, s.tr[j]? = some y ∧ y.th = (K : Int)
  pa : ∃ u, s.pa[j]? = some u ∧ rest (u.getD 0 0 / 2) (u.getD 1 0) = x.ov
  pl : s.pa.length = s.tr.length
  wl : ∀ (i : Nat) u, s.pa[i]? = some u → 2 ≤ u.length ∧ 0 ≤ u.getD 0 0 ∧ u.getD 0 0 ≤ 18446744073709551615
theorem count_truth {l s : List Int} {tn : Nat} {ms : List Mc} (hl : Cap l) (H : OthOk 7 l s tn ms) (p : List Int) :
    ∃ x j, Truth ms.length (l.getD 0 0) (plays p 150 25 { st0 l s tn with ms := ms ++ [mc0 6 0 0 0] }) x j := by
  have hs0 : 0 ≤ s.getD 0 0 ∧ s.getD 0 0 < 9223372036854775808 := by
    have hsn := H.sn
    have hn := H.n.1
    have hi : 0 < s.length := by omega
    have : s.getD 0 0 = s[0] := by simp [List.getD, List.getElem?_eq_getElem hi]
    rw [this]
    exact H.sb _ (List.getElem_mem hi)
  have hri : ∃ f, RI (l.getD 0 0) (s.getD 0 0) f { st0 l s tn with ms := ms ++ [mc0 6 0 0 0] } := ⟨_, ri_init hl H.n.1 H.c.1 hs0 fun x hx => by
    rcases List.mem_append.1 hx with h | h
    · exact H.ms x h
    · exact ⟨6, 0, by omega, by omega, by unfold u64; omega, List.mem_singleton.1 h⟩⟩
  have hk := H.k
  have hlen : (ms ++ [mc0 6 0 0 0]).length = ms.length + 1 := by simp
  have hx : ({ st0 l s tn with ms := ms ++ [mc0 6 0 0 0] } : St).ms[ms.length]? = some (mc0 6 0 0 0) := by
    show (ms ++ [mc0 6 0 0 0])[ms.length]? = _
    simp
  obtain ⟨⟨f, hf⟩, x, h1, h2, h3⟩ := ri_plays hri hx (Or.inr rfl) p 150 25 (by omega) (by omega) (by show (ms ++ [mc0 6 0 0 0]).length ≤ 20; omega) (by show 0 ≤ 100; omega) (by show 4 + 2 * (ms ++ [mc0 6 0 0 0]).length < 25; omega)
  have h2' : x.what = 6 := h2
  obtain ⟨hok, j, hj, hof, hov⟩ := (hf.ms _ _ h1).ce h2' h3
  have hpl := hf.pl
  obtain ⟨u, hu⟩ : ∃ u, (plays p 150 25 { st0 l s tn with ms := ms ++ [mc0 6 0 0 0] }).pa[j]? = some u := ⟨_, List.getElem?_eq_getElem (by omega)⟩
  have ok := hf.pa j u hu
  have hba := ok.ba
  have hac := ok.ac
  have hc1 := hf.c1
  have htr : (plays p 150 25 { st0 l s tn with ms := ms ++ [mc0 6 0 0 0] }).tr.length ≤ 100000 := by
    have hri' := hri
    rw [plays]
    have a1 := (ri_pl1 hri' p (min p.length 150) (by show 0 + _ ≤ _; omega)).2
    have a0 := (ri_pl1 hri' p (min p.length 150) (by show 0 + _ ≤ _; omega)).1
    have b1 : ∀ (t : St) (n : Nat), (pl3 t n).tr.length ≤ t.tr.length + n := fun t n => by
      induction n with
      | zero => exact Nat.le_refl _
      | succ n ih => exact Nat.le_trans (stp_tr _ _) (by omega)
    have b2 : ∀ (K : Nat) (t : St) (n : Nat), (pl2 K t n).tr.length ≤ t.tr.length + n * K := fun K t n => by
      induction n with
      | zero => rw [Nat.zero_mul]; exact Nat.le_refl _
      | succ n ih =>
        rw [pl2, Nat.succ_mul]
        have := b1 (pl2 K t n) K
        omega
    have b3 := b2 ({ st0 l s tn with ms := ms ++ [mc0 6 0 0 0] } : St).ms.length (pl1 p { st0 l s tn with ms := ms ++ [mc0 6 0 0 0] } (min p.length 150)) 25
    have e0 : ({ st0 l s tn with ms := ms ++ [mc0 6 0 0 0] } : St).ms.length = ms.length + 1 := hlen
    have e1 : ({ st0 l s tn with ms := ms ++ [mc0 6 0 0 0] } : St).tr.length = 0 := rfl
    rw [e0] at b3 ⊢
    omega
  have haj := hf.a_le j (by omega)
  refine ⟨x, j, h1, h2', h3, hok, ⟨by omega, by omega⟩, ⟨hj, by omega⟩, htr, hof, ⟨u, hu, ?_⟩, hpl, fun i v hv => ?_⟩
  · rw [ok.w0, ok.w1, pk_half]
    have := rest_nx (s0 := s.getD 0 0) (a := (f j).a) (b := (f j).b) (by omega) (by omega)
    omega
  · have okv := hf.pa i v hv
    have := okv.wl
    have hz := sz_bd (l.getD 0 0) (by omega) hc1.2
    refine ⟨by omega, ?_⟩
    rw [okv.w0]
    have := pk_u (nx (s.getD 0 0) (f i).a) (f i).z
    unfold u64 at this
    exact this
end Go.Proofs.Ytepngbdjobckbaa
