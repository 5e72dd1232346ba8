/- The walk of LockAccesses. -/
import Derived.Test.YtadaoobdnnleaaaX3
import Derived.Test.YtadaoobdnnleaaaX4
import Derived.Test.YtadaoobdnnleaaaX5
import Derived.Test.YtadaoobdnnleaaaWl7a
namespace Go.Proofs.Ytadaoobdnnleaaa
open Go.RowKit
set_option linter.unusedVariables false

theorem sta_bd {s : List Int} (h : staOk s) : ∀ x ∈ s, 0 ≤ x ∧ x < 9223372036854775808 := fun x hx => by
  have key : ∀ y ∈ staT, 0 ≤ y ∧ y < 9223372036854775808 := by decide
  exact key x (h x hx)
theorem config_cf2 (w : World) (g : Nat) (r : List Int) (v : Int) (h : Cd w g r v) :
    Calls Try.prog 17 #[.pointer (some ⟨g, 0, none⟩)] w fun e w' => ∃ (A : Option Addr) (n c : Nat) (B : Option Addr) (d tn : Nat) (l s r' : List Int), e = .returned (.agg #[.slice A n c, .slice B n d, .int .i64 tn]) ∧ Cf w' A n l ∧ TyA w' A n 3 ∧ IsI .u64 w' B n s ∧ 1 ≤ n ∧ n ≤ 3 ∧ (∀ x ∈ s, 0 ≤ x ∧ x < 9223372036854775808) ∧ 2 ≤ tn ∧ tn ≤ 4 ∧ Cd w' g r' v ∧ w.grownBy w' (some g) := by
  refine (config_any w g r v h).mono ?_
  rintro e w' ⟨u1, u2, t, l, s, r', rfl, hr, h1, h2, h3, h4, h5, h6, h7, h8, h9⟩
  have o1 := hr.at_ 0 (Nat.succ_pos _)
  have o2 := hr.at_ 1 (by show 1 < 2; omega)
  obtain ⟨A, C, e1, -⟩ := own_form o1
  obtain ⟨B, D, e2, -⟩ := own_form o2
  have e1' : u1 = .slice A l.length C := e1
  have e2' : u2 = .slice B s.length D := e2
  subst e1' e2'
  obtain ⟨tn, rfl⟩ := Int.eq_ofNat_of_zero_le (show 0 ≤ t by omega)
  refine ⟨A, l.length, C, B, D, tn, l, s, r', by rw [h3], ⟨IsI.of_own o1, by omega, fun x hx => ?_⟩, TyA.of_own o1, by have := IsI.of_own o2; rwa [h3] at this, h1, h2, sta_bd h5, by omega, by omega, h8, h9⟩
  have := h4 x hx
  omega
theorem iniI_u {l s : List Int} {t : Nat} (hs : ∀ x ∈ s, 0 ≤ x ∧ x < 9223372036854775808) : ∀ v ∈ iniI l s t, u64 v := by
  have hst : ∀ (ws : List Int) (i : Nat) (v : Int), (∀ x ∈ ws, u64 x) → u64 v → ∀ x ∈ ws.set i v, u64 x := fun ws i v h hv x hx => by
    rcases List.mem_or_eq_of_mem_set hx with h1 | h1
    · exact h x h1
    · exact h1 ▸ hv
  have hg : ∀ i, u64 (s.getD i 0) := fun i => by
    by_cases hi : i < s.length
    · have := hs _ (List.getElem_mem hi)
      rw [List.getD, List.getElem?_eq_getElem hi]
      unfold u64
      simp only [Option.getD_some]
      omega
    · rw [List.getD, List.getElem?_eq_none (by omega)]
      unfold u64
      simp
  have h1 : ∀ i n ws, (∀ x ∈ ws, u64 x) → ∀ x ∈ slotsI l s i n ws, u64 x := by
    intro i n ws h
    induction n with
    | zero => exact h
    | succ n ih => exact hst _ _ _ ih (nx_u _ _)
  have h2 : ∀ n ws, (∀ x ∈ ws, u64 x) → ∀ x ∈ chansI l s n ws, u64 x := by
    intro n ws h
    induction n with
    | zero => exact h
    | succ n ih => exact h1 _ _ _ (hst _ _ _ (hst _ _ _ ih (pk_u _ _)) (hg _))
  exact h2 _ _ (fun x hx => by rw [List.eq_of_mem_replicate hx]; unfold u64; omega)
theorem WdH.grown {w w' : World} {base G g : Nat} {TW T : TypeId} {h : Hd} {st : St} {ys : Array Value} (H : WdH w base G TW h st) (hg : w.grownBy w' (some g)) (k : Bk w g T ys) (hne : G ≠ g) (a1 : 3 ≠ T) (a2 : 46 ≠ T) (a3 : 52 ≠ T) (a4 : 112 ≠ T) (a5 : 33 ≠ T) (a6 : 55 ≠ T) :
    WdH w' base G TW h st := by
  have kk : ∀ T', T' ≠ T → Kp w w' T' := fun T' a => kp_oth hg (Oth.bk k a)
  obtain ⟨p1, p2, p3, p4, p5, p6⟩ := H.kps (kk _ a1) (kk _ a2)
  exact ⟨H.tw, H.bk.grown hg (by simpa using hne), H.hG, p1, p2, p3, p4, H.mn, own_kp H.rL (kk _ a3), own_kp H.rT (kk _ a4), own_kp H.rP (kk _ a5), own_kp H.rF (kk _ a6), p5, p6⟩
theorem WI.codes {own : Nat → Prop} {Rp : List Int → Mc → Fa → Prop} {w w' : World} {base G g : Nat} {TW : TypeId} {s : St} {r : List Int} {v : Int} (H : WI own Rp w base G TW s) (hg : w.grownBy w' (some g)) (k : Cd w g r v) (hlt : g < base) : WI own Rp w' base G TW s := by
  obtain ⟨qs, ⟨h, H1⟩, H2⟩ := H
  obtain ⟨A, n, c, l, i, kb, -⟩ := k
  have := H1.hG
  exact ⟨qs, ⟨h, H1.grown hg kb (by omega) (by decide) (by decide) (by decide) (by decide) (by decide) (by decide)⟩, H2⟩
/-- A world without machines. -/
def st0 (l s : List Int) (tn : Nat) : St := ⟨l, tn, iniI l s tn, [], [], [], []⟩
theorem wi_new {own : Nat → Prop} {Rp : List Int → Mc → Fa → Prop} {w : World} {TW : TypeId} (htw : TWok TW) {A : Option Addr} {n c : Nat} {B : Option Addr} {d tn gW gL : Nat} {l s : List Int} (hcf : Cf w A n l) (hty : TyA w A n 3) (hst : ∀ x ∈ s, 0 ≤ x ∧ x < 9223372036854775808) (ht : tn ≤ 8) (hk : Bk w gW 46 (wc64 (iniI l s tn))) :
    WI own Rp (w.alloc (.cells #[.slice A n c, .slice B n d, .int .i64 tn, .slice (some ⟨gW, 0, none⟩) (totI l tn) (totI l tn), .slice (some ⟨gL, 0, none⟩) (2 * n) (2 * n), .int .i64 0, .slice none 0 0, .slice none 0 0, .slice none 0 0, .slice none 0 0] TW)) w.heap.size w.heap.size TW (st0 l s tn) := by
  have hl := hcf.len
  have hlen : (iniI l s tn).length = totI l tn := by rw [iniI, chansI_len]; simp
  have htl := hcf.tl n (Nat.le_refl _)
  refine ⟨[], ⟨⟨A, n, c, B, n, d, some ⟨gW, 0, none⟩, totI l tn, totI l tn, some ⟨gL, 0, none⟩, 2 * n, 2 * n, 0, .slice none 0 0, .slice none 0 0, .slice none 0 0, .slice none 0 0, [], []⟩, ?_⟩, ?_⟩
  · refine ⟨htw, Bk.new _ _ _, Nat.le_refl _, hcf.alloc _, hty.alloc _, ?_, TyA.bk (hk.alloc _) 0 _, ?_, ?_, ?_, ?_, ?_, All2.nil, All2.nil⟩
    · refine IsI.alloc ⟨by simp [hlen, st0], fun _ => ⟨_, rfl, hk.lt, fun j u hu => ?_⟩⟩ _
      have hj := (List.getElem?_eq_some_iff.1 hu).1
      have : (⟨gW, 0, none⟩ : Addr).add j = ⟨gW, j, none⟩ := by unfold Addr.add; split <;> simp_all
      rw [this, hk.cell j]
      unfold wc64
      simpa [st0] using hu
    · show totI l tn ≤ 1000000
      unfold totI
      have := hcf.2.1
      rw [hl]
      omega
    all_goals exact ⟨rfl, Or.inl ⟨rfl, rfl⟩⟩
  · exact ⟨⟨by rw [show (st0 l s tn).l = l from rfl, hl]; exact hcf.2.1, hcf.2.2⟩, rfl, fun i x h => by simp [st0] at h, fun i x q h => by simp [st0] at h, iniI_u hst, rfl⟩
/-- A new machine. -/
def mc0 (what ch th : Nat) (v : Int) : Mc := ⟨what, 1, ch, th, v % 4, v % 8, v, 0, 0, 0, 0⟩
theorem Inv.add {own : Nat → Prop} {Rp : List Int → Mc → Fa → Prop} {st : St} (H : Inv own Rp st) {x : Mc} {q : Fa} (hm : Mv st.l.length x) (hr : own x.what → Rp st.l x q) : Inv own Rp { st with ms := st.ms ++ [x], qs := st.qs ++ [q] } := by
  have key : ∀ {α : Type} (l : List α) (a b : α) (i : Nat), (l ++ [a])[i]? = some b → l[i]? = some b ∨ (i = l.length ∧ b = a) := fun l a b i h => by
    rcases Nat.lt_or_ge i l.length with hi | hi
    · rw [List.getElem?_append_left hi] at h
      exact .inl h
    · rw [List.getElem?_append_right hi] at h
      cases e : i - l.length with
      | zero =>
        rw [e] at h
        simp at h
        exact .inr ⟨by omega, h.symm⟩
      | succ k =>
        rw [e] at h
        simp at h
  refine ⟨H.cap, by simp [H.ln], fun i y hy => ?_, fun i y p hy hp ho => ?_, H.wu, H.pl⟩
  · rcases key _ _ _ _ hy with h | ⟨-, rfl⟩
    · exact H.mv i y h
    · exact hm
  · have hln := H.ln
    rcases key _ _ _ _ hy with h | ⟨e1, rfl⟩
    · rcases key _ _ _ _ hp with h' | ⟨e2, -⟩
      · exact H.rp i y p h h' ho
      · have := (List.getElem?_eq_some_iff.1 h).1
        omega
    · rcases key _ _ _ _ hp with h' | ⟨-, rfl⟩
      · have := (List.getElem?_eq_some_iff.1 h').1
        omega
      · exact hr ho
theorem mv0 {n what ch th : Nat} {v : Int} (h1 : 1 ≤ what) (h2 : what ≤ 11) (hc : ch < n) (ht : th ≤ 8) (hv : u64 v) : Mv n (mc0 what ch th v) := by
  have z : u64 0 := by unfold u64; omega
  refine ⟨h1, h2, ?_, hc, ht, z, z, hv, ?_, ?_⟩
  · show 1 ≤ atMax what
    unfold atMax
    repeat' split
    all_goals omega
  · show 0 ≤ v % 4 ∧ v % 4 ≤ 7
    omega
  · show 0 ≤ v % 8 ∧ v % 8 ≤ 7
    omega
theorem add7_wi (w : World) (base G : Nat) (s : St) (what ch th : Nat) (v : Int) (H : WI Own7 Rp7 w base G 43 s) (hw : what = 1 ∨ what = 2) (hch : ch < s.l.length) (hth : th ≤ 8) (hv : u64 v) (hms : s.ms.length ≤ 1000) :
    Calls Try.prog 18 #[.pointer (some ⟨G, 0, none⟩), .int .i64 what, .int .i64 ch, .int .i64 th, .int .u64 v] w fun e w' => e = .returned (.tuple #[]) ∧ WI Own7 Rp7 w' base G 43 { s with ms := s.ms ++ [mc0 what ch th v] } ∧ Below base w w' := by
  obtain ⟨qs, ⟨h, H1⟩, I⟩ := H
  have hl : s.l.length = h.n := H1.cf.len
  have hfl : h.fs.length = qs.length := H1.fr.1
  have hln : qs.length = s.ms.length := I.ln
  refine (add7_own w base G h _ what ch th v (v % 4) (v % 8) (mc0 what ch th v) (fun q' => Rp7 s.l (mc0 what ch th v) q') H1 rfl rfl rfl hv.1 (by show what ≤ 2; omega) (by show s.ms.length ≤ 1000000; omega) (by omega) (fun W hW => start7_any W h.A h.n h.c s.l h.B h.m h.d s.th hW what ch th hw (by omega) _ _ _)).mono ?_
  rintro e w' ⟨rfl, q', hR, hW, hB⟩
  exact ⟨rfl, ⟨qs ++ [q'], hW, I.add (mv0 (by omega) (by omega) hch hth hv) (fun _ => hR)⟩, hB⟩
end Go.Proofs.Ytadaoobdnnleaaa
