/- Contract: a step of a law's world, whatever the machine. -/
import Derived.Test.YtadaoobdnnleaaaB5
import Derived.Test.YtadaoobdnnleaaaB7
import Derived.Test.YtadaoobdnnleaaaB8
namespace Go.Proofs.Ytadaoobdnnleaaa
open Go.RowKit
set_option linter.unusedVariables false

/-- What holds of a world of machines. -/
structure Inv (own : Nat → Prop) (Rp : List Int → Mc → Fa → Prop) (st : St) : Prop where
  cap : Cap st.l
  ln : st.qs.length = st.ms.length
  mv : ∀ (i : Nat) x, st.ms[i]? = some x → Mv st.l.length x
  rp : ∀ (i : Nat) x q, st.ms[i]? = some x → st.qs[i]? = some q → own x.what → Rp st.l x q
  wu : ∀ v ∈ st.ws, u64 v
  pl : st.pa.length = st.tr.length
/-- A machine makes its access, if it has not ended. -/
def stp (s : St) (i : Nat) : St := match s.ms[i]? with | none => s | some x => if x.at_ = 0 then s else stS s i x
/-- A world of machines on the heap, the frames left open. -/
def WI (own : Nat → Prop) (Rp : List Int → Mc → Fa → Prop) (w : World) (base G : Nat) (TW : TypeId) (s : St) : Prop := ∃ qs, Wd w base G TW { s with qs := qs } ∧ Inv own Rp { s with qs := qs }
theorem WI.below {own : Nat → Prop} {Rp : List Int → Mc → Fa → Prop} {w w' : World} {base G : Nat} {TW : TypeId} {s : St} (H : WI own Rp w base G TW s) (hb : Below w.heap.size w w') : WI own Rp w' base G TW s := by
  obtain ⟨qs, H1, H2⟩ := H
  exact ⟨qs, H1.below hb, H2⟩
theorem mres_what (l : List Int) (x : Mc) (a : Int) (y : Bool) : (mres l x a y).what = x.what := by
  unfold mres mpush mpop mshut mcount mend mto
  repeat' split
  all_goals rfl
theorem set_get {α : Type} {l : List α} {i j : Nat} {a b : α} (h : (l.set i a)[j]? = some b) : (i = j ∧ b = a) ∨ (i ≠ j ∧ l[j]? = some b) := by
  by_cases e : i = j
  · subst e
    by_cases hi : i < l.length
    · rw [List.getElem?_set_self hi] at h
      cases h
      exact .inl ⟨rfl, rfl⟩
    · rw [List.getElem?_eq_none (by simp; omega)] at h
      cases h
  · rw [List.getElem?_set_ne e] at h
    exact .inr ⟨e, h⟩
theorem Inv.step {own : Nat → Prop} {Rp : List Int → Mc → Fa → Prop} {st : St} (H : Inv own Rp st) {i : Nat} {x : Mc} (hx : st.ms[i]? = some x) (h0 : x.at_ ≠ 0) (q' : Fa)
    (hr : own x.what → Rp st.l (mres st.l x (mapply st.ws (mnext st.l x)).2.1 (mapply st.ws (mnext st.l x)).2.2) q') : Inv own Rp { stS st i x with qs := st.qs.set i q' } := by
  have mvx := H.mv i x hx
  have ok := mnext_ok H.cap mvx h0
  have mu := mapply_u H.wu ok.n
  refine ⟨H.cap, by simp [stS, H.ln], fun j y hy => ?_, fun j y q hy hq ho => ?_, mu.1, by simp [stS, H.pl]⟩
  · rcases set_get hy with ⟨-, rfl⟩ | ⟨-, h⟩
    · exact mvx.res mu.2.1 _
    · exact H.mv j y h
  · rcases set_get hy with ⟨rfl, rfl⟩ | ⟨hne, h⟩
    · rcases set_get hq with ⟨-, rfl⟩ | ⟨h, -⟩
      · exact hr (by rwa [mres_what] at ho)
      · exact absurd rfl h
    · rcases set_get hq with ⟨h, -⟩ | ⟨-, h'⟩
      · exact absurd h hne
      · exact H.rp j y q h h' ho
theorem Inv.step2 {own : Nat → Prop} {Rp : List Int → Mc → Fa → Prop} {st : St} (H : Inv own Rp st) {i : Nat} {x : Mc} (hx : st.ms[i]? = some x) (h0 : x.at_ ≠ 0) (hn : ¬ own x.what) : Inv own Rp (stS st i x) := by
  have mvx := H.mv i x hx
  have ok := mnext_ok H.cap mvx h0
  have mu := mapply_u H.wu ok.n
  refine ⟨H.cap, by simp [stS, H.ln], fun j y hy => ?_, fun j y q hy hq ho => ?_, mu.1, by simp [stS, H.pl]⟩
  · rcases set_get hy with ⟨-, rfl⟩ | ⟨-, h⟩
    · exact mvx.res mu.2.1 _
    · exact H.mv j y h
  · rcases set_get hy with ⟨-, rfl⟩ | ⟨-, h⟩
    · rw [mres_what] at ho
      exact absurd ho hn
    · exact H.rp j y q h hq ho
/-- Step, in the world of a law. -/
theorem Step_any (w : World) (base G i : Nat) (TW : TypeId) (h : Hd) (st : St) (x : Mc) (H : WdH w base G TW h st) (hx : st.ms[i]? = some x) (hc : Cap st.l) (hmv : Mv st.l.length x) (hat : x.at_ ≠ 0) (hu : ∀ v ∈ st.ws, u64 v) (ht : st.tr.length ≤ 1000000) (hp : st.pa.length ≤ 1000000) :
    Calls Try.prog 57 #[.pointer (some ⟨G, 0, none⟩), .int .i64 i] w fun e w' => e = .returned (.tuple #[.agg #[.int .u64 (mapply st.ws (mnext st.l x)).2.1, .bool (mapply st.ws (mnext st.l x)).2.2, .bool false, .slice none 0 0], .bool true]) ∧ Wd w' base G TW (stS st i x) ∧ Below base w w' := by
  have ok := mnext_ok hc hmv hat
  have mu := mapply_u hu ok.n
  have hl : st.l.length = h.n := H.cf.len
  have hmv' : Mv h.n x := by rw [← hl]; exact hmv
  have hN := fun W (hW : Below w.heap.size w W) => mnext_any W h.A h.n h.c h.B h.m h.d st.th st.l (H.cf.below hW) x hmv'
  have hA := fun W (hW : Below w.heap.size w W) => mapply_any W h.MA h.mn h.mc h.LA h.ln h.lc h.tk st.ws (mnext st.l x) (H.mi.below hW) (H.mty.below hW) H.mn ok.k (by have := ok.a1; omega) (by have := ok.a2; omega)
  have hR := fun W (hW : Cf W h.A h.n st.l) => mres_any W h.A h.n h.c h.B h.m h.d st.th st.l hW x hmv' (mapply st.ws (mnext st.l x)).2.1 (mapply st.ws (mnext st.l x)).2.2 false none 0 0 mu.2.1
  obtain ⟨what, at_, ch, th, ix, kd, v, tt, hh, okk, ov⟩ := x
  exact Step_core w base G i TW h st what at_ ch th ix kd v tt hh okk ov _ _ _ _ _ H hx hat ht (by rw [H.pa.1]; exact hp) hN hA hR
def Own7 (k : Nat) : Prop := k ≤ 2
def Own12 (k : Nat) : Prop := 7 ≤ k
def Own10 (k : Nat) : Prop := k = 5
def Own11 (k : Nat) : Prop := k = 6
def Own8 (k : Nat) : Prop := k = 3
def Own9 (k : Nat) : Prop := k = 4
/-- What is known of a law's own machines. -/
structure Knows (own : Nat → Prop) (Rp : List Int → Mc → Fa → Prop) (NX EN RS : FuncId) : Prop where
  good : ∀ l x q, Cap l → Mv l.length x → own x.what → Rp l x q → Good NX EN l x q
  res : ∀ l x q, Cap l → Mv l.length x → own x.what → Rp l x q → ∀ (W : World) cs (a : Int) (y z : Bool) (LA : Option Addr) (ln lc : Nat), u64 a → FrA W cs q → Calls Try.prog RS #[.agg cs, .agg #[.int .u64 a, .bool y, .bool z, .slice LA ln lc]] W fun e w' => ∃ cs' q', e = .returned (.agg cs') ∧ FrA w' cs' q' ∧ Rp l (mres l x a y) q' ∧ Below W.heap.size W w'
theorem step7_any {Rp : List Int → Mc → Fa → Prop} (K : Knows Own7 Rp 28 26 27) (w : World) (base G i : Nat) (s : St) (H : WI Own7 Rp w base G 43 s) (hi : i < s.ms.length) (ht : s.tr.length ≤ 1000000) :
    Calls Try.prog 24 #[.pointer (some ⟨G, 0, none⟩), .int .i64 i] w fun e w' => e = .returned (.bool true) ∧ WI Own7 Rp w' base G 43 (stp s i) ∧ Below base w w' := by
  obtain ⟨qs, ⟨h, Hw⟩, I⟩ := H
  have hq' : i < qs.length := by have := I.ln; simp only at this; omega
  have hx : s.ms[i]? = some s.ms[i] := List.getElem?_eq_getElem hi
  have hq : qs[i]? = some qs[i] := List.getElem?_eq_getElem hq'
  generalize s.ms[i] = x at hx
  generalize qs[i] = q at hq
  have mvx := I.mv i x hx
  have hG := Hw.hG
  have hGw := Hw.bk.lt
  have hl : s.l.length = h.n := Hw.cf.len
  have mvh : Mv h.n x := by rw [← hl]; exact mvx
  have hsm : ∀ W, Below w.heap.size w W → Calls Try.prog 56 #[.pointer (some ⟨G, 0, none⟩), .int .i64 i] W fun e w' => e = .returned (.bool true) ∧ Below W.heap.size W w' := fun W hW => by
    by_cases ho : Own7 x.what
    · exact same7_yes W base G i h _ x q (Hw.below hW) hx hq mvh ho (K.good _ x q I.cap mvx ho (I.rp i x q hx hq ho))
    · exact same7_no W base G i h _ x (Hw.below hW) hx (by have hnot := ho; exact by simp only [Own7] at hnot; omega)
  by_cases hat : x.at_ = 0
  · have e1 : stp s i = s := by unfold stp; rw [hx]; simp only [if_pos hat]
    rw [e1]
    refine (step7_end w G i hsm (fun W hW => Step_end W base G i _ h _ x (Hw.below hW) hx hat)).mono ?_
    rintro e w' ⟨rfl, hb⟩
    exact ⟨rfl, ⟨qs, ⟨h, Hw.below hb⟩, I⟩, hb.mono Hw.base_le⟩
  have e1 : stp s i = stS s i x := by unfold stp; rw [hx]; simp only [if_neg hat]
  rw [e1]
  have hSt : ∀ W, Below w.heap.size w W → _ := fun W hW => Step_any W base G i _ h _ x (Hw.below hW) hx I.cap mvx hat I.wu ht (show s.pa.length ≤ 1000000 from by have hpl : s.pa.length = s.tr.length := I.pl; omega)
  have mu := mapply_u I.wu (mnext_ok I.cap mvx hat).n
  have hx1 : (s.ms.set i (mres s.l x (mapply s.ws (mnext s.l x)).2.1 (mapply s.ws (mnext s.l x)).2.2))[i]? = some (mres s.l x (mapply s.ws (mnext s.l x)).2.1 (mapply s.ws (mnext s.l x)).2.2) := List.getElem?_set_self hi
  have mv1 := mvx.res (l := s.l) mu.2.1 (mapply s.ws (mnext s.l x)).2.2
  by_cases ho : Own7 x.what
  · have ho1 : Own7 (mres s.l x (mapply s.ws (mnext s.l x)).2.1 (mapply s.ws (mnext s.l x)).2.2).what := by rw [mres_what]; exact ho
    refine (step7_own w base G i _ _ q _ _ (fun q' => Rp s.l (mres s.l x (mapply s.ws (mnext s.l x)).2.1 (mapply s.ws (mnext s.l x)).2.2) q') hG hGw hx1 hq ho1 (hsm w (Below.refl _ _)) hSt (fun W cs hf => K.res _ x q I.cap mvx ho (I.rp i x q hx hq ho) W cs _ _ false none 0 0 mu.2.1 hf) (fun W q' hR hW => ?_)).mono ?_
    · obtain ⟨h2, H2⟩ := hW
      have hl2 : s.l.length = h2.n := H2.cf.len
      exact same7_yes W base G i h2 _ _ q' H2 hx1 (List.getElem?_set_self hq') (by rw [← hl2]; exact mv1) ho1 (K.good _ _ q' I.cap mv1 ho1 hR)
    · rintro e w' ⟨rfl, q', hR, hW, hB⟩
      exact ⟨rfl, ⟨qs.set i q', hW, I.step hx hat q' (fun _ => hR)⟩, hB⟩
  · have hn1 : ¬ Own7 (mres s.l x (mapply s.ws (mnext s.l x)).2.1 (mapply s.ws (mnext s.l x)).2.2).what := by rw [mres_what]; exact ho
    refine (step7_oth w base G i _ _ _ _ hG hGw hx1 (by have hnot := hn1; exact by simp only [Own7] at hnot; omega) (hsm w (Below.refl _ _)) hSt (fun W hW => ?_)).mono ?_
    · obtain ⟨h2, H2⟩ := hW
      exact same7_no W base G i h2 _ _ H2 hx1 (by have hnot := hn1; exact by simp only [Own7] at hnot; omega)
    · rintro e w' ⟨rfl, hW, hB⟩
      exact ⟨rfl, ⟨qs, hW, I.step2 hx hat ho⟩, hB⟩
end Go.Proofs.Ytadaoobdnnleaaa
