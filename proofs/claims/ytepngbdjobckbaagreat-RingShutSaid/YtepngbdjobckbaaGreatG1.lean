/- The machines' world, for the laws: a world whose words are set at first, its parts read, a machine and its frame stored. -/
import Derived.Test.YtepngbdjobckbaaGreatG0
namespace Go.Proofs.YtepngbdjobckbaaGreat
open Go.RowKit
set_option linter.unusedVariables false

theorem wi_at {own : Nat → Prop} {Rp : List Int → Mc → Fa → Prop} {w : World} {TW : TypeId} {G : Nat} (htw : TWok TW) {A : Option Addr} {n c : Nat} {B : Option Addr} {d tn gW gL : Nat} {l s ws : List Int}
    (kG : Bk w G TW #[.slice A n c, .slice B n d, .int .i64 tn, .slice (some ⟨gW, 0, none⟩) (totI l tn) (totI l tn), .slice (some ⟨gL, 0, none⟩) (2 * n) (2 * n), .int .i64 0, .slice none 0 0, .slice none 0 0, .slice none 0 0, .slice none 0 0])
    (hcf : Cf w A n l) (hty : TyA w A n 3) (ht : tn ≤ 8) (hk : Bk w gW 42 (wc64 ws)) (hlen : ws.length = totI l tn) (hu : ∀ v ∈ ws, u64 v) : WI own Rp w G G TW { st0 l s tn with ws := ws } := by
  have hl := hcf.len
  have htl := hcf.tl n (Nat.le_refl _)
  refine ⟨[], ⟨⟨A, n, c, B, n, d, some ⟨gW, 0, none⟩, totI l tn, totI l tn, some ⟨gL, 0, none⟩, 2 * n, 2 * n, 0, .slice none 0 0, .slice none 0 0, .slice none 0 0, .slice none 0 0, [], []⟩, ?_⟩, ?_⟩
  · refine ⟨htw, kG, Nat.le_refl _, hcf, hty, ?_, TyA.bk hk 0 _, ?_, ?_, ?_, ?_, ?_, All2.nil, All2.nil, fun _ x hm => by simp [st0] at hm⟩
    · refine ⟨by simp [hlen], fun _ => ⟨_, rfl, hk.lt, fun j u hu => ?_⟩⟩
      have : (⟨gW, 0, none⟩ : Addr).add j = ⟨gW, j, none⟩ := by unfold Addr.add; split <;> simp_all
      rw [this, hk.cell j]
      unfold wc64
      simpa using hu
    · show totI l tn ≤ 1000000
      unfold totI
      have := hcf.2.1
      rw [hl]
      omega
    all_goals exact ⟨rfl, Or.inl ⟨rfl, rfl⟩⟩
  · exact ⟨⟨by rw [show ({ st0 l s tn with ws := ws } : St).l = l from rfl, hl]; exact hcf.2.1, hcf.2.2⟩, rfl, fun i x h => by simp [st0] at h, fun i x q h => by simp [st0] at h, hu, rfl⟩
/-- A word is set ahead of any machine. -/
theorem wi_store {own : Nat → Prop} {Rp : List Int → Mc → Fa → Prop} {w : World} {TW : TypeId} {G : Nat} (htw : TWok TW) {A : Option Addr} {n c : Nat} {B : Option Addr} {d tn gW gL : Nat} {l s ws : List Int}
    (kG : Bk w G TW #[.slice A n c, .slice B n d, .int .i64 tn, .slice (some ⟨gW, 0, none⟩) (totI l tn) (totI l tn), .slice (some ⟨gL, 0, none⟩) (2 * n) (2 * n), .int .i64 0, .slice none 0 0, .slice none 0 0, .slice none 0 0, .slice none 0 0])
    (hcf : Cf w A n l) (hty : TyA w A n 3) (ht : tn ≤ 8) (hk : Bk w gW 42 (wc64 ws)) (hlen : ws.length = totI l tn) (hu : ∀ v ∈ ws, u64 v) (k : Nat) (v : Int) (hv : u64 v) : WI own Rp (w.setCell ⟨gW, k, none⟩ (.int .u64 v)) G G TW { st0 l s tn with ws := ws.set k v } := by
  have hne : G ≠ gW := fun e => by
    have a := kG
    have b := hk
    rw [e] at a
    unfold Bk at a b
    rw [a] at b
    simp at b
    exact htw.2.1 b.2
  have kk : Kp w (w.setCell ⟨gW, k, none⟩ (.int .u64 v)) 3 := kp_set hk (by decide) k _
  refine wi_at htw (kG.far (p := ⟨gW, k, none⟩) hne _) (hcf.kp hty kk) (hty.kp kk) ht (gL := gL) ?_ (by simp [hlen]) (fun x hx => ?_)
  · have := hk.set_ k (.int .u64 v)
    rwa [wc64_set] at this
  · rcases List.mem_or_eq_of_mem_set hx with h1 | h1
    · exact hu x h1
    · exact h1 ▸ hv
/-- A world on the heap without machines, its words open. -/
structure Fw (TW : TypeId) (w : World) (G : Nat) (A : Option Addr) (n c : Nat) (B : Option Addr) (d tn gW gL : Nat) (l s ws : List Int) : Prop where
  kG : Bk w G TW #[.slice A n c, .slice B n d, .int .i64 tn, .slice (some ⟨gW, 0, none⟩) (totI l tn) (totI l tn), .slice (some ⟨gL, 0, none⟩) (2 * n) (2 * n), .int .i64 0, .slice none 0 0, .slice none 0 0, .slice none 0 0, .slice none 0 0]
  cf : Cf w A n l
  ty : TyA w A n 3
  hk : Bk w gW 42 (wc64 ws)
  len : ws.length = totI l tn
  wu : ∀ v ∈ ws, u64 v
section
variable {TW : TypeId} {w w' : World} {G : Nat} {A : Option Addr} {n c : Nat} {B : Option Addr} {d tn gW gL : Nat} {l s ws : List Int}
theorem Fw.below (H : Fw TW w G A n c B d tn gW gL l s ws) (hb : Below w.heap.size w w') : Fw TW w' G A n c B d tn gW gL l s ws :=
  ⟨H.kG.below hb H.kG.lt, H.cf.below hb, H.ty.below hb, H.hk.below hb H.hk.lt, H.len, H.wu⟩
theorem Fw.codes {g : Nat} {r : List Int} {v : Int} (H : Fw TW w G A n c B d tn gW gL l s ws) (hg : w.grownBy w' (some g)) (k : Cd w g r v) (h1 : TW ≠ 91) : Fw TW w' G A n c B d tn gW gL l s ws := by
  obtain ⟨A', n', c', l', i, kb, -⟩ := k
  have kk : ∀ T', T' ≠ 91 → Kp w w' T' := fun T' a => kp_oth hg (Oth.bk kb a)
  exact ⟨kk _ h1 _ _ H.kG, H.cf.kp H.ty (kk _ (by decide)), H.ty.kp (kk _ (by decide)), kk _ (by decide) _ _ H.hk, H.len, H.wu⟩
theorem Fw.ne (H : Fw TW w G A n c B d tn gW gL l s ws) (h : TW ≠ 42) : G ≠ gW := fun e => by
  have a := H.kG
  have b := H.hk
  rw [e] at a
  unfold Bk at a b
  rw [a] at b
  simp at b
  exact h b.2
theorem Fw.wi {own : Nat → Prop} {Rp : List Int → Mc → Fa → Prop} (H : Fw TW w G A n c B d tn gW gL l s ws) (htw : TWok TW) (ht : tn ≤ 8) : WI own Rp w G G TW { st0 l s tn with ws := ws } :=
  wi_at htw H.kG H.cf H.ty ht H.hk H.len H.wu
theorem Fw.store {own : Nat → Prop} {Rp : List Int → Mc → Fa → Prop} (H : Fw TW w G A n c B d tn gW gL l s ws) (htw : TWok TW) (ht : tn ≤ 8) (k : Nat) (v : Int) (hv : u64 v) : WI own Rp (w.setCell ⟨gW, k, none⟩ (.int .u64 v)) G G TW { st0 l s tn with ws := ws.set k v } :=
  wi_store htw H.kG H.cf H.ty ht H.hk H.len H.wu k v hv
theorem Fw.new (y : World) (hcf : Cf y A n l) (hty : TyA y A n 3) (hst : ∀ x ∈ s, 0 ≤ x ∧ x < 9223372036854775808) (hk : Bk y gW 42 (wc64 (iniI l s tn))) :
    Fw TW (y.alloc (.cells #[.slice A n c, .slice B n d, .int .i64 tn, .slice (some ⟨gW, 0, none⟩) (totI l tn) (totI l tn), .slice (some ⟨gL, 0, none⟩) (2 * n) (2 * n), .int .i64 0, .slice none 0 0, .slice none 0 0, .slice none 0 0, .slice none 0 0] TW)) y.heap.size A n c B d tn gW gL l s (iniI l s tn) :=
  ⟨Bk.new _ _ _, hcf.alloc _, hty.alloc _, hk.alloc _, by rw [iniI, chansI_len]; simp, iniI_u hst⟩
theorem Fw.cell (H : Fw TW w G A n c B d tn gW gL l s ws) {k : Nat} (hk : k < totI l tn) : w.cell? ⟨gW, k, none⟩ = some (.int .u64 (ws.getD k 0)) := by
  rw [H.hk.cell k]
  unfold wc64
  have := H.len
  simp [List.getD, List.getElem?_eq_getElem (show k < ws.length by omega)]
end
section
variable {own : Nat → Prop} {Rp : List Int → Mc → Fa → Prop} {w : World} {base G : Nat} {TW : TypeId} {s : St}
theorem WI.cfg (H : WI own Rp w base G TW s) : ∃ A n c B m d, w.cell? ⟨G, 0, none⟩ = some (.slice A n c) ∧ w.cell? ⟨G, 1, none⟩ = some (.slice B m d) ∧ w.cell? ⟨G, 2, none⟩ = some (.int .i64 s.th) ∧ Cf w A n s.l := by
  obtain ⟨qs, ⟨h, H⟩, -⟩ := H
  have bk := H.bk
  rw [Hd.cells] at bk
  obtain ⟨k0, k1, k2, -⟩ := bk10 bk
  exact ⟨_, _, _, _, _, _, k0, k1, k2, H.cf⟩
theorem WI.words (H : WI own Rp w base G TW s) : ∃ MA mn mc, w.cell? ⟨G, 3, none⟩ = some (.slice MA mn mc) ∧ IsI .u64 w MA mn s.ws ∧ mn ≤ 1000000 := by
  obtain ⟨qs, ⟨h, H⟩, -⟩ := H
  have bk := H.bk
  rw [Hd.cells] at bk
  obtain ⟨-, -, -, k3, -⟩ := bk10 bk
  exact ⟨_, _, _, k3, H.mi, H.mn⟩
theorem WI.lt (H : WI own Rp w base G TW s) : base ≤ G ∧ G < w.heap.size := by
  obtain ⟨qs, ⟨h, H⟩, -⟩ := H
  exact ⟨H.hG, H.bk.lt⟩
theorem WI.rowF (H : WI own Rp w base G TW s) : ∃ A c, w.cell? ⟨G, 9, none⟩ = some (.slice A s.ms.length c) := by
  obtain ⟨qs, ⟨h, H⟩, I⟩ := H
  have bk := H.bk
  have hl : h.fs.length = qs.length := H.fr.1
  have hm : qs.length = s.ms.length := I.ln
  rw [Hd.cells] at bk
  obtain ⟨-, -, -, -, -, -, -, -, -, k9, -⟩ := bk10 bk
  rcases H.rF.2 with ⟨h1, h2⟩ | ⟨g, cap, cur, h1, -⟩
  · have h0 : s.ms.length = 0 := by
      have : h.fs.length = 0 := h2
      omega
    rw [h1] at k9
    exact ⟨none, 0, by rw [k9, h0]⟩
  · rw [h1] at k9
    refine ⟨some ⟨g, 0, none⟩, cap, ?_⟩
    rw [k9, show h.fs.length = s.ms.length by omega]
/-- The outcome of a frame, read out of the world. -/
theorem WI.fend {NX EN RS : FuncId} (K : Knows own Rp NX EN RS) (H : WI own Rp w base G TW s) {i : Nat} {x : Mc} (hx : s.ms[i]? = some x) (ho : own x.what) :
    ∃ (gF cF : Nat) (FA : Option Addr) (fn fc : Nat) (FB : Option Addr) (fm fd : Nat) (code pc : Int), w.cell? ⟨G, 9, none⟩ = some (.slice (some ⟨gF, 0, none⟩) s.ms.length cF) ∧
      w.cell? ⟨gF, i * 5, none⟩ = some (.int .i64 code) ∧ w.cell? ⟨gF, i * 5 + 1, none⟩ = some (.int .i64 pc) ∧ w.cell? ⟨gF, i * 5 + 2, none⟩ = some (.slice FA fn fc) ∧ w.cell? ⟨gF, i * 5 + 3, none⟩ = some (.slice FB fm fd) ∧ w.cell? ⟨gF, i * 5 + 4, none⟩ = some (.slice none 0 0) ∧
      ∀ W, Below w.heap.size w W → Calls Tryz.prog EN #[.agg #[.int .i64 code, .int .i64 pc, .slice FA fn fc, .slice FB fm fd, .slice none 0 0]] W fun e w' => e = .returned (.tuple #[.agg #[.int .i64 x.ok, .int .u64 x.ov], .bool ((x.at_ : Int) == 0)]) ∧ Below W.heap.size W w' := by
  obtain ⟨qs, ⟨h, H⟩, I⟩ := H
  have hln : qs.length = s.ms.length := I.ln
  have hil := (List.getElem?_eq_some_iff.1 hx).1
  have hq : qs[i]? = some (qs[i]'(by omega)) := List.getElem?_eq_getElem (by omega)
  generalize qs[i]'(by omega) = q at hq
  have hfl : h.fs.length = qs.length := H.fr.1
  obtain ⟨FA, fn, fc, FB, fm, fd, gF, cF, hfr, -, eF, hif, hrF⟩ := H.frame hq
  have bk := H.bk
  rw [Hd.cells, eF] at bk
  obtain ⟨-, -, -, -, -, -, -, -, -, k9, -⟩ := bk10 bk
  obtain ⟨f0, f1, f2, f3, f4⟩ := rg5 hrF
  have hmv := I.mv i x hx
  refine ⟨gF, cF, FA, fn, fc, FB, fm, fd, q.code, q.pc, ?_, f0, f1, f2, f3, f4, fun W hW => (K.good _ x q I.cap hmv ho (I.rp i x q hx hq ho) W _ (Fr.below hfr hW)).2⟩
  rw [k9, show h.fs.length = s.ms.length by omega]
theorem WI.mv (H : WI own Rp w base G TW s) {i : Nat} {x : Mc} (hx : s.ms[i]? = some x) : Mv s.l.length x := by
  obtain ⟨qs, -, I⟩ := H
  exact I.mv i x hx
theorem WI.cap (H : WI own Rp w base G TW s) : Cap s.l := by
  obtain ⟨qs, -, I⟩ := H
  exact I.cap
theorem WI.wu (H : WI own Rp w base G TW s) : ∀ v ∈ s.ws, u64 v := by
  obtain ⟨qs, -, I⟩ := H
  exact I.wu
end
/-- What is known when a machine and its frame are about to be stored, in the world of any law. -/
theorem two_storesW {w : World} {G r gL cL gF cF : Nat} {TW : TypeId} {hd : Hd} {st : St} {x : Mc} {q : Fa} {cs : Array Value} (H : WdH w G G TW hd st) (hr : r < st.ms.length) (hq : r < st.qs.length) (eL : hd.vL = .slice (some ⟨gL, 0, none⟩) st.ms.length cL) (eF : hd.vF = .slice (some ⟨gF, 0, none⟩) hd.fs.length cF) (hf : FrA w cs q) :
    ∃ w5, (storeCells ⟨gL, r * 14, none⟩ (Mc.cells hd.A hd.n hd.c hd.B hd.m hd.d st.th x).toList).run Tryz.prog w = .ok () w5 ∧
    (∃ a0 a1 a2 a3 a4, w5.rangeAt gF (r * 5) [a0, a1, a2, a3, a4]) ∧
    (∀ j, w5.frozen? ⟨gF, j, none⟩ = false) ∧
    (Bk w5 G TW (hd.cells st)) ∧ (∀ T, T ≠ 81 → Kp w w5 T) ∧
    (∀ wz, wz = w5.setCells gF (r * 5) cs.toList → (∃ hd2, WdH wz G G TW hd2 { st with ms := st.ms.set r x, qs := st.qs.set r q }) ∧ Below G w wz) := by
  have oL := H.rL
  rw [eL] at oL
  have oF := H.rF
  rw [eF] at oF
  have hxx := List.getElem?_eq_getElem hr
  have hqq := List.getElem?_eq_getElem hq
  have hrg := own_range (mcs_len hd st) oL hxx
  obtain ⟨FA, fn, fc, FB, fm, fd, g2, c2, -, -, e2, hif, hrF⟩ := H.frame hqq
  rw [eF] at e2
  cases e2
  have nLF : gL ≠ gF := own_two oL oF (by decide)
  have nLG : gL ≠ G := own_ne oL H.bk H.tw.2.2.1
  have kk : ∀ T, T ≠ 81 → Kp w (w.setCells gL (r * 14) (Mc.cells hd.A hd.n hd.c hd.B hd.m hd.d st.th x).toList) T := fun T a => kp_own oL a _ _
  have X5 := H.setX eL r hr x
  have hf5 : FrA (w.setCells gL (r * 14) (Mc.cells hd.A hd.n hd.c hd.B hd.m hd.d st.th x).toList) cs q := Fr.kp hf (kk _ (by decide)) (kk _ (by decide))
  have X6 := X5.setQ eF r hif cs q hf5 H.fsz
  have ht14 : w.there gL (r * 14) 14 := there_range hrg (H.frozL eL)
  refine ⟨_, store_cells (cells := Mc.cells hd.A hd.n hd.c hd.B hd.m hd.d st.th x) ht14 (mc_one _ _ _ _ _ _ _ _), ⟨_, _, _, _, _, World.rangeAt_setCells_apart hrF gL (r * 14) _ (Or.inl (Ne.symm nLF))⟩, fun j => ?_, H.bk.grown (grown_sets _ _ w) (by simpa using Ne.symm nLG), kk, fun wz hz => ?_⟩
  · rw [World.frozen?_setCells]
    exact H.frozF eF j
  · subst hz
    exact ⟨⟨_, X6⟩, below_setCells _ _ (below_setCells _ _ (Below.refl G w) (oL.lt gL rfl).1) (oF.lt gF rfl).1⟩
/-- An outcome that lies beside the world is kept. -/
theorem WI.keep {own : Nat → Prop} {Rp : List Int → Mc → Fa → Prop} {w : World} {base G : Nat} {TW : TypeId} {s : St} (H : WI own Rp w base G TW s) {g : Nat} {a b : Int} (k : Bk w g 47 #[.int .i64 a, .int .u64 b]) : WI own Rp w base G TW { s with ex := (g, a, b) :: s.ex } := by
  obtain ⟨qs, ⟨h, H1⟩, I⟩ := H
  refine ⟨qs, ⟨h, ⟨H1.tw, H1.bk, H1.hG, H1.cf, H1.cty, H1.mi, H1.mty, H1.mn, H1.rL, H1.rT, H1.rP, H1.rF, H1.fr, H1.pa, fun hx x hm => ?_⟩⟩, ⟨I.cap, I.ln, I.mv, I.rp, I.wu, I.pl⟩⟩
  rcases List.mem_cons.1 (show x ∈ (g, a, b) :: s.ex from hm) with rfl | hm
  · exact k
  · exact H1.ex hx x hm
theorem WI.kept {own : Nat → Prop} {Rp : List Int → Mc → Fa → Prop} {w : World} {base G : Nat} {TW : TypeId} {s : St} (H : WI own Rp w base G TW s) (hx : TW ≠ 47) {g : Nat} {a b : Int} (hm : (g, a, b) ∈ s.ex) : Bk w g 47 #[.int .i64 a, .int .u64 b] := by
  obtain ⟨qs, ⟨h, H1⟩, I⟩ := H
  exact H1.ex hx _ hm
theorem stp_ex (s : St) (i : Nat) : (stp s i).ex = s.ex := by
  unfold stp
  split
  · rfl
  · split
    · rfl
    · rfl
end Go.Proofs.YtepngbdjobckbaaGreat
