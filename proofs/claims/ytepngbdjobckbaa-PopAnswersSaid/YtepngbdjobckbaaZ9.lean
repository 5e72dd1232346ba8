/- The walk of PopAnswers. -/
import Derived.Test.YtepngbdjobckbaaA9
import Derived.Test.YtepngbdjobckbaaYI
import Derived.Test.YtepngbdjobckbaaG3
import Derived.Test.YtepngbdjobckbaaS0
import Derived.Test.YtepngbdjobckbaaG6
namespace Go.Proofs.Ytepngbdjobckbaa
open Go.RowKit
set_option linter.unusedVariables false
set_option linter.unusedSimpArgs false
theorem same9_wi {w : World} {base G i : Nat} {s : St} {x : Mc} (H : WI Own9 Rp9 w base G 75 s) (hx : s.ms[i]? = some x) (ho : Own9 x.what) :
    Calls Try.prog 30 #[.pointer (some ⟨G, 0, none⟩), .int .i64 i] w fun e w' => e = .returned (.bool true) ∧ Below w.heap.size w w' := by
  obtain ⟨qs, ⟨h, Hw⟩, I⟩ := H
  have hi := (List.getElem?_eq_some_iff.1 hx).1
  have hq' : i < qs.length := by have := I.ln; simp only at this; omega
  have hq : qs[i]? = some qs[i] := List.getElem?_eq_getElem hq'
  generalize qs[i] = q at hq
  have mvx := I.mv i x hx
  have hl : s.l.length = h.n := Hw.cf.len
  exact same9_yes w base G i h _ x q Hw hx hq (by rw [← hl]; exact mvx) ho (knows9.good _ x q I.cap mvx ho (I.rp i x q hx hq ho))
theorem grown_cell {w w' : World} {g : Nat} {p : Addr} {v : Value} (hg : w.grownBy w' (some g)) (hne : p.block ≠ g) (h : w.cell? p = some v) : w'.cell? p = some v := by
  have hb := hg.block p.block (block_lt h) (fun e => by injection e with e; exact hne e)
  unfold World.cell? at h ⊢
  rw [hb]
  exact h
/-- The words of the world, and what its one machine holds. -/
theorem WI.wd {own : Nat → Prop} {Rp : List Int → Mc → Fa → Prop} {w : World} {base G : Nat} {TW : TypeId} {s : St} (H : WI own Rp w base G TW s) : ∃ MA mn mc, w.cell? ⟨G, 3, none⟩ = some (.slice MA mn mc) ∧ IsI .u64 w MA mn s.ws ∧ TyA w MA mn 27 ∧ mn = s.ws.length := by
  obtain ⟨qs, ⟨h, H⟩, -⟩ := H
  have bk := H.bk
  rw [Hd.cells] at bk
  obtain ⟨-, -, -, k3, -⟩ := bk10 bk
  exact ⟨_, _, _, k3, H.mi, H.mty, H.mi.len.symm⟩
theorem WI.mth {own : Nat → Prop} {Rp : List Int → Mc → Fa → Prop} {w : World} {base G : Nat} {TW : TypeId} {s : St} {x : Mc} (H : WI own Rp w base G TW s) (hm : s.ms = [x]) : ∃ gL cL, w.cell? ⟨G, 6, none⟩ = some (.slice (some ⟨gL, 0, none⟩) 1 cL) ∧ w.cell? ⟨gL, 10, none⟩ = some (.int .u64 x.t) ∧ w.cell? ⟨gL, 11, none⟩ = some (.int .u64 x.h) ∧ base ≤ gL := by
  obtain ⟨qs, ⟨h, H⟩, -⟩ := H
  have h1 : s.ms.length = 1 := by rw [hm]; rfl
  obtain ⟨gL, cL, eL, hb⟩ := H.rowL (i := 0) (by show 0 < s.ms.length; omega)
  have bk := H.bk
  rw [Hd.cells, eL] at bk
  obtain ⟨-, -, -, -, -, -, k6, -⟩ := bk10 bk
  have oL := H.rL
  rw [eL] at oL
  have hr := own_range (mcs_len h _) oL (i := 0) (x := x) (by show s.ms[0]? = some x; rw [hm]; rfl)
  have e6 : ({ s with qs := qs } : St).ms.length = 1 := h1
  rw [e6] at k6
  rw [Nat.zero_mul] at hr
  refine ⟨gL, cL, k6, ?_, ?_, hb⟩
  · have := hr 10 _ rfl
    rwa [Nat.zero_add] at this
  · have := hr 11 _ rfl
    rwa [Nat.zero_add] at this
/-- What holds while an answer is drawn. -/
structure Pz (own : Nat → Prop) (Rp : List Int → Mc → Fa → Prop) (TW : TypeId) (w : World) (G gC : Nat) (st : St) (ad pw : Addr) (mn mc : Nat) (v0 : Int) (r : List Int) (W : World) : Prop where
  wi : WI own Rp W G G TW st
  cd : Cd W gC r 0
  bl : Below w.heap.size w W
  k3 : W.cell? ⟨G, 3, none⟩ = some (.slice (some ad) mn mc)
  cw : W.cell? pw = some (.int .u64 v0)
  h : gC < G ∧ w.heap.size ≤ gC ∧ pw.block ≠ gC
section
variable {own : Nat → Prop} {Rp : List Int → Mc → Fa → Prop} {TW : TypeId} {w : World} {G gC : Nat} {st : St} {ad pw : Addr} {mn mc : Nat} {v0 : Int} {r r' : List Int} {W W' : World}
theorem Pz.below (H : Pz own Rp TW w G gC st ad pw mn mc v0 r W) (hb : Below W.heap.size W W') : Pz own Rp TW w G gC st ad pw mn mc v0 r W' :=
  ⟨H.wi.below hb, Cd.below H.cd hb, H.bl.trans (hb.mono H.bl.size), (hb.cell (block_lt H.k3)).trans H.k3, (hb.cell (block_lt H.cw)).trans H.cw, H.h⟩
theorem Pz.next (H : Pz own Rp TW w G gC st ad pw mn mc v0 r W) (hg : W.grownBy W' (some gC)) (hc : Cd W' gC r' 0) : Pz own Rp TW w G gC st ad pw mn mc v0 r' W' :=
  ⟨WI.codes H.wi hg H.cd H.h.1, hc, below_grownBy H.bl hg (Nat.le_refl _) H.h.2.1, grown_cell hg (by show G ≠ gC; have := H.h.1; omega) H.k3, grown_cell hg H.h.2.2 H.cw, H.h⟩
theorem Pz.stored (H : Pz own Rp TW w G gC st ad pw mn mc v0 r W) {g : Nat} (hg : G < g) {zs : Array Value} (k : Bk W g 53 zs) (hz : zs.size = 4) (a b c d : Value) : Bk (W.setCells g 0 [a, b, c, d]) g 53 #[a, b, c, d] ∧ WI own Rp (W.setCells g 0 [a, b, c, d]) G G TW st ∧ Cd (W.setCells g 0 [a, b, c, d]) gC r 0 ∧ Below w.heap.size w (W.setCells g 0 [a, b, c, d]) :=
  ⟨Bk.stored (cells := #[a, b, c, d]) (hide rfl) k hz, H.wi.oth (grown_sets _ 0 W) k (by omega) (by decide) (by decide) (by decide) (by decide) (by decide) (by decide), Cd.belowB (B := g) H.cd (below_setCells _ 0 (Below.refl g W) (Nat.le_refl _)) (by have := H.h.1; omega), below_setCells _ 0 H.bl (by have := H.h.1; have := H.h.2.1; omega)⟩
/-- An answer lies ready. -/
def Az (own : Nat → Prop) (Rp : List Int → Mc → Fa → Prop) (TW : TypeId) (w : World) (G gC gA : Nat) (st : St) (W : World) : Prop := ∃ (va : Int) (ya : Bool) (r : List Int), Bk W gA 53 #[.int .u64 va, .bool ya, .bool false, .slice none 0 0] ∧ Go.Proofs.Ytepngbdjobckbaa.u64 va ∧ WI own Rp W G G TW st ∧ Cd W gC r 0 ∧ Below w.heap.size w W
theorem Az.set {w8 : World} {gA : Nat} {va v1 : Int} {ya : Bool} (hGA : G < gA) (hGC : gC < G) (hwg : w.heap.size ≤ gC) (ka : Bk w8 gA 53 #[.int .u64 va, .bool ya, .bool false, .slice none 0 0]) (hv : Go.Proofs.Ytepngbdjobckbaa.u64 v1) (hwi : WI own Rp w8 G G TW st) (hcd : Cd w8 gC r 0) (hbw : Below w.heap.size w w8) : Az own Rp TW w G gC gA st (w8.setCell ⟨gA, 0, none⟩ (.int .u64 v1)) :=
  ⟨v1, ya, r, ka.set_ 0 (.int .u64 v1), hv, hwi.oth (grownBy_setCell _ _ _ _) ka (by omega) (by decide) (by decide) (by decide) (by decide) (by decide) (by decide), Cd.belowB (B := gA) hcd ((Below.refl gA w8).setCell (p := ⟨gA, 0, none⟩) (Nat.le_refl _) _) (by omega), hbw.setCell (p := ⟨gA, 0, none⟩) (by show w.heap.size ≤ gA; omega) _⟩
end
set_option maxHeartbeats 16000000 in
set_option maxRecDepth 100000 in
theorem answers9_walk (a0 : Option Addr) (len0 cap0 : Nat) (z0 : List Int) (a3 : Option Addr) (len3 cap3 : Nat) (w : World) (w0 : Row .u8 w a0 len0 cap0 z0) (w3 : AnsRow w a3 len3) :
    Calls Try.prog 7 #[.slice a0 len0 cap0, .slice a3 len3 cap3] w fun e w' => e = .returned (.bool true) ∧ Below w.heap.size w w' := by
  obtain ⟨hI1, hc1, hm1, hwf1⟩ := w0.isI
  have H1 := hide hI1
  have HB1 := hide (show ∀ x ∈ z0.take len0, 0 ≤ x ∧ x ≤ 255 from fun x hx => bounds_u8 (hwf1 x hx))
  have AR := hide w3
  clear hwf1 w0 hI1 w3
  generalize z0.take len0 = l0 at H1 HB1
  have hcm1 : cap0 ≤ 9223372036854775807 := hm1
  have hl3 : len3 ≤ 9223372036854775807 := AR.out.1
  clear hm1
  go_enter Try.func7, Try.ntmps7
  go_wp2_with fail
  refine (awake9_any _).mono ?_
  rintro e y1 ⟨rfl, hb1'⟩
  have hs1 := hb1'.size
  go_wp2_with fail
  refine (new_any y1 _ _ _ _ 60 (H1.out.below hb1') HB1.out (by omega) hc1 hcm1).mono ?_
  rintro e y2 ⟨rfl, hcd, hb2'⟩
  have BW2 := hide (hb1'.trans (hb2'.mono hs1))
  have CD2 := hide hcd
  clear hb1' hb2' hcd H1 HB1
  generalize hgC : y1.heap.size = gC at *
  clear hgC
  go_wp2_with fail
  refine (config_own _ _ _ _ CD2.out).mono ?_
  rintro e y3 ⟨gA, n, c, B, d, tn, l, s, r', rfl, hgA, hown, hln, hlb, hsi, hsty, hn1, hn3, hsl, hst, ht2, ht4, hcd3, hg⟩
  have BW3 := hide (below_grownBy BW2.out hg (Nat.le_refl _) hs1)
  have OW := hide hown
  have SI := hide hsi
  have STY := hide hsty
  have HLB := hide hlb
  have SB := hide hst
  have CD3 := hide hcd3
  have HSL := hide hsl
  have hgC3 := hcd3.lt
  have hgCA : gC < gA := Nat.lt_of_lt_of_le CD2.out.lt hgA
  clear hown hlb hsi hsty hst hcd3 hg CD2 BW2 hsl
  go_upto_region 5 with fail
  have KX := hide (Bk.new y3 36 #[.slice (some ⟨gA, 0, none⟩) n c, .slice B n d, .int .i64 tn])
  have HB4 := hide (below_new y3 (.cells #[.slice (some ⟨gA, 0, none⟩) n c, .slice B n d, .int .i64 tn] 36))
  have OW4 := hide (own_bel OW.out HB4.out)
  have SI4 := hide (SI.out.below HB4.out)
  have ST4 := hide (STY.out.below HB4.out)
  have CD4 := hide (Cd.below CD3.out HB4.out)
  have BW4 := hide (BW3.out.trans (HB4.out.mono BW3.out.size))
  have hgX : gA < y3.heap.size := (OW.out.lt gA rfl).2
  clear OW SI STY CD3 BW3 HB4
  generalize (y3.alloc (.cells #[.slice (some ⟨gA, 0, none⟩) n c, .slice B n d, .int .i64 tn] 36)) = y4 at *
  generalize y3.heap.size = gX at *
  obtain ⟨v4, hv4⟩ : ∃ v, codeV r' 4 = v := ⟨_, rfl⟩
  have hv4b := codeV_bd r' 4 (by omega)
  rw [hv4] at hv4b
  obtain ⟨cv, hcv⟩ : ∃ cv : Int, 1 + v4 = cv := ⟨_, rfl⟩
  have eW : IntKind.i64.wrap (1 + v4) = cv := by rw [hcv]; exact IntWalk.i64_in cv ⟨by omega, by omega⟩
  have hcvb : 1 ≤ cv ∧ cv ≤ 4 := by omega
  have HCV := hide hcvb
  have NT := hide (fun W (hW : Cd W gC r' 0) => show Calls Try.prog 20 #[.pointer (some ⟨gC, 0, none⟩), .int .i64 4] W fun e w' => e = .returned (.int .i64 v4) ∧ Cd w' gC r'.tail 0 ∧ W.grownBy w' (some gC) by
    have := codeNext W gC r' 0 4 hW (by omega) (by omega)
    rwa [hv4] at this)
  have d2 : decide (n ≤ 0) = false := by simp; omega
  have dn : ¬ n = 0 := by omega
  have dn2 : 0 < n := by omega
  obtain ⟨f0, f1, f2, -⟩ := bkm3 KX.out
  clear hv4 hcv hv4b hcvb
  go_cut [] (fun wx => Cf wx (some ⟨gA, 0, none⟩) n (l.set 0 cv) ∧ TyA wx (some ⟨gA, 0, none⟩) n 3 ∧ IsI .u64 wx B n s ∧ Bk wx gX 36 #[.slice (some ⟨gA, 0, none⟩) n c, .slice B n d, .int .i64 tn] ∧ Cd wx gC r'.tail 0 ∧ Below w.heap.size w wx)
  case first =>
    go_region_law (first
      | (refine step_call _ (by rfl) 20 _ (by go_simp) (NT.out _ (CD4.out.drewN 1)) ?_; rintro e w4 ⟨rfl, hcd5, hg5⟩; refine ⟨_, rfl, ?_⟩; have OW5 := hide (own_codes (own_bel OW4.out (Below.refl y4.heap.size y4).drew) hg5 (CD4.out.drewN 1) (by decide)); have KX5 := hide (bk_codes (KX.out.below (Below.refl y4.heap.size y4).drew KX.out.lt) hg5 (CD4.out.drewN 1) (by decide)); have SI5 := hide (isI_codes (SI4.out.below (Below.refl y4.heap.size y4).drew) (ST4.out.below (Below.refl y4.heap.size y4).drew) hg5 (CD4.out.drewN 1) (by decide)); have BW5 := hide (below_grownBy (BW4.out.trans (Below.refl w.heap.size y4).drew) hg5 (Nat.le_refl _) hs1); have CD5 := hide hcd5; obtain ⟨f0, f1, f2, -⟩ := bkm3 KX5.out; have a0 := own_cell0 OW5.out hln hn1; have af := OW5.out.frozenAt 0; clear hcd5 hg5))
    all_goals
      go_wp2_with fail
      go_meet
      case rel =>
        have CS := cap_set OW5.out hln (by omega) HLB.out (v := cv) (by have := HCV.out; omega)
        exact ⟨CS.1, CS.2.1, SI5.out.1.kp SI5.out.2 (CS.2.2 _ (by decide)), CS.2.2 _ (by decide) _ _ KX5.out, Cd.belowB CD5.out ((Below.refl gA _).setCell (p := ⟨gA, 0, none⟩) (Nat.le_refl _) _) hgCA, BW5.out.setCell (p := ⟨gA, 0, none⟩) (show w.heap.size ≤ gA by omega) _⟩
  case rest =>
  obtain ⟨hcf, hty, hsi, hkx, hcd, hbw⟩ := hcut
  have CF := hide hcf
  have TY := hide hty
  have SI := hide hsi
  have CD := hide hcd
  have BW := hide hbw
  obtain ⟨f0, f1, f2, -⟩ := bkm3 hkx
  have hgw6 : gX < wc.heap.size := hkx.lt
  have hl2 : (l.set 0 cv).length = n := by rw [List.length_set, hln]
  have HC0 : Hid (1 ≤ (l.set 0 cv).getD 0 0 ∧ (l.set 0 cv).getD 0 0 ≤ 4) := hide (by rw [getD_set_self (by omega)]; exact HCV.out)
  have HL2 := hide hl2
  clear hcf hty hsi hkx hcd hbw OW4 SI4 ST4 CD4 BW4 KX NT eW d2 dn HLB hl2 HCV
  generalize l.set 0 cv = l1 at *
  clear hln
  go_wp2_with fail
  refine (begin_any wc (some ⟨gA, 0, none⟩) n c l1 B d s tn CF.out SI.out SB.out (by omega) (by omega)).mono ?_
  rintro e y5 ⟨gW, gL, rfl, hk, hgw, hb5⟩
  have hgC6 : gC < y5.heap.size := Nat.lt_of_lt_of_le CD.out.lt hb5.size
  have BW5 := hide (BW.out.trans (hb5.mono BW.out.size))
  have CD5 := hide (Cd.below CD.out hb5)
  have FW := hide (Fw.new (TW := 75) (gL := gL) (B := B) (d := d) (s := s) (c := c) (tn := tn) (gW := gW) y5 (CF.out.below hb5) (TY.out.below hb5) SB.out hk)
  clear hk hgw hb5 BW CF TY SI CD f0 f1 f2
  go_upto_region 7 with fail
  have CD6 := hide (Cd.below CD5.out (below_new y5 (.cells #[.slice (some ⟨gA, 0, none⟩) n c, .slice B n d, .int .i64 tn, .slice (some ⟨gW, 0, none⟩) (totI l1 tn) (totI l1 tn), .slice (some ⟨gL, 0, none⟩) (2 * n) (2 * n), .int .i64 0, .slice none 0 0, .slice none 0 0, .slice none 0 0, .slice none 0 0] 75)))
  have BW6 := hide (BW5.out.trans ((below_new y5 (.cells #[.slice (some ⟨gA, 0, none⟩) n c, .slice B n d, .int .i64 tn, .slice (some ⟨gW, 0, none⟩) (totI l1 tn) (totI l1 tn), .slice (some ⟨gL, 0, none⟩) (2 * n) (2 * n), .int .i64 0, .slice none 0 0, .slice none 0 0, .slice none 0 0, .slice none 0 0] 75)).mono BW5.out.size))
  clear CD5 BW5
  generalize (y5.alloc (.cells #[.slice (some ⟨gA, 0, none⟩) n c, .slice B n d, .int .i64 tn, .slice (some ⟨gW, 0, none⟩) (totI l1 tn) (totI l1 tn), .slice (some ⟨gL, 0, none⟩) (2 * n) (2 * n), .int .i64 0, .slice none 0 0, .slice none 0 0, .slice none 0 0, .slice none 0 0] 75)) = y6 at *
  generalize y5.heap.size = G at *
  have hbw0 : ∃ N0, N0 = totI l1 tn := ⟨_, rfl⟩
  obtain ⟨N0, hN0⟩ := hbw0
  have hcapL := hcap_len FW.out
  have hN1 : 1 ≤ N0 ∧ N0 ≤ 256 := by rw [hN0]; exact tot_small hcapL (by rw [HL2.out]; exact hn1) (by rw [HL2.out]; exact hn3) ht4
  have hwG : w.heap.size ≤ G := by have := BW6.out.size; have := FW.out.kG.lt; omega
  have hGG : gC < G := hgC6
  have AD := hide (add9_wi y6 G G _ 4 0 0 0 (FW.out.wi tw9 (by omega)) (by omega) (by show 0 < l1.length; rw [HL2.out]; omega) (by omega) (by unfold Go.Proofs.Ytepngbdjobckbaa.u64; omega) (by show 0 ≤ 1000; omega))
  clear hcapL
  go_wp2_with fail
  refine AD.out.mono ?_
  rintro e y8 ⟨rfl, hwi6, hb6, -⟩
  obtain ⟨s1, hs1ms, hs1w, hwi6⟩ : ∃ s1 : St, s1.ms = [mc0 4 0 0 0] ∧ s1.ws.length = N0 ∧ WI Own9 Rp9 y8 G G 75 s1 := ⟨_, rfl, (by rw [hN0]; exact ini_len l1 s tn), hwi6⟩
  have HS1 := hide hs1ms
  have HSW := hide hs1w
  have WI6 := hide hwi6
  have CD7 := hide (Cd.belowB CD6.out hb6 hGG)
  have BW7 := hide (BW6.out.trans (hb6.mono hwG))
  clear hs1ms hs1w hwi6 hb6 FW CD6 BW6 AD hN0 HC0 HL2 HSL SB
  go_wp2
  go_loopg [8, 9] 30 (fun g sI sA wr => ∃ (j : Nat) (r : List Int) (st : St) (x : Mc), g + j = 30 ∧ sI = .int .i64 j ∧ st.ms = [x] ∧ st.ws.length = N0 ∧ Own9 x.what ∧ WI Own9 Rp9 wr G G 75 st ∧ Cd wr gC r 0 ∧ Below w.heap.size w wr)
  case atStart => exact ⟨0, _, s1, _, by omega, rfl, HS1.out, HSW.out, rfl, WI6.out, CD7.out, BW7.out⟩
  case round =>
    obtain ⟨j, r, st, x, hj, rfl, hms, hws, how, hwi, hcd, hbw⟩ := hrel
    have HMS := hide hms
    have HWS := hide hws
    have HOW := hide how
    have HWI := hide hwi
    have HCD := hide hcd
    have HBW := hide hbw
    clear hms hws how WI6 CD7 BW7 HS1 HSW hwi hcd hbw
    by_cases hlt : j < 30
    · have NX := hide (fun (W : World) (r : List Int) (m : Nat) (hW : Cd W gC r 0) (h1 : 1 ≤ m) (h2 : m ≤ 256) => show Calls Try.prog 20 #[.pointer (some ⟨gC, 0, none⟩), .int .i64 m] W fun e w' => e = .returned (.int .i64 (codeV r m)) ∧ Cd w' gC r.tail 0 ∧ W.grownBy w' (some gC) from codeNext W gC r 0 m hW (by omega) (by omega))
      obtain ⟨MA, mn, mc, k3, hI, hty, hmn⟩ := HWI.out.wd
      rw [HWS.out] at hmn
      subst hmn
      obtain ⟨q0, hq0⟩ := Int.eq_ofNat_of_zero_le (codeV_bd r (mn : Int) (by omega)).1
      have hq1 := (codeV_bd r (mn : Int) (by omega)).2
      rw [hq0] at hq1
      have hqn : q0 < mn := by omega
      obtain ⟨ad, rfl, -, hcw⟩ := hI.at_ hqn
      obtain ⟨v0, hv0⟩ : ∃ v, st.ws.getD q0 0 = v := ⟨_, rfl⟩
      rw [hv0] at hcw
      have hvu : Go.Proofs.Ytepngbdjobckbaa.u64 v0 := by
        rw [← hv0, List.getD, List.getElem?_eq_getElem (by rw [HWS.out]; exact hqn)]
        exact HWI.out.wu _ (List.getElem_mem _)
      have hadg : (ad.add q0).block ≠ gC := by
        rw [block_add]
        obtain ⟨A', n', c', l', i', kb, -⟩ := HCD.out
        exact hty.ne kb (by decide) (by omega) ad rfl
      obtain ⟨pw, hpw⟩ : ∃ pw, ad.add q0 = pw := ⟨_, rfl⟩
      rw [hpw] at hcw hadg
      have HPW := hide hpw
      have HVU := hide hvu
      have N1 := hide (fun (W : World) (hW : Cd W gC r 0) => show Calls Try.prog 20 #[.pointer (some ⟨gC, 0, none⟩), .int .i64 mn] W fun e w' => e = .returned (.int .i64 (q0 : Nat)) ∧ Cd w' gC r.tail 0 ∧ W.grownBy w' (some gC) by
        have := NX.out W r mn hW (by omega) (by omega)
        rwa [hq0] at this)
      obtain ⟨v4, hv4⟩ : ∃ v, codeV r.tail ((2 : Nat) : Int) = v := ⟨_, rfl⟩
      have N2 := hide (fun W hW => by have := NX.out W r.tail 2 hW (by omega) (by omega); rwa [hv4] at this)
      obtain ⟨y0, hy0⟩ : ∃ b, (v4 == 1) = b := ⟨_, rfl⟩
      have HY0 := hide (show (v4 == 1) = y0 ∧ decide (v4 = 1) = y0 from ⟨hy0, by rw [← hy0]; rfl⟩)
      have d1 : decide ((q0 : Int) < 0) = false := by simp
      have d2 : decide (mn ≤ q0) = false := by simp; omega
      obtain ⟨hy1, hy2⟩ := HY0.out
      clear hI hty hq0 hq1 hv0 hvu hpw hv4 hy0
      have hpe := HPW.out
      go_upto_region 11 with fail
      go_cut [9] (fun sA wx => ∃ (gA : Nat) (va : Int) (ya : Bool), sA = .pointer (some ⟨gA, 0, none⟩) ∧ G < gA ∧ Bk wx gA 53 #[.int .u64 va, .bool ya, .bool false, .slice none 0 0] ∧ Go.Proofs.Ytepngbdjobckbaa.u64 va ∧ WI Own9 Rp9 wx G G 75 st ∧ Cd wx gC r.tail.tail 0 ∧ Below w.heap.size w wx)
      case first =>
        have P0 : Hid (Pz Own9 Rp9 75 w G gC st ad pw mn mc v0 r wr.drew) := hide ⟨HWI.out.below (Below.refl wr.heap.size wr).drew, HCD.out.drewN 1, HBW.out.trans ((Below.refl wr.heap.size wr).drew.mono HBW.out.size), k3, hcw, hGG, hs1, hadg⟩
        have PA := hide (P0.out.below (below_new _ (.cells #[.int .u64 0, .bool false, .bool false, .slice none 0 0] 53)))
        have KA0 : Hid (Bk (wr.drew.alloc (.cells #[.int .u64 0, .bool false, .bool false, .slice none 0 0] 53)) wr.heap.size 53 #[.int .u64 0, .bool false, .bool false, .slice none 0 0]) := hide (Bk.new wr.drew 53 #[.int .u64 0, .bool false, .bool false, .slice none 0 0])
        have hpl0 : pw.block < wr.heap.size := block_lt P0.out.cw
        have hgl0 : G < wr.heap.size := P0.out.wi.lt.2
        have hgA0 : Hid (G < wr.heap.size) := hide P0.out.wi.lt.2
        (first | clear HWI | skip); (first | clear HCD | skip); (first | clear HBW | skip); (first | clear HMS | skip); (first | clear HWS | skip); (first | clear HOW | skip); (first | clear AR | skip); (first | clear NX | skip); (first | clear HPW | skip); (first | clear HY0 | skip); (first | clear hcm1 | skip); (first | clear hl3 | skip); (first | clear hc1 | skip)
        refine wp_region_L (fun W => W.cell? ⟨G, 3, none⟩ = some (.slice (some ad) mn mc) ∧ W.cell? pw = some (.int .u64 v0)) 22 (by kernel_rfl) ?_
        have P := P0
        clear PA KA0 hpl0 hgl0 hgA0 P0 k3 hcw
        generalize wr.drew = xd at *
        refine wpAnyL_any (i := 0) (oi := ⟨some 32, _, _, _, _, _⟩) (v := ?vvz11_0_1) rfl (by kernel_rfl) (by kernel_rfl) (by kernel_rfl) (by kernel_rfl) (fun _ _ _ h => h) (fun _ => ⟨P.out.k3, P.out.cw⟩) (by rfl) ?hhz11_0_1 ?rrz11_0_1
        case hhz11_0_1 => (intro W; go_simp; try with_reducible rfl)
        (try simp only [Act.put, List.setIfInBounds_toArray, List.set_cons_zero, List.set_cons_succ])
        refine wpAnyL_any (i := 1) (oi := ⟨some 33, _, _, _, _, _⟩) (v := ?vvz11_1_2) rfl (by kernel_rfl) (by kernel_rfl) (by kernel_rfl) (by kernel_rfl) (fun _ _ _ h => h) (fun _ => ⟨P.out.k3, P.out.cw⟩) (by rfl) ?hhz11_1_2 ?rrz11_1_2
        case hhz11_1_2 => (intro W; go_simp; try with_reducible rfl)
        (try simp only [Act.put, List.setIfInBounds_toArray, List.set_cons_zero, List.set_cons_succ])
        refine wpAnyL_any (i := 2) (oi := ⟨some 34, _, _, _, _, _⟩) (v := ?vvz11_2_3) rfl (by kernel_rfl) (by kernel_rfl) (by kernel_rfl) (by kernel_rfl) (fun _ _ _ h => h) (fun _ => ⟨P.out.k3, P.out.cw⟩) (by rfl) ?hhz11_2_3 ?rrz11_2_3
        case hhz11_2_3 => (intro W; go_simp; try with_reducible rfl)
        (try simp only [Act.put, List.setIfInBounds_toArray, List.set_cons_zero, List.set_cons_succ])
        refine wpAnyL_any (i := 3) (oi := ⟨some 35, _, _, _, _, _⟩) (v := ?vvz11_3_4) rfl (by kernel_rfl) (by kernel_rfl) (by kernel_rfl) (by kernel_rfl) (fun _ _ _ h => h) (fun _ => ⟨P.out.k3, P.out.cw⟩) (by rfl) ?hhz11_3_4 ?rrz11_3_4
        case hhz11_3_4 => (intro W; go_simp; try with_reducible rfl)
        (try simp only [Act.put, List.setIfInBounds_toArray, List.set_cons_zero, List.set_cons_succ])
        refine wpAnyL_any (i := 4) (oi := ⟨some 36, _, _, _, _, _⟩) (v := ?vvz11_4_5) rfl (by kernel_rfl) (by kernel_rfl) (by kernel_rfl) (by kernel_rfl) (fun _ _ _ h => h) (fun _ => ⟨P.out.k3, P.out.cw⟩) (by rfl) ?hhz11_4_5 ?rrz11_4_5
        case hhz11_4_5 => (intro W; go_simp; try with_reducible rfl)
        (try simp only [Act.put, List.setIfInBounds_toArray, List.set_cons_zero, List.set_cons_succ])
        refine wpAnyL_take (i := 5) (oi := ⟨some 37, _, _, _, _, _⟩) [15, 16, 20, 22] (v := ?vvz11_5_6) rfl (by kernel_rfl) (by kernel_rfl) (by kernel_rfl) (by kernel_rfl) (fun _ _ _ h => h) ⟨P.out.k3, P.out.cw⟩ (by rfl) ?hhz11_5_6 ?rrz11_5_6
        case hhz11_5_6 => (intro W hW; obtain ⟨k3, hcw⟩ := hW; go_simp; try with_reducible rfl)
        (try simp only [Act.put, List.setIfInBounds_toArray, List.set_cons_zero, List.set_cons_succ])
        refine wpAnyL_any (i := 6) (oi := ⟨some 38, _, _, _, _, _⟩) (v := ?vvz11_6_7) rfl (by kernel_rfl) (by kernel_rfl) (by kernel_rfl) (by kernel_rfl) (fun _ _ _ h => h) (fun _ => ⟨P.out.k3, P.out.cw⟩) (by rfl) ?hhz11_6_7 ?rrz11_6_7
        case hhz11_6_7 => (intro W; go_simp; try with_reducible rfl)
        (try simp only [Act.put, List.setIfInBounds_toArray, List.set_cons_zero, List.set_cons_succ])
        refine wpAnyL_any (i := 7) (oi := ⟨some 39, _, _, _, _, _⟩) (v := ?vvz11_7_8) rfl (by kernel_rfl) (by kernel_rfl) (by kernel_rfl) (by kernel_rfl) (fun _ _ _ h => h) (fun _ => ⟨P.out.k3, P.out.cw⟩) (by rfl) ?hhz11_7_8 ?rrz11_7_8
        case hhz11_7_8 => (intro W; go_simp; try with_reducible rfl)
        (try simp only [Act.put, List.setIfInBounds_toArray, List.set_cons_zero, List.set_cons_succ])
        refine wpAnyL_any (i := 8) (oi := ⟨some 40, _, _, _, _, _⟩) (v := ?vvz11_8_9) rfl (by kernel_rfl) (by kernel_rfl) (by kernel_rfl) (by kernel_rfl) (fun _ _ _ h => h) (fun _ => ⟨P.out.k3, P.out.cw⟩) (by rfl) ?hhz11_8_9 ?rrz11_8_9
        case hhz11_8_9 => (intro W; go_simp; try with_reducible rfl)
        (try simp only [Act.put, List.setIfInBounds_toArray, List.set_cons_zero, List.set_cons_succ])
        refine wpAnyL_any (i := 9) (oi := ⟨some 41, _, _, _, _, _⟩) (v := ?vvz11_9_10) rfl (by kernel_rfl) (by kernel_rfl) (by kernel_rfl) (by kernel_rfl) (fun _ _ _ h => h) (fun _ => ⟨P.out.k3, P.out.cw⟩) (by rfl) ?hhz11_9_10 ?rrz11_9_10
        case hhz11_9_10 => (intro W; go_simp; try with_reducible rfl)
        (try simp only [Act.put, List.setIfInBounds_toArray, List.set_cons_zero, List.set_cons_succ])
        refine wpAnyL_any (i := 10) (oi := ⟨some 42, _, _, _, _, _⟩) (v := ?vvz11_10_11) rfl (by kernel_rfl) (by kernel_rfl) (by kernel_rfl) (by kernel_rfl) (fun _ _ _ h => h) (fun _ => ⟨P.out.k3, P.out.cw⟩) (by rfl) ?hhz11_10_11 ?rrz11_10_11
        case hhz11_10_11 => (intro W; go_simp; try with_reducible rfl)
        (try simp only [Act.put, List.setIfInBounds_toArray, List.set_cons_zero, List.set_cons_succ])
        refine wpAnyL_any (i := 11) (oi := ⟨some 43, _, _, _, _, _⟩) (v := ?vvz11_11_12) rfl (by kernel_rfl) (by kernel_rfl) (by kernel_rfl) (by kernel_rfl) (fun _ _ _ h => h) (fun _ => ⟨P.out.k3, P.out.cw⟩) (by rfl) ?hhz11_11_12 ?rrz11_11_12
        case hhz11_11_12 => (intro W; go_simp; try with_reducible rfl)
        (try simp only [Act.put, List.setIfInBounds_toArray, List.set_cons_zero, List.set_cons_succ])
        refine wpAnyL_take (i := 12) (oi := ⟨some 44, _, _, _, _, _⟩) [13, 14, 15, 16, 18, 19, 20, 22] (v := ?vvz11_12_13) rfl (by kernel_rfl) (by kernel_rfl) (by kernel_rfl) (by kernel_rfl) (fun _ _ _ h => h) ⟨P.out.k3, P.out.cw⟩ (by rfl) ?hhz11_12_13 ?rrz11_12_13
        case hhz11_12_13 => (intro W hW; obtain ⟨k3, hcw⟩ := hW; go_simp; try with_reducible rfl)
        (try simp only [Act.put, List.setIfInBounds_toArray, List.set_cons_zero, List.set_cons_succ])
        refine wpAnyL_any (i := 13) (oi := ⟨some 45, _, _, _, _, _⟩) (v := ?vvz11_13_14) rfl (by kernel_rfl) (by kernel_rfl) (by kernel_rfl) (by kernel_rfl) (fun _ _ _ h => h) (fun _ => ⟨P.out.k3, P.out.cw⟩) (by rfl) ?hhz11_13_14 ?rrz11_13_14
        case hhz11_13_14 => (intro W; go_simp; try with_reducible rfl)
        (try simp only [Act.put, List.setIfInBounds_toArray, List.set_cons_zero, List.set_cons_succ])
        refine wpAnyL_any (i := 17) (oi := ⟨some 49, _, _, _, _, _⟩) (v := ?vvz11_17_15) rfl (by kernel_rfl) (by kernel_rfl) (by kernel_rfl) (by kernel_rfl) (fun _ _ _ h => h) (fun _ => ⟨P.out.k3, P.out.cw⟩) (by rfl) ?hhz11_17_15 ?rrz11_17_15
        case hhz11_17_15 => (intro W; go_simp; try with_reducible rfl)
        (try simp only [Act.put, List.setIfInBounds_toArray, List.set_cons_zero, List.set_cons_succ])
        refine wpAnyL_some 14 [21] (by kernel_rfl) ?_
        refine wpAnyLs_cons (oi := ⟨some 46, _, _, _, _, _⟩) rfl (fun K hK => ?_) ?_
        · refine step_call _ (by rfl) 20 _ (by go_simp) (N1.out _ P.out.cd) ?_
          rintro e w5_14 ⟨rfl, hcd, hg⟩
          refine ⟨_, rfl, ?_⟩
          replace P := hide (P.out.next hg hcd)
          clear hcd hg
          refine hK.out _ _ (fun _ => ⟨P.out.k3, P.out.cw⟩) ?_
          clear hK K
          (try simp only [Act.put, List.setIfInBounds_toArray, List.set_cons_zero, List.set_cons_succ])
          refine wpAnyL_any (i := 15) (oi := ⟨some 47, _, _, _, _, _⟩) (v := ?vvz11_15_16) rfl (by kernel_rfl) (by kernel_rfl) (by kernel_rfl) (by kernel_rfl) (fun _ _ _ h => h) (fun _ => ⟨P.out.k3, P.out.cw⟩) (by rfl) ?hhz11_15_16 ?rrz11_15_16
          case hhz11_15_16 => (intro W; go_simp; try with_reducible rfl)
          (try simp only [Act.put, List.setIfInBounds_toArray, List.set_cons_zero, List.set_cons_succ])
          refine wpAnyL_take (i := 16) (oi := ⟨some 48, _, _, _, _, _⟩) [20, 22] (v := ?vvz11_16_17) rfl (by kernel_rfl) (by kernel_rfl) (by kernel_rfl) (by kernel_rfl) (fun _ _ _ h => h) ⟨P.out.k3, P.out.cw⟩ (by rfl) ?hhz11_16_17 ?rrz11_16_17
          case hhz11_16_17 => (intro W hW; obtain ⟨k3, hcw⟩ := hW; go_simp; try with_reducible rfl)
          (try simp only [Act.put, List.setIfInBounds_toArray, List.set_cons_zero, List.set_cons_succ])
          refine wpAnyL_some 18 [21] (by kernel_rfl) ?_
          refine wpAnyLs_cons (oi := ⟨some 50, _, _, _, _, _⟩) rfl (fun K hK => ?_) ?_
          · refine step_call _ (by rfl) 20 _ (by go_simp) (N2.out _ P.out.cd) ?_
            rintro e w5_14_18 ⟨rfl, hcd, hg⟩
            refine ⟨_, rfl, ?_⟩
            replace P := hide (P.out.next hg hcd)
            clear hcd hg
            refine hK.out _ _ (fun _ => ⟨P.out.k3, P.out.cw⟩) ?_
            clear hK K
            (try simp only [Act.put, List.setIfInBounds_toArray, List.set_cons_zero, List.set_cons_succ])
            refine wpAnyL_any (i := 19) (oi := ⟨some 51, _, _, _, _, _⟩) (v := ?vvz11_19_18) rfl (by kernel_rfl) (by kernel_rfl) (by kernel_rfl) (by kernel_rfl) (fun _ _ _ h => h) (fun _ => ⟨P.out.k3, P.out.cw⟩) (by rfl) ?hhz11_19_18 ?rrz11_19_18
            case hhz11_19_18 => (intro W; go_simp; try with_reducible rfl)
            (try simp only [Act.put, List.setIfInBounds_toArray, List.set_cons_zero, List.set_cons_succ])
            refine wpAnyL_any (i := 20) (oi := ⟨some 52, _, _, _, _, _⟩) (v := ?vvz11_20_19) rfl (by kernel_rfl) (by kernel_rfl) (by kernel_rfl) (by kernel_rfl) (fun _ _ _ h => h) (fun _ => ⟨P.out.k3, P.out.cw⟩) (by rfl) ?hhz11_20_19 ?rrz11_20_19
            case hhz11_20_19 => (intro W; go_simp; try with_reducible rfl)
            (try simp only [Act.put, List.setIfInBounds_toArray, List.set_cons_zero, List.set_cons_succ])
            refine wpAnyL_one (i := 21) (oi := ⟨some 9, _, _, _, _, _⟩) rfl (by kernel_rfl) (fun K hK => ?_)
            go_simp
            have KA := hide (Bk.new w5_14_18 53 #[.int .u64 0, .bool false, .bool false, .slice none 0 0])
            have hgA : G < (w5_14_18).heap.size := P.out.wi.lt.2
            replace P := hide (P.out.below (below_new w5_14_18 (.cells #[.int .u64 0, .bool false, .bool false, .slice none 0 0] 53)))
            generalize (World.alloc w5_14_18 (.cells #[.int .u64 0, .bool false, .bool false, .slice none 0 0] 53)) = w5_14_18_21 at *
            generalize (w5_14_18).heap.size = gA at *
            refine hK.out _ _ (fun _ => ⟨P.out.k3, P.out.cw⟩) ?_
            clear hK K
            (try simp only [Act.put, List.setIfInBounds_toArray, List.set_cons_zero, List.set_cons_succ])
            refine wpAnyL_one (i := 22) (oi := ⟨none, _, _, _, _, _⟩) rfl (by kernel_rfl) (fun K hK => ?_)
            obtain ⟨x0, x1, x2, x3, xf⟩ := bk4 KA.out
            go_simp
            clear x0 x1 x2 x3 xf
            refine hK.out _ _ (fun h => by first | cases h | simp at h) ?_
            clear hK K
            (try simp only [Act.put, List.setIfInBounds_toArray, List.set_cons_zero, List.set_cons_succ])
            refine wpAnyL_done (by kernel_rfl) ?_ _
            go_wp2
            go_meet
            case rel =>
              obtain ⟨s1, s2, s3, s4⟩ := P.out.stored hgA KA.out rfl (.int .u64 v0) (.bool y0) (.bool false) (.slice none 0 0)
              exact ⟨gA, v0, y0, rfl, hgA, s1, HVU.out, s2, s3, s4⟩
          refine wpAnyLs_cons (oi := ⟨some 9, _, _, _, _, _⟩) rfl (fun K hK => ?_) ?_
          · go_simp
            have KA := hide (Bk.new w5_14 53 #[.int .u64 0, .bool false, .bool false, .slice none 0 0])
            have hgA : G < (w5_14).heap.size := P.out.wi.lt.2
            replace P := hide (P.out.below (below_new w5_14 (.cells #[.int .u64 0, .bool false, .bool false, .slice none 0 0] 53)))
            generalize (World.alloc w5_14 (.cells #[.int .u64 0, .bool false, .bool false, .slice none 0 0] 53)) = w5_14_21 at *
            generalize (w5_14).heap.size = gA at *
            refine hK.out _ _ (fun _ => ⟨P.out.k3, P.out.cw⟩) ?_
            clear hK K
            (try simp only [Act.put, List.setIfInBounds_toArray, List.set_cons_zero, List.set_cons_succ])
            refine wpAnyL_one (i := 18) (oi := ⟨some 50, _, _, _, _, _⟩) rfl (by kernel_rfl) (fun K hK => ?_)
            refine step_call _ (by rfl) 20 _ (by go_simp) (N2.out _ P.out.cd) ?_
            rintro e w5_14_18_21 ⟨rfl, hcd, hg⟩
            refine ⟨_, rfl, ?_⟩
            replace KA := hide (bk_codes KA.out hg P.out.cd (by decide))
            replace P := hide (P.out.next hg hcd)
            clear hcd hg
            refine hK.out _ _ (fun _ => ⟨P.out.k3, P.out.cw⟩) ?_
            clear hK K
            (try simp only [Act.put, List.setIfInBounds_toArray, List.set_cons_zero, List.set_cons_succ])
            refine wpAnyL_any (i := 19) (oi := ⟨some 51, _, _, _, _, _⟩) (v := ?vvz11_19_20) rfl (by kernel_rfl) (by kernel_rfl) (by kernel_rfl) (by kernel_rfl) (fun _ _ _ h => h) (fun _ => ⟨P.out.k3, P.out.cw⟩) (by rfl) ?hhz11_19_20 ?rrz11_19_20
            case hhz11_19_20 => (intro W; go_simp; try with_reducible rfl)
            (try simp only [Act.put, List.setIfInBounds_toArray, List.set_cons_zero, List.set_cons_succ])
            refine wpAnyL_any (i := 20) (oi := ⟨some 52, _, _, _, _, _⟩) (v := ?vvz11_20_21) rfl (by kernel_rfl) (by kernel_rfl) (by kernel_rfl) (by kernel_rfl) (fun _ _ _ h => h) (fun _ => ⟨P.out.k3, P.out.cw⟩) (by rfl) ?hhz11_20_21 ?rrz11_20_21
            case hhz11_20_21 => (intro W; go_simp; try with_reducible rfl)
            (try simp only [Act.put, List.setIfInBounds_toArray, List.set_cons_zero, List.set_cons_succ])
            refine wpAnyL_one (i := 22) (oi := ⟨none, _, _, _, _, _⟩) rfl (by kernel_rfl) (fun K hK => ?_)
            obtain ⟨x0, x1, x2, x3, xf⟩ := bk4 KA.out
            go_simp
            clear x0 x1 x2 x3 xf
            refine hK.out _ _ (fun h => by first | cases h | simp at h) ?_
            clear hK K
            (try simp only [Act.put, List.setIfInBounds_toArray, List.set_cons_zero, List.set_cons_succ])
            refine wpAnyL_done (by kernel_rfl) ?_ _
            go_wp2
            go_meet
            case rel =>
              obtain ⟨s1, s2, s3, s4⟩ := P.out.stored hgA KA.out rfl (.int .u64 v0) (.bool y0) (.bool false) (.slice none 0 0)
              exact ⟨gA, v0, y0, rfl, hgA, s1, HVU.out, s2, s3, s4⟩
          exact wpAnyLs_nil
        refine wpAnyLs_cons (oi := ⟨some 9, _, _, _, _, _⟩) rfl (fun K hK => ?_) ?_
        · go_simp
          have KA := hide (Bk.new xd 53 #[.int .u64 0, .bool false, .bool false, .slice none 0 0])
          have hgA : G < (xd).heap.size := P.out.wi.lt.2
          replace P := hide (P.out.below (below_new xd (.cells #[.int .u64 0, .bool false, .bool false, .slice none 0 0] 53)))
          generalize (World.alloc xd (.cells #[.int .u64 0, .bool false, .bool false, .slice none 0 0] 53)) = w5_21 at *
          generalize (xd).heap.size = gA at *
          refine hK.out _ _ (fun _ => ⟨P.out.k3, P.out.cw⟩) ?_
          clear hK K
          (try simp only [Act.put, List.setIfInBounds_toArray, List.set_cons_zero, List.set_cons_succ])
          refine wpAnyL_one (i := 14) (oi := ⟨some 46, _, _, _, _, _⟩) rfl (by kernel_rfl) (fun K hK => ?_)
          refine step_call _ (by rfl) 20 _ (by go_simp) (N1.out _ P.out.cd) ?_
          rintro e w5_14_21 ⟨rfl, hcd, hg⟩
          refine ⟨_, rfl, ?_⟩
          replace KA := hide (bk_codes KA.out hg P.out.cd (by decide))
          replace P := hide (P.out.next hg hcd)
          clear hcd hg
          refine hK.out _ _ (fun _ => ⟨P.out.k3, P.out.cw⟩) ?_
          clear hK K
          (try simp only [Act.put, List.setIfInBounds_toArray, List.set_cons_zero, List.set_cons_succ])
          refine wpAnyL_any (i := 15) (oi := ⟨some 47, _, _, _, _, _⟩) (v := ?vvz11_15_22) rfl (by kernel_rfl) (by kernel_rfl) (by kernel_rfl) (by kernel_rfl) (fun _ _ _ h => h) (fun _ => ⟨P.out.k3, P.out.cw⟩) (by rfl) ?hhz11_15_22 ?rrz11_15_22
          case hhz11_15_22 => (intro W; go_simp; try with_reducible rfl)
          (try simp only [Act.put, List.setIfInBounds_toArray, List.set_cons_zero, List.set_cons_succ])
          refine wpAnyL_take (i := 16) (oi := ⟨some 48, _, _, _, _, _⟩) [20, 22] (v := ?vvz11_16_23) rfl (by kernel_rfl) (by kernel_rfl) (by kernel_rfl) (by kernel_rfl) (fun _ _ _ h => h) ⟨P.out.k3, P.out.cw⟩ (by rfl) ?hhz11_16_23 ?rrz11_16_23
          case hhz11_16_23 => (intro W hW; obtain ⟨k3, hcw⟩ := hW; go_simp; try with_reducible rfl)
          (try simp only [Act.put, List.setIfInBounds_toArray, List.set_cons_zero, List.set_cons_succ])
          refine wpAnyL_one (i := 18) (oi := ⟨some 50, _, _, _, _, _⟩) rfl (by kernel_rfl) (fun K hK => ?_)
          refine step_call _ (by rfl) 20 _ (by go_simp) (N2.out _ P.out.cd) ?_
          rintro e w5_14_18_21 ⟨rfl, hcd, hg⟩
          refine ⟨_, rfl, ?_⟩
          replace KA := hide (bk_codes KA.out hg P.out.cd (by decide))
          replace P := hide (P.out.next hg hcd)
          clear hcd hg
          refine hK.out _ _ (fun _ => ⟨P.out.k3, P.out.cw⟩) ?_
          clear hK K
          (try simp only [Act.put, List.setIfInBounds_toArray, List.set_cons_zero, List.set_cons_succ])
          refine wpAnyL_any (i := 19) (oi := ⟨some 51, _, _, _, _, _⟩) (v := ?vvz11_19_24) rfl (by kernel_rfl) (by kernel_rfl) (by kernel_rfl) (by kernel_rfl) (fun _ _ _ h => h) (fun _ => ⟨P.out.k3, P.out.cw⟩) (by rfl) ?hhz11_19_24 ?rrz11_19_24
          case hhz11_19_24 => (intro W; go_simp; try with_reducible rfl)
          (try simp only [Act.put, List.setIfInBounds_toArray, List.set_cons_zero, List.set_cons_succ])
          refine wpAnyL_any (i := 20) (oi := ⟨some 52, _, _, _, _, _⟩) (v := ?vvz11_20_25) rfl (by kernel_rfl) (by kernel_rfl) (by kernel_rfl) (by kernel_rfl) (fun _ _ _ h => h) (fun _ => ⟨P.out.k3, P.out.cw⟩) (by rfl) ?hhz11_20_25 ?rrz11_20_25
          case hhz11_20_25 => (intro W; go_simp; try with_reducible rfl)
          (try simp only [Act.put, List.setIfInBounds_toArray, List.set_cons_zero, List.set_cons_succ])
          refine wpAnyL_one (i := 22) (oi := ⟨none, _, _, _, _, _⟩) rfl (by kernel_rfl) (fun K hK => ?_)
          obtain ⟨x0, x1, x2, x3, xf⟩ := bk4 KA.out
          go_simp
          clear x0 x1 x2 x3 xf
          refine hK.out _ _ (fun h => by first | cases h | simp at h) ?_
          clear hK K
          (try simp only [Act.put, List.setIfInBounds_toArray, List.set_cons_zero, List.set_cons_succ])
          refine wpAnyL_done (by kernel_rfl) ?_ _
          go_wp2
          go_meet
          case rel =>
            obtain ⟨s1, s2, s3, s4⟩ := P.out.stored hgA KA.out rfl (.int .u64 v0) (.bool y0) (.bool false) (.slice none 0 0)
            exact ⟨gA, v0, y0, rfl, hgA, s1, HVU.out, s2, s3, s4⟩
        exact wpAnyLs_nil
      case rest =>
      obtain ⟨gA, va, ya, rfl, hGA, h1, h2, h3, h4, h5⟩ := hcut
      have hcut : Az Own9 Rp9 75 w G gC gA st wc := ⟨va, ya, _, h1, h2, h3, h4, h5⟩
      clear h1 h2 h3 h4 h5 N1 N2 HY0 hy1 hy2 hpe HPW HVU d1 d2 hcw k3 hadg
      obtain ⟨va, ya, r2, ka, hva, hwi, hcd, hbw⟩ := hcut
      have KA := hide ka
      have HVA := hide hva
      have WJ := hide hwi
      have CJ := hide hcd
      have BJ := hide hbw
      clear ka hva hwi hcd hbw
      obtain ⟨v3, hv3⟩ : ∃ v, codeV r2 ((3 : Nat) : Int) = v := ⟨_, rfl⟩
      have N3 := hide (show Calls Try.prog 20 #[.pointer (some ⟨gC, 0, none⟩), .int .i64 ((3 : Nat) : Int)] wc fun e w' => e = .returned (.int .i64 v3) ∧ Cd w' gC r2.tail 0 ∧ wc.grownBy w' (some gC) by
        have := NX.out wc r2 3 CJ.out (by omega) (by omega)
        rwa [hv3] at this)
      obtain ⟨b3, hb3⟩ : ∃ b, (v3 == 1) = b := ⟨_, rfl⟩
      have HB3 := hide (show (v3 == 1) = b3 ∧ decide (v3 = 1) = b3 from ⟨hb3, by rw [← hb3]; rfl⟩)
      clear hv3 hb3
      go_wp2_with fail
      refine N3.out.mono ?_
      rintro e w7 ⟨rfl, hcd7, hg7⟩
      have WJ7 := hide (WI.codes WJ.out hg7 CJ.out hGG)
      have KA7 := hide (bk_codes KA.out hg7 CJ.out (by decide))
      have BJ7 := hide (below_grownBy BJ.out hg7 (Nat.le_refl _) hs1)
      have CJ7 := hide hcd7
      clear hcd7 hg7 N3 WJ KA BJ CJ
      obtain ⟨hb31, hb32⟩ := HB3.out
      go_upto_if 55 with fail
      clear hb31 hb32 HB3
      go_cut [] (fun wx => Az Own9 Rp9 75 w G gC gA st wx)
      case first =>
        cases b3
        · go_wp2
          go_meet
          case rel => exact ⟨va, ya, _, KA7.out, HVA.out, WJ7.out, CJ7.out, BJ7.out⟩
        · obtain ⟨gL, cL, k6, ct, chh, hgL⟩ := WJ7.out.mth HMS.out
          have hgLC : gL ≠ gC := by omega
          obtain ⟨v5, hv5⟩ : ∃ v, codeV r2.tail ((3 : Nat) : Int) = v := ⟨_, rfl⟩
          have hv5b := codeV_bd r2.tail ((3 : Nat) : Int) (by omega)
          rw [hv5] at hv5b
          have N5 := hide (show Calls Try.prog 20 #[.pointer (some ⟨gC, 0, none⟩), .int .i64 ((3 : Nat) : Int)] w7.drew fun e w' => e = .returned (.int .i64 v5) ∧ Cd w' gC r2.tail.tail 0 ∧ w7.drew.grownBy w' (some gC) by
            have := NX.out w7.drew r2.tail 3 CJ7.out (by omega) (by omega)
            rwa [hv5] at this)
          have e5 : IntKind.u64.wrap v5 = v5 := by rw [wrap_u64]; omega
          obtain ⟨zz, hzz⟩ : ∃ v, IntKind.u64.wrap (2 * x.h) = v := ⟨_, rfl⟩
          have eM : True := trivial
          obtain ⟨v1, hv1⟩ : ∃ v, IntKind.u64.wrap (x.h + v5) = v := ⟨_, rfl⟩
          have hv1u : Go.Proofs.Ytepngbdjobckbaa.u64 v1 := by rw [← hv1, wrap_u64]; unfold Go.Proofs.Ytepngbdjobckbaa.u64; omega
          have HV1 := hide hv1u
          obtain ⟨x0, x1, x2, x3, xf⟩ := bk4 KA7.out
          have W0 : Hid (WI Own9 Rp9 w7.drew G G 75 st) := hide (WJ7.out.below (Below.refl w7.heap.size w7).drew)
          have B0 : Hid (Below w.heap.size w w7.drew) := hide (BJ7.out.trans ((Below.refl w7.heap.size w7).drew.mono BJ7.out.size))
          have K6 := hide k6
          have KD : Hid (Bk w7.drew gA 53 #[.int .u64 va, .bool ya, .bool false, .slice none 0 0]) := hide KA7.out
          have CC := hide chh
          clear hv5 hv5b hv1u ct chh
          have c1 := CC.out
          (first | clear HWI | skip); (first | clear HCD | skip); (first | clear HBW | skip); (first | clear HMS | skip); (first | clear HWS | skip); (first | clear HOW | skip); (first | clear AR | skip); (first | clear NX | skip); (first | clear HPW | skip); (first | clear HY0 | skip); (first | clear hcm1 | skip); (first | clear hl3 | skip); (first | clear hc1 | skip)
          go_upto_region 13 with fail
          refine wp_region_L (fun W => W.cell? ⟨G, 6, none⟩ = some (.slice (some ⟨gL, 0, none⟩) 1 cL) ∧ W.cell? ⟨gL, 11, none⟩ = some (.int .u64 x.h)) 13 (by kernel_rfl) ?_
          refine wpAnyL_any (i := 0) (oi := ⟨some 56, _, _, _, _, _⟩) (v := ?vvz13_0_1) rfl (by kernel_rfl) (by kernel_rfl) (by kernel_rfl) (by kernel_rfl) (fun _ _ _ h => h) (fun _ => ⟨k6, c1⟩) (by rfl) ?hhz13_0_1 ?rrz13_0_1
          case hhz13_0_1 => (intro W; go_simp; try with_reducible rfl)
          (try simp only [Act.put, List.setIfInBounds_toArray, List.set_cons_zero, List.set_cons_succ])
          refine wpAnyL_any (i := 1) (oi := ⟨some 57, _, _, _, _, _⟩) (v := ?vvz13_1_2) rfl (by kernel_rfl) (by kernel_rfl) (by kernel_rfl) (by kernel_rfl) (fun _ _ _ h => h) (fun _ => ⟨k6, c1⟩) (by rfl) ?hhz13_1_2 ?rrz13_1_2
          case hhz13_1_2 => (intro W; go_simp; try with_reducible rfl)
          (try simp only [Act.put, List.setIfInBounds_toArray, List.set_cons_zero, List.set_cons_succ])
          refine wpAnyL_any (i := 2) (oi := ⟨some 58, _, _, _, _, _⟩) (v := ?vvz13_2_3) rfl (by kernel_rfl) (by kernel_rfl) (by kernel_rfl) (by kernel_rfl) (fun _ _ _ h => h) (fun _ => ⟨k6, c1⟩) (by rfl) ?hhz13_2_3 ?rrz13_2_3
          case hhz13_2_3 => (intro W; go_simp; try with_reducible rfl)
          (try simp only [Act.put, List.setIfInBounds_toArray, List.set_cons_zero, List.set_cons_succ])
          refine wpAnyL_any (i := 3) (oi := ⟨some 59, _, _, _, _, _⟩) (v := ?vvz13_3_4) rfl (by kernel_rfl) (by kernel_rfl) (by kernel_rfl) (by kernel_rfl) (fun _ _ _ h => h) (fun _ => ⟨k6, c1⟩) (by rfl) ?hhz13_3_4 ?rrz13_3_4
          case hhz13_3_4 => (intro W; go_simp; try with_reducible rfl)
          (try simp only [Act.put, List.setIfInBounds_toArray, List.set_cons_zero, List.set_cons_succ])
          refine wpAnyL_take (i := 4) (oi := ⟨some 60, _, _, _, _, _⟩) [5, 6, 7, 11, 12, 13] (v := ?vvz13_4_5) rfl (by kernel_rfl) (by kernel_rfl) (by kernel_rfl) (by kernel_rfl) (fun _ _ _ h => h) ⟨k6, c1⟩ (by rfl) ?hhz13_4_5 ?rrz13_4_5
          case hhz13_4_5 => (intro W hW; obtain ⟨k6, c1⟩ := hW; go_simp; try with_reducible rfl)
          (try simp only [Act.put, List.setIfInBounds_toArray, List.set_cons_zero, List.set_cons_succ])
          refine wpAnyL_any (i := 5) (oi := ⟨some 61, _, _, _, _, _⟩) (v := ?vvz13_5_6) rfl (by kernel_rfl) (by kernel_rfl) (by kernel_rfl) (by kernel_rfl) (fun _ _ _ h => h) (fun _ => ⟨k6, c1⟩) (by rfl) ?hhz13_5_6 ?rrz13_5_6
          case hhz13_5_6 => (intro W; go_simp; try with_reducible rfl)
          (try simp only [Act.put, List.setIfInBounds_toArray, List.set_cons_zero, List.set_cons_succ])
          refine wpAnyL_any (i := 6) (oi := ⟨some 62, _, _, _, _, _⟩) (v := ?vvz13_6_7) rfl (by kernel_rfl) (by kernel_rfl) (by kernel_rfl) (by kernel_rfl) (fun _ _ _ h => h) (fun _ => ⟨k6, c1⟩) (by rfl) ?hhz13_6_7 ?rrz13_6_7
          case hhz13_6_7 => (intro W; go_simp; try with_reducible rfl)
          (try simp only [Act.put, List.setIfInBounds_toArray, List.set_cons_zero, List.set_cons_succ])
          refine wpAnyL_take (i := 7) (oi := ⟨some 63, _, _, _, _, _⟩) [11, 12, 13] (v := ?vvz13_7_8) rfl (by kernel_rfl) (by kernel_rfl) (by kernel_rfl) (by kernel_rfl) (fun _ _ _ h => h) ⟨k6, c1⟩ (by rfl) ?hhz13_7_8 ?rrz13_7_8
          case hhz13_7_8 => (intro W hW; obtain ⟨k6, c1⟩ := hW; go_simp; try with_reducible rfl)
          (try simp only [Act.put, List.setIfInBounds_toArray, List.set_cons_zero, List.set_cons_succ])
          refine wpAnyL_any (i := 8) (oi := ⟨some 64, _, _, _, _, _⟩) (v := ?vvz13_8_9) rfl (by kernel_rfl) (by kernel_rfl) (by kernel_rfl) (by kernel_rfl) (fun _ _ _ h => h) (fun _ => ⟨k6, c1⟩) (by rfl) ?hhz13_8_9 ?rrz13_8_9
          case hhz13_8_9 => (intro W; go_simp; try with_reducible rfl)
          (try simp only [Act.put, List.setIfInBounds_toArray, List.set_cons_zero, List.set_cons_succ])
          refine wpAnyL_one (i := 9) (oi := ⟨some 65, _, _, _, _, _⟩) rfl (by kernel_rfl) (fun K hK => ?_)
          refine step_call _ (by rfl) 20 _ (by go_simp) N5.out ?_
          rintro e w8 ⟨rfl, hcd8, hg8⟩
          refine ⟨_, rfl, ?_⟩
          have WJ8 := hide (WI.codes W0.out hg8 (CJ7.out.drewN 1) hGG)
          have KA8 := hide (bk_codes KD.out hg8 (CJ7.out.drewN 1) (by decide))
          have BJ8 := hide (below_grownBy B0.out hg8 (Nat.le_refl _) hs1)
          have CJ8 := hide hcd8
          replace k6 := grown_cell hg8 (by show G ≠ gC; omega) K6.out
          replace c1 := grown_cell hg8 (by show gL ≠ gC; exact hgLC) CC.out
          clear hcd8 hg8
          refine hK.out _ _ (fun _ => ⟨k6, c1⟩) ?_
          clear hK K
          (try simp only [Act.put, List.setIfInBounds_toArray, List.set_cons_zero, List.set_cons_succ])
          refine wpAnyL_any (i := 10) (oi := ⟨some 66, _, _, _, _, _⟩) (v := ?vvz13_10_10) rfl (by kernel_rfl) (by kernel_rfl) (by kernel_rfl) (by kernel_rfl) (fun _ _ _ h => h) (fun _ => ⟨k6, c1⟩) (by rfl) ?hhz13_10_10 ?rrz13_10_10
          case hhz13_10_10 => (intro W; go_simp; try with_reducible rfl)
          (try simp only [Act.put, List.setIfInBounds_toArray, List.set_cons_zero, List.set_cons_succ])
          refine wpAnyL_any (i := 11) (oi := ⟨some 67, _, _, _, _, _⟩) (v := ?vvz13_11_11) rfl (by kernel_rfl) (by kernel_rfl) (by kernel_rfl) (by kernel_rfl) (fun _ _ _ h => h) (fun _ => ⟨k6, c1⟩) (by rfl) ?hhz13_11_11 ?rrz13_11_11
          case hhz13_11_11 => (intro W; go_simp; try with_reducible rfl)
          (try simp only [Act.put, List.setIfInBounds_toArray, List.set_cons_zero, List.set_cons_succ])
          refine wpAnyL_any (i := 12) (oi := ⟨some 68, _, _, _, _, _⟩) (v := ?vvz13_12_12) rfl (by kernel_rfl) (by kernel_rfl) (by kernel_rfl) (by kernel_rfl) (fun _ _ _ h => h) (fun _ => ⟨k6, c1⟩) (by rfl) ?hhz13_12_12 ?rrz13_12_12
          case hhz13_12_12 => (intro W; go_simp; try with_reducible rfl)
          (try simp only [Act.put, List.setIfInBounds_toArray, List.set_cons_zero, List.set_cons_succ])
          refine wpAnyL_one (i := 13) (oi := ⟨none, _, _, _, _, _⟩) rfl (by kernel_rfl) (fun K hK => ?_)
          obtain ⟨x0, x1, x2, x3, xf⟩ := bk4 KA8.out
          go_simp
          clear x0 x1 x2 x3 xf
          refine hK.out _ _ (fun h => by first | cases h | simp at h) ?_
          clear hK K
          (try simp only [Act.put, List.setIfInBounds_toArray, List.set_cons_zero, List.set_cons_succ])
          refine wpAnyL_done (by kernel_rfl) ?_ _
          go_wp2
          go_meet
          case rel => exact Az.set hGA hGG hs1 KA8.out HV1.out WJ8.out CJ8.out BJ8.out
      case rest =>
      obtain ⟨va, ya, r2, ka, hva, hwi, hcd, hbw⟩ := hcut
      have KA := hide ka
      have HVA := hide hva
      have WJ := hide hwi
      have CJ := hide hcd
      have BJ := hide hbw
      clear ka hva hwi hcd hbw
      obtain ⟨v3, hv3⟩ : ∃ v, codeV r2 ((5 : Nat) : Int) = v := ⟨_, rfl⟩
      have N3 := hide (show Calls Try.prog 20 #[.pointer (some ⟨gC, 0, none⟩), .int .i64 ((5 : Nat) : Int)] wc fun e w' => e = .returned (.int .i64 v3) ∧ Cd w' gC r2.tail 0 ∧ wc.grownBy w' (some gC) by
        have := NX.out wc r2 5 CJ.out (by omega) (by omega)
        rwa [hv3] at this)
      obtain ⟨b3, hb3⟩ : ∃ b, (v3 == 1) = b := ⟨_, rfl⟩
      have HB3 := hide (show (v3 == 1) = b3 ∧ decide (v3 = 1) = b3 from ⟨hb3, by rw [← hb3]; rfl⟩)
      clear hv3 hb3
      go_wp2_with fail
      refine N3.out.mono ?_
      rintro e w7 ⟨rfl, hcd7, hg7⟩
      have WJ7 := hide (WI.codes WJ.out hg7 CJ.out hGG)
      have KA7 := hide (bk_codes KA.out hg7 CJ.out (by decide))
      have BJ7 := hide (below_grownBy BJ.out hg7 (Nat.le_refl _) hs1)
      have CJ7 := hide hcd7
      clear hcd7 hg7 N3 WJ KA BJ CJ
      obtain ⟨hb31, hb32⟩ := HB3.out
      go_upto_if 71 with fail
      clear hb31 hb32 HB3
      go_cut [] (fun wx => Az Own9 Rp9 75 w G gC gA st wx)
      case first =>
        cases b3
        · go_wp2
          go_meet
          case rel => exact ⟨va, ya, _, KA7.out, HVA.out, WJ7.out, CJ7.out, BJ7.out⟩
        · obtain ⟨gL, cL, k6, ct, chh, hgL⟩ := WJ7.out.mth HMS.out
          have hgLC : gL ≠ gC := by omega
          obtain ⟨v5, hv5⟩ : ∃ v, codeV r2.tail ((10 : Nat) : Int) = v := ⟨_, rfl⟩
          have hv5b := codeV_bd r2.tail ((10 : Nat) : Int) (by omega)
          rw [hv5] at hv5b
          have N5 := hide (show Calls Try.prog 20 #[.pointer (some ⟨gC, 0, none⟩), .int .i64 ((10 : Nat) : Int)] w7.drew fun e w' => e = .returned (.int .i64 v5) ∧ Cd w' gC r2.tail.tail 0 ∧ w7.drew.grownBy w' (some gC) by
            have := NX.out w7.drew r2.tail 10 CJ7.out (by omega) (by omega)
            rwa [hv5] at this)
          have e5 : IntKind.u64.wrap v5 = v5 := by rw [wrap_u64]; omega
          obtain ⟨zz, hzz⟩ : ∃ v, IntKind.u64.wrap (2 * x.h) = v := ⟨_, rfl⟩
          have eM : IntKind.u64.wrap (2 * x.h) = zz := hzz
          obtain ⟨v1, hv1⟩ : ∃ v, IntKind.u64.wrap (zz + v5) = v := ⟨_, rfl⟩
          have hv1u : Go.Proofs.Ytepngbdjobckbaa.u64 v1 := by rw [← hv1, wrap_u64]; unfold Go.Proofs.Ytepngbdjobckbaa.u64; omega
          have HV1 := hide hv1u
          obtain ⟨x0, x1, x2, x3, xf⟩ := bk4 KA7.out
          have W0 : Hid (WI Own9 Rp9 w7.drew G G 75 st) := hide (WJ7.out.below (Below.refl w7.heap.size w7).drew)
          have B0 : Hid (Below w.heap.size w w7.drew) := hide (BJ7.out.trans ((Below.refl w7.heap.size w7).drew.mono BJ7.out.size))
          have K6 := hide k6
          have KD : Hid (Bk w7.drew gA 53 #[.int .u64 va, .bool ya, .bool false, .slice none 0 0]) := hide KA7.out
          have CC := hide chh
          clear hv5 hv5b hv1u ct chh
          have c1 := CC.out
          (first | clear HWI | skip); (first | clear HCD | skip); (first | clear HBW | skip); (first | clear HMS | skip); (first | clear HWS | skip); (first | clear HOW | skip); (first | clear AR | skip); (first | clear NX | skip); (first | clear HPW | skip); (first | clear HY0 | skip); (first | clear hcm1 | skip); (first | clear hl3 | skip); (first | clear hc1 | skip)
          go_upto_region 15 with fail
          refine wp_region_L (fun W => W.cell? ⟨G, 6, none⟩ = some (.slice (some ⟨gL, 0, none⟩) 1 cL) ∧ W.cell? ⟨gL, 11, none⟩ = some (.int .u64 x.h)) 14 (by kernel_rfl) ?_
          refine wpAnyL_any (i := 0) (oi := ⟨some 72, _, _, _, _, _⟩) (v := ?vvz15_0_1) rfl (by kernel_rfl) (by kernel_rfl) (by kernel_rfl) (by kernel_rfl) (fun _ _ _ h => h) (fun _ => ⟨k6, c1⟩) (by rfl) ?hhz15_0_1 ?rrz15_0_1
          case hhz15_0_1 => (intro W; go_simp; try with_reducible rfl)
          (try simp only [Act.put, List.setIfInBounds_toArray, List.set_cons_zero, List.set_cons_succ])
          refine wpAnyL_any (i := 1) (oi := ⟨some 73, _, _, _, _, _⟩) (v := ?vvz15_1_2) rfl (by kernel_rfl) (by kernel_rfl) (by kernel_rfl) (by kernel_rfl) (fun _ _ _ h => h) (fun _ => ⟨k6, c1⟩) (by rfl) ?hhz15_1_2 ?rrz15_1_2
          case hhz15_1_2 => (intro W; go_simp; try with_reducible rfl)
          (try simp only [Act.put, List.setIfInBounds_toArray, List.set_cons_zero, List.set_cons_succ])
          refine wpAnyL_any (i := 2) (oi := ⟨some 74, _, _, _, _, _⟩) (v := ?vvz15_2_3) rfl (by kernel_rfl) (by kernel_rfl) (by kernel_rfl) (by kernel_rfl) (fun _ _ _ h => h) (fun _ => ⟨k6, c1⟩) (by rfl) ?hhz15_2_3 ?rrz15_2_3
          case hhz15_2_3 => (intro W; go_simp; try with_reducible rfl)
          (try simp only [Act.put, List.setIfInBounds_toArray, List.set_cons_zero, List.set_cons_succ])
          refine wpAnyL_any (i := 3) (oi := ⟨some 75, _, _, _, _, _⟩) (v := ?vvz15_3_4) rfl (by kernel_rfl) (by kernel_rfl) (by kernel_rfl) (by kernel_rfl) (fun _ _ _ h => h) (fun _ => ⟨k6, c1⟩) (by rfl) ?hhz15_3_4 ?rrz15_3_4
          case hhz15_3_4 => (intro W; go_simp; try with_reducible rfl)
          (try simp only [Act.put, List.setIfInBounds_toArray, List.set_cons_zero, List.set_cons_succ])
          refine wpAnyL_take (i := 4) (oi := ⟨some 76, _, _, _, _, _⟩) [5, 6, 7, 8, 12, 13, 14] (v := ?vvz15_4_5) rfl (by kernel_rfl) (by kernel_rfl) (by kernel_rfl) (by kernel_rfl) (fun _ _ _ h => h) ⟨k6, c1⟩ (by rfl) ?hhz15_4_5 ?rrz15_4_5
          case hhz15_4_5 => (intro W hW; obtain ⟨k6, c1⟩ := hW; go_simp; try with_reducible rfl)
          (try simp only [Act.put, List.setIfInBounds_toArray, List.set_cons_zero, List.set_cons_succ])
          refine wpAnyL_any (i := 5) (oi := ⟨some 77, _, _, _, _, _⟩) (v := ?vvz15_5_6) rfl (by kernel_rfl) (by kernel_rfl) (by kernel_rfl) (by kernel_rfl) (fun _ _ _ h => h) (fun _ => ⟨k6, c1⟩) (by rfl) ?hhz15_5_6 ?rrz15_5_6
          case hhz15_5_6 => (intro W; go_simp; try with_reducible rfl)
          (try simp only [Act.put, List.setIfInBounds_toArray, List.set_cons_zero, List.set_cons_succ])
          refine wpAnyL_any (i := 6) (oi := ⟨some 78, _, _, _, _, _⟩) (v := ?vvz15_6_7) rfl (by kernel_rfl) (by kernel_rfl) (by kernel_rfl) (by kernel_rfl) (fun _ _ _ h => h) (fun _ => ⟨k6, c1⟩) (by rfl) ?hhz15_6_7 ?rrz15_6_7
          case hhz15_6_7 => (intro W; go_simp; try with_reducible rfl)
          (try simp only [Act.put, List.setIfInBounds_toArray, List.set_cons_zero, List.set_cons_succ])
          refine wpAnyL_take (i := 7) (oi := ⟨some 79, _, _, _, _, _⟩) [8, 12, 13, 14] (v := ?vvz15_7_8) rfl (by kernel_rfl) (by kernel_rfl) (by kernel_rfl) (by kernel_rfl) (fun _ _ _ h => h) ⟨k6, c1⟩ (by rfl) ?hhz15_7_8 ?rrz15_7_8
          case hhz15_7_8 => (intro W hW; obtain ⟨k6, c1⟩ := hW; go_simp; try with_reducible rfl)
          (try simp only [Act.put, List.setIfInBounds_toArray, List.set_cons_zero, List.set_cons_succ])
          refine wpAnyL_any (i := 8) (oi := ⟨some 80, _, _, _, _, _⟩) (v := ?vvz15_8_9) rfl (by kernel_rfl) (by kernel_rfl) (by kernel_rfl) (by kernel_rfl) (fun _ _ _ h => h) (fun _ => ⟨k6, c1⟩) (by rfl) ?hhz15_8_9 ?rrz15_8_9
          case hhz15_8_9 => (intro W; go_simp; try with_reducible rfl)
          (try simp only [Act.put, List.setIfInBounds_toArray, List.set_cons_zero, List.set_cons_succ])
          refine wpAnyL_any (i := 9) (oi := ⟨some 81, _, _, _, _, _⟩) (v := ?vvz15_9_10) rfl (by kernel_rfl) (by kernel_rfl) (by kernel_rfl) (by kernel_rfl) (fun _ _ _ h => h) (fun _ => ⟨k6, c1⟩) (by rfl) ?hhz15_9_10 ?rrz15_9_10
          case hhz15_9_10 => (intro W; go_simp; try with_reducible rfl)
          (try simp only [Act.put, List.setIfInBounds_toArray, List.set_cons_zero, List.set_cons_succ])
          refine wpAnyL_one (i := 10) (oi := ⟨some 82, _, _, _, _, _⟩) rfl (by kernel_rfl) (fun K hK => ?_)
          refine step_call _ (by rfl) 20 _ (by go_simp) N5.out ?_
          rintro e w8 ⟨rfl, hcd8, hg8⟩
          refine ⟨_, rfl, ?_⟩
          have WJ8 := hide (WI.codes W0.out hg8 (CJ7.out.drewN 1) hGG)
          have KA8 := hide (bk_codes KD.out hg8 (CJ7.out.drewN 1) (by decide))
          have BJ8 := hide (below_grownBy B0.out hg8 (Nat.le_refl _) hs1)
          have CJ8 := hide hcd8
          replace k6 := grown_cell hg8 (by show G ≠ gC; omega) K6.out
          replace c1 := grown_cell hg8 (by show gL ≠ gC; exact hgLC) CC.out
          clear hcd8 hg8
          refine hK.out _ _ (fun _ => ⟨k6, c1⟩) ?_
          clear hK K
          (try simp only [Act.put, List.setIfInBounds_toArray, List.set_cons_zero, List.set_cons_succ])
          refine wpAnyL_any (i := 11) (oi := ⟨some 83, _, _, _, _, _⟩) (v := ?vvz15_11_11) rfl (by kernel_rfl) (by kernel_rfl) (by kernel_rfl) (by kernel_rfl) (fun _ _ _ h => h) (fun _ => ⟨k6, c1⟩) (by rfl) ?hhz15_11_11 ?rrz15_11_11
          case hhz15_11_11 => (intro W; go_simp; try with_reducible rfl)
          (try simp only [Act.put, List.setIfInBounds_toArray, List.set_cons_zero, List.set_cons_succ])
          refine wpAnyL_any (i := 12) (oi := ⟨some 84, _, _, _, _, _⟩) (v := ?vvz15_12_12) rfl (by kernel_rfl) (by kernel_rfl) (by kernel_rfl) (by kernel_rfl) (fun _ _ _ h => h) (fun _ => ⟨k6, c1⟩) (by rfl) ?hhz15_12_12 ?rrz15_12_12
          case hhz15_12_12 => (intro W; go_simp; try with_reducible rfl)
          (try simp only [Act.put, List.setIfInBounds_toArray, List.set_cons_zero, List.set_cons_succ])
          refine wpAnyL_any (i := 13) (oi := ⟨some 85, _, _, _, _, _⟩) (v := ?vvz15_13_13) rfl (by kernel_rfl) (by kernel_rfl) (by kernel_rfl) (by kernel_rfl) (fun _ _ _ h => h) (fun _ => ⟨k6, c1⟩) (by rfl) ?hhz15_13_13 ?rrz15_13_13
          case hhz15_13_13 => (intro W; go_simp; try with_reducible rfl)
          (try simp only [Act.put, List.setIfInBounds_toArray, List.set_cons_zero, List.set_cons_succ])
          refine wpAnyL_one (i := 14) (oi := ⟨none, _, _, _, _, _⟩) rfl (by kernel_rfl) (fun K hK => ?_)
          obtain ⟨x0, x1, x2, x3, xf⟩ := bk4 KA8.out
          go_simp
          clear x0 x1 x2 x3 xf
          refine hK.out _ _ (fun h => by first | cases h | simp at h) ?_
          clear hK K
          (try simp only [Act.put, List.setIfInBounds_toArray, List.set_cons_zero, List.set_cons_succ])
          refine wpAnyL_done (by kernel_rfl) ?_ _
          go_wp2
          go_meet
          case rel => exact Az.set hGA hGG hs1 KA8.out HV1.out WJ8.out CJ8.out BJ8.out
      case rest =>
      obtain ⟨v6, y0, r9, ka8, hu6, hwi10, hcd10, hbw10⟩ := hcut
      obtain ⟨w8, hw8⟩ : ∃ x, x = wc := ⟨_, rfl⟩
      subst hw8
      have KA8 := hide ka8
      have HU6 := hide hu6
      have WI10 := hide hwi10
      have CD10 := hide hcd10
      have BW10 := hide hbw10
      clear ka8 hu6 hwi10 hcd10 hbw10 HWI HCD HBW NX
      obtain ⟨bb, hbb⟩ : ∃ bb : Bool, (decide (j < len3) && decide (j < 4)) = bb := ⟨_, rfl⟩
      have HBB := hide hbb
      clear hbb
      go_upto_region 16 with fail
      go_cut [93] (fun sP wx => sP = .bool bb ∧ wx = w8)
      case first =>
        have hcs : (j < len3 ∧ j < 4) ∨ ¬ j < len3 ∨ (j < len3 ∧ ¬ j < 4) := by omega
        rcases hcs with ⟨hl1, hl2⟩ | hl1 | ⟨hl1, hl2⟩
        · have hbt : bb = true := by rw [← HBB.out]; simp [hl1, hl2]
          have HBT := hide hbt
          clear hbt
          go_wp2
          go_meet
          case rel => exact ⟨by rw [HBT.out] <;> simp <;> omega, rfl⟩
        · have hbt : bb = false := by rw [← HBB.out, decide_eq_false hl1]; rfl
          have HBT := hide hbt
          clear hbt
          have hdl : decide (j < len3) = false := by simp; omega
          go_wp2
          go_meet
          case rel => exact ⟨by rw [HBT.out], rfl⟩
        · have hbt : bb = false := by rw [← HBB.out, decide_eq_false (p := j < 4) hl2, Bool.and_false]
          have HBT := hide hbt
          clear hbt
          have hdl : decide ((j : Int) < 4) = false := by simp; omega
          go_wp2
          go_meet
          case rel => exact ⟨by rw [HBT.out], rfl⟩
      case rest =>
      obtain ⟨rfl, rfl⟩ := hcut
      go_upto_if 93 with fail
      go_cut [] (fun wx => ∃ (va : Int) (ya za : Bool) (LA : Option Addr) (ln lc : Nat), Bk wx gA 53 #[.int .u64 va, .bool ya, .bool za, .slice LA ln lc] ∧ Go.Proofs.Ytepngbdjobckbaa.u64 va ∧ WI Own9 Rp9 wx G G 75 st ∧ Cd wx gC r9 0 ∧ Below w.heap.size w wx)
      case first =>
        cases bb
        · go_wp2
          go_meet
          case rel => exact ⟨v6, y0, false, none, 0, 0, KA8.out, HU6.out, WI10.out, CD10.out, BW10.out⟩
        · obtain ⟨hl1, hl2⟩ : j < len3 ∧ j < 4 := by have := HBB.out; simpa using this
          obtain ⟨ad, va, ya, za, LA, ln, lc, rfl, hva, q0, q1', q2, q3⟩ := (AR.out.below BW10.out).2 j hl1
          obtain ⟨pa, hpa⟩ : ∃ pa, ad.add (j * 4) = pa := ⟨_, rfl⟩
          rw [← Go.Deep.add_add] at q0 q1' q2 q3
          rw [hpa] at q0 q1' q2 q3
          have q00 : wc.cell? pa = some (.int .u64 va) := by rwa [show pa.add 0 = pa by rcases pa with ⟨_, _, _ | _⟩ <;> rfl] at q0
          have r1 : wc.cell? ⟨pa.block, pa.off + 1, none⟩ = some (.bool ya) := q1'
          have r2 : wc.cell? ⟨pa.block, pa.off + 2, none⟩ = some (.bool za) := q2
          have r3 : wc.cell? ⟨pa.block, pa.off + 3, none⟩ = some (.slice LA ln lc) := q3
          have hpb := block_lt q00
          have d1 : decide ((j : Int) < 0) = false := by simp
          have d2 : decide (len3 ≤ j) = false := by simp; omega
          have HT := hide (KA8.out.there (n := 4) rfl)
          have hlt8 := KA8.out.lt
          go_wp2_with ((with_reducible show wpList _ _ _ _ _ _); refine wpList_store_res (by rfl) 53 _ _ (by rfl) gA #[.int .u64 va, .bool ya, .bool za, .slice LA ln lc] (by rfl) (by rfl) HT.out Try.an_inf (an_one _ _ _ _ _ _) ?_; intro w9 HZ)
          go_meet
          case rel =>
            exact ⟨va, ya, za, LA, ln, lc, Bk.stored HZ KA8.out rfl, hva, by rw [HZ.out]; exact WI10.out.oth (grown_sets _ 0 wc) KA8.out (by omega) (by decide) (by decide) (by decide) (by decide) (by decide) (by decide), Cd.belowB (B := gA) CD10.out (below_stored HZ (Below.refl gA wc) (Nat.le_refl _)) (by omega), below_stored HZ BW10.out (by omega)⟩
      case rest =>
        clear KA8 WI10 CD10 BW10 HU6 HBB
        obtain ⟨va, ya, za, LA, ln, lc, ka9, hva, wi11, cd11, bw11⟩ := hcut
        have KA9 := hide ka9
        have HVA := hide hva
        have WI11 := hide wi11
        have CD11 := hide cd11
        have BW11 := hide bw11
        clear ka9 hva wi11 cd11 bw11
        have SM := hide (same9_wi (i := 0) WI11.out (by rw [HMS.out]; rfl) HOW.out)
        go_wp2_with fail
        refine SM.out.mono ?_
        rintro e w10 ⟨rfl, hb10⟩
        have WI12 := hide (WI11.out.below hb10)
        have CD12 := hide (CD11.out.below hb10)
        have BW12 := hide (BW11.out.trans (hb10.mono BW11.out.size))
        have KA10 := hide (KA9.out.below hb10 KA9.out.lt)
        clear SM hb10 WI11 CD11 BW11 KA9
        obtain ⟨MA, mn, mc, MB, md, me, gM, cM, gF, cF, code, pc, FA, fn, fc, FB, fm, fd, RZ⟩ := WI12.out.rz knows9 HMS.out HOW.out
        have HRZ := hide RZ
        obtain ⟨x', hx'⟩ : ∃ x', mres st.l x va ya = x' := ⟨_, rfl⟩
        have MR := hide (fun W hW => RZ.res W hW va ya za LA ln lc HVA.out)
        have CR := hide (fun W hW => RZ.go W hW va ya za LA ln lc HVA.out)
        rw [hx'] at MR CR
        have HOX := hide (show Own9 x'.what by rw [← hx', mres_what]; exact HOW.out)
        have rr := RZ.rL
        have k6 := RZ.k6
        have k9 := RZ.k9
        have rf := RZ.rF
        rw [Mc.cells] at rr MR
        obtain ⟨m0, m1, m2, m3, m4, m5, m6, m7, m8, m9, m10, m11, m12, m13⟩ := rg14 rr
        obtain ⟨f0, f1, f2, f3, f4⟩ := rg5 rf
        obtain ⟨c0, c1, c2, c3, -⟩ := bk4 KA10.out
        obtain ⟨lt1, lt2, lt3⟩ := RZ.lt
        have ltA := KA10.out.lt
        simp only [Nat.zero_add] at m1 m2 m3 m4 m5 m6 m7 m8 m9 m10 m11 m12 m13 f1 f2 f3 f4
        have HB10 : Hid (Below w10.heap.size w10 w10.drew) := hide (Below.refl w10.heap.size w10).drew
        have hsz14 : ∀ z, (Mc.cells MA mn mc MB md me st.th z).size = 14 := fun _ => rfl
        clear rr rf RZ hx'
        go_upto_region 20 with fail
        have KC : Hid (∀ W, Below w10.heap.size w10 W → W.rangeAt gM 0 (Mc.cells MA mn mc MB md me st.th x).toList ∧ W.rangeAt gF 0 [.int .i64 code, .int .i64 pc, .slice FA fn fc, .slice FB fm fd, .slice none 0 0] ∧ W.cell? ⟨G, 6, none⟩ = some (.slice (some ⟨gM, 0, none⟩) 1 cM) ∧ W.cell? ⟨G, 9, none⟩ = some (.slice (some ⟨gF, 0, none⟩) 1 cF) ∧ Bk W gA 53 #[.int .u64 va, .bool ya, .bool za, .slice LA ln lc]) :=
          hide fun W hW => ⟨rangeAt_below HRZ.out.rL hW, rangeAt_below HRZ.out.rF hW, (hW.cell HRZ.out.lt.1).trans HRZ.out.k6, (hW.cell HRZ.out.lt.1).trans HRZ.out.k9, KA10.out.below hW KA10.out.lt⟩
        clear k6 k9 m0 m1 m2 m3 m4 m5 m6 m7 m8 m9 m10 m11 m12 m13 f0 f1 f2 f3 f4 c0 c1 c2 c3
        refine wp_region_L (Below w10.heap.size w10) 27 (by kernel_rfl) ?_
        refine wpAnyL_any (i := 0) (oi := ⟨some 101, _, _, _, _, _⟩) (v := ?vv0) rfl (by kernel_rfl) (by kernel_rfl) (by kernel_rfl) (by kernel_rfl) (fun _ _ _ h => h) (fun _ => HB10.out) (by rfl) ?hh0 ?rr0
        case hh0 => (intro W; go_simp; try with_reducible rfl)
        (try simp only [Act.put, List.setIfInBounds_toArray, List.set_cons_zero, List.set_cons_succ])
        refine wpAnyL_any (i := 1) (oi := ⟨some 102, _, _, _, _, _⟩) (v := ?vv1) rfl (by kernel_rfl) (by kernel_rfl) (by kernel_rfl) (by kernel_rfl) (fun _ _ _ h => h) (fun _ => HB10.out) (by rfl) ?hh1 ?rr1
        case hh1 => (intro W; go_simp; try with_reducible rfl)
        (try simp only [Act.put, List.setIfInBounds_toArray, List.set_cons_zero, List.set_cons_succ])
        refine wpAnyL_any (i := 2) (oi := ⟨some 103, _, _, _, _, _⟩) (v := ?vv2) rfl (by kernel_rfl) (by kernel_rfl) (by kernel_rfl) (by kernel_rfl) (fun _ _ _ h => h) (fun _ => HB10.out) (by rfl) ?hh2 ?rr2
        case hh2 => (intro W; go_simp; try with_reducible rfl)
        (try simp only [Act.put, List.setIfInBounds_toArray, List.set_cons_zero, List.set_cons_succ])
        refine wpAnyL_any (i := 3) (oi := ⟨some 104, _, _, _, _, _⟩) (v := ?vv3) rfl (by kernel_rfl) (by kernel_rfl) (by kernel_rfl) (by kernel_rfl) (fun _ _ _ h => h) (fun _ => HB10.out) (by rfl) ?hh3 ?rr3
        case hh3 => (intro W; go_simp; try with_reducible rfl)
        (try simp only [Act.put, List.setIfInBounds_toArray, List.set_cons_zero, List.set_cons_succ])
        refine wpAnyL_take (i := 4) (oi := ⟨some 105, _, _, _, _, _⟩) [26, 27, 28, 29] (v := ?vv4) rfl (by kernel_rfl) (by kernel_rfl) (by kernel_rfl) (by kernel_rfl) (fun _ _ _ h => h) HB10.out (by rfl) ?hh4 ?rr4
        case hh4 => (intro W hW; obtain ⟨rr, rf, k6, k9, ka⟩ := KC.out W hW; rw [Mc.cells] at rr; obtain ⟨m0, m1, m2, m3, m4, m5, m6, m7, m8, m9, m10, m11, m12, m13⟩ := rg14 rr; obtain ⟨f0, f1, f2, f3, f4⟩ := rg5 rf; obtain ⟨c0, c1, c2, c3, -⟩ := bk4 ka; simp only [Nat.zero_add] at m1 m2 m3 m4 m5 m6 m7 m8 m9 m10 m11 m12 m13 f1 f2 f3 f4; clear rr rf ka; go_simp; try with_reducible rfl)
        (try simp only [Act.put, List.setIfInBounds_toArray, List.set_cons_zero, List.set_cons_succ])
        refine wpAnyL_any (i := 5) (oi := ⟨some 106, _, _, _, _, _⟩) (v := ?vv5) rfl (by kernel_rfl) (by kernel_rfl) (by kernel_rfl) (by kernel_rfl) (fun _ _ _ h => h) (fun _ => HB10.out) (by rfl) ?hh5 ?rr5
        case hh5 => (intro W; go_simp; try with_reducible rfl)
        (try simp only [Act.put, List.setIfInBounds_toArray, List.set_cons_zero, List.set_cons_succ])
        refine wpAnyL_any (i := 6) (oi := ⟨some 107, _, _, _, _, _⟩) (v := ?vv6) rfl (by kernel_rfl) (by kernel_rfl) (by kernel_rfl) (by kernel_rfl) (fun _ _ _ h => h) (fun _ => HB10.out) (by rfl) ?hh6 ?rr6
        case hh6 => (intro W; go_simp; try with_reducible rfl)
        (try simp only [Act.put, List.setIfInBounds_toArray, List.set_cons_zero, List.set_cons_succ])
        refine wpAnyL_any (i := 7) (oi := ⟨some 108, _, _, _, _, _⟩) (v := ?vv7) rfl (by kernel_rfl) (by kernel_rfl) (by kernel_rfl) (by kernel_rfl) (fun _ _ _ h => h) (fun _ => HB10.out) (by rfl) ?hh7 ?rr7
        case hh7 => (intro W; go_simp; try with_reducible rfl)
        (try simp only [Act.put, List.setIfInBounds_toArray, List.set_cons_zero, List.set_cons_succ])
        refine wpAnyL_take (i := 8) (oi := ⟨some 109, _, _, _, _, _⟩) [26, 27, 28, 29] (v := ?vv8) rfl (by kernel_rfl) (by kernel_rfl) (by kernel_rfl) (by kernel_rfl) (fun _ _ _ h => h) HB10.out (by rfl) ?hh8 ?rr8
        case hh8 => (intro W hW; obtain ⟨rr, rf, k6, k9, ka⟩ := KC.out W hW; rw [Mc.cells] at rr; obtain ⟨m0, m1, m2, m3, m4, m5, m6, m7, m8, m9, m10, m11, m12, m13⟩ := rg14 rr; obtain ⟨f0, f1, f2, f3, f4⟩ := rg5 rf; obtain ⟨c0, c1, c2, c3, -⟩ := bk4 ka; simp only [Nat.zero_add] at m1 m2 m3 m4 m5 m6 m7 m8 m9 m10 m11 m12 m13 f1 f2 f3 f4; clear rr rf ka; go_simp; try with_reducible rfl)
        (try simp only [Act.put, List.setIfInBounds_toArray, List.set_cons_zero, List.set_cons_succ])
        refine wpAnyL_any (i := 9) (oi := ⟨some 110, _, _, _, _, _⟩) (v := ?vv9) rfl (by kernel_rfl) (by kernel_rfl) (by kernel_rfl) (by kernel_rfl) (fun _ _ _ h => h) (fun _ => HB10.out) (by rfl) ?hh9 ?rr9
        case hh9 => (intro W; go_simp; try with_reducible rfl)
        (try simp only [Act.put, List.setIfInBounds_toArray, List.set_cons_zero, List.set_cons_succ])
        refine wpAnyL_any (i := 10) (oi := ⟨some 111, _, _, _, _, _⟩) (v := ?vv10) rfl (by kernel_rfl) (by kernel_rfl) (by kernel_rfl) (by kernel_rfl) (fun _ _ _ h => h) (fun _ => HB10.out) (by rfl) ?hh10 ?rr10
        case hh10 => (intro W; go_simp; try with_reducible rfl)
        (try simp only [Act.put, List.setIfInBounds_toArray, List.set_cons_zero, List.set_cons_succ])
        refine wpAnyL_any (i := 11) (oi := ⟨some 112, _, _, _, _, _⟩) (v := ?vv11) rfl (by kernel_rfl) (by kernel_rfl) (by kernel_rfl) (by kernel_rfl) (fun _ _ _ h => h) (fun _ => HB10.out) (by rfl) ?hh11 ?rr11
        case hh11 => (intro W; go_simp; try with_reducible rfl)
        (try simp only [Act.put, List.setIfInBounds_toArray, List.set_cons_zero, List.set_cons_succ])
        refine wpAnyL_any (i := 12) (oi := ⟨some 113, _, _, _, _, _⟩) (v := ?vv12) rfl (by kernel_rfl) (by kernel_rfl) (by kernel_rfl) (by kernel_rfl) (fun _ _ _ h => h) (fun _ => HB10.out) (by rfl) ?hh12 ?rr12
        case hh12 => (intro W; go_simp; try with_reducible rfl)
        (try simp only [Act.put, List.setIfInBounds_toArray, List.set_cons_zero, List.set_cons_succ])
        refine wpAnyL_take (i := 13) (oi := ⟨some 114, _, _, _, _, _⟩) [14, 15, 17, 25, 26, 27, 28, 29] (v := ?vv13) rfl (by kernel_rfl) (by kernel_rfl) (by kernel_rfl) (by kernel_rfl) (fun _ _ _ h => h) HB10.out (by rfl) ?hh13 ?rr13
        case hh13 => (intro W hW; obtain ⟨rr, rf, k6, k9, ka⟩ := KC.out W hW; rw [Mc.cells] at rr; obtain ⟨m0, m1, m2, m3, m4, m5, m6, m7, m8, m9, m10, m11, m12, m13⟩ := rg14 rr; obtain ⟨f0, f1, f2, f3, f4⟩ := rg5 rf; obtain ⟨c0, c1, c2, c3, -⟩ := bk4 ka; simp only [Nat.zero_add] at m1 m2 m3 m4 m5 m6 m7 m8 m9 m10 m11 m12 m13 f1 f2 f3 f4; clear rr rf ka; go_simp; try with_reducible rfl)
        (try simp only [Act.put, List.setIfInBounds_toArray, List.set_cons_zero, List.set_cons_succ])
        refine wpAnyL_any (i := 14) (oi := ⟨some 115, _, _, _, _, _⟩) (v := ?vv14) rfl (by kernel_rfl) (by kernel_rfl) (by kernel_rfl) (by kernel_rfl) (fun _ _ _ h => h) (fun _ => HB10.out) (by rfl) ?hh14 ?rr14
        case hh14 => (intro W; go_simp; try with_reducible rfl)
        (try simp only [Act.put, List.setIfInBounds_toArray, List.set_cons_zero, List.set_cons_succ])
        refine wpAnyL_take (i := 15) (oi := ⟨some 116, _, _, _, _, _⟩) [17, 25, 26, 27, 28, 29] (v := ?vv15) rfl (by kernel_rfl) (by kernel_rfl) (by kernel_rfl) (by kernel_rfl) (fun _ _ _ h => h) HB10.out (by rfl) ?hh15 ?rr15
        case hh15 => (intro W hW; obtain ⟨rr, rf, k6, k9, ka⟩ := KC.out W hW; rw [Mc.cells] at rr; obtain ⟨m0, m1, m2, m3, m4, m5, m6, m7, m8, m9, m10, m11, m12, m13⟩ := rg14 rr; obtain ⟨f0, f1, f2, f3, f4⟩ := rg5 rf; obtain ⟨c0, c1, c2, c3, -⟩ := bk4 ka; simp only [Nat.zero_add] at m1 m2 m3 m4 m5 m6 m7 m8 m9 m10 m11 m12 m13 f1 f2 f3 f4; clear rr rf ka; go_simp; try with_reducible rfl)
        (try simp only [Act.put, List.setIfInBounds_toArray, List.set_cons_zero, List.set_cons_succ])
        refine wpAnyL_take (i := 16) (oi := ⟨some 117, _, _, _, _, _⟩) [17, 25, 26, 27, 28, 29] (v := ?vv16) rfl (by kernel_rfl) (by kernel_rfl) (by kernel_rfl) (by kernel_rfl) (fun _ _ _ h => h) HB10.out (by rfl) ?hh16 ?rr16
        case hh16 => (intro W hW; obtain ⟨rr, rf, k6, k9, ka⟩ := KC.out W hW; rw [Mc.cells] at rr; obtain ⟨m0, m1, m2, m3, m4, m5, m6, m7, m8, m9, m10, m11, m12, m13⟩ := rg14 rr; obtain ⟨f0, f1, f2, f3, f4⟩ := rg5 rf; obtain ⟨c0, c1, c2, c3, -⟩ := bk4 ka; simp only [Nat.zero_add] at m1 m2 m3 m4 m5 m6 m7 m8 m9 m10 m11 m12 m13 f1 f2 f3 f4; clear rr rf ka; go_simp; try with_reducible rfl)
        (try simp only [Act.put, List.setIfInBounds_toArray, List.set_cons_zero, List.set_cons_succ])
        refine wpAnyL_any (i := 18) (oi := ⟨some 119, _, _, _, _, _⟩) (v := ?vv18) rfl (by kernel_rfl) (by kernel_rfl) (by kernel_rfl) (by kernel_rfl) (fun _ _ _ h => h) (fun _ => HB10.out) (by rfl) ?hh18 ?rr18
        case hh18 => (intro W; go_simp; try with_reducible rfl)
        (try simp only [Act.put, List.setIfInBounds_toArray, List.set_cons_zero, List.set_cons_succ])
        refine wpAnyL_any (i := 19) (oi := ⟨some 120, _, _, _, _, _⟩) (v := ?vv19) rfl (by kernel_rfl) (by kernel_rfl) (by kernel_rfl) (by kernel_rfl) (fun _ _ _ h => h) (fun _ => HB10.out) (by rfl) ?hh19 ?rr19
        case hh19 => (intro W; go_simp; try with_reducible rfl)
        (try simp only [Act.put, List.setIfInBounds_toArray, List.set_cons_zero, List.set_cons_succ])
        refine wpAnyL_any (i := 20) (oi := ⟨some 121, _, _, _, _, _⟩) (v := ?vv20) rfl (by kernel_rfl) (by kernel_rfl) (by kernel_rfl) (by kernel_rfl) (fun _ _ _ h => h) (fun _ => HB10.out) (by rfl) ?hh20 ?rr20
        case hh20 => (intro W; go_simp; try with_reducible rfl)
        (try simp only [Act.put, List.setIfInBounds_toArray, List.set_cons_zero, List.set_cons_succ])
        refine wpAnyL_take (i := 21) (oi := ⟨some 122, _, _, _, _, _⟩) [22, 23, 25, 26, 27, 28, 29] (v := ?vv21) rfl (by kernel_rfl) (by kernel_rfl) (by kernel_rfl) (by kernel_rfl) (fun _ _ _ h => h) HB10.out (by rfl) ?hh21 ?rr21
        case hh21 => (intro W hW; obtain ⟨rr, rf, k6, k9, ka⟩ := KC.out W hW; rw [Mc.cells] at rr; obtain ⟨m0, m1, m2, m3, m4, m5, m6, m7, m8, m9, m10, m11, m12, m13⟩ := rg14 rr; obtain ⟨f0, f1, f2, f3, f4⟩ := rg5 rf; obtain ⟨c0, c1, c2, c3, -⟩ := bk4 ka; simp only [Nat.zero_add] at m1 m2 m3 m4 m5 m6 m7 m8 m9 m10 m11 m12 m13 f1 f2 f3 f4; clear rr rf ka; go_simp; try with_reducible rfl)
        (try simp only [Act.put, List.setIfInBounds_toArray, List.set_cons_zero, List.set_cons_succ])
        refine wpAnyL_any (i := 22) (oi := ⟨some 123, _, _, _, _, _⟩) (v := ?vv22) rfl (by kernel_rfl) (by kernel_rfl) (by kernel_rfl) (by kernel_rfl) (fun _ _ _ h => h) (fun _ => HB10.out) (by rfl) ?hh22 ?rr22
        case hh22 => (intro W; go_simp; try with_reducible rfl)
        (try simp only [Act.put, List.setIfInBounds_toArray, List.set_cons_zero, List.set_cons_succ])
        refine wpAnyL_take (i := 23) (oi := ⟨some 124, _, _, _, _, _⟩) [25, 26, 27, 28, 29] (v := ?vv23) rfl (by kernel_rfl) (by kernel_rfl) (by kernel_rfl) (by kernel_rfl) (fun _ _ _ h => h) HB10.out (by rfl) ?hh23 ?rr23
        case hh23 => (intro W hW; obtain ⟨rr, rf, k6, k9, ka⟩ := KC.out W hW; rw [Mc.cells] at rr; obtain ⟨m0, m1, m2, m3, m4, m5, m6, m7, m8, m9, m10, m11, m12, m13⟩ := rg14 rr; obtain ⟨f0, f1, f2, f3, f4⟩ := rg5 rf; obtain ⟨c0, c1, c2, c3, -⟩ := bk4 ka; simp only [Nat.zero_add] at m1 m2 m3 m4 m5 m6 m7 m8 m9 m10 m11 m12 m13 f1 f2 f3 f4; clear rr rf ka; go_simp; try with_reducible rfl)
        (try simp only [Act.put, List.setIfInBounds_toArray, List.set_cons_zero, List.set_cons_succ])
        refine wpAnyL_take (i := 24) (oi := ⟨some 125, _, _, _, _, _⟩) [25, 26, 27, 28, 29] (v := ?vv24) rfl (by kernel_rfl) (by kernel_rfl) (by kernel_rfl) (by kernel_rfl) (fun _ _ _ h => h) HB10.out (by rfl) ?hh24 ?rr24
        case hh24 => (intro W hW; obtain ⟨rr, rf, k6, k9, ka⟩ := KC.out W hW; rw [Mc.cells] at rr; obtain ⟨m0, m1, m2, m3, m4, m5, m6, m7, m8, m9, m10, m11, m12, m13⟩ := rg14 rr; obtain ⟨f0, f1, f2, f3, f4⟩ := rg5 rf; obtain ⟨c0, c1, c2, c3, -⟩ := bk4 ka; simp only [Nat.zero_add] at m1 m2 m3 m4 m5 m6 m7 m8 m9 m10 m11 m12 m13 f1 f2 f3 f4; clear rr rf ka; go_simp; try with_reducible rfl)
        (try simp only [Act.put, List.setIfInBounds_toArray, List.set_cons_zero, List.set_cons_succ])
        refine wpAnyL_one (i := 17) (oi := ⟨some 118, _, _, _, _, _⟩) rfl (by kernel_rfl) (fun K hK => ?_)
        refine step_call _ (by rfl) 22 _ (by go_simp) (MR.out _ HB10.out) ?_
        rintro e w11 ⟨rfl, hb11⟩
        refine ⟨_, rfl, ?_⟩
        have HB11 := hide (HB10.out.trans (hb11.mono HB10.out.size))
        clear hb11
        refine hK.out _ _ (fun _ => HB11.out) ?_
        clear hK K
        (try simp only [Act.put, List.setIfInBounds_toArray, List.set_cons_zero, List.set_cons_succ])
        refine wpAnyL_one (i := 25) (oi := ⟨some 126, _, _, _, _, _⟩) rfl (by kernel_rfl) (fun K hK => ?_)
        refine step_call _ (by rfl) 31 _ (by go_simp) (CR.out w11 HB11.out) ?_
        rintro e w12 ⟨co, pc', FA', fn', fc', FB', fm', fd', rfl, hb12, w13, hst, ⟨a0', a1', a2', a3', a4', hra⟩, zf, ⟨z6, z9⟩, hkk, hWz⟩
        refine ⟨_, rfl, ?_⟩
        have HB12 := hide (HB11.out.trans (hb12.mono HB11.out.size))
        obtain ⟨v0, v1, v2, v3, v4⟩ := rg5 hra
        simp only [Nat.zero_add] at v1 v2 v3 v4
        have WZ := hide hWz
        clear hra hWz hb12 hkk
        refine hK.out _ _ (fun _ => HB12.out) ?_
        clear hK K
        (try simp only [Act.put, List.setIfInBounds_toArray, List.set_cons_zero, List.set_cons_succ])
        refine wpAnyL_any (i := 26) (oi := ⟨some 127, _, _, _, _, _⟩) (v := ?vv26) rfl (by kernel_rfl) (by kernel_rfl) (by kernel_rfl) (by kernel_rfl) (fun _ _ _ h => h) (fun _ => HB12.out) (by rfl) ?hh26 ?rr26
        case hh26 => (intro W; go_simp; try with_reducible rfl)
        (try simp only [Act.put, List.setIfInBounds_toArray, List.set_cons_zero, List.set_cons_succ])
        refine wpAnyL_one (i := 27) (oi := ⟨none, _, _, _, _, _⟩) rfl (by kernel_rfl) (fun K hK => ?_)
        go_simp
        refine hK.out _ _ (fun h => by first | cases h | simp at h) ?_
        clear hK K
        (try simp only [Act.put, List.setIfInBounds_toArray, List.set_cons_zero, List.set_cons_succ])
        refine wpAnyL_any (i := 28) (oi := ⟨some 128, _, _, _, _, _⟩) (v := ?vv28) rfl (by kernel_rfl) (by kernel_rfl) (by kernel_rfl) (by kernel_rfl) (fun _ _ _ h => h) (fun h => by first | cases h | simp at h) (by rfl) ?hh28 ?rr28
        case hh28 => (intro W; go_simp; try with_reducible rfl)
        (try simp only [Act.put, List.setIfInBounds_toArray, List.set_cons_zero, List.set_cons_succ])
        refine wpAnyL_one (i := 29) (oi := ⟨none, _, _, _, _, _⟩) rfl (by kernel_rfl) (fun K hK => ?_)
        go_simp
        refine hK.out _ _ (fun h => by first | cases h | simp at h) ?_
        clear hK K
        (try simp only [Act.put, List.setIfInBounds_toArray, List.set_cons_zero, List.set_cons_succ])
        refine wpAnyL_done (by kernel_rfl) ?_ _
        obtain ⟨hwi, hbz⟩ := WZ.out _ (set5_eq _ _ _ _ _ _ _ _)
        have WI14 := hide hwi
        have CD14 := hide (Cd.belowB CD12.out ((HB12.out.mono (Nat.le_of_lt lt1)).trans hbz) hGG)
        have BW14 := hide (BW12.out.trans (((HB12.out.mono (Nat.le_of_lt lt1)).trans hbz).mono hwG))
        clear hwi hbz lt1 lt2 lt3 ltA HB10 HRZ MR CR WI12 CD12 BW12 KA10 hsz14 hst zf z6 z9 v0 v1 v2 v3 v4 HB12 HB11 KC
        generalize (w13.setCells gF 0 [.int .i64 co, .int .i64 pc', .slice FA' fn' fc', .slice FB' fm' fd', .slice none 0 0]) = w14 at *
        go_wp2
        go_roundg (gk - 1)
        case rel => exact ⟨j + 1, _, { st with ms := [x'] }, x', by omega, by go_num, rfl, HWS.out, HOX.out, WI14.out, CD14.out, BW14.out⟩
        case measure => omega
    · obtain rfl : j = 30 := by omega
      have SM := hide (same9_wi (i := 0) HWI.out (by rw [HMS.out]; rfl) HOW.out)
      go_wp2_with fail
      refine SM.out.mono ?_
      rintro e w6 ⟨rfl, hb6⟩
      go_wp2
      go_ret
      exact ⟨rfl, HBW.out.trans (hb6.mono HBW.out.size)⟩
end Go.Proofs.Ytepngbdjobckbaa
