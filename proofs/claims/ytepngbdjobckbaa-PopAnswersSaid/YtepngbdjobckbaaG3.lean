/- A machine and its frame go on with an answer, outside of any step. -/
import Derived.Test.YtepngbdjobckbaaG1
import Derived.Deep.Slices
namespace Go.Proofs.Ytepngbdjobckbaa
open Go.RowKit
set_option linter.unusedVariables false

/-- What is known of the one machine of a world and of its frame. -/
structure Rz (own : Nat → Prop) (Rp : List Int → Mc → Fa → Prop) (RS : FuncId) (w : World) (G : Nat) (TW : TypeId) (s : St) (x : Mc) (A : Option Addr) (n c : Nat) (B : Option Addr) (m d : Nat) (gL cL gF cF : Nat) (code pc : Int) (FA : Option Addr) (fn fc : Nat) (FB : Option Addr) (fm fd : Nat) : Prop where
  k6 : w.cell? ⟨G, 6, none⟩ = some (.slice (some ⟨gL, 0, none⟩) 1 cL)
  k9 : w.cell? ⟨G, 9, none⟩ = some (.slice (some ⟨gF, 0, none⟩) 1 cF)
  rL : w.rangeAt gL 0 (Mc.cells A n c B m d s.th x).toList
  rF : w.rangeAt gF 0 [.int .i64 code, .int .i64 pc, .slice FA fn fc, .slice FB fm fd, .slice none 0 0]
  lt : G < w.heap.size ∧ gL < w.heap.size ∧ gF < w.heap.size
  ne : gL ≠ G ∧ gF ≠ G ∧ gL ≠ gF
  kL : ∃ cur, Bk w gL 58 cur
  kF : ∃ cur, Bk w gF 61 cur
  res : ∀ W, Below w.heap.size w W → ∀ (a : Int) (y z : Bool) (LA : Option Addr) (ln lc : Nat), u64 a → Calls Try.prog 22 #[.agg (Mc.cells A n c B m d s.th x), .agg #[.int .u64 a, .bool y, .bool z, .slice LA ln lc]] W fun e w' => e = .returned (.agg (Mc.cells A n c B m d s.th (mres s.l x a y))) ∧ Below W.heap.size W w'
  go : ∀ W, Below w.heap.size w W → ∀ (a : Int) (y z : Bool) (LA : Option Addr) (ln lc : Nat), u64 a → Calls Try.prog RS #[.agg #[.int .i64 code, .int .i64 pc, .slice FA fn fc, .slice FB fm fd, .slice none 0 0], .agg #[.int .u64 a, .bool y, .bool z, .slice LA ln lc]] W fun e w' =>
    ∃ (co pc' : Int) (FA' : Option Addr) (fn' fc' : Nat) (FB' : Option Addr) (fm' fd' : Nat), e = .returned (.agg #[.int .i64 co, .int .i64 pc', .slice FA' fn' fc', .slice FB' fm' fd', .slice none 0 0]) ∧ Below W.heap.size W w' ∧
      ∃ w5, (storeCells ⟨gL, 0, none⟩ (Mc.cells A n c B m d s.th (mres s.l x a y)).toList).run Try.prog w' = .ok () w5 ∧ (∃ a0 a1 a2 a3 a4, w5.rangeAt gF 0 [a0, a1, a2, a3, a4]) ∧ (∀ j, w5.frozen? ⟨gF, j, none⟩ = false) ∧
        (w5.cell? ⟨G, 6, none⟩ = some (.slice (some ⟨gL, 0, none⟩) 1 cL) ∧ w5.cell? ⟨G, 9, none⟩ = some (.slice (some ⟨gF, 0, none⟩) 1 cF)) ∧ (∀ T, T ≠ 58 → Kp w' w5 T) ∧
        ∀ wz, wz = w5.setCells gF 0 [.int .i64 co, .int .i64 pc', .slice FA' fn' fc', .slice FB' fm' fd', .slice none 0 0] → WI own Rp wz G G TW { s with ms := [mres s.l x a y] } ∧ Below G w' wz
theorem WI.rz {own : Nat → Prop} {Rp : List Int → Mc → Fa → Prop} {NX EN RS : FuncId} {w : World} {G : Nat} {TW : TypeId} {s : St} {x : Mc} (K : Knows own Rp NX EN RS) (H : WI own Rp w G G TW s) (hm : s.ms = [x]) (ho : own x.what) :
    ∃ A n c B m d gL cL gF cF code pc FA fn fc FB fm fd, Rz own Rp RS w G TW s x A n c B m d gL cL gF cF code pc FA fn fc FB fm fd := by
  obtain ⟨qs, ⟨h, Hw⟩, I⟩ := H
  have hm1 : s.ms.length = 1 := by rw [hm]; rfl
  have hql : qs.length = 1 := by rw [← hm1]; exact I.ln
  obtain ⟨q, rfl⟩ : ∃ q, qs = [q] := List.length_eq_one_iff.1 hql
  have hx : s.ms[0]? = some x := by rw [hm]; rfl
  have hq : [q][0]? = some q := rfl
  obtain ⟨gL, cL, eL, -⟩ := Hw.rowL (i := 0) (by show 0 < s.ms.length; omega)
  obtain ⟨FA, fn, fc, FB, fm, fd, gF, cF, hfr, -, eF, hif, hrF⟩ := Hw.frame (i := 0) hq
  have hfl : h.fs.length = 1 := Hw.fr.1
  have bk := Hw.bk
  rw [Hd.cells, eL, eF] at bk
  obtain ⟨-, -, -, -, -, -, k6, -, -, k9, -⟩ := bk10 bk
  have e6 : ({ s with qs := [q] } : St).ms.length = 1 := hm1
  rw [e6] at k6
  rw [hfl] at k9
  have oL := Hw.rL
  rw [eL] at oL
  have oF := Hw.rF
  rw [eF] at oF
  have hrL := own_range (mcs_len h _) oL (i := 0) hx
  have mvx := I.mv 0 x hx
  have hl : s.l.length = h.n := Hw.cf.len
  rw [Nat.zero_mul] at hrL hrF
  refine ⟨h.A, h.n, h.c, h.B, h.m, h.d, gL, cL, gF, cF, q.code, q.pc, FA, fn, fc, FB, fm, fd, k6, k9, hrL, hrF, ⟨bk.lt, (oL.lt gL rfl).2, (oF.lt gF rfl).2⟩, ⟨own_ne oL Hw.bk Hw.tw.2.2.1, own_ne oF Hw.bk Hw.tw.2.2.2.2.2, own_two oL oF (by decide)⟩, own_bk oL, own_bk oF, fun W hW a y z LA ln lc ha => mres_any W h.A h.n h.c h.B h.m h.d s.th s.l (Hw.cf.below hW) x (by rw [← hl]; exact mvx) a y z LA ln lc ha, fun W hW a y z LA ln lc ha => ?_⟩
  refine (K.res s.l x q I.cap mvx ho (I.rp 0 x q hx hq ho) W _ a y z LA ln lc ha (Fr.below hfr hW)).mono ?_
  rintro e w' ⟨cs', q', rfl, hf', hR, hb⟩
  obtain ⟨FA', fn', fc', FB', fm', fd', rfl, -⟩ := id hf'
  have Hw2 := (Hw.below hW).below hb
  obtain ⟨w5, h1, h2, h3, h4, hkk, h5⟩ := two_storesW (r := 0) (x := mres s.l x a y) (q := q') Hw2 (by show 0 < s.ms.length; omega) (by show 0 < [q].length; simp) eL eF hf'
  rw [Hd.cells, eL, eF] at h4
  obtain ⟨-, -, -, -, -, -, j6, -, -, j9, -⟩ := bk10 h4
  rw [e6] at j6
  rw [hfl] at j9
  rw [Nat.zero_mul] at h1 h2 h5
  refine ⟨_, _, _, _, _, _, _, _, rfl, hb, w5, h1, h2, h3, ⟨j6, j9⟩, hkk, fun wz hz => ?_⟩
  obtain ⟨⟨hd2, hW2⟩, hB2⟩ := h5 wz hz
  have e : s.ms.set 0 (mres s.l x a y) = [mres s.l x a y] := by rw [hm]; rfl
  have hp := I.put (r := 0) (x := mres s.l x a y) (q := q') (mvx.res ha y) (fun _ => hR)
  rw [show ({ s with qs := [q] } : St).ms.set 0 (mres s.l x a y) = [mres s.l x a y] from e] at hW2 hp
  exact ⟨⟨[q'], ⟨hd2, hW2⟩, hp⟩, hB2⟩
theorem WI.oth {own : Nat → Prop} {Rp : List Int → Mc → Fa → Prop} {w w' : World} {base G g : Nat} {TW T : TypeId} {s : St} {ys : Array Value} (H : WI own Rp w base G TW s) (hg : w.grownBy w' (some g)) (k : Bk w g T ys) (hne : G ≠ g) (a1 : 3 ≠ T) (a2 : 27 ≠ T) (a3 : 58 ≠ T) (a4 : 71 ≠ T) (a5 : 39 ≠ T) (a6 : 61 ≠ T ∧ 56 ≠ T) : WI own Rp w' base G TW s := by
  obtain ⟨qs, ⟨h, H1⟩, H2⟩ := H
  exact ⟨qs, ⟨h, H1.grown hg k hne a1 a2 a3 a4 a5 a6⟩, H2⟩
theorem bk_ne {w : World} {g g' : Nat} {t t' : TypeId} {xs ys : Array Value} (h : Bk w g t xs) (h' : Bk w g' t' ys) (hne : t ≠ t') : g ≠ g' := fun e => by
  subst e
  unfold Bk at h h'
  rw [h] at h'
  simp at h'
  exact hne h'.2
theorem u64_small {v : Int} (h : 0 ≤ v ∧ v < 1000) : u64 v := by unfold u64; omega
/-- A row of answers. -/
def AnsRow (w : World) (a : Option Addr) (n : Nat) : Prop := n ≤ 9223372036854775807 ∧ ∀ i, i < n → ∃ (ad : Addr) (v : Int) (y z : Bool) (LA : Option Addr) (ln lc : Nat), a = some ad ∧ u64 v ∧
  w.cell? (ad.add (i * 4 + 0)) = some (.int .u64 v) ∧ w.cell? (ad.add (i * 4 + 1)) = some (.bool y) ∧ w.cell? (ad.add (i * 4 + 2)) = some (.bool z) ∧ w.cell? (ad.add (i * 4 + 3)) = some (.slice LA ln lc)
theorem AnsRow.below {w w' : World} {a : Option Addr} {n : Nat} (h : AnsRow w a n) (hb : Below w.heap.size w w') : AnsRow w' a n :=
  ⟨h.1, fun i hi => by
    obtain ⟨ad, v, y, z, LA, ln, lc, e, hv, h0, h1, h2, h3⟩ := h.2 i hi
    exact ⟨ad, v, y, z, LA, ln, lc, e, hv, (hb.cell (block_lt h0)).trans h0, (hb.cell (block_lt h1)).trans h1, (hb.cell (block_lt h2)).trans h2, (hb.cell (block_lt h3)).trans h3⟩⟩
theorem Try.an_und : ∃ fs, Try.prog.underlying 53 = some (.struct fs) := ⟨_, Try.underlying53⟩
theorem Try.an_inf : (Try.prog.info? 53).map (·.size) = some 4 := by kernel_rfl
theorem an_one (v : Int) (y z : Bool) (A : Option Addr) (n c : Nat) : (#[.int .u64 v, .bool y, .bool z, .slice A n c] : Array Value).all (·.oneCell') = true := by
  refine all_oneCell_toArray (cs := [_, _, _, _]) fun v hv => ?_
  simp only [List.mem_cons, List.not_mem_nil, or_false] at hv
  rcases hv with rfl | rfl | rfl | rfl <;> rfl
end Go.Proofs.Ytepngbdjobckbaa
