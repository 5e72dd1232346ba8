/- The machine that counts, added to a world. -/
import Derived.Test.YtepngbdjobckbaaGreatH11
import Derived.Test.YtepngbdjobckbaaGreatK11a
namespace Go.Proofs.YtepngbdjobckbaaGreat
open Go.RowKit
set_option linter.unusedVariables false
theorem add11_wi (w : World) (base G : Nat) (s : St) (what ch th : Nat) (v : Int) (H : WI Own11 Rp11 w base G 66 s) (hw : 1 ≤ what ∧ what ≤ 11) (hch : ch < s.l.length) (hth : th ≤ 8) (hv : u64 v) (hms : s.ms.length ≤ 1000) :
    Calls Tryz.prog 16 #[.pointer (some ⟨G, 0, none⟩), .int .i64 what, .int .i64 ch, .int .i64 th, .int .u64 v] w fun e w' => e = .returned (.tuple #[]) ∧ WI Own11 Rp11 w' base G 66 { s with ms := s.ms ++ [mc0 what ch th v] } ∧ Below base w w' ∧ Kp w w' 3 := by
  obtain ⟨qs, ⟨h, H1⟩, I⟩ := H
  have hl : s.l.length = h.n := H1.cf.len
  have hfl : h.fs.length = qs.length := H1.fr.1
  have hln : qs.length = s.ms.length := I.ln
  by_cases ho : what = 6
  · subst ho
    refine (add11_own w base G h _ 6 ch th v (v % 4) (v % 8) (mc0 6 ch th v) (fun q' => Rp11 s.l (mc0 6 ch th v) q') H1 rfl rfl rfl hv.1 rfl (by show s.ms.length ≤ 1000000; omega) (by omega) (fun W hW => start11_any W h.A h.n h.c s.l h.B h.m h.d s.th hW ch th (by rw [← hl]; exact hch) _ _ _)).mono ?_
    rintro e w' ⟨rfl, q', hR, hW, hB⟩
    exact ⟨rfl, ⟨qs ++ [q'], hW, I.add (mv0 (by omega) (by omega) hch hth hv) (fun _ => hR)⟩, hB⟩
  · refine (add11_oth w base G h _ what ch th v (v % 4) (v % 8) (mc0 what ch th v) H1 rfl rfl rfl hv.1 (by show what ≠ 6; omega) (by show s.ms.length ≤ 1000000; omega) (by omega)).mono ?_
    rintro e w' ⟨rfl, hW, hB⟩
    exact ⟨rfl, ⟨qs ++ [_], hW, I.add (mv0 hw.1 hw.2 hch hth hv) (fun h => absurd (show what = 6 from h) ho)⟩, hB⟩
end Go.Proofs.YtepngbdjobckbaaGreat
