/- The world with one channel of capacity 1 and two threads. -/
import Derived.Test.YtepngbdjobckbaaGreatG1
namespace Go.Proofs.YtepngbdjobckbaaGreat
open Go.RowKit
set_option linter.unusedVariables false
theorem tot_one : totI [1] 2 = 31 := by decide
theorem sta_one : ∀ x ∈ [(0 : Int)], 0 ≤ x ∧ x < 9223372036854775808 := fun x hx => by simp at hx; omega
theorem begin_one (w : World) (A B : Option Addr) (hcf : Cf w A 1 [1]) (hs : IsI .u64 w B 1 [0]) :
    Calls Tryz.prog 14 #[.agg #[.slice A 1 1, .slice B 1 1, .int .i64 2]] w fun e w' => ∃ gW gL : Nat, e = .returned (.agg #[.slice A 1 1, .slice B 1 1, .int .i64 2, .slice (some ⟨gW, 0, none⟩) 31 31, .slice (some ⟨gL, 0, none⟩) 2 2, .int .i64 0, .slice none 0 0, .slice none 0 0, .slice none 0 0]) ∧ Bk w' gW 42 (wc64 (iniI [1] [0] 2)) ∧ w.heap.size ≤ gW ∧ Below w.heap.size w w' := by
  refine (begin_any w A 1 1 [1] B 1 [0] 2 hcf hs sta_one (by omega) (by omega)).mono ?_
  rintro e w' ⟨gW, gL, rfl, hk, hg, hb⟩
  exact ⟨gW, gL, by rw [tot_one]; rfl, hk, hg, hb⟩
theorem wi_one0 {own : Nat → Prop} {Rp : List Int → Mc → Fa → Prop} {w : World} {TW : TypeId} {G gW gL : Nat} {A B : Option Addr} (htw : TWok TW)
    (kG : Bk w G TW #[.slice A 1 1, .slice B 1 1, .int .i64 2, .slice (some ⟨gW, 0, none⟩) 31 31, .slice (some ⟨gL, 0, none⟩) 2 2, .int .i64 0, .slice none 0 0, .slice none 0 0, .slice none 0 0, .slice none 0 0])
    (hcf : Cf w A 1 [1]) (hty : TyA w A 1 3) (hk : Bk w gW 42 (wc64 (iniI [1] [0] 2))) : WI own Rp w G G TW (st0 [1] [0] 2) :=
  wi_at (n := 1) (c := 1) (d := 1) (tn := 2) (gW := gW) (gL := gL) (l := [1]) (s := [0]) (B := B) htw (by rw [tot_one]; exact kG) hcf hty (by omega) hk (by decide +kernel) (iniI_u sta_one)
theorem wi_one {own : Nat → Prop} {Rp : List Int → Mc → Fa → Prop} {w : World} {TW : TypeId} {G gW gL : Nat} {A B : Option Addr} (htw : TWok TW)
    (kG : Bk w G TW #[.slice A 1 1, .slice B 1 1, .int .i64 2, .slice (some ⟨gW, 0, none⟩) 31 31, .slice (some ⟨gL, 0, none⟩) 2 2, .int .i64 0, .slice none 0 0, .slice none 0 0, .slice none 0 0, .slice none 0 0])
    (hcf : Cf w A 1 [1]) (hty : TyA w A 1 3) (hk : Bk w gW 42 (wc64 (iniI [1] [0] 2))) (k : Nat) (v : Int) (hv : u64 v) : WI own Rp (w.setCell ⟨gW, k, none⟩ (.int .u64 v)) G G TW { st0 [1] [0] 2 with ws := (iniI [1] [0] 2).set k v } :=
  wi_store (n := 1) (c := 1) (d := 1) (tn := 2) (gL := gL) (l := [1]) (s := [0]) (B := B) htw (by rw [tot_one]; exact kG) hcf hty (by omega) hk (by decide +kernel) (iniI_u sta_one) k v hv
theorem wc_cell {w : World} {g : Nat} {t : TypeId} {ws : List Int} (h : Bk w g t (wc64 ws)) {k : Nat} (hk : k < ws.length) : w.cell? ⟨g, k, none⟩ = some (.int .u64 (ws.getD k 0)) := by
  rw [h.cell k]
  unfold wc64
  simp [List.getD, List.getElem?_eq_getElem hk]
end Go.Proofs.YtepngbdjobckbaaGreat
