/- Contracts: a machine at its beginning (chanfabricref7.New), a world without machines (chanfabricref7.Begin). -/
import Derived.Test.YtadaoobdnnleaaaX1
import Derived.Test.YtadaoobdnnleaaaR
namespace Go.Proofs.Ytadaoobdnnleaaa
open Go.RowKit
set_option linter.unusedVariables false

theorem Try.wl_und : ∃ fs, Try.prog.underlying 38 = some (.struct fs) := ⟨_, Try.underlying38⟩
theorem Try.wl_inf : (Try.prog.info? 38).map (·.size) = some 9 := by kernel_rfl
theorem wl_one (A : Option Addr) (n c : Nat) (B : Option Addr) (m d : Nat) (t : Int) (C : Option Addr) (p e : Nat) (D : Option Addr) (q f : Nat) : (#[.slice A n c, .slice B m d, .int .i64 t, .slice C p e, .slice D q f, .int .i64 0, .slice none 0 0, .slice none 0 0, .slice none 0 0] : Array Value).all (·.oneCell') = true := by
  refine all_oneCell_toArray (cs := [_, _, _, _, _, _, _, _, _]) fun v hv => ?_
  simp only [List.mem_cons, List.not_mem_nil, or_false] at hv
  rcases hv with rfl | rfl | rfl | rfl | rfl | rfl | rfl | rfl | rfl <;> rfl
set_option maxHeartbeats 1000000 in
set_option maxRecDepth 100000 in
theorem begin_any (w : World) (A : Option Addr) (n c : Nat) (l : List Int) (B : Option Addr) (d : Nat) (s : List Int) (tn : Nat) (hcf : Cf w A n l) (hs : IsI .u64 w B n s) (hst : ∀ x ∈ s, 0 ≤ x ∧ x < 9223372036854775808) (ht1 : 1 ≤ tn) (ht8 : tn ≤ 8) :
    Calls Try.prog 16 #[.agg #[.slice A n c, .slice B n d, .int .i64 tn]] w fun e w' => ∃ gW gL : Nat, e = .returned (.agg #[.slice A n c, .slice B n d, .int .i64 tn, .slice (some ⟨gW, 0, none⟩) (totI l tn) (totI l tn), .slice (some ⟨gL, 0, none⟩) (2 * n) (2 * n), .int .i64 0, .slice none 0 0, .slice none 0 0, .slice none 0 0]) ∧ Bk w' gW 46 (wc64 (iniI l s tn)) ∧ w.heap.size ≤ gW ∧ Below w.heap.size w w' := by
  have HS := hide (fun o1 o2 => rnew_any ((w.alloc o1).alloc o2) A n c l B d s tn ((hcf.alloc o1).alloc o2) ((hs.alloc o1).alloc o2) hst ht1 ht8)
  clear hcf hs hst
  go_enter Try.func16, Try.ntmps16
  go_wp2_with fail
  refine (HS.out _ _).mono ?_
  rintro e w1 ⟨gW, gL, rfl, hk, hg, hb⟩
  obtain ⟨k2, kb⟩ := at_second hb
  have KC := hide ((((Bk.new w 30 #[.slice A n c, .slice B n d, .int .i64 tn]).alloc (.cells #[.slice none 0 0, .slice none 0 0, .int .i64 0, .slice none 0 0, .slice none 0 0, .int .i64 0, .slice none 0 0, .slice none 0 0, .slice none 0 0] 38)).below hb (by simp; omega)).alloc (.cells #[.slice (some ⟨gW, 0, none⟩) (totI l tn) (totI l tn), .slice (some ⟨gL, 0, none⟩) (2 * n) (2 * n), .int .i64 0] 33))
  have HT := hide ((k2.alloc (.cells #[.slice (some ⟨gW, 0, none⟩) (totI l tn) (totI l tn), .slice (some ⟨gL, 0, none⟩) (2 * n) (2 * n), .int .i64 0] 33)).there (n := 9) rfl)
  have HK := hide (hk.alloc (.cells #[.slice (some ⟨gW, 0, none⟩) (totI l tn) (totI l tn), .slice (some ⟨gL, 0, none⟩) (2 * n) (2 * n), .int .i64 0] 33))
  have HB := hide (kb.trans ((below_new w1 (.cells #[.slice (some ⟨gW, 0, none⟩) (totI l tn) (totI l tn), .slice (some ⟨gL, 0, none⟩) (2 * n) (2 * n), .int .i64 0] 33)).mono kb.size))
  have hg' : w.heap.size + 1 < gW := by simp at hg; omega
  have hlt1 := k2.lt
  obtain ⟨c0, c1, c2, -⟩ := bkm3 KC.out
  clear hk hg hb k2 kb KC HS
  go_wp2_with ((with_reducible show wpList _ _ _ _ _ _); refine wpList_store_res (by rfl) 38 _ _ (by rfl) (w.heap.size + 1) #[.slice A n c, .slice B n d, .int .i64 tn, .slice (some ⟨gW, 0, none⟩) (totI l tn) (totI l tn), .slice (some ⟨gL, 0, none⟩) (2 * n) (2 * n), .int .i64 0, .slice none 0 0, .slice none 0 0, .slice none 0 0] (by rfl) (by rfl) HT.out Try.wl_inf (wl_one _ _ _ _ _ _ _ _ _ _ _ _ _) ?_; intro wz HZ)
  obtain ⟨fs, hfs⟩ := Try.wl_und
  exact ret_stored HZ Try.results16 rfl HT.out hfs rfl Try.wl_inf rfl ⟨gW, ⟨gL, rfl⟩, Bk.apart HZ HK.out (by omega), by omega, below_stored HZ HB.out (by omega)⟩
end Go.Proofs.Ytadaoobdnnleaaa
