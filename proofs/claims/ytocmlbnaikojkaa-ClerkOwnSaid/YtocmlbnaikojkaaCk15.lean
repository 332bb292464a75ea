/- ClerkOwn: taking one number off bytes; an empty list is loaded. -/
import Derived.Test.YtocmlbnaikojkaaCk14
namespace Go.Proofs.Ytocmlbnaikojkaa
open Go Go.Sx
attribute [local irreducible] Go.wpList

abbrev inC (sl : Value) : List Value := [sl, .int .i64 0]

theorem bad35 (w : World) (b : Nat) (sl : Value) (hb : w.heap[b]? = some (.cells (inC sl).toArray 102 (0, 0))) : Ret Try.prog 35 [.pointer (some ⟨b, 0, none⟩)] w fun v w' => v = .int .i64 0 ∧ Ch w w' none' := by
  refine enter (n := 9) Try.func35 rfl Try.ntmps35 (Nat.le_of_ble_eq_true rfl) ?_
  refine wp_seq_k fun K1 hK1 => ?_
  refine wp_region_lit ?_
  refine o_assign (v := (.int .i64 0)) rfl ?_
  refine wpList_nil ?_
  refine then_normal (hK1 _ _ ?_)
  clear hK1
  refine wp_seq_k fun K2 hK2 => ?_
  refine wp_seq_k fun K3 hK3 => ?_
  refine wp_region_lit ?_
  refine o_move (v := (.pointer (some ⟨b, 0, none⟩))) rfl ?_
  refine o_ptr_nil (r := false) Try.underlying82 rfl rfl rfl ?_
  refine wpList_nil ?_
  refine then_normal (hK3 _ _ ?_)
  clear hK3
  refine cond_f rfl ?_
  refine wp_skip ?_
  refine then_normal (hK2 _ _ ?_)
  clear hK2
  refine wp_seq_k fun K4 hK4 => ?_
  refine wp_region_lit ?_
  refine o_move (v := (.pointer (some ⟨b, 0, none⟩))) rfl ?_
  refine o_nilCheck (a := ⟨b, 0, none⟩) rfl ?_
  refine o_fieldAddr (q := 1) (off := 1) (by kernel_rfl) rfl rfl ?_
  refine o_load (v := (.int .i64 0)) Try.underlying46 rfl rfl (cell_of_list hb rfl) ?_
  refine o_assign (v := (.int .i64 0)) rfl ?_
  refine wpList_nil ?_
  refine then_normal (hK4 _ _ ?_)
  clear hK4
  refine wp_ret ?_
  exact ret_tmp rfl rfl ⟨rfl, Ch.refl _ _⟩
theorem left37 (w : World) (b g o c : Nat) (hb : w.heap[b]? = some (.cells (inC (.slice (some ⟨g, o, none⟩) 0 c)).toArray 102 (0, 0))) : Ret Try.prog 37 [.pointer (some ⟨b, 0, none⟩)] w fun v w' => v = .int .i64 0 ∧ Ch w w' none' := by
  refine enter (n := 10) Try.func37 rfl Try.ntmps37 (Nat.le_of_ble_eq_true rfl) ?_
  refine wp_seq_k fun K1 hK1 => ?_
  refine wp_region_lit ?_
  refine o_assign (v := (.int .i64 0)) rfl ?_
  refine wpList_nil ?_
  refine then_normal (hK1 _ _ ?_)
  clear hK1
  refine wp_seq_k fun K2 hK2 => ?_
  refine wp_seq_k fun K3 hK3 => ?_
  refine wp_region_lit ?_
  refine o_move (v := (.pointer (some ⟨b, 0, none⟩))) rfl ?_
  refine o_ptr_nil (r := false) Try.underlying82 rfl rfl rfl ?_
  refine wpList_nil ?_
  refine then_normal (hK3 _ _ ?_)
  clear hK3
  refine cond_f rfl ?_
  refine wp_skip ?_
  refine then_normal (hK2 _ _ ?_)
  clear hK2
  refine wp_seq_k fun K4 hK4 => ?_
  refine wp_region_lit ?_
  refine o_move (v := (.pointer (some ⟨b, 0, none⟩))) rfl ?_
  refine o_nilCheck (a := ⟨b, 0, none⟩) rfl ?_
  refine o_fieldAddr (q := 0) (off := 0) (by kernel_rfl) rfl rfl ?_
  refine o_load (v := (.slice (some ⟨g, o, none⟩) 0 c)) Try.underlying49 rfl rfl (cell_of_list hb rfl) ?_
  refine o_len (z := 0) Try.underlying49 rfl rfl ?_
  refine o_assign (v := (.int .i64 0)) rfl ?_
  refine wpList_nil ?_
  refine then_normal (hK4 _ _ ?_)
  clear hK4
  refine wp_ret ?_
  exact ret_tmp rfl rfl ⟨rfl, Ch.refl _ _⟩
theorem cut46 (w : World) (b g c : Nat) (hc1 : 1 ≤ c) (hb : w.heap[b]? = some (.cells (inC (.slice (some ⟨g, 0, none⟩) 1 c)).toArray 102 (0, 0))) : Ret Try.prog 46 [.pointer (some ⟨b, 0, none⟩), .int .i64 1] w fun v w' => v = .slice (some ⟨g, 0, none⟩) 1 c ∧ Ch w w' (fun q => q = b) ∧ ∃ o c', w'.heap[b]? = some (.cells (inC (.slice (some ⟨g, o, none⟩) 0 c')).toArray 102 (0, 0)) := by
  refine enter (n := 34) Try.func46 rfl Try.ntmps46 (Nat.le_of_ble_eq_true rfl) ?_
  refine wp_seq_k fun K1 hK1 => ?_
  refine wp_region_lit ?_
  refine o_assign (v := (.slice none 0 0)) rfl ?_
  refine wpList_nil ?_
  refine then_normal (hK1 _ _ ?_)
  clear hK1
  refine wp_seq_k fun K2 hK2 => ?_
  refine wp_seq_k fun K3 hK3 => ?_
  refine wp_region_lit ?_
  refine o_move (v := (.pointer (some ⟨b, 0, none⟩))) rfl ?_
  refine op_call (args := [.pointer (some ⟨b, 0, none⟩)]) Try.ent35 rfl (bad35 w b _ hb) ?_
  rintro v1 w1 ⟨rfl, h1⟩
  replace hb := (h1.same b (lt_of_heap hb) (fun f => f)).trans hb
  refine o_neq (k := .i64) (a := 0) (b := 0) (r := false) rfl rfl (by decide) ?_
  refine wpList_nil ?_
  refine then_normal (hK3 _ _ ?_)
  clear hK3
  refine cond_f rfl ?_
  refine wp_skip ?_
  refine then_normal (hK2 _ _ ?_)
  clear hK2
  refine wp_seq_k fun K4 hK4 => ?_
  refine wp_seq_k fun K5 hK5 => ?_
  refine wp_region_lit ?_
  refine o_move (v := (.int .i64 1)) rfl ?_
  refine o_move (v := (.pointer (some ⟨b, 0, none⟩))) rfl ?_
  refine o_nilCheck (a := ⟨b, 0, none⟩) rfl ?_
  refine o_fieldAddr (q := 0) (off := 0) (by kernel_rfl) rfl rfl ?_
  refine o_load (v := (.slice (some ⟨g, 0, none⟩) 1 c)) Try.underlying49 rfl rfl (cell_of_list hb rfl) ?_
  refine o_len (z := 1) Try.underlying49 rfl rfl ?_
  refine o_gtr (k := .i64) (a := 1) (b := 1) (r := false) rfl rfl (by decide) ?_
  refine wpList_nil ?_
  refine then_normal (hK5 _ _ ?_)
  clear hK5
  refine cond_f rfl ?_
  refine wp_skip ?_
  refine then_normal (hK4 _ _ ?_)
  clear hK4
  refine wp_seq_k fun K6 hK6 => ?_
  refine wp_region_lit ?_
  refine o_move (v := (.pointer (some ⟨b, 0, none⟩))) rfl ?_
  refine o_nilCheck (a := ⟨b, 0, none⟩) rfl ?_
  refine o_fieldAddr (q := 0) (off := 0) (by kernel_rfl) rfl rfl ?_
  refine o_load (v := (.slice (some ⟨g, 0, none⟩) 1 c)) Try.underlying49 rfl rfl (cell_of_list hb rfl) ?_
  refine o_move (v := (.int .i64 1)) rfl ?_
  refine o_slice_h (h := 1) Try.underlying49 Try.size5 rfl rfl rfl hc1 ?_
  refine o_assign (v := (.slice (some ⟨g, 0, none⟩) 1 c)) rfl ?_
  refine wpList_nil ?_
  refine then_normal (hK6 _ _ ?_)
  clear hK6
  refine wp_seq_k fun K7 hK7 => ?_
  refine wp_region_lit ?_
  refine o_move (v := (.pointer (some ⟨b, 0, none⟩))) rfl ?_
  refine o_move (v := (.pointer (some ⟨b, 0, none⟩))) rfl ?_
  refine o_nilCheck (a := ⟨b, 0, none⟩) rfl ?_
  refine o_fieldAddr (q := 0) (off := 0) (by kernel_rfl) rfl rfl ?_
  refine o_load (v := (.slice (some ⟨g, 0, none⟩) 1 c)) Try.underlying49 rfl rfl (cell_of_list hb rfl) ?_
  refine o_move (v := (.int .i64 1)) rfl ?_
  refine o_slice_l (l := 1) Try.underlying49 Try.size5 rfl rfl rfl (Nat.le_refl _) ?_
  obtain ⟨o1, ho1⟩ : ∃ o1, (if c = 1 then (⟨g, 0, none⟩ : Addr) else ⟨g, 0 + 1 * 1, none⟩) = ⟨g, o1, none⟩ := by split <;> exact ⟨_, rfl⟩
  rw [ho1]
  refine o_nilCheck (a := ⟨b, 0, none⟩) rfl ?_
  refine o_fieldAddr (q := 0) (off := 0) (by kernel_rfl) rfl rfl ?_
  refine o_store (v := (.slice (some ⟨g, o1, none⟩) (1 - 1) (c - 1))) Try.size49 rfl rfl rfl (cell_some hb (Nat.le_of_ble_eq_true rfl)) (frozen_of_row _ b 0 _ 102 hb) ?_
  have h2 := hp_setCell 0 ((.slice (some ⟨g, o1, none⟩) (1 - 1) (c - 1))) hb
  have h3 := Ch.trans (H := fun q => q = b) h1 (Ch.setCell w1 b 0 ((.slice (some ⟨g, o1, none⟩) (1 - 1) (c - 1)))) (fun _ f => f.elim) (fun _ _ f => f)
  refine wpList_nil ?_
  refine then_normal (hK7 _ _ ?_)
  clear hK7
  refine wp_seq_k fun K8 hK8 => ?_
  refine wp_region_lit ?_
  refine o_move (v := (.slice (some ⟨g, 0, none⟩) 1 c)) rfl ?_
  refine o_assign (v := (.slice (some ⟨g, 0, none⟩) 1 c)) rfl ?_
  refine wpList_nil ?_
  refine then_normal (hK8 _ _ ?_)
  clear hK8
  refine wp_ret ?_
  exact ret_tmp rfl rfl ⟨rfl, h3, o1, c - 1, h2⟩
theorem num42 (w : World) (b g c : Nat) (hc1 : 1 ≤ c) (hg : g ≠ b) (hgc : w.cell? ⟨g, 0, none⟩ = some (.int .u8 0)) (hb : w.heap[b]? = some (.cells (inC (.slice (some ⟨g, 0, none⟩) 1 c)).toArray 102 (0, 0))) : Ret Try.prog 42 [.pointer (some ⟨b, 0, none⟩), .int .i64 1] w fun v w' => v = .int .u64 0 ∧ Ch w w' (fun q => q = b) ∧ ∃ o c', w'.heap[b]? = some (.cells (inC (.slice (some ⟨g, o, none⟩) 0 c')).toArray 102 (0, 0)) := by
  refine enter (n := 23) Try.func42 rfl Try.ntmps42 (Nat.le_of_ble_eq_true rfl) ?_
  refine wp_seq_k fun K1 hK1 => ?_
  refine wp_region_lit ?_
  refine o_assign (v := (.int .u64 0)) rfl ?_
  refine wpList_nil ?_
  refine then_normal (hK1 _ _ ?_)
  clear hK1
  refine wp_seq_k fun K2 hK2 => ?_
  refine wp_region_lit ?_
  refine o_assign (v := (.int .u64 0)) rfl ?_
  refine wpList_nil ?_
  refine then_normal (hK2 _ _ ?_)
  clear hK2
  refine wp_seq_k fun K3 hK3 => ?_
  refine wp_seq_k fun K4 hK4 => ?_
  refine wp_region_lit ?_
  refine o_move (v := (.pointer (some ⟨b, 0, none⟩))) rfl ?_
  refine o_move (v := (.int .i64 1)) rfl ?_
  refine op_call (args := [.pointer (some ⟨b, 0, none⟩), .int .i64 1]) Try.ent46 rfl (cut46 w b g c hc1 hb) ?_
  rintro v1 w1 ⟨rfl, h1, o1, c1, h2⟩
  have hgc1 : w1.cell? ⟨g, 0, none⟩ = some (.int .u8 0) := by rw [World.cell?_of_block (w := w) (h1.same g (World.block_lt_of_cell? w _ hgc) hg)]; exact hgc
  refine o_len (z := 1) Try.underlying49 rfl rfl ?_
  refine o_move (v := (.int .i64 0)) rfl ?_
  refine wpList_nil ?_
  refine then_normal (hK4 _ _ ?_)
  clear hK4
  refine wp_block ?_
  refine Sx.loop (n := 23) (fun m E w2 => ∃ j : Nat, j ≤ 1 ∧ m = 1 - j ∧ Has E [(12, .int .i64 (j : Int)), (11, .int .i64 1), (10, .slice (some ⟨g, 0, none⟩) 1 c), (5, .int .u64 0)] ∧ w2 = w1) ⟨0, Nat.zero_le _, rfl, ⟨rfl, rfl, rfl, rfl, trivial⟩, rfl⟩ ?_
  rintro m E wl ⟨j, hj, rfl, hE, rfl⟩
  rw [hE.norm]
  by_cases hjl : j < 1
  · refine wp_seq_k fun K5 hK5 => ?_
    refine wp_region_lit ?_
    refine o_lss (k := .i64) (a := (j : Int)) (b := 1) (r := true) rfl rfl (decide_eq_true (by omega)) ?_
    refine wpList_nil ?_
    refine then_normal (hK5 _ _ ?_)
    clear hK5
    refine wp_seq_k fun K6 hK6 => ?_
    refine cond_t rfl ?_
    refine wp_skip ?_
    refine then_normal (hK6 _ _ ?_)
    clear hK6
    refine wp_seq_k fun K7 hK7 => ?_
    refine wp_block ?_
    refine wp_seq_k fun K8 hK8 => ?_
    refine wp_region_lit ?_
    refine o_indexAddr (i := j) (q := 0 + j * 1) Try.underlying49 Try.size5 rfl rfl rfl hjl rfl ?_
    refine o_load (v := .int .u8 0) Try.underlying5 rfl rfl (by rw [show 0 + j * 1 = 0 from by omega]; exact hgc1) ?_
    refine o_assign (v := (.int .u8 0)) rfl ?_
    refine wpList_nil ?_
    refine then_normal (hK8 _ _ ?_)
    clear hK8
    refine wp_region_lit ?_
    refine o_move (v := (.int .u64 0)) rfl ?_
    refine o_bin (a := .int .u64 0) (b := .int .u64 8) (v := .int .u64 0) rfl rfl rfl (by rw [binOp_shl]; rfl) ?_
    refine o_move (v := (.int .u8 0)) rfl ?_
    refine o_convert (b := 0) Try.underlying5 Try.underlying23 rfl (by decide) ?_
    refine o_bin (a := .int .u64 0) (b := .int .u64 0) (v := .int .u64 0) rfl rfl rfl (by rw [binOp_or]; rfl) ?_
    refine o_assign (v := (.int .u64 0)) rfl ?_
    refine wpList_nil ?_
    refine blk_normal ?_
    refine then_normal (hK7 _ _ ?_)
    clear hK7
    refine wp_region_lit ?_
    refine o_add64 (a := (j : Int)) (b := 1) (c := ((j + 1 : Nat) : Int)) rfl rfl (by omega) (by omega) (by omega) ?_
    refine o_move (v := (.int .i64 ((j + 1 : Nat) : Int))) rfl ?_
    refine wpList_nil ?_
    refine then_normal ?_
    exact ⟨1 - (j + 1), _, by omega, rfl, j + 1, by omega, rfl, ⟨rfl, rfl, rfl, rfl, trivial⟩, rfl⟩
  · refine wp_seq_k fun K9 hK9 => ?_
    refine wp_region_lit ?_
    refine o_lss (k := .i64) (a := (j : Int)) (b := 1) (r := false) rfl rfl (decide_eq_false (by omega)) ?_
    refine wpList_nil ?_
    refine then_normal (hK9 _ _ ?_)
    clear hK9
    refine wp_seq_k fun K10 hK10 => ?_
    refine cond_f rfl ?_
    refine wp_exit ?_
    refine then_exit ?_
    refine then_exit ?_
    refine blk_exit ?_
    refine then_normal (hK3 _ _ ?_)
    clear hK3
    refine wp_seq_k fun K11 hK11 => ?_
    refine wp_region_lit ?_
    refine o_move (v := (.int .u64 0)) rfl ?_
    refine o_assign (v := (.int .u64 0)) rfl ?_
    refine wpList_nil ?_
    refine then_normal (hK11 _ _ ?_)
    clear hK11
    refine wp_ret ?_
    exact ret_tmp rfl rfl ⟨rfl, h1, o1, c1, h2⟩
theorem one31 (w : World) (b g c : Nat) (hc1 : 1 ≤ c) (hg : g ≠ b) (hgc : w.cell? ⟨g, 0, none⟩ = some (.int .u8 0)) (hb : w.heap[b]? = some (.cells (inC (.slice (some ⟨g, 0, none⟩) 1 c)).toArray 102 (0, 0))) : Ret Try.prog 31 [.pointer (some ⟨b, 0, none⟩)] w fun v w' => v = .int .u8 0 ∧ Ch w w' (fun q => q = b) ∧ ∃ o c', w'.heap[b]? = some (.cells (inC (.slice (some ⟨g, o, none⟩) 0 c')).toArray 102 (0, 0)) := by
  refine enter (n := 6) Try.func31 rfl Try.ntmps31 (Nat.le_of_ble_eq_true rfl) ?_
  refine wp_seq_k fun K1 hK1 => ?_
  refine wp_region_lit ?_
  refine o_assign (v := (.int .u8 0)) rfl ?_
  refine wpList_nil ?_
  refine then_normal (hK1 _ _ ?_)
  clear hK1
  refine wp_seq_k fun K2 hK2 => ?_
  refine wp_region_lit ?_
  refine o_move (v := (.pointer (some ⟨b, 0, none⟩))) rfl ?_
  refine op_call (args := [.pointer (some ⟨b, 0, none⟩), .int .i64 1]) Try.ent42 rfl (num42 w b g c hc1 hg hgc hb) ?_
  rintro v1 w1 ⟨rfl, h1, o1, c1, h2⟩
  refine o_convert (b := 0) Try.underlying23 Try.underlying5 rfl (by decide) ?_
  refine o_assign (v := (.int .u8 0)) rfl ?_
  refine wpList_nil ?_
  refine then_normal (hK2 _ _ ?_)
  clear hK2
  refine wp_ret ?_
  exact ret_tmp rfl rfl ⟨rfl, h1, o1, c1, h2⟩
theorem many19 (w : World) (b g c : Nat) (hc1 : 1 ≤ c) (hg : g ≠ b) (hgc : w.cell? ⟨g, 0, none⟩ = some (.int .u8 0)) (hb : w.heap[b]? = some (.cells (inC (.slice (some ⟨g, 0, none⟩) 1 c)).toArray 102 (0, 0))) : Ret Try.prog 19 [.pointer (some ⟨b, 0, none⟩), .int .i64 255] w fun v w' => v = .int .i64 0 ∧ Ch w w' (fun q => q = b) ∧ ∃ o c', w'.heap[b]? = some (.cells (inC (.slice (some ⟨g, o, none⟩) 0 c')).toArray 102 (0, 0)) := by
  refine enter (n := 15) Try.func19 rfl Try.ntmps19 (Nat.le_of_ble_eq_true rfl) ?_
  refine wp_seq_k fun K1 hK1 => ?_
  refine wp_region_lit ?_
  refine o_assign (v := (.int .i64 0)) rfl ?_
  refine wpList_nil ?_
  refine then_normal (hK1 _ _ ?_)
  clear hK1
  refine wp_seq_k fun K2 hK2 => ?_
  refine wp_region_lit ?_
  refine o_move (v := (.pointer (some ⟨b, 0, none⟩))) rfl ?_
  refine op_call (args := [.pointer (some ⟨b, 0, none⟩)]) Try.ent31 rfl (one31 w b g c hc1 hg hgc hb) ?_
  rintro v1 w1 ⟨rfl, h1, o1, c1, h2⟩
  refine o_convert (b := 0) Try.underlying5 Try.underlying3 rfl (by decide) ?_
  refine o_assign (v := (.int .i64 0)) rfl ?_
  refine wpList_nil ?_
  refine then_normal (hK2 _ _ ?_)
  clear hK2
  refine wp_seq_k fun K3 hK3 => ?_
  refine wp_seq_k fun K4 hK4 => ?_
  refine wp_region_lit ?_
  refine o_move (v := (.int .i64 0)) rfl ?_
  refine o_move (v := (.int .i64 255)) rfl ?_
  refine o_gtr (k := .i64) (a := 0) (b := 255) (r := false) rfl rfl (by decide) ?_
  refine wpList_nil ?_
  refine then_normal (hK4 _ _ ?_)
  clear hK4
  refine cond_f rfl ?_
  refine wp_skip ?_
  refine then_normal (hK3 _ _ ?_)
  clear hK3
  refine wp_seq_k fun K5 hK5 => ?_
  refine wp_region_lit ?_
  refine o_move (v := (.int .i64 0)) rfl ?_
  refine o_assign (v := (.int .i64 0)) rfl ?_
  refine wpList_nil ?_
  refine then_normal (hK5 _ _ ?_)
  clear hK5
  refine wp_ret ?_
  exact ret_tmp rfl rfl ⟨rfl, h1, o1, c1, h2⟩
theorem end22 (w : World) (b g o c : Nat) (hb : w.heap[b]? = some (.cells (inC (.slice (some ⟨g, o, none⟩) 0 c)).toArray 102 (0, 0))) : Ret Try.prog 22 [.pointer (some ⟨b, 0, none⟩)] w fun v w' => v = .int .i64 0 ∧ Ch w w' none' := by
  refine enter (n := 10) Try.func22 rfl Try.ntmps22 (Nat.le_of_ble_eq_true rfl) ?_
  refine wp_seq_k fun K1 hK1 => ?_
  refine wp_region_lit ?_
  refine o_assign (v := (.int .i64 0)) rfl ?_
  refine wpList_nil ?_
  refine then_normal (hK1 _ _ ?_)
  clear hK1
  refine wp_seq_k fun K2 hK2 => ?_
  refine wp_seq_k fun K3 hK3 => ?_
  refine wp_region_lit ?_
  refine o_move (v := (.pointer (some ⟨b, 0, none⟩))) rfl ?_
  refine op_call (args := [.pointer (some ⟨b, 0, none⟩)]) Try.ent37 rfl (left37 _ b g o c hb) ?_
  rintro v1 w1 ⟨rfl, h1⟩
  replace hb := (h1.same b (lt_of_heap hb) (fun f => f)).trans hb
  refine o_gtr (k := .i64) (a := 0) (b := 0) (r := false) rfl rfl (by decide) ?_
  refine wpList_nil ?_
  refine then_normal (hK3 _ _ ?_)
  clear hK3
  refine cond_f rfl ?_
  refine wp_skip ?_
  refine then_normal (hK2 _ _ ?_)
  clear hK2
  refine wp_seq_k fun K4 hK4 => ?_
  refine wp_region_lit ?_
  refine o_move (v := (.pointer (some ⟨b, 0, none⟩))) rfl ?_
  refine op_call (args := [.pointer (some ⟨b, 0, none⟩)]) Try.ent35 rfl (bad35 _ b _ hb) ?_
  rintro v2 w2 ⟨rfl, h2⟩
  replace hb := (h2.same b (lt_of_heap hb) (fun f => f)).trans hb
  refine o_assign (v := (.int .i64 0)) rfl ?_
  refine wpList_nil ?_
  refine then_normal (hK4 _ _ ?_)
  clear hK4
  refine wp_ret ?_
  exact ret_tmp rfl rfl ⟨rfl, h1.fresh h2⟩
theorem load8 (w : World) (src : Value) (hsrc : Rd w src 1 [.int .u8 0] 1) : Ret Try.prog 8 [src] w fun v w' => v = .tuple #[.slice none 0 0, .int .i64 0] ∧ Ch w w' none' := by
  refine enter (n := 30) Try.func8 rfl Try.ntmps8 (Nat.le_of_ble_eq_true rfl) ?_
  refine wp_seq_k fun K1 hK1 => ?_
  refine wp_region_lit ?_
  refine o_assign (v := (.slice none 0 0)) rfl ?_
  refine o_assign (v := (.int .i64 0)) rfl ?_
  refine wpList_nil ?_
  refine then_normal (hK1 _ _ ?_)
  clear hK1
  refine wp_seq_k fun K2 hK2 => ?_
  refine wp_region_lit ?_
  refine o_move (v := src) rfl ?_
  refine op_call (args := [src]) Try.ent18 rfl (of18 w src hsrc) ?_
  rintro v1 w1 ⟨h1, b, g, c, rfl, hb, hbn, hg, hgc, hc1⟩
  refine o_assign (v := (.pointer (some ⟨b, 0, none⟩))) rfl ?_
  refine wpList_nil ?_
  refine then_normal (hK2 _ _ ?_)
  clear hK2
  refine wp_seq_k fun K3 hK3 => ?_
  refine wp_region_lit ?_
  refine o_assign (v := (.slice none 0 0)) rfl ?_
  refine wpList_nil ?_
  refine then_normal (hK3 _ _ ?_)
  clear hK3
  refine wp_seq_k fun K4 hK4 => ?_
  refine wp_seq_k fun K5 hK5 => ?_
  refine wp_region_lit ?_
  refine o_move (v := (.pointer (some ⟨b, 0, none⟩))) rfl ?_
  refine op_call (args := [.pointer (some ⟨b, 0, none⟩), .int .i64 255]) Try.ent19 rfl (many19 w1 b g c hc1 hg hgc hb) ?_
  rintro v2 w2 ⟨rfl, h2, o2, c2, hb2⟩
  have h3 : Ch w w2 none' := h1.trans h2 (fun _ f => f) (fun q hq e => by have e : q = b := e; omega)
  refine o_move (v := (.int .i64 0)) rfl ?_
  refine wpList_nil ?_
  refine then_normal (hK5 _ _ ?_)
  clear hK5
  refine wp_block ?_
  refine Sx.loop (n := 30) (fun m E w5 => m = 0 ∧ Has E [(12, .int .i64 0), (11, .int .i64 0), (4, .pointer (some ⟨b, 0, none⟩)), (5, .slice none 0 0)] ∧ w5 = w2) ⟨rfl, ⟨rfl, rfl, rfl, rfl, trivial⟩, rfl⟩ ?_
  rintro m E wl ⟨rfl, hE, rfl⟩
  rw [hE.norm]
  refine wp_seq_k fun K6 hK6 => ?_
  refine wp_region_lit ?_
  refine o_lss (k := .i64) (a := 0) (b := 0) (r := false) rfl rfl (by decide) ?_
  refine wpList_nil ?_
  refine then_normal (hK6 _ _ ?_)
  clear hK6
  refine wp_seq_k fun K7 hK7 => ?_
  refine cond_f rfl ?_
  refine wp_exit ?_
  refine then_exit ?_
  refine then_exit ?_
  refine blk_exit ?_
  refine then_normal (hK4 _ _ ?_)
  clear hK4
  refine wp_seq_k fun K8 hK8 => ?_
  refine wp_seq_k fun K9 hK9 => ?_
  refine wp_region_lit ?_
  refine o_move (v := (.pointer (some ⟨b, 0, none⟩))) rfl ?_
  refine op_call (args := [.pointer (some ⟨b, 0, none⟩)]) Try.ent22 rfl (end22 wl b g o2 c2 hb2) ?_
  rintro v3 w3 ⟨rfl, h4⟩
  refine o_assign (v := (.int .i64 0)) rfl ?_
  refine wpList_nil ?_
  refine then_normal (hK9 _ _ ?_)
  clear hK9
  refine wp_seq_k fun K10 hK10 => ?_
  refine wp_region_lit ?_
  refine o_move (v := (.int .i64 0)) rfl ?_
  refine o_neq (k := .i64) (a := 0) (b := 0) (r := false) rfl rfl (by decide) ?_
  refine wpList_nil ?_
  refine then_normal (hK10 _ _ ?_)
  clear hK10
  refine cond_f rfl ?_
  refine wp_skip ?_
  refine then_normal (hK8 _ _ ?_)
  clear hK8
  refine wp_seq_k fun K11 hK11 => ?_
  refine wp_region_lit ?_
  refine o_move (v := (.slice none 0 0)) rfl ?_
  refine o_assign (v := (.slice none 0 0)) rfl ?_
  refine o_assign (v := (.int .i64 0)) rfl ?_
  refine wpList_nil ?_
  refine then_normal (hK11 _ _ ?_)
  clear hK11
  refine wp_ret ?_
  exact ret_tmp2 (v1 := .slice none 0 0) (v2 := .int .i64 0) rfl rfl rfl ⟨rfl, h3.fresh h4⟩
end Go.Proofs.Ytocmlbnaikojkaa
