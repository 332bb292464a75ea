/- ClerkOwn: contracts of Same, the closure, the search. -/
import Derived.Test.YtocmlbnaikojkaaCk3
namespace Go.Proofs.Ytocmlbnaikojkaa
open Go Go.Sx
attribute [local irreducible] Go.wpList

theorem same_3_3 (w : World) (op : List Value) (tr : Value) (o : List Value) (hop : fitsAll ks40 op = true) (ho : fitsAll ks40 o = true) (h3 : kindOf op = 3) (g3 : kindOf o = 3) :
    Ret Try.prog 17 [.agg (op ++ [tr]).toArray, .agg o.toArray] w fun v w' => v = .bool (sameB op o) ∧ Ch w w' none' := by
  have hlen : op.length = 39 := fitsAll_length hop
  have hlo : o.length = 39 := fitsAll_length ho
  refine enter (n := 35) Try.func17 rfl Try.ntmps17 (Nat.le_of_ble_eq_true rfl) ?_
  have st := St.start w none'
  refine wp_seq_k fun K1 hK1 => ?_
  refine wp_region_lit ?_
  refine s_box st (cs := (op ++ [tr])) rfl ?_
  intro b2 w3 st4 hbb2 hcb2
  refine s_box st4 (cs := o) rfl ?_
  intro b5 w6 st7 hbb5 hcb5
  refine o_assign (v := (.bool false)) rfl ?_
  refine wpList_nil ?_
  refine then_normal (hK1 _ _ ?_)
  clear hK1
  refine wp_seq_k fun K8 hK8 => ?_
  refine wp_seq_k fun K9 hK9 => ?_
  refine wp_region_lit ?_
  refine o_fieldAddr (q := 0) (off := 0) (by kernel_rfl) rfl rfl ?_
  refine o_fieldAddr (q := 0) (off := 0) (by kernel_rfl) rfl rfl ?_
  refine o_load (v := (.int .i64 (kindOf op))) Try.underlying3 rfl rfl (st7.cell 1 rfl 0 ((head_at hlen (by decide)).trans (kind_at hop))) ?_
  refine o_eql (k := .i64) (a := (kindOf op)) (b := 3) (r := true) rfl rfl (decide_eq_true h3) ?_
  refine o_move (v := (.bool true)) rfl ?_
  refine g_no (t := 9) (b := true) rfl rfl rfl rfl ?_
  refine g_no (t := 9) (b := true) rfl rfl rfl rfl ?_
  refine g_no (t := 9) (b := true) rfl rfl rfl rfl ?_
  refine g_no (t := 9) (b := true) rfl rfl rfl rfl ?_
  refine o_pick (b := true) (v := (.bool true)) rfl rfl ?_
  refine wpList_nil ?_
  refine then_normal (hK9 _ _ ?_)
  clear hK9
  refine cond_t rfl ?_
  refine wp_seq_k fun K10 hK10 => ?_
  refine wp_region_lit ?_
  refine o_fieldAddr (q := 0) (off := 0) (by kernel_rfl) rfl rfl ?_
  refine o_load (v := (.int .i64 (kindOf o))) Try.underlying3 rfl rfl (st7.cell 0 rfl 0 (kind_at ho)) ?_
  refine o_eql (k := .i64) (a := (kindOf o)) (b := 3) (r := true) rfl rfl (decide_eq_true g3) ?_
  refine o_move (v := (.bool true)) rfl ?_
  refine g_no (t := 18) (b := true) rfl rfl rfl rfl ?_
  refine g_no (t := 18) (b := true) rfl rfl rfl rfl ?_
  refine g_no (t := 18) (b := true) rfl rfl rfl rfl ?_
  refine o_pick (b := true) (v := (.bool true)) rfl rfl ?_
  refine o_move (v := (.bool true)) rfl ?_
  refine g_yes (t := 23) (b := true) rfl rfl rfl rfl ?_
  refine o_fieldAddr (q := 38) (off := 38) (by kernel_rfl) rfl rfl ?_
  refine g_yes (t := 23) (b := true) rfl rfl rfl rfl ?_
  refine o_load (v := (.int .u64 (idOf o))) Try.underlying23 rfl rfl (st7.cell 0 rfl 38 (id_at ho)) ?_
  refine g_yes (t := 23) (b := true) rfl rfl rfl rfl ?_
  refine o_fieldAddr (q := 0) (off := 0) (by kernel_rfl) rfl rfl ?_
  refine g_yes (t := 23) (b := true) rfl rfl rfl rfl ?_
  refine o_fieldAddr (q := 38) (off := 38) (by kernel_rfl) rfl rfl ?_
  refine g_yes (t := 23) (b := true) rfl rfl rfl rfl ?_
  refine o_load (v := (.int .u64 (idOf op))) Try.underlying23 rfl rfl (st7.cell 1 rfl 38 ((head_at hlen (by decide)).trans (id_at hop))) ?_
  refine g_yes (t := 23) (b := true) rfl rfl rfl rfl ?_
  refine o_eql (k := .u64) (a := idOf o) (b := idOf op) (r := decide (idOf o = idOf op)) rfl rfl rfl ?_
  refine o_pick (b := true) (v := (.bool (decide (idOf o = idOf op)))) rfl rfl ?_
  refine o_assign (v := (.bool (decide (idOf o = idOf op)))) rfl ?_
  refine wpList_nil ?_
  refine then_normal (hK10 _ _ ?_)
  clear hK10
  refine wp_ret ?_
  refine then_ret ?_
  exact ret_tmp (v := (.bool (decide (idOf o = idOf op)))) rfl rfl ⟨by simp [sameB, h3, g3], st7.ch⟩
theorem same_3_4 (w : World) (op : List Value) (tr : Value) (o : List Value) (hop : fitsAll ks40 op = true) (ho : fitsAll ks40 o = true) (h3 : kindOf op = 3) (g3 : ¬ kindOf o = 3) (g4 : kindOf o = 4) :
    Ret Try.prog 17 [.agg (op ++ [tr]).toArray, .agg o.toArray] w fun v w' => v = .bool (sameB op o) ∧ Ch w w' none' := by
  have hlen : op.length = 39 := fitsAll_length hop
  have hlo : o.length = 39 := fitsAll_length ho
  refine enter (n := 35) Try.func17 rfl Try.ntmps17 (Nat.le_of_ble_eq_true rfl) ?_
  have st := St.start w none'
  refine wp_seq_k fun K1 hK1 => ?_
  refine wp_region_lit ?_
  refine s_box st (cs := (op ++ [tr])) rfl ?_
  intro b2 w3 st4 hbb2 hcb2
  refine s_box st4 (cs := o) rfl ?_
  intro b5 w6 st7 hbb5 hcb5
  refine o_assign (v := (.bool false)) rfl ?_
  refine wpList_nil ?_
  refine then_normal (hK1 _ _ ?_)
  clear hK1
  refine wp_seq_k fun K8 hK8 => ?_
  refine wp_seq_k fun K9 hK9 => ?_
  refine wp_region_lit ?_
  refine o_fieldAddr (q := 0) (off := 0) (by kernel_rfl) rfl rfl ?_
  refine o_fieldAddr (q := 0) (off := 0) (by kernel_rfl) rfl rfl ?_
  refine o_load (v := (.int .i64 (kindOf op))) Try.underlying3 rfl rfl (st7.cell 1 rfl 0 ((head_at hlen (by decide)).trans (kind_at hop))) ?_
  refine o_eql (k := .i64) (a := (kindOf op)) (b := 3) (r := true) rfl rfl (decide_eq_true h3) ?_
  refine o_move (v := (.bool true)) rfl ?_
  refine g_no (t := 9) (b := true) rfl rfl rfl rfl ?_
  refine g_no (t := 9) (b := true) rfl rfl rfl rfl ?_
  refine g_no (t := 9) (b := true) rfl rfl rfl rfl ?_
  refine g_no (t := 9) (b := true) rfl rfl rfl rfl ?_
  refine o_pick (b := true) (v := (.bool true)) rfl rfl ?_
  refine wpList_nil ?_
  refine then_normal (hK9 _ _ ?_)
  clear hK9
  refine cond_t rfl ?_
  refine wp_seq_k fun K10 hK10 => ?_
  refine wp_region_lit ?_
  refine o_fieldAddr (q := 0) (off := 0) (by kernel_rfl) rfl rfl ?_
  refine o_load (v := (.int .i64 (kindOf o))) Try.underlying3 rfl rfl (st7.cell 0 rfl 0 (kind_at ho)) ?_
  refine o_eql (k := .i64) (a := (kindOf o)) (b := 3) (r := false) rfl rfl (decide_eq_false g3) ?_
  refine o_move (v := (.bool false)) rfl ?_
  refine g_yes (t := 18) (b := false) rfl rfl rfl rfl ?_
  refine o_fieldAddr (q := 0) (off := 0) (by kernel_rfl) rfl rfl ?_
  refine g_yes (t := 18) (b := false) rfl rfl rfl rfl ?_
  refine o_load (v := (.int .i64 (kindOf o))) Try.underlying3 rfl rfl (st7.cell 0 rfl 0 (kind_at ho)) ?_
  refine g_yes (t := 18) (b := false) rfl rfl rfl rfl ?_
  refine o_eql (k := .i64) (a := (kindOf o)) (b := 4) (r := true) rfl rfl (decide_eq_true g4) ?_
  refine o_pick (b := false) (v := (.bool true)) rfl rfl ?_
  refine o_move (v := (.bool true)) rfl ?_
  refine g_yes (t := 23) (b := true) rfl rfl rfl rfl ?_
  refine o_fieldAddr (q := 38) (off := 38) (by kernel_rfl) rfl rfl ?_
  refine g_yes (t := 23) (b := true) rfl rfl rfl rfl ?_
  refine o_load (v := (.int .u64 (idOf o))) Try.underlying23 rfl rfl (st7.cell 0 rfl 38 (id_at ho)) ?_
  refine g_yes (t := 23) (b := true) rfl rfl rfl rfl ?_
  refine o_fieldAddr (q := 0) (off := 0) (by kernel_rfl) rfl rfl ?_
  refine g_yes (t := 23) (b := true) rfl rfl rfl rfl ?_
  refine o_fieldAddr (q := 38) (off := 38) (by kernel_rfl) rfl rfl ?_
  refine g_yes (t := 23) (b := true) rfl rfl rfl rfl ?_
  refine o_load (v := (.int .u64 (idOf op))) Try.underlying23 rfl rfl (st7.cell 1 rfl 38 ((head_at hlen (by decide)).trans (id_at hop))) ?_
  refine g_yes (t := 23) (b := true) rfl rfl rfl rfl ?_
  refine o_eql (k := .u64) (a := idOf o) (b := idOf op) (r := decide (idOf o = idOf op)) rfl rfl rfl ?_
  refine o_pick (b := true) (v := (.bool (decide (idOf o = idOf op)))) rfl rfl ?_
  refine o_assign (v := (.bool (decide (idOf o = idOf op)))) rfl ?_
  refine wpList_nil ?_
  refine then_normal (hK10 _ _ ?_)
  clear hK10
  refine wp_ret ?_
  refine then_ret ?_
  exact ret_tmp (v := (.bool (decide (idOf o = idOf op)))) rfl rfl ⟨by simp [sameB, h3, g4], st7.ch⟩
theorem same_3_n (w : World) (op : List Value) (tr : Value) (o : List Value) (hop : fitsAll ks40 op = true) (ho : fitsAll ks40 o = true) (h3 : kindOf op = 3) (g3 : ¬ kindOf o = 3) (g4 : ¬ kindOf o = 4) :
    Ret Try.prog 17 [.agg (op ++ [tr]).toArray, .agg o.toArray] w fun v w' => v = .bool (sameB op o) ∧ Ch w w' none' := by
  have hlen : op.length = 39 := fitsAll_length hop
  have hlo : o.length = 39 := fitsAll_length ho
  refine enter (n := 35) Try.func17 rfl Try.ntmps17 (Nat.le_of_ble_eq_true rfl) ?_
  have st := St.start w none'
  refine wp_seq_k fun K1 hK1 => ?_
  refine wp_region_lit ?_
  refine s_box st (cs := (op ++ [tr])) rfl ?_
  intro b2 w3 st4 hbb2 hcb2
  refine s_box st4 (cs := o) rfl ?_
  intro b5 w6 st7 hbb5 hcb5
  refine o_assign (v := (.bool false)) rfl ?_
  refine wpList_nil ?_
  refine then_normal (hK1 _ _ ?_)
  clear hK1
  refine wp_seq_k fun K8 hK8 => ?_
  refine wp_seq_k fun K9 hK9 => ?_
  refine wp_region_lit ?_
  refine o_fieldAddr (q := 0) (off := 0) (by kernel_rfl) rfl rfl ?_
  refine o_fieldAddr (q := 0) (off := 0) (by kernel_rfl) rfl rfl ?_
  refine o_load (v := (.int .i64 (kindOf op))) Try.underlying3 rfl rfl (st7.cell 1 rfl 0 ((head_at hlen (by decide)).trans (kind_at hop))) ?_
  refine o_eql (k := .i64) (a := (kindOf op)) (b := 3) (r := true) rfl rfl (decide_eq_true h3) ?_
  refine o_move (v := (.bool true)) rfl ?_
  refine g_no (t := 9) (b := true) rfl rfl rfl rfl ?_
  refine g_no (t := 9) (b := true) rfl rfl rfl rfl ?_
  refine g_no (t := 9) (b := true) rfl rfl rfl rfl ?_
  refine g_no (t := 9) (b := true) rfl rfl rfl rfl ?_
  refine o_pick (b := true) (v := (.bool true)) rfl rfl ?_
  refine wpList_nil ?_
  refine then_normal (hK9 _ _ ?_)
  clear hK9
  refine cond_t rfl ?_
  refine wp_seq_k fun K10 hK10 => ?_
  refine wp_region_lit ?_
  refine o_fieldAddr (q := 0) (off := 0) (by kernel_rfl) rfl rfl ?_
  refine o_load (v := (.int .i64 (kindOf o))) Try.underlying3 rfl rfl (st7.cell 0 rfl 0 (kind_at ho)) ?_
  refine o_eql (k := .i64) (a := (kindOf o)) (b := 3) (r := false) rfl rfl (decide_eq_false g3) ?_
  refine o_move (v := (.bool false)) rfl ?_
  refine g_yes (t := 18) (b := false) rfl rfl rfl rfl ?_
  refine o_fieldAddr (q := 0) (off := 0) (by kernel_rfl) rfl rfl ?_
  refine g_yes (t := 18) (b := false) rfl rfl rfl rfl ?_
  refine o_load (v := (.int .i64 (kindOf o))) Try.underlying3 rfl rfl (st7.cell 0 rfl 0 (kind_at ho)) ?_
  refine g_yes (t := 18) (b := false) rfl rfl rfl rfl ?_
  refine o_eql (k := .i64) (a := (kindOf o)) (b := 4) (r := false) rfl rfl (decide_eq_false g4) ?_
  refine o_pick (b := false) (v := (.bool false)) rfl rfl ?_
  refine o_move (v := (.bool false)) rfl ?_
  refine g_no (t := 23) (b := false) rfl rfl rfl rfl ?_
  refine g_no (t := 23) (b := false) rfl rfl rfl rfl ?_
  refine g_no (t := 23) (b := false) rfl rfl rfl rfl ?_
  refine g_no (t := 23) (b := false) rfl rfl rfl rfl ?_
  refine g_no (t := 23) (b := false) rfl rfl rfl rfl ?_
  refine g_no (t := 23) (b := false) rfl rfl rfl rfl ?_
  refine o_pick (b := false) (v := (.bool false)) rfl rfl ?_
  refine o_assign (v := (.bool false)) rfl ?_
  refine wpList_nil ?_
  refine then_normal (hK10 _ _ ?_)
  clear hK10
  refine wp_ret ?_
  refine then_ret ?_
  exact ret_tmp (v := (.bool false)) rfl rfl ⟨by simp [sameB, h3, g3, g4], st7.ch⟩
theorem same_4_3 (w : World) (op : List Value) (tr : Value) (o : List Value) (hop : fitsAll ks40 op = true) (ho : fitsAll ks40 o = true) (h3 : ¬ kindOf op = 3) (h4 : kindOf op = 4) (g3 : kindOf o = 3) :
    Ret Try.prog 17 [.agg (op ++ [tr]).toArray, .agg o.toArray] w fun v w' => v = .bool (sameB op o) ∧ Ch w w' none' := by
  have hlen : op.length = 39 := fitsAll_length hop
  have hlo : o.length = 39 := fitsAll_length ho
  refine enter (n := 35) Try.func17 rfl Try.ntmps17 (Nat.le_of_ble_eq_true rfl) ?_
  have st := St.start w none'
  refine wp_seq_k fun K1 hK1 => ?_
  refine wp_region_lit ?_
  refine s_box st (cs := (op ++ [tr])) rfl ?_
  intro b2 w3 st4 hbb2 hcb2
  refine s_box st4 (cs := o) rfl ?_
  intro b5 w6 st7 hbb5 hcb5
  refine o_assign (v := (.bool false)) rfl ?_
  refine wpList_nil ?_
  refine then_normal (hK1 _ _ ?_)
  clear hK1
  refine wp_seq_k fun K8 hK8 => ?_
  refine wp_seq_k fun K9 hK9 => ?_
  refine wp_region_lit ?_
  refine o_fieldAddr (q := 0) (off := 0) (by kernel_rfl) rfl rfl ?_
  refine o_fieldAddr (q := 0) (off := 0) (by kernel_rfl) rfl rfl ?_
  refine o_load (v := (.int .i64 (kindOf op))) Try.underlying3 rfl rfl (st7.cell 1 rfl 0 ((head_at hlen (by decide)).trans (kind_at hop))) ?_
  refine o_eql (k := .i64) (a := (kindOf op)) (b := 3) (r := false) rfl rfl (decide_eq_false h3) ?_
  refine o_move (v := (.bool false)) rfl ?_
  refine g_yes (t := 9) (b := false) rfl rfl rfl rfl ?_
  refine o_fieldAddr (q := 0) (off := 0) (by kernel_rfl) rfl rfl ?_
  refine g_yes (t := 9) (b := false) rfl rfl rfl rfl ?_
  refine o_fieldAddr (q := 0) (off := 0) (by kernel_rfl) rfl rfl ?_
  refine g_yes (t := 9) (b := false) rfl rfl rfl rfl ?_
  refine o_load (v := (.int .i64 (kindOf op))) Try.underlying3 rfl rfl (st7.cell 1 rfl 0 ((head_at hlen (by decide)).trans (kind_at hop))) ?_
  refine g_yes (t := 9) (b := false) rfl rfl rfl rfl ?_
  refine o_eql (k := .i64) (a := (kindOf op)) (b := 4) (r := true) rfl rfl (decide_eq_true h4) ?_
  refine o_pick (b := false) (v := (.bool true)) rfl rfl ?_
  refine wpList_nil ?_
  refine then_normal (hK9 _ _ ?_)
  clear hK9
  refine cond_t rfl ?_
  refine wp_seq_k fun K10 hK10 => ?_
  refine wp_region_lit ?_
  refine o_fieldAddr (q := 0) (off := 0) (by kernel_rfl) rfl rfl ?_
  refine o_load (v := (.int .i64 (kindOf o))) Try.underlying3 rfl rfl (st7.cell 0 rfl 0 (kind_at ho)) ?_
  refine o_eql (k := .i64) (a := (kindOf o)) (b := 3) (r := true) rfl rfl (decide_eq_true g3) ?_
  refine o_move (v := (.bool true)) rfl ?_
  refine g_no (t := 18) (b := true) rfl rfl rfl rfl ?_
  refine g_no (t := 18) (b := true) rfl rfl rfl rfl ?_
  refine g_no (t := 18) (b := true) rfl rfl rfl rfl ?_
  refine o_pick (b := true) (v := (.bool true)) rfl rfl ?_
  refine o_move (v := (.bool true)) rfl ?_
  refine g_yes (t := 23) (b := true) rfl rfl rfl rfl ?_
  refine o_fieldAddr (q := 38) (off := 38) (by kernel_rfl) rfl rfl ?_
  refine g_yes (t := 23) (b := true) rfl rfl rfl rfl ?_
  refine o_load (v := (.int .u64 (idOf o))) Try.underlying23 rfl rfl (st7.cell 0 rfl 38 (id_at ho)) ?_
  refine g_yes (t := 23) (b := true) rfl rfl rfl rfl ?_
  refine o_fieldAddr (q := 0) (off := 0) (by kernel_rfl) rfl rfl ?_
  refine g_yes (t := 23) (b := true) rfl rfl rfl rfl ?_
  refine o_fieldAddr (q := 38) (off := 38) (by kernel_rfl) rfl rfl ?_
  refine g_yes (t := 23) (b := true) rfl rfl rfl rfl ?_
  refine o_load (v := (.int .u64 (idOf op))) Try.underlying23 rfl rfl (st7.cell 1 rfl 38 ((head_at hlen (by decide)).trans (id_at hop))) ?_
  refine g_yes (t := 23) (b := true) rfl rfl rfl rfl ?_
  refine o_eql (k := .u64) (a := idOf o) (b := idOf op) (r := decide (idOf o = idOf op)) rfl rfl rfl ?_
  refine o_pick (b := true) (v := (.bool (decide (idOf o = idOf op)))) rfl rfl ?_
  refine o_assign (v := (.bool (decide (idOf o = idOf op)))) rfl ?_
  refine wpList_nil ?_
  refine then_normal (hK10 _ _ ?_)
  clear hK10
  refine wp_ret ?_
  refine then_ret ?_
  exact ret_tmp (v := (.bool (decide (idOf o = idOf op)))) rfl rfl ⟨by simp [sameB, h4, g3], st7.ch⟩
theorem same_4_4 (w : World) (op : List Value) (tr : Value) (o : List Value) (hop : fitsAll ks40 op = true) (ho : fitsAll ks40 o = true) (h3 : ¬ kindOf op = 3) (h4 : kindOf op = 4) (g3 : ¬ kindOf o = 3) (g4 : kindOf o = 4) :
    Ret Try.prog 17 [.agg (op ++ [tr]).toArray, .agg o.toArray] w fun v w' => v = .bool (sameB op o) ∧ Ch w w' none' := by
  have hlen : op.length = 39 := fitsAll_length hop
  have hlo : o.length = 39 := fitsAll_length ho
  refine enter (n := 35) Try.func17 rfl Try.ntmps17 (Nat.le_of_ble_eq_true rfl) ?_
  have st := St.start w none'
  refine wp_seq_k fun K1 hK1 => ?_
  refine wp_region_lit ?_
  refine s_box st (cs := (op ++ [tr])) rfl ?_
  intro b2 w3 st4 hbb2 hcb2
  refine s_box st4 (cs := o) rfl ?_
  intro b5 w6 st7 hbb5 hcb5
  refine o_assign (v := (.bool false)) rfl ?_
  refine wpList_nil ?_
  refine then_normal (hK1 _ _ ?_)
  clear hK1
  refine wp_seq_k fun K8 hK8 => ?_
  refine wp_seq_k fun K9 hK9 => ?_
  refine wp_region_lit ?_
  refine o_fieldAddr (q := 0) (off := 0) (by kernel_rfl) rfl rfl ?_
  refine o_fieldAddr (q := 0) (off := 0) (by kernel_rfl) rfl rfl ?_
  refine o_load (v := (.int .i64 (kindOf op))) Try.underlying3 rfl rfl (st7.cell 1 rfl 0 ((head_at hlen (by decide)).trans (kind_at hop))) ?_
  refine o_eql (k := .i64) (a := (kindOf op)) (b := 3) (r := false) rfl rfl (decide_eq_false h3) ?_
  refine o_move (v := (.bool false)) rfl ?_
  refine g_yes (t := 9) (b := false) rfl rfl rfl rfl ?_
  refine o_fieldAddr (q := 0) (off := 0) (by kernel_rfl) rfl rfl ?_
  refine g_yes (t := 9) (b := false) rfl rfl rfl rfl ?_
  refine o_fieldAddr (q := 0) (off := 0) (by kernel_rfl) rfl rfl ?_
  refine g_yes (t := 9) (b := false) rfl rfl rfl rfl ?_
  refine o_load (v := (.int .i64 (kindOf op))) Try.underlying3 rfl rfl (st7.cell 1 rfl 0 ((head_at hlen (by decide)).trans (kind_at hop))) ?_
  refine g_yes (t := 9) (b := false) rfl rfl rfl rfl ?_
  refine o_eql (k := .i64) (a := (kindOf op)) (b := 4) (r := true) rfl rfl (decide_eq_true h4) ?_
  refine o_pick (b := false) (v := (.bool true)) rfl rfl ?_
  refine wpList_nil ?_
  refine then_normal (hK9 _ _ ?_)
  clear hK9
  refine cond_t rfl ?_
  refine wp_seq_k fun K10 hK10 => ?_
  refine wp_region_lit ?_
  refine o_fieldAddr (q := 0) (off := 0) (by kernel_rfl) rfl rfl ?_
  refine o_load (v := (.int .i64 (kindOf o))) Try.underlying3 rfl rfl (st7.cell 0 rfl 0 (kind_at ho)) ?_
  refine o_eql (k := .i64) (a := (kindOf o)) (b := 3) (r := false) rfl rfl (decide_eq_false g3) ?_
  refine o_move (v := (.bool false)) rfl ?_
  refine g_yes (t := 18) (b := false) rfl rfl rfl rfl ?_
  refine o_fieldAddr (q := 0) (off := 0) (by kernel_rfl) rfl rfl ?_
  refine g_yes (t := 18) (b := false) rfl rfl rfl rfl ?_
  refine o_load (v := (.int .i64 (kindOf o))) Try.underlying3 rfl rfl (st7.cell 0 rfl 0 (kind_at ho)) ?_
  refine g_yes (t := 18) (b := false) rfl rfl rfl rfl ?_
  refine o_eql (k := .i64) (a := (kindOf o)) (b := 4) (r := true) rfl rfl (decide_eq_true g4) ?_
  refine o_pick (b := false) (v := (.bool true)) rfl rfl ?_
  refine o_move (v := (.bool true)) rfl ?_
  refine g_yes (t := 23) (b := true) rfl rfl rfl rfl ?_
  refine o_fieldAddr (q := 38) (off := 38) (by kernel_rfl) rfl rfl ?_
  refine g_yes (t := 23) (b := true) rfl rfl rfl rfl ?_
  refine o_load (v := (.int .u64 (idOf o))) Try.underlying23 rfl rfl (st7.cell 0 rfl 38 (id_at ho)) ?_
  refine g_yes (t := 23) (b := true) rfl rfl rfl rfl ?_
  refine o_fieldAddr (q := 0) (off := 0) (by kernel_rfl) rfl rfl ?_
  refine g_yes (t := 23) (b := true) rfl rfl rfl rfl ?_
  refine o_fieldAddr (q := 38) (off := 38) (by kernel_rfl) rfl rfl ?_
  refine g_yes (t := 23) (b := true) rfl rfl rfl rfl ?_
  refine o_load (v := (.int .u64 (idOf op))) Try.underlying23 rfl rfl (st7.cell 1 rfl 38 ((head_at hlen (by decide)).trans (id_at hop))) ?_
  refine g_yes (t := 23) (b := true) rfl rfl rfl rfl ?_
  refine o_eql (k := .u64) (a := idOf o) (b := idOf op) (r := decide (idOf o = idOf op)) rfl rfl rfl ?_
  refine o_pick (b := true) (v := (.bool (decide (idOf o = idOf op)))) rfl rfl ?_
  refine o_assign (v := (.bool (decide (idOf o = idOf op)))) rfl ?_
  refine wpList_nil ?_
  refine then_normal (hK10 _ _ ?_)
  clear hK10
  refine wp_ret ?_
  refine then_ret ?_
  exact ret_tmp (v := (.bool (decide (idOf o = idOf op)))) rfl rfl ⟨by simp [sameB, h4, g4], st7.ch⟩
theorem same_4_n (w : World) (op : List Value) (tr : Value) (o : List Value) (hop : fitsAll ks40 op = true) (ho : fitsAll ks40 o = true) (h3 : ¬ kindOf op = 3) (h4 : kindOf op = 4) (g3 : ¬ kindOf o = 3) (g4 : ¬ kindOf o = 4) :
    Ret Try.prog 17 [.agg (op ++ [tr]).toArray, .agg o.toArray] w fun v w' => v = .bool (sameB op o) ∧ Ch w w' none' := by
  have hlen : op.length = 39 := fitsAll_length hop
  have hlo : o.length = 39 := fitsAll_length ho
  refine enter (n := 35) Try.func17 rfl Try.ntmps17 (Nat.le_of_ble_eq_true rfl) ?_
  have st := St.start w none'
  refine wp_seq_k fun K1 hK1 => ?_
  refine wp_region_lit ?_
  refine s_box st (cs := (op ++ [tr])) rfl ?_
  intro b2 w3 st4 hbb2 hcb2
  refine s_box st4 (cs := o) rfl ?_
  intro b5 w6 st7 hbb5 hcb5
  refine o_assign (v := (.bool false)) rfl ?_
  refine wpList_nil ?_
  refine then_normal (hK1 _ _ ?_)
  clear hK1
  refine wp_seq_k fun K8 hK8 => ?_
  refine wp_seq_k fun K9 hK9 => ?_
  refine wp_region_lit ?_
  refine o_fieldAddr (q := 0) (off := 0) (by kernel_rfl) rfl rfl ?_
  refine o_fieldAddr (q := 0) (off := 0) (by kernel_rfl) rfl rfl ?_
  refine o_load (v := (.int .i64 (kindOf op))) Try.underlying3 rfl rfl (st7.cell 1 rfl 0 ((head_at hlen (by decide)).trans (kind_at hop))) ?_
  refine o_eql (k := .i64) (a := (kindOf op)) (b := 3) (r := false) rfl rfl (decide_eq_false h3) ?_
  refine o_move (v := (.bool false)) rfl ?_
  refine g_yes (t := 9) (b := false) rfl rfl rfl rfl ?_
  refine o_fieldAddr (q := 0) (off := 0) (by kernel_rfl) rfl rfl ?_
  refine g_yes (t := 9) (b := false) rfl rfl rfl rfl ?_
  refine o_fieldAddr (q := 0) (off := 0) (by kernel_rfl) rfl rfl ?_
  refine g_yes (t := 9) (b := false) rfl rfl rfl rfl ?_
  refine o_load (v := (.int .i64 (kindOf op))) Try.underlying3 rfl rfl (st7.cell 1 rfl 0 ((head_at hlen (by decide)).trans (kind_at hop))) ?_
  refine g_yes (t := 9) (b := false) rfl rfl rfl rfl ?_
  refine o_eql (k := .i64) (a := (kindOf op)) (b := 4) (r := true) rfl rfl (decide_eq_true h4) ?_
  refine o_pick (b := false) (v := (.bool true)) rfl rfl ?_
  refine wpList_nil ?_
  refine then_normal (hK9 _ _ ?_)
  clear hK9
  refine cond_t rfl ?_
  refine wp_seq_k fun K10 hK10 => ?_
  refine wp_region_lit ?_
  refine o_fieldAddr (q := 0) (off := 0) (by kernel_rfl) rfl rfl ?_
  refine o_load (v := (.int .i64 (kindOf o))) Try.underlying3 rfl rfl (st7.cell 0 rfl 0 (kind_at ho)) ?_
  refine o_eql (k := .i64) (a := (kindOf o)) (b := 3) (r := false) rfl rfl (decide_eq_false g3) ?_
  refine o_move (v := (.bool false)) rfl ?_
  refine g_yes (t := 18) (b := false) rfl rfl rfl rfl ?_
  refine o_fieldAddr (q := 0) (off := 0) (by kernel_rfl) rfl rfl ?_
  refine g_yes (t := 18) (b := false) rfl rfl rfl rfl ?_
  refine o_load (v := (.int .i64 (kindOf o))) Try.underlying3 rfl rfl (st7.cell 0 rfl 0 (kind_at ho)) ?_
  refine g_yes (t := 18) (b := false) rfl rfl rfl rfl ?_
  refine o_eql (k := .i64) (a := (kindOf o)) (b := 4) (r := false) rfl rfl (decide_eq_false g4) ?_
  refine o_pick (b := false) (v := (.bool false)) rfl rfl ?_
  refine o_move (v := (.bool false)) rfl ?_
  refine g_no (t := 23) (b := false) rfl rfl rfl rfl ?_
  refine g_no (t := 23) (b := false) rfl rfl rfl rfl ?_
  refine g_no (t := 23) (b := false) rfl rfl rfl rfl ?_
  refine g_no (t := 23) (b := false) rfl rfl rfl rfl ?_
  refine g_no (t := 23) (b := false) rfl rfl rfl rfl ?_
  refine g_no (t := 23) (b := false) rfl rfl rfl rfl ?_
  refine o_pick (b := false) (v := (.bool false)) rfl rfl ?_
  refine o_assign (v := (.bool false)) rfl ?_
  refine wpList_nil ?_
  refine then_normal (hK10 _ _ ?_)
  clear hK10
  refine wp_ret ?_
  refine then_ret ?_
  exact ret_tmp (v := (.bool false)) rfl rfl ⟨by simp [sameB, h4, g3, g4], st7.ch⟩
theorem same_n (w : World) (op : List Value) (tr : Value) (o : List Value) (hop : fitsAll ks40 op = true) (ho : fitsAll ks40 o = true) (h3 : ¬ kindOf op = 3) (h4 : ¬ kindOf op = 4) :
    Ret Try.prog 17 [.agg (op ++ [tr]).toArray, .agg o.toArray] w fun v w' => v = .bool (sameB op o) ∧ Ch w w' none' := by
  have hlen : op.length = 39 := fitsAll_length hop
  have hlo : o.length = 39 := fitsAll_length ho
  refine enter (n := 35) Try.func17 rfl Try.ntmps17 (Nat.le_of_ble_eq_true rfl) ?_
  have st := St.start w none'
  refine wp_seq_k fun K1 hK1 => ?_
  refine wp_region_lit ?_
  refine s_box st (cs := (op ++ [tr])) rfl ?_
  intro b2 w3 st4 hbb2 hcb2
  refine s_box st4 (cs := o) rfl ?_
  intro b5 w6 st7 hbb5 hcb5
  refine o_assign (v := (.bool false)) rfl ?_
  refine wpList_nil ?_
  refine then_normal (hK1 _ _ ?_)
  clear hK1
  refine wp_seq_k fun K8 hK8 => ?_
  refine wp_seq_k fun K9 hK9 => ?_
  refine wp_region_lit ?_
  refine o_fieldAddr (q := 0) (off := 0) (by kernel_rfl) rfl rfl ?_
  refine o_fieldAddr (q := 0) (off := 0) (by kernel_rfl) rfl rfl ?_
  refine o_load (v := (.int .i64 (kindOf op))) Try.underlying3 rfl rfl (st7.cell 1 rfl 0 ((head_at hlen (by decide)).trans (kind_at hop))) ?_
  refine o_eql (k := .i64) (a := (kindOf op)) (b := 3) (r := false) rfl rfl (decide_eq_false h3) ?_
  refine o_move (v := (.bool false)) rfl ?_
  refine g_yes (t := 9) (b := false) rfl rfl rfl rfl ?_
  refine o_fieldAddr (q := 0) (off := 0) (by kernel_rfl) rfl rfl ?_
  refine g_yes (t := 9) (b := false) rfl rfl rfl rfl ?_
  refine o_fieldAddr (q := 0) (off := 0) (by kernel_rfl) rfl rfl ?_
  refine g_yes (t := 9) (b := false) rfl rfl rfl rfl ?_
  refine o_load (v := (.int .i64 (kindOf op))) Try.underlying3 rfl rfl (st7.cell 1 rfl 0 ((head_at hlen (by decide)).trans (kind_at hop))) ?_
  refine g_yes (t := 9) (b := false) rfl rfl rfl rfl ?_
  refine o_eql (k := .i64) (a := (kindOf op)) (b := 4) (r := false) rfl rfl (decide_eq_false h4) ?_
  refine o_pick (b := false) (v := (.bool false)) rfl rfl ?_
  refine wpList_nil ?_
  refine then_normal (hK9 _ _ ?_)
  clear hK9
  refine cond_f rfl ?_
  refine wp_skip ?_
  refine then_normal (hK8 _ _ ?_)
  clear hK8
  refine wp_seq_k fun K10 hK10 => ?_
  refine wp_region_lit ?_
  refine o_fieldAddr (q := 0) (off := 0) (by kernel_rfl) rfl rfl ?_
  refine o_loads (cs := op) Try.underlying40 rfl (Try.size40.trans (by rw [hlen])) rfl (st7.range 1 rfl 0 (head_part hlen)) ?_
  refine o_loads (cs := o) Try.underlying40 rfl (Try.size40.trans (by rw [hlo])) rfl (st7.range 0 rfl 0 (by rw [List.drop_zero, List.take_length])) ?_
  refine o_eq_agg (r := vsEq op o) flat40 row40 (by decide) guard40 rfl rfl hop ho rfl ?_
  refine o_assign (v := (.bool (vsEq op o))) rfl ?_
  refine wpList_nil ?_
  refine then_normal (hK10 _ _ ?_)
  clear hK10
  refine wp_ret ?_
  exact ret_tmp (v := (.bool (vsEq op o))) rfl rfl ⟨by simp [sameB, h3, h4], st7.ch⟩
theorem same17 (w : World) (op : List Value) (tr : Value) (o : List Value) (hop : fitsAll ks40 op = true) (ho : fitsAll ks40 o = true) :
    Ret Try.prog 17 [.agg (op ++ [tr]).toArray, .agg o.toArray] w fun v w' => v = .bool (sameB op o) ∧ Ch w w' none' := by
  by_cases h3 : kindOf op = 3
  · by_cases g3 : kindOf o = 3
    · exact same_3_3 w op tr o hop ho h3 g3
    · by_cases g4 : kindOf o = 4
      · exact same_3_4 w op tr o hop ho h3 g3 g4
      · exact same_3_n w op tr o hop ho h3 g3 g4
  · by_cases h4 : kindOf op = 4
    · by_cases g3 : kindOf o = 3
      · exact same_4_3 w op tr o hop ho h3 h4 g3
      · by_cases g4 : kindOf o = 4
        · exact same_4_4 w op tr o hop ho h3 h4 g3 g4
        · exact same_4_n w op tr o hop ho h3 h4 g3 g4
    · exact same_n w op tr o hop ho h3 h4

theorem closure16 (w : World) (op : List Value) (tr : Value) (q : Nat) (o : List Value) (hop : fitsAll ks40 op = true) (ho : fitsAll ks40 o = true) (h1 : tr.oneCell' = true) (hq : w.rangeAt q 0 o) :
    Ret Try.prog 16 [.agg (op ++ [tr]).toArray, .pointer (some ⟨q, 0, none⟩)] w fun v w' => v = .bool (sameB op o) ∧ Ch w w' none' := by
  have hlen : op.length = 39 := fitsAll_length hop
  have hlo : o.length = 39 := fitsAll_length ho
  refine enter (n := 8) Try.func16 rfl Try.ntmps16 (Nat.le_of_ble_eq_true rfl) ?_
  have st := St.start w none'
  refine wp_seq_k fun K1 hK1 => ?_
  refine wp_region_lit ?_
  refine s_box st (cs := (op ++ [tr])) rfl ?_
  intro b2 w3 st4 hbb2 hcb2
  refine o_assign (v := (.bool false)) rfl ?_
  refine wpList_nil ?_
  refine then_normal (hK1 _ _ ?_)
  clear hK1
  refine wp_seq_k fun K5 hK5 => ?_
  refine wp_region_lit ?_
  refine o_loads (cs := op ++ [tr]) Try.underlying43 rfl (Try.size43.trans (by simp [hlen])) rfl (st4.range 0 rfl 0 (by rw [List.drop_zero, List.take_length])) ?_
  refine o_fieldAddr (q := 0) (off := 0) (by kernel_rfl) rfl rfl ?_
  have hq2 : w3.rangeAt q 0 o := fun j v hj => by have h0 := hq j v hj; rw [World.cell?_of_block (w := w) (st4.ch.same q (World.block_lt_of_cell? w _ h0) (fun f => f))]; exact h0
  refine o_loads (cs := o) Try.underlying40 rfl (Try.size40.trans (by rw [hlo])) rfl hq2 ?_
  refine op_call (args := [.agg (op ++ [tr]).toArray, .agg o.toArray]) Try.ent17 rfl (same17 w3 op tr o hop ho) ?_
  rintro v w8 ⟨rfl, hc8⟩
  have st8 := st4.keep hc8
  refine o_assign (v := (.bool (sameB op o))) rfl ?_
  refine wpList_nil ?_
  refine then_normal (hK5 _ _ ?_)
  clear hK5
  refine wp_ret ?_
  exact ret_tmp rfl rfl ⟨rfl, st8.ch⟩
end Go.Proofs.Ytocmlbnaikojkaa
