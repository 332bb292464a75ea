/- ClerkOwn: rules that may be, and an empty wish list. -/
import Derived.Test.YtocmlbnaikojkaaCk15
namespace Go.Proofs.Ytocmlbnaikojkaa
open Go Go.Sx
attribute [local irreducible] Go.wpList

def rul (m l : Int) : List Value := [.int .u64 0, .int .u64 0, .int .u64 m, .int .u64 0, .int .u64 l]
theorem pl95 : placesOf Try.prog 95 = some ([(0, 2), (2, 1), (3, 1), (4, 1)], rul 0 0) := by kernel_rfl
theorem zero95 : zeroOf Try.prog 95 = some (rul 0 0) := by kernel_rfl
theorem Try.size95 : (Try.prog.info? 95).map (·.size) = some 5 := by kernel_rfl
theorem z43_eq : z43 = z40 ++ [.slice none 0 0] := by kernel_rfl
/-- The empty wish. -/
def noWish : Wish := ⟨z40, .slice none 0 0, 0, []⟩
theorem ok_noWish : OkW noWish := ⟨fits_z40, Nat.zero_le _, rfl, rfl⟩
theorem rd_nil (w : World) (size : Nat) : Rd w (.slice none 0 0) 0 [] size := ⟨by simp, fun u hu => (List.not_mem_nil hu).elim, none, 0, rfl, Nat.le_refl _, fun _ => rfl, fun a ha => by cases ha⟩
theorem ws_nil (w : World) : WS w (.slice none 0 0) [] := ⟨rd_nil w 40, fun x hx => (List.not_mem_nil hx).elim⟩
theorem dat_length (D : List Wish) : (dat D).length = D.length := List.length_map ..
theorem same_z40 : sameB z40 z40 = true := by
  unfold sameB
  rw [if_neg (by decide), vsEq_refl fits_z40]

theorem right26_true (w : World) : Ret Try.prog 26 [.agg (rul 1 9).toArray] w fun v w' => v = .bool true ∧ Ch w w' none' := by
  refine enter (n := 32) Try.func26 rfl Try.ntmps26 (Nat.le_of_ble_eq_true rfl) ?_
  have st := St.start w none'
  refine wp_seq_k fun K1 hK1 => ?_
  refine wp_region_lit ?_
  refine s_box st (cs := (rul 1 9)) rfl ?_
  intro b2 w3 st4 hbb2 hcb2
  refine o_assign (v := (.bool false)) rfl ?_
  refine wpList_nil ?_
  refine then_normal (hK1 _ _ ?_)
  clear hK1
  refine wp_seq_k fun K5 hK5 => ?_
  refine wp_region_lit ?_
  refine o_fieldAddr (q := 2) (off := 2) (by kernel_rfl) rfl rfl ?_
  refine o_load (v := (.int .u64 1)) Try.underlying23 rfl rfl (st4.cell 0 rfl 2 (rfl)) ?_
  refine o_geq (k := .u64) (a := 1) (b := 1) (r := true) rfl rfl (by decide) ?_
  refine o_move (v := (.bool true)) rfl ?_
  refine g_yes (t := 6) (b := true) rfl rfl rfl rfl ?_
  refine o_fieldAddr (q := 2) (off := 2) (by kernel_rfl) rfl rfl ?_
  refine g_yes (t := 6) (b := true) rfl rfl rfl rfl ?_
  refine o_load (v := (.int .u64 1)) Try.underlying23 rfl rfl (st4.cell 0 rfl 2 (rfl)) ?_
  refine g_yes (t := 6) (b := true) rfl rfl rfl rfl ?_
  refine o_leq (k := .u64) (a := 1) (b := 100) (r := true) rfl rfl (by decide) ?_
  refine o_pick (b := true) (v := (.bool true)) rfl rfl ?_
  refine o_move (v := (.bool true)) rfl ?_
  refine g_yes (t := 11) (b := true) rfl rfl rfl rfl ?_
  refine o_fieldAddr (q := 3) (off := 3) (by kernel_rfl) rfl rfl ?_
  refine g_yes (t := 11) (b := true) rfl rfl rfl rfl ?_
  refine o_load (v := (.int .u64 0)) Try.underlying23 rfl rfl (st4.cell 0 rfl 3 (rfl)) ?_
  refine g_yes (t := 11) (b := true) rfl rfl rfl rfl ?_
  refine o_leq (k := .u64) (a := 0) (b := 100) (r := true) rfl rfl (by decide) ?_
  refine o_pick (b := true) (v := (.bool true)) rfl rfl ?_
  refine o_move (v := (.bool true)) rfl ?_
  refine g_yes (t := 16) (b := true) rfl rfl rfl rfl ?_
  refine o_fieldAddr (q := 4) (off := 4) (by kernel_rfl) rfl rfl ?_
  refine g_yes (t := 16) (b := true) rfl rfl rfl rfl ?_
  refine o_load (v := (.int .u64 9)) Try.underlying23 rfl rfl (st4.cell 0 rfl 4 (rfl)) ?_
  refine g_yes (t := 16) (b := true) rfl rfl rfl rfl ?_
  refine o_geq (k := .u64) (a := 9) (b := 1) (r := true) rfl rfl (by decide) ?_
  refine o_pick (b := true) (v := (.bool true)) rfl rfl ?_
  refine o_move (v := (.bool true)) rfl ?_
  refine g_yes (t := 21) (b := true) rfl rfl rfl rfl ?_
  refine o_fieldAddr (q := 4) (off := 4) (by kernel_rfl) rfl rfl ?_
  refine g_yes (t := 21) (b := true) rfl rfl rfl rfl ?_
  refine o_load (v := (.int .u64 9)) Try.underlying23 rfl rfl (st4.cell 0 rfl 4 (rfl)) ?_
  refine g_yes (t := 21) (b := true) rfl rfl rfl rfl ?_
  refine o_leq (k := .u64) (a := 9) (b := 10000) (r := true) rfl rfl (by decide) ?_
  refine o_pick (b := true) (v := (.bool true)) rfl rfl ?_
  refine o_move (v := (.bool true)) rfl ?_
  refine g_yes (t := 26) (b := true) rfl rfl rfl rfl ?_
  refine o_fieldAddr (q := 0) (off := 0) (by kernel_rfl) rfl rfl ?_
  refine g_yes (t := 26) (b := true) rfl rfl rfl rfl ?_
  refine o_fieldAddr (q := 1) (off := 1) (by kernel_rfl) rfl rfl ?_
  refine g_yes (t := 26) (b := true) rfl rfl rfl rfl ?_
  refine o_load (v := (.int .u64 0)) Try.underlying23 rfl rfl (st4.cell 0 rfl 1 (rfl)) ?_
  refine g_yes (t := 26) (b := true) rfl rfl rfl rfl ?_
  refine o_leq (k := .u64) (a := 0) (b := 1000000) (r := true) rfl rfl (by decide) ?_
  refine o_pick (b := true) (v := (.bool true)) rfl rfl ?_
  refine o_assign (v := (.bool true)) rfl ?_
  refine wpList_nil ?_
  refine then_normal (hK5 _ _ ?_)
  clear hK5
  refine wp_ret ?_
  exact ret_tmp (v := .bool true) rfl rfl ⟨rfl, st4.ch⟩
theorem right26_false (w : World) : Ret Try.prog 26 [.agg (rul 0 0).toArray] w fun v w' => v = .bool false ∧ Ch w w' none' := by
  refine enter (n := 32) Try.func26 rfl Try.ntmps26 (Nat.le_of_ble_eq_true rfl) ?_
  have st := St.start w none'
  refine wp_seq_k fun K1 hK1 => ?_
  refine wp_region_lit ?_
  refine s_box st (cs := (rul 0 0)) rfl ?_
  intro b2 w3 st4 hbb2 hcb2
  refine o_assign (v := (.bool false)) rfl ?_
  refine wpList_nil ?_
  refine then_normal (hK1 _ _ ?_)
  clear hK1
  refine wp_seq_k fun K5 hK5 => ?_
  refine wp_region_lit ?_
  refine o_fieldAddr (q := 2) (off := 2) (by kernel_rfl) rfl rfl ?_
  refine o_load (v := (.int .u64 0)) Try.underlying23 rfl rfl (st4.cell 0 rfl 2 (rfl)) ?_
  refine o_geq (k := .u64) (a := 0) (b := 1) (r := false) rfl rfl (by decide) ?_
  refine o_move (v := (.bool false)) rfl ?_
  refine g_no (t := 6) (b := false) rfl rfl rfl rfl ?_
  refine g_no (t := 6) (b := false) rfl rfl rfl rfl ?_
  refine g_no (t := 6) (b := false) rfl rfl rfl rfl ?_
  refine o_pick (b := false) (v := (.bool false)) rfl rfl ?_
  refine o_move (v := (.bool false)) rfl ?_
  refine g_no (t := 11) (b := false) rfl rfl rfl rfl ?_
  refine g_no (t := 11) (b := false) rfl rfl rfl rfl ?_
  refine g_no (t := 11) (b := false) rfl rfl rfl rfl ?_
  refine o_pick (b := false) (v := (.bool false)) rfl rfl ?_
  refine o_move (v := (.bool false)) rfl ?_
  refine g_no (t := 16) (b := false) rfl rfl rfl rfl ?_
  refine g_no (t := 16) (b := false) rfl rfl rfl rfl ?_
  refine g_no (t := 16) (b := false) rfl rfl rfl rfl ?_
  refine o_pick (b := false) (v := (.bool false)) rfl rfl ?_
  refine o_move (v := (.bool false)) rfl ?_
  refine g_no (t := 21) (b := false) rfl rfl rfl rfl ?_
  refine g_no (t := 21) (b := false) rfl rfl rfl rfl ?_
  refine g_no (t := 21) (b := false) rfl rfl rfl rfl ?_
  refine o_pick (b := false) (v := (.bool false)) rfl rfl ?_
  refine o_move (v := (.bool false)) rfl ?_
  refine g_no (t := 26) (b := false) rfl rfl rfl rfl ?_
  refine g_no (t := 26) (b := false) rfl rfl rfl rfl ?_
  refine g_no (t := 26) (b := false) rfl rfl rfl rfl ?_
  refine g_no (t := 26) (b := false) rfl rfl rfl rfl ?_
  refine o_pick (b := false) (v := (.bool false)) rfl rfl ?_
  refine o_assign (v := (.bool false)) rfl ?_
  refine wpList_nil ?_
  refine then_normal (hK5 _ _ ?_)
  clear hK5
  refine wp_ret ?_
  exact ret_tmp (v := .bool false) rfl rfl ⟨rfl, st4.ch⟩
theorem awake10 (w : World) : Ret Try.prog 10 [] w fun v w' => v = .bool true ∧ Ch w w' none' := by
  refine enter (n := 25) Try.func10 rfl Try.ntmps10 (Nat.le_of_ble_eq_true rfl) ?_
  have st := St.start w none'
  refine wp_seq_k fun K1 hK1 => ?_
  refine wp_region_lit ?_
  refine o_assign (v := (.bool false)) rfl ?_
  refine wpList_nil ?_
  refine then_normal (hK1 _ _ ?_)
  clear hK1
  refine wp_seq_k fun K2 hK2 => ?_
  refine wp_region_lit ?_
  refine o_build pl95 (vals := [(1, [.int .u64 1]), (3, [.int .u64 9])]) (cs := rul 1 9) rfl ⟨⟨2, rfl, Nat.le_of_ble_eq_true rfl⟩, ⟨4, rfl, Nat.le_of_ble_eq_true rfl⟩, trivial⟩ rfl ?_
  refine s_alloc' st zero95 ?_
  intro b3 w4 st5 hbb3 hcb3
  refine s_stores st5 0 (vs := rul 1 9) rfl Try.size95 rfl rfl (fun u hu => by unfold rul at hu; simp only [List.mem_cons, List.not_mem_nil, or_false] at hu; rcases hu with rfl | rfl | rfl | rfl | rfl <;> rfl) (Nat.le_of_ble_eq_true rfl) ?_
  intro w4 st4 hc4
  rw [setFrom_full (vs := rul 1 9) (cs := rul 0 0) rfl] at st4
  refine wpList_nil ?_
  refine then_normal (hK2 _ _ ?_)
  clear hK2
  refine wp_seq_k fun K6 hK6 => ?_
  refine wp_region_lit ?_
  refine o_build pl43 (vals := []) (cs := noWish.op ++ [noWish.tr]) rfl trivial z43_eq ?_
  refine op_call (args := [.slice none 0 0, .agg (noWish.op ++ [noWish.tr]).toArray]) Try.ent5 rfl (add5 w4 _ [] noWish (Nat.zero_le _) (ws_nil _) ok_noWish (rd_nil _ 3)) ?_
  rintro v5 w7 ⟨hc9, D1, wo1, hd1⟩
  have hd1 : dat D1 = [(z40, 0, [])] := hd1
  have hl1 : D1.length = 1 := by rw [← dat_length, hd1]; rfl
  have ws1 := wo1.ws
  obtain ⟨A1, c1, rfl, _⟩ := ws1.len
  rw [hl1]
  have st8 := st4.keep hc9
  refine o_assign (v := (.slice A1 1 c1)) rfl ?_
  refine wpList_nil ?_
  refine then_normal (hK6 _ _ ?_)
  clear hK6
  refine wp_seq_k fun K10 hK10 => ?_
  refine wp_region_lit ?_
  refine o_loads (cs := (rul 1 9)) Try.underlying95 rfl (Try.size95) rfl (st8.range 0 rfl 0 (by rw [List.drop_zero, List.take_length])) ?_
  refine op_call (args := [(.agg ((rul 1 9) : List Value).toArray)]) Try.ent26 rfl (right26_true w7) ?_
  rintro v8 w11 ⟨rfl, hc13⟩
  have st12 := st8.keep hc13
  have ws1 := ws1.fresh hc13
  refine o_move (v := (.bool true)) rfl ?_
  refine g_yes (t := 8) (b := true) rfl rfl rfl rfl ?_
  refine o_build pl95 (vals := []) (cs := rul 0 0) rfl trivial rfl ?_
  refine g_yes (t := 8) (b := true) rfl rfl rfl rfl ?_
  refine op_call (args := [(.agg ((rul 0 0) : List Value).toArray)]) Try.ent26 rfl (right26_false w11) ?_
  rintro v8 w14 ⟨rfl, hc16⟩
  have st15 := st12.keep hc16
  have ws1 := ws1.fresh hc16
  refine g_yes (t := 8) (b := true) rfl rfl rfl rfl ?_
  refine o_not (b := false) rfl ?_
  refine o_pick (b := true) (v := (.bool true)) rfl rfl ?_
  refine o_move (v := (.bool true)) rfl ?_
  refine g_yes (t := 13) (b := true) rfl rfl rfl rfl ?_
  refine o_move (v := (.slice A1 1 c1)) rfl ?_
  refine g_yes (t := 13) (b := true) rfl rfl rfl rfl ?_
  refine o_len (z := 1) Try.underlying32 rfl rfl ?_
  refine g_yes (t := 13) (b := true) rfl rfl rfl rfl ?_
  refine o_eql (k := .i64) (a := 1) (b := 1) (r := true) rfl rfl (by decide) ?_
  refine o_pick (b := true) (v := (.bool true)) rfl rfl ?_
  refine o_move (v := (.bool true)) rfl ?_
  refine g_yes (t := 18) (b := true) rfl rfl rfl rfl ?_
  refine o_move (v := (.slice A1 1 c1)) rfl ?_
  refine g_yes (t := 18) (b := true) rfl rfl rfl rfl ?_
  refine o_build pl43 (vals := []) (cs := noWish.op ++ [noWish.tr]) rfl trivial z43_eq ?_
  refine g_yes (t := 18) (b := true) rfl rfl rfl rfl ?_
  refine op_call (args := [.slice A1 1 c1, .agg (noWish.op ++ [noWish.tr]).toArray]) Try.ent5 rfl (add5 w14 _ D1 noWish (by omega) (by rw [hl1] at ws1; exact ws1) ok_noWish (rd_nil _ 3)) ?_
  rintro v6 w17 ⟨hc19, D2, wo2, hd2⟩
  have hl2 : D2.length = 1 := by
    rw [← dat_length, hd2, hd1]
    unfold addD
    rw [if_pos (by simp only [List.any_cons]; rw [show noWish.op = z40 from rfl, same_z40]; rfl)]
    rfl
  obtain ⟨A2, c2, rfl, _⟩ := wo2.ws.len
  rw [hl2]
  have st18 := st15.keep hc19
  refine g_yes (t := 18) (b := true) rfl rfl rfl rfl ?_
  refine o_len (z := 1) Try.underlying32 rfl rfl ?_
  refine g_yes (t := 18) (b := true) rfl rfl rfl rfl ?_
  refine o_eql (k := .i64) (a := 1) (b := 1) (r := true) rfl rfl (by decide) ?_
  refine o_pick (b := true) (v := (.bool true)) rfl rfl ?_
  refine o_assign (v := (.bool true)) rfl ?_
  refine wpList_nil ?_
  refine then_normal (hK10 _ _ ?_)
  clear hK10
  refine wp_ret ?_
  exact ret_tmp (v := .bool true) rfl rfl ⟨rfl, st18.ch⟩
end Go.Proofs.Ytocmlbnaikojkaa
