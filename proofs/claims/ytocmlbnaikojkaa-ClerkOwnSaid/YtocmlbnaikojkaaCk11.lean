/- ClerkOwn: a memo with a trail alone, turned into the program's. -/
import Derived.Test.YtocmlbnaikojkaaCk10
namespace Go.Proofs.Ytocmlbnaikojkaa
open Go Go.Sx
attribute [local irreducible] Go.wpList

/-- A literal that writes what stands there already. -/
theorem set_same {cs vs : List Value} {o : Nat} (h : (cs.drop o).take vs.length = vs) (hf : o + vs.length ≤ cs.length) : setFrom cs o vs = cs := by
  rw [setFrom_eq _ _ _ hf, List.append_assoc]
  have h2 : cs.drop (o + vs.length) = (cs.drop o).drop vs.length := by rw [List.drop_drop]
  rw [h2]
  conv => lhs; arg 2; arg 1; rw [← h]
  rw [List.take_append_drop, List.take_append_drop]

def sameOk (pl : List (Nat × Nat)) (Z : List Value) : List (Nat × List Value) → Prop
  | [] => True
  | (i, vs) :: r => (∃ o, pl[i]? = some (o, vs.length) ∧ o + vs.length ≤ Z.length ∧ (Z.drop o).take vs.length = vs) ∧ sameOk pl Z r

theorem fill_same {pl : List (Nat × Nat)} {Z : List Value} : ∀ (vals : List (Nat × List Value)), sameOk pl Z vals → fillL pl Z vals = Z
  | [], _ => rfl
  | (i, vs) :: r, h => by
    obtain ⟨⟨o, h1, h2, h3⟩, hr⟩ := h
    rw [fillL, h1]
    simp only [Option.getD_some]
    rw [set_same h3 h2]
    exact fill_same r hr
theorem fillOk_same {pl : List (Nat × Nat)} {Z : List Value} : ∀ (vals : List (Nat × List Value)), sameOk pl Z vals → fillOk pl Z.length vals
  | [], _ => trivial
  | (i, vs) :: r, h => by
    obtain ⟨⟨o, h1, h2, h3⟩, hr⟩ := h
    exact ⟨⟨o, h1, h2⟩, fillOk_same r hr⟩

def zs : List Value := zn 1024 ++ [.int .u32 0, .slice none 0 0]
theorem zs_len : zs.length = 1026 := by unfold zs; rw [List.length_append, zn_len]; rfl
theorem zs_one : ∀ v ∈ zs, v.oneCell' = true := fun v hv => by
  rcases List.mem_append.1 hv with h | h
  · exact zn_one v h
  · rcases List.mem_cons.1 h with rfl | h
    · rfl
    · rw [List.mem_singleton.1 h]; rfl
theorem zero62 : zeroOf Try.prog 62 = some zs := by kernel_rfl
theorem pl62 : placesOf Try.prog 62 = some ([(0, 1024), (1024, 1), (1025, 1)], zs) := by kernel_rfl
theorem zs_parts : (zs.drop 0).take (zn 1024).length = zn 1024 := by unfold zs; rw [List.drop_zero, List.take_left]
theorem zs_key : zs[1024]? = some (.int .u32 0) := by unfold zs; rw [List.getElem?_append_right (by rw [zn_len]; omega), zn_len]; rfl
theorem zs_way : zs[1025]? = some (.slice none 0 0) := by unfold zs; rw [List.getElem?_append_right (by rw [zn_len]; omega), zn_len]; rfl
theorem one_part {cs : List Value} {o : Nat} {v : Value} (h : cs[o]? = some v) : (cs.drop o).take 1 = [v] := by
  obtain ⟨h1, h2⟩ := List.getElem?_eq_some_iff.1 h
  rw [List.drop_eq_getElem_cons h1, h2]; rfl
theorem same62 : sameOk [(0, 1024), (1024, 1), (1025, 1)] zs [(0, zn 1024), (1, [.int .u32 0])] :=
  ⟨⟨0, by rw [zn_len]; rfl, by rw [zs_len, zn_len]; omega, zs_parts⟩, ⟨1024, rfl, by rw [zs_len]; exact Nat.le_of_ble_eq_true rfl, one_part zs_key⟩, trivial⟩

theorem Try.size62 : (Try.prog.info? 62).map (·.size) = some 1026 := by kernel_rfl
theorem Try.size72 : (Try.prog.info? 72).map (·.size) = some 1026 := by kernel_rfl
theorem Try.size74 : (Try.prog.info? 74).map (·.size) = some 1069 := by kernel_rfl
theorem Try.size64 : (Try.prog.info? 64).map (·.size) = some 1069 := by kernel_rfl
theorem Try.size98 : (Try.prog.info? 98).map (·.size) = some 3 := by kernel_rfl

theorem to28 (w : World) : Ret Try.prog 28 [.agg zs.toArray] w fun v w' => v = .agg zs.toArray ∧ Ch w w' none' := by
  refine enter (n := 27) Try.func28 rfl Try.ntmps28 (Nat.le_of_ble_eq_true rfl) ?_
  have st := St.start w none'
  refine wp_seq_k fun K1 hK1 => ?_
  refine wp_region_lit ?_
  refine s_box st (cs := zs) rfl ?_
  intro b2 w3 st4 hbb2 hcb2
  refine s_alloc' st4 zero62 ?_
  intro b5 w6 st7 hbb5 hcb5
  refine wpList_nil ?_
  refine then_normal (hK1 _ _ ?_)
  clear hK1
  refine wp_seq_k fun K8 hK8 => ?_
  refine d_begin (fun w' => Ch w6 w' none') (by kernel_rfl) ?_
  obtain ⟨w9, ew9⟩ : ∃ x, x = World.drew w6 := ⟨_, rfl⟩
  rw [← ew9]
  have hNw9 : Ch w6 w9 none' := by rw [ew9]; exact Ch.drew _ _
  have hSw9 := hNw9.mono (F := none') (G := none') (fun _ _ f => f.elim)
  have st10 := st7.keep hNw9
  clear ew9
  refine d_take (i := 0) (d := 6) (v := (.pointer (some ⟨b2, 0, none⟩))) rfl rfl rfl (by kernel_rfl) (by kernel_rfl) (by kernel_rfl) (np_then np_body) hSw9 (fun w' hS => r_fieldAddr (q := 0) (off := 0) (by kernel_rfl) rfl rfl) ?_
  refine d_take (i := 1) (d := 7) (v := (.agg ((zn 1024) : List Value).toArray)) rfl rfl rfl (by kernel_rfl) (by kernel_rfl) (by kernel_rfl) (np_then np_body) hSw9 (fun w' hS => r_loads (cs := (zn 1024)) Try.underlying69 rfl (Try.size69.trans (by rw [zn_len])) rfl ((st7.keep hS).range 1 rfl 0 (zs_parts))) ?_
  refine d_take (i := 3) (d := 9) (v := (.pointer (some ⟨b2, 1024, none⟩))) rfl rfl rfl (by kernel_rfl) (by kernel_rfl) (by kernel_rfl) (np_then np_body) hSw9 (fun w' hS => r_fieldAddr (q := 1024) (off := 1024) (by kernel_rfl) rfl rfl) ?_
  refine d_take (i := 4) (d := 10) (v := (.int .u32 0)) rfl rfl rfl (by kernel_rfl) (by kernel_rfl) (by kernel_rfl) (np_then np_body) hSw9 (fun w' hS => r_load (v := (.int .u32 0)) Try.underlying54 rfl rfl ((st7.keep hS).cell 1 rfl 1024 (zs_key))) ?_
  refine d_two (i := 2) (j := 6) (by kernel_rfl) rfl rfl ?_ ?_
  · refine op_call (args := [.agg (zn 1024).toArray]) Try.ent41 rfl (to41 w9) ?_
    rintro v8 w11 ⟨rfl, hc13⟩
    have st12 := st10.keep hc13
    have hkw11 := Ch.fresh hSw9 hc13
    refine wpList_nil ?_
    refine then_normal ?_
    have hS14 : Ch w6 w11 none' := hkw11
    refine ⟨hS14, ?_⟩
    refine d_take (i := 5) (d := 11) (v := (.agg (zs : List Value).toArray)) rfl rfl rfl (by kernel_rfl) (by kernel_rfl) (by kernel_rfl) (np_then np_body) hS14 (fun w' hS => r_build pl62 (vals := [(0, zn 1024), (1, [.int .u32 0])]) rfl (fillOk_same _ same62) (fill_same _ same62)) ?_
    refine d_loud (i := 6) (by kernel_rfl) rfl ?_
    refine s_alloc' st12 zero62 ?_
    intro b15 w16 st17 hbb15 hcb15
    have hkb15 := Ch.fresh hS14 hcb15
    have hltb15 : w6.heap.size ≤ b15 := Nat.le_trans (Ch.size hS14) hbb15
    refine wpList_nil ?_
    refine then_normal ?_
    have hS18 : Ch w6 w16 none' := hkb15
    refine ⟨hS18, ?_⟩
    refine d_loud (i := 7) (by kernel_rfl) rfl ?_
    refine s_stores st17 0 (vs := zs) rfl (Try.size62.trans (by rw [zs_len])) rfl rfl zs_one (by omega) ?_
    intro w19 st20 hc21
    rw [setFrom_full rfl] at st20
    have hkw19 := hS18.trans hc21 (H := none') (fun _ f => f) (fun q hq e => by have e : q = b15 := e; omega)
    refine wpList_nil ?_
    refine then_normal ?_
    have hS22 : Ch w6 w19 none' := hkw19
    refine ⟨hS22, ?_⟩
    refine d_done (by kernel_rfl) ?_
    refine then_normal (hK8 _ _ ?_)
    clear hK8
    refine wp_seq_k fun K23 hK23 => ?_
    refine wp_seq_k fun K24 hK24 => ?_
    refine wp_region_lit ?_
    refine o_fieldAddr (q := 1025) (off := 1025) (by kernel_rfl) rfl rfl ?_
    refine o_load (v := (.slice none 0 0)) Try.underlying70 rfl rfl (st20.cell 2 rfl 1025 (zs_way)) ?_
    refine o_len (z := 0) Try.underlying70 rfl rfl ?_
    refine o_move (v := (.int .i64 0)) rfl ?_
    refine wpList_nil ?_
    refine then_normal (hK24 _ _ ?_)
    clear hK24
    refine wp_block ?_
    refine Sx.loop (n := 27) (fun m E w1 => m = 0 ∧ Has E [(15, .int .i64 0), (14, .int .i64 0), (13, .slice none 0 0), (1, .pointer (some ⟨b2, 0, none⟩)), (2, .pointer (some ⟨b5, 0, none⟩)), (3, .pointer (some ⟨b15, 0, none⟩))] ∧ St w w1 none' [pt b15 (zs) 62, pt b5 (zs) 62, pt b2 (zs) 72]) ⟨rfl, ⟨rfl, rfl, rfl, rfl, rfl, rfl, trivial⟩, st20⟩ ?_
    rintro m E wl ⟨rfl, hE, sl⟩
    rw [hE.norm]
    refine wp_seq_k fun K25 hK25 => ?_
    refine wp_region_lit ?_
    refine o_lss (k := .i64) (a := 0) (b := 0) (r := false) rfl rfl (by decide) ?_
    refine wpList_nil ?_
    refine then_normal (hK25 _ _ ?_)
    clear hK25
    refine wp_seq_k fun K26 hK26 => ?_
    refine cond_f rfl ?_
    refine wp_exit ?_
    refine then_exit ?_
    refine then_exit ?_
    refine blk_exit ?_
    refine then_normal (hK23 _ _ ?_)
    clear hK23
    refine wp_seq_k fun K27 hK27 => ?_
    refine wp_region_lit ?_
    refine o_loads (cs := zs) Try.underlying62 rfl (Try.size62.trans (by rw [zs_len])) rfl (sl.range 0 rfl 0 (by rw [List.drop_zero, List.take_length])) ?_
    refine s_stores sl 1 (vs := zs) rfl (Try.size62.trans (by rw [zs_len])) rfl rfl zs_one (by omega) ?_
    intro w28 st29 hc30
    rw [setFrom_full rfl] at st29
    refine wpList_nil ?_
    refine then_normal (hK27 _ _ ?_)
    clear hK27
    refine wp_ret ?_
    exact ret_cell rfl rfl (st29.blk 1 rfl) Try.underlying62 rfl (Try.size62.trans (by rw [zs_len])) ⟨rfl, st29.ch⟩
  · refine s_alloc' st10 zero62 ?_
    intro b31 w32 st33 hbb31 hcb31
    have hkb31 := Ch.fresh hSw9 hcb31
    have hltb31 : w6.heap.size ≤ b31 := Nat.le_trans (Ch.size hSw9) hbb31
    refine wpList_nil ?_
    refine then_normal ?_
    have hS34 : Ch w6 w32 none' := hkb31
    refine ⟨hS34, ?_⟩
    refine d_loud (i := 2) (by kernel_rfl) rfl ?_
    refine op_call (args := [.agg (zn 1024).toArray]) Try.ent41 rfl (to41 w32) ?_
    rintro v8 w35 ⟨rfl, hc37⟩
    have st36 := st33.keep hc37
    have hkw35 := Ch.fresh hS34 hc37
    refine wpList_nil ?_
    refine then_normal ?_
    have hS38 : Ch w6 w35 none' := hkw35
    refine ⟨hS38, ?_⟩
    refine d_take (i := 5) (d := 11) (v := (.agg (zs : List Value).toArray)) rfl rfl rfl (by kernel_rfl) (by kernel_rfl) (by kernel_rfl) (np_then np_body) hS38 (fun w' hS => r_build pl62 (vals := [(0, zn 1024), (1, [.int .u32 0])]) rfl (fillOk_same _ same62) (fill_same _ same62)) ?_
    refine d_loud (i := 7) (by kernel_rfl) rfl ?_
    refine s_stores st36 0 (vs := zs) rfl (Try.size62.trans (by rw [zs_len])) rfl rfl zs_one (by omega) ?_
    intro w39 st40 hc41
    rw [setFrom_full rfl] at st40
    have hkw39 := hS38.trans hc41 (H := none') (fun _ f => f) (fun q hq e => by have e : q = b31 := e; omega)
    refine wpList_nil ?_
    refine then_normal ?_
    have hS42 : Ch w6 w39 none' := hkw39
    refine ⟨hS42, ?_⟩
    refine d_done (by kernel_rfl) ?_
    refine then_normal (hK8 _ _ ?_)
    clear hK8
    refine wp_seq_k fun K43 hK43 => ?_
    refine wp_seq_k fun K44 hK44 => ?_
    refine wp_region_lit ?_
    refine o_fieldAddr (q := 1025) (off := 1025) (by kernel_rfl) rfl rfl ?_
    refine o_load (v := (.slice none 0 0)) Try.underlying70 rfl rfl (st40.cell 2 rfl 1025 (zs_way)) ?_
    refine o_len (z := 0) Try.underlying70 rfl rfl ?_
    refine o_move (v := (.int .i64 0)) rfl ?_
    refine wpList_nil ?_
    refine then_normal (hK44 _ _ ?_)
    clear hK44
    refine wp_block ?_
    refine Sx.loop (n := 27) (fun m E w1 => m = 0 ∧ Has E [(15, .int .i64 0), (14, .int .i64 0), (13, .slice none 0 0), (1, .pointer (some ⟨b2, 0, none⟩)), (2, .pointer (some ⟨b5, 0, none⟩)), (3, .pointer (some ⟨b31, 0, none⟩))] ∧ St w w1 none' [pt b31 (zs) 62, pt b5 (zs) 62, pt b2 (zs) 72]) ⟨rfl, ⟨rfl, rfl, rfl, rfl, rfl, rfl, trivial⟩, st40⟩ ?_
    rintro m E wl ⟨rfl, hE, sl⟩
    rw [hE.norm]
    refine wp_seq_k fun K45 hK45 => ?_
    refine wp_region_lit ?_
    refine o_lss (k := .i64) (a := 0) (b := 0) (r := false) rfl rfl (by decide) ?_
    refine wpList_nil ?_
    refine then_normal (hK45 _ _ ?_)
    clear hK45
    refine wp_seq_k fun K46 hK46 => ?_
    refine cond_f rfl ?_
    refine wp_exit ?_
    refine then_exit ?_
    refine then_exit ?_
    refine blk_exit ?_
    refine then_normal (hK43 _ _ ?_)
    clear hK43
    refine wp_seq_k fun K47 hK47 => ?_
    refine wp_region_lit ?_
    refine o_loads (cs := zs) Try.underlying62 rfl (Try.size62.trans (by rw [zs_len])) rfl (sl.range 0 rfl 0 (by rw [List.drop_zero, List.take_length])) ?_
    refine s_stores sl 1 (vs := zs) rfl (Try.size62.trans (by rw [zs_len])) rfl rfl zs_one (by omega) ?_
    intro w48 st49 hc50
    rw [setFrom_full rfl] at st49
    refine wpList_nil ?_
    refine then_normal (hK47 _ _ ?_)
    clear hK47
    refine wp_ret ?_
    exact ret_cell rfl rfl (st49.blk 1 rfl) Try.underlying62 rfl (Try.size62.trans (by rw [zs_len])) ⟨rfl, st49.ch⟩
end Go.Proofs.Ytocmlbnaikojkaa
