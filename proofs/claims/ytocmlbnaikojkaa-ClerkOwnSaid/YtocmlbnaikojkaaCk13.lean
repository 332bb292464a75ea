/- ClerkOwn: wishes turned into the program's: a list of one's own, with the same data. -/
import Derived.Test.YtocmlbnaikojkaaCk12
namespace Go.Proofs.Ytocmlbnaikojkaa
open Go Go.Sx
attribute [local irreducible] Go.wpList

theorem zero31 : zeroOf Try.prog 31 = some z43 := by kernel_rfl
theorem pl43 : placesOf Try.prog 43 = some ([(0, 39), (39, 1)], z43) := by kernel_rfl
theorem z43_len : z43.length = 40 := rfl
theorem fld64 : fieldInfo Try.prog 64 4 = some (42, 1, false) := by kernel_rfl

theorem one_cells {v : Value} (h : v.oneCell' = true) : v.cells.toList = [v] := by
  cases v <;> simp_all [Value.cells, Value.oneCell']

set_option maxHeartbeats 1000000 in
theorem wishes4 (w : World) (v : Value) (D : List Wish) (hD : D.length ≤ 1000) (h : WS w v D) : Ret Try.prog 4 [v] w fun v' w' => Ch w w' none' ∧ ∃ D', WO w' v' D' (fun k => w.heap.size ≤ k ∧ k < w'.heap.size) ∧ dat D' = dat D := by
  obtain ⟨A, c, rfl, hA⟩ := h.len
  obtain ⟨i43, hi43, hz43, hs43, hb43⟩ := info_parts Try.inf43
  refine enter (n := 26) Try.func4 rfl Try.ntmps4 (Nat.le_of_ble_eq_true rfl) ?_
  have st := St.start w none'
  refine wp_seq_k fun K1 hK1 => ?_
  refine wp_region_lit ?_
  refine o_assign (v := (.slice none 0 0)) rfl ?_
  refine wpList_nil ?_
  refine then_normal (hK1 _ _ ?_)
  clear hK1
  refine wp_seq_k fun K2 hK2 => ?_
  refine wp_region_lit ?_
  refine o_assign (v := (.slice none 0 0)) rfl ?_
  refine wpList_nil ?_
  refine then_normal (hK2 _ _ ?_)
  clear hK2
  refine wp_seq_k fun K3 hK3 => ?_
  refine wp_seq_k fun K4 hK4 => ?_
  refine wp_region_lit ?_
  refine o_move (v := (.slice A D.length c)) rfl ?_
  refine o_len (z := ((D.length : Nat) : Int)) Try.underlying22 rfl rfl ?_
  refine o_move (v := (.int .i64 0)) rfl ?_
  refine wpList_nil ?_
  refine then_normal (hK4 _ _ ?_)
  clear hK4
  refine wp_block ?_
  refine Sx.loop (n := 26) (fun m E w1 => ∃ k : Nat, ∃ D' v1, k ≤ D.length ∧ m = D.length - k ∧ Has E [(8, .int .i64 (k : Int)), (7, .int .i64 ((D.length : Nat) : Int)), (6, (.slice A D.length c)), (3, v1)] ∧ D'.length = k ∧ (∀ x ∈ D', OkW x) ∧ dat D' = (dat D).take k ∧ St w w1 none' [row v1 k (flat D') 43 40, trails D']) ⟨0, [], .slice none 0 0, Nat.zero_le _, rfl, ⟨rfl, rfl, rfl, rfl, trivial⟩, rfl, fun x hx => (List.not_mem_nil hx).elim, rfl, (st.lay (trails []) (fun x hx => (List.not_mem_nil hx).elim) (fun q ⟨x, hx, _⟩ => (List.not_mem_nil hx).elim)).lay (row (.slice none 0 0) 0 [] 43 40) ⟨rfl, .inl ⟨rfl, rfl⟩⟩ (fun q hq => by cases hq)⟩ ?_
  rintro m E w1 ⟨k, D', v1, hk, rfl, hE, hDl, hok, hdat, sl⟩
  rw [hE.norm]
  by_cases hlt : k < D.length
  · obtain ⟨bx, ox, cx, e1, _⟩ := h.form (by omega)
    injection e1 with e1 e2 e3; subst e1; clear e2; subst e3
    obtain ⟨z, hz⟩ : ∃ z, D[k]? = some z := ⟨_, List.getElem?_eq_getElem hlt⟩
    obtain ⟨okz, rdz⟩ := h.each z (List.mem_of_getElem? hz)
    have hzn := okz.n
    obtain ⟨Az, cz, htz, _⟩ := rdz.len
    refine wp_seq_k fun K5 hK5 => ?_
    refine wp_region_lit ?_
    refine o_lss (k := .i64) (a := (k : Int)) (b := ((D.length : Nat) : Int)) (r := true) rfl rfl (decide_eq_true (by omega)) ?_
    refine wpList_nil ?_
    refine then_normal (hK5 _ _ ?_)
    clear hK5
    refine wp_seq_k fun K6 hK6 => ?_
    refine cond_t rfl ?_
    refine wp_skip ?_
    refine then_normal (hK6 _ _ ?_)
    clear hK6
    refine wp_seq_k fun K7 hK7 => ?_
    refine wp_block ?_
    refine wp_seq_k fun K8 hK8 => ?_
    refine wp_region_lit ?_
    refine o_indexAddr (i := k) (q := ox + k * 40) Try.underlying22 Try.size31 rfl rfl rfl hlt rfl ?_
    refine o_loads (cs := z.op ++ [z.tr]) Try.underlying31 rfl (Try.size31.trans (by simp [okz.len])) rfl ((h.fresh sl.ch).range rfl hz) ?_
    refine s_alloc' sl zero31 ?_
    intro b9 w10 st11 hbb9 hcb9
    refine s_stores st11 0 (vs := (z.op ++ [z.tr])) rfl (Try.size31.trans (by simp [okz.len])) rfl rfl okz.ones (by rw [z43_len]; simp [okz.len]) ?_
    intro w12 st13 hc14
    rw [setFrom_full (vs := (z.op ++ [z.tr])) (cs := z43) (by rw [z43_len]; simp [okz.len])] at st13
    refine wpList_nil ?_
    refine then_normal (hK8 _ _ ?_)
    clear hK8
    refine d_begin (fun w' => Ch w12 w' (fun q => v1.ownBlock = some q)) (by kernel_rfl) ?_
    obtain ⟨w15, ew15⟩ : ∃ x, x = World.drew w12 := ⟨_, rfl⟩
    rw [← ew15]
    have hNw15 : Ch w12 w15 none' := by rw [ew15]; exact Ch.drew _ _
    have hSw15 := hNw15.mono (F := none') (G := (fun q => v1.ownBlock = some q)) (fun _ _ f => f.elim)
    have st16 := st13.keep hNw15
    clear ew15
    refine d_take (i := 0) (d := 12) (v := v1) rfl rfl rfl (by kernel_rfl) (by kernel_rfl) (by kernel_rfl) (np_blk (np_then (np_then (np_blk (np_then np_body))))) hSw15 (fun w' hS => r_move (v := v1) rfl) ?_
    refine d_take (i := 1) (d := 13) (v := (.pointer (some ⟨b9, 0, none⟩))) rfl rfl rfl (by kernel_rfl) (by kernel_rfl) (by kernel_rfl) (np_blk (np_then (np_then (np_blk (np_then np_body))))) hSw15 (fun w' hS => r_fieldAddr (q := 0) (off := 0) (by kernel_rfl) rfl rfl) ?_
    refine d_take (i := 2) (d := 14) (v := (.agg (z.op : List Value).toArray)) rfl rfl rfl (by kernel_rfl) (by kernel_rfl) (by kernel_rfl) (np_blk (np_then (np_then (np_blk (np_then np_body))))) hSw15 (fun w' hS => r_loads (cs := z.op) Try.underlying28 rfl (Try.size28.trans (by rw [okz.len])) rfl (range_of_list (st13.blkF 0 rfl hS (fun e => by have := sl.lt_of 0 rfl (k := b9) e; omega)) 0 (by rw [List.drop_zero, List.take_left]))) ?_
    refine d_take (i := 4) (d := 16) (v := (.pointer (some ⟨b9, 39, none⟩))) rfl rfl rfl (by kernel_rfl) (by kernel_rfl) (by kernel_rfl) (np_blk (np_then (np_then (np_blk (np_then np_body))))) hSw15 (fun w' hS => r_fieldAddr (q := 39) (off := 39) (by kernel_rfl) rfl rfl) ?_
    refine d_take (i := 5) (d := 17) (v := (.slice Az z.n cz)) rfl rfl rfl (by kernel_rfl) (by kernel_rfl) (by kernel_rfl) (np_blk (np_then (np_then (np_blk (np_then np_body))))) hSw15 (fun w' hS => r_load (v := (.slice Az z.n cz)) Try.underlying29 rfl rfl (cell_of_list (st13.blkF 0 rfl hS (fun e => by have := sl.lt_of 0 rfl (k := b9) e; omega)) ((tail_at okz.len).trans (by rw [htz])))) ?_
    refine d_take (i := 6) (d := 18) (v := (.agg ((mm z.tr) : List Value).toArray)) rfl rfl rfl (by kernel_rfl) (by kernel_rfl) (by kernel_rfl) (np_blk (np_then (np_then (np_blk (np_then np_body))))) hSw15 (fun w' hS => r_build pl74 (vals := [(4, [z.tr])]) (by rw [htz]; rfl) ⟨⟨42, rfl, by rw [mm_len]; exact Nat.le_of_ble_eq_true rfl⟩, trivial⟩ (fill74 _)) ?_
    refine d_loud (i := 3) (by kernel_rfl) rfl ?_
    refine op_call (args := [.agg z.op.toArray]) Try.ent11 rfl (op11 w15 z.op okz.op) ?_
    rintro v8 w17 ⟨rfl, hc19⟩
    have st18 := st16.keep hc19
    have hkw17 := Ch.fresh hSw15 hc19
    refine wpList_nil ?_
    refine then_normal ?_
    have hS20 : Ch w12 w17 (fun q => v1.ownBlock = some q) := hkw17
    refine ⟨hS20, ?_⟩
    refine d_loud (i := 7) (by kernel_rfl) rfl ?_
    refine op_call (args := [.agg (mm z.tr).toArray]) Try.ent12 rfl (to12 w17 z okz (rdz.fresh st18.ch)) ?_
    rintro v9 w21 ⟨tr2, rfl, hc23⟩
    have st22 := st18.newRow hc23
    have hkw21 := Ch.fresh hS20 hc23.ch
    have h2one := row_one (st22.get 0 rfl)
    have okz2 : OkW ⟨z.op, tr2, z.n, z.cs⟩ := ⟨okz.op, okz.n, okz.cs, h2one⟩
    refine wpList_nil ?_
    refine then_normal ?_
    have hS24 : Ch w12 w21 (fun q => v1.ownBlock = some q) := hkw21
    refine ⟨hS24, ?_⟩
    refine d_take (i := 8) (d := 20) (v := tr2) rfl rfl rfl (by kernel_rfl) (by kernel_rfl) (by kernel_rfl) (np_blk (np_then (np_then (np_blk (np_then np_body))))) hS24 (fun w' hS => r_field_cell (v := tr2) fld64 rfl (mm_tr _)) ?_
    refine d_take (i := 9) (d := 21) (v := (.agg ((z.op ++ [tr2]) : List Value).toArray)) rfl rfl rfl (by kernel_rfl) (by kernel_rfl) (by kernel_rfl) (np_blk (np_then (np_then (np_blk (np_then np_body))))) hS24 (fun w' hS => r_build_all [z.op, [tr2]] (lens := [39, 1]) pl43 (by simp [okz.len]) rfl (by rw [z43_len]; simp [okz.len]) (by show [(0, z.op), (1, tr2.cells.toList)] = _; rw [one_cells h2one]; rfl) (cs := z.op ++ [tr2]) (by simp)) ?_
    refine d_loud (i := 10) (by kernel_rfl) rfl ?_
    refine s_buildSlice1 st22 (cs := (z.op ++ [tr2])) Try.underlying32 hi43 hz43 (by rw [hs43]; simp [okz.len]) (by simp) (by simp [okz.len]) rfl ?_
    intro b25 w26 st27 hbb25 hcb25
    have hkb25 := Ch.fresh hS24 hcb25
    refine wpList_nil ?_
    refine then_normal ?_
    have hS28 : Ch w12 w26 (fun q => v1.ownBlock = some q) := hkb25
    refine ⟨hS28, ?_⟩
    refine d_loud (i := 11) (by kernel_rfl) rfl ?_
    refine o_append st27 3 Try.underlying32 hi43 hz43 hs43 hb43 (by rfl) (by decide) rfl rfl rfl (st27.rd 0 rfl (k := 1) (size := 40) (by simp [okz.len]) okz2.ones) (by unfold maxLen; omega) (by omega) ?_
    intro v2 w29 st30 _ _ hc31
    have hkw29 := hS28.trans hc31 (fun _ f => f) (fun _ _ f => f)
    refine wpList_nil ?_
    refine then_normal ?_
    have hS32 : Ch w12 w29 (fun q => v1.ownBlock = some q) := hkw29
    refine ⟨hS32, ?_⟩
    refine d_take (i := 12) (d := 3) (v := v2) rfl rfl rfl (by kernel_rfl) (by kernel_rfl) (by kernel_rfl) (np_blk (np_then (np_then (np_blk (np_then np_body))))) hS32 (fun w' hS => r_assign (v := v2) rfl) ?_
    refine d_done (by kernel_rfl) ?_
    refine blk_normal ?_
    refine then_normal (hK7 _ _ ?_)
    clear hK7
    refine wp_region_lit ?_
    refine o_add64 (a := (k : Int)) (b := 1) (c := ((k + 1 : Nat) : Int)) rfl rfl (by omega) (by omega) (by omega) ?_
    refine o_move (v := (.int .i64 ((k + 1 : Nat) : Int))) rfl ?_
    refine wpList_nil ?_
    refine then_normal ?_
    have st98 := st30.drop (M := [row tr2 z.n z.cs 81 3, row v2 (k + 1) (flat D' ++ (z.op ++ [tr2])) 43 40, trails D']) (List.Sublist.cons _ (List.Sublist.cons_cons _ (List.Sublist.cons _ (List.Sublist.cons_cons _ (List.Sublist.cons_cons _ List.Sublist.slnil)))))
    have st99 := St.join st98 1 (B := trails D') rfl (trails (D' ++ [⟨z.op, tr2, z.n, z.cs⟩])) (fun ha hb y hy => by
      rcases List.mem_append.1 hy with hy | hy
      · exact hb y hy
      · rw [List.mem_singleton.1 hy]; exact ha) (fun q ⟨y, hy, hq⟩ => by
      rcases List.mem_append.1 hy with hy | hy
      · exact .inr ⟨y, hy, hq⟩
      · rw [List.mem_singleton.1 hy] at hq; exact .inl hq)
    refine ⟨D.length - (k + 1), _, by omega, rfl, k + 1, D' ++ [⟨z.op, tr2, z.n, z.cs⟩], v2, by omega, rfl, ⟨rfl, rfl, rfl, rfl, trivial⟩, by rw [List.length_append, hDl]; rfl, ?_, ?_, by rw [flat_app, flat_one]; exact st99⟩
    · intro y hy
      rcases List.mem_append.1 hy with hy | hy
      · exact hok y hy
      · rw [List.mem_singleton.1 hy]; exact okz2
    · have hz2 : (dat D)[k]? = some (z.op, z.n, z.cs) := by unfold dat; rw [List.getElem?_map, hz]; rfl
      rw [List.take_add_one, hz2, ← hdat]
      simp [dat]
  · obtain rfl : k = D.length := by omega
    rw [show (dat D).take D.length = dat D from by rw [show D.length = (dat D).length from by unfold dat; rw [List.length_map], List.take_length]] at hdat
    rw [← hDl] at sl
    refine wp_seq_k fun K33 hK33 => ?_
    refine wp_region_lit ?_
    refine o_lss (k := .i64) (a := (D.length : Int)) (b := ((D.length : Nat) : Int)) (r := false) rfl rfl (decide_eq_false (by omega)) ?_
    refine wpList_nil ?_
    refine then_normal (hK33 _ _ ?_)
    clear hK33
    refine wp_seq_k fun K34 hK34 => ?_
    refine cond_f rfl ?_
    refine wp_exit ?_
    refine then_exit ?_
    refine then_exit ?_
    refine blk_exit ?_
    refine then_normal (hK3 _ _ ?_)
    clear hK3
    refine wp_seq_k fun K35 hK35 => ?_
    refine wp_region_lit ?_
    refine o_move (v := v1) rfl ?_
    refine o_assign (v := v1) rfl ?_
    refine wpList_nil ?_
    refine then_normal (hK35 _ _ ?_)
    clear hK35
    refine wp_ret ?_
    exact ret_tmp (v := v1) rfl rfl ⟨sl.ch, D', St.wo sl 0 1 rfl rfl hok, hdat⟩
end Go.Proofs.Ytocmlbnaikojkaa
