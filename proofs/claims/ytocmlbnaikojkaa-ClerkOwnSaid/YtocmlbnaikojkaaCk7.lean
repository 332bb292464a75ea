/- ClerkOwn: alike, of two lists with the same data. -/
import Derived.Test.YtocmlbnaikojkaaCk6
namespace Go.Proofs.Ytocmlbnaikojkaa
open Go Go.Sx
attribute [local irreducible] Go.wpList

theorem dat_at {D D' : List Wish} (h : dat D = dat D') {k : Nat} {x y : Wish} (hx : D[k]? = some x) (hy : D'[k]? = some y) : y.op = x.op ∧ y.n = x.n ∧ y.cs = x.cs := by
  have := congrArg (·[k]?) h
  unfold dat at this
  simp only [List.getElem?_map, hx, hy, Option.map_some, Option.some.injEq, Prod.mk.injEq] at this
  exact ⟨this.1.symm, this.2.1.symm, this.2.2.symm⟩
theorem dat_len {D D' : List Wish} (h : dat D = dat D') : D'.length = D.length := by
  have := congrArg List.length h
  unfold dat at this
  simpa using this.symm
theorem hop_fits {x : Wish} (h : OkW x) {j : Nat} (hj : j < x.n) : fitsAll ks81 ((x.cs.drop (j * 3)).take 3) = true := fitsAll_rep x.n h.cs j hj

set_option maxHeartbeats 1000000 in
theorem alike6 (w : World) (va vb : Value) (D D' : List Wish) (hD : D.length ≤ 1000) (ha : WS w va D) (hb : WS w vb D') (hd : dat D = dat D') :
    Ret Try.prog 6 [va, vb] w fun r w' => r = .bool true ∧ Ch w w' none' := by
  have hl := dat_len hd
  obtain ⟨A, ca, rfl, hA⟩ := ha.len
  obtain ⟨B, cb, rfl, hB⟩ := hb.len
  refine enter (n := 71) Try.func6 rfl Try.ntmps6 (Nat.le_of_ble_eq_true rfl) ?_
  have st := St.start w none'
  refine wp_seq_k fun K1 hK1 => ?_
  refine wp_region_lit ?_
  refine o_assign (v := (.bool false)) rfl ?_
  refine wpList_nil ?_
  refine then_normal (hK1 _ _ ?_)
  clear hK1
  refine wp_seq_k fun K2 hK2 => ?_
  refine wp_seq_k fun K3 hK3 => ?_
  refine wp_region_lit ?_
  refine o_move (v := (.slice A D.length ca)) rfl ?_
  refine o_len (z := ((D.length : Nat) : Int)) Try.underlying32 rfl rfl ?_
  refine o_move (v := (.slice B D'.length cb)) rfl ?_
  refine o_len (z := ((D'.length : Nat) : Int)) Try.underlying32 rfl rfl ?_
  refine o_neq (k := .i64) (a := ((D.length : Nat) : Int)) (b := ((D'.length : Nat) : Int)) (r := false) rfl rfl (by rw [hl]; simp) ?_
  refine wpList_nil ?_
  refine then_normal (hK3 _ _ ?_)
  clear hK3
  refine cond_f rfl ?_
  refine wp_skip ?_
  refine then_normal (hK2 _ _ ?_)
  clear hK2
  refine wp_seq_k fun K4 hK4 => ?_
  refine wp_seq_k fun K5 hK5 => ?_
  refine wp_region_lit ?_
  refine o_move (v := (.slice A D.length ca)) rfl ?_
  refine o_len (z := ((D.length : Nat) : Int)) Try.underlying32 rfl rfl ?_
  refine o_move (v := (.int .i64 0)) rfl ?_
  refine wpList_nil ?_
  refine then_normal (hK5 _ _ ?_)
  clear hK5
  refine wp_block ?_
  refine Sx.loop (n := 71) (fun m E w1 => ∃ k : Nat, k ≤ D.length ∧ m = D.length - k ∧ Has E [(14, .int .i64 (k : Int)), (13, .int .i64 ((D.length : Nat) : Int)), (0, .slice A D.length ca), (1, .slice B D'.length cb)] ∧ Ch w w1 none') ⟨0, Nat.zero_le _, rfl, ⟨rfl, rfl, rfl, rfl, trivial⟩, st.ch⟩ ?_
  rintro m E w1 ⟨k, hk, rfl, hE, hc⟩
  rw [hE.norm]
  have st1 : St w w1 none' [] := (St.start w none').keep hc
  by_cases hlt : k < D.length
  · obtain ⟨ba, oa, ca2, e1, _⟩ := ha.form (by omega)
    injection e1 with e1 e2 e3; subst e1; clear e2; subst e3
    obtain ⟨bb, ob, cb2, e1, _⟩ := hb.form (by omega)
    injection e1 with e1 e2 e3; subst e1; clear e2; subst e3
    obtain ⟨x, hx⟩ : ∃ x, D[k]? = some x := ⟨_, List.getElem?_eq_getElem hlt⟩
    obtain ⟨y, hy⟩ : ∃ y, D'[k]? = some y := ⟨_, List.getElem?_eq_getElem (by omega)⟩
    obtain ⟨okx, rdx⟩ := ha.each x (List.mem_of_getElem? hx)
    obtain ⟨oky, rdy⟩ := hb.each y (List.mem_of_getElem? hy)
    obtain ⟨eop, en, ecs⟩ := dat_at hd hx hy
    have hxn := okx.n
    obtain ⟨Ax, cx, htx, hAx⟩ := rdx.len
    obtain ⟨Ay, cy, hty, hAy⟩ := rdy.len
    have ha1 := ha.fresh hc
    have hb1 := hb.fresh hc
    refine wp_seq_k fun K6 hK6 => ?_
    refine wp_region_lit ?_
    refine o_lss (k := .i64) (a := (k : Int)) (b := ((D.length : Nat) : Int)) (r := true) rfl rfl (decide_eq_true (by omega)) ?_
    refine wpList_nil ?_
    refine then_normal (hK6 _ _ ?_)
    clear hK6
    refine wp_seq_k fun K7 hK7 => ?_
    refine cond_t rfl ?_
    refine wp_skip ?_
    refine then_normal (hK7 _ _ ?_)
    clear hK7
    refine wp_seq_k fun K8 hK8 => ?_
    refine wp_block ?_
    refine wp_seq_k fun K9 hK9 => ?_
    refine wp_region_lit ?_
    refine o_move (v := (.int .i64 (k : Int))) rfl ?_
    refine o_assign (v := (.int .i64 (k : Int))) rfl ?_
    refine wpList_nil ?_
    refine then_normal (hK9 _ _ ?_)
    clear hK9
    refine wp_seq_k fun K10 hK10 => ?_
    refine wp_seq_k fun K11 hK11 => ?_
    have haS : WS w1 _ D := ha1
    have hbS : WS w1 _ D' := hb1
    refine d_begin (fun w' => Ch w1 w' none') (by kernel_rfl) ?_
    obtain ⟨w12, ew12⟩ : ∃ x, x = World.drew w1 := ⟨_, rfl⟩
    rw [← ew12]
    have hSw12 : Ch w1 w12 none' := by rw [ew12]; exact Ch.drew _ _
    have st13 := st1.keep hSw12
    clear ew12
    refine d_take (i := 0) (d := 17) (v := (.slice (some ⟨ba, oa, none⟩) D.length ca)) rfl rfl rfl (by kernel_rfl) (by kernel_rfl) (by kernel_rfl) (np_then (np_then (np_blk (np_then (np_then (np_blk (np_then np_body))))))) hSw12 (fun w' hS => r_move (v := (.slice (some ⟨ba, oa, none⟩) D.length ca)) rfl) ?_
    refine d_take (i := 1) (d := 18) (v := (.int .i64 (k : Int))) rfl rfl rfl (by kernel_rfl) (by kernel_rfl) (by kernel_rfl) (np_then (np_then (np_blk (np_then (np_then (np_blk (np_then np_body))))))) hSw12 (fun w' hS => r_move (v := (.int .i64 (k : Int))) rfl) ?_
    refine d_take (i := 2) (d := 19) (v := (.pointer (some ⟨ba, oa + k * 40, none⟩))) rfl rfl rfl (by kernel_rfl) (by kernel_rfl) (by kernel_rfl) (np_then (np_then (np_blk (np_then (np_then (np_blk (np_then np_body))))))) hSw12 (fun w' hS => r_indexAddr (i := k) (q := oa + k * 40) Try.underlying32 Try.size43 rfl rfl rfl (hlt) rfl) ?_
    refine d_take (i := 3) (d := 20) (v := (.pointer (some ⟨ba, oa + k * 40, none⟩))) rfl rfl rfl (by kernel_rfl) (by kernel_rfl) (by kernel_rfl) (np_then (np_then (np_blk (np_then (np_then (np_blk (np_then np_body))))))) hSw12 (fun w' hS => r_fieldAddr (q := oa + k * 40) (off := 0) (by kernel_rfl) rfl rfl) ?_
    refine d_take (i := 4) (d := 21) (v := (.agg (x.op : List Value).toArray)) rfl rfl rfl (by kernel_rfl) (by kernel_rfl) (by kernel_rfl) (np_then (np_then (np_blk (np_then (np_then (np_blk (np_then np_body))))))) hSw12 (fun w' hS => r_loads (cs := x.op) Try.underlying40 rfl (Try.size40.trans (by rw [okx.len])) rfl (rangeAt_left ((haS.fresh hS).range rfl hx))) ?_
    refine d_take (i := 5) (d := 22) (v := (.slice (some ⟨bb, ob, none⟩) D'.length cb)) rfl rfl rfl (by kernel_rfl) (by kernel_rfl) (by kernel_rfl) (np_then (np_then (np_blk (np_then (np_then (np_blk (np_then np_body))))))) hSw12 (fun w' hS => r_move (v := (.slice (some ⟨bb, ob, none⟩) D'.length cb)) rfl) ?_
    refine d_take (i := 6) (d := 23) (v := (.int .i64 (k : Int))) rfl rfl rfl (by kernel_rfl) (by kernel_rfl) (by kernel_rfl) (np_then (np_then (np_blk (np_then (np_then (np_blk (np_then np_body))))))) hSw12 (fun w' hS => r_move (v := (.int .i64 (k : Int))) rfl) ?_
    refine d_take (i := 7) (d := 24) (v := (.pointer (some ⟨bb, ob + k * 40, none⟩))) rfl rfl rfl (by kernel_rfl) (by kernel_rfl) (by kernel_rfl) (np_then (np_then (np_blk (np_then (np_then (np_blk (np_then np_body))))))) hSw12 (fun w' hS => r_indexAddr (i := k) (q := ob + k * 40) Try.underlying32 Try.size43 rfl rfl rfl (by omega) rfl) ?_
    refine d_take (i := 8) (d := 25) (v := (.pointer (some ⟨bb, ob + k * 40, none⟩))) rfl rfl rfl (by kernel_rfl) (by kernel_rfl) (by kernel_rfl) (np_then (np_then (np_blk (np_then (np_then (np_blk (np_then np_body))))))) hSw12 (fun w' hS => r_fieldAddr (q := ob + k * 40) (off := 0) (by kernel_rfl) rfl rfl) ?_
    refine d_take (i := 9) (d := 26) (v := (.agg (y.op : List Value).toArray)) rfl rfl rfl (by kernel_rfl) (by kernel_rfl) (by kernel_rfl) (np_then (np_then (np_blk (np_then (np_then (np_blk (np_then np_body))))))) hSw12 (fun w' hS => r_loads (cs := y.op) Try.underlying40 rfl (Try.size40.trans (by rw [oky.len])) rfl (rangeAt_left ((hbS.fresh hS).range rfl hy))) ?_
    refine d_take (i := 10) (d := 27) (v := (.bool false)) rfl rfl rfl (by kernel_rfl) (by kernel_rfl) (by kernel_rfl) (np_then (np_then (np_blk (np_then (np_then (np_blk (np_then np_body))))))) hSw12 (fun w' hS => r_ne_agg (r := false) flat40 row40 (by decide) guard40 rfl rfl okx.op oky.op (by rw [eop, vsEq_refl okx.op]; rfl)) ?_
    refine d_take (i := 11) (d := 28) (v := (.bool false)) rfl rfl rfl (by kernel_rfl) (by kernel_rfl) (by kernel_rfl) (np_then (np_then (np_blk (np_then (np_then (np_blk (np_then np_body))))))) hSw12 (fun w' hS => r_move (v := (.bool false)) rfl) ?_
    refine d_take_yes (i := 12) (d := 29) (t := 28) (b := false) (v := (.slice (some ⟨ba, oa, none⟩) D.length ca)) rfl rfl rfl rfl rfl rfl rfl (by kernel_rfl) (by kernel_rfl) (by kernel_rfl) (np_then (np_then (np_blk (np_then (np_then (np_blk (np_then np_body))))))) hSw12 (fun w' hS => r_move (v := (.slice (some ⟨ba, oa, none⟩) D.length ca)) rfl) ?_
    refine d_take_yes (i := 13) (d := 30) (t := 28) (b := false) (v := (.int .i64 (k : Int))) rfl rfl rfl rfl rfl rfl rfl (by kernel_rfl) (by kernel_rfl) (by kernel_rfl) (np_then (np_then (np_blk (np_then (np_then (np_blk (np_then np_body))))))) hSw12 (fun w' hS => r_move (v := (.int .i64 (k : Int))) rfl) ?_
    refine d_take_yes (i := 14) (d := 31) (t := 28) (b := false) (v := (.pointer (some ⟨ba, oa + k * 40, none⟩))) rfl rfl rfl rfl rfl rfl rfl (by kernel_rfl) (by kernel_rfl) (by kernel_rfl) (np_then (np_then (np_blk (np_then (np_then (np_blk (np_then np_body))))))) hSw12 (fun w' hS => r_indexAddr (i := k) (q := oa + k * 40) Try.underlying32 Try.size43 rfl rfl rfl (hlt) rfl) ?_
    refine d_take_yes (i := 15) (d := 32) (t := 28) (b := false) (v := (.pointer (some ⟨ba, oa + k * 40 + 39, none⟩))) rfl rfl rfl rfl rfl rfl rfl (by kernel_rfl) (by kernel_rfl) (by kernel_rfl) (np_then (np_then (np_blk (np_then (np_then (np_blk (np_then np_body))))))) hSw12 (fun w' hS => r_fieldAddr (q := oa + k * 40 + 39) (off := 39) (by kernel_rfl) rfl rfl) ?_
    refine d_take_yes (i := 16) (d := 33) (t := 28) (b := false) (v := (.slice Ax x.n cx)) rfl rfl rfl rfl rfl rfl rfl (by kernel_rfl) (by kernel_rfl) (by kernel_rfl) (np_then (np_then (np_blk (np_then (np_then (np_blk (np_then np_body))))))) hSw12 (fun w' hS => r_load (v := (.slice Ax x.n cx)) Try.underlying41 rfl rfl ((rangeAt_cell ((haS.fresh hS).range rfl hx) (tail_at okx.len)).trans (by rw [htx]))) ?_
    refine d_take_yes (i := 17) (d := 34) (t := 28) (b := false) (v := (.int .i64 ((x.n : Nat) : Int))) rfl rfl rfl rfl rfl rfl rfl (by kernel_rfl) (by kernel_rfl) (by kernel_rfl) (np_then (np_then (np_blk (np_then (np_then (np_blk (np_then np_body))))))) hSw12 (fun w' hS => r_len (z := ((x.n : Nat) : Int)) Try.underlying41 rfl rfl) ?_
    refine d_take_yes (i := 18) (d := 35) (t := 28) (b := false) (v := (.slice (some ⟨bb, ob, none⟩) D'.length cb)) rfl rfl rfl rfl rfl rfl rfl (by kernel_rfl) (by kernel_rfl) (by kernel_rfl) (np_then (np_then (np_blk (np_then (np_then (np_blk (np_then np_body))))))) hSw12 (fun w' hS => r_move (v := (.slice (some ⟨bb, ob, none⟩) D'.length cb)) rfl) ?_
    refine d_take_yes (i := 19) (d := 36) (t := 28) (b := false) (v := (.int .i64 (k : Int))) rfl rfl rfl rfl rfl rfl rfl (by kernel_rfl) (by kernel_rfl) (by kernel_rfl) (np_then (np_then (np_blk (np_then (np_then (np_blk (np_then np_body))))))) hSw12 (fun w' hS => r_move (v := (.int .i64 (k : Int))) rfl) ?_
    refine d_take_yes (i := 20) (d := 37) (t := 28) (b := false) (v := (.pointer (some ⟨bb, ob + k * 40, none⟩))) rfl rfl rfl rfl rfl rfl rfl (by kernel_rfl) (by kernel_rfl) (by kernel_rfl) (np_then (np_then (np_blk (np_then (np_then (np_blk (np_then np_body))))))) hSw12 (fun w' hS => r_indexAddr (i := k) (q := ob + k * 40) Try.underlying32 Try.size43 rfl rfl rfl (by omega) rfl) ?_
    refine d_take_yes (i := 21) (d := 38) (t := 28) (b := false) (v := (.pointer (some ⟨bb, ob + k * 40 + 39, none⟩))) rfl rfl rfl rfl rfl rfl rfl (by kernel_rfl) (by kernel_rfl) (by kernel_rfl) (np_then (np_then (np_blk (np_then (np_then (np_blk (np_then np_body))))))) hSw12 (fun w' hS => r_fieldAddr (q := ob + k * 40 + 39) (off := 39) (by kernel_rfl) rfl rfl) ?_
    refine d_take_yes (i := 22) (d := 39) (t := 28) (b := false) (v := (.slice Ay y.n cy)) rfl rfl rfl rfl rfl rfl rfl (by kernel_rfl) (by kernel_rfl) (by kernel_rfl) (np_then (np_then (np_blk (np_then (np_then (np_blk (np_then np_body))))))) hSw12 (fun w' hS => r_load (v := (.slice Ay y.n cy)) Try.underlying41 rfl rfl ((rangeAt_cell ((hbS.fresh hS).range rfl hy) (tail_at oky.len)).trans (by rw [hty]))) ?_
    refine d_take_yes (i := 23) (d := 40) (t := 28) (b := false) (v := (.int .i64 ((y.n : Nat) : Int))) rfl rfl rfl rfl rfl rfl rfl (by kernel_rfl) (by kernel_rfl) (by kernel_rfl) (np_then (np_then (np_blk (np_then (np_then (np_blk (np_then np_body))))))) hSw12 (fun w' hS => r_len (z := ((y.n : Nat) : Int)) Try.underlying41 rfl rfl) ?_
    refine d_take_yes (i := 24) (d := 41) (t := 28) (b := false) (v := (.bool false)) rfl rfl rfl rfl rfl rfl rfl (by kernel_rfl) (by kernel_rfl) (by kernel_rfl) (np_then (np_then (np_blk (np_then (np_then (np_blk (np_then np_body))))))) hSw12 (fun w' hS => r_neq (k := .i64) (a := ((x.n : Nat) : Int)) (b := ((y.n : Nat) : Int)) (r := false) rfl rfl (by rw [en]; simp)) ?_
    refine d_take (i := 25) (d := 42) (v := (.bool false)) rfl rfl rfl (by kernel_rfl) (by kernel_rfl) (by kernel_rfl) (np_then (np_then (np_blk (np_then (np_then (np_blk (np_then np_body))))))) hSw12 (fun w' hS => r_pick (b := false) (v := (.bool false)) rfl rfl) ?_
    refine d_done (by kernel_rfl) ?_
    refine then_normal (hK11 _ _ ?_)
    clear hK11
    refine cond_f rfl ?_
    refine wp_skip ?_
    refine then_normal (hK10 _ _ ?_)
    clear hK10
    refine wp_seq_k fun K14 hK14 => ?_
    refine wp_region_lit ?_
    refine o_move (v := (.slice (some ⟨ba, oa, none⟩) D.length ca)) rfl ?_
    refine o_move (v := (.int .i64 (k : Int))) rfl ?_
    refine o_indexAddr (i := k) (q := oa + k * 40) Try.underlying32 Try.size43 rfl rfl rfl (hlt) rfl ?_
    refine o_fieldAddr (q := oa + k * 40 + 39) (off := 39) (by kernel_rfl) rfl rfl ?_
    refine o_load (v := (.slice Ax x.n cx)) Try.underlying41 rfl rfl ((rangeAt_cell ((ha.fresh st13.ch).range rfl hx) (tail_at okx.len)).trans (by rw [htx])) ?_
    refine o_len (z := ((x.n : Nat) : Int)) Try.underlying41 rfl rfl ?_
    refine o_move (v := (.int .i64 0)) rfl ?_
    refine wpList_nil ?_
    refine then_normal (hK14 _ _ ?_)
    clear hK14
    refine wp_block ?_
    refine Sx.loop (n := 71) (fun m E w2 => ∃ j : Nat, j ≤ x.n ∧ m = x.n - j ∧ Has E [(49, .int .i64 (j : Int)), (48, .int .i64 ((x.n : Nat) : Int)), (14, .int .i64 (k : Int)), (13, .int .i64 ((D.length : Nat) : Int)), (5, .int .i64 (k : Int)), (0, .slice (some ⟨ba, oa, none⟩) D.length ca), (1, .slice (some ⟨bb, ob, none⟩) D'.length cb)] ∧ Ch w w2 none') ⟨0, Nat.zero_le _, rfl, ⟨rfl, rfl, rfl, rfl, rfl, rfl, rfl, trivial⟩, st13.ch⟩ ?_
    rintro m E w2 ⟨j, hj, rfl, hE, hcj⟩
    rw [hE.norm]
    have st2 : St w w2 none' [] := (St.start w none').keep hcj
    have ha2 := ha.fresh hcj
    have hb2 := hb.fresh hcj
    by_cases hjl : j < x.n
    · obtain ⟨bx, ox, cx2, e1⟩ := rdx.form (by omega)
      obtain rfl : Ax = some ⟨bx, ox, none⟩ := by rw [htx] at e1; injection e1
      obtain ⟨bw, oy, cy2, e2⟩ := rdy.form (by omega)
      obtain rfl : Ay = some ⟨bw, oy, none⟩ := by rw [hty] at e2; injection e2
      refine wp_seq_k fun K15 hK15 => ?_
      refine wp_region_lit ?_
      refine o_lss (k := .i64) (a := (j : Int)) (b := ((x.n : Nat) : Int)) (r := true) rfl rfl (decide_eq_true (by omega)) ?_
      refine wpList_nil ?_
      refine then_normal (hK15 _ _ ?_)
      clear hK15
      refine wp_seq_k fun K16 hK16 => ?_
      refine cond_t rfl ?_
      refine wp_skip ?_
      refine then_normal (hK16 _ _ ?_)
      clear hK16
      refine wp_seq_k fun K17 hK17 => ?_
      refine wp_block ?_
      refine wp_seq_k fun K18 hK18 => ?_
      refine wp_region_lit ?_
      refine o_move (v := (.int .i64 (j : Int))) rfl ?_
      refine o_assign (v := (.int .i64 (j : Int))) rfl ?_
      refine wpList_nil ?_
      refine then_normal (hK18 _ _ ?_)
      clear hK18
      refine wp_seq_k fun K19 hK19 => ?_
      have haS : WS w2 _ D := ha2
      have hbS : WS w2 _ D' := hb2
      refine d_begin (fun w' => Ch w2 w' none') (by kernel_rfl) ?_
      obtain ⟨w20, ew20⟩ : ∃ x, x = World.drew w2 := ⟨_, rfl⟩
      rw [← ew20]
      have hSw20 : Ch w2 w20 none' := by rw [ew20]; exact Ch.drew _ _
      have st21 := st2.keep hSw20
      clear ew20
      refine d_take (i := 0) (d := 52) (v := (.slice (some ⟨ba, oa, none⟩) D.length ca)) rfl rfl rfl (by kernel_rfl) (by kernel_rfl) (by kernel_rfl) (np_then (np_blk (np_then (np_then (np_blk (np_blk (np_then (np_then (np_blk (np_then np_body)))))))))) hSw20 (fun w' hS => r_move (v := (.slice (some ⟨ba, oa, none⟩) D.length ca)) rfl) ?_
      refine d_take (i := 1) (d := 53) (v := (.int .i64 (k : Int))) rfl rfl rfl (by kernel_rfl) (by kernel_rfl) (by kernel_rfl) (np_then (np_blk (np_then (np_then (np_blk (np_blk (np_then (np_then (np_blk (np_then np_body)))))))))) hSw20 (fun w' hS => r_move (v := (.int .i64 (k : Int))) rfl) ?_
      refine d_take (i := 2) (d := 54) (v := (.pointer (some ⟨ba, oa + k * 40, none⟩))) rfl rfl rfl (by kernel_rfl) (by kernel_rfl) (by kernel_rfl) (np_then (np_blk (np_then (np_then (np_blk (np_blk (np_then (np_then (np_blk (np_then np_body)))))))))) hSw20 (fun w' hS => r_indexAddr (i := k) (q := oa + k * 40) Try.underlying32 Try.size43 rfl rfl rfl (hlt) rfl) ?_
      refine d_take (i := 3) (d := 55) (v := (.pointer (some ⟨ba, oa + k * 40 + 39, none⟩))) rfl rfl rfl (by kernel_rfl) (by kernel_rfl) (by kernel_rfl) (np_then (np_blk (np_then (np_then (np_blk (np_blk (np_then (np_then (np_blk (np_then np_body)))))))))) hSw20 (fun w' hS => r_fieldAddr (q := oa + k * 40 + 39) (off := 39) (by kernel_rfl) rfl rfl) ?_
      refine d_take (i := 4) (d := 56) (v := (.slice (some ⟨bx, ox, none⟩) x.n cx)) rfl rfl rfl (by kernel_rfl) (by kernel_rfl) (by kernel_rfl) (np_then (np_blk (np_then (np_then (np_blk (np_blk (np_then (np_then (np_blk (np_then np_body)))))))))) hSw20 (fun w' hS => r_load (v := (.slice (some ⟨bx, ox, none⟩) x.n cx)) Try.underlying41 rfl rfl ((rangeAt_cell ((haS.fresh hS).range rfl hx) (tail_at okx.len)).trans (by rw [htx]))) ?_
      refine d_take (i := 5) (d := 57) (v := (.int .i64 (j : Int))) rfl rfl rfl (by kernel_rfl) (by kernel_rfl) (by kernel_rfl) (np_then (np_blk (np_then (np_then (np_blk (np_blk (np_then (np_then (np_blk (np_then np_body)))))))))) hSw20 (fun w' hS => r_move (v := (.int .i64 (j : Int))) rfl) ?_
      refine d_take (i := 6) (d := 58) (v := (.pointer (some ⟨bx, ox + j * 3, none⟩))) rfl rfl rfl (by kernel_rfl) (by kernel_rfl) (by kernel_rfl) (np_then (np_blk (np_then (np_then (np_blk (np_blk (np_then (np_then (np_blk (np_then np_body)))))))))) hSw20 (fun w' hS => r_indexAddr (i := j) (q := ox + j * 3) Try.underlying41 Try.size81 rfl rfl rfl (hjl) rfl) ?_
      refine d_take (i := 7) (d := 59) (v := (.agg (((x.cs.drop (j * 3)).take 3) : List Value).toArray)) rfl rfl rfl (by kernel_rfl) (by kernel_rfl) (by kernel_rfl) (np_then (np_blk (np_then (np_then (np_blk (np_blk (np_then (np_then (np_blk (np_then np_body)))))))))) hSw20 (fun w' hS => r_loads (cs := (x.cs.drop (j * 3)).take 3) Try.underlying81 rfl (Try.size81.trans (by rw [fitsAll_length (hop_fits okx (by omega))]; rfl)) rfl ((rdx.fresh (hcj.fresh hS)).range htx (by omega))) ?_
      refine d_take (i := 8) (d := 60) (v := (.slice (some ⟨bb, ob, none⟩) D'.length cb)) rfl rfl rfl (by kernel_rfl) (by kernel_rfl) (by kernel_rfl) (np_then (np_blk (np_then (np_then (np_blk (np_blk (np_then (np_then (np_blk (np_then np_body)))))))))) hSw20 (fun w' hS => r_move (v := (.slice (some ⟨bb, ob, none⟩) D'.length cb)) rfl) ?_
      refine d_take (i := 9) (d := 61) (v := (.int .i64 (k : Int))) rfl rfl rfl (by kernel_rfl) (by kernel_rfl) (by kernel_rfl) (np_then (np_blk (np_then (np_then (np_blk (np_blk (np_then (np_then (np_blk (np_then np_body)))))))))) hSw20 (fun w' hS => r_move (v := (.int .i64 (k : Int))) rfl) ?_
      refine d_take (i := 10) (d := 62) (v := (.pointer (some ⟨bb, ob + k * 40, none⟩))) rfl rfl rfl (by kernel_rfl) (by kernel_rfl) (by kernel_rfl) (np_then (np_blk (np_then (np_then (np_blk (np_blk (np_then (np_then (np_blk (np_then np_body)))))))))) hSw20 (fun w' hS => r_indexAddr (i := k) (q := ob + k * 40) Try.underlying32 Try.size43 rfl rfl rfl (by omega) rfl) ?_
      refine d_take (i := 11) (d := 63) (v := (.pointer (some ⟨bb, ob + k * 40 + 39, none⟩))) rfl rfl rfl (by kernel_rfl) (by kernel_rfl) (by kernel_rfl) (np_then (np_blk (np_then (np_then (np_blk (np_blk (np_then (np_then (np_blk (np_then np_body)))))))))) hSw20 (fun w' hS => r_fieldAddr (q := ob + k * 40 + 39) (off := 39) (by kernel_rfl) rfl rfl) ?_
      refine d_take (i := 12) (d := 64) (v := (.slice (some ⟨bw, oy, none⟩) y.n cy)) rfl rfl rfl (by kernel_rfl) (by kernel_rfl) (by kernel_rfl) (np_then (np_blk (np_then (np_then (np_blk (np_blk (np_then (np_then (np_blk (np_then np_body)))))))))) hSw20 (fun w' hS => r_load (v := (.slice (some ⟨bw, oy, none⟩) y.n cy)) Try.underlying41 rfl rfl ((rangeAt_cell ((hbS.fresh hS).range rfl hy) (tail_at oky.len)).trans (by rw [hty]))) ?_
      refine d_take (i := 13) (d := 65) (v := (.int .i64 (j : Int))) rfl rfl rfl (by kernel_rfl) (by kernel_rfl) (by kernel_rfl) (np_then (np_blk (np_then (np_then (np_blk (np_blk (np_then (np_then (np_blk (np_then np_body)))))))))) hSw20 (fun w' hS => r_move (v := (.int .i64 (j : Int))) rfl) ?_
      refine d_take (i := 14) (d := 66) (v := (.pointer (some ⟨bw, oy + j * 3, none⟩))) rfl rfl rfl (by kernel_rfl) (by kernel_rfl) (by kernel_rfl) (np_then (np_blk (np_then (np_then (np_blk (np_blk (np_then (np_then (np_blk (np_then np_body)))))))))) hSw20 (fun w' hS => r_indexAddr (i := j) (q := oy + j * 3) Try.underlying41 Try.size81 rfl rfl rfl (by omega) rfl) ?_
      refine d_take (i := 15) (d := 67) (v := (.agg (((y.cs.drop (j * 3)).take 3) : List Value).toArray)) rfl rfl rfl (by kernel_rfl) (by kernel_rfl) (by kernel_rfl) (np_then (np_blk (np_then (np_then (np_blk (np_blk (np_then (np_then (np_blk (np_then np_body)))))))))) hSw20 (fun w' hS => r_loads (cs := (y.cs.drop (j * 3)).take 3) Try.underlying81 rfl (Try.size81.trans (by rw [fitsAll_length (hop_fits oky (by omega))]; rfl)) rfl ((rdy.fresh (hcj.fresh hS)).range hty (by omega))) ?_
      refine d_take (i := 16) (d := 68) (v := (.bool false)) rfl rfl rfl (by kernel_rfl) (by kernel_rfl) (by kernel_rfl) (np_then (np_blk (np_then (np_then (np_blk (np_blk (np_then (np_then (np_blk (np_then np_body)))))))))) hSw20 (fun w' hS => r_ne_agg (r := false) flat81 row81 (by decide) guard81 rfl rfl (hop_fits okx (by omega)) (hop_fits oky (by omega)) (by rw [ecs, vsEq_refl (hop_fits okx (by omega))]; rfl)) ?_
      refine d_done (by kernel_rfl) ?_
      refine then_normal (hK19 _ _ ?_)
      clear hK19
      refine cond_f rfl ?_
      refine wp_skip ?_
      refine blk_normal ?_
      refine then_normal (hK17 _ _ ?_)
      clear hK17
      refine wp_region_lit ?_
      refine o_add64 (a := (j : Int)) (b := 1) (c := ((j + 1 : Nat) : Int)) rfl rfl (by omega) (by omega) (by omega) ?_
      refine o_move (v := (.int .i64 ((j + 1 : Nat) : Int))) rfl ?_
      refine wpList_nil ?_
      refine then_normal ?_
      exact ⟨x.n - (j + 1), _, by omega, rfl, j + 1, by omega, rfl, ⟨rfl, rfl, rfl, rfl, rfl, rfl, rfl, trivial⟩, st21.ch⟩
    · refine wp_seq_k fun K22 hK22 => ?_
      refine wp_region_lit ?_
      refine o_lss (k := .i64) (a := (j : Int)) (b := ((x.n : Nat) : Int)) (r := false) rfl rfl (decide_eq_false (by omega)) ?_
      refine wpList_nil ?_
      refine then_normal (hK22 _ _ ?_)
      clear hK22
      refine wp_seq_k fun K23 hK23 => ?_
      refine cond_f rfl ?_
      refine wp_exit ?_
      refine then_exit ?_
      refine then_exit ?_
      refine blk_exit ?_
      refine blk_normal ?_
      refine then_normal (hK8 _ _ ?_)
      clear hK8
      refine wp_region_lit ?_
      refine o_add64 (a := (k : Int)) (b := 1) (c := ((k + 1 : Nat) : Int)) rfl rfl (by omega) (by omega) (by omega) ?_
      refine o_move (v := (.int .i64 ((k + 1 : Nat) : Int))) rfl ?_
      refine wpList_nil ?_
      refine then_normal ?_
      exact ⟨D.length - (k + 1), _, by omega, rfl, k + 1, by omega, rfl, ⟨rfl, rfl, rfl, rfl, trivial⟩, st2.ch⟩
  · refine wp_seq_k fun K24 hK24 => ?_
    refine wp_region_lit ?_
    refine o_lss (k := .i64) (a := (k : Int)) (b := ((D.length : Nat) : Int)) (r := false) rfl rfl (decide_eq_false (by omega)) ?_
    refine wpList_nil ?_
    refine then_normal (hK24 _ _ ?_)
    clear hK24
    refine wp_seq_k fun K25 hK25 => ?_
    refine cond_f rfl ?_
    refine wp_exit ?_
    refine then_exit ?_
    refine then_exit ?_
    refine blk_exit ?_
    refine then_normal (hK4 _ _ ?_)
    clear hK4
    refine wp_seq_k fun K26 hK26 => ?_
    refine wp_region_lit ?_
    refine o_assign (v := (.bool true)) rfl ?_
    refine wpList_nil ?_
    refine then_normal (hK26 _ _ ?_)
    clear hK26
    refine wp_ret ?_
    exact ret_tmp (v := (.bool true)) rfl rfl ⟨rfl, st1.ch⟩
end Go.Proofs.Ytocmlbnaikojkaa
