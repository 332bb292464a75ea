/- ClerkOwn: contract of over: it writes nowhere but on the list's own blocks. -/
import Derived.Test.YtocmlbnaikojkaaCk7
namespace Go.Proofs.Ytocmlbnaikojkaa
open Go Go.Sx
attribute [local irreducible] Go.wpList

/-- A list's blocks, whatever stands in them. -/
structure Ov (w : World) (v : Value) (D : List Wish) : Prop where
  main : 0 < D.length → ∃ g cap, ∃ cs : List Value, v = .slice (some ⟨g, 0, none⟩) D.length cap ∧ w.heap[g]? = some (.cells cs.toArray 43 (0, 0)) ∧ D.length ≤ cap ∧ cs.length = cap * 40 ∧ ∀ i x, D[i]? = some x → cs[i * 40 + 39]? = some x.tr
  each : ∀ x ∈ D, x.n ≤ 20 ∧ (∃ A c, x.tr = .slice A x.n c) ∧ (0 < x.n → ∃ b cap, ∃ cs : List Value, x.tr = .slice (some ⟨b, 0, none⟩) x.n cap ∧ w.heap[b]? = some (.cells cs.toArray 81 (0, 0)) ∧ x.n * 3 ≤ cs.length)

theorem flat_cell {D : List Wish} (h : ∀ x ∈ D, x.op.length = 39) {i : Nat} {x : Wish} (hx : D[i]? = some x) : (flat D)[i * 40 + 39]? = some x.tr := by
  have h1 := flat_at h hx
  have h2 : ((flat D).drop (i * 40)).take 40 = x.op ++ [x.tr] := h1
  have h3 : (((flat D).drop (i * 40)).take 40)[39]? = some x.tr := by rw [h2]; exact tail_at (h x (List.mem_of_getElem? hx))
  rw [List.getElem?_take] at h3
  simpa using h3

theorem WO.ov {w : World} {v : Value} {D : List Wish} {F : Nat → Prop} (h : WO w v D F) : Ov w v D := by
  refine ⟨fun h0 => ?_, fun x hx => ?_⟩
  · obtain ⟨hl, h2⟩ := h.row
    rcases h2 with ⟨rfl, h3⟩ | ⟨g, cap, cur, hv, hg, hnc, _, hcs, htake⟩
    · omega
    · refine ⟨g, cap, cur.toList, hv, hg, hnc, by simpa using hcs, fun i x hx => ?_⟩
      have hf := flat_cell (fun y hy => (h.each y hy).1.len) hx
      rw [← htake, List.getElem?_take] at hf
      split at hf
      · exact hf
      · cases hf
  · obtain ⟨ok, hl, h2⟩ := h.each x hx
    refine ⟨ok.n, ?_, fun h0 => ?_⟩
    · rcases h2 with ⟨h3, h4⟩ | ⟨g, cap, cur, hv, _⟩
      · exact ⟨_, _, by rw [h3, h4]⟩
      · exact ⟨_, _, hv⟩
    · rcases h2 with ⟨_, h3⟩ | ⟨g, cap, cur, hv, hg, hnc, _, hcs, htake⟩
      · omega
      · have hcl : cur.toList.length = cap * 3 := by simpa using hcs
        exact ⟨g, cap, cur.toList, hv, hg, by omega⟩

theorem lt_of_heap {w : World} {b : Nat} {o : Obj} (h : w.heap[b]? = some o) : b < w.heap.size := (Array.getElem?_eq_some_iff.1 h).1

theorem Ov.hop {w : World} {v : Value} {D : List Wish} (h : Ov w v D) {b : Nat} {cs : List Value} (hb : w.heap[b]? = some (.cells cs.toArray 81 (0, 0))) (o : Nat) (vs : List Value) : Ov (w.setCells b o vs) v D := by
  have ch := setCells_ch b vs o w
  refine ⟨fun h0 => ?_, fun x hx => ?_⟩
  · obtain ⟨g, cap, c0, hv, hg, r⟩ := h.main h0
    refine ⟨g, cap, c0, hv, ?_, r⟩
    rw [ch.same g (lt_of_heap hg) ?_]; exact hg
    rintro rfl
    rw [hb] at hg
    injection hg with hg; injection hg with _ hg; exact absurd hg (by decide)
  · obtain ⟨h1, h2, h3⟩ := h.each x hx
    refine ⟨h1, h2, fun h0 => ?_⟩
    obtain ⟨g, cap, c0, hv, hg, r⟩ := h3 h0
    by_cases he : g = b
    · subst he
      rw [hb] at hg
      injection hg with hg; injection hg with hg
      obtain rfl : cs = c0 := by simpa using hg
      exact ⟨g, cap, setFrom cs o vs, hv, hp_setCells vs o cs w hb, by rw [setFrom_length]; exact r⟩
    · exact ⟨g, cap, c0, hv, by rw [ch.same g (lt_of_heap hg) he]; exact hg, r⟩

theorem Ov.kind {w : World} {v : Value} {D : List Wish} (h : Ov w v D) {b : Nat} {cs : List Value} (hb : w.heap[b]? = some (.cells cs.toArray 43 (0, 0))) (k : Nat) (u : Value) : Ov (w.setCell ⟨b, k * 40, none⟩ u) v D := by
  have ch := Ch.setCell w b (k * 40) u
  refine ⟨fun h0 => ?_, fun x hx => ?_⟩
  · obtain ⟨g, cap, c0, hv, hg, hn, hl, r⟩ := h.main h0
    by_cases he : g = b
    · subst he
      rw [hb] at hg
      injection hg with hg; injection hg with hg
      obtain rfl : cs = c0 := by simpa using hg
      refine ⟨g, cap, cs.set (k * 40) u, hv, hp_setCell (k * 40) u hb, hn, by simpa using hl, fun i x hx => ?_⟩
      rw [List.getElem?_set_ne (by omega)]
      exact r i x hx
    · exact ⟨g, cap, c0, hv, by rw [ch.same g (lt_of_heap hg) he]; exact hg, hn, hl, r⟩
  · obtain ⟨h1, h2, h3⟩ := h.each x hx
    refine ⟨h1, h2, fun h0 => ?_⟩
    obtain ⟨g, cap, c0, hv, hg, r⟩ := h3 h0
    refine ⟨g, cap, c0, hv, ?_, r⟩
    rw [ch.same g (lt_of_heap hg) ?_]; exact hg
    rintro rfl
    rw [hb] at hg
    injection hg with hg; injection hg with _ hg; exact absurd hg (by decide)

theorem cell_of_list {w : World} {b : Nat} {cs : List Value} {e : TypeId} (hb : w.heap[b]? = some (.cells cs.toArray e (0, 0))) {o : Nat} {u : Value} (hu : cs[o]? = some u) : w.cell? ⟨b, o, none⟩ = some u := by
  rw [cell_of_row w b o cs.toArray e (0, 0) hb]; simpa using hu
theorem cell_some {w : World} {b : Nat} {cs : List Value} {e : TypeId} (hb : w.heap[b]? = some (.cells cs.toArray e (0, 0))) {o : Nat} (ho : o < cs.length) : (w.cell? ⟨b, o, none⟩).isSome = true := by
  rw [cell_of_list hb (List.getElem?_eq_getElem ho)]; rfl

theorem build81 : placesOf Try.prog 81 = some ([(0, 1), (1, 1), (2, 1)], [.int .u32 0, .int .u64 0, .int .u64 0]) := by kernel_rfl
theorem Try.size3 : (Try.prog.info? 3).map (·.size) = some 1 := by kernel_rfl

theorem over7 (w : World) (v : Value) (D : List Wish) (F : Nat → Prop) (hn : D.length ≤ 1000) (h : WO w v D F) : Ret Try.prog 7 [v] w fun r w' => r = .tuple #[] ∧ Ch w w' F := by
  have hfp := h.fp
  obtain ⟨A, c, rfl, _⟩ := h.ws.len
  replace h := h.ov
  refine enter (n := 33) Try.func7 rfl Try.ntmps7 (Nat.le_of_ble_eq_true rfl) ?_
  refine wp_seq_k fun K1 hK1 => ?_
  refine wp_region_lit ?_
  refine o_move (v := (.slice A D.length c)) rfl ?_
  refine o_len (z := ((D.length : Nat) : Int)) Try.underlying32 rfl rfl ?_
  refine o_move (v := (.int .i64 0)) rfl ?_
  refine wpList_nil ?_
  refine then_normal (hK1 _ _ ?_)
  clear hK1
  refine wp_block ?_
  refine Sx.loop (n := 33) (fun m E w1 => ∃ k : Nat, k ≤ D.length ∧ m = D.length - k ∧ Has E [(6, .int .i64 (k : Int)), (5, .int .i64 ((D.length : Nat) : Int)), (0, .slice A D.length c)] ∧ Ov w1 (.slice A D.length c) D ∧ Ch w w1 F) ⟨0, Nat.zero_le _, rfl, ⟨rfl, rfl, rfl, trivial⟩, h, Ch.refl _ _⟩ ?_
  rintro m E w1 ⟨k, hk, rfl, hE, hov, hc⟩
  rw [hE.norm]
  by_cases hlt : k < D.length
  · obtain ⟨g, cap, cs, hv, hg, hcap, hcl, htr⟩ := hov.main (by omega)
    injection hv with e1 e2 e3; subst e1; clear e2; subst e3
    obtain ⟨x, hx⟩ : ∃ x, D[k]? = some x := ⟨_, List.getElem?_eq_getElem hlt⟩
    have hxm := List.mem_of_getElem? hx
    obtain ⟨hxn, ⟨Ax, cx, htx⟩, hxr⟩ := hov.each x hxm
    have hgF : F g := hfp.1 g rfl
    refine wp_seq_k fun K2 hK2 => ?_
    refine wp_region_lit ?_
    refine o_lss (k := .i64) (a := (k : Int)) (b := ((D.length : Nat) : Int)) (r := true) rfl rfl (decide_eq_true (by omega)) ?_
    refine wpList_nil ?_
    refine then_normal (hK2 _ _ ?_)
    clear hK2
    refine wp_seq_k fun K3 hK3 => ?_
    refine cond_t rfl ?_
    refine wp_skip ?_
    refine then_normal (hK3 _ _ ?_)
    clear hK3
    refine wp_seq_k fun K4 hK4 => ?_
    refine wp_block ?_
    refine wp_seq_k fun K5 hK5 => ?_
    refine wp_region_lit ?_
    refine o_move (v := (.int .i64 (k : Int))) rfl ?_
    refine o_assign (v := (.int .i64 (k : Int))) rfl ?_
    refine wpList_nil ?_
    refine then_normal (hK5 _ _ ?_)
    clear hK5
    refine wp_seq_k fun K6 hK6 => ?_
    refine wp_seq_k fun K7 hK7 => ?_
    refine wp_region_lit ?_
    refine o_move (v := (.slice (some ⟨g, 0, none⟩) D.length c)) rfl ?_
    refine o_move (v := (.int .i64 (k : Int))) rfl ?_
    refine o_indexAddr (i := k) (q := 0 + k * 40) Try.underlying32 Try.size43 rfl rfl rfl hlt rfl ?_
    refine o_fieldAddr (q := k * 40 + 39) (off := 39) (by kernel_rfl) rfl (by omega) ?_
    refine o_load (v := (.slice Ax x.n cx)) Try.underlying41 rfl rfl ((cell_of_list hg (htr k x hx)).trans (by rw [htx])) ?_
    refine o_len (z := ((x.n : Nat) : Int)) Try.underlying41 rfl rfl ?_
    refine o_move (v := (.int .i64 0)) rfl ?_
    refine wpList_nil ?_
    refine then_normal (hK7 _ _ ?_)
    clear hK7
    refine wp_block ?_
    refine Sx.loop (n := 33) (fun m E w2 => ∃ j : Nat, j ≤ x.n ∧ m = x.n - j ∧ Has E [(15, .int .i64 (j : Int)), (14, .int .i64 ((x.n : Nat) : Int)), (2, .int .i64 (k : Int)), (6, .int .i64 (k : Int)), (5, .int .i64 ((D.length : Nat) : Int)), (0, (.slice (some ⟨g, 0, none⟩) D.length c))] ∧ Ov w2 (.slice (some ⟨g, 0, none⟩) D.length c) D ∧ Ch w w2 F) ⟨0, Nat.zero_le _, rfl, ⟨rfl, rfl, rfl, rfl, rfl, rfl, trivial⟩, hov, hc⟩ ?_
    rintro m E w2 ⟨j, hj, rfl, hE, hov2, hc2⟩
    rw [hE.norm]
    obtain ⟨g2, cap2, cs2, hv2, hg2, _, hcl2, htr2⟩ := hov2.main (by omega)
    injection hv2 with e1 _ e3; injection e1 with e1; injection e1 with e1 _ _; subst e1; subst e3
    by_cases hjl : j < x.n
    · obtain ⟨b, cb, csb, hvb, hb, hbl⟩ := (hov2.each x hxm).2.2 (by omega)
      rw [htx] at hvb; injection hvb with e1 _ e3; subst e1; subst e3
      have hbF : F b := hfp.2 x hxm b (by rw [htx]; rfl)
      refine wp_seq_k fun K8 hK8 => ?_
      refine wp_region_lit ?_
      refine o_lss (k := .i64) (a := (j : Int)) (b := ((x.n : Nat) : Int)) (r := true) rfl rfl (decide_eq_true (by omega)) ?_
      refine wpList_nil ?_
      refine then_normal (hK8 _ _ ?_)
      clear hK8
      refine wp_seq_k fun K9 hK9 => ?_
      refine cond_t rfl ?_
      refine wp_skip ?_
      refine then_normal (hK9 _ _ ?_)
      clear hK9
      refine wp_seq_k fun K10 hK10 => ?_
      refine wp_block ?_
      refine wp_seq_k fun K11 hK11 => ?_
      refine wp_region_lit ?_
      refine o_move (v := (.int .i64 (j : Int))) rfl ?_
      refine o_assign (v := (.int .i64 (j : Int))) rfl ?_
      refine wpList_nil ?_
      refine then_normal (hK11 _ _ ?_)
      clear hK11
      refine wp_region_lit ?_
      refine o_move (v := (.slice (some ⟨g, 0, none⟩) D.length c)) rfl ?_
      refine o_move (v := (.int .i64 (k : Int))) rfl ?_
      refine o_indexAddr (i := k) (q := 0 + k * 40) Try.underlying32 Try.size43 rfl rfl rfl hlt rfl ?_
      refine o_fieldAddr (q := k * 40 + 39) (off := 39) (by kernel_rfl) rfl (by omega) ?_
      refine o_load (v := (.slice (some ⟨b, 0, none⟩) x.n cx)) Try.underlying41 rfl rfl ((cell_of_list hg2 (htr2 k x hx)).trans (by rw [htx])) ?_
      refine o_move (v := (.int .i64 (j : Int))) rfl ?_
      refine o_build build81 (vals := [(2, [.int .u64 7777777])]) rfl ⟨⟨2, rfl, by decide⟩, trivial⟩ rfl ?_
      refine o_indexAddr (i := j) (q := 0 + j * 3) Try.underlying41 Try.size81 rfl rfl rfl hjl rfl ?_
      refine o_stores (cs := [.int .u32 0, .int .u64 0, .int .u64 7777777]) Try.size81 rfl rfl (by decide) (fun q hq => ⟨cell_some hb (by simp only [List.length_cons, List.length_nil] at hq; omega), frozen_of_row _ b (0 + j * 3 + q) _ 81 hb⟩) ?_
      have hov3 := hov2.hop hb (0 + j * 3) [.int .u32 0, .int .u64 0, .int .u64 7777777]
      have hc3 : Ch w (w2.setCells b (0 + j * 3) [.int .u32 0, .int .u64 0, .int .u64 7777777]) F := hc2.trans (setCells_ch b _ _ w2) (fun _ f => f) (fun q _ hq => by have e : q = b := hq; subst e; exact hbF)
      refine wpList_nil ?_
      refine blk_normal ?_
      refine then_normal (hK10 _ _ ?_)
      clear hK10
      refine wp_region_lit ?_
      refine o_add64 (a := (j : Int)) (b := 1) (c := ((j + 1 : Nat) : Int)) rfl rfl (by omega) (by omega) (by omega) ?_
      refine o_move (v := (.int .i64 ((j + 1 : Nat) : Int))) rfl ?_
      refine wpList_nil ?_
      refine then_normal ?_
      exact ⟨x.n - (j + 1), _, by omega, rfl, j + 1, by omega, rfl, ⟨rfl, rfl, rfl, rfl, rfl, rfl, trivial⟩, hov3, hc3⟩
    · have hov3 := hov2
      have hc3 := hc2
      refine wp_seq_k fun K12 hK12 => ?_
      refine wp_region_lit ?_
      refine o_lss (k := .i64) (a := (j : Int)) (b := ((x.n : Nat) : Int)) (r := false) rfl rfl (decide_eq_false (by omega)) ?_
      refine wpList_nil ?_
      refine then_normal (hK12 _ _ ?_)
      clear hK12
      refine wp_seq_k fun K13 hK13 => ?_
      refine cond_f rfl ?_
      refine wp_exit ?_
      refine then_exit ?_
      refine then_exit ?_
      refine blk_exit ?_
      refine then_normal (hK6 _ _ ?_)
      clear hK6
      refine wp_region_lit ?_
      refine o_move (v := (.slice (some ⟨g, 0, none⟩) D.length c)) rfl ?_
      refine o_move (v := (.int .i64 (k : Int))) rfl ?_
      refine o_indexAddr (i := k) (q := 0 + k * 40) Try.underlying32 Try.size43 rfl rfl rfl hlt rfl ?_
      refine o_fieldAddr (q := k * 40) (off := 0) (by kernel_rfl) rfl (by omega) ?_
      refine o_fieldAddr (q := k * 40) (off := 0) (by kernel_rfl) rfl (by omega) ?_
      refine o_store (v := .int .i64 (-7)) Try.size3 rfl rfl rfl (cell_some hg2 (by omega)) (frozen_of_row _ g (k * 40) _ 43 hg2) ?_
      have hov4 := hov3.kind hg2 k (.int .i64 (-7))
      have hc4 : Ch w (w2.setCell ⟨g, k * 40, none⟩ (.int .i64 (-7))) F := hc3.trans (Ch.setCell _ g _ _) (fun _ f => f) (fun q _ hq => by have e : q = g := hq; subst e; exact hgF)
      refine wpList_nil ?_
      refine blk_normal ?_
      refine then_normal (hK4 _ _ ?_)
      clear hK4
      refine wp_region_lit ?_
      refine o_add64 (a := (k : Int)) (b := 1) (c := ((k + 1 : Nat) : Int)) rfl rfl (by omega) (by omega) (by omega) ?_
      refine o_move (v := (.int .i64 ((k + 1 : Nat) : Int))) rfl ?_
      refine wpList_nil ?_
      refine then_normal ?_
      exact ⟨D.length - (k + 1), _, by omega, rfl, k + 1, by omega, rfl, ⟨rfl, rfl, rfl, trivial⟩, hov4, hc4⟩
  · refine wp_seq_k fun K14 hK14 => ?_
    refine wp_region_lit ?_
    refine o_lss (k := .i64) (a := (k : Int)) (b := ((D.length : Nat) : Int)) (r := false) rfl rfl (decide_eq_false (by omega)) ?_
    refine wpList_nil ?_
    refine then_normal (hK14 _ _ ?_)
    clear hK14
    refine wp_seq_k fun K15 hK15 => ?_
    refine cond_f rfl ?_
    refine wp_exit ?_
    refine then_exit ?_
    refine then_exit ?_
    refine blk_exit ?_
    exact end_none rfl ⟨rfl, hc⟩
end Go.Proofs.Ytocmlbnaikojkaa
