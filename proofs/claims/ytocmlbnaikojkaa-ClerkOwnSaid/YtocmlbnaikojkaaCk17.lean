/- ClerkOwn: the law's walk: whatever it is given, it returns true, and changes nothing that it was given. -/
import Derived.Test.YtocmlbnaikojkaaCk16
namespace Go.Proofs.Ytocmlbnaikojkaa
open Go Go.Sx
attribute [local irreducible] Go.wpList

structure OkR (x : Wish) : Prop where
  op : fitsAll ks40 x.op = true
  cs : fitsAll (List.replicate x.n ks81).flatten x.cs = true
  one : x.tr.oneCell' = true
/-- A list of wishes of any length, with trails of any length, that is read. -/
structure WR (w : World) (v : Value) (D : List Wish) : Prop where
  rd : Rd w v D.length (flat D) 40
  each : ∀ x ∈ D, OkR x ∧ Rd w x.tr x.n x.cs 3

theorem WR.ws {w : World} {v : Value} {D : List Wish} (h : WR w v D) (hn : ∀ x ∈ D, x.n ≤ 20) : WS w v D :=
  ⟨h.rd, fun x hx => ⟨⟨(h.each x hx).1.op, hn x hx, (h.each x hx).1.cs, (h.each x hx).1.one⟩, (h.each x hx).2⟩⟩
theorem WR.fresh {w w' : World} {v : Value} {D : List Wish} (h : WR w v D) (ch : Ch w w' none') : WR w' v D :=
  ⟨h.rd.fresh ch, fun x hx => ⟨(h.each x hx).1, (h.each x hx).2.fresh ch⟩⟩
theorem WR.range {w : World} {v : Value} {D : List Wish} (h : WR w v D) {b o c m : Nat} (hv : v = .slice (some ⟨b, o, none⟩) m c) {i : Nat} {x : Wish} (hx : D[i]? = some x) : w.rangeAt b (o + i * 40) (x.op ++ [x.tr]) := by
  have hi : i < D.length := (List.getElem?_eq_some_iff.1 hx).1
  have e : m = D.length := by
    obtain ⟨_, _, A, c', e, _⟩ := h.rd
    rw [hv] at e; injection e
  subst e
  have := h.rd.range hv hi
  rwa [flat_at (fun y hy => fitsAll_length (h.each y hy).1.op) hx] at this

theorem WS.take {w : World} {A : Option Addr} {D : List Wish} {c : Nat} (h : WS w (.slice A D.length c) D) {n : Nat} (hn : n ≤ D.length) : WS w (.slice A n c) (D.take n) := by
  have hlen : (D.take n).length = n := by rw [List.length_take]; omega
  refine ⟨?_, fun x hx => h.each x (List.mem_of_mem_take hx)⟩
  obtain ⟨h1, h2, A', c', e, h3, h4, h5⟩ := h.rd
  injection e with e1 e2 e3
  subst e1; subst e3
  have hfl : flat D = flat (D.take n) ++ flat (D.drop n) := by rw [← flat_app, List.take_append_drop]
  rw [hlen]
  refine ⟨?_, fun u hu => h2 u (by rw [hfl]; exact List.mem_append_left _ hu), A, c, rfl, by omega, fun ha => by have := h4 ha; omega, fun a ha h0 => ?_⟩
  · rw [flat_length fun y hy => (h.each y (List.mem_of_mem_take hy)).1.len, hlen]
  · obtain ⟨g1, g2⟩ := h5 a ha (by omega)
    refine ⟨g1, ?_⟩
    rw [hfl] at g2
    exact rangeAt_left g2

theorem dat_take (D : List Wish) (n : Nat) : dat (D.take n) = (dat D).take n := by unfold dat; rw [List.map_take]
theorem addD_take (L : List (List Value × Nat × List Value)) (y : List Value × Nat × List Value) : (addD L y).take L.length = L := by
  unfold addD; split
  · rw [List.take_length]
  · rw [List.take_left]
theorem addD_len (L : List (List Value × Nat × List Value)) (y : List Value × Nat × List Value) : L.length ≤ (addD L y).length ∧ (addD L y).length ≤ L.length + 1 := by
  unfold addD; split <;> simp
theorem WO.fresh {w w' : World} {v : Value} {D : List Wish} {a b : World} (h : WO w v D (fun k => a.heap.size ≤ k ∧ k < b.heap.size)) (ch : Ch w w' none') (hl : b.heap.size ≤ w.heap.size) : WO w' v D (fun k => a.heap.size ≤ k ∧ k < b.heap.size) :=
  h.keep ch (fun k hk => by have := hk.2; omega) (fun _ _ f => f)

theorem Try.ent6 : Enters Try.prog 6 := enters Try.func6 (by kernel_rfl) (by kernel_rfl)
theorem Try.ent7 : Enters Try.prog 7 := enters Try.func7 (by kernel_rfl) (by kernel_rfl)
theorem cap_of {w : World} {A : Option Addr} {D : List Wish} {m c : Nat} (h : WS w (.slice A m c) D) : m ≤ c := by
  obtain ⟨_, _, A', c', e, h3, _⟩ := h.rd
  injection e with e1 e2 e3
  omega
theorem ws_one {w : World} {x : Wish} {v : Value} (hx : OkW x) (hr : Rd w x.tr x.n x.cs 3) (h : Rd w v 1 (x.op ++ [x.tr]) 40) : WS w v [x] :=
  ⟨by rw [flat_one]; exact h, fun y hy => by rw [List.mem_singleton.1 hy]; exact ⟨hx, hr⟩⟩
theorem Try.inf31 : (Try.prog.info? 31).map (fun i => (i.zero, i.size, i.bytes)) = some (some (.agg z43.toArray), 40, 112) := by kernel_rfl

set_option maxHeartbeats 4000000 in
theorem main3 (w : World) (v : Value) (D : List Wish) (x : Wish) (h : WR w v D) (hx : OkR x) (hr : Rd w x.tr x.n x.cs 3) :
    Ret Try.prog 3 [v, .agg (x.op ++ [x.tr]).toArray] w fun r w' => r = .bool true ∧ Ch w w' none' := by
  obtain ⟨A, c, rfl, hA⟩ := h.rd.len
  obtain ⟨Ax, cx, htx, hAx⟩ := hr.len
  have hlen : x.op.length = 39 := fitsAll_length hx.op
  obtain ⟨i31, hi31, hz31, hs31, hb31⟩ := info_parts Try.inf31
  refine enter (n := 118) Try.func3 rfl Try.ntmps3 (Nat.le_of_ble_eq_true rfl) ?_
  have st := St.start w none'
  refine wp_seq_k fun K1 hK1 => ?_
  refine wp_region_lit ?_
  refine s_box st (cs := (x.op ++ [x.tr])) rfl ?_
  intro b2 w3 st4 hbb2 hcb2
  refine o_assign (v := (.bool false)) rfl ?_
  refine wpList_nil ?_
  refine then_normal (hK1 _ _ ?_)
  clear hK1
  refine wp_seq_k fun K5 hK5 => ?_
  refine wp_seq_k fun K6 hK6 => ?_
  refine wp_region_lit ?_
  refine o_move (v := (.slice A D.length c)) rfl ?_
  refine o_len (z := ((D.length : Nat) : Int)) Try.underlying22 rfl rfl ?_
  by_cases hbigD : 20 < D.length
  · refine o_gtr (k := .i64) (a := ((D.length : Nat) : Int)) (b := 20) (r := true) rfl rfl (decide_eq_true (by omega)) ?_
    refine o_move (v := (.bool true)) rfl ?_
    refine g_no (t := 18) (b := true) rfl rfl rfl rfl ?_
    refine g_no (t := 18) (b := true) rfl rfl rfl rfl ?_
    refine g_no (t := 18) (b := true) rfl rfl rfl rfl ?_
    refine g_no (t := 18) (b := true) rfl rfl rfl rfl ?_
    refine o_pick (b := true) (v := (.bool true)) rfl rfl ?_
    refine wpList_nil ?_
    refine then_normal (hK6 _ _ ?_)
    clear hK6
    refine cond_t rfl ?_
    refine wp_seq_k fun K7 hK7 => ?_
    refine wp_region_lit ?_
    refine o_assign (v := (.bool true)) rfl ?_
    refine wpList_nil ?_
    refine then_normal (hK7 _ _ ?_)
    clear hK7
    refine wp_ret ?_
    refine then_ret ?_
    exact ret_tmp (v := .bool true) rfl rfl ⟨rfl, st4.ch⟩
  · refine o_gtr (k := .i64) (a := ((D.length : Nat) : Int)) (b := 20) (r := false) rfl rfl (decide_eq_false (by omega)) ?_
    refine o_move (v := (.bool false)) rfl ?_
    refine g_yes (t := 18) (b := false) rfl rfl rfl rfl ?_
    refine o_fieldAddr (q := 39) (off := 39) (by kernel_rfl) rfl rfl ?_
    refine g_yes (t := 18) (b := false) rfl rfl rfl rfl ?_
    refine o_load (v := (.slice Ax x.n cx)) Try.underlying29 rfl rfl (st4.cell 0 rfl 39 ((tail_at hlen).trans (by rw [htx]))) ?_
    refine g_yes (t := 18) (b := false) rfl rfl rfl rfl ?_
    refine o_len (z := ((x.n : Nat) : Int)) Try.underlying29 rfl rfl ?_
    refine g_yes (t := 18) (b := false) rfl rfl rfl rfl ?_
    by_cases hbigx : 20 < x.n
    · refine o_gtr (k := .i64) (a := ((x.n : Nat) : Int)) (b := 20) (r := true) rfl rfl (decide_eq_true (by omega)) ?_
      refine o_pick (b := false) (v := (.bool true)) rfl rfl ?_
      refine wpList_nil ?_
      refine then_normal (hK6 _ _ ?_)
      clear hK6
      refine cond_t rfl ?_
      refine wp_seq_k fun K8 hK8 => ?_
      refine wp_region_lit ?_
      refine o_assign (v := (.bool true)) rfl ?_
      refine wpList_nil ?_
      refine then_normal (hK8 _ _ ?_)
      clear hK8
      refine wp_ret ?_
      refine then_ret ?_
      exact ret_tmp (v := .bool true) rfl rfl ⟨rfl, st4.ch⟩
    · refine o_gtr (k := .i64) (a := ((x.n : Nat) : Int)) (b := 20) (r := false) rfl rfl (decide_eq_false (by omega)) ?_
      refine o_pick (b := false) (v := (.bool false)) rfl rfl ?_
      refine wpList_nil ?_
      refine then_normal (hK6 _ _ ?_)
      clear hK6
      refine cond_f rfl ?_
      refine wp_skip ?_
      refine then_normal (hK5 _ _ ?_)
      clear hK5
      refine wp_seq_k fun K9 hK9 => ?_
      refine wp_seq_k fun K10 hK10 => ?_
      refine wp_region_lit ?_
      refine o_move (v := (.slice A D.length c)) rfl ?_
      refine o_len (z := ((D.length : Nat) : Int)) Try.underlying22 rfl rfl ?_
      refine o_move (v := (.int .i64 0)) rfl ?_
      refine wpList_nil ?_
      refine then_normal (hK10 _ _ ?_)
      clear hK10
      refine wp_block ?_
      refine Sx.loop (n := 118) (fun m E w1 => ∃ k : Nat, k ≤ D.length ∧ m = D.length - k ∧ Has E [(26, .int .i64 (k : Int)), (25, .int .i64 ((D.length : Nat) : Int)), (24, (.slice A D.length c)), (3, .pointer (some ⟨b2, 0, none⟩)), (0, (.slice A D.length c))] ∧ (∀ y ∈ D.take k, y.n ≤ 20) ∧ St w w1 none' [pt b2 (x.op ++ [x.tr]) 31]) ⟨0, Nat.zero_le _, rfl, ⟨rfl, rfl, rfl, rfl, rfl, trivial⟩, fun y hy => (List.not_mem_nil hy).elim, st4⟩ ?_
      rintro m E w1 ⟨k, hk, rfl, hE, hall, sl⟩
      rw [hE.norm]
      by_cases hlt : k < D.length
      · obtain ⟨bx, ox, cx2, e1⟩ := h.rd.form (by omega)
        injection e1 with e1 e2 e3; subst e1; clear e2; subst e3
        obtain ⟨z, hz⟩ : ∃ z, D[k]? = some z := ⟨_, List.getElem?_eq_getElem hlt⟩
        obtain ⟨okz, rdz⟩ := h.each z (List.mem_of_getElem? hz)
        obtain ⟨Az, cz, htz, _⟩ := rdz.len
        have hzl : z.op.length = 39 := fitsAll_length okz.op
        have hzone : ∀ u ∈ z.op ++ [z.tr], u.oneCell' = true := fun u hu => by
          rcases List.mem_append.1 hu with hu | hu
          · exact fitsAll_one okz.op u hu
          · rw [List.mem_singleton.1 hu]; exact okz.one
        refine wp_seq_k fun K11 hK11 => ?_
        refine wp_region_lit ?_
        refine o_lss (k := .i64) (a := (k : Int)) (b := ((D.length : Nat) : Int)) (r := true) rfl rfl (decide_eq_true (by omega)) ?_
        refine wpList_nil ?_
        refine then_normal (hK11 _ _ ?_)
        clear hK11
        refine wp_seq_k fun K12 hK12 => ?_
        refine cond_t rfl ?_
        refine wp_skip ?_
        refine then_normal (hK12 _ _ ?_)
        clear hK12
        refine wp_seq_k fun K13 hK13 => ?_
        refine wp_block ?_
        refine wp_seq_k fun K14 hK14 => ?_
        refine wp_region_lit ?_
        refine o_indexAddr (i := k) (q := ox + k * 40) Try.underlying22 Try.size31 rfl rfl rfl hlt rfl ?_
        refine o_loads (cs := z.op ++ [z.tr]) Try.underlying31 rfl (Try.size31.trans (by simp [hzl])) rfl ((h.fresh sl.ch).range rfl hz) ?_
        refine s_alloc' sl zero31 ?_
        intro b15 w16 st17 hbb15 hcb15
        refine s_stores st17 0 (vs := (z.op ++ [z.tr])) rfl (Try.size31.trans (by simp [hzl])) rfl rfl hzone (by rw [z43_len]; simp [hzl]) ?_
        intro w18 st19 hc20
        rw [setFrom_full (vs := (z.op ++ [z.tr])) (cs := z43) (by rw [z43_len]; simp [hzl])] at st19
        refine wpList_nil ?_
        refine then_normal (hK14 _ _ ?_)
        clear hK14
        refine wp_seq_k fun K21 hK21 => ?_
        refine wp_region_lit ?_
        refine o_fieldAddr (q := 39) (off := 39) (by kernel_rfl) rfl rfl ?_
        refine o_load (v := (.slice Az z.n cz)) Try.underlying29 rfl rfl (st19.cell 0 rfl 39 ((tail_at hzl).trans (by rw [htz]))) ?_
        refine o_len (z := ((z.n : Nat) : Int)) Try.underlying29 rfl rfl ?_
        by_cases hbig : 20 < z.n
        · refine o_gtr (k := .i64) (a := ((z.n : Nat) : Int)) (b := 20) (r := true) rfl rfl (decide_eq_true (by omega)) ?_
          refine wpList_nil ?_
          refine then_normal (hK21 _ _ ?_)
          clear hK21
          refine cond_t rfl ?_
          refine wp_seq_k fun K22 hK22 => ?_
          refine wp_region_lit ?_
          refine o_assign (v := (.bool true)) rfl ?_
          refine wpList_nil ?_
          refine then_normal (hK22 _ _ ?_)
          clear hK22
          refine wp_ret ?_
          refine blk_ret ?_
          refine then_ret ?_
          refine then_ret ?_
          refine blk_ret ?_
          refine then_ret ?_
          exact ret_tmp (v := .bool true) rfl rfl ⟨rfl, st19.ch⟩
        · refine o_gtr (k := .i64) (a := ((z.n : Nat) : Int)) (b := 20) (r := false) rfl rfl (decide_eq_false (by omega)) ?_
          refine wpList_nil ?_
          refine then_normal (hK21 _ _ ?_)
          clear hK21
          refine cond_f rfl ?_
          refine wp_skip ?_
          refine blk_normal ?_
          refine then_normal (hK13 _ _ ?_)
          clear hK13
          refine wp_region_lit ?_
          refine o_add64 (a := (k : Int)) (b := 1) (c := ((k + 1 : Nat) : Int)) rfl rfl (by omega) (by omega) (by omega) ?_
          refine o_move (v := (.int .i64 ((k + 1 : Nat) : Int))) rfl ?_
          refine wpList_nil ?_
          refine then_normal ?_
          exact ⟨D.length - (k + 1), _, by omega, rfl, k + 1, by omega, rfl, ⟨rfl, rfl, rfl, rfl, rfl, trivial⟩, fun y hy => by
            rw [List.take_add_one, hz] at hy
            rcases List.mem_append.1 hy with hy | hy
            · exact hall y hy
            · rw [List.mem_singleton.1 hy]; omega, st19.drop (List.Sublist.cons _ (List.Sublist.refl _))⟩
      · obtain rfl : k = D.length := by omega
        rw [List.take_length] at hall
        have hws := h.ws hall
        have okx : OkW x := ⟨hx.op, by omega, hx.cs, hx.one⟩
        have chl := sl.ch
        have zl := Ch.size chl
        have hb3 : w.heap.size ≤ b2 ∧ b2 < w1.heap.size := ⟨(sl.new_of 0 rfl (k := b2) rfl).resolve_right (fun f => f), sl.lt_of 0 rfl (k := b2) rfl⟩
        refine wp_seq_k fun K23 hK23 => ?_
        refine wp_region_lit ?_
        refine o_lss (k := .i64) (a := (D.length : Int)) (b := ((D.length : Nat) : Int)) (r := false) rfl rfl (decide_eq_false (by omega)) ?_
        refine wpList_nil ?_
        refine then_normal (hK23 _ _ ?_)
        clear hK23
        refine wp_seq_k fun K24 hK24 => ?_
        refine cond_f rfl ?_
        refine wp_exit ?_
        refine then_exit ?_
        refine then_exit ?_
        refine blk_exit ?_
        refine then_normal (hK9 _ _ ?_)
        clear hK9
        refine wp_seq_k fun K25 hK25 => ?_
        refine wp_region_lit ?_
        refine o_move (v := (.slice A D.length c)) rfl ?_
        refine op_call (args := [(.slice A D.length c)]) Try.ent4 rfl (wishes4 w1 _ D (by omega) (hws.fresh chl)) ?_
        rintro v28 w26 ⟨hc27, D28, wo28, hd28⟩
        have zw26 := Ch.size hc27
        have ch29 : Ch w w26 none' := Ch.fresh chl hc27
        have cn30 := hc27
        obtain ⟨A28, c28, rfl, _⟩ := wo28.ws.len
        refine o_move (v := (.slice A D.length c)) rfl ?_
        refine op_call (args := [(.slice A D.length c)]) Try.ent4 rfl (wishes4 w26 _ D (by omega) (hws.fresh ch29)) ?_
        rintro v33 w31 ⟨hc32, D33, wo33, hd33⟩
        have zw31 := Ch.size hc32
        have wo34 := wo28.fresh hc32 (by omega)
        have ch35 : Ch w w31 none' := Ch.fresh ch29 hc32
        have cn36 := Ch.fresh cn30 hc32
        obtain ⟨A33, c33, rfl, _⟩ := wo33.ws.len
        refine o_assign (v := (.slice A28 D28.length c28)) rfl ?_
        refine o_assign (v := (.slice A33 D33.length c33)) rfl ?_
        refine wpList_nil ?_
        refine then_normal (hK25 _ _ ?_)
        clear hK25
        refine wp_seq_k fun K37 hK37 => ?_
        have hb3w : w1.heap[b2]? = some (.cells (x.op ++ [x.tr]).toArray 31 (0, 0)) := sl.blk 0 rfl
        have chb38 : Ch w1 w31 none' := cn36
        refine d_begin (fun w' => Ch w31 w' none') (by kernel_rfl) ?_
        obtain ⟨w39, ew39⟩ : ∃ x, x = World.drew w31 := ⟨_, rfl⟩
        rw [← ew39]
        have hN40 : Ch w31 w39 none' := by rw [ew39]; exact Ch.drew _ _
        clear ew39
        have zw39 := Ch.size hN40
        have wo41 := wo34.fresh hN40 (by omega)
        have wo42 := wo33.fresh hN40 (by omega)
        have ch43 : Ch w w39 none' := Ch.fresh ch35 hN40
        have cn44 := Ch.fresh cn36 hN40
        refine d_take (i := 0) (d := 39) (v := (.agg ((x.op ++ [x.tr]) : List Value).toArray)) rfl rfl rfl (by kernel_rfl) (by kernel_rfl) (by kernel_rfl) (np_then np_body) hN40 (fun w' hS => r_loads (cs := (x.op ++ [x.tr])) Try.underlying31 rfl (Try.size31.trans (by simp [hlen])) rfl (range_of_list (((chb38.fresh hS).same b2 (by omega) (fun f => f)).trans hb3w) 0 (by rw [List.drop_zero, List.take_length]))) ?_
        refine d_take (i := 3) (d := 42) (v := (.agg ((x.op ++ [x.tr]) : List Value).toArray)) rfl rfl rfl (by kernel_rfl) (by kernel_rfl) (by kernel_rfl) (np_then np_body) hN40 (fun w' hS => r_loads (cs := (x.op ++ [x.tr])) Try.underlying31 rfl (Try.size31.trans (by simp [hlen])) rfl (range_of_list (((chb38.fresh hS).same b2 (by omega) (fun f => f)).trans hb3w) 0 (by rw [List.drop_zero, List.take_length]))) ?_
        refine d_two (i := 1) (j := 4) (by kernel_rfl) rfl rfl ?_ ?_
        · refine s_buildSlice1 (St.start w39 none') (cs := (x.op ++ [x.tr])) Try.underlying22 hi31 hz31 (by rw [hs31]; simp [hlen]) (by simp) (by simp [hlen]) rfl ?_
          intro b45 w46 st47 hnb45 hcb45
          have kSb45 := Ch.fresh hN40 hcb45
          have hbb45 := st47.blk 0 rfl
          have zw46 := Ch.size hcb45
          have wo48 := wo41.fresh hcb45 (by omega)
          have wo49 := wo42.fresh hcb45 (by omega)
          have ch50 : Ch w w46 none' := Ch.fresh ch43 hcb45
          have cn51 := Ch.fresh cn44 hcb45
          refine wpList_nil ?_
          refine then_normal ?_
          have hS52 : Ch w31 w46 none' := kSb45
          refine ⟨hS52, ?_⟩
          refine d_two (i := 2) (j := 4) (by kernel_rfl) rfl rfl ?_ ?_
          · refine op_call (args := [(.slice (some ⟨b45, 0, none⟩) 1 1)]) Try.ent4 rfl (wishes4 w46 _ [x] (by simp) (ws_one okx (hr.fresh ch50) (Rd.keep (st47.rd 0 rfl (k := 1) (size := 40) (by simp [hlen]) okx.ones) ((Ch.refl w46 none')) (fun _ _ f => f)))) ?_
            rintro v55 w53 ⟨hc54, D55, wo55, hd55⟩
            have kS55 := Ch.fresh hS52 hc54
            have sc56 := Ch.fresh (Ch.refl w46 none') hc54
            have zw53 := Ch.size hc54
            have wo57 := wo48.fresh hc54 (by omega)
            have wo58 := wo49.fresh hc54 (by omega)
            have ch59 : Ch w w53 none' := Ch.fresh ch50 hc54
            have cn60 := Ch.fresh cn51 hc54
            obtain ⟨A55, c55, rfl, _⟩ := wo55.ws.len
            refine wpList_nil ?_
            refine then_normal ?_
            have hS61 : Ch w31 w53 none' := kS55
            refine ⟨hS61, ?_⟩
            refine d_loud (i := 4) (by kernel_rfl) rfl ?_
            refine s_buildSlice1 (St.start w53 none') (cs := (x.op ++ [x.tr])) Try.underlying22 hi31 hz31 (by rw [hs31]; simp [hlen]) (by simp) (by simp [hlen]) rfl ?_
            intro b62 w63 st64 hnb62 hcb62
            have kSb62 := Ch.fresh hS61 hcb62
            have hbb62 := st64.blk 0 rfl
            have zw63 := Ch.size hcb62
            have wo65 := wo57.fresh hcb62 (by omega)
            have wo66 := wo58.fresh hcb62 (by omega)
            have wo67 := wo55.fresh hcb62 (by omega)
            have ch68 : Ch w w63 none' := Ch.fresh ch59 hcb62
            have cn69 := Ch.fresh cn60 hcb62
            have sc70 := Ch.fresh sc56 hcb62
            refine wpList_nil ?_
            refine then_normal ?_
            have hS71 : Ch w31 w63 none' := kSb62
            refine ⟨hS71, ?_⟩
            refine d_loud (i := 5) (by kernel_rfl) rfl ?_
            refine op_call (args := [(.slice (some ⟨b62, 0, none⟩) 1 1)]) Try.ent4 rfl (wishes4 w63 _ [x] (by simp) (ws_one okx (hr.fresh ch68) (Rd.keep (st64.rd 0 rfl (k := 1) (size := 40) (by simp [hlen]) okx.ones) ((Ch.refl w63 none')) (fun _ _ f => f)))) ?_
            rintro v74 w72 ⟨hc73, D74, wo74, hd74⟩
            have kS74 := Ch.fresh hS71 hc73
            have sc75 := Ch.fresh sc70 hc73
            have sc76 := Ch.fresh (Ch.refl w63 none') hc73
            have zw72 := Ch.size hc73
            have wo77 := wo65.fresh hc73 (by omega)
            have wo78 := wo66.fresh hc73 (by omega)
            have wo79 := wo67.fresh hc73 (by omega)
            have ch80 : Ch w w72 none' := Ch.fresh ch68 hc73
            have cn81 := Ch.fresh cn69 hc73
            obtain ⟨A74, c74, rfl, _⟩ := wo74.ws.len
            refine wpList_nil ?_
            refine then_normal ?_
            have hS82 : Ch w31 w72 none' := kS74
            refine ⟨hS82, ?_⟩
            refine d_take (i := 6) (d := 9) (v := (.slice A55 D55.length c55)) rfl rfl rfl (by kernel_rfl) (by kernel_rfl) (by kernel_rfl) (np_then np_body) hS82 (fun w' hS => r_assign (v := (.slice A55 D55.length c55)) rfl) ?_
            refine d_take (i := 7) (d := 10) (v := (.slice A74 D74.length c74)) rfl rfl rfl (by kernel_rfl) (by kernel_rfl) (by kernel_rfl) (np_then np_body) hS82 (fun w' hS => r_assign (v := (.slice A74 D74.length c74)) rfl) ?_
            refine d_done (by kernel_rfl) ?_
            refine then_normal (hK37 _ _ ?_)
            clear hK37
            refine wp_seq_k fun K83 hK83 => ?_
            obtain ⟨z, hDz⟩ : ∃ z, D55 = [z] := List.length_eq_one_iff.1 (by rw [← dat_length, hd55]; rfl)
            subst hDz
            obtain ⟨bx, ox, cx9, e9, _⟩ := wo79.ws.form (Nat.le_refl 1)
            injection e9 with e9 _ e8; subst e9; subst e8
            have okz := (wo79.ws.each z (List.mem_singleton.2 rfl)).1
            have hdl28 : D28.length = D.length := by rw [← dat_length, hd28, dat_length]
            have hdl33 : D33.length = D.length := by rw [← dat_length, hd33, dat_length]
            have hdl74 : D74.length = 1 := by rw [← dat_length, hd74]; rfl
            refine d_begin (fun w' => Ch w72 w' none') (by kernel_rfl) ?_
            obtain ⟨w84, ew84⟩ : ∃ x, x = World.drew w72 := ⟨_, rfl⟩
            rw [← ew84]
            have hN85 : Ch w72 w84 none' := by rw [ew84]; exact Ch.drew _ _
            clear ew84
            have zw84 := Ch.size hN85
            have wo86 := wo77.fresh hN85 (by omega)
            have wo87 := wo78.fresh hN85 (by omega)
            have wo88 := wo79.fresh hN85 (by omega)
            have wo89 := wo74.fresh hN85 (by omega)
            have ch90 : Ch w w84 none' := Ch.fresh ch80 hN85
            refine d_take (i := 0) (d := 45) (v := (.slice A28 D28.length c28)) rfl rfl rfl (by kernel_rfl) (by kernel_rfl) (by kernel_rfl) (np_then np_body) hN85 (fun w' hS => r_move (v := (.slice A28 D28.length c28)) rfl) ?_
            refine d_take (i := 1) (d := 46) (v := (.slice (some ⟨bx, ox, none⟩) 1 c55)) rfl rfl rfl (by kernel_rfl) (by kernel_rfl) (by kernel_rfl) (np_then np_body) hN85 (fun w' hS => r_move (v := (.slice (some ⟨bx, ox, none⟩) 1 c55)) rfl) ?_
            refine d_take (i := 2) (d := 47) (v := (.pointer (some ⟨bx, ox + 0 * 40, none⟩))) rfl rfl rfl (by kernel_rfl) (by kernel_rfl) (by kernel_rfl) (np_then np_body) hN85 (fun w' hS => r_indexAddr (i := 0) (q := ox + 0 * 40) Try.underlying32 Try.size43 rfl rfl rfl (Nat.le_refl 1) rfl) ?_
            refine d_take (i := 3) (d := 48) (v := (.agg ((z.op ++ [z.tr]) : List Value).toArray)) rfl rfl rfl (by kernel_rfl) (by kernel_rfl) (by kernel_rfl) (np_then np_body) hN85 (fun w' hS => r_loads (cs := z.op ++ [z.tr]) Try.underlying43 rfl (Try.size43.trans (by simp [okz.len])) rfl (WS.range (wo79.ws.fresh hS) rfl (i := 0) (x := z) rfl)) ?_
            refine d_take (i := 5) (d := 50) (v := (.slice A28 D28.length c28)) rfl rfl rfl (by kernel_rfl) (by kernel_rfl) (by kernel_rfl) (np_then np_body) hN85 (fun w' hS => r_move (v := (.slice A28 D28.length c28)) rfl) ?_
            refine d_take (i := 6) (d := 51) (v := (.slice (some ⟨bx, ox, none⟩) 1 c55)) rfl rfl rfl (by kernel_rfl) (by kernel_rfl) (by kernel_rfl) (np_then np_body) hN85 (fun w' hS => r_move (v := (.slice (some ⟨bx, ox, none⟩) 1 c55)) rfl) ?_
            refine d_take (i := 7) (d := 52) (v := (.pointer (some ⟨bx, ox + 0 * 40, none⟩))) rfl rfl rfl (by kernel_rfl) (by kernel_rfl) (by kernel_rfl) (np_then np_body) hN85 (fun w' hS => r_indexAddr (i := 0) (q := ox + 0 * 40) Try.underlying32 Try.size43 rfl rfl rfl (Nat.le_refl 1) rfl) ?_
            refine d_take (i := 8) (d := 53) (v := (.agg ((z.op ++ [z.tr]) : List Value).toArray)) rfl rfl rfl (by kernel_rfl) (by kernel_rfl) (by kernel_rfl) (np_then np_body) hN85 (fun w' hS => r_loads (cs := z.op ++ [z.tr]) Try.underlying43 rfl (Try.size43.trans (by simp [okz.len])) rfl (WS.range (wo79.ws.fresh hS) rfl (i := 0) (x := z) rfl)) ?_
            refine d_loud (i := 4) (by kernel_rfl) rfl ?_
            refine op_call (args := [(.slice A28 D28.length c28), (.agg ((z.op ++ [z.tr]) : List Value).toArray)]) Try.ent5 rfl (add5 w84 _ _ z (by omega) (wo86.ws) okz (wo88.ws.each z (List.mem_singleton.2 rfl)).2) ?_
            rintro v93 w91 ⟨hc92, D93, wo93, hd93⟩
            have kS93 := Ch.fresh hN85 hc92
            have zw91 := Ch.size hc92
            have wo94 := wo86.fresh hc92 (by omega)
            have wo95 := wo87.fresh hc92 (by omega)
            have wo96 := wo88.fresh hc92 (by omega)
            have wo97 := wo89.fresh hc92 (by omega)
            have ch98 : Ch w w91 none' := Ch.fresh ch90 hc92
            obtain ⟨A93, c93, rfl, _⟩ := wo93.ws.len
            have hl93 := addD_len (dat D28) (z.op, z.n, z.cs)
            rw [← hd93, dat_length, dat_length] at hl93
            refine wpList_nil ?_
            refine then_normal ?_
            have hS99 : Ch w72 w91 none' := kS93
            refine ⟨hS99, ?_⟩
            refine d_loud (i := 9) (by kernel_rfl) rfl ?_
            refine op_call (args := [(.slice A28 D28.length c28), (.agg ((z.op ++ [z.tr]) : List Value).toArray)]) Try.ent5 rfl (add5 w91 _ _ z (by omega) (wo94.ws) okz (wo96.ws.each z (List.mem_singleton.2 rfl)).2) ?_
            rintro v102 w100 ⟨hc101, D102, wo102, hd102⟩
            have kS102 := Ch.fresh hS99 hc101
            have zw100 := Ch.size hc101
            have wo103 := wo94.fresh hc101 (by omega)
            have wo104 := wo95.fresh hc101 (by omega)
            have wo105 := wo96.fresh hc101 (by omega)
            have wo106 := wo97.fresh hc101 (by omega)
            have wo107 := wo93.fresh hc101 (by omega)
            have ch108 : Ch w w100 none' := Ch.fresh ch98 hc101
            obtain ⟨A102, c102, rfl, _⟩ := wo102.ws.len
            have hl102 := addD_len (dat D28) (z.op, z.n, z.cs)
            rw [← hd102, dat_length, dat_length] at hl102
            refine wpList_nil ?_
            refine then_normal ?_
            have hS109 : Ch w72 w100 none' := kS102
            refine ⟨hS109, ?_⟩
            refine d_take (i := 10) (d := 11) (v := (.slice A93 D93.length c93)) rfl rfl rfl (by kernel_rfl) (by kernel_rfl) (by kernel_rfl) (np_then np_body) hS109 (fun w' hS => r_assign (v := (.slice A93 D93.length c93)) rfl) ?_
            refine d_take (i := 11) (d := 12) (v := (.slice A102 D102.length c102)) rfl rfl rfl (by kernel_rfl) (by kernel_rfl) (by kernel_rfl) (np_then np_body) hS109 (fun w' hS => r_assign (v := (.slice A102 D102.length c102)) rfl) ?_
            refine d_done (by kernel_rfl) ?_
            refine then_normal (hK83 _ _ ?_)
            clear hK83
            refine wp_seq_k fun K110 hK110 => ?_
            refine wp_seq_k fun K111 hK111 => ?_
            refine wp_region_lit ?_
            refine o_move (v := (.slice A93 D93.length c93)) rfl ?_
            refine o_move (v := (.slice A102 D102.length c102)) rfl ?_
            refine op_call (args := [(.slice A93 D93.length c93), (.slice A102 D102.length c102)]) Try.ent6 rfl (alike6 w100 _ _ _ _ (by omega) wo107.ws wo102.ws (by simp only [hd93, hd102])) ?_
            rintro _ w112 ⟨rfl, hc113⟩
            have zw112 := Ch.size hc113
            have wo114 := wo103.fresh hc113 (by omega)
            have wo115 := wo104.fresh hc113 (by omega)
            have wo116 := wo105.fresh hc113 (by omega)
            have wo117 := wo106.fresh hc113 (by omega)
            have wo118 := wo107.fresh hc113 (by omega)
            have wo119 := wo102.fresh hc113 (by omega)
            have ch120 : Ch w w112 none' := Ch.fresh ch108 hc113
            refine o_not (b := true) rfl ?_
            refine o_move (v := (.bool false)) rfl ?_
            refine g_yes (t := 59) (b := false) rfl rfl rfl rfl ?_
            refine o_move (v := (.slice A93 D93.length c93)) rfl ?_
            refine g_yes (t := 59) (b := false) rfl rfl rfl rfl ?_
            refine o_len (z := ((D93.length : Nat) : Int)) Try.underlying32 rfl rfl ?_
            refine g_yes (t := 59) (b := false) rfl rfl rfl rfl ?_
            refine o_move (v := (.slice A28 D28.length c28)) rfl ?_
            refine g_yes (t := 59) (b := false) rfl rfl rfl rfl ?_
            refine o_len (z := ((D28.length : Nat) : Int)) Try.underlying32 rfl rfl ?_
            refine g_yes (t := 59) (b := false) rfl rfl rfl rfl ?_
            refine o_lss (k := .i64) (a := ((D93.length : Nat) : Int)) (b := ((D28.length : Nat) : Int)) (r := false) rfl rfl (decide_eq_false (by omega)) ?_
            refine o_pick (b := false) (v := (.bool false)) rfl rfl ?_
            refine o_move (v := (.bool false)) rfl ?_
            refine g_yes (t := 66) (b := false) rfl rfl rfl rfl ?_
            refine o_move (v := (.slice A93 D93.length c93)) rfl ?_
            refine g_yes (t := 66) (b := false) rfl rfl rfl rfl ?_
            refine o_len (z := ((D93.length : Nat) : Int)) Try.underlying32 rfl rfl ?_
            refine g_yes (t := 66) (b := false) rfl rfl rfl rfl ?_
            refine o_move (v := (.slice A28 D28.length c28)) rfl ?_
            refine g_yes (t := 66) (b := false) rfl rfl rfl rfl ?_
            refine o_len (z := ((D28.length : Nat) : Int)) Try.underlying32 rfl rfl ?_
            refine g_yes (t := 66) (b := false) rfl rfl rfl rfl ?_
            refine o_add64 (a := ((D28.length : Nat) : Int)) (b := 1) (c := ((D28.length + 1 : Nat) : Int)) rfl rfl (by omega) (by omega) (by omega) ?_
            refine g_yes (t := 66) (b := false) rfl rfl rfl rfl ?_
            refine o_gtr (k := .i64) (a := ((D93.length : Nat) : Int)) (b := ((D28.length + 1 : Nat) : Int)) (r := false) rfl rfl (decide_eq_false (by omega)) ?_
            refine o_pick (b := false) (v := (.bool false)) rfl rfl ?_
            refine o_move (v := (.bool false)) rfl ?_
            refine g_yes (t := 74) (b := false) rfl rfl rfl rfl ?_
            refine o_move (v := (.slice A93 D93.length c93)) rfl ?_
            refine g_yes (t := 74) (b := false) rfl rfl rfl rfl ?_
            refine o_move (v := (.slice A28 D28.length c28)) rfl ?_
            refine g_yes (t := 74) (b := false) rfl rfl rfl rfl ?_
            refine o_len (z := ((D28.length : Nat) : Int)) Try.underlying32 rfl rfl ?_
            refine g_yes (t := 74) (b := false) rfl rfl rfl rfl ?_
            have hcap93 := cap_of wo118.ws
            refine o_slice_h (h := D28.length) Try.underlying32 Try.size43 rfl rfl rfl (by omega) ?_
            refine g_yes (t := 74) (b := false) rfl rfl rfl rfl ?_
            refine o_move (v := (.slice A28 D28.length c28)) rfl ?_
            refine g_yes (t := 74) (b := false) rfl rfl rfl rfl ?_
            refine op_call (args := [(.slice A93 D28.length c93), (.slice A28 D28.length c28)]) Try.ent6 rfl (alike6 w112 _ _ _ _ (by rw [List.length_take]; omega) (WS.take wo118.ws (by omega)) wo114.ws (by rw [dat_take, hd93, ← dat_length, addD_take])) ?_
            rintro _ w121 ⟨rfl, hc122⟩
            have zw121 := Ch.size hc122
            have wo123 := wo114.fresh hc122 (by omega)
            have wo124 := wo115.fresh hc122 (by omega)
            have wo125 := wo116.fresh hc122 (by omega)
            have wo126 := wo117.fresh hc122 (by omega)
            have wo127 := wo118.fresh hc122 (by omega)
            have wo128 := wo119.fresh hc122 (by omega)
            have ch129 : Ch w w121 none' := Ch.fresh ch120 hc122
            refine g_yes (t := 74) (b := false) rfl rfl rfl rfl ?_
            refine o_not (b := true) rfl ?_
            refine o_pick (b := false) (v := (.bool false)) rfl rfl ?_
            refine wpList_nil ?_
            refine then_normal (hK111 _ _ ?_)
            clear hK111
            refine cond_f rfl ?_
            refine wp_skip ?_
            refine then_normal (hK110 _ _ ?_)
            clear hK110
            refine wp_seq_k fun K130 hK130 => ?_
            refine wp_region_lit ?_
            refine o_move (v := (.slice A93 D93.length c93)) rfl ?_
            refine op_call (args := [(.slice A93 D93.length c93)]) Try.ent7 rfl (over7 w121 _ _ _ (by omega) wo127) ?_
            rintro _ w131 ⟨rfl, hc132⟩
            have zw131 := Ch.size hc132
            have wo133 := wo123.keep hc132 (fun k hk => by have := hk.2; omega) (fun k hk hg => by obtain ⟨h1, h2⟩ := hk; obtain ⟨h3, h4⟩ := hg; omega)
            have wo134 := wo124.keep hc132 (fun k hk => by have := hk.2; omega) (fun k hk hg => by obtain ⟨h1, h2⟩ := hk; obtain ⟨h3, h4⟩ := hg; omega)
            have wo135 := wo125.keep hc132 (fun k hk => by have := hk.2; omega) (fun k hk hg => by obtain ⟨h1, h2⟩ := hk; obtain ⟨h3, h4⟩ := hg; omega)
            have wo136 := wo126.keep hc132 (fun k hk => by have := hk.2; omega) (fun k hk hg => by obtain ⟨h1, h2⟩ := hk; obtain ⟨h3, h4⟩ := hg; omega)
            have wo138 := wo128.keep hc132 (fun k hk => by have := hk.2; omega) (fun k hk hg => by obtain ⟨h1, h2⟩ := hk; obtain ⟨h3, h4⟩ := hg; omega)
            have ch139 : Ch w w131 none' := Ch.trans ch129 hc132 (fun _ f => f) (fun q hq hg => by obtain ⟨h1, h2⟩ := hg; omega)
            refine wpList_nil ?_
            refine then_normal (hK130 _ _ ?_)
            clear hK130
            refine wp_seq_k fun K140 hK140 => ?_
            refine wp_seq_k fun K141 hK141 => ?_
            refine wp_region_lit ?_
            refine o_move (v := (.slice A28 D28.length c28)) rfl ?_
            refine o_move (v := (.slice A33 D33.length c33)) rfl ?_
            refine op_call (args := [(.slice A28 D28.length c28), (.slice A33 D33.length c33)]) Try.ent6 rfl (alike6 w131 _ _ _ _ (by omega) wo133.ws wo134.ws (by simp only [hd28, hd33])) ?_
            rintro _ w142 ⟨rfl, hc143⟩
            have zw142 := Ch.size hc143
            have wo144 := wo133.fresh hc143 (by omega)
            have wo145 := wo134.fresh hc143 (by omega)
            have wo146 := wo135.fresh hc143 (by omega)
            have wo147 := wo136.fresh hc143 (by omega)
            have wo148 := wo138.fresh hc143 (by omega)
            have ch149 : Ch w w142 none' := Ch.fresh ch139 hc143
            refine o_not (b := true) rfl ?_
            refine o_move (v := (.bool false)) rfl ?_
            refine g_yes (t := 89) (b := false) rfl rfl rfl rfl ?_
            refine o_move (v := (.slice (some ⟨bx, ox, none⟩) 1 c55)) rfl ?_
            refine g_yes (t := 89) (b := false) rfl rfl rfl rfl ?_
            refine o_move (v := (.slice A74 D74.length c74)) rfl ?_
            refine g_yes (t := 89) (b := false) rfl rfl rfl rfl ?_
            refine op_call (args := [(.slice (some ⟨bx, ox, none⟩) 1 c55), (.slice A74 D74.length c74)]) Try.ent6 rfl (alike6 w142 _ _ _ _ (Nat.le_of_ble_eq_true rfl) wo146.ws wo147.ws (by simp only [hd55, hd74])) ?_
            rintro _ w150 ⟨rfl, hc151⟩
            have zw150 := Ch.size hc151
            have wo152 := wo144.fresh hc151 (by omega)
            have wo153 := wo145.fresh hc151 (by omega)
            have wo154 := wo146.fresh hc151 (by omega)
            have wo155 := wo147.fresh hc151 (by omega)
            have wo156 := wo148.fresh hc151 (by omega)
            have ch157 : Ch w w150 none' := Ch.fresh ch149 hc151
            refine g_yes (t := 89) (b := false) rfl rfl rfl rfl ?_
            refine o_not (b := true) rfl ?_
            refine o_pick (b := false) (v := (.bool false)) rfl rfl ?_
            refine wpList_nil ?_
            refine then_normal (hK141 _ _ ?_)
            clear hK141
            refine cond_f rfl ?_
            refine wp_skip ?_
            refine then_normal (hK140 _ _ ?_)
            clear hK140
            refine wp_seq_k fun K158 hK158 => ?_
            refine wp_region_lit ?_
            refine o_move (v := (.slice A28 D28.length c28)) rfl ?_
            refine o_move (v := (.slice (some ⟨bx, ox, none⟩) 1 c55)) rfl ?_
            refine o_indexAddr (i := 0) (q := ox + 0 * 40) Try.underlying32 Try.size43 rfl rfl rfl (Nat.le_refl 1) rfl ?_
            refine o_loads (cs := z.op ++ [z.tr]) Try.underlying43 rfl (Try.size43.trans (by simp [okz.len])) rfl (WS.range wo154.ws rfl (i := 0) (x := z) rfl) ?_
            refine op_call (args := [(.slice A28 D28.length c28), (.agg ((z.op ++ [z.tr]) : List Value).toArray)]) Try.ent5 rfl (add5 w150 _ _ z (by omega) (wo152.ws) okz (wo154.ws.each z (List.mem_singleton.2 rfl)).2) ?_
            rintro v161 w159 ⟨hc160, D161, wo161, hd161⟩
            have zw159 := Ch.size hc160
            have wo162 := wo152.fresh hc160 (by omega)
            have wo163 := wo153.fresh hc160 (by omega)
            have wo164 := wo154.fresh hc160 (by omega)
            have wo165 := wo155.fresh hc160 (by omega)
            have wo166 := wo156.fresh hc160 (by omega)
            have ch167 : Ch w w159 none' := Ch.fresh ch157 hc160
            obtain ⟨A161, c161, rfl, _⟩ := wo161.ws.len
            have hl161 := addD_len (dat D28) (z.op, z.n, z.cs)
            rw [← hd161, dat_length, dat_length] at hl161
            refine o_assign (v := (.slice A161 D161.length c161)) rfl ?_
            refine wpList_nil ?_
            refine then_normal (hK158 _ _ ?_)
            clear hK158
            refine wp_seq_k fun K168 hK168 => ?_
            refine wp_region_lit ?_
            refine o_move (v := (.slice A28 D28.length c28)) rfl ?_
            refine op_call (args := [(.slice A28 D28.length c28)]) Try.ent7 rfl (over7 w159 _ _ _ (by omega) wo162) ?_
            rintro _ w169 ⟨rfl, hc170⟩
            have zw169 := Ch.size hc170
            have wo172 := wo163.keep hc170 (fun k hk => by have := hk.2; omega) (fun k hk hg => by obtain ⟨h1, h2⟩ := hk; obtain ⟨h3, h4⟩ := hg; omega)
            have wo173 := wo164.keep hc170 (fun k hk => by have := hk.2; omega) (fun k hk hg => by obtain ⟨h1, h2⟩ := hk; obtain ⟨h3, h4⟩ := hg; omega)
            have wo174 := wo165.keep hc170 (fun k hk => by have := hk.2; omega) (fun k hk hg => by obtain ⟨h1, h2⟩ := hk; obtain ⟨h3, h4⟩ := hg; omega)
            have wo175 := wo166.keep hc170 (fun k hk => by have := hk.2; omega) (fun k hk hg => by obtain ⟨h1, h2⟩ := hk; obtain ⟨h3, h4⟩ := hg; omega)
            have wo176 := wo161.keep hc170 (fun k hk => by have := hk.2; omega) (fun k hk hg => by obtain ⟨h1, h2⟩ := hk; obtain ⟨h3, h4⟩ := hg; omega)
            have ch177 : Ch w w169 none' := Ch.trans ch167 hc170 (fun _ f => f) (fun q hq hg => by obtain ⟨h1, h2⟩ := hg; omega)
            refine wpList_nil ?_
            refine then_normal (hK168 _ _ ?_)
            clear hK168
            refine wp_seq_k fun K178 hK178 => ?_
            refine wp_region_lit ?_
            refine o_move (v := (.slice (some ⟨bx, ox, none⟩) 1 c55)) rfl ?_
            refine op_call (args := [(.slice (some ⟨bx, ox, none⟩) 1 c55)]) Try.ent7 rfl (over7 w169 _ _ _ (Nat.le_of_ble_eq_true rfl) wo173) ?_
            rintro _ w179 ⟨rfl, hc180⟩
            have zw179 := Ch.size hc180
            have wo181 := wo172.keep hc180 (fun k hk => by have := hk.2; omega) (fun k hk hg => by obtain ⟨h1, h2⟩ := hk; obtain ⟨h3, h4⟩ := hg; omega)
            have wo183 := wo174.keep hc180 (fun k hk => by have := hk.2; omega) (fun k hk hg => by obtain ⟨h1, h2⟩ := hk; obtain ⟨h3, h4⟩ := hg; omega)
            have wo184 := wo175.keep hc180 (fun k hk => by have := hk.2; omega) (fun k hk hg => by obtain ⟨h1, h2⟩ := hk; obtain ⟨h3, h4⟩ := hg; omega)
            have wo185 := wo176.keep hc180 (fun k hk => by have := hk.2; omega) (fun k hk hg => by obtain ⟨h1, h2⟩ := hk; obtain ⟨h3, h4⟩ := hg; omega)
            have ch186 : Ch w w179 none' := Ch.trans ch177 hc180 (fun _ f => f) (fun q hq hg => by obtain ⟨h1, h2⟩ := hg; omega)
            refine wpList_nil ?_
            refine then_normal (hK178 _ _ ?_)
            clear hK178
            refine wp_seq_k fun K187 hK187 => ?_
            refine wp_seq_k fun K188 hK188 => ?_
            refine wp_region_lit ?_
            refine o_move (v := (.slice A161 D161.length c161)) rfl ?_
            refine o_move (v := (.slice A102 D102.length c102)) rfl ?_
            refine op_call (args := [(.slice A161 D161.length c161), (.slice A102 D102.length c102)]) Try.ent6 rfl (alike6 w179 _ _ _ _ (by omega) wo185.ws wo184.ws (by simp only [hd161, hd102])) ?_
            rintro _ w189 ⟨rfl, hc190⟩
            have zw189 := Ch.size hc190
            have wo191 := wo181.fresh hc190 (by omega)
            have wo192 := wo183.fresh hc190 (by omega)
            have wo193 := wo184.fresh hc190 (by omega)
            have wo194 := wo185.fresh hc190 (by omega)
            have ch195 : Ch w w189 none' := Ch.fresh ch186 hc190
            refine o_not (b := true) rfl ?_
            refine wpList_nil ?_
            refine then_normal (hK188 _ _ ?_)
            clear hK188
            refine cond_f rfl ?_
            refine wp_skip ?_
            refine then_normal (hK187 _ _ ?_)
            clear hK187
            refine wp_seq_k fun K196 hK196 => ?_
            refine wp_region_lit ?_
            refine op_call (args := [(.slice none 0 0)]) Try.ent9 rfl (save9 w189) ?_
            rintro vs w197 ⟨hc198, hrs⟩
            have zw197 := Ch.size hc198
            have wo199 := wo191.fresh hc198 (by omega)
            have wo200 := wo192.fresh hc198 (by omega)
            have wo201 := wo193.fresh hc198 (by omega)
            have wo202 := wo194.fresh hc198 (by omega)
            have ch203 : Ch w w197 none' := Ch.fresh ch195 hc198
            refine op_call (args := [vs]) Try.ent8 rfl (load8 w197 vs hrs) ?_
            rintro _ w204 ⟨rfl, hc205⟩
            have zw204 := Ch.size hc205
            have wo206 := wo199.fresh hc205 (by omega)
            have wo207 := wo200.fresh hc205 (by omega)
            have wo208 := wo201.fresh hc205 (by omega)
            have wo209 := wo202.fresh hc205 (by omega)
            have ch210 : Ch w w204 none' := Ch.fresh ch203 hc205
            refine o_move (v := (.tuple #[(.slice none 0 0), (.int .i64 0)])) rfl ?_
            refine o_extract (v := (.slice none 0 0)) rfl rfl ?_
            refine o_extract (v := (.int .i64 0)) rfl rfl ?_
            refine o_assign (v := (.slice none 0 0)) rfl ?_
            refine o_assign (v := (.int .i64 0)) rfl ?_
            refine wpList_nil ?_
            refine then_normal (hK196 _ _ ?_)
            clear hK196
            refine wp_seq_k fun K211 hK211 => ?_
            refine wp_region_lit ?_
            refine op_call (args := []) Try.ent10 rfl (awake10 w204) ?_
            rintro _ w212 ⟨rfl, hc213⟩
            have zw212 := Ch.size hc213
            have wo214 := wo206.fresh hc213 (by omega)
            have wo215 := wo207.fresh hc213 (by omega)
            have wo216 := wo208.fresh hc213 (by omega)
            have wo217 := wo209.fresh hc213 (by omega)
            have ch218 : Ch w w212 none' := Ch.fresh ch210 hc213
            refine o_move (v := (.bool true)) rfl ?_
            refine g_yes (t := 114) (b := true) rfl rfl rfl rfl ?_
            refine o_move (v := (.int .i64 0)) rfl ?_
            refine g_yes (t := 114) (b := true) rfl rfl rfl rfl ?_
            refine o_eql (k := .i64) (a := 0) (b := 0) (r := true) rfl rfl (by decide) ?_
            refine o_pick (b := true) (v := (.bool true)) rfl rfl ?_
            refine o_assign (v := (.bool true)) rfl ?_
            refine wpList_nil ?_
            refine then_normal (hK211 _ _ ?_)
            clear hK211
            refine wp_ret ?_
            exact ret_tmp (v := .bool true) rfl rfl ⟨rfl, ch218⟩
          · refine s_buildSlice1 (St.start w46 none') (cs := (x.op ++ [x.tr])) Try.underlying22 hi31 hz31 (by rw [hs31]; simp [hlen]) (by simp) (by simp [hlen]) rfl ?_
            intro b219 w220 st221 hnb219 hcb219
            have kSb219 := Ch.fresh hS52 hcb219
            have hbb219 := st221.blk 0 rfl
            have zw220 := Ch.size hcb219
            have wo222 := wo48.fresh hcb219 (by omega)
            have wo223 := wo49.fresh hcb219 (by omega)
            have ch224 : Ch w w220 none' := Ch.fresh ch50 hcb219
            have cn225 := Ch.fresh cn51 hcb219
            have sc226 := Ch.fresh (Ch.refl w46 none') hcb219
            refine wpList_nil ?_
            refine then_normal ?_
            have hS227 : Ch w31 w220 none' := kSb219
            refine ⟨hS227, ?_⟩
            refine d_loud (i := 2) (by kernel_rfl) rfl ?_
            refine op_call (args := [(.slice (some ⟨b45, 0, none⟩) 1 1)]) Try.ent4 rfl (wishes4 w220 _ [x] (by simp) (ws_one okx (hr.fresh ch224) (Rd.keep (st47.rd 0 rfl (k := 1) (size := 40) (by simp [hlen]) okx.ones) (sc226) (fun _ _ f => f)))) ?_
            rintro v230 w228 ⟨hc229, D230, wo230, hd230⟩
            have kS230 := Ch.fresh hS227 hc229
            have sc231 := Ch.fresh sc226 hc229
            have sc232 := Ch.fresh (Ch.refl w220 none') hc229
            have zw228 := Ch.size hc229
            have wo233 := wo222.fresh hc229 (by omega)
            have wo234 := wo223.fresh hc229 (by omega)
            have ch235 : Ch w w228 none' := Ch.fresh ch224 hc229
            have cn236 := Ch.fresh cn225 hc229
            obtain ⟨A230, c230, rfl, _⟩ := wo230.ws.len
            refine wpList_nil ?_
            refine then_normal ?_
            have hS237 : Ch w31 w228 none' := kS230
            refine ⟨hS237, ?_⟩
            refine d_loud (i := 5) (by kernel_rfl) rfl ?_
            refine op_call (args := [(.slice (some ⟨b219, 0, none⟩) 1 1)]) Try.ent4 rfl (wishes4 w228 _ [x] (by simp) (ws_one okx (hr.fresh ch235) (Rd.keep (st221.rd 0 rfl (k := 1) (size := 40) (by simp [hlen]) okx.ones) (sc232) (fun _ _ f => f)))) ?_
            rintro v240 w238 ⟨hc239, D240, wo240, hd240⟩
            have kS240 := Ch.fresh hS237 hc239
            have sc241 := Ch.fresh sc231 hc239
            have sc242 := Ch.fresh sc232 hc239
            have zw238 := Ch.size hc239
            have wo243 := wo233.fresh hc239 (by omega)
            have wo244 := wo234.fresh hc239 (by omega)
            have wo245 := wo230.fresh hc239 (by omega)
            have ch246 : Ch w w238 none' := Ch.fresh ch235 hc239
            have cn247 := Ch.fresh cn236 hc239
            obtain ⟨A240, c240, rfl, _⟩ := wo240.ws.len
            refine wpList_nil ?_
            refine then_normal ?_
            have hS248 : Ch w31 w238 none' := kS240
            refine ⟨hS248, ?_⟩
            refine d_take (i := 6) (d := 9) (v := (.slice A230 D230.length c230)) rfl rfl rfl (by kernel_rfl) (by kernel_rfl) (by kernel_rfl) (np_then np_body) hS248 (fun w' hS => r_assign (v := (.slice A230 D230.length c230)) rfl) ?_
            refine d_take (i := 7) (d := 10) (v := (.slice A240 D240.length c240)) rfl rfl rfl (by kernel_rfl) (by kernel_rfl) (by kernel_rfl) (np_then np_body) hS248 (fun w' hS => r_assign (v := (.slice A240 D240.length c240)) rfl) ?_
            refine d_done (by kernel_rfl) ?_
            refine then_normal (hK37 _ _ ?_)
            clear hK37
            refine wp_seq_k fun K249 hK249 => ?_
            obtain ⟨z, hDz⟩ : ∃ z, D230 = [z] := List.length_eq_one_iff.1 (by rw [← dat_length, hd230]; rfl)
            subst hDz
            obtain ⟨bx, ox, cx9, e9, _⟩ := wo245.ws.form (Nat.le_refl 1)
            injection e9 with e9 _ e8; subst e9; subst e8
            have okz := (wo245.ws.each z (List.mem_singleton.2 rfl)).1
            have hdl28 : D28.length = D.length := by rw [← dat_length, hd28, dat_length]
            have hdl33 : D33.length = D.length := by rw [← dat_length, hd33, dat_length]
            have hdl240 : D240.length = 1 := by rw [← dat_length, hd240]; rfl
            refine d_begin (fun w' => Ch w238 w' none') (by kernel_rfl) ?_
            obtain ⟨w250, ew250⟩ : ∃ x, x = World.drew w238 := ⟨_, rfl⟩
            rw [← ew250]
            have hN251 : Ch w238 w250 none' := by rw [ew250]; exact Ch.drew _ _
            clear ew250
            have zw250 := Ch.size hN251
            have wo252 := wo243.fresh hN251 (by omega)
            have wo253 := wo244.fresh hN251 (by omega)
            have wo254 := wo245.fresh hN251 (by omega)
            have wo255 := wo240.fresh hN251 (by omega)
            have ch256 : Ch w w250 none' := Ch.fresh ch246 hN251
            refine d_take (i := 0) (d := 45) (v := (.slice A28 D28.length c28)) rfl rfl rfl (by kernel_rfl) (by kernel_rfl) (by kernel_rfl) (np_then np_body) hN251 (fun w' hS => r_move (v := (.slice A28 D28.length c28)) rfl) ?_
            refine d_take (i := 1) (d := 46) (v := (.slice (some ⟨bx, ox, none⟩) 1 c230)) rfl rfl rfl (by kernel_rfl) (by kernel_rfl) (by kernel_rfl) (np_then np_body) hN251 (fun w' hS => r_move (v := (.slice (some ⟨bx, ox, none⟩) 1 c230)) rfl) ?_
            refine d_take (i := 2) (d := 47) (v := (.pointer (some ⟨bx, ox + 0 * 40, none⟩))) rfl rfl rfl (by kernel_rfl) (by kernel_rfl) (by kernel_rfl) (np_then np_body) hN251 (fun w' hS => r_indexAddr (i := 0) (q := ox + 0 * 40) Try.underlying32 Try.size43 rfl rfl rfl (Nat.le_refl 1) rfl) ?_
            refine d_take (i := 3) (d := 48) (v := (.agg ((z.op ++ [z.tr]) : List Value).toArray)) rfl rfl rfl (by kernel_rfl) (by kernel_rfl) (by kernel_rfl) (np_then np_body) hN251 (fun w' hS => r_loads (cs := z.op ++ [z.tr]) Try.underlying43 rfl (Try.size43.trans (by simp [okz.len])) rfl (WS.range (wo245.ws.fresh hS) rfl (i := 0) (x := z) rfl)) ?_
            refine d_take (i := 5) (d := 50) (v := (.slice A28 D28.length c28)) rfl rfl rfl (by kernel_rfl) (by kernel_rfl) (by kernel_rfl) (np_then np_body) hN251 (fun w' hS => r_move (v := (.slice A28 D28.length c28)) rfl) ?_
            refine d_take (i := 6) (d := 51) (v := (.slice (some ⟨bx, ox, none⟩) 1 c230)) rfl rfl rfl (by kernel_rfl) (by kernel_rfl) (by kernel_rfl) (np_then np_body) hN251 (fun w' hS => r_move (v := (.slice (some ⟨bx, ox, none⟩) 1 c230)) rfl) ?_
            refine d_take (i := 7) (d := 52) (v := (.pointer (some ⟨bx, ox + 0 * 40, none⟩))) rfl rfl rfl (by kernel_rfl) (by kernel_rfl) (by kernel_rfl) (np_then np_body) hN251 (fun w' hS => r_indexAddr (i := 0) (q := ox + 0 * 40) Try.underlying32 Try.size43 rfl rfl rfl (Nat.le_refl 1) rfl) ?_
            refine d_take (i := 8) (d := 53) (v := (.agg ((z.op ++ [z.tr]) : List Value).toArray)) rfl rfl rfl (by kernel_rfl) (by kernel_rfl) (by kernel_rfl) (np_then np_body) hN251 (fun w' hS => r_loads (cs := z.op ++ [z.tr]) Try.underlying43 rfl (Try.size43.trans (by simp [okz.len])) rfl (WS.range (wo245.ws.fresh hS) rfl (i := 0) (x := z) rfl)) ?_
            refine d_loud (i := 4) (by kernel_rfl) rfl ?_
            refine op_call (args := [(.slice A28 D28.length c28), (.agg ((z.op ++ [z.tr]) : List Value).toArray)]) Try.ent5 rfl (add5 w250 _ _ z (by omega) (wo252.ws) okz (wo254.ws.each z (List.mem_singleton.2 rfl)).2) ?_
            rintro v259 w257 ⟨hc258, D259, wo259, hd259⟩
            have kS259 := Ch.fresh hN251 hc258
            have zw257 := Ch.size hc258
            have wo260 := wo252.fresh hc258 (by omega)
            have wo261 := wo253.fresh hc258 (by omega)
            have wo262 := wo254.fresh hc258 (by omega)
            have wo263 := wo255.fresh hc258 (by omega)
            have ch264 : Ch w w257 none' := Ch.fresh ch256 hc258
            obtain ⟨A259, c259, rfl, _⟩ := wo259.ws.len
            have hl259 := addD_len (dat D28) (z.op, z.n, z.cs)
            rw [← hd259, dat_length, dat_length] at hl259
            refine wpList_nil ?_
            refine then_normal ?_
            have hS265 : Ch w238 w257 none' := kS259
            refine ⟨hS265, ?_⟩
            refine d_loud (i := 9) (by kernel_rfl) rfl ?_
            refine op_call (args := [(.slice A28 D28.length c28), (.agg ((z.op ++ [z.tr]) : List Value).toArray)]) Try.ent5 rfl (add5 w257 _ _ z (by omega) (wo260.ws) okz (wo262.ws.each z (List.mem_singleton.2 rfl)).2) ?_
            rintro v268 w266 ⟨hc267, D268, wo268, hd268⟩
            have kS268 := Ch.fresh hS265 hc267
            have zw266 := Ch.size hc267
            have wo269 := wo260.fresh hc267 (by omega)
            have wo270 := wo261.fresh hc267 (by omega)
            have wo271 := wo262.fresh hc267 (by omega)
            have wo272 := wo263.fresh hc267 (by omega)
            have wo273 := wo259.fresh hc267 (by omega)
            have ch274 : Ch w w266 none' := Ch.fresh ch264 hc267
            obtain ⟨A268, c268, rfl, _⟩ := wo268.ws.len
            have hl268 := addD_len (dat D28) (z.op, z.n, z.cs)
            rw [← hd268, dat_length, dat_length] at hl268
            refine wpList_nil ?_
            refine then_normal ?_
            have hS275 : Ch w238 w266 none' := kS268
            refine ⟨hS275, ?_⟩
            refine d_take (i := 10) (d := 11) (v := (.slice A259 D259.length c259)) rfl rfl rfl (by kernel_rfl) (by kernel_rfl) (by kernel_rfl) (np_then np_body) hS275 (fun w' hS => r_assign (v := (.slice A259 D259.length c259)) rfl) ?_
            refine d_take (i := 11) (d := 12) (v := (.slice A268 D268.length c268)) rfl rfl rfl (by kernel_rfl) (by kernel_rfl) (by kernel_rfl) (np_then np_body) hS275 (fun w' hS => r_assign (v := (.slice A268 D268.length c268)) rfl) ?_
            refine d_done (by kernel_rfl) ?_
            refine then_normal (hK249 _ _ ?_)
            clear hK249
            refine wp_seq_k fun K276 hK276 => ?_
            refine wp_seq_k fun K277 hK277 => ?_
            refine wp_region_lit ?_
            refine o_move (v := (.slice A259 D259.length c259)) rfl ?_
            refine o_move (v := (.slice A268 D268.length c268)) rfl ?_
            refine op_call (args := [(.slice A259 D259.length c259), (.slice A268 D268.length c268)]) Try.ent6 rfl (alike6 w266 _ _ _ _ (by omega) wo273.ws wo268.ws (by simp only [hd259, hd268])) ?_
            rintro _ w278 ⟨rfl, hc279⟩
            have zw278 := Ch.size hc279
            have wo280 := wo269.fresh hc279 (by omega)
            have wo281 := wo270.fresh hc279 (by omega)
            have wo282 := wo271.fresh hc279 (by omega)
            have wo283 := wo272.fresh hc279 (by omega)
            have wo284 := wo273.fresh hc279 (by omega)
            have wo285 := wo268.fresh hc279 (by omega)
            have ch286 : Ch w w278 none' := Ch.fresh ch274 hc279
            refine o_not (b := true) rfl ?_
            refine o_move (v := (.bool false)) rfl ?_
            refine g_yes (t := 59) (b := false) rfl rfl rfl rfl ?_
            refine o_move (v := (.slice A259 D259.length c259)) rfl ?_
            refine g_yes (t := 59) (b := false) rfl rfl rfl rfl ?_
            refine o_len (z := ((D259.length : Nat) : Int)) Try.underlying32 rfl rfl ?_
            refine g_yes (t := 59) (b := false) rfl rfl rfl rfl ?_
            refine o_move (v := (.slice A28 D28.length c28)) rfl ?_
            refine g_yes (t := 59) (b := false) rfl rfl rfl rfl ?_
            refine o_len (z := ((D28.length : Nat) : Int)) Try.underlying32 rfl rfl ?_
            refine g_yes (t := 59) (b := false) rfl rfl rfl rfl ?_
            refine o_lss (k := .i64) (a := ((D259.length : Nat) : Int)) (b := ((D28.length : Nat) : Int)) (r := false) rfl rfl (decide_eq_false (by omega)) ?_
            refine o_pick (b := false) (v := (.bool false)) rfl rfl ?_
            refine o_move (v := (.bool false)) rfl ?_
            refine g_yes (t := 66) (b := false) rfl rfl rfl rfl ?_
            refine o_move (v := (.slice A259 D259.length c259)) rfl ?_
            refine g_yes (t := 66) (b := false) rfl rfl rfl rfl ?_
            refine o_len (z := ((D259.length : Nat) : Int)) Try.underlying32 rfl rfl ?_
            refine g_yes (t := 66) (b := false) rfl rfl rfl rfl ?_
            refine o_move (v := (.slice A28 D28.length c28)) rfl ?_
            refine g_yes (t := 66) (b := false) rfl rfl rfl rfl ?_
            refine o_len (z := ((D28.length : Nat) : Int)) Try.underlying32 rfl rfl ?_
            refine g_yes (t := 66) (b := false) rfl rfl rfl rfl ?_
            refine o_add64 (a := ((D28.length : Nat) : Int)) (b := 1) (c := ((D28.length + 1 : Nat) : Int)) rfl rfl (by omega) (by omega) (by omega) ?_
            refine g_yes (t := 66) (b := false) rfl rfl rfl rfl ?_
            refine o_gtr (k := .i64) (a := ((D259.length : Nat) : Int)) (b := ((D28.length + 1 : Nat) : Int)) (r := false) rfl rfl (decide_eq_false (by omega)) ?_
            refine o_pick (b := false) (v := (.bool false)) rfl rfl ?_
            refine o_move (v := (.bool false)) rfl ?_
            refine g_yes (t := 74) (b := false) rfl rfl rfl rfl ?_
            refine o_move (v := (.slice A259 D259.length c259)) rfl ?_
            refine g_yes (t := 74) (b := false) rfl rfl rfl rfl ?_
            refine o_move (v := (.slice A28 D28.length c28)) rfl ?_
            refine g_yes (t := 74) (b := false) rfl rfl rfl rfl ?_
            refine o_len (z := ((D28.length : Nat) : Int)) Try.underlying32 rfl rfl ?_
            refine g_yes (t := 74) (b := false) rfl rfl rfl rfl ?_
            have hcap259 := cap_of wo284.ws
            refine o_slice_h (h := D28.length) Try.underlying32 Try.size43 rfl rfl rfl (by omega) ?_
            refine g_yes (t := 74) (b := false) rfl rfl rfl rfl ?_
            refine o_move (v := (.slice A28 D28.length c28)) rfl ?_
            refine g_yes (t := 74) (b := false) rfl rfl rfl rfl ?_
            refine op_call (args := [(.slice A259 D28.length c259), (.slice A28 D28.length c28)]) Try.ent6 rfl (alike6 w278 _ _ _ _ (by rw [List.length_take]; omega) (WS.take wo284.ws (by omega)) wo280.ws (by rw [dat_take, hd259, ← dat_length, addD_take])) ?_
            rintro _ w287 ⟨rfl, hc288⟩
            have zw287 := Ch.size hc288
            have wo289 := wo280.fresh hc288 (by omega)
            have wo290 := wo281.fresh hc288 (by omega)
            have wo291 := wo282.fresh hc288 (by omega)
            have wo292 := wo283.fresh hc288 (by omega)
            have wo293 := wo284.fresh hc288 (by omega)
            have wo294 := wo285.fresh hc288 (by omega)
            have ch295 : Ch w w287 none' := Ch.fresh ch286 hc288
            refine g_yes (t := 74) (b := false) rfl rfl rfl rfl ?_
            refine o_not (b := true) rfl ?_
            refine o_pick (b := false) (v := (.bool false)) rfl rfl ?_
            refine wpList_nil ?_
            refine then_normal (hK277 _ _ ?_)
            clear hK277
            refine cond_f rfl ?_
            refine wp_skip ?_
            refine then_normal (hK276 _ _ ?_)
            clear hK276
            refine wp_seq_k fun K296 hK296 => ?_
            refine wp_region_lit ?_
            refine o_move (v := (.slice A259 D259.length c259)) rfl ?_
            refine op_call (args := [(.slice A259 D259.length c259)]) Try.ent7 rfl (over7 w287 _ _ _ (by omega) wo293) ?_
            rintro _ w297 ⟨rfl, hc298⟩
            have zw297 := Ch.size hc298
            have wo299 := wo289.keep hc298 (fun k hk => by have := hk.2; omega) (fun k hk hg => by obtain ⟨h1, h2⟩ := hk; obtain ⟨h3, h4⟩ := hg; omega)
            have wo300 := wo290.keep hc298 (fun k hk => by have := hk.2; omega) (fun k hk hg => by obtain ⟨h1, h2⟩ := hk; obtain ⟨h3, h4⟩ := hg; omega)
            have wo301 := wo291.keep hc298 (fun k hk => by have := hk.2; omega) (fun k hk hg => by obtain ⟨h1, h2⟩ := hk; obtain ⟨h3, h4⟩ := hg; omega)
            have wo302 := wo292.keep hc298 (fun k hk => by have := hk.2; omega) (fun k hk hg => by obtain ⟨h1, h2⟩ := hk; obtain ⟨h3, h4⟩ := hg; omega)
            have wo304 := wo294.keep hc298 (fun k hk => by have := hk.2; omega) (fun k hk hg => by obtain ⟨h1, h2⟩ := hk; obtain ⟨h3, h4⟩ := hg; omega)
            have ch305 : Ch w w297 none' := Ch.trans ch295 hc298 (fun _ f => f) (fun q hq hg => by obtain ⟨h1, h2⟩ := hg; omega)
            refine wpList_nil ?_
            refine then_normal (hK296 _ _ ?_)
            clear hK296
            refine wp_seq_k fun K306 hK306 => ?_
            refine wp_seq_k fun K307 hK307 => ?_
            refine wp_region_lit ?_
            refine o_move (v := (.slice A28 D28.length c28)) rfl ?_
            refine o_move (v := (.slice A33 D33.length c33)) rfl ?_
            refine op_call (args := [(.slice A28 D28.length c28), (.slice A33 D33.length c33)]) Try.ent6 rfl (alike6 w297 _ _ _ _ (by omega) wo299.ws wo300.ws (by simp only [hd28, hd33])) ?_
            rintro _ w308 ⟨rfl, hc309⟩
            have zw308 := Ch.size hc309
            have wo310 := wo299.fresh hc309 (by omega)
            have wo311 := wo300.fresh hc309 (by omega)
            have wo312 := wo301.fresh hc309 (by omega)
            have wo313 := wo302.fresh hc309 (by omega)
            have wo314 := wo304.fresh hc309 (by omega)
            have ch315 : Ch w w308 none' := Ch.fresh ch305 hc309
            refine o_not (b := true) rfl ?_
            refine o_move (v := (.bool false)) rfl ?_
            refine g_yes (t := 89) (b := false) rfl rfl rfl rfl ?_
            refine o_move (v := (.slice (some ⟨bx, ox, none⟩) 1 c230)) rfl ?_
            refine g_yes (t := 89) (b := false) rfl rfl rfl rfl ?_
            refine o_move (v := (.slice A240 D240.length c240)) rfl ?_
            refine g_yes (t := 89) (b := false) rfl rfl rfl rfl ?_
            refine op_call (args := [(.slice (some ⟨bx, ox, none⟩) 1 c230), (.slice A240 D240.length c240)]) Try.ent6 rfl (alike6 w308 _ _ _ _ (Nat.le_of_ble_eq_true rfl) wo312.ws wo313.ws (by simp only [hd230, hd240])) ?_
            rintro _ w316 ⟨rfl, hc317⟩
            have zw316 := Ch.size hc317
            have wo318 := wo310.fresh hc317 (by omega)
            have wo319 := wo311.fresh hc317 (by omega)
            have wo320 := wo312.fresh hc317 (by omega)
            have wo321 := wo313.fresh hc317 (by omega)
            have wo322 := wo314.fresh hc317 (by omega)
            have ch323 : Ch w w316 none' := Ch.fresh ch315 hc317
            refine g_yes (t := 89) (b := false) rfl rfl rfl rfl ?_
            refine o_not (b := true) rfl ?_
            refine o_pick (b := false) (v := (.bool false)) rfl rfl ?_
            refine wpList_nil ?_
            refine then_normal (hK307 _ _ ?_)
            clear hK307
            refine cond_f rfl ?_
            refine wp_skip ?_
            refine then_normal (hK306 _ _ ?_)
            clear hK306
            refine wp_seq_k fun K324 hK324 => ?_
            refine wp_region_lit ?_
            refine o_move (v := (.slice A28 D28.length c28)) rfl ?_
            refine o_move (v := (.slice (some ⟨bx, ox, none⟩) 1 c230)) rfl ?_
            refine o_indexAddr (i := 0) (q := ox + 0 * 40) Try.underlying32 Try.size43 rfl rfl rfl (Nat.le_refl 1) rfl ?_
            refine o_loads (cs := z.op ++ [z.tr]) Try.underlying43 rfl (Try.size43.trans (by simp [okz.len])) rfl (WS.range wo320.ws rfl (i := 0) (x := z) rfl) ?_
            refine op_call (args := [(.slice A28 D28.length c28), (.agg ((z.op ++ [z.tr]) : List Value).toArray)]) Try.ent5 rfl (add5 w316 _ _ z (by omega) (wo318.ws) okz (wo320.ws.each z (List.mem_singleton.2 rfl)).2) ?_
            rintro v327 w325 ⟨hc326, D327, wo327, hd327⟩
            have zw325 := Ch.size hc326
            have wo328 := wo318.fresh hc326 (by omega)
            have wo329 := wo319.fresh hc326 (by omega)
            have wo330 := wo320.fresh hc326 (by omega)
            have wo331 := wo321.fresh hc326 (by omega)
            have wo332 := wo322.fresh hc326 (by omega)
            have ch333 : Ch w w325 none' := Ch.fresh ch323 hc326
            obtain ⟨A327, c327, rfl, _⟩ := wo327.ws.len
            have hl327 := addD_len (dat D28) (z.op, z.n, z.cs)
            rw [← hd327, dat_length, dat_length] at hl327
            refine o_assign (v := (.slice A327 D327.length c327)) rfl ?_
            refine wpList_nil ?_
            refine then_normal (hK324 _ _ ?_)
            clear hK324
            refine wp_seq_k fun K334 hK334 => ?_
            refine wp_region_lit ?_
            refine o_move (v := (.slice A28 D28.length c28)) rfl ?_
            refine op_call (args := [(.slice A28 D28.length c28)]) Try.ent7 rfl (over7 w325 _ _ _ (by omega) wo328) ?_
            rintro _ w335 ⟨rfl, hc336⟩
            have zw335 := Ch.size hc336
            have wo338 := wo329.keep hc336 (fun k hk => by have := hk.2; omega) (fun k hk hg => by obtain ⟨h1, h2⟩ := hk; obtain ⟨h3, h4⟩ := hg; omega)
            have wo339 := wo330.keep hc336 (fun k hk => by have := hk.2; omega) (fun k hk hg => by obtain ⟨h1, h2⟩ := hk; obtain ⟨h3, h4⟩ := hg; omega)
            have wo340 := wo331.keep hc336 (fun k hk => by have := hk.2; omega) (fun k hk hg => by obtain ⟨h1, h2⟩ := hk; obtain ⟨h3, h4⟩ := hg; omega)
            have wo341 := wo332.keep hc336 (fun k hk => by have := hk.2; omega) (fun k hk hg => by obtain ⟨h1, h2⟩ := hk; obtain ⟨h3, h4⟩ := hg; omega)
            have wo342 := wo327.keep hc336 (fun k hk => by have := hk.2; omega) (fun k hk hg => by obtain ⟨h1, h2⟩ := hk; obtain ⟨h3, h4⟩ := hg; omega)
            have ch343 : Ch w w335 none' := Ch.trans ch333 hc336 (fun _ f => f) (fun q hq hg => by obtain ⟨h1, h2⟩ := hg; omega)
            refine wpList_nil ?_
            refine then_normal (hK334 _ _ ?_)
            clear hK334
            refine wp_seq_k fun K344 hK344 => ?_
            refine wp_region_lit ?_
            refine o_move (v := (.slice (some ⟨bx, ox, none⟩) 1 c230)) rfl ?_
            refine op_call (args := [(.slice (some ⟨bx, ox, none⟩) 1 c230)]) Try.ent7 rfl (over7 w335 _ _ _ (Nat.le_of_ble_eq_true rfl) wo339) ?_
            rintro _ w345 ⟨rfl, hc346⟩
            have zw345 := Ch.size hc346
            have wo347 := wo338.keep hc346 (fun k hk => by have := hk.2; omega) (fun k hk hg => by obtain ⟨h1, h2⟩ := hk; obtain ⟨h3, h4⟩ := hg; omega)
            have wo349 := wo340.keep hc346 (fun k hk => by have := hk.2; omega) (fun k hk hg => by obtain ⟨h1, h2⟩ := hk; obtain ⟨h3, h4⟩ := hg; omega)
            have wo350 := wo341.keep hc346 (fun k hk => by have := hk.2; omega) (fun k hk hg => by obtain ⟨h1, h2⟩ := hk; obtain ⟨h3, h4⟩ := hg; omega)
            have wo351 := wo342.keep hc346 (fun k hk => by have := hk.2; omega) (fun k hk hg => by obtain ⟨h1, h2⟩ := hk; obtain ⟨h3, h4⟩ := hg; omega)
            have ch352 : Ch w w345 none' := Ch.trans ch343 hc346 (fun _ f => f) (fun q hq hg => by obtain ⟨h1, h2⟩ := hg; omega)
            refine wpList_nil ?_
            refine then_normal (hK344 _ _ ?_)
            clear hK344
            refine wp_seq_k fun K353 hK353 => ?_
            refine wp_seq_k fun K354 hK354 => ?_
            refine wp_region_lit ?_
            refine o_move (v := (.slice A327 D327.length c327)) rfl ?_
            refine o_move (v := (.slice A268 D268.length c268)) rfl ?_
            refine op_call (args := [(.slice A327 D327.length c327), (.slice A268 D268.length c268)]) Try.ent6 rfl (alike6 w345 _ _ _ _ (by omega) wo351.ws wo350.ws (by simp only [hd327, hd268])) ?_
            rintro _ w355 ⟨rfl, hc356⟩
            have zw355 := Ch.size hc356
            have wo357 := wo347.fresh hc356 (by omega)
            have wo358 := wo349.fresh hc356 (by omega)
            have wo359 := wo350.fresh hc356 (by omega)
            have wo360 := wo351.fresh hc356 (by omega)
            have ch361 : Ch w w355 none' := Ch.fresh ch352 hc356
            refine o_not (b := true) rfl ?_
            refine wpList_nil ?_
            refine then_normal (hK354 _ _ ?_)
            clear hK354
            refine cond_f rfl ?_
            refine wp_skip ?_
            refine then_normal (hK353 _ _ ?_)
            clear hK353
            refine wp_seq_k fun K362 hK362 => ?_
            refine wp_region_lit ?_
            refine op_call (args := [(.slice none 0 0)]) Try.ent9 rfl (save9 w355) ?_
            rintro vs w363 ⟨hc364, hrs⟩
            have zw363 := Ch.size hc364
            have wo365 := wo357.fresh hc364 (by omega)
            have wo366 := wo358.fresh hc364 (by omega)
            have wo367 := wo359.fresh hc364 (by omega)
            have wo368 := wo360.fresh hc364 (by omega)
            have ch369 : Ch w w363 none' := Ch.fresh ch361 hc364
            refine op_call (args := [vs]) Try.ent8 rfl (load8 w363 vs hrs) ?_
            rintro _ w370 ⟨rfl, hc371⟩
            have zw370 := Ch.size hc371
            have wo372 := wo365.fresh hc371 (by omega)
            have wo373 := wo366.fresh hc371 (by omega)
            have wo374 := wo367.fresh hc371 (by omega)
            have wo375 := wo368.fresh hc371 (by omega)
            have ch376 : Ch w w370 none' := Ch.fresh ch369 hc371
            refine o_move (v := (.tuple #[(.slice none 0 0), (.int .i64 0)])) rfl ?_
            refine o_extract (v := (.slice none 0 0)) rfl rfl ?_
            refine o_extract (v := (.int .i64 0)) rfl rfl ?_
            refine o_assign (v := (.slice none 0 0)) rfl ?_
            refine o_assign (v := (.int .i64 0)) rfl ?_
            refine wpList_nil ?_
            refine then_normal (hK362 _ _ ?_)
            clear hK362
            refine wp_seq_k fun K377 hK377 => ?_
            refine wp_region_lit ?_
            refine op_call (args := []) Try.ent10 rfl (awake10 w370) ?_
            rintro _ w378 ⟨rfl, hc379⟩
            have zw378 := Ch.size hc379
            have wo380 := wo372.fresh hc379 (by omega)
            have wo381 := wo373.fresh hc379 (by omega)
            have wo382 := wo374.fresh hc379 (by omega)
            have wo383 := wo375.fresh hc379 (by omega)
            have ch384 : Ch w w378 none' := Ch.fresh ch376 hc379
            refine o_move (v := (.bool true)) rfl ?_
            refine g_yes (t := 114) (b := true) rfl rfl rfl rfl ?_
            refine o_move (v := (.int .i64 0)) rfl ?_
            refine g_yes (t := 114) (b := true) rfl rfl rfl rfl ?_
            refine o_eql (k := .i64) (a := 0) (b := 0) (r := true) rfl rfl (by decide) ?_
            refine o_pick (b := true) (v := (.bool true)) rfl rfl ?_
            refine o_assign (v := (.bool true)) rfl ?_
            refine wpList_nil ?_
            refine then_normal (hK377 _ _ ?_)
            clear hK377
            refine wp_ret ?_
            exact ret_tmp (v := .bool true) rfl rfl ⟨rfl, ch384⟩
        · refine s_buildSlice1 (St.start w39 none') (cs := (x.op ++ [x.tr])) Try.underlying22 hi31 hz31 (by rw [hs31]; simp [hlen]) (by simp) (by simp [hlen]) rfl ?_
          intro b385 w386 st387 hnb385 hcb385
          have kSb385 := Ch.fresh hN40 hcb385
          have hbb385 := st387.blk 0 rfl
          have zw386 := Ch.size hcb385
          have wo388 := wo41.fresh hcb385 (by omega)
          have wo389 := wo42.fresh hcb385 (by omega)
          have ch390 : Ch w w386 none' := Ch.fresh ch43 hcb385
          have cn391 := Ch.fresh cn44 hcb385
          refine wpList_nil ?_
          refine then_normal ?_
          have hS392 : Ch w31 w386 none' := kSb385
          refine ⟨hS392, ?_⟩
          refine d_loud (i := 1) (by kernel_rfl) rfl ?_
          refine s_buildSlice1 (St.start w386 none') (cs := (x.op ++ [x.tr])) Try.underlying22 hi31 hz31 (by rw [hs31]; simp [hlen]) (by simp) (by simp [hlen]) rfl ?_
          intro b393 w394 st395 hnb393 hcb393
          have kSb393 := Ch.fresh hS392 hcb393
          have hbb393 := st395.blk 0 rfl
          have zw394 := Ch.size hcb393
          have wo396 := wo388.fresh hcb393 (by omega)
          have wo397 := wo389.fresh hcb393 (by omega)
          have ch398 : Ch w w394 none' := Ch.fresh ch390 hcb393
          have cn399 := Ch.fresh cn391 hcb393
          have sc400 := Ch.fresh (Ch.refl w386 none') hcb393
          refine wpList_nil ?_
          refine then_normal ?_
          have hS401 : Ch w31 w394 none' := kSb393
          refine ⟨hS401, ?_⟩
          refine d_loud (i := 2) (by kernel_rfl) rfl ?_
          refine op_call (args := [(.slice (some ⟨b393, 0, none⟩) 1 1)]) Try.ent4 rfl (wishes4 w394 _ [x] (by simp) (ws_one okx (hr.fresh ch398) (Rd.keep (st395.rd 0 rfl (k := 1) (size := 40) (by simp [hlen]) okx.ones) ((Ch.refl w394 none')) (fun _ _ f => f)))) ?_
          rintro v404 w402 ⟨hc403, D404, wo404, hd404⟩
          have kS404 := Ch.fresh hS401 hc403
          have sc405 := Ch.fresh sc400 hc403
          have sc406 := Ch.fresh (Ch.refl w394 none') hc403
          have zw402 := Ch.size hc403
          have wo407 := wo396.fresh hc403 (by omega)
          have wo408 := wo397.fresh hc403 (by omega)
          have ch409 : Ch w w402 none' := Ch.fresh ch398 hc403
          have cn410 := Ch.fresh cn399 hc403
          obtain ⟨A404, c404, rfl, _⟩ := wo404.ws.len
          refine wpList_nil ?_
          refine then_normal ?_
          have hS411 : Ch w31 w402 none' := kS404
          refine ⟨hS411, ?_⟩
          refine d_loud (i := 5) (by kernel_rfl) rfl ?_
          refine op_call (args := [(.slice (some ⟨b385, 0, none⟩) 1 1)]) Try.ent4 rfl (wishes4 w402 _ [x] (by simp) (ws_one okx (hr.fresh ch409) (Rd.keep (st387.rd 0 rfl (k := 1) (size := 40) (by simp [hlen]) okx.ones) (sc405) (fun _ _ f => f)))) ?_
          rintro v414 w412 ⟨hc413, D414, wo414, hd414⟩
          have kS414 := Ch.fresh hS411 hc413
          have sc415 := Ch.fresh sc405 hc413
          have sc416 := Ch.fresh sc406 hc413
          have zw412 := Ch.size hc413
          have wo417 := wo407.fresh hc413 (by omega)
          have wo418 := wo408.fresh hc413 (by omega)
          have wo419 := wo404.fresh hc413 (by omega)
          have ch420 : Ch w w412 none' := Ch.fresh ch409 hc413
          have cn421 := Ch.fresh cn410 hc413
          obtain ⟨A414, c414, rfl, _⟩ := wo414.ws.len
          refine wpList_nil ?_
          refine then_normal ?_
          have hS422 : Ch w31 w412 none' := kS414
          refine ⟨hS422, ?_⟩
          refine d_take (i := 6) (d := 9) (v := (.slice A404 D404.length c404)) rfl rfl rfl (by kernel_rfl) (by kernel_rfl) (by kernel_rfl) (np_then np_body) hS422 (fun w' hS => r_assign (v := (.slice A404 D404.length c404)) rfl) ?_
          refine d_take (i := 7) (d := 10) (v := (.slice A414 D414.length c414)) rfl rfl rfl (by kernel_rfl) (by kernel_rfl) (by kernel_rfl) (np_then np_body) hS422 (fun w' hS => r_assign (v := (.slice A414 D414.length c414)) rfl) ?_
          refine d_done (by kernel_rfl) ?_
          refine then_normal (hK37 _ _ ?_)
          clear hK37
          refine wp_seq_k fun K423 hK423 => ?_
          obtain ⟨z, hDz⟩ : ∃ z, D404 = [z] := List.length_eq_one_iff.1 (by rw [← dat_length, hd404]; rfl)
          subst hDz
          obtain ⟨bx, ox, cx9, e9, _⟩ := wo419.ws.form (Nat.le_refl 1)
          injection e9 with e9 _ e8; subst e9; subst e8
          have okz := (wo419.ws.each z (List.mem_singleton.2 rfl)).1
          have hdl28 : D28.length = D.length := by rw [← dat_length, hd28, dat_length]
          have hdl33 : D33.length = D.length := by rw [← dat_length, hd33, dat_length]
          have hdl414 : D414.length = 1 := by rw [← dat_length, hd414]; rfl
          refine d_begin (fun w' => Ch w412 w' none') (by kernel_rfl) ?_
          obtain ⟨w424, ew424⟩ : ∃ x, x = World.drew w412 := ⟨_, rfl⟩
          rw [← ew424]
          have hN425 : Ch w412 w424 none' := by rw [ew424]; exact Ch.drew _ _
          clear ew424
          have zw424 := Ch.size hN425
          have wo426 := wo417.fresh hN425 (by omega)
          have wo427 := wo418.fresh hN425 (by omega)
          have wo428 := wo419.fresh hN425 (by omega)
          have wo429 := wo414.fresh hN425 (by omega)
          have ch430 : Ch w w424 none' := Ch.fresh ch420 hN425
          refine d_take (i := 0) (d := 45) (v := (.slice A28 D28.length c28)) rfl rfl rfl (by kernel_rfl) (by kernel_rfl) (by kernel_rfl) (np_then np_body) hN425 (fun w' hS => r_move (v := (.slice A28 D28.length c28)) rfl) ?_
          refine d_take (i := 1) (d := 46) (v := (.slice (some ⟨bx, ox, none⟩) 1 c404)) rfl rfl rfl (by kernel_rfl) (by kernel_rfl) (by kernel_rfl) (np_then np_body) hN425 (fun w' hS => r_move (v := (.slice (some ⟨bx, ox, none⟩) 1 c404)) rfl) ?_
          refine d_take (i := 2) (d := 47) (v := (.pointer (some ⟨bx, ox + 0 * 40, none⟩))) rfl rfl rfl (by kernel_rfl) (by kernel_rfl) (by kernel_rfl) (np_then np_body) hN425 (fun w' hS => r_indexAddr (i := 0) (q := ox + 0 * 40) Try.underlying32 Try.size43 rfl rfl rfl (Nat.le_refl 1) rfl) ?_
          refine d_take (i := 3) (d := 48) (v := (.agg ((z.op ++ [z.tr]) : List Value).toArray)) rfl rfl rfl (by kernel_rfl) (by kernel_rfl) (by kernel_rfl) (np_then np_body) hN425 (fun w' hS => r_loads (cs := z.op ++ [z.tr]) Try.underlying43 rfl (Try.size43.trans (by simp [okz.len])) rfl (WS.range (wo419.ws.fresh hS) rfl (i := 0) (x := z) rfl)) ?_
          refine d_take (i := 5) (d := 50) (v := (.slice A28 D28.length c28)) rfl rfl rfl (by kernel_rfl) (by kernel_rfl) (by kernel_rfl) (np_then np_body) hN425 (fun w' hS => r_move (v := (.slice A28 D28.length c28)) rfl) ?_
          refine d_take (i := 6) (d := 51) (v := (.slice (some ⟨bx, ox, none⟩) 1 c404)) rfl rfl rfl (by kernel_rfl) (by kernel_rfl) (by kernel_rfl) (np_then np_body) hN425 (fun w' hS => r_move (v := (.slice (some ⟨bx, ox, none⟩) 1 c404)) rfl) ?_
          refine d_take (i := 7) (d := 52) (v := (.pointer (some ⟨bx, ox + 0 * 40, none⟩))) rfl rfl rfl (by kernel_rfl) (by kernel_rfl) (by kernel_rfl) (np_then np_body) hN425 (fun w' hS => r_indexAddr (i := 0) (q := ox + 0 * 40) Try.underlying32 Try.size43 rfl rfl rfl (Nat.le_refl 1) rfl) ?_
          refine d_take (i := 8) (d := 53) (v := (.agg ((z.op ++ [z.tr]) : List Value).toArray)) rfl rfl rfl (by kernel_rfl) (by kernel_rfl) (by kernel_rfl) (np_then np_body) hN425 (fun w' hS => r_loads (cs := z.op ++ [z.tr]) Try.underlying43 rfl (Try.size43.trans (by simp [okz.len])) rfl (WS.range (wo419.ws.fresh hS) rfl (i := 0) (x := z) rfl)) ?_
          refine d_loud (i := 4) (by kernel_rfl) rfl ?_
          refine op_call (args := [(.slice A28 D28.length c28), (.agg ((z.op ++ [z.tr]) : List Value).toArray)]) Try.ent5 rfl (add5 w424 _ _ z (by omega) (wo426.ws) okz (wo428.ws.each z (List.mem_singleton.2 rfl)).2) ?_
          rintro v433 w431 ⟨hc432, D433, wo433, hd433⟩
          have kS433 := Ch.fresh hN425 hc432
          have zw431 := Ch.size hc432
          have wo434 := wo426.fresh hc432 (by omega)
          have wo435 := wo427.fresh hc432 (by omega)
          have wo436 := wo428.fresh hc432 (by omega)
          have wo437 := wo429.fresh hc432 (by omega)
          have ch438 : Ch w w431 none' := Ch.fresh ch430 hc432
          obtain ⟨A433, c433, rfl, _⟩ := wo433.ws.len
          have hl433 := addD_len (dat D28) (z.op, z.n, z.cs)
          rw [← hd433, dat_length, dat_length] at hl433
          refine wpList_nil ?_
          refine then_normal ?_
          have hS439 : Ch w412 w431 none' := kS433
          refine ⟨hS439, ?_⟩
          refine d_loud (i := 9) (by kernel_rfl) rfl ?_
          refine op_call (args := [(.slice A28 D28.length c28), (.agg ((z.op ++ [z.tr]) : List Value).toArray)]) Try.ent5 rfl (add5 w431 _ _ z (by omega) (wo434.ws) okz (wo436.ws.each z (List.mem_singleton.2 rfl)).2) ?_
          rintro v442 w440 ⟨hc441, D442, wo442, hd442⟩
          have kS442 := Ch.fresh hS439 hc441
          have zw440 := Ch.size hc441
          have wo443 := wo434.fresh hc441 (by omega)
          have wo444 := wo435.fresh hc441 (by omega)
          have wo445 := wo436.fresh hc441 (by omega)
          have wo446 := wo437.fresh hc441 (by omega)
          have wo447 := wo433.fresh hc441 (by omega)
          have ch448 : Ch w w440 none' := Ch.fresh ch438 hc441
          obtain ⟨A442, c442, rfl, _⟩ := wo442.ws.len
          have hl442 := addD_len (dat D28) (z.op, z.n, z.cs)
          rw [← hd442, dat_length, dat_length] at hl442
          refine wpList_nil ?_
          refine then_normal ?_
          have hS449 : Ch w412 w440 none' := kS442
          refine ⟨hS449, ?_⟩
          refine d_take (i := 10) (d := 11) (v := (.slice A433 D433.length c433)) rfl rfl rfl (by kernel_rfl) (by kernel_rfl) (by kernel_rfl) (np_then np_body) hS449 (fun w' hS => r_assign (v := (.slice A433 D433.length c433)) rfl) ?_
          refine d_take (i := 11) (d := 12) (v := (.slice A442 D442.length c442)) rfl rfl rfl (by kernel_rfl) (by kernel_rfl) (by kernel_rfl) (np_then np_body) hS449 (fun w' hS => r_assign (v := (.slice A442 D442.length c442)) rfl) ?_
          refine d_done (by kernel_rfl) ?_
          refine then_normal (hK423 _ _ ?_)
          clear hK423
          refine wp_seq_k fun K450 hK450 => ?_
          refine wp_seq_k fun K451 hK451 => ?_
          refine wp_region_lit ?_
          refine o_move (v := (.slice A433 D433.length c433)) rfl ?_
          refine o_move (v := (.slice A442 D442.length c442)) rfl ?_
          refine op_call (args := [(.slice A433 D433.length c433), (.slice A442 D442.length c442)]) Try.ent6 rfl (alike6 w440 _ _ _ _ (by omega) wo447.ws wo442.ws (by simp only [hd433, hd442])) ?_
          rintro _ w452 ⟨rfl, hc453⟩
          have zw452 := Ch.size hc453
          have wo454 := wo443.fresh hc453 (by omega)
          have wo455 := wo444.fresh hc453 (by omega)
          have wo456 := wo445.fresh hc453 (by omega)
          have wo457 := wo446.fresh hc453 (by omega)
          have wo458 := wo447.fresh hc453 (by omega)
          have wo459 := wo442.fresh hc453 (by omega)
          have ch460 : Ch w w452 none' := Ch.fresh ch448 hc453
          refine o_not (b := true) rfl ?_
          refine o_move (v := (.bool false)) rfl ?_
          refine g_yes (t := 59) (b := false) rfl rfl rfl rfl ?_
          refine o_move (v := (.slice A433 D433.length c433)) rfl ?_
          refine g_yes (t := 59) (b := false) rfl rfl rfl rfl ?_
          refine o_len (z := ((D433.length : Nat) : Int)) Try.underlying32 rfl rfl ?_
          refine g_yes (t := 59) (b := false) rfl rfl rfl rfl ?_
          refine o_move (v := (.slice A28 D28.length c28)) rfl ?_
          refine g_yes (t := 59) (b := false) rfl rfl rfl rfl ?_
          refine o_len (z := ((D28.length : Nat) : Int)) Try.underlying32 rfl rfl ?_
          refine g_yes (t := 59) (b := false) rfl rfl rfl rfl ?_
          refine o_lss (k := .i64) (a := ((D433.length : Nat) : Int)) (b := ((D28.length : Nat) : Int)) (r := false) rfl rfl (decide_eq_false (by omega)) ?_
          refine o_pick (b := false) (v := (.bool false)) rfl rfl ?_
          refine o_move (v := (.bool false)) rfl ?_
          refine g_yes (t := 66) (b := false) rfl rfl rfl rfl ?_
          refine o_move (v := (.slice A433 D433.length c433)) rfl ?_
          refine g_yes (t := 66) (b := false) rfl rfl rfl rfl ?_
          refine o_len (z := ((D433.length : Nat) : Int)) Try.underlying32 rfl rfl ?_
          refine g_yes (t := 66) (b := false) rfl rfl rfl rfl ?_
          refine o_move (v := (.slice A28 D28.length c28)) rfl ?_
          refine g_yes (t := 66) (b := false) rfl rfl rfl rfl ?_
          refine o_len (z := ((D28.length : Nat) : Int)) Try.underlying32 rfl rfl ?_
          refine g_yes (t := 66) (b := false) rfl rfl rfl rfl ?_
          refine o_add64 (a := ((D28.length : Nat) : Int)) (b := 1) (c := ((D28.length + 1 : Nat) : Int)) rfl rfl (by omega) (by omega) (by omega) ?_
          refine g_yes (t := 66) (b := false) rfl rfl rfl rfl ?_
          refine o_gtr (k := .i64) (a := ((D433.length : Nat) : Int)) (b := ((D28.length + 1 : Nat) : Int)) (r := false) rfl rfl (decide_eq_false (by omega)) ?_
          refine o_pick (b := false) (v := (.bool false)) rfl rfl ?_
          refine o_move (v := (.bool false)) rfl ?_
          refine g_yes (t := 74) (b := false) rfl rfl rfl rfl ?_
          refine o_move (v := (.slice A433 D433.length c433)) rfl ?_
          refine g_yes (t := 74) (b := false) rfl rfl rfl rfl ?_
          refine o_move (v := (.slice A28 D28.length c28)) rfl ?_
          refine g_yes (t := 74) (b := false) rfl rfl rfl rfl ?_
          refine o_len (z := ((D28.length : Nat) : Int)) Try.underlying32 rfl rfl ?_
          refine g_yes (t := 74) (b := false) rfl rfl rfl rfl ?_
          have hcap433 := cap_of wo458.ws
          refine o_slice_h (h := D28.length) Try.underlying32 Try.size43 rfl rfl rfl (by omega) ?_
          refine g_yes (t := 74) (b := false) rfl rfl rfl rfl ?_
          refine o_move (v := (.slice A28 D28.length c28)) rfl ?_
          refine g_yes (t := 74) (b := false) rfl rfl rfl rfl ?_
          refine op_call (args := [(.slice A433 D28.length c433), (.slice A28 D28.length c28)]) Try.ent6 rfl (alike6 w452 _ _ _ _ (by rw [List.length_take]; omega) (WS.take wo458.ws (by omega)) wo454.ws (by rw [dat_take, hd433, ← dat_length, addD_take])) ?_
          rintro _ w461 ⟨rfl, hc462⟩
          have zw461 := Ch.size hc462
          have wo463 := wo454.fresh hc462 (by omega)
          have wo464 := wo455.fresh hc462 (by omega)
          have wo465 := wo456.fresh hc462 (by omega)
          have wo466 := wo457.fresh hc462 (by omega)
          have wo467 := wo458.fresh hc462 (by omega)
          have wo468 := wo459.fresh hc462 (by omega)
          have ch469 : Ch w w461 none' := Ch.fresh ch460 hc462
          refine g_yes (t := 74) (b := false) rfl rfl rfl rfl ?_
          refine o_not (b := true) rfl ?_
          refine o_pick (b := false) (v := (.bool false)) rfl rfl ?_
          refine wpList_nil ?_
          refine then_normal (hK451 _ _ ?_)
          clear hK451
          refine cond_f rfl ?_
          refine wp_skip ?_
          refine then_normal (hK450 _ _ ?_)
          clear hK450
          refine wp_seq_k fun K470 hK470 => ?_
          refine wp_region_lit ?_
          refine o_move (v := (.slice A433 D433.length c433)) rfl ?_
          refine op_call (args := [(.slice A433 D433.length c433)]) Try.ent7 rfl (over7 w461 _ _ _ (by omega) wo467) ?_
          rintro _ w471 ⟨rfl, hc472⟩
          have zw471 := Ch.size hc472
          have wo473 := wo463.keep hc472 (fun k hk => by have := hk.2; omega) (fun k hk hg => by obtain ⟨h1, h2⟩ := hk; obtain ⟨h3, h4⟩ := hg; omega)
          have wo474 := wo464.keep hc472 (fun k hk => by have := hk.2; omega) (fun k hk hg => by obtain ⟨h1, h2⟩ := hk; obtain ⟨h3, h4⟩ := hg; omega)
          have wo475 := wo465.keep hc472 (fun k hk => by have := hk.2; omega) (fun k hk hg => by obtain ⟨h1, h2⟩ := hk; obtain ⟨h3, h4⟩ := hg; omega)
          have wo476 := wo466.keep hc472 (fun k hk => by have := hk.2; omega) (fun k hk hg => by obtain ⟨h1, h2⟩ := hk; obtain ⟨h3, h4⟩ := hg; omega)
          have wo478 := wo468.keep hc472 (fun k hk => by have := hk.2; omega) (fun k hk hg => by obtain ⟨h1, h2⟩ := hk; obtain ⟨h3, h4⟩ := hg; omega)
          have ch479 : Ch w w471 none' := Ch.trans ch469 hc472 (fun _ f => f) (fun q hq hg => by obtain ⟨h1, h2⟩ := hg; omega)
          refine wpList_nil ?_
          refine then_normal (hK470 _ _ ?_)
          clear hK470
          refine wp_seq_k fun K480 hK480 => ?_
          refine wp_seq_k fun K481 hK481 => ?_
          refine wp_region_lit ?_
          refine o_move (v := (.slice A28 D28.length c28)) rfl ?_
          refine o_move (v := (.slice A33 D33.length c33)) rfl ?_
          refine op_call (args := [(.slice A28 D28.length c28), (.slice A33 D33.length c33)]) Try.ent6 rfl (alike6 w471 _ _ _ _ (by omega) wo473.ws wo474.ws (by simp only [hd28, hd33])) ?_
          rintro _ w482 ⟨rfl, hc483⟩
          have zw482 := Ch.size hc483
          have wo484 := wo473.fresh hc483 (by omega)
          have wo485 := wo474.fresh hc483 (by omega)
          have wo486 := wo475.fresh hc483 (by omega)
          have wo487 := wo476.fresh hc483 (by omega)
          have wo488 := wo478.fresh hc483 (by omega)
          have ch489 : Ch w w482 none' := Ch.fresh ch479 hc483
          refine o_not (b := true) rfl ?_
          refine o_move (v := (.bool false)) rfl ?_
          refine g_yes (t := 89) (b := false) rfl rfl rfl rfl ?_
          refine o_move (v := (.slice (some ⟨bx, ox, none⟩) 1 c404)) rfl ?_
          refine g_yes (t := 89) (b := false) rfl rfl rfl rfl ?_
          refine o_move (v := (.slice A414 D414.length c414)) rfl ?_
          refine g_yes (t := 89) (b := false) rfl rfl rfl rfl ?_
          refine op_call (args := [(.slice (some ⟨bx, ox, none⟩) 1 c404), (.slice A414 D414.length c414)]) Try.ent6 rfl (alike6 w482 _ _ _ _ (Nat.le_of_ble_eq_true rfl) wo486.ws wo487.ws (by simp only [hd404, hd414])) ?_
          rintro _ w490 ⟨rfl, hc491⟩
          have zw490 := Ch.size hc491
          have wo492 := wo484.fresh hc491 (by omega)
          have wo493 := wo485.fresh hc491 (by omega)
          have wo494 := wo486.fresh hc491 (by omega)
          have wo495 := wo487.fresh hc491 (by omega)
          have wo496 := wo488.fresh hc491 (by omega)
          have ch497 : Ch w w490 none' := Ch.fresh ch489 hc491
          refine g_yes (t := 89) (b := false) rfl rfl rfl rfl ?_
          refine o_not (b := true) rfl ?_
          refine o_pick (b := false) (v := (.bool false)) rfl rfl ?_
          refine wpList_nil ?_
          refine then_normal (hK481 _ _ ?_)
          clear hK481
          refine cond_f rfl ?_
          refine wp_skip ?_
          refine then_normal (hK480 _ _ ?_)
          clear hK480
          refine wp_seq_k fun K498 hK498 => ?_
          refine wp_region_lit ?_
          refine o_move (v := (.slice A28 D28.length c28)) rfl ?_
          refine o_move (v := (.slice (some ⟨bx, ox, none⟩) 1 c404)) rfl ?_
          refine o_indexAddr (i := 0) (q := ox + 0 * 40) Try.underlying32 Try.size43 rfl rfl rfl (Nat.le_refl 1) rfl ?_
          refine o_loads (cs := z.op ++ [z.tr]) Try.underlying43 rfl (Try.size43.trans (by simp [okz.len])) rfl (WS.range wo494.ws rfl (i := 0) (x := z) rfl) ?_
          refine op_call (args := [(.slice A28 D28.length c28), (.agg ((z.op ++ [z.tr]) : List Value).toArray)]) Try.ent5 rfl (add5 w490 _ _ z (by omega) (wo492.ws) okz (wo494.ws.each z (List.mem_singleton.2 rfl)).2) ?_
          rintro v501 w499 ⟨hc500, D501, wo501, hd501⟩
          have zw499 := Ch.size hc500
          have wo502 := wo492.fresh hc500 (by omega)
          have wo503 := wo493.fresh hc500 (by omega)
          have wo504 := wo494.fresh hc500 (by omega)
          have wo505 := wo495.fresh hc500 (by omega)
          have wo506 := wo496.fresh hc500 (by omega)
          have ch507 : Ch w w499 none' := Ch.fresh ch497 hc500
          obtain ⟨A501, c501, rfl, _⟩ := wo501.ws.len
          have hl501 := addD_len (dat D28) (z.op, z.n, z.cs)
          rw [← hd501, dat_length, dat_length] at hl501
          refine o_assign (v := (.slice A501 D501.length c501)) rfl ?_
          refine wpList_nil ?_
          refine then_normal (hK498 _ _ ?_)
          clear hK498
          refine wp_seq_k fun K508 hK508 => ?_
          refine wp_region_lit ?_
          refine o_move (v := (.slice A28 D28.length c28)) rfl ?_
          refine op_call (args := [(.slice A28 D28.length c28)]) Try.ent7 rfl (over7 w499 _ _ _ (by omega) wo502) ?_
          rintro _ w509 ⟨rfl, hc510⟩
          have zw509 := Ch.size hc510
          have wo512 := wo503.keep hc510 (fun k hk => by have := hk.2; omega) (fun k hk hg => by obtain ⟨h1, h2⟩ := hk; obtain ⟨h3, h4⟩ := hg; omega)
          have wo513 := wo504.keep hc510 (fun k hk => by have := hk.2; omega) (fun k hk hg => by obtain ⟨h1, h2⟩ := hk; obtain ⟨h3, h4⟩ := hg; omega)
          have wo514 := wo505.keep hc510 (fun k hk => by have := hk.2; omega) (fun k hk hg => by obtain ⟨h1, h2⟩ := hk; obtain ⟨h3, h4⟩ := hg; omega)
          have wo515 := wo506.keep hc510 (fun k hk => by have := hk.2; omega) (fun k hk hg => by obtain ⟨h1, h2⟩ := hk; obtain ⟨h3, h4⟩ := hg; omega)
          have wo516 := wo501.keep hc510 (fun k hk => by have := hk.2; omega) (fun k hk hg => by obtain ⟨h1, h2⟩ := hk; obtain ⟨h3, h4⟩ := hg; omega)
          have ch517 : Ch w w509 none' := Ch.trans ch507 hc510 (fun _ f => f) (fun q hq hg => by obtain ⟨h1, h2⟩ := hg; omega)
          refine wpList_nil ?_
          refine then_normal (hK508 _ _ ?_)
          clear hK508
          refine wp_seq_k fun K518 hK518 => ?_
          refine wp_region_lit ?_
          refine o_move (v := (.slice (some ⟨bx, ox, none⟩) 1 c404)) rfl ?_
          refine op_call (args := [(.slice (some ⟨bx, ox, none⟩) 1 c404)]) Try.ent7 rfl (over7 w509 _ _ _ (Nat.le_of_ble_eq_true rfl) wo513) ?_
          rintro _ w519 ⟨rfl, hc520⟩
          have zw519 := Ch.size hc520
          have wo521 := wo512.keep hc520 (fun k hk => by have := hk.2; omega) (fun k hk hg => by obtain ⟨h1, h2⟩ := hk; obtain ⟨h3, h4⟩ := hg; omega)
          have wo523 := wo514.keep hc520 (fun k hk => by have := hk.2; omega) (fun k hk hg => by obtain ⟨h1, h2⟩ := hk; obtain ⟨h3, h4⟩ := hg; omega)
          have wo524 := wo515.keep hc520 (fun k hk => by have := hk.2; omega) (fun k hk hg => by obtain ⟨h1, h2⟩ := hk; obtain ⟨h3, h4⟩ := hg; omega)
          have wo525 := wo516.keep hc520 (fun k hk => by have := hk.2; omega) (fun k hk hg => by obtain ⟨h1, h2⟩ := hk; obtain ⟨h3, h4⟩ := hg; omega)
          have ch526 : Ch w w519 none' := Ch.trans ch517 hc520 (fun _ f => f) (fun q hq hg => by obtain ⟨h1, h2⟩ := hg; omega)
          refine wpList_nil ?_
          refine then_normal (hK518 _ _ ?_)
          clear hK518
          refine wp_seq_k fun K527 hK527 => ?_
          refine wp_seq_k fun K528 hK528 => ?_
          refine wp_region_lit ?_
          refine o_move (v := (.slice A501 D501.length c501)) rfl ?_
          refine o_move (v := (.slice A442 D442.length c442)) rfl ?_
          refine op_call (args := [(.slice A501 D501.length c501), (.slice A442 D442.length c442)]) Try.ent6 rfl (alike6 w519 _ _ _ _ (by omega) wo525.ws wo524.ws (by simp only [hd501, hd442])) ?_
          rintro _ w529 ⟨rfl, hc530⟩
          have zw529 := Ch.size hc530
          have wo531 := wo521.fresh hc530 (by omega)
          have wo532 := wo523.fresh hc530 (by omega)
          have wo533 := wo524.fresh hc530 (by omega)
          have wo534 := wo525.fresh hc530 (by omega)
          have ch535 : Ch w w529 none' := Ch.fresh ch526 hc530
          refine o_not (b := true) rfl ?_
          refine wpList_nil ?_
          refine then_normal (hK528 _ _ ?_)
          clear hK528
          refine cond_f rfl ?_
          refine wp_skip ?_
          refine then_normal (hK527 _ _ ?_)
          clear hK527
          refine wp_seq_k fun K536 hK536 => ?_
          refine wp_region_lit ?_
          refine op_call (args := [(.slice none 0 0)]) Try.ent9 rfl (save9 w529) ?_
          rintro vs w537 ⟨hc538, hrs⟩
          have zw537 := Ch.size hc538
          have wo539 := wo531.fresh hc538 (by omega)
          have wo540 := wo532.fresh hc538 (by omega)
          have wo541 := wo533.fresh hc538 (by omega)
          have wo542 := wo534.fresh hc538 (by omega)
          have ch543 : Ch w w537 none' := Ch.fresh ch535 hc538
          refine op_call (args := [vs]) Try.ent8 rfl (load8 w537 vs hrs) ?_
          rintro _ w544 ⟨rfl, hc545⟩
          have zw544 := Ch.size hc545
          have wo546 := wo539.fresh hc545 (by omega)
          have wo547 := wo540.fresh hc545 (by omega)
          have wo548 := wo541.fresh hc545 (by omega)
          have wo549 := wo542.fresh hc545 (by omega)
          have ch550 : Ch w w544 none' := Ch.fresh ch543 hc545
          refine o_move (v := (.tuple #[(.slice none 0 0), (.int .i64 0)])) rfl ?_
          refine o_extract (v := (.slice none 0 0)) rfl rfl ?_
          refine o_extract (v := (.int .i64 0)) rfl rfl ?_
          refine o_assign (v := (.slice none 0 0)) rfl ?_
          refine o_assign (v := (.int .i64 0)) rfl ?_
          refine wpList_nil ?_
          refine then_normal (hK536 _ _ ?_)
          clear hK536
          refine wp_seq_k fun K551 hK551 => ?_
          refine wp_region_lit ?_
          refine op_call (args := []) Try.ent10 rfl (awake10 w544) ?_
          rintro _ w552 ⟨rfl, hc553⟩
          have zw552 := Ch.size hc553
          have wo554 := wo546.fresh hc553 (by omega)
          have wo555 := wo547.fresh hc553 (by omega)
          have wo556 := wo548.fresh hc553 (by omega)
          have wo557 := wo549.fresh hc553 (by omega)
          have ch558 : Ch w w552 none' := Ch.fresh ch550 hc553
          refine o_move (v := (.bool true)) rfl ?_
          refine g_yes (t := 114) (b := true) rfl rfl rfl rfl ?_
          refine o_move (v := (.int .i64 0)) rfl ?_
          refine g_yes (t := 114) (b := true) rfl rfl rfl rfl ?_
          refine o_eql (k := .i64) (a := 0) (b := 0) (r := true) rfl rfl (by decide) ?_
          refine o_pick (b := true) (v := (.bool true)) rfl rfl ?_
          refine o_assign (v := (.bool true)) rfl ?_
          refine wpList_nil ?_
          refine then_normal (hK551 _ _ ?_)
          clear hK551
          refine wp_ret ?_
          exact ret_tmp (v := .bool true) rfl rfl ⟨rfl, ch558⟩
end Go.Proofs.Ytocmlbnaikojkaa
