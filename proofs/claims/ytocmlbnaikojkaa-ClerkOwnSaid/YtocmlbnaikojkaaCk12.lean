/- ClerkOwn: a memo with a trail alone, turned into the program's: its trail is new, with the same hops. -/
import Derived.Test.YtocmlbnaikojkaaCk11
namespace Go.Proofs.Ytocmlbnaikojkaa
open Go Go.Sx
attribute [local irreducible] Go.wpList

/-- A memo's cells: all empty but the trail. -/
def mm (tr : Value) : List Value := [.int .i64 0, .int .u32 0, .int .u64 0] ++ z40 ++ ([tr] ++ zs)
theorem z40_len : z40.length = 39 := rfl
theorem z40_one : ∀ v ∈ z40, v.oneCell' = true := fitsAll_one fits_z40
theorem mm_len (tr : Value) : (mm tr).length = 1069 := by unfold mm; simp only [List.length_append, List.length_cons, List.length_nil, zs_len, z40_len]
theorem mm_one {tr : Value} (h : tr.oneCell' = true) : ∀ v ∈ mm tr, v.oneCell' = true := fun v hv => by
  rcases List.mem_append.1 hv with hv | hv
  · rcases List.mem_append.1 hv with hv | hv
    · rcases List.mem_cons.1 hv with rfl | hv; rfl; rcases List.mem_cons.1 hv with rfl | hv; rfl; rw [List.mem_singleton.1 hv]; rfl
    · exact z40_one v hv
  · rcases List.mem_append.1 hv with hv | hv
    · rw [List.mem_singleton.1 hv]; exact h
    · exact zs_one v hv
theorem mm_hd (tr : Value) : ([.int .i64 0, .int .u32 0, .int .u64 0] ++ z40 : List Value).length = 42 := rfl
theorem mm_op (tr : Value) : ((mm tr).drop 3).take z40.length = z40 := mid_part (a := [.int .i64 0, .int .u32 0, .int .u64 0])
theorem mm_tr (tr : Value) : (mm tr)[42]? = some tr := by
  unfold mm; rw [List.getElem?_append_right (by rw [mm_hd tr]; omega), mm_hd tr]; rfl
theorem mm_sig (tr : Value) : ((mm tr).drop 43).take zs.length = zs := by
  have h : (mm tr).drop 43 = zs := by
    unfold mm
    rw [List.drop_append, mm_hd tr, List.drop_of_length_le (by rw [mm_hd tr]; omega)]
    rfl
  rw [h, List.take_length]
theorem mm_set (tr u : Value) : (mm tr).set 42 u = mm u := by
  unfold mm; rw [List.set_append_right _ _ (by rw [mm_hd tr]; omega), mm_hd tr]; rfl
theorem mm_kind (tr : Value) : (mm tr)[0]? = some (.int .i64 0) := rfl
theorem mm_chan (tr : Value) : (mm tr)[1]? = some (.int .u32 0) := rfl
theorem mm_round (tr : Value) : (mm tr)[2]? = some (.int .u64 0) := rfl
theorem zero64 : zeroOf Try.prog 64 = some (mm (.slice none 0 0)) := by kernel_rfl
def pl6 : List (Nat × Nat) := [(0, 1), (1, 1), (2, 1), (3, 39), (42, 1), (43, 1026)]
theorem pl64 : placesOf Try.prog 64 = some (pl6, mm (.slice none 0 0)) := by kernel_rfl
theorem pl74 : placesOf Try.prog 74 = some (pl6, mm (.slice none 0 0)) := by kernel_rfl
theorem same64 : sameOk pl6 (mm (.slice none 0 0)) [(0, [.int .i64 0]), (1, [.int .u32 0]), (2, [.int .u64 0]), (3, z40), (5, zs)] :=
  ⟨⟨0, rfl, by rw [mm_len]; exact Nat.le_of_ble_eq_true rfl, rfl⟩, ⟨1, rfl, by rw [mm_len]; exact Nat.le_of_ble_eq_true rfl, rfl⟩, ⟨2, rfl, by rw [mm_len]; exact Nat.le_of_ble_eq_true rfl, rfl⟩,
   ⟨3, by rw [z40_len]; rfl, by rw [mm_len, z40_len]; omega, mm_op _⟩, ⟨43, by rw [zs_len]; rfl, by rw [mm_len, zs_len]; omega, mm_sig _⟩, trivial⟩
theorem fill74 (tr : Value) : fillL pl6 (mm (.slice none 0 0)) [(4, [tr])] = mm tr := mm_set _ tr

def z81 : List Value := [.int .u32 0, .int .u64 0, .int .u64 0]
theorem zero98 : zeroOf Try.prog 98 = some z81 := by kernel_rfl
theorem pl81 : placesOf Try.prog 81 = some ([(0, 1), (1, 1), (2, 1)], z81) := by kernel_rfl
theorem fits81 {l : List Value} (h : fitsAll ks81 l = true) : ∃ a b c, l = [.int .u32 a, .int .u64 b, .int .u64 c] := by
  obtain ⟨p0, p, rfl, h0, hp⟩ := fits_split (ks := [.i .u32]) (ls := [.i .u64, .i .u64]) h
  obtain ⟨p1, p2, rfl, h1, h2⟩ := fits_split (ks := [.i .u64]) (ls := [.i .u64]) hp
  obtain ⟨a, rfl⟩ := fits_one h0
  obtain ⟨b, rfl⟩ := fits_one h1
  obtain ⟨c, rfl⟩ := fits_one h2
  exact ⟨a, b, c, rfl⟩
theorem hop_next {x : Wish} (h : OkW x) {k : Nat} (hk : k < x.n) : x.cs.take ((k + 1) * 3) = x.cs.take (k * 3) ++ (x.cs.drop (k * 3)).take 3 := by
  rw [show (k + 1) * 3 = k * 3 + 3 from by omega, List.take_add]
theorem row_one {v : Value} {k : Nat} {xs : List Value} {e : TypeId} {size : Nat} {h : Nat → Option Obj} (hr : (row v k xs e size).ok h) : v.oneCell' = true := by
  rcases hr.2 with h | ⟨_, _, _, h, _⟩ <;> (first | rw [h.1] | rw [h]) <;> rfl


set_option maxHeartbeats 1000000 in
theorem to12 (w : World) (x : Wish) (hx : OkW x) (hr : Rd w x.tr x.n x.cs 3) : Ret Try.prog 12 [.agg (mm x.tr).toArray] w fun v w' => ∃ tr', v = .agg (mm tr').toArray ∧ NewRow w w' tr' x.n x.cs 81 3 := by
  have hxn := hx.n
  obtain ⟨Ax, cx, htx, hAx⟩ := hr.len
  obtain ⟨i81, hi81, hz81, hs81, hb81⟩ := info_parts Try.inf81
  refine enter (n := 40) Try.func12 rfl Try.ntmps12 (Nat.le_of_ble_eq_true rfl) ?_
  have st := St.start w none'
  refine wp_seq_k fun K1 hK1 => ?_
  refine wp_region_lit ?_
  refine s_box st (cs := (mm x.tr)) rfl ?_
  intro b2 w3 st4 hbb2 hcb2
  refine s_alloc' st4 zero64 ?_
  intro b5 w6 st7 hbb5 hcb5
  refine wpList_nil ?_
  refine then_normal (hK1 _ _ ?_)
  clear hK1
  refine wp_seq_k fun K8 hK8 => ?_
  refine d_begin (fun w' => Ch w6 w' none') (by kernel_rfl) ?_
  obtain ⟨w9, ew9⟩ : ∃ x, x = World.drew w6 := ⟨_, rfl⟩
  rw [← ew9]
  have hNw9 : Ch w6 w9 none' := by rw [ew9]; exact Ch.drew _ _
  have hSw9 := hNw9.mono (F := none') (G := none') (fun _ _ f => f.elim)
  have st10 := st7.keep hNw9
  clear ew9
  refine d_take (i := 0) (d := 6) (v := (.pointer (some ⟨b2, 0, none⟩))) rfl rfl rfl (by kernel_rfl) (by kernel_rfl) (by kernel_rfl) (np_then np_body) hSw9 (fun w' hS => r_fieldAddr (q := 0) (off := 0) (by kernel_rfl) rfl rfl) ?_
  refine d_take (i := 1) (d := 7) (v := (.int .i64 0)) rfl rfl rfl (by kernel_rfl) (by kernel_rfl) (by kernel_rfl) (np_then np_body) hSw9 (fun w' hS => r_load (v := (.int .i64 0)) Try.underlying3 rfl rfl ((st7.keep hS).cell 1 rfl 0 (mm_kind _))) ?_
  refine d_take (i := 2) (d := 8) (v := (.pointer (some ⟨b2, 1, none⟩))) rfl rfl rfl (by kernel_rfl) (by kernel_rfl) (by kernel_rfl) (np_then np_body) hSw9 (fun w' hS => r_fieldAddr (q := 1) (off := 1) (by kernel_rfl) rfl rfl) ?_
  refine d_take (i := 3) (d := 9) (v := (.int .u32 0)) rfl rfl rfl (by kernel_rfl) (by kernel_rfl) (by kernel_rfl) (np_then np_body) hSw9 (fun w' hS => r_load (v := (.int .u32 0)) Try.underlying54 rfl rfl ((st7.keep hS).cell 1 rfl 1 (mm_chan _))) ?_
  refine d_take (i := 4) (d := 10) (v := (.pointer (some ⟨b2, 2, none⟩))) rfl rfl rfl (by kernel_rfl) (by kernel_rfl) (by kernel_rfl) (np_then np_body) hSw9 (fun w' hS => r_fieldAddr (q := 2) (off := 2) (by kernel_rfl) rfl rfl) ?_
  refine d_take (i := 5) (d := 11) (v := (.int .u64 0)) rfl rfl rfl (by kernel_rfl) (by kernel_rfl) (by kernel_rfl) (np_then np_body) hSw9 (fun w' hS => r_load (v := (.int .u64 0)) Try.underlying23 rfl rfl ((st7.keep hS).cell 1 rfl 2 (mm_round _))) ?_
  refine d_take (i := 6) (d := 12) (v := (.pointer (some ⟨b2, 3, none⟩))) rfl rfl rfl (by kernel_rfl) (by kernel_rfl) (by kernel_rfl) (np_then np_body) hSw9 (fun w' hS => r_fieldAddr (q := 3) (off := 3) (by kernel_rfl) rfl rfl) ?_
  refine d_take (i := 7) (d := 13) (v := (.agg (z40 : List Value).toArray)) rfl rfl rfl (by kernel_rfl) (by kernel_rfl) (by kernel_rfl) (np_then np_body) hSw9 (fun w' hS => r_loads (cs := z40) Try.underlying28 rfl (Try.size28.trans (by rw [z40_len])) rfl ((st7.keep hS).range 1 rfl 3 (mm_op _))) ?_
  refine d_take (i := 9) (d := 15) (v := (.pointer (some ⟨b2, 43, none⟩))) rfl rfl rfl (by kernel_rfl) (by kernel_rfl) (by kernel_rfl) (np_then np_body) hSw9 (fun w' hS => r_fieldAddr (q := 43) (off := 43) (by kernel_rfl) rfl rfl) ?_
  refine d_take (i := 10) (d := 16) (v := (.agg (zs : List Value).toArray)) rfl rfl rfl (by kernel_rfl) (by kernel_rfl) (by kernel_rfl) (np_then np_body) hSw9 (fun w' hS => r_loads (cs := zs) Try.underlying72 rfl (Try.size72.trans (by rw [zs_len])) rfl ((st7.keep hS).range 1 rfl 43 (mm_sig _))) ?_
  refine d_two (i := 8) (j := 13) (by kernel_rfl) rfl rfl ?_ ?_
  · refine op_call (args := [.agg z40.toArray]) Try.ent11 rfl (op11 w9 z40 fits_z40) ?_
    rintro v8 w11 ⟨rfl, hc13⟩
    have st12 := st10.keep hc13
    have hkw11 := Ch.fresh hSw9 hc13
    refine wpList_nil ?_
    refine then_normal ?_
    have hS14 : Ch w6 w11 none' := hkw11
    refine ⟨hS14, ?_⟩
    refine d_two (i := 11) (j := 13) (by kernel_rfl) rfl rfl ?_ ?_
    · refine op_call (args := [.agg zs.toArray]) Try.ent28 rfl (to28 w11) ?_
      rintro v8 w15 ⟨rfl, hc17⟩
      have st16 := st12.keep hc17
      have hkw15 := Ch.fresh hS14 hc17
      refine wpList_nil ?_
      refine then_normal ?_
      have hS18 : Ch w6 w15 none' := hkw15
      refine ⟨hS18, ?_⟩
      refine d_take (i := 12) (d := 18) (v := (.agg ((mm (.slice none 0 0)) : List Value).toArray)) rfl rfl rfl (by kernel_rfl) (by kernel_rfl) (by kernel_rfl) (np_then np_body) hS18 (fun w' hS => r_build pl64 (vals := [(0, [.int .i64 0]), (1, [.int .u32 0]), (2, [.int .u64 0]), (3, z40), (5, zs)]) rfl (fillOk_same _ same64) (fill_same _ same64)) ?_
      refine d_loud (i := 13) (by kernel_rfl) rfl ?_
      refine s_alloc' st16 zero64 ?_
      intro b19 w20 st21 hbb19 hcb19
      have hkb19 := Ch.fresh hS18 hcb19
      have hltb19 : w6.heap.size ≤ b19 := Nat.le_trans (Ch.size hS18) hbb19
      refine wpList_nil ?_
      refine then_normal ?_
      have hS22 : Ch w6 w20 none' := hkb19
      refine ⟨hS22, ?_⟩
      refine d_loud (i := 14) (by kernel_rfl) rfl ?_
      refine s_stores st21 0 (vs := mm (.slice none 0 0)) rfl (Try.size64.trans (by rw [mm_len])) rfl rfl (mm_one rfl) (by simp only [mm_len]; omega) ?_
      intro w23 st24 hc25
      rw [setFrom_full (by simp only [mm_len])] at st24
      have hkw23 := hS22.trans hc25 (H := none') (fun _ f => f) (fun q hq e => by have e : q = b19 := e; omega)
      refine wpList_nil ?_
      refine then_normal ?_
      have hS26 : Ch w6 w23 none' := hkw23
      refine ⟨hS26, ?_⟩
      refine d_done (by kernel_rfl) ?_
      refine then_normal (hK8 _ _ ?_)
      clear hK8
      refine wp_seq_k fun K27 hK27 => ?_
      refine wp_seq_k fun K28 hK28 => ?_
      refine wp_region_lit ?_
      refine o_fieldAddr (q := 42) (off := 42) (by kernel_rfl) rfl rfl ?_
      refine o_load (v := (.slice Ax x.n cx)) Try.underlying29 rfl rfl (st24.cell 2 rfl 42 ((mm_tr _).trans (by rw [htx]))) ?_
      refine o_len (z := ((x.n : Nat) : Int)) Try.underlying29 rfl rfl ?_
      refine o_move (v := (.int .i64 0)) rfl ?_
      refine wpList_nil ?_
      refine then_normal (hK28 _ _ ?_)
      clear hK28
      refine wp_block ?_
      refine Sx.loop (n := 40) (fun m E w1 => ∃ k : Nat, k ≤ x.n ∧ m = x.n - k ∧ Has E [(22, .int .i64 (k : Int)), (21, .int .i64 ((x.n : Nat) : Int)), (20, (.slice Ax x.n cx)), (1, .pointer (some ⟨b2, 0, none⟩)), (2, .pointer (some ⟨b5, 0, none⟩)), (3, .pointer (some ⟨b19, 0, none⟩))] ∧ ∃ tr1, St w w1 none' [row tr1 k (x.cs.take (k * 3)) 81 3, pt b19 (mm tr1) 64, pt b5 ((mm (.slice none 0 0))) 64, pt b2 ((mm x.tr)) 74]) ⟨0, Nat.zero_le _, rfl, ⟨rfl, rfl, rfl, rfl, rfl, rfl, trivial⟩, .slice none 0 0, st24.lay (row (.slice none 0 0) 0 [] 81 3) ⟨rfl, .inl ⟨rfl, rfl⟩⟩ (fun q hq => by cases hq)⟩ ?_
      rintro m E w1 ⟨k, hk, rfl, hE, tr1, sl⟩
      rw [hE.norm]
      have hone := row_one (sl.get 0 rfl)
      by_cases hlt : k < x.n
      · obtain ⟨bx, ox, cx2, e1⟩ := hr.form (by omega)
        obtain rfl : Ax = some ⟨bx, ox, none⟩ := by rw [htx] at e1; injection e1
        obtain ⟨ha, hb, hd, hh⟩ := fits81 (hop_fits hx hlt)
        refine wp_seq_k fun K29 hK29 => ?_
        refine wp_region_lit ?_
        refine o_lss (k := .i64) (a := (k : Int)) (b := ((x.n : Nat) : Int)) (r := true) rfl rfl (decide_eq_true (by omega)) ?_
        refine wpList_nil ?_
        refine then_normal (hK29 _ _ ?_)
        clear hK29
        refine wp_seq_k fun K30 hK30 => ?_
        refine cond_t rfl ?_
        refine wp_skip ?_
        refine then_normal (hK30 _ _ ?_)
        clear hK30
        refine wp_seq_k fun K31 hK31 => ?_
        refine wp_block ?_
        refine wp_seq_k fun K32 hK32 => ?_
        refine wp_region_lit ?_
        refine o_indexAddr (i := k) (q := ox + k * 3) Try.underlying29 Try.size98 rfl rfl rfl hlt rfl ?_
        refine o_loads (cs := [.int .u32 ha, .int .u64 hb, .int .u64 hd]) Try.underlying98 rfl Try.size98 rfl (hh ▸ (hr.fresh sl.ch).range htx hlt) ?_
        refine s_alloc' sl zero98 ?_
        intro b33 w34 st35 hbb33 hcb33
        refine s_stores st35 0 (vs := [.int .u32 ha, .int .u64 hb, .int .u64 hd]) rfl (Try.size98.trans rfl) rfl rfl (fun u hu => by rcases List.mem_cons.1 hu with rfl | hu; rfl; rcases List.mem_cons.1 hu with rfl | hu; rfl; rw [List.mem_singleton.1 hu]; rfl) (Nat.le_of_ble_eq_true rfl) ?_
        intro w36 st37 hc38
        rw [setFrom_full (vs := [.int .u32 ha, .int .u64 hb, .int .u64 hd]) (cs := z81) rfl] at st37
        refine wpList_nil ?_
        refine then_normal (hK32 _ _ ?_)
        clear hK32
        refine wp_region_lit ?_
        refine o_fieldAddr (q := 42) (off := 42) (by kernel_rfl) rfl rfl ?_
        refine o_load (v := tr1) Try.underlying41 rfl rfl (st37.cell 2 rfl 42 (mm_tr _)) ?_
        refine o_fieldAddr (q := 0) (off := 0) (by kernel_rfl) rfl rfl ?_
        refine o_load (v := (.int .u32 ha)) Try.underlying54 rfl rfl (st37.cell 0 rfl 0 (rfl)) ?_
        refine o_fieldAddr (q := 1) (off := 1) (by kernel_rfl) rfl rfl ?_
        refine o_load (v := (.int .u64 hb)) Try.underlying23 rfl rfl (st37.cell 0 rfl 1 (rfl)) ?_
        refine o_fieldAddr (q := 2) (off := 2) (by kernel_rfl) rfl rfl ?_
        refine o_load (v := (.int .u64 hd)) Try.underlying23 rfl rfl (st37.cell 0 rfl 2 (rfl)) ?_
        refine o_build_all [[.int .u32 ha], [.int .u64 hb], [.int .u64 hd]] (lens := [1, 1, 1]) pl81 rfl rfl rfl rfl (cs := [.int .u32 ha, .int .u64 hb, .int .u64 hd]) rfl ?_
        refine s_buildSlice1 st37 (cs := [.int .u32 ha, .int .u64 hb, .int .u64 hd]) Try.underlying41 hi81 hz81 (by rw [hs81]; rfl) (Nat.le_of_ble_eq_true rfl) (Nat.le_of_ble_eq_true rfl) rfl ?_
        intro b39 w40 st41 hbb39 hcb39
        refine o_append st41 2 Try.underlying41 hi81 hz81 hs81 hb81 rfl (by decide) rfl rfl rfl (st41.rd 0 rfl (k := 1) (size := 3) rfl (fun u hu => by rcases List.mem_cons.1 hu with rfl | hu; rfl; rcases List.mem_cons.1 hu with rfl | hu; rfl; rw [List.mem_singleton.1 hu]; rfl)) (by unfold maxLen; omega) (by omega) ?_
        intro tr2 w42 st43 _ _ _
        have h2one := row_one (st43.get 2 rfl)
        refine o_fieldAddr (q := 42) (off := 42) (by kernel_rfl) rfl rfl ?_
        refine s_store st43 3 (v := tr2) rfl Try.size41 rfl rfl h2one (by rw [mm_len]; omega) ?_
        intro w44 st45 hc46
        rw [mm_set] at st45
        refine wpList_nil ?_
        refine blk_normal ?_
        refine then_normal (hK31 _ _ ?_)
        clear hK31
        refine wp_region_lit ?_
        refine o_add64 (a := (k : Int)) (b := 1) (c := ((k + 1 : Nat) : Int)) rfl rfl (by omega) (by omega) (by omega) ?_
        refine o_move (v := (.int .i64 ((k + 1 : Nat) : Int))) rfl ?_
        refine wpList_nil ?_
        refine then_normal ?_
        have e2 : x.cs.take (k * 3) ++ [.int .u32 ha, .int .u64 hb, .int .u64 hd] = x.cs.take ((k + 1) * 3) := by rw [hop_next hx (by omega), hh]
        rw [e2] at st45
        exact ⟨x.n - (k + 1), _, by omega, rfl, k + 1, by omega, rfl, ⟨rfl, rfl, rfl, rfl, rfl, rfl, trivial⟩, tr2, st45.drop (List.Sublist.cons _ (List.Sublist.cons _ (List.Sublist.cons_cons _ (List.Sublist.cons_cons _ (List.Sublist.cons_cons _ (List.Sublist.cons_cons _ List.Sublist.slnil))))))⟩
      · obtain rfl : k = x.n := by omega
        refine wp_seq_k fun K47 hK47 => ?_
        refine wp_region_lit ?_
        refine o_lss (k := .i64) (a := (x.n : Int)) (b := ((x.n : Nat) : Int)) (r := false) rfl rfl (decide_eq_false (by omega)) ?_
        refine wpList_nil ?_
        refine then_normal (hK47 _ _ ?_)
        clear hK47
        refine wp_seq_k fun K48 hK48 => ?_
        refine cond_f rfl ?_
        refine wp_exit ?_
        refine then_exit ?_
        refine then_exit ?_
        refine blk_exit ?_
        refine then_normal (hK27 _ _ ?_)
        clear hK27
        refine wp_seq_k fun K49 hK49 => ?_
        refine wp_region_lit ?_
        refine o_loads (cs := (mm tr1)) Try.underlying64 rfl (Try.size64.trans (by rw [mm_len])) rfl (sl.range 1 rfl 0 (by rw [List.drop_zero, List.take_length])) ?_
        refine s_stores sl 2 (vs := mm tr1) rfl (Try.size64.trans (by rw [mm_len])) rfl rfl (mm_one hone) (by simp only [mm_len]; omega) ?_
        intro w50 st51 hc52
        rw [setFrom_full (by simp only [mm_len])] at st51
        refine wpList_nil ?_
        refine then_normal (hK49 _ _ ?_)
        clear hK49
        refine wp_ret ?_
        have e3 : x.cs.take (x.n * 3) = x.cs := by rw [← hx.clen, List.take_length]
        rw [e3] at st51
        exact ret_cell rfl rfl (st51.blk 2 rfl) Try.underlying64 rfl (Try.size64.trans (by rw [mm_len])) ⟨tr1, rfl, st51.ch, st51.get 0 rfl, fun q hq => ⟨(st51.new_of 0 rfl (k := q) hq).resolve_right (fun f => f), st51.lt_of 0 rfl (k := q) hq⟩⟩
    · refine s_alloc' st12 zero64 ?_
      intro b53 w54 st55 hbb53 hcb53
      have hkb53 := Ch.fresh hS14 hcb53
      have hltb53 : w6.heap.size ≤ b53 := Nat.le_trans (Ch.size hS14) hbb53
      refine wpList_nil ?_
      refine then_normal ?_
      have hS56 : Ch w6 w54 none' := hkb53
      refine ⟨hS56, ?_⟩
      refine d_loud (i := 11) (by kernel_rfl) rfl ?_
      refine op_call (args := [.agg zs.toArray]) Try.ent28 rfl (to28 w54) ?_
      rintro v8 w57 ⟨rfl, hc59⟩
      have st58 := st55.keep hc59
      have hkw57 := Ch.fresh hS56 hc59
      refine wpList_nil ?_
      refine then_normal ?_
      have hS60 : Ch w6 w57 none' := hkw57
      refine ⟨hS60, ?_⟩
      refine d_take (i := 12) (d := 18) (v := (.agg ((mm (.slice none 0 0)) : List Value).toArray)) rfl rfl rfl (by kernel_rfl) (by kernel_rfl) (by kernel_rfl) (np_then np_body) hS60 (fun w' hS => r_build pl64 (vals := [(0, [.int .i64 0]), (1, [.int .u32 0]), (2, [.int .u64 0]), (3, z40), (5, zs)]) rfl (fillOk_same _ same64) (fill_same _ same64)) ?_
      refine d_loud (i := 14) (by kernel_rfl) rfl ?_
      refine s_stores st58 0 (vs := mm (.slice none 0 0)) rfl (Try.size64.trans (by rw [mm_len])) rfl rfl (mm_one rfl) (by simp only [mm_len]; omega) ?_
      intro w61 st62 hc63
      rw [setFrom_full (by simp only [mm_len])] at st62
      have hkw61 := hS60.trans hc63 (H := none') (fun _ f => f) (fun q hq e => by have e : q = b53 := e; omega)
      refine wpList_nil ?_
      refine then_normal ?_
      have hS64 : Ch w6 w61 none' := hkw61
      refine ⟨hS64, ?_⟩
      refine d_done (by kernel_rfl) ?_
      refine then_normal (hK8 _ _ ?_)
      clear hK8
      refine wp_seq_k fun K65 hK65 => ?_
      refine wp_seq_k fun K66 hK66 => ?_
      refine wp_region_lit ?_
      refine o_fieldAddr (q := 42) (off := 42) (by kernel_rfl) rfl rfl ?_
      refine o_load (v := (.slice Ax x.n cx)) Try.underlying29 rfl rfl (st62.cell 2 rfl 42 ((mm_tr _).trans (by rw [htx]))) ?_
      refine o_len (z := ((x.n : Nat) : Int)) Try.underlying29 rfl rfl ?_
      refine o_move (v := (.int .i64 0)) rfl ?_
      refine wpList_nil ?_
      refine then_normal (hK66 _ _ ?_)
      clear hK66
      refine wp_block ?_
      refine Sx.loop (n := 40) (fun m E w1 => ∃ k : Nat, k ≤ x.n ∧ m = x.n - k ∧ Has E [(22, .int .i64 (k : Int)), (21, .int .i64 ((x.n : Nat) : Int)), (20, (.slice Ax x.n cx)), (1, .pointer (some ⟨b2, 0, none⟩)), (2, .pointer (some ⟨b5, 0, none⟩)), (3, .pointer (some ⟨b53, 0, none⟩))] ∧ ∃ tr1, St w w1 none' [row tr1 k (x.cs.take (k * 3)) 81 3, pt b53 (mm tr1) 64, pt b5 ((mm (.slice none 0 0))) 64, pt b2 ((mm x.tr)) 74]) ⟨0, Nat.zero_le _, rfl, ⟨rfl, rfl, rfl, rfl, rfl, rfl, trivial⟩, .slice none 0 0, st62.lay (row (.slice none 0 0) 0 [] 81 3) ⟨rfl, .inl ⟨rfl, rfl⟩⟩ (fun q hq => by cases hq)⟩ ?_
      rintro m E w1 ⟨k, hk, rfl, hE, tr1, sl⟩
      rw [hE.norm]
      have hone := row_one (sl.get 0 rfl)
      by_cases hlt : k < x.n
      · obtain ⟨bx, ox, cx2, e1⟩ := hr.form (by omega)
        obtain rfl : Ax = some ⟨bx, ox, none⟩ := by rw [htx] at e1; injection e1
        obtain ⟨ha, hb, hd, hh⟩ := fits81 (hop_fits hx hlt)
        refine wp_seq_k fun K67 hK67 => ?_
        refine wp_region_lit ?_
        refine o_lss (k := .i64) (a := (k : Int)) (b := ((x.n : Nat) : Int)) (r := true) rfl rfl (decide_eq_true (by omega)) ?_
        refine wpList_nil ?_
        refine then_normal (hK67 _ _ ?_)
        clear hK67
        refine wp_seq_k fun K68 hK68 => ?_
        refine cond_t rfl ?_
        refine wp_skip ?_
        refine then_normal (hK68 _ _ ?_)
        clear hK68
        refine wp_seq_k fun K69 hK69 => ?_
        refine wp_block ?_
        refine wp_seq_k fun K70 hK70 => ?_
        refine wp_region_lit ?_
        refine o_indexAddr (i := k) (q := ox + k * 3) Try.underlying29 Try.size98 rfl rfl rfl hlt rfl ?_
        refine o_loads (cs := [.int .u32 ha, .int .u64 hb, .int .u64 hd]) Try.underlying98 rfl Try.size98 rfl (hh ▸ (hr.fresh sl.ch).range htx hlt) ?_
        refine s_alloc' sl zero98 ?_
        intro b71 w72 st73 hbb71 hcb71
        refine s_stores st73 0 (vs := [.int .u32 ha, .int .u64 hb, .int .u64 hd]) rfl (Try.size98.trans rfl) rfl rfl (fun u hu => by rcases List.mem_cons.1 hu with rfl | hu; rfl; rcases List.mem_cons.1 hu with rfl | hu; rfl; rw [List.mem_singleton.1 hu]; rfl) (Nat.le_of_ble_eq_true rfl) ?_
        intro w74 st75 hc76
        rw [setFrom_full (vs := [.int .u32 ha, .int .u64 hb, .int .u64 hd]) (cs := z81) rfl] at st75
        refine wpList_nil ?_
        refine then_normal (hK70 _ _ ?_)
        clear hK70
        refine wp_region_lit ?_
        refine o_fieldAddr (q := 42) (off := 42) (by kernel_rfl) rfl rfl ?_
        refine o_load (v := tr1) Try.underlying41 rfl rfl (st75.cell 2 rfl 42 (mm_tr _)) ?_
        refine o_fieldAddr (q := 0) (off := 0) (by kernel_rfl) rfl rfl ?_
        refine o_load (v := (.int .u32 ha)) Try.underlying54 rfl rfl (st75.cell 0 rfl 0 (rfl)) ?_
        refine o_fieldAddr (q := 1) (off := 1) (by kernel_rfl) rfl rfl ?_
        refine o_load (v := (.int .u64 hb)) Try.underlying23 rfl rfl (st75.cell 0 rfl 1 (rfl)) ?_
        refine o_fieldAddr (q := 2) (off := 2) (by kernel_rfl) rfl rfl ?_
        refine o_load (v := (.int .u64 hd)) Try.underlying23 rfl rfl (st75.cell 0 rfl 2 (rfl)) ?_
        refine o_build_all [[.int .u32 ha], [.int .u64 hb], [.int .u64 hd]] (lens := [1, 1, 1]) pl81 rfl rfl rfl rfl (cs := [.int .u32 ha, .int .u64 hb, .int .u64 hd]) rfl ?_
        refine s_buildSlice1 st75 (cs := [.int .u32 ha, .int .u64 hb, .int .u64 hd]) Try.underlying41 hi81 hz81 (by rw [hs81]; rfl) (Nat.le_of_ble_eq_true rfl) (Nat.le_of_ble_eq_true rfl) rfl ?_
        intro b77 w78 st79 hbb77 hcb77
        refine o_append st79 2 Try.underlying41 hi81 hz81 hs81 hb81 rfl (by decide) rfl rfl rfl (st79.rd 0 rfl (k := 1) (size := 3) rfl (fun u hu => by rcases List.mem_cons.1 hu with rfl | hu; rfl; rcases List.mem_cons.1 hu with rfl | hu; rfl; rw [List.mem_singleton.1 hu]; rfl)) (by unfold maxLen; omega) (by omega) ?_
        intro tr2 w80 st81 _ _ _
        have h2one := row_one (st81.get 2 rfl)
        refine o_fieldAddr (q := 42) (off := 42) (by kernel_rfl) rfl rfl ?_
        refine s_store st81 3 (v := tr2) rfl Try.size41 rfl rfl h2one (by rw [mm_len]; omega) ?_
        intro w82 st83 hc84
        rw [mm_set] at st83
        refine wpList_nil ?_
        refine blk_normal ?_
        refine then_normal (hK69 _ _ ?_)
        clear hK69
        refine wp_region_lit ?_
        refine o_add64 (a := (k : Int)) (b := 1) (c := ((k + 1 : Nat) : Int)) rfl rfl (by omega) (by omega) (by omega) ?_
        refine o_move (v := (.int .i64 ((k + 1 : Nat) : Int))) rfl ?_
        refine wpList_nil ?_
        refine then_normal ?_
        have e2 : x.cs.take (k * 3) ++ [.int .u32 ha, .int .u64 hb, .int .u64 hd] = x.cs.take ((k + 1) * 3) := by rw [hop_next hx (by omega), hh]
        rw [e2] at st83
        exact ⟨x.n - (k + 1), _, by omega, rfl, k + 1, by omega, rfl, ⟨rfl, rfl, rfl, rfl, rfl, rfl, trivial⟩, tr2, st83.drop (List.Sublist.cons _ (List.Sublist.cons _ (List.Sublist.cons_cons _ (List.Sublist.cons_cons _ (List.Sublist.cons_cons _ (List.Sublist.cons_cons _ List.Sublist.slnil))))))⟩
      · obtain rfl : k = x.n := by omega
        refine wp_seq_k fun K85 hK85 => ?_
        refine wp_region_lit ?_
        refine o_lss (k := .i64) (a := (x.n : Int)) (b := ((x.n : Nat) : Int)) (r := false) rfl rfl (decide_eq_false (by omega)) ?_
        refine wpList_nil ?_
        refine then_normal (hK85 _ _ ?_)
        clear hK85
        refine wp_seq_k fun K86 hK86 => ?_
        refine cond_f rfl ?_
        refine wp_exit ?_
        refine then_exit ?_
        refine then_exit ?_
        refine blk_exit ?_
        refine then_normal (hK65 _ _ ?_)
        clear hK65
        refine wp_seq_k fun K87 hK87 => ?_
        refine wp_region_lit ?_
        refine o_loads (cs := (mm tr1)) Try.underlying64 rfl (Try.size64.trans (by rw [mm_len])) rfl (sl.range 1 rfl 0 (by rw [List.drop_zero, List.take_length])) ?_
        refine s_stores sl 2 (vs := mm tr1) rfl (Try.size64.trans (by rw [mm_len])) rfl rfl (mm_one hone) (by simp only [mm_len]; omega) ?_
        intro w88 st89 hc90
        rw [setFrom_full (by simp only [mm_len])] at st89
        refine wpList_nil ?_
        refine then_normal (hK87 _ _ ?_)
        clear hK87
        refine wp_ret ?_
        have e3 : x.cs.take (x.n * 3) = x.cs := by rw [← hx.clen, List.take_length]
        rw [e3] at st89
        exact ret_cell rfl rfl (st89.blk 2 rfl) Try.underlying64 rfl (Try.size64.trans (by rw [mm_len])) ⟨tr1, rfl, st89.ch, st89.get 0 rfl, fun q hq => ⟨(st89.new_of 0 rfl (k := q) hq).resolve_right (fun f => f), st89.lt_of 0 rfl (k := q) hq⟩⟩
  · refine s_alloc' st10 zero64 ?_
    intro b91 w92 st93 hbb91 hcb91
    have hkb91 := Ch.fresh hSw9 hcb91
    have hltb91 : w6.heap.size ≤ b91 := Nat.le_trans (Ch.size hSw9) hbb91
    refine wpList_nil ?_
    refine then_normal ?_
    have hS94 : Ch w6 w92 none' := hkb91
    refine ⟨hS94, ?_⟩
    refine d_loud (i := 8) (by kernel_rfl) rfl ?_
    refine op_call (args := [.agg z40.toArray]) Try.ent11 rfl (op11 w92 z40 fits_z40) ?_
    rintro v8 w95 ⟨rfl, hc97⟩
    have st96 := st93.keep hc97
    have hkw95 := Ch.fresh hS94 hc97
    refine wpList_nil ?_
    refine then_normal ?_
    have hS98 : Ch w6 w95 none' := hkw95
    refine ⟨hS98, ?_⟩
    refine d_loud (i := 11) (by kernel_rfl) rfl ?_
    refine op_call (args := [.agg zs.toArray]) Try.ent28 rfl (to28 w95) ?_
    rintro v8 w99 ⟨rfl, hc101⟩
    have st100 := st96.keep hc101
    have hkw99 := Ch.fresh hS98 hc101
    refine wpList_nil ?_
    refine then_normal ?_
    have hS102 : Ch w6 w99 none' := hkw99
    refine ⟨hS102, ?_⟩
    refine d_take (i := 12) (d := 18) (v := (.agg ((mm (.slice none 0 0)) : List Value).toArray)) rfl rfl rfl (by kernel_rfl) (by kernel_rfl) (by kernel_rfl) (np_then np_body) hS102 (fun w' hS => r_build pl64 (vals := [(0, [.int .i64 0]), (1, [.int .u32 0]), (2, [.int .u64 0]), (3, z40), (5, zs)]) rfl (fillOk_same _ same64) (fill_same _ same64)) ?_
    refine d_loud (i := 14) (by kernel_rfl) rfl ?_
    refine s_stores st100 0 (vs := mm (.slice none 0 0)) rfl (Try.size64.trans (by rw [mm_len])) rfl rfl (mm_one rfl) (by simp only [mm_len]; omega) ?_
    intro w103 st104 hc105
    rw [setFrom_full (by simp only [mm_len])] at st104
    have hkw103 := hS102.trans hc105 (H := none') (fun _ f => f) (fun q hq e => by have e : q = b91 := e; omega)
    refine wpList_nil ?_
    refine then_normal ?_
    have hS106 : Ch w6 w103 none' := hkw103
    refine ⟨hS106, ?_⟩
    refine d_done (by kernel_rfl) ?_
    refine then_normal (hK8 _ _ ?_)
    clear hK8
    refine wp_seq_k fun K107 hK107 => ?_
    refine wp_seq_k fun K108 hK108 => ?_
    refine wp_region_lit ?_
    refine o_fieldAddr (q := 42) (off := 42) (by kernel_rfl) rfl rfl ?_
    refine o_load (v := (.slice Ax x.n cx)) Try.underlying29 rfl rfl (st104.cell 2 rfl 42 ((mm_tr _).trans (by rw [htx]))) ?_
    refine o_len (z := ((x.n : Nat) : Int)) Try.underlying29 rfl rfl ?_
    refine o_move (v := (.int .i64 0)) rfl ?_
    refine wpList_nil ?_
    refine then_normal (hK108 _ _ ?_)
    clear hK108
    refine wp_block ?_
    refine Sx.loop (n := 40) (fun m E w1 => ∃ k : Nat, k ≤ x.n ∧ m = x.n - k ∧ Has E [(22, .int .i64 (k : Int)), (21, .int .i64 ((x.n : Nat) : Int)), (20, (.slice Ax x.n cx)), (1, .pointer (some ⟨b2, 0, none⟩)), (2, .pointer (some ⟨b5, 0, none⟩)), (3, .pointer (some ⟨b91, 0, none⟩))] ∧ ∃ tr1, St w w1 none' [row tr1 k (x.cs.take (k * 3)) 81 3, pt b91 (mm tr1) 64, pt b5 ((mm (.slice none 0 0))) 64, pt b2 ((mm x.tr)) 74]) ⟨0, Nat.zero_le _, rfl, ⟨rfl, rfl, rfl, rfl, rfl, rfl, trivial⟩, .slice none 0 0, st104.lay (row (.slice none 0 0) 0 [] 81 3) ⟨rfl, .inl ⟨rfl, rfl⟩⟩ (fun q hq => by cases hq)⟩ ?_
    rintro m E w1 ⟨k, hk, rfl, hE, tr1, sl⟩
    rw [hE.norm]
    have hone := row_one (sl.get 0 rfl)
    by_cases hlt : k < x.n
    · obtain ⟨bx, ox, cx2, e1⟩ := hr.form (by omega)
      obtain rfl : Ax = some ⟨bx, ox, none⟩ := by rw [htx] at e1; injection e1
      obtain ⟨ha, hb, hd, hh⟩ := fits81 (hop_fits hx hlt)
      refine wp_seq_k fun K109 hK109 => ?_
      refine wp_region_lit ?_
      refine o_lss (k := .i64) (a := (k : Int)) (b := ((x.n : Nat) : Int)) (r := true) rfl rfl (decide_eq_true (by omega)) ?_
      refine wpList_nil ?_
      refine then_normal (hK109 _ _ ?_)
      clear hK109
      refine wp_seq_k fun K110 hK110 => ?_
      refine cond_t rfl ?_
      refine wp_skip ?_
      refine then_normal (hK110 _ _ ?_)
      clear hK110
      refine wp_seq_k fun K111 hK111 => ?_
      refine wp_block ?_
      refine wp_seq_k fun K112 hK112 => ?_
      refine wp_region_lit ?_
      refine o_indexAddr (i := k) (q := ox + k * 3) Try.underlying29 Try.size98 rfl rfl rfl hlt rfl ?_
      refine o_loads (cs := [.int .u32 ha, .int .u64 hb, .int .u64 hd]) Try.underlying98 rfl Try.size98 rfl (hh ▸ (hr.fresh sl.ch).range htx hlt) ?_
      refine s_alloc' sl zero98 ?_
      intro b113 w114 st115 hbb113 hcb113
      refine s_stores st115 0 (vs := [.int .u32 ha, .int .u64 hb, .int .u64 hd]) rfl (Try.size98.trans rfl) rfl rfl (fun u hu => by rcases List.mem_cons.1 hu with rfl | hu; rfl; rcases List.mem_cons.1 hu with rfl | hu; rfl; rw [List.mem_singleton.1 hu]; rfl) (Nat.le_of_ble_eq_true rfl) ?_
      intro w116 st117 hc118
      rw [setFrom_full (vs := [.int .u32 ha, .int .u64 hb, .int .u64 hd]) (cs := z81) rfl] at st117
      refine wpList_nil ?_
      refine then_normal (hK112 _ _ ?_)
      clear hK112
      refine wp_region_lit ?_
      refine o_fieldAddr (q := 42) (off := 42) (by kernel_rfl) rfl rfl ?_
      refine o_load (v := tr1) Try.underlying41 rfl rfl (st117.cell 2 rfl 42 (mm_tr _)) ?_
      refine o_fieldAddr (q := 0) (off := 0) (by kernel_rfl) rfl rfl ?_
      refine o_load (v := (.int .u32 ha)) Try.underlying54 rfl rfl (st117.cell 0 rfl 0 (rfl)) ?_
      refine o_fieldAddr (q := 1) (off := 1) (by kernel_rfl) rfl rfl ?_
      refine o_load (v := (.int .u64 hb)) Try.underlying23 rfl rfl (st117.cell 0 rfl 1 (rfl)) ?_
      refine o_fieldAddr (q := 2) (off := 2) (by kernel_rfl) rfl rfl ?_
      refine o_load (v := (.int .u64 hd)) Try.underlying23 rfl rfl (st117.cell 0 rfl 2 (rfl)) ?_
      refine o_build_all [[.int .u32 ha], [.int .u64 hb], [.int .u64 hd]] (lens := [1, 1, 1]) pl81 rfl rfl rfl rfl (cs := [.int .u32 ha, .int .u64 hb, .int .u64 hd]) rfl ?_
      refine s_buildSlice1 st117 (cs := [.int .u32 ha, .int .u64 hb, .int .u64 hd]) Try.underlying41 hi81 hz81 (by rw [hs81]; rfl) (Nat.le_of_ble_eq_true rfl) (Nat.le_of_ble_eq_true rfl) rfl ?_
      intro b119 w120 st121 hbb119 hcb119
      refine o_append st121 2 Try.underlying41 hi81 hz81 hs81 hb81 rfl (by decide) rfl rfl rfl (st121.rd 0 rfl (k := 1) (size := 3) rfl (fun u hu => by rcases List.mem_cons.1 hu with rfl | hu; rfl; rcases List.mem_cons.1 hu with rfl | hu; rfl; rw [List.mem_singleton.1 hu]; rfl)) (by unfold maxLen; omega) (by omega) ?_
      intro tr2 w122 st123 _ _ _
      have h2one := row_one (st123.get 2 rfl)
      refine o_fieldAddr (q := 42) (off := 42) (by kernel_rfl) rfl rfl ?_
      refine s_store st123 3 (v := tr2) rfl Try.size41 rfl rfl h2one (by rw [mm_len]; omega) ?_
      intro w124 st125 hc126
      rw [mm_set] at st125
      refine wpList_nil ?_
      refine blk_normal ?_
      refine then_normal (hK111 _ _ ?_)
      clear hK111
      refine wp_region_lit ?_
      refine o_add64 (a := (k : Int)) (b := 1) (c := ((k + 1 : Nat) : Int)) rfl rfl (by omega) (by omega) (by omega) ?_
      refine o_move (v := (.int .i64 ((k + 1 : Nat) : Int))) rfl ?_
      refine wpList_nil ?_
      refine then_normal ?_
      have e2 : x.cs.take (k * 3) ++ [.int .u32 ha, .int .u64 hb, .int .u64 hd] = x.cs.take ((k + 1) * 3) := by rw [hop_next hx (by omega), hh]
      rw [e2] at st125
      exact ⟨x.n - (k + 1), _, by omega, rfl, k + 1, by omega, rfl, ⟨rfl, rfl, rfl, rfl, rfl, rfl, trivial⟩, tr2, st125.drop (List.Sublist.cons _ (List.Sublist.cons _ (List.Sublist.cons_cons _ (List.Sublist.cons_cons _ (List.Sublist.cons_cons _ (List.Sublist.cons_cons _ List.Sublist.slnil))))))⟩
    · obtain rfl : k = x.n := by omega
      refine wp_seq_k fun K127 hK127 => ?_
      refine wp_region_lit ?_
      refine o_lss (k := .i64) (a := (x.n : Int)) (b := ((x.n : Nat) : Int)) (r := false) rfl rfl (decide_eq_false (by omega)) ?_
      refine wpList_nil ?_
      refine then_normal (hK127 _ _ ?_)
      clear hK127
      refine wp_seq_k fun K128 hK128 => ?_
      refine cond_f rfl ?_
      refine wp_exit ?_
      refine then_exit ?_
      refine then_exit ?_
      refine blk_exit ?_
      refine then_normal (hK107 _ _ ?_)
      clear hK107
      refine wp_seq_k fun K129 hK129 => ?_
      refine wp_region_lit ?_
      refine o_loads (cs := (mm tr1)) Try.underlying64 rfl (Try.size64.trans (by rw [mm_len])) rfl (sl.range 1 rfl 0 (by rw [List.drop_zero, List.take_length])) ?_
      refine s_stores sl 2 (vs := mm tr1) rfl (Try.size64.trans (by rw [mm_len])) rfl rfl (mm_one hone) (by simp only [mm_len]; omega) ?_
      intro w130 st131 hc132
      rw [setFrom_full (by simp only [mm_len])] at st131
      refine wpList_nil ?_
      refine then_normal (hK129 _ _ ?_)
      clear hK129
      refine wp_ret ?_
      have e3 : x.cs.take (x.n * 3) = x.cs := by rw [← hx.clen, List.take_length]
      rw [e3] at st131
      exact ret_cell rfl rfl (st131.blk 2 rfl) Try.underlying64 rfl (Try.size64.trans (by rw [mm_len])) ⟨tr1, rfl, st131.ch, st131.get 0 rfl, fun q hq => ⟨(st131.new_of 0 rfl (k := q) hq).resolve_right (fun f => f), st131.lt_of 0 rfl (k := q) hq⟩⟩
end Go.Proofs.Ytocmlbnaikojkaa
