/- ClerkOwn: Clone of a list of wishes; Add. -/
import Derived.Test.YtocmlbnaikojkaaCk5
import Derived.Test.YtocmlbnaikojkaaSd
namespace Go.Proofs.Ytocmlbnaikojkaa
open Go Go.Sx
attribute [local irreducible] Go.wpList

theorem clone13_nil (w : World) (c : Nat) : Ret Try.prog 13 [.slice none 0 c] w fun v w' => v = .slice none 0 0 ∧ Ch w w' none' := by
  refine enter (n := 8) Try.func13 rfl Try.ntmps13 (Nat.le_of_ble_eq_true rfl) ?_
  have st := St.start w none'
  refine wp_seq_k fun K1 hK1 => ?_
  refine wp_region_lit ?_
  refine o_assign (v := (.slice none 0 0)) rfl ?_
  refine wpList_nil ?_
  refine then_normal (hK1 _ _ ?_)
  clear hK1
  refine wp_seq_k fun K2 hK2 => ?_
  refine wp_seq_k fun K3 hK3 => ?_
  refine wp_region_lit ?_
  refine o_move (v := (.slice none 0 c)) rfl ?_
  refine o_nil (A := none) (r := true) Try.underlying32 rfl rfl rfl ?_
  refine wpList_nil ?_
  refine then_normal (hK3 _ _ ?_)
  clear hK3
  refine cond_t rfl ?_
  refine wp_seq_k fun K4 hK4 => ?_
  refine wp_region_lit ?_
  refine o_assign (v := (.slice none 0 0)) rfl ?_
  refine wpList_nil ?_
  refine then_normal (hK4 _ _ ?_)
  clear hK4
  refine wp_ret ?_
  refine then_ret ?_
  exact ret_tmp rfl rfl ⟨rfl, Ch.refl _ _⟩
theorem clone13_some (w : World) (a : Addr) (k c : Nat) (cs : List Value) (hk : k ≤ 1000000) (h : Rd w (.slice (some a) k c) k cs 40) : Ret Try.prog 13 [.slice (some a) k c] w fun v w' => NewRow w w' v k cs 43 40 := by
  refine enter (n := 8) Try.func13 rfl Try.ntmps13 (Nat.le_of_ble_eq_true rfl) ?_
  have st := St.start w none'
  obtain ⟨i0, hi, hz0, hz1, hz2⟩ := info_parts Try.inf43
  refine wp_seq_k fun K1 hK1 => ?_
  refine wp_region_lit ?_
  refine o_assign (v := (.slice none 0 0)) rfl ?_
  refine wpList_nil ?_
  refine then_normal (hK1 _ _ ?_)
  clear hK1
  refine wp_seq_k fun K2 hK2 => ?_
  refine wp_seq_k fun K3 hK3 => ?_
  refine wp_region_lit ?_
  refine o_move (v := (.slice (some a) k c)) rfl ?_
  refine o_nil (A := some a) (r := false) Try.underlying32 rfl rfl rfl ?_
  refine wpList_nil ?_
  refine then_normal (hK3 _ _ ?_)
  clear hK3
  refine cond_f rfl ?_
  refine wp_skip ?_
  refine then_normal (hK2 _ _ ?_)
  clear hK2
  refine wp_seq_k fun K4 hK4 => ?_
  refine wp_region_lit ?_
  refine s_buildSlice0 st Try.underlying32 Try.size43 ?_
  intro b w2 st2 hb hb2 hc
  refine o_move (v := (.slice (some a) k c)) rfl ?_
  refine o_append st2 0 Try.underlying32 hi hz0 hz1 hz2 (by first | rfl | kernel_rfl) (by decide) rfl rfl rfl (h.keep hc fun _ _ f => f) (by unfold maxLen; omega) (by omega) ?_
  intro v3 w3 st3 hv3 _ hc3
  refine o_assign (v := v3) rfl ?_
  refine wpList_nil ?_
  refine then_normal (hK4 _ _ ?_)
  clear hK4
  refine wp_ret ?_
  have st4 : St w w3 none' [row v3 k cs 43 40] := by simpa using st3
  exact ret_tmp rfl rfl ⟨st4.ch, st4.get 0 rfl, fun q hq => ⟨(st4.new_of 0 rfl (k := q) hq).resolve_right (fun f => f), st4.lt_of 0 rfl (k := q) hq⟩⟩

theorem clone13 (w : World) (v : Value) (k : Nat) (cs : List Value) (hk : k ≤ 1000000) (h : Rd w v k cs 40) : Ret Try.prog 13 [v] w fun v' w' => NewRow w w' v' k cs 43 40 := by
  have hs := h
  obtain ⟨h1, h2, A, c, rfl, h3, h4, h5⟩ := h
  cases A with
  | none =>
    obtain rfl : k = 0 := h4 rfl
    obtain rfl : cs = [] := List.eq_nil_of_length_eq_zero (by simpa using h1)
    refine (clone13_nil w c).mono ?_
    rintro v' w' ⟨rfl, hc⟩
    exact ⟨hc, ⟨rfl, .inl ⟨rfl, rfl⟩⟩, fun q hq => by cases hq⟩
  | some a => exact clone13_some w a k c cs hk hs

/-- The trails of some wishes, each in a row of one's own. -/
def trails (D : List Wish) : Asrt where
  fp := fun k => ∃ x ∈ D, x.tr.ownBlock = some k
  ok := fun h => ∀ x ∈ D, (row x.tr x.n x.cs 81 3).ok h
  loc := fun hs h x hx => (row x.tr x.n x.cs 81 3).loc (fun k hk => hs k ⟨x, hx, hk⟩) (h x hx)

def addD (L : List (List Value × Nat × List Value)) (y : List Value × Nat × List Value) : List (List Value × Nat × List Value) :=
  if L.any fun z => sameB z.1 y.1 then L else L ++ [y]

theorem any_dat (D : List Wish) (o : List Value) : (dat D).any (fun z => sameB z.1 o) = D.any fun x => sameB x.op o := by
  unfold dat; rw [List.any_map]; rfl

theorem flat_app (A B : List Wish) : flat (A ++ B) = flat A ++ flat B := by unfold flat; simp
theorem flat_one (x : Wish) : flat [x] = x.op ++ [x.tr] := by unfold flat; simp

theorem flat_set {A B : List Wish} {x y : Wish} (hA : ∀ z ∈ A, z.op.length = 39) (hx : x.op.length = 39) (hy : y.op.length = 39) :
    setFrom (flat (A ++ x :: B)) (A.length * 40) (y.op ++ [y.tr]) = flat ((A ++ [y]) ++ B) := by
  have hl := flat_length hA
  have e1 : flat (A ++ x :: B) = flat A ++ ((x.op ++ [x.tr]) ++ flat B) := by
    rw [flat_app]; congr 1
  have hlen : (flat A ++ ((x.op ++ [x.tr]) ++ flat B)).length = A.length * 40 + (40 + (flat B).length) := by simp [hl, hx]; omega
  rw [e1, setFrom_eq _ _ _ (by rw [hlen]; simp [hy])]
  rw [List.take_left' hl]
  have e2 : (flat A ++ ((x.op ++ [x.tr]) ++ flat B)).drop (A.length * 40 + (y.op ++ [y.tr]).length) = flat B := by
    rw [← List.drop_drop, List.drop_left' hl, List.drop_left' (by simp [hx, hy])]
  rw [e2, flat_app, flat_app, flat_one]

/-- Out of a state: a list of the call's own. -/
theorem St.wo {w0 w : World} {L : List Asrt} {v : Value} {D : List Wish} (st : St w0 w none' L) (i j : Nat) (hi : L[i]? = some (row v D.length (flat D) 43 40)) (hj : L[j]? = some (trails D)) (hD : ∀ x ∈ D, OkW x) :
    WO w v D (fun k => w0.heap.size ≤ k ∧ k < w.heap.size) :=
  ⟨st.get i hi, fun x hx => ⟨hD x hx, st.get j hj x hx⟩, fun k hk => ⟨(st.new_of i hi (k := k) hk).resolve_right (fun f => f), st.lt_of i hi (k := k) hk⟩,
   fun x hx k hk => ⟨(st.new_of j hj (k := k) ⟨x, hx, hk⟩).resolve_right (fun f => f), st.lt_of j hj (k := k) ⟨x, hx, hk⟩⟩⟩

theorem add5 (w : World) (v : Value) (D : List Wish) (x : Wish) (hD : D.length ≤ 20) (h : WS w v D) (hx : OkW x) (hr : Rd w x.tr x.n x.cs 3) :
    Ret Try.prog 5 [v, .agg (x.op ++ [x.tr]).toArray] w fun v' w' => Ch w w' none' ∧ ∃ D', WO w' v' D' (fun k => w.heap.size ≤ k ∧ k < w'.heap.size) ∧ dat D' = addD (dat D) (x.op, x.n, x.cs) := by
  obtain ⟨op, tr, kx, csx⟩ := x
  have hlen := hx.len
  have hone := hx.ones
  have hn := hx.n
  have hop := hx.op
  simp only at hlen hone hn hr hop ⊢
  refine enter (n := 32) Try.func5 rfl Try.ntmps5 (Nat.le_of_ble_eq_true rfl) ?_
  have st := St.start w none'
  refine wp_seq_k fun K1 hK1 => ?_
  refine wp_region_lit ?_
  refine s_box st (cs := (op ++ [tr])) rfl ?_
  intro b2 w3 st4 hbb2 hcb2
  refine o_assign (v := (.slice none 0 0)) rfl ?_
  refine wpList_nil ?_
  refine then_normal (hK1 _ _ ?_)
  clear hK1
  refine wp_seq_k fun K5 hK5 => ?_
  refine wp_region_lit ?_
  refine o_move (v := v) rfl ?_
  refine op_call (args := [v]) Try.ent13 rfl (clone13 w3 v D.length (flat D) (by omega) (h.rd.keep st4.ch fun _ _ f => f)) ?_
  intro v1 w4 hn4
  have st4 := st4.newRow hn4
  refine o_assign (v := v1) rfl ?_
  refine wpList_nil ?_
  refine then_normal (hK5 _ _ ?_)
  clear hK5
  refine wp_seq_k fun K6 hK6 => ?_
  refine wp_seq_k fun K7 hK7 => ?_
  refine wp_region_lit ?_
  refine o_move (v := v1) rfl ?_
  obtain ⟨A, c, rfl, hA, hAc, hAg⟩ := row_form (st4.get 0 rfl)
  refine o_len (z := ((D.length : Nat) : Int)) Try.underlying32 rfl rfl ?_
  refine o_move (v := (.int .i64 0)) rfl ?_
  refine wpList_nil ?_
  refine then_normal (hK7 _ _ ?_)
  clear hK7
  refine wp_block ?_
  have st5 := st4.lay (trails []) (fun x hx => by cases hx) (fun k ⟨x, hx, _⟩ => by cases hx)
  refine Sx.loop (n := 32) (fun m E w1 => ∃ (k : Nat) (D' : List Wish), k ≤ D.length ∧ m = D.length - k ∧ Has E [(10, .int .i64 (k : Int)), (9, .int .i64 ((D.length : Nat) : Int)), (0, .slice A D.length c), (3, .pointer (some ⟨b2, 0, none⟩))] ∧ D'.length = k ∧ (∀ x ∈ D', OkW x) ∧ dat D' = dat (D.take k) ∧ St w w1 none' [row (.slice A D.length c) D.length (flat (D' ++ D.drop k)) 43 40, trails D', pt b2 (op ++ [tr]) 43]) (m0 := D.length) ⟨0, [], Nat.zero_le _, rfl, ⟨rfl, rfl, rfl, rfl, trivial⟩, rfl, (fun _ h => by cases h), by simp [dat], ?ini⟩ ?_
  case ini => exact (show St w w4 none' [trails [], row (.slice A D.length c) D.length (flat ([] ++ D.drop 0)) 43 40, pt b2 (op ++ [tr]) 43] from st5).perm (List.Perm.swap _ _ _)
  rintro m E w5 ⟨k, D', hk, rfl, hE, hDl, hok, hdat, st6⟩
  rw [hE.norm]
  clear st5
  by_cases hlt : k < D.length
  · obtain ⟨a, rfl⟩ : ∃ a, A = some a := by cases A with
      | none => exact absurd (hA rfl) (by omega)
      | some a => exact ⟨a, rfl⟩
    obtain ⟨g, rfl⟩ := hAg a rfl
    obtain ⟨z, hz⟩ : ∃ z, D[k]? = some z := ⟨_, List.getElem?_eq_getElem hlt⟩
    have hzm := List.mem_of_getElem? hz
    obtain ⟨okz, rdz⟩ := h.each z hzm
    have hdz : D.drop k = z :: D.drop (k + 1) := by rw [List.drop_eq_getElem_cons hlt]; congr 1; exact (List.getElem?_eq_some_iff.1 hz).2
    have hall : ∀ y ∈ D' ++ D.drop k, y.op.length = 39 := fun y hy => by
      rcases List.mem_append.1 hy with hy | hy
      · exact (hok y hy).len
      · exact (h.each y (List.mem_of_mem_drop hy)).1.len
    refine wp_seq_k fun K8 hK8 => ?_
    refine wp_region_lit ?_
    refine o_lss (k := .i64) (a := (k : Int)) (b := ((D.length : Nat) : Int)) (r := true) rfl rfl (decide_eq_true (by omega)) ?_
    refine wpList_nil ?_
    refine then_normal (hK8 _ _ ?_)
    clear hK8
    refine wp_seq_k fun K9 hK9 => ?_
    refine cond_t rfl ?_
    refine wp_skip ?_
    refine then_normal (hK9 _ _ ?_)
    clear hK9
    refine wp_seq_k fun K10 hK10 => ?_
    refine wp_block ?_
    refine wp_seq_k fun K11 hK11 => ?_
    refine wp_region_lit ?_
    refine o_move (v := (.int .i64 (k : Int))) rfl ?_
    refine o_assign (v := (.int .i64 (k : Int))) rfl ?_
    refine wpList_nil ?_
    refine then_normal (hK11 _ _ ?_)
    clear hK11
    refine wp_region_lit ?_
    refine o_move (v := (.slice (some ⟨g, 0, none⟩) D.length c)) rfl ?_
    refine o_move (v := (.int .i64 (k : Int))) rfl ?_
    refine o_move (v := (.slice (some ⟨g, 0, none⟩) D.length c)) rfl ?_
    refine o_move (v := (.int .i64 (k : Int))) rfl ?_
    refine o_indexAddr (i := k) (q := 0 + k * 40) Try.underlying32 Try.size43 rfl rfl rfl hlt rfl ?_
    refine o_loads (cs := z.op ++ [z.tr]) Try.underlying43 rfl (Try.size43.trans (by simp [okz.len])) rfl (row_range (st6.get 0 rfl) (0 + k * 40) (by rw [Nat.zero_add, show (z.op ++ [z.tr]).length = 40 from by simp [okz.len]]; exact flat_at hall (by rw [List.getElem?_append_right (by omega), hdz, hDl, Nat.sub_self]; rfl))) ?_
    refine op_call (args := [.agg (z.op ++ [z.tr]).toArray]) Try.ent14 rfl (twin14 w5 z okz (rdz.keep st6.ch fun _ _ f => f)) ?_
    rintro r w5 ⟨tr', rfl, hn5⟩
    have st5 := st6.newRow hn5
    have h1 : tr'.oneCell' = true := by rcases hn5.ok.2 with h | ⟨_, _, _, h, _⟩ <;> (first | rw [h.1] | rw [h]) <;> rfl
    refine o_indexAddr (i := k) (q := 0 + k * 40) Try.underlying32 Try.size43 rfl rfl rfl hlt rfl ?_
    refine s_stores_row st5 1 (vs := z.op ++ [tr']) rfl (Try.size43.trans (by simp [okz.len])) rfl rfl ?one ?fit ?_
    case one =>
      intro u hu
      rcases List.mem_append.1 hu with hu | hu
      · exact fitsAll_one okz.op u hu
      · rw [List.mem_singleton.1 hu]; exact h1
    case fit => rw [flat_length hall]; simp [okz.len, hDl]; omega
    intro w7 st7 hc7
    have okz' : OkW ⟨z.op, tr', z.n, z.cs⟩ := ⟨okz.op, okz.n, okz.cs, h1⟩
    have e7 : setFrom (flat (D' ++ D.drop k)) (0 + k * 40) (z.op ++ [tr']) = flat ((D' ++ [⟨z.op, tr', z.n, z.cs⟩]) ++ D.drop (k + 1)) := by
      rw [Nat.zero_add, ← hDl, hDl, hdz, ← hDl]
      exact flat_set (y := ⟨z.op, tr', z.n, z.cs⟩) (fun y hy => (hok y hy).len) okz.len okz.len
    rw [e7] at st7
    have st8 := St.join st7 1 (B := trails D') rfl (trails (D' ++ [⟨z.op, tr', z.n, z.cs⟩])) (fun ha hb y hy => by
      rcases List.mem_append.1 hy with hy | hy
      · exact hb y hy
      · rw [List.mem_singleton.1 hy]; exact ha) (fun q ⟨y, hy, hq⟩ => by
      rcases List.mem_append.1 hy with hy | hy
      · exact .inr ⟨y, hy, hq⟩
      · rw [List.mem_singleton.1 hy] at hq; exact .inl hq)
    refine wpList_nil ?_
    refine blk_normal ?_
    refine then_normal (hK10 _ _ ?_)
    clear hK10
    refine wp_region_lit ?_
    refine o_add64 (a := (k : Int)) (b := 1) (c := ((k + 1 : Nat) : Int)) rfl rfl (by omega) (by omega) (by omega) ?_
    refine o_move (v := (.int .i64 ((k + 1 : Nat) : Int))) rfl ?_
    refine wpList_nil ?_
    refine then_normal ?_
    refine ⟨D.length - (k + 1), _, by omega, rfl, k + 1, D' ++ [Wish.mk z.op tr' z.n z.cs], by omega, rfl, ⟨rfl, rfl, rfl, rfl, trivial⟩, by simp [hDl], ?_, ?_, st8⟩
    · intro y hy
      rcases List.mem_append.1 hy with hy | hy
      · exact hok y hy
      · rw [List.mem_singleton.1 hy]; exact okz'
    · rw [List.take_add_one, hz]
      unfold dat at hdat ⊢
      simp [hdat]
  · obtain rfl : k = D.length := by omega
    rw [List.drop_length, List.append_nil] at st6
    rw [List.take_length] at hdat
    rw [← hDl] at st6 ⊢
    refine wp_seq_k fun K12 hK12 => ?_
    refine wp_region_lit ?_
    refine o_lss (k := .i64) (a := (D'.length : Int)) (b := ((D'.length : Nat) : Int)) (r := false) rfl rfl (decide_eq_false (by omega)) ?_
    refine wpList_nil ?_
    refine then_normal (hK12 _ _ ?_)
    clear hK12
    refine wp_seq_k fun K13 hK13 => ?_
    refine cond_f rfl ?_
    refine wp_exit ?_
    refine then_exit ?_
    refine then_exit ?_
    refine blk_exit ?_
    refine then_normal (hK6 _ _ ?_)
    clear hK6
    refine wp_seq_k fun K14 hK14 => ?_
    refine wp_seq_k fun K15 hK15 => ?_
    refine wp_region_lit ?_
    refine o_move (v := (.slice A D'.length c)) rfl ?_
    refine o_makeFunc (cv := [(.pointer (some ⟨b2, 0, none⟩))]) rfl ?_
    have wo1 := St.wo st6 0 1 rfl rfl hok
    have hq : w5.rangeAt b2 0 op := st6.range 2 rfl 0 (head_part hlen)
    refine op_call (args := [.slice A D'.length c, .func (.func 16) #[] #[.pointer (some ⟨b2, 0, none⟩)]]) Try.ent15 rfl (contains15 w5 _ D' b2 op (by omega) wo1.ws hop hq) ?_
    rintro r w6 ⟨rfl, hc6⟩
    have st6 := st6.keep hc6
    cases hb : D'.any fun x => sameB x.op op
    · refine wpList_nil ?_
      refine then_normal (hK15 _ _ ?_)
      clear hK15
      refine cond_f rfl ?_
      refine wp_skip ?_
      refine then_normal (hK14 _ _ ?_)
      clear hK14
      refine wp_seq_k fun K16 hK16 => ?_
      obtain ⟨i0, i43, z43', sz43, by43⟩ := info_parts Try.inf43
      have hq9 : w6.rangeAt b2 0 (op ++ [tr]) := st6.range 2 rfl 0 (by rw [List.drop_zero, List.take_length])
      refine d_begin (fun w' => Ch w6 w' none') (by kernel_rfl) ?_
      obtain ⟨w17, ew17⟩ : ∃ x, x = World.drew w6 := ⟨_, rfl⟩
      rw [← ew17]
      have hSw17 : Ch w6 w17 none' := by rw [ew17]; exact Ch.drew _ _
      have st18 := st6.keep hSw17
      clear ew17
      refine d_take (i := 0) (d := 26) (v := (.slice A D'.length c)) rfl rfl rfl (by kernel_rfl) (by kernel_rfl) (by kernel_rfl) (np_then np_body) hSw17 (fun w' hS => r_move (v := (.slice A D'.length c)) rfl) ?_
      refine d_take (i := 2) (d := 28) (v := (.agg ((op ++ [tr]) : List Value).toArray)) rfl rfl rfl (by kernel_rfl) (by kernel_rfl) (by kernel_rfl) (np_then np_body) hSw17 (fun w' hS => r_loads (cs := op ++ [tr]) Try.underlying43 rfl (Try.size43.trans (by simp [hlen])) rfl (rangeAt_keep hq9 hS)) ?_
      refine d_loud (i := 1) (by kernel_rfl) rfl ?_
      refine op_call (args := [.slice A D'.length c]) Try.ent13 rfl (clone13 w17 _ D'.length (flat D') (by omega) (St.wo st18 0 1 rfl rfl hok).ws.rd) ?_
      intro v8 w8 hn8
      have st8 := st18.newRow hn8
      refine wpList_nil ?_
      refine then_normal ?_
      have hS19 : Ch w6 w8 none' := hSw17.fresh hn8.ch
      refine ⟨hS19, ?_⟩
      refine d_loud (i := 3) (by kernel_rfl) rfl ?_
      refine op_call (args := [.agg (op ++ [tr]).toArray]) Try.ent14 rfl (twin14 w8 ⟨op, tr, kx, csx⟩ hx (hr.keep st8.ch fun _ _ f => f)) ?_
      rintro r w9 ⟨tr', rfl, hn9⟩
      have st9 := st8.newRow hn9
      have h1 : tr'.oneCell' = true := by rcases hn9.ok.2 with h | ⟨_, _, _, h, _⟩ <;> (first | rw [h.1] | rw [h]) <;> rfl
      refine wpList_nil ?_
      refine then_normal ?_
      have hS20 : Ch w6 w9 none' := hS19.fresh hn9.ch
      refine ⟨hS20, ?_⟩
      refine d_loud (i := 4) (by kernel_rfl) rfl ?_
      refine s_buildSlice1 st9 (cs := op ++ [tr']) Try.underlying32 i43 z43' (by rw [sz43]; simp [hlen]) (by simp) (by simp [hlen]) rfl ?_
      intro b10 w10 st10 hb10 hc10
      refine wpList_nil ?_
      refine then_normal ?_
      have hS21 : Ch w6 w10 none' := hS20.fresh hc10
      refine ⟨hS21, ?_⟩
      refine d_loud (i := 5) (by kernel_rfl) rfl ?_
      have hone' : ∀ u ∈ op ++ [tr'], u.oneCell' = true := fun u hu => by
        rcases List.mem_append.1 hu with hu | hu
        · exact fitsAll_one hop u hu
        · rw [List.mem_singleton.1 hu]; exact h1
      refine o_append st10 2 Try.underlying32 i43 z43' sz43 by43 (by rfl) (by decide) rfl rfl rfl (st10.rd 0 rfl (k := 1) (by simp [hlen]) hone') (by unfold maxLen; omega) (by omega) ?_
      intro v11 w11 st11 hv11 _ hc11
      refine wpList_nil ?_
      refine then_normal ?_
      have hS22 : Ch w6 w11 none' := hS21.trans hc11 (fun _ f => f) (fun q hq hv => by have h1 := hn8.own q hv; have h2 := hSw17.size; omega)
      refine ⟨hS22, ?_⟩
      refine d_take (i := 6) (d := 4) (v := v11) rfl rfl rfl (by kernel_rfl) (by kernel_rfl) (by kernel_rfl) (np_then np_body) hS22 (fun w' hS => r_assign (v := v11) rfl) ?_
      refine d_done (by kernel_rfl) ?_
      refine then_normal (hK16 _ _ ?_)
      clear hK16
      refine wp_ret ?_
      have okx' : OkW ⟨op, tr', kx, csx⟩ := ⟨hx.op, hx.n, hx.cs, h1⟩
      have st12 := (st11.drop (M := [row tr' kx csx 81 3, row v11 (D'.length + 1) (flat D' ++ (op ++ [tr'])) 43 40, trails D']) ?sub)
      case sub => exact List.Sublist.cons _ (List.Sublist.cons_cons _ (List.Sublist.cons_cons _ (List.Sublist.cons _ (List.Sublist.cons_cons _ (List.nil_sublist _)))))
      have st13 := St.join st12 1 (B := trails D') rfl (trails (D' ++ [⟨op, tr', kx, csx⟩])) (fun ha hb y hy => by
        rcases List.mem_append.1 hy with hy | hy
        · exact hb y hy
        · rw [List.mem_singleton.1 hy]; exact ha) (fun q ⟨y, hy, hq⟩ => by
        rcases List.mem_append.1 hy with hy | hy
        · exact .inr ⟨y, hy, hq⟩
        · rw [List.mem_singleton.1 hy] at hq; exact .inl hq)
      refine ret_tmp (v := v11) rfl rfl ⟨st13.ch, D' ++ [Wish.mk op tr' kx csx], St.wo st13 0 1 (by rw [flat_app, flat_one, List.length_append]; rfl) rfl ?_, ?_⟩
      · intro y hy
        rcases List.mem_append.1 hy with hy | hy
        · exact hok y hy
        · rw [List.mem_singleton.1 hy]; exact okx'
      · unfold addD
        rw [if_neg (by rw [← hdat, any_dat, hb]; simp), ← hdat]
        simp [dat]
    · refine wpList_nil ?_
      refine then_normal (hK15 _ _ ?_)
      clear hK15
      refine cond_t rfl ?_
      refine wp_seq_k fun K23 hK23 => ?_
      refine wp_region_lit ?_
      refine o_move (v := (.slice A D'.length c)) rfl ?_
      refine o_assign (v := (.slice A D'.length c)) rfl ?_
      refine wpList_nil ?_
      refine then_normal (hK23 _ _ ?_)
      clear hK23
      refine wp_ret ?_
      refine then_ret ?_
      exact ret_tmp (v := .slice A D'.length c) rfl rfl ⟨st6.ch, D', St.wo st6 0 1 rfl rfl hok, by rw [hdat]; unfold addD; rw [if_pos (by rw [← hdat, any_dat]; exact hb)]⟩
end Go.Proofs.Ytocmlbnaikojkaa
