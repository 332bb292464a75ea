/- ClerkOwn: contracts of the search; Add. -/
import Derived.Test.YtocmlbnaikojkaaCk4
import Derived.Test.YtocmlbnaikojkaaSd
namespace Go.Proofs.Ytocmlbnaikojkaa
open Go Go.Sx
attribute [local irreducible] Go.wpList

theorem Try.inf43 : ((Try.prog.info? 43).map (fun i => (i.zero, i.size, i.bytes)) = some (some (.agg z43.toArray), 40, 112)) := by kernel_rfl

theorem index30 (w : World) (v : Value) (D : List Wish) (q : Nat) (o : List Value) (hD : D.length ≤ 1000) (h : WS w v D) (ho : fitsAll ks40 o = true) (hq : w.rangeAt q 0 o) :
    Ret Try.prog 30 [v, .func (.func 16) #[] #[.pointer (some ⟨q, 0, none⟩)]] w fun r w' => (∃ z : Int, r = .int .i64 z ∧ (decide (z ≥ 0) = D.any fun x => sameB x.op o)) ∧ Ch w w' none' := by
  obtain ⟨A, c, rfl, hA⟩ := h.len
  refine enter (n := 19) Try.func30 rfl Try.ntmps30 (Nat.le_of_ble_eq_true rfl) ?_
  have st := St.start w none'
  refine wp_seq_k fun K1 hK1 => ?_
  refine wp_region_lit ?_
  refine o_assign (v := (.int .i64 0)) rfl ?_
  refine wpList_nil ?_
  refine then_normal (hK1 _ _ ?_)
  clear hK1
  refine wp_seq_k fun K2 hK2 => ?_
  refine wp_seq_k fun K3 hK3 => ?_
  refine wp_region_lit ?_
  refine o_move (v := (.slice A D.length c)) rfl ?_
  refine o_len (z := ((D.length : Nat) : Int)) Try.underlying32 rfl rfl ?_
  refine o_move (v := (.int .i64 0)) rfl ?_
  refine wpList_nil ?_
  refine then_normal (hK3 _ _ ?_)
  clear hK3
  refine wp_block ?_
  refine Sx.loop (n := 19) (fun m E w1 => ∃ k : Nat, k ≤ D.length ∧ m = D.length - k ∧ Has E [(8, .int .i64 (k : Int)), (7, .int .i64 ((D.length : Nat) : Int)), (0, .slice A D.length c), (1, .func (.func 16) #[] #[.pointer (some ⟨q, 0, none⟩)])] ∧ Ch w w1 none' ∧ (D.take k).any (fun x => sameB x.op o) = false) ⟨0, Nat.zero_le _, rfl, ⟨rfl, rfl, rfl, rfl, trivial⟩, st.ch, by simp⟩ ?_
  rintro m E w1 ⟨k, hk, rfl, hE, hc, hany⟩
  rw [hE.norm]
  have h1 := h.fresh hc
  have hq1 := rangeAt_keep hq hc
  have st1 : St w w1 none' [] := (St.start w none').keep hc
  by_cases hlt : k < D.length
  · obtain ⟨b, o2, c2, e1, hc2⟩ := h1.form (by omega)
    injection e1 with e1 e2 e3; subst e1; clear e2; subst e3
    obtain ⟨x, hx⟩ : ∃ x, D[k]? = some x := ⟨_, List.getElem?_eq_getElem hlt⟩
    have hxm := List.mem_of_getElem? hx
    obtain ⟨okx, rdx⟩ := h1.each x hxm
    refine wp_seq_k fun K4 hK4 => ?_
    refine wp_region_lit ?_
    refine o_lss (k := .i64) (a := (k : Int)) (b := ((D.length : Nat) : Int)) (r := true) rfl rfl (decide_eq_true (by omega)) ?_
    refine wpList_nil ?_
    refine then_normal (hK4 _ _ ?_)
    clear hK4
    refine wp_seq_k fun K5 hK5 => ?_
    refine cond_t rfl ?_
    refine wp_skip ?_
    refine then_normal (hK5 _ _ ?_)
    clear hK5
    refine wp_seq_k fun K6 hK6 => ?_
    refine wp_block ?_
    refine wp_seq_k fun K7 hK7 => ?_
    refine wp_region_lit ?_
    refine o_move (v := (.int .i64 (k : Int))) rfl ?_
    refine o_assign (v := (.int .i64 (k : Int))) rfl ?_
    refine wpList_nil ?_
    refine then_normal (hK7 _ _ ?_)
    clear hK7
    refine wp_seq_k fun K8 hK8 => ?_
    refine wp_region_lit ?_
    refine o_move (v := (.func (.func 16) #[] #[(.pointer (some ⟨q, 0, none⟩))])) rfl ?_
    refine o_move (v := (.slice (some ⟨b, o2, none⟩) D.length c)) rfl ?_
    refine o_move (v := (.int .i64 (k : Int))) rfl ?_
    refine o_indexAddr (i := k) (q := o2 + k * 40) Try.underlying32 Try.size43 rfl rfl rfl hlt rfl ?_
    refine o_loads (cs := x.op ++ [x.tr]) Try.underlying43 rfl (Try.size43.trans (by simp [okx.len])) rfl (h1.range rfl hx) ?_
    refine op_call_val (args := [.agg (x.op ++ [x.tr]).toArray, .pointer (some ⟨q, 0, none⟩)]) Try.ent16 rfl rfl (closure16 w1 x.op x.tr q o okx.op ho okx.one hq1) ?_
    rintro r w2 ⟨rfl, hc2⟩
    have st2 := st1.keep hc2
    cases hb : sameB x.op o
    · refine wpList_nil ?_
      refine then_normal (hK8 _ _ ?_)
      clear hK8
      refine cond_f rfl ?_
      refine wp_skip ?_
      refine blk_normal ?_
      refine then_normal (hK6 _ _ ?_)
      clear hK6
      refine wp_region_lit ?_
      refine o_add64 (a := (k : Int)) (b := 1) (c := ((k + 1 : Nat) : Int)) rfl rfl (by omega) (by omega) (by omega) ?_
      refine o_move (v := (.int .i64 ((k + 1 : Nat) : Int))) rfl ?_
      refine wpList_nil ?_
      refine then_normal ?_
      refine ⟨D.length - (k + 1), _, by omega, rfl, k + 1, by omega, rfl, ⟨rfl, rfl, rfl, rfl, trivial⟩, st2.ch, ?_⟩
      rw [List.take_add_one, hx, List.any_append, hany]; simp [hb]
    · refine wpList_nil ?_
      refine then_normal (hK8 _ _ ?_)
      clear hK8
      refine cond_t rfl ?_
      refine wp_seq_k fun K9 hK9 => ?_
      refine wp_region_lit ?_
      refine o_move (v := (.int .i64 (k : Int))) rfl ?_
      refine o_assign (v := (.int .i64 (k : Int))) rfl ?_
      refine wpList_nil ?_
      refine then_normal (hK9 _ _ ?_)
      clear hK9
      refine wp_ret ?_
      refine blk_ret ?_
      refine then_ret ?_
      refine then_ret ?_
      refine blk_ret ?_
      refine then_ret ?_
      exact ret_tmp (v := (.int .i64 (k : Int))) rfl rfl ⟨⟨(k : Int), rfl, by rw [decide_eq_true (by omega)]; exact (List.any_eq_true.2 ⟨x, hxm, hb⟩).symm⟩, st2.ch⟩
  · refine wp_seq_k fun K10 hK10 => ?_
    refine wp_region_lit ?_
    refine o_lss (k := .i64) (a := (k : Int)) (b := ((D.length : Nat) : Int)) (r := false) rfl rfl (decide_eq_false (by omega)) ?_
    refine wpList_nil ?_
    refine then_normal (hK10 _ _ ?_)
    clear hK10
    refine wp_seq_k fun K11 hK11 => ?_
    refine cond_f rfl ?_
    refine wp_exit ?_
    refine then_exit ?_
    refine then_exit ?_
    refine blk_exit ?_
    refine then_normal (hK2 _ _ ?_)
    clear hK2
    refine wp_seq_k fun K12 hK12 => ?_
    refine wp_region_lit ?_
    refine o_assign (v := (.int .i64 (-1))) rfl ?_
    refine wpList_nil ?_
    refine then_normal (hK12 _ _ ?_)
    clear hK12
    refine wp_ret ?_
    exact ret_tmp (v := (.int .i64 (-1))) rfl rfl ⟨⟨-1, rfl, by rw [List.take_of_length_le (by omega)] at hany; rw [hany]; rfl⟩, st1.ch⟩
theorem contains15 (w : World) (v : Value) (D : List Wish) (q : Nat) (o : List Value) (hD : D.length ≤ 1000) (h : WS w v D) (ho : fitsAll ks40 o = true) (hq : w.rangeAt q 0 o) :
    Ret Try.prog 15 [v, .func (.func 16) #[] #[.pointer (some ⟨q, 0, none⟩)]] w fun r w' => r = .bool (D.any fun x => sameB x.op o) ∧ Ch w w' none' := by
  refine enter (n := 9) Try.func15 rfl Try.ntmps15 (Nat.le_of_ble_eq_true rfl) ?_
  have st := St.start w none'
  refine wp_seq_k fun K1 hK1 => ?_
  refine wp_region_lit ?_
  refine o_assign (v := (.bool false)) rfl ?_
  refine wpList_nil ?_
  refine then_normal (hK1 _ _ ?_)
  clear hK1
  refine wp_seq_k fun K2 hK2 => ?_
  refine wp_region_lit ?_
  refine o_move (v := v) rfl ?_
  refine o_move (v := (.func (.func 16) #[] #[(.pointer (some ⟨q, 0, none⟩))])) rfl ?_
  refine op_call (args := [v, .func (.func 16) #[] #[.pointer (some ⟨q, 0, none⟩)]]) Try.ent30 rfl (index30 w v D q o hD h ho hq) ?_
  rintro r w2 ⟨⟨z, rfl, hz⟩, hc2⟩
  refine o_geq (k := .i64) (a := z) (b := 0) (r := (D.any fun x => sameB x.op o)) rfl rfl (hz) ?_
  refine o_assign (v := (.bool (D.any fun x => sameB x.op o))) rfl ?_
  refine wpList_nil ?_
  refine then_normal (hK2 _ _ ?_)
  clear hK2
  refine wp_ret ?_
  exact ret_tmp (v := (.bool (D.any fun x => sameB x.op o))) rfl rfl ⟨rfl, hc2⟩
end Go.Proofs.Ytocmlbnaikojkaa
