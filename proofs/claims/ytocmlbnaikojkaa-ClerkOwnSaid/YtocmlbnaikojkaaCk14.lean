/- ClerkOwn: an empty list laid as bytes, and taken off them. -/
import Derived.Test.YtocmlbnaikojkaaCk13
import Derived.Test.YtocmlbnaikojkaaSf
namespace Go.Proofs.Ytocmlbnaikojkaa
open Go Go.Sx
attribute [local irreducible] Go.wpList

theorem _root_.Go.Sx.St.owned {w : World} {S : Nat → Prop} {A : Asrt} (h : A.ok (hp w)) (hs : ∀ k, A.fp k → S k) (hl : ∀ k, A.fp k → k < w.heap.size) : St w w S [A] :=
  ⟨Ch.refl w S, fun B hB => by rw [List.mem_singleton.1 hB]; exact h, fun B hB => by rw [List.mem_singleton.1 hB]; exact hl, fun B hB k hk => .inr (hs k (by rw [List.mem_singleton.1 hB] at hk; exact hk)), List.pairwise_singleton _ _⟩
theorem row_lt {w : World} {v : Value} {k : Nat} {xs : List Value} {e : TypeId} {size : Nat} (h : (row v k xs e size).ok (hp w)) : ∀ q, (row v k xs e size).fp q → q < w.heap.size := by
  intro q hq
  rcases h.2 with ⟨rfl, _⟩ | ⟨g, cap, cur, rfl, hg, _⟩
  · cases hq
  · have : g = q := by injection hq
    subst this
    exact lt_of_heap hg

theorem Try.size5 : (Try.prog.info? 5).map (·.size) = some 1 := by kernel_rfl
theorem Try.size49 : (Try.prog.info? 49).map (·.size) = some 1 := by kernel_rfl
theorem Try.size46 : (Try.prog.info? 46).map (·.size) = some 1 := by kernel_rfl
theorem Try.size102 : (Try.prog.info? 102).map (·.size) = some 2 := by kernel_rfl
theorem Try.size88 : (Try.prog.info? 88).map (·.size) = some 1 := by kernel_rfl
theorem Try.ent23 : Enters Try.prog 23 := enters Try.func23 (by kernel_rfl) (by kernel_rfl)
theorem Try.ent18 : Enters Try.prog 18 := enters Try.func18 (by kernel_rfl) (by kernel_rfl)
theorem Try.ent19 : Enters Try.prog 19 := enters Try.func19 (by kernel_rfl) (by kernel_rfl)
theorem Try.ent31 : Enters Try.prog 31 := enters Try.func31 (by kernel_rfl) (by kernel_rfl)
theorem Try.ent42 : Enters Try.prog 42 := enters Try.func42 (by kernel_rfl) (by kernel_rfl)
theorem Try.ent46 : Enters Try.prog 46 := enters Try.func46 (by kernel_rfl) (by kernel_rfl)
theorem Try.ent22 : Enters Try.prog 22 := enters Try.func22 (by kernel_rfl) (by kernel_rfl)
theorem Try.ent37 : Enters Try.prog 37 := enters Try.func37 (by kernel_rfl) (by kernel_rfl)
theorem Try.ent35 : Enters Try.prog 35 := enters Try.func35 (by kernel_rfl) (by kernel_rfl)
theorem Try.ent26 : Enters Try.prog 26 := enters Try.func26 (by kernel_rfl) (by kernel_rfl)
theorem Try.ent8 : Enters Try.prog 8 := enters Try.func8 (by kernel_rfl) (by kernel_rfl)
theorem Try.ent9 : Enters Try.prog 9 := enters Try.func9 (by kernel_rfl) (by kernel_rfl)
theorem Try.ent10 : Enters Try.prog 10 := enters Try.func10 (by kernel_rfl) (by kernel_rfl)
theorem Try.inf5 : (Try.prog.info? 5).map (fun i => (i.zero, i.size, i.bytes)) = some (some (.int .u8 0), 1, 1) := by kernel_rfl

theorem one23 (w : World) (v src : Value) (hrow : (row v 0 [] 5 1).ok (hp w)) (hsrc : Rd w src 1 [.int .u8 0] 1) : Ret Try.prog 23 [v, src] w fun v' w' => Ch w w' (fun q => v.ownBlock = some q) ∧ Rd w' v' 1 [.int .u8 0] 1 := by
  obtain ⟨i5, hi5, hz5, hs5, hb5⟩ := info_parts Try.inf5
  have st0 : St w w (fun q => v.ownBlock = some q) [row v 0 [] 5 1] := St.owned hrow (fun _ h => h) (row_lt hrow)
  refine enter (n := 8) Try.func23 rfl Try.ntmps23 (Nat.le_of_ble_eq_true rfl) ?_
  refine wp_seq_k fun K1 hK1 => ?_
  refine wp_region_lit ?_
  refine o_assign (v := (.slice none 0 0)) rfl ?_
  refine wpList_nil ?_
  refine then_normal (hK1 _ _ ?_)
  clear hK1
  refine wp_seq_k fun K2 hK2 => ?_
  refine wp_region_lit ?_
  refine o_move (v := v) rfl ?_
  refine o_move (v := src) rfl ?_
  refine o_append2 st0 0 Try.underlying88 Try.underlying49 hi5 hz5 hs5 hb5 rfl (by decide) rfl rfl rfl hsrc (by unfold maxLen; omega) (by omega) ?_
  intro v' w' st1 _ _ hc
  refine o_assign (v := v') rfl ?_
  refine wpList_nil ?_
  refine then_normal (hK2 _ _ ?_)
  clear hK2
  refine wp_ret ?_
  exact ret_tmp rfl rfl ⟨hc, row_rd (xs := [.int .u8 0]) (st1.get 0 rfl) (fun u hu => by rw [List.mem_singleton.1 hu]; rfl)⟩

theorem save9 (w : World) : Ret Try.prog 9 [.slice none 0 0] w fun v' w' => Ch w w' none' ∧ Rd w' v' 1 [.int .u8 0] 1 := by
  obtain ⟨i5, hi5, hz5, hs5, hb5⟩ := info_parts Try.inf5
  refine enter (n := 32) Try.func9 rfl Try.ntmps9 (Nat.le_of_ble_eq_true rfl) ?_
  have st := St.start w none'
  refine wp_seq_k fun K1 hK1 => ?_
  refine wp_region_lit ?_
  refine o_assign (v := (.slice none 0 0)) rfl ?_
  refine wpList_nil ?_
  refine then_normal (hK1 _ _ ?_)
  clear hK1
  refine wp_seq_k fun K2 hK2 => ?_
  refine wp_region_lit ?_
  refine o_move (v := (.slice none 0 0)) rfl ?_
  refine o_move (v := (.slice none 0 0)) rfl ?_
  refine o_len (z := 0) Try.underlying32 rfl rfl ?_
  refine o_min (c := 0) rfl rfl (by decide) ?_
  refine o_slice_h (h := 0) Try.underlying32 Try.size43 rfl rfl (rfl) (Nat.le_refl _) ?_
  refine o_assign (v := (.slice none 0 0)) rfl ?_
  refine wpList_nil ?_
  refine then_normal (hK2 _ _ ?_)
  clear hK2
  refine wp_seq_k fun K3 hK3 => ?_
  refine wp_region_lit ?_
  refine s_buildSlice0 st Try.underlying88 Try.size5 ?_
  intro g w2 st2 hg hg2 hcg
  refine o_move (v := (.slice none 0 0)) rfl ?_
  refine o_len (z := 0) Try.underlying32 rfl rfl ?_
  refine o_convert (b := 0) Try.underlying3 Try.underlying5 rfl (by decide) ?_
  refine s_buildSlice1 st2 (cs := [.int .u8 0]) Try.underlying49 hi5 hz5 (by rw [hs5]; rfl) (Nat.le_of_ble_eq_true rfl) (Nat.le_of_ble_eq_true rfl) rfl ?_
  intro b4 w5 st6 hbb4 hcb4
  refine op_call (args := [(.slice (some ⟨g, 0, none⟩) 0 0), (.slice (some ⟨b4, 0, none⟩) 1 1)]) Try.ent23 rfl (one23 w5 _ _ (st6.get 1 rfl) (st6.rd 0 rfl (k := 1) (size := 1) rfl (fun u hu => by rw [List.mem_singleton.1 hu]; rfl))) ?_
  rintro v5 w5 ⟨hc5, hr5⟩
  have hc6 : Ch w w5 none' := st6.ch.trans hc5 (fun _ f => f) (fun q hq e => by have e : some g = some q := e; have := Option.some.inj e; omega)
  obtain ⟨A5, c5, hv5, hA5⟩ := hr5.len
  refine o_assign (v := v5) rfl ?_
  refine wpList_nil ?_
  refine then_normal (hK3 _ _ ?_)
  clear hK3
  refine wp_seq_k fun K7 hK7 => ?_
  refine wp_seq_k fun K8 hK8 => ?_
  refine wp_region_lit ?_
  refine o_move (v := (.slice none 0 0)) rfl ?_
  refine o_len (z := 0) Try.underlying32 rfl rfl ?_
  refine o_move (v := (.int .i64 0)) rfl ?_
  refine wpList_nil ?_
  refine then_normal (hK8 _ _ ?_)
  clear hK8
  refine wp_block ?_
  refine Sx.loop (n := 32) (fun m E w1 => m = 0 ∧ Has E [(19, .int .i64 0), (18, .int .i64 0), (17, .slice none 0 0), (3, v5)] ∧ w1 = w5) ⟨rfl, ⟨rfl, rfl, rfl, rfl, trivial⟩, rfl⟩ ?_
  rintro m E wl ⟨rfl, hE, rfl⟩
  rw [hE.norm]
  refine wp_seq_k fun K9 hK9 => ?_
  refine wp_region_lit ?_
  refine o_lss (k := .i64) (a := 0) (b := 0) (r := false) rfl rfl (by decide) ?_
  refine wpList_nil ?_
  refine then_normal (hK9 _ _ ?_)
  clear hK9
  refine wp_seq_k fun K10 hK10 => ?_
  refine cond_f rfl ?_
  refine wp_exit ?_
  refine then_exit ?_
  refine then_exit ?_
  refine blk_exit ?_
  refine then_normal (hK7 _ _ ?_)
  clear hK7
  refine wp_seq_k fun K11 hK11 => ?_
  refine wp_region_lit ?_
  refine o_move (v := v5) rfl ?_
  refine o_assign (v := v5) rfl ?_
  refine wpList_nil ?_
  refine then_normal (hK11 _ _ ?_)
  clear hK11
  refine wp_ret ?_
  exact ret_tmp rfl rfl ⟨hc6, hr5⟩

theorem pl102 : placesOf Try.prog 102 = some ([(0, 1), (1, 1)], [.slice none 0 0, .int .i64 0]) := by kernel_rfl
theorem of18 (w : World) (src : Value) (hsrc : Rd w src 1 [.int .u8 0] 1) : Ret Try.prog 18 [src] w fun v' w' => Ch w w' none' ∧ ∃ b g c, v' = .pointer (some ⟨b, 0, none⟩) ∧ w'.heap[b]? = some (.cells [.slice (some ⟨g, 0, none⟩) 1 c, .int .i64 0].toArray 102 (0, 0)) ∧ w.heap.size ≤ b ∧ g ≠ b ∧ w'.cell? ⟨g, 0, none⟩ = some (.int .u8 0) ∧ 1 ≤ c := by
  obtain ⟨i5, hi5, hz5, hs5, hb5⟩ := info_parts Try.inf5
  refine enter (n := 8) Try.func18 rfl Try.ntmps18 (Nat.le_of_ble_eq_true rfl) ?_
  have st := St.start w none'
  refine wp_seq_k fun K1 hK1 => ?_
  refine wp_region_lit ?_
  refine o_assign (v := (.pointer none)) rfl ?_
  refine wpList_nil ?_
  refine then_normal (hK1 _ _ ?_)
  clear hK1
  refine wp_seq_k fun K2 hK2 => ?_
  refine wp_region_lit ?_
  refine s_buildSlice0 st Try.underlying49 Try.size5 ?_
  intro g w2 st2 hg hg2 hcg
  refine o_move (v := src) rfl ?_
  refine o_append st2 0 Try.underlying49 hi5 hz5 hs5 hb5 rfl (by decide) rfl rfl rfl (hsrc.keep hcg fun _ _ f => f) (by unfold maxLen; omega) (by omega) ?_
  intro v3 w3 st3 _ hn3 hc3
  have st3 : St w w3 none' [row v3 1 [.int .u8 0] 5 1] := st3
  obtain ⟨g3, c3, hv3, hcell, hc31⟩ : ∃ g c, v3 = .slice (some ⟨g, 0, none⟩) 1 c ∧ w3.cell? ⟨g, 0, none⟩ = some (.int .u8 0) ∧ 1 ≤ c := by
    have hr := row_rd (st3.get 0 rfl) (fun u hu => by rw [List.mem_singleton.1 hu]; rfl)
    obtain ⟨A, c, e, hA, hn, hg⟩ := row_form (st3.get 0 rfl)
    cases A with
    | none => exact absurd (hA rfl) (by omega)
    | some a =>
      obtain ⟨g, rfl⟩ := hg a rfl
      refine ⟨g, c, e, ?_, hn⟩
      have := rangeAt_cell (hr.range e (j := 0) (by omega)) (j := 0) (v := .int .u8 0) rfl
      simpa using this
  subst hv3
  refine o_build (pl := [(0, 1), (1, 1)]) (Z := [.slice none 0 0, .int .i64 0]) (cs := [.slice (some ⟨g3, 0, none⟩) 1 c3, .int .i64 0]) (vals := [(0, [.slice (some ⟨g3, 0, none⟩) 1 c3])]) pl102 rfl ⟨⟨0, rfl, Nat.le_of_ble_eq_true rfl⟩, trivial⟩ rfl ?_
  refine s_box st3 (cs := [.slice (some ⟨g3, 0, none⟩) 1 c3, .int .i64 0]) rfl ?_
  intro b3 w4 st5 hbb3 hcb3
  refine o_assign (v := (.pointer (some ⟨b3, 0, none⟩))) rfl ?_
  refine wpList_nil ?_
  refine then_normal (hK2 _ _ ?_)
  clear hK2
  refine wp_ret ?_
  refine ret_tmp rfl rfl ⟨st5.ch, b3, g3, c3, rfl, st5.blk 0 rfl, Nat.le_trans st3.ch.size hbb3, ?_, ?_, hc31⟩
  · have := st3.lt_of 0 rfl (k := g3) rfl; omega
  · rw [World.cell?_of_block (w := w3) (hcb3.same g3 (st3.lt_of 0 rfl (k := g3) rfl) (fun f => f))]; exact hcell
end Go.Proofs.Ytocmlbnaikojkaa
