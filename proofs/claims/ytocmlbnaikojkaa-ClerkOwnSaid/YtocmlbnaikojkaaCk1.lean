/- ClerkOwn: contracts of clone, Twin, Same and the search. -/
import Derived.Test.YtocmlbnaikojkaaSa
import Derived.Test.YtocmlbnaikojkaaProg
namespace Go.Proofs.Ytocmlbnaikojkaa
open Go Go.Sx
attribute [local irreducible] Go.wpList

theorem Try.size81 : (Try.prog.info? 81).map (·.size) = some 3 := by kernel_rfl
theorem Try.size43 : (Try.prog.info? 43).map (·.size) = some 40 := by kernel_rfl
theorem Try.size41 : (Try.prog.info? 41).map (·.size) = some 1 := by kernel_rfl
theorem Try.size40 : (Try.prog.info? 40).map (·.size) = some 39 := by kernel_rfl
theorem Try.size31 : (Try.prog.info? 31).map (·.size) = some 40 := by kernel_rfl
theorem Try.size28 : (Try.prog.info? 28).map (·.size) = some 39 := by kernel_rfl
theorem Try.size29 : (Try.prog.info? 29).map (·.size) = some 1 := by kernel_rfl
theorem Try.size32 : (Try.prog.info? 32).map (·.size) = some 1 := by kernel_rfl
theorem Try.size22 : (Try.prog.info? 22).map (·.size) = some 1 := by kernel_rfl
theorem Try.ent29 : Enters Try.prog 29 := enters Try.func29 (by kernel_rfl) (by kernel_rfl)
theorem Try.ent13 : Enters Try.prog 13 := enters Try.func13 (by kernel_rfl) (by kernel_rfl)
theorem Try.ent14 : Enters Try.prog 14 := enters Try.func14 (by kernel_rfl) (by kernel_rfl)
theorem Try.ent17 : Enters Try.prog 17 := enters Try.func17 (by kernel_rfl) (by kernel_rfl)
theorem Try.ent16 : Enters Try.prog 16 := enters Try.func16 (by kernel_rfl) (by kernel_rfl)
theorem Try.ent30 : Enters Try.prog 30 := enters Try.func30 (by kernel_rfl) (by kernel_rfl)
theorem Try.ent15 : Enters Try.prog 15 := enters Try.func15 (by kernel_rfl) (by kernel_rfl)
theorem Try.ent5 : Enters Try.prog 5 := enters Try.func5 (by kernel_rfl) (by kernel_rfl)

theorem Try.inf81 : (Try.prog.info? 81).map (fun i => (i.zero, i.size, i.bytes)) = some (some (.agg #[.int .u32 0, .int .u64 0, .int .u64 0]), 3, 24) := by kernel_rfl

theorem clone29_nil (w : World) (c : Nat) : Ret Try.prog 29 [.slice none 0 c] w fun v w' => v = .slice none 0 0 ∧ Ch w w' none' := by
  refine enter (n := 8) Try.func29 rfl Try.ntmps29 (Nat.le_of_ble_eq_true rfl) ?_
  have st := St.start w none'
  refine wp_seq_k fun K1 hK1 => ?_
  refine wp_region_lit ?_
  refine o_assign (v := (.slice none 0 0)) rfl ?_
  refine wpList_nil ?_
  refine then_normal (hK1 _ _ ?_)
  clear hK1
  refine wp_seq_k fun K2 hK2 => ?_
  refine wp_seq_k fun K3 hK3 => ?_
  refine wp_region_lit ?_
  refine o_move (v := (.slice none 0 c)) rfl ?_
  refine o_nil (A := none) (r := true) Try.underlying41 rfl rfl rfl ?_
  refine wpList_nil ?_
  refine then_normal (hK3 _ _ ?_)
  clear hK3
  refine cond_t rfl ?_
  refine wp_seq_k fun K4 hK4 => ?_
  refine wp_region_lit ?_
  refine o_assign (v := (.slice none 0 0)) rfl ?_
  refine wpList_nil ?_
  refine then_normal (hK4 _ _ ?_)
  clear hK4
  refine wp_ret ?_
  refine then_ret ?_
  exact ret_tmp rfl rfl ⟨rfl, Ch.refl _ _⟩
theorem clone29_some (w : World) (a : Addr) (k c : Nat) (cs : List Value) (hk : k ≤ 1000000) (h : Rd w (.slice (some a) k c) k cs 3) : Ret Try.prog 29 [.slice (some a) k c] w fun v w' => NewRow w w' v k cs 81 3 := by
  refine enter (n := 8) Try.func29 rfl Try.ntmps29 (Nat.le_of_ble_eq_true rfl) ?_
  have st := St.start w none'
  obtain ⟨i0, hi, hz0, hz1, hz2⟩ := info_parts Try.inf81
  refine wp_seq_k fun K1 hK1 => ?_
  refine wp_region_lit ?_
  refine o_assign (v := (.slice none 0 0)) rfl ?_
  refine wpList_nil ?_
  refine then_normal (hK1 _ _ ?_)
  clear hK1
  refine wp_seq_k fun K2 hK2 => ?_
  refine wp_seq_k fun K3 hK3 => ?_
  refine wp_region_lit ?_
  refine o_move (v := (.slice (some a) k c)) rfl ?_
  refine o_nil (A := some a) (r := false) Try.underlying41 rfl rfl rfl ?_
  refine wpList_nil ?_
  refine then_normal (hK3 _ _ ?_)
  clear hK3
  refine cond_f rfl ?_
  refine wp_skip ?_
  refine then_normal (hK2 _ _ ?_)
  clear hK2
  refine wp_seq_k fun K4 hK4 => ?_
  refine wp_region_lit ?_
  refine s_buildSlice0 st Try.underlying41 Try.size81 ?_
  intro b w2 st2 hb hb2 hc
  refine o_move (v := (.slice (some a) k c)) rfl ?_
  refine o_append st2 0 Try.underlying41 hi hz0 hz1 hz2 (by first | rfl | kernel_rfl) (by decide) rfl rfl rfl (h.keep hc fun _ _ f => f) (by unfold maxLen; omega) (by omega) ?_
  intro v3 w3 st3 hv3 _ hc3
  refine o_assign (v := v3) rfl ?_
  refine wpList_nil ?_
  refine then_normal (hK4 _ _ ?_)
  clear hK4
  refine wp_ret ?_
  have st4 : St w w3 none' [row v3 k cs 81 3] := by simpa using st3
  exact ret_tmp rfl rfl ⟨st4.ch, st4.get 0 rfl, fun q hq => ⟨(st4.new_of 0 rfl (k := q) hq).resolve_right (fun f => f), st4.lt_of 0 rfl (k := q) hq⟩⟩

end Go.Proofs.Ytocmlbnaikojkaa
