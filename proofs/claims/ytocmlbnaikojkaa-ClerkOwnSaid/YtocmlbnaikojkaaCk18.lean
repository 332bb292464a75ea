/- ClerkOwn returns true for every input, and each argument reads afterwards as it read before. No condition. -/
import Derived.Test.YtocmlbnaikojkaaRows
import Derived.Test.YtocmlbnaikojkaaCk17
import Derived.Test.YtocmlbnaikojkaaSg
import Derived.ProofKit
namespace Go.Proofs.Ytocmlbnaikojkaa
open Go Go.Sx Go.ChangeShapes Go.WideShapes Go.ChangeAt Go.RowKit Go.Deep

theorem Try.own : ownKnob Try.prog.godebug = none := by kernel_rfl
theorem Try.laidOut : laidOutB Try.prog = true := by kernel_rfl
theorem flat28 : flatK Try.prog 10 28 = some ks40 := by kernel_rfl
theorem flat98 : flatK Try.prog 10 98 = some ks81 := by kernel_rfl
theorem cells28 : Try.prog.cellsOf 28 = 39 := by kernel_rfl
theorem cells98 : Try.prog.cellsOf 98 = 3 := by kernel_rfl
theorem cells29 : Try.prog.cellsOf 29 = 1 := by kernel_rfl
theorem cells31 : Try.prog.cellsOf 31 = 40 := by kernel_rfl

instance : Inhabited Wish := ⟨noWish⟩

section
variable {H : Type} {enc : TypeId × Value → H} {W : World} {base : Nat} {sp : Nat → Bool} {held : Bool}

theorem open_wish {fuel : Nat} {cs : List Value} {x : DataW H × List MemPlace} (h : DataW.trod enc Try.prog W base sp held fuel 31 cs = some x) : ∃ y : Wish, cs = y.op ++ [y.tr] ∧ OkR y ∧ Rd W y.tr y.n y.cs 3 := by
  obtain ⟨y0, y1, n, _, hl, h0, h1⟩ := trod_struct2 Try.underlying31 h
  have h0' : DataW.trod enc Try.prog W base sp held n 28 ((cs.drop 0).take (Try.prog.cellsOf 28)) = some y0 := h0
  have h1' : DataW.trod enc Try.prog W base sp held n 29 ((cs.drop 39).take (Try.prog.cellsOf 29)) = some y1 := h1
  rw [cells28, List.drop_zero] at h0'
  rw [cells29] at h1'
  rw [cells31] at hl
  have hop := trod_flat 10 28 ks40 flat28 cells28 n _ _ h0'
  obtain ⟨v, m, l, hv, hone, hrd, hfit⟩ := trod_rd Try.underlying29 flat98 cells98 (by decide) h1'
  refine ⟨⟨cs.take 39, v, m, l⟩, ?_, ⟨hop, hfit, hone⟩, hrd⟩
  have h2 : (cs.drop 39).take 1 = cs.drop 39 := List.take_of_length_le (by rw [List.length_drop]; omega)
  rw [h2] at hv
  show cs = cs.take 39 ++ [v]
  rw [← hv, List.take_append_drop]

theorem open_wishes {v : Value} {d : DataW H} {ps : List MemPlace} (hv : ∃ A n c, v = .slice A n c) (h : DataW.Trod enc Try.prog W base sp held 22 v d ps) : ∃ D, WR W v D := by
  obtain ⟨A, n, c, rfl⟩ := hv
  obtain ⟨fuel, h⟩ := h
  have h' : DataW.trod enc Try.prog W base sp held fuel 22 [.slice A n c] = some (d, ps) := h
  rcases open_slice Try.underlying22 h' with ⟨he, _⟩ | ⟨a, len, cap, m, n', D, Pl, he, hb, hl, hm, hmm, _, hel⟩
  · injection he with he
    rw [he]
    exact ⟨[], rd_nil W 40, fun x hx => (List.not_mem_nil hx).elim⟩
  · injection he with he
    rw [he]
    have hlm : len ≤ m := by rw [hmm]; split <;> omega
    obtain ⟨Dw, hD⟩ := choose_lt (n := len) (p := fun i (y : Wish) => W.cells? base (a.add (i * 40)) 40 = some (y.op ++ [y.tr]) ∧ OkR y ∧ Rd W y.tr y.n y.cs 3) fun i hi => by
      obtain ⟨cs', h1, h2⟩ := hel i (by omega)
      rw [cells31] at h1
      obtain ⟨y, rfl, h3, h4⟩ := open_wish h2
      exact ⟨y, h1, h3, h4⟩
    refine ⟨(List.range len).map Dw, ?_, fun x hx => ?_⟩
    · have := rd_of_elems (s := 40) (fun i => (Dw i).op ++ [(Dw i).tr]) (fun i hi => (hD i hi).1) hl (by decide) (fun i hi u hu => by
        rcases List.mem_append.1 hu with hu | hu
        · exact fitsAll_one (hD i hi).2.1.op u hu
        · rw [List.mem_singleton.1 hu]; exact (hD i hi).2.1.one)
      rw [List.length_map, List.length_range]
      have e : flat ((List.range len).map Dw) = ((List.range len).map fun i => (Dw i).op ++ [(Dw i).tr]).flatten := by unfold flat; rw [List.map_map]; rfl
      rw [e]
      exact this
    · obtain ⟨i, hi, rfl⟩ := List.mem_map.1 hx
      exact (hD i (List.mem_range.1 hi)).2
end

set_option maxRecDepth 100000 in
theorem clerkOwn_lifted (os : Os) (started : os.Started) (H : Type) (enc : TypeId × Value → H) :
    ReturnsInHanded {} Try.checked os 3 .any (Rows.clerkOwnSpec.pre6 enc Try.prog Try.f3 Rows.clerkOwnRow.domain false) (Rows.clerkOwnSpec.post enc Try.prog Try.f3 false true false false) := by
  refine returnsInHanded_of_change (C := Try.checked) Try.own started (by kernel_rfl) Try.func3
    (ChangeSpec.witness6 (enc := enc) (C := Try.checked) false ⟨#[], #[.slice none 0 0, .agg z43.toArray], []⟩ 8 (by kernel_rfl) (by kernel_rfl) (by kernel_rfl) (by kernel_rfl)) ?_
  intro W base args ds gs before hval0 hW hcnd _
  have hval : ∀ (j : Nat) t v, Try.f3.params[j]? = some t → args[j]? = some v → Value.okWide Try.prog W .any base t v := hval0
  have hW' := hW
  obtain ⟨p, q, hA0, hV, rfl, hfz, hnd⟩ := hW
  have hA : DataW.TrodAll enc Try.prog W 0 (fun _ => true) true Try.f3.params.toList args.toList ds p := hA0
  rw [Try.params3] at hA hval
  obtain ⟨v0, v1, d0, d1, p0, p1, rfl, rfl, rfl, h0, h1⟩ := trodAll_two hA
  obtain ⟨rfl, rfl⟩ := trodVars_none hV
  obtain ⟨D, hD⟩ := open_wishes (okWide_slice Try.underlying22 (hval 0 22 v0 rfl rfl)) h0
  have hv1 := hval 1 31 v1 rfl rfl
  unfold Value.okWide at hv1
  rw [Try.underlying31] at hv1
  obtain ⟨cs, rfl, _⟩ := hv1
  have h1' := h1
  obtain ⟨fuel, h1'⟩ := h1'
  obtain ⟨x, hx, okx, rdx⟩ := open_wish h1'
  have hcs : cs = (x.op ++ [x.tr]).toArray := by
    have hx' : cs.toList = x.op ++ [x.tr] := hx
    rw [← hx']
  subst hcs
  clear hA0 hval0
  simp only [List.append_nil] at hW'
  have hlt : ∀ y ∈ p0 ++ p1, y.block < W.heap.size := fun y hy => by simpa using hW'.lt y hy
  refine Calls.mono (main3 W v0 D x hD okx rdx) fun e W' he => ?_
  obtain ⟨v, rfl, rfl, ch⟩ := he
  have bel : Below W.heap.size W W' := ch.below
  refine ⟨_, rfl, ?_⟩
  refine ⟨_, _, _, [], p0 ++ p1, [], hW', ?_, ?_, rfl, bel.frame _, fun h => by cases h⟩
  · exact trodAll_mk1 (shut_bool Try.underlying4 true)
  · exact trodAll_mk2 (Below.trod Try.laidOut (by kernel_rfl) (of_decide_eq_true (by kernel_rfl)) h0 bel (fun y hy => hlt y (List.mem_append_left _ hy))) (Below.trod Try.laidOut (by kernel_rfl) (of_decide_eq_true (by kernel_rfl)) h1 bel (fun y hy => hlt y (List.mem_append_right _ hy)))

theorem clerkOwn_holds : Rows.ClerkOwnSaid :=
  OpenClaim.holds_of_wide 3 Try.f3 rfl rfl rfl rfl rfl rfl rfl ⟨rfl, rfl, rfl, rfl, rfl⟩ rfl rfl rfl rfl rfl (by kernel_rfl) Try.func3 (by kernel_rfl)
    (of_decide_eq_true (by kernel_rfl)) (by unfold Func.isWrapper; first | (rw [if_pos (by decide +kernel)]; kernel_rfl) | (rw [if_neg (by decide +kernel)]; exact ⟨rfl, rfl⟩))
    (fun os started H enc _ => clerkOwn_lifted os started H enc)

#print axioms clerkOwn_holds
end Go.Proofs.Ytocmlbnaikojkaa
