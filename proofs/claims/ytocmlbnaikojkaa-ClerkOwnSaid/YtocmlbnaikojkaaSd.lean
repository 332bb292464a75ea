/- Regions that draw their order, over YtocmlbnaikojkaaSe: what only reads is taken first; what is loud comes as the edges say. Nothing of a program stands here. -/
import Derived.Test.YtocmlbnaikojkaaSe
import Derived.OrdersHeld
namespace Go.Sx
open Go

def NoPanic (Q : Exit → Act → World → Prop) : Prop := ∀ c a w, ¬ Q (.panic c) a w
theorem np_then {K : Act → World → Prop} {Q : Exit → Act → World → Prop} (h : NoPanic Q) : NoPanic (Exit.then K Q) := h
theorem np_blk {i : Nat} {Q : Exit → Act → World → Prop} (h : NoPanic Q) : NoPanic (Exit.inBlock i Q) := h
theorem np_body {P : Program} {fn : Func} {R : Value → World → Prop} : NoPanic (bodyPost P fn fun e w' => ∃ v, e = .returned v ∧ R v w') := by
  rintro c a w ⟨_, v, h, _⟩
  cases h

section
variable {P : Program} {ops : Array Oper} {Q : Exit → Act → World → Prop} {S : World → Prop} {n : Nat} {E : List (Nat × Value)} {w : World} {fuel : Nat} {listed : Array Bool}

theorem d_begin {id : Nat} (S : World → Prop) (hm : P.follows .mixedOrders = true) (h : wpAnyH P .any ops Q S ops.size (Array.replicate ops.size false) (mk n E) w.drew) :
    (Code.region id ops true).wp P Q (mk n E) w := wp_region_held hm h

theorem d_take {i d : Nat} {v : Value} {oi : Oper} (hi : ops[i]? = some oi) (hg : oi.guard = none) (hd : oi.dst = some d) (hs : Region.noSelect ops = true) (hf : Region.free .any ops listed i = true) (hr : (Region.ready .any ops listed).contains i = true)
    (hQ : NoPanic Q) (hS : S w) (hy : ∀ w, S w → (execOp (ev n E) oi).run P w = .ok (.value v) w)
    (h : wpAnyH P .any ops Q S fuel (listed.setIfInBounds i true) (mk n ((d, v) :: E)) w) : wpAnyH P .any ops Q S (fuel + 1) listed (mk n E) w :=
  wpAnyH_take (v := v) hi hs hf hr (fun c a w h => (hQ c _ w h).elim) (.inl ⟨by simp [Region.wanted, hg], fun w hw => by rw [mk_eval]; exact hy w hw⟩) hS (by rw [hd, mk_put]; exact h)

/-- Taken first under a guard that says yes. -/
theorem d_take_yes {i d j t : Nat} {v : Value} {want b : Bool} {oi o' : Oper} (hi : ops[i]? = some oi) (hg : oi.guard = some (j, want)) (hj : ops[j]? = some o') (ht : o'.dst = some t) (hb : ev n E (.tmp t) = .bool b) (hw : (b == want) = true) (hd : oi.dst = some d)
    (hs : Region.noSelect ops = true) (hf : Region.free .any ops listed i = true) (hr : (Region.ready .any ops listed).contains i = true)
    (hQ : NoPanic Q) (hS : S w) (hy : ∀ w, S w → (execOp (ev n E) ⟨oi.dst, oi.op, oi.type, oi.pos, oi.after, none⟩).run P w = .ok (.value v) w)
    (h : wpAnyH P .any ops Q S fuel (listed.setIfInBounds i true) (mk n ((d, v) :: E)) w) : wpAnyH P .any ops Q S (fuel + 1) listed (mk n E) w :=
  wpAnyH_take (v := v) hi hs hf hr (fun c a w h => (hQ c _ w h).elim) (.inl ⟨by rw [wanted_of hg (yielded_mk hj ht hb)]; exact hw, fun w hw => by rw [mk_eval]; exact hy w hw⟩) hS (by rw [hd, mk_put]; exact h)

/-- Passed over under a guard that says no. -/
theorem d_take_no {i d j t : Nat} {want b : Bool} {oi o' : Oper} (hi : ops[i]? = some oi) (hg : oi.guard = some (j, want)) (hj : ops[j]? = some o') (ht : o'.dst = some t) (hb : ev n E (.tmp t) = .bool b) (hw : (b == want) = false) (hd : oi.dst = some d)
    (hs : Region.noSelect ops = true) (hf : Region.free .any ops listed i = true) (hr : (Region.ready .any ops listed).contains i = true)
    (hQ : NoPanic Q) (hS : S w)
    (h : wpAnyH P .any ops Q S fuel (listed.setIfInBounds i true) (mk n ((d, undef) :: E)) w) : wpAnyH P .any ops Q S (fuel + 1) listed (mk n E) w :=
  wpAnyH_take (v := undef) hi hs hf hr (fun c a w h => (hQ c _ w h).elim) (.inr ⟨by rw [wanted_of hg (yielded_mk hj ht hb)]; exact hw, rfl⟩) hS (by rw [hd, mk_put]; exact h)

theorem wpOp_of_list {i : Nat} {o : Oper} {K : Act → World → Prop} {a : Act} (ho : ops[i]? = some o) (h : wpList P ops (Exit.then K Q) [o] a w) : wpOp P ops Q i K a w := by
  unfold wpOp
  simp only [ho]
  unfold wpList at h
  split
  · rename_i hw
    rw [if_pos hw] at h
    rcases h with h | ⟨h1, a0, w0, h2⟩
    · refine .inl ?_
      unfold Oper.wp at h ⊢
      generalize (execOp a.eval o).run P w = r at h ⊢
      cases r with
      | ok x w' => cases x <;> first | exact h | exact Calls.mono h fun e w' he => by cases e <;> exact he
      | halt x w' => cases x <;> exact h
    · exact .inr ⟨h1, a0, w0, h2⟩
  · rename_i hw
    rw [if_neg hw] at h
    exact h

/-- The one that is ready comes. -/
theorem d_loud {i : Nat} {o : Oper} (hr : Region.ready .any ops listed = [i]) (ho : ops[i]? = some o)
    (h : wpList P ops (Exit.then (fun a' w' => S w' ∧ wpAnyH P .any ops Q S fuel (listed.setIfInBounds i true) a' w') Q) [o] (mk n E) w) : wpAnyH P .any ops Q S (fuel + 1) listed (mk n E) w :=
  wpAnyH_all hr (by simp) fun j hj => by
    rw [List.mem_singleton.1 hj]
    exact wpOp_of_list ho h

/-- One of two that are ready comes. -/
theorem d_two {i j : Nat} {o p : Oper} (hr : Region.ready .any ops listed = [i, j]) (ho : ops[i]? = some o) (hp : ops[j]? = some p)
    (h : wpList P ops (Exit.then (fun a' w' => S w' ∧ wpAnyH P .any ops Q S fuel (listed.setIfInBounds i true) a' w') Q) [o] (mk n E) w)
    (k : wpList P ops (Exit.then (fun a' w' => S w' ∧ wpAnyH P .any ops Q S fuel (listed.setIfInBounds j true) a' w') Q) [p] (mk n E) w) : wpAnyH P .any ops Q S (fuel + 1) listed (mk n E) w :=
  wpAnyH_all hr (by simp) fun q hq => by
    rcases List.mem_cons.1 hq with rfl | hq
    · exact wpOp_of_list ho h
    · rw [List.mem_singleton.1 hq]
      exact wpOp_of_list hp k

theorem d_done (hr : Region.ready .any ops listed = []) (h : Q .normal (mk n E) w) : wpAnyH P .any ops Q S fuel listed (mk n E) w := wpAnyH_done hr h fuel

end

/-! ### Rows as parts of a state -/
section
variable {w0 w : World} {S : Nat → Prop} {L : List Asrt}

theorem row_form {h : Nat → Option Obj} {v : Value} {n : Nat} {xs : List Value} {e : TypeId} {size : Nat} (hr : (row v n xs e size).ok h) : ∃ A c, v = .slice A n c ∧ (A = none → n = 0) ∧ n ≤ c ∧ ∀ a, A = some a → ∃ g, a = ⟨g, 0, none⟩ := by
  rcases hr.2 with ⟨rfl, rfl⟩ | ⟨g, cap, cur, rfl, _, hle, _⟩
  · exact ⟨none, 0, rfl, fun _ => rfl, Nat.le_refl _, fun a h => by cases h⟩
  · exact ⟨some ⟨g, 0, none⟩, cap, rfl, (fun h => by cases h), hle, fun a h => by injection h with h; exact ⟨g, h.symm⟩⟩

theorem row_range {w : World} {g n c : Nat} {xs : List Value} {e : TypeId} {size : Nat} (hr : (row (.slice (some ⟨g, 0, none⟩) n c) n xs e size).ok (hp w)) (o : Nat) {vs : List Value} (hv : (xs.drop o).take vs.length = vs) : w.rangeAt g o vs := by
  rcases hr.2 with ⟨h, _⟩ | ⟨g', cap, cur, h, hg, _, _, _, htake⟩
  · cases h
  · injection h with h1 h2 h3
    injection h1 with h1
    injection h1 with h1
    subst h1
    intro j v hj
    have hj' : j < vs.length := (List.getElem?_eq_some_iff.1 hj).1
    rw [cell_of_row w g (o + j) cur e (0, 0) hg]
    rw [← hv, List.getElem?_take, if_pos hj', List.getElem?_drop, ← htake, List.getElem?_take] at hj
    split at hj
    · simpa using hj
    · cases hj

theorem rangeAt_left {w : World} {b o : Nat} {p q : List Value} (h : w.rangeAt b o (p ++ q)) : w.rangeAt b o p := fun j v hj => h j v (by rw [List.getElem?_append_left (List.getElem?_eq_some_iff.1 hj).1]; exact hj)

theorem rangeAt_cell {w : World} {b o j : Nat} {cs : List Value} {v : Value} (h : w.rangeAt b o cs) (hv : cs[j]? = some v) : w.cell? ⟨b, o + j, none⟩ = some v := h j v hv

theorem rangeAt_keep {w w' : World} {b o : Nat} {cs : List Value} (h : w.rangeAt b o cs) (ch : Ch w w' none') : w'.rangeAt b o cs := fun j v hj => by
  have h0 := h j v hj
  rw [World.cell?_of_block (w := w) (ch.same b (World.block_lt_of_cell? w _ h0) (fun f => f))]
  exact h0

theorem Rd.range {w : World} {v : Value} {n : Nat} {cs : List Value} {size : Nat} (h : Rd w v n cs size) {b o c : Nat} (hv : v = .slice (some ⟨b, o, none⟩) n c) {j : Nat} (hj : j < n) : w.rangeAt b (o + j * size) ((cs.drop (j * size)).take size) := by
  obtain ⟨h1, h2, A, c', e, h3, h4, h5⟩ := h
  rw [hv] at e
  injection e with e1 e2 e3
  subst e1
  have hr := (h5 _ rfl (by omega)).2
  intro i u hu
  rw [List.getElem?_take] at hu
  split at hu
  · rw [List.getElem?_drop] at hu
    have := hr (j * size + i) u hu
    rw [Nat.add_assoc]
    exact this
  · cases hu

theorem Rd.form {w : World} {v : Value} {n : Nat} {cs : List Value} {size : Nat} (h : Rd w v n cs size) (h0 : 0 < n) : ∃ b o c, v = .slice (some ⟨b, o, none⟩) n c := by
  obtain ⟨h1, h2, A, c, e, h3, h4, h5⟩ := h
  cases A with
  | none => exact absurd (h4 rfl) (by omega)
  | some a =>
    obtain ⟨b, o, s⟩ := a
    obtain ⟨hs, _⟩ := h5 _ rfl h0
    simp only at hs
    subst hs
    exact ⟨b, o, c, e⟩

theorem Rd.len {w : World} {v : Value} {n : Nat} {cs : List Value} {size : Nat} (h : Rd w v n cs size) : ∃ A c, v = .slice A n c ∧ (A = none → n = 0) := by
  obtain ⟨_, _, A, c, e, _, h4, _⟩ := h
  exact ⟨A, c, e, h4⟩

theorem Rd.fresh {w w' : World} {v : Value} {n : Nat} {cs : List Value} {size : Nat} (h : Rd w v n cs size) (ch : Ch w w' none') : Rd w' v n cs size := h.keep ch fun _ _ f => f

/-- Two facts as one. -/
theorem St.join {A : Asrt} (st : St w0 w S (A :: L)) (i : Nat) {B : Asrt} (hB : L[i]? = some B) (C : Asrt) (hok : A.ok (hp w) → B.ok (hp w) → C.ok (hp w)) (hfp : ∀ k, C.fp k → A.fp k ∨ B.fp k) : St w0 w S (L.set i C) := by
  have hA : A.ok (hp w) := st.get 0 rfl
  have hdis := List.pairwise_cons.1 st.dis
  have st2 : St w0 w S L := st.drop (List.sublist_cons_self A L)
  have hBm := List.mem_of_getElem? hB
  have hi : i < L.length := (List.getElem?_eq_some_iff.1 hB).1
  have hBe : L[i] = B := (List.getElem?_eq_some_iff.1 hB).2
  have hother : ∀ j (hj : j < L.length), j ≠ i → ∀ k, L[j].fp k → ¬ C.fp k := fun j hj hne k hk hk' => by
    rcases hfp k hk' with h' | h'
    · exact hdis.1 _ (List.getElem_mem hj) k h' hk
    · rcases Nat.lt_or_gt_of_ne hne with hlt | hgt
      · exact List.pairwise_iff_getElem.1 hdis.2 j i hj hi hlt k hk (hBe ▸ h')
      · exact List.pairwise_iff_getElem.1 hdis.2 i j hi hj hgt k (hBe ▸ h') hk
  refine ⟨st.ch, ?_, ?_, ?_, ?_⟩
  · intro D hD
    obtain ⟨j, hj, rfl⟩ := List.mem_iff_getElem.1 hD
    rw [List.getElem_set]
    split
    · exact hok hA (st2.ok B hBm)
    · exact st2.ok _ (List.getElem_mem (by simpa using hj))
  · intro D hD k hk
    obtain ⟨j, hj, rfl⟩ := List.mem_iff_getElem.1 hD
    rw [List.getElem_set] at hk
    split at hk
    · rcases hfp k hk with h' | h'
      · exact st.lt_of 0 rfl h'
      · exact st2.lt B hBm k h'
    · exact st2.lt _ (List.getElem_mem (by simpa using hj)) k hk
  · intro D hD k hk
    obtain ⟨j, hj, rfl⟩ := List.mem_iff_getElem.1 hD
    rw [List.getElem_set] at hk
    split at hk
    · rcases hfp k hk with h' | h'
      · exact st.new_of 0 rfl h'
      · exact st2.own B hBm k h'
    · exact st2.own _ (List.getElem_mem (by simpa using hj)) k hk
  · refine List.pairwise_iff_getElem.2 fun a b ha hb hab k hk hk' => ?_
    have ha' : a < L.length := by simpa using ha
    have hb' : b < L.length := by simpa using hb
    rw [List.getElem_set] at hk hk'
    split at hk
    · rw [if_neg (by omega)] at hk'
      exact hother b hb' (by omega) k hk' hk
    · split at hk'
      · exact hother a ha' (by omega) k hk hk'
      · exact List.pairwise_iff_getElem.1 hdis.2 a b ha' hb' hab k hk hk'

theorem St.perm {M : List Asrt} (st : St w0 w S L) (h : L.Perm M) : St w0 w S M :=
  ⟨st.ch, fun A hA => st.ok A (h.mem_iff.2 hA), fun A hA => st.lt A (h.mem_iff.2 hA), fun A hA => st.own A (h.mem_iff.2 hA), (h.pairwise_iff (fun {A B} hAB k hB hA => hAB k hA hB)).1 st.dis⟩

/-- A fact that holds of nothing may be laid. -/
theorem St.lay (st : St w0 w S L) (A : Asrt) (hok : A.ok (hp w)) (hfp : ∀ k, ¬ A.fp k) : St w0 w S (A :: L) :=
  st.new (Ch.refl w _) A hok (fun k hk => (hfp k hk).elim)

/-- A fact said otherwise. -/
theorem St.say (st : St w0 w S L) (i : Nat) {A : Asrt} (h : L[i]? = some A) (B : Asrt) (hok : A.ok (hp w) → B.ok (hp w)) (hfp : ∀ k, B.fp k → A.fp k) : St w0 w S (L.set i B) :=
  st.turn i h (Ch.refl w _) B (hok (st.get i h)) (fun k hk => .inl (hfp k hk))
end

theorem take_splice (cs vs : List Value) (o m : Nat) (h : o + vs.length ≤ m) (hm : m ≤ cs.length) :
    (cs.take o ++ vs ++ cs.drop (o + vs.length)).take m = (cs.take m).take o ++ vs ++ (cs.take m).drop (o + vs.length) := by
  have hl : (cs.take o ++ vs).length = o + vs.length := by simp; omega
  rw [List.take_append, List.take_of_length_le (by omega), hl, List.drop_take, List.take_take, Nat.min_eq_left (by omega)]

section
variable {P : Program} {ops : Array Oper} {Q : Exit → Act → World → Prop} {rest : List Oper} {n : Nat} {E : List (Nat × Value)} {w w0 : World} {S : Nat → Prop} {L : List Asrt}
variable {ty : TypeId} {pos : String} {after : Array Edge}

/-- A whole element stored into a row of one's own. -/
theorem s_stores_row (st : St w0 w S L) (i : Nat) {x y : Operand} {t e : TypeId} {g o k c size : Nat} {xs vs : List Value} (hL : L[i]? = some (row (.slice (some ⟨g, 0, none⟩) k c) k xs e size)) (hi : (P.info? t).map (·.size) = some vs.length)
    (hx : ev n E x = .pointer (some ⟨g, o, none⟩)) (hy : ev n E y = .agg vs.toArray) (h1 : ∀ v ∈ vs, v.oneCell' = true) (ho : o + vs.length ≤ xs.length)
    (h : ∀ w', St w0 w' S (L.set i (row (.slice (some ⟨g, 0, none⟩) k c) k (setFrom xs o vs) e size)) → Ch w w' (fun q => q = g) → wpList P ops Q rest (mk n E) w') :
    wpList P ops Q (⟨none, .store t x y, ty, pos, after, none⟩ :: rest) (mk n E) w := by
  have hrow := st.get i hL
  rcases hrow.2 with ⟨h', _⟩ | ⟨g', cap, cur, h', hg, hkc, hcm, hcs, htake⟩
  · cases h'
  · injection h' with h1' h2' h3'
    injection h1' with h1'
    injection h1' with h1'
    subst h1'
    subst h3'
    have hlen := hrow.1
    have hcur : k * size ≤ cur.size := by rw [hcs]; exact Nat.mul_le_mul_right _ hkc
    have hg' : w.heap[g]? = some (.cells cur.toList.toArray e (0, 0)) := by rw [Array.toArray_toList]; exact hg
    refine o_stores hi hx hy h1 (fun j hj => ⟨?_, frozen_of_row w g (o + j) cur e hg⟩) (h _ ?_ (setCells_ch g vs o w))
    · rw [cell_of_row w g (o + j) cur e (0, 0) hg, Array.getElem?_eq_getElem (by omega)]; rfl
    · refine st.turn i hL ((setCells_ch g vs o w).mono fun q _ hq => by rw [hq]; rfl) _ ?_ (fun q hq => .inl hq)
      refine ⟨by rw [setFrom_length]; exact hlen, .inr ⟨g, c, (setFrom cur.toList o vs).toArray, rfl, hp_setCells vs o cur.toList w hg', hkc, hcm, by simp [setFrom_length, hcs], ?_⟩⟩
      have hcl : cur.toList.length = cur.size := by simp
      rw [setFrom_eq _ _ _ (by omega), setFrom_eq _ _ _ (by omega), ← htake]
      exact take_splice _ _ _ _ (by omega) (by omega)
end
end Go.Sx
