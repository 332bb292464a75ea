/- ClerkOwn: an operation turned into the program's has the same cells. -/
import Derived.Test.YtocmlbnaikojkaaCk8
namespace Go.Proofs.Ytocmlbnaikojkaa
open Go Go.Sx
attribute [local irreducible] Go.wpList

def ks24 : List SK := List.replicate 32 (.i .u8)
def ks26 : List SK := [.i .u64, .i .i64, .i .u64] ++ ks24 ++ [.i .u64]
theorem ks40_eq : ks40 = [.i .i64, .i .u64] ++ ks26 ++ [.i .u64] := rfl

theorem fits_one {k : IntKind} {l : List Value} (h : fitsAll [.i k] l = true) : ∃ z, l = [.int k z] := by
  match l, h with
  | [], h => simp [fitsAll] at h
  | [v], h =>
    simp only [fitsAll, Bool.and_true] at h
    cases v <;> simp [fits] at h
    subst h
    exact ⟨_, rfl⟩
  | _ :: _ :: _, h => simp [fitsAll] at h

theorem fits_split {ks ls : List SK} {l : List Value} (h : fitsAll (ks ++ ls) l = true) : ∃ a b, l = a ++ b ∧ fitsAll ks a = true ∧ fitsAll ls b = true :=
  ⟨_, _, (List.take_append_drop ks.length l).symm, (fitsAll_append.1 h).1, (fitsAll_append.1 h).2⟩

theorem fits26 {l : List Value} (h : fitsAll ks26 l = true) : ∃ a b c e, ∃ s : List Value, l = [.int .u64 a, .int .i64 b, .int .u64 c] ++ s ++ [.int .u64 e] ∧ fitsAll ks24 s = true := by
  obtain ⟨p, q, rfl, hp, hq⟩ := fits_split h
  obtain ⟨p, s, rfl, hp, hs⟩ := fits_split hp
  obtain ⟨e, rfl⟩ := fits_one hq
  obtain ⟨p0, p, rfl, h0, hp⟩ := fits_split (ks := [.i .u64]) hp
  obtain ⟨p1, p2, rfl, h1, h2⟩ := fits_split (ks := [.i .i64]) hp
  obtain ⟨a, rfl⟩ := fits_one h0
  obtain ⟨b, rfl⟩ := fits_one h1
  obtain ⟨c, rfl⟩ := fits_one h2
  exact ⟨a, b, c, e, s, rfl, hs⟩

theorem fits40 {l : List Value} (h : fitsAll ks40 l = true) : ∃ a b e, ∃ s : List Value, l = [.int .i64 a, .int .u64 b] ++ s ++ [.int .u64 e] ∧ fitsAll ks26 s = true := by
  rw [ks40_eq] at h
  obtain ⟨p, q, rfl, hp, hq⟩ := fits_split h
  obtain ⟨p, s, rfl, hp, hs⟩ := fits_split hp
  obtain ⟨e, rfl⟩ := fits_one hq
  obtain ⟨p0, p1, rfl, h0, h1⟩ := fits_split (ks := [.i .i64]) hp
  obtain ⟨a, rfl⟩ := fits_one h0
  obtain ⟨b, rfl⟩ := fits_one h1
  exact ⟨a, b, e, s, rfl, hs⟩

/-- A literal's parts, from the first field on, one behind the other. -/
theorem fill_step {pl : List (Nat × Nat)} {i : Nat} {vs cur rest : List Value} {r : List (Nat × List Value)} (h : pl[i]? = some (cur.length, vs.length)) (hf : vs.length ≤ rest.length) :
    fillL pl (cur ++ rest) ((i, vs) :: r) = fillL pl ((cur ++ vs) ++ rest.drop vs.length) r := by
  rw [fillL, h]
  simp only [Option.getD_some]
  rw [setFrom_eq _ _ _ (by simp; omega), List.take_left, List.drop_append, Nat.add_sub_cancel_left, List.drop_of_length_le (by omega), List.nil_append]

theorem range_of_list {w : World} {b : Nat} {cs : List Value} {e : TypeId} (hb : w.heap[b]? = some (.cells cs.toArray e (0, 0))) (o : Nat) {vs : List Value} (hv : (cs.drop o).take vs.length = vs) : w.rangeAt b o vs := fun j v hj => by
  refine cell_of_list hb ?_
  have hj' : j < vs.length := (List.getElem?_eq_some_iff.1 hj).1
  rw [← hv] at hj
  rw [List.getElem?_take, if_pos hj', List.getElem?_drop] at hj
  exact hj
theorem _root_.Go.Sx.St.blkF {w0 w w' : World} {S F : Nat → Prop} {L : List Asrt} (st : St w0 w S L) (i : Nat) {b : Nat} {cs : List Value} {e : TypeId} (h : L[i]? = some (pt b cs e)) (ch : Ch w w' F) (hF : ¬ F b) : w'.heap[b]? = some (.cells cs.toArray e (0, 0)) :=
  (ch.same b (st.lt_of i h rfl) hF).trans (st.blk i h)

def seqOk (pl : List (Nat × Nat)) : Nat → Nat → List Nat → Bool
  | _, _, [] => true
  | i, o, n :: r => decide (pl[i]? = some (o, n)) && seqOk pl (i + 1) (o + n) r
def pairs : Nat → List (List Value) → List (Nat × List Value)
  | _, [] => []
  | i, v :: r => (i, v) :: pairs (i + 1) r

theorem fill_seq {pl : List (Nat × Nat)} : ∀ (parts : List (List Value)) (i : Nat) (cur rest : List Value), seqOk pl i cur.length (parts.map List.length) = true → rest.length = parts.flatten.length →
    fillL pl (cur ++ rest) (pairs i parts) = cur ++ parts.flatten
  | [], i, cur, rest, _, h => by
    simp only [List.flatten_nil, List.length_nil] at h
    rw [List.eq_nil_of_length_eq_zero h]; rfl
  | v :: r, i, cur, rest, hs, h => by
    simp only [List.map_cons, seqOk, Bool.and_eq_true, decide_eq_true_eq] at hs
    simp only [List.flatten_cons, List.length_append] at h
    rw [pairs, fill_step hs.1 (by omega), fill_seq r (i + 1) (cur ++ v) (rest.drop v.length) (by rw [List.length_append]; exact hs.2) (by rw [List.length_drop]; omega)]
    simp

theorem fillOk_seq {pl : List (Nat × Nat)} {len : Nat} : ∀ (parts : List (List Value)) (i o : Nat), seqOk pl i o (parts.map List.length) = true → o + parts.flatten.length ≤ len → fillOk pl len (pairs i parts)
  | [], _, _, _, _ => trivial
  | v :: r, i, o, hs, h => by
    simp only [List.map_cons, seqOk, Bool.and_eq_true, decide_eq_true_eq] at hs
    simp only [List.flatten_cons, List.length_append] at h
    exact ⟨⟨o, hs.1, by omega⟩, fillOk_seq r (i + 1) (o + v.length) hs.2 (by omega)⟩

section
variable {P : Program} {ops : Array Oper} {Q : Exit → Act → World → Prop} {rest : List Oper} {n : Nat} {E : List (Nat × Value)} {w : World} {d : Nat} {ty : TypeId} {pos : String} {after : Array Edge}
theorem r_build_all {t : TypeId} {ops' : Array (Nat × Operand)} {pl : List (Nat × Nat)} {Z cs : List Value} (parts : List (List Value)) {lens : List Nat} (hp : placesOf P t = some (pl, Z)) (hlen : parts.map List.length = lens) (hs : seqOk pl 0 0 lens = true)
    (hz : Z.length = parts.flatten.length) (hv : ops'.toList.map (fun p => (p.1, (ev n E p.2).cells.toList)) = pairs 0 parts) (hcs : parts.flatten = cs) :
    (execOp (ev n E) ⟨some d, .build t ops', ty, pos, after, none⟩).run P w = .ok (.value (.agg cs.toArray)) w :=
  r_build hp hv (fillOk_seq parts 0 0 (by rw [hlen]; exact hs) (by rw [hz]; omega)) (by rw [← hcs]; exact fill_seq parts 0 [] Z (by rw [hlen]; exact hs) hz)
theorem o_build_all {t : TypeId} {ops' : Array (Nat × Operand)} {pl : List (Nat × Nat)} {Z cs : List Value} (parts : List (List Value)) {lens : List Nat} (hp : placesOf P t = some (pl, Z)) (hlen : parts.map List.length = lens) (hs : seqOk pl 0 0 lens = true)
    (hz : Z.length = parts.flatten.length) (hv : ops'.toList.map (fun p => (p.1, (ev n E p.2).cells.toList)) = pairs 0 parts) (hcs : parts.flatten = cs)
    (h : wpList P ops Q rest (mk n ((d, .agg cs.toArray) :: E)) w) : wpList P ops Q (⟨some d, .build t ops', ty, pos, after, none⟩ :: rest) (mk n E) w :=
  op_val rfl rfl (r_build_all parts hp hlen hs hz hv hcs) h
end

theorem at_end {a s : List Value} {u : Value} {n : Nat} (h : a.length + s.length = n) : (a ++ s ++ [u])[n]? = some u := by
  rw [List.getElem?_append_right (by simp; omega)]; simp [h]
theorem mid_part {a s t : List Value} : ((a ++ s ++ t).drop a.length).take s.length = s := by
  rw [List.append_assoc, List.drop_left, List.take_left]

def z24 : List Value := List.replicate 32 (.int .u8 0)
def z38 : List Value := [.int .u64 0, .int .i64 0, .int .u64 0] ++ z24 ++ [.int .u64 0]
def z40 : List Value := [.int .i64 0, .int .u64 0] ++ z38 ++ [.int .u64 0]
theorem zero38 : zeroOf Try.prog 38 = some z38 := by kernel_rfl
theorem zero40 : zeroOf Try.prog 40 = some z40 := by kernel_rfl
theorem pl38 : placesOf Try.prog 38 = some ([(0, 1), (1, 1), (2, 1), (3, 32), (35, 1)], z38) := by kernel_rfl
theorem pl40 : placesOf Try.prog 40 = some ([(0, 1), (1, 1), (2, 36), (38, 1)], z40) := by kernel_rfl
theorem fits_z40 : fitsAll ks40 z40 = true := by kernel_rfl

theorem Try.ent11 : Enters Try.prog 11 := enters Try.func11 (by kernel_rfl) (by kernel_rfl)
theorem Try.ent27 : Enters Try.prog 27 := enters Try.func27 (by kernel_rfl) (by kernel_rfl)
theorem Try.ent12 : Enters Try.prog 12 := enters Try.func12 (by kernel_rfl) (by kernel_rfl)
theorem Try.ent28 : Enters Try.prog 28 := enters Try.func28 (by kernel_rfl) (by kernel_rfl)
theorem Try.ent41 : Enters Try.prog 41 := enters Try.func41 (by kernel_rfl) (by kernel_rfl)
theorem Try.ent4 : Enters Try.prog 4 := enters Try.func4 (by kernel_rfl) (by kernel_rfl)
theorem Try.size24 : (Try.prog.info? 24).map (·.size) = some 32 := by kernel_rfl
theorem Try.size26 : (Try.prog.info? 26).map (·.size) = some 36 := by kernel_rfl
theorem Try.size38 : (Try.prog.info? 38).map (·.size) = some 36 := by kernel_rfl

theorem to27 (w : World) (l : List Value) (hl : fitsAll ks26 l = true) : Ret Try.prog 27 [.agg l.toArray] w fun v w' => v = .agg l.toArray ∧ Ch w w' none' := by
  have hone := fitsAll_one hl
  obtain ⟨a, b, c, e, s, rfl, hs⟩ := fits26 hl
  have hls : s.length = 32 := fitsAll_length hs
  refine enter (n := 14) Try.func27 rfl Try.ntmps27 (Nat.le_of_ble_eq_true rfl) ?_
  have st := St.start w none'
  refine wp_seq_k fun K1 hK1 => ?_
  refine wp_region_lit ?_
  refine s_box st (cs := ([.int .u64 a, .int .i64 b, .int .u64 c] ++ s ++ [.int .u64 e])) rfl ?_
  intro b2 w3 st4 hbb2 hcb2
  refine s_alloc' st4 zero38 ?_
  intro b5 w6 st7 hbb5 hcb5
  refine wpList_nil ?_
  refine then_normal (hK1 _ _ ?_)
  clear hK1
  refine wp_seq_k fun K8 hK8 => ?_
  refine wp_region_lit ?_
  refine o_fieldAddr (q := 0) (off := 0) (by kernel_rfl) rfl rfl ?_
  refine o_load (v := (.int .u64 a)) Try.underlying23 rfl rfl (st7.cell 1 rfl 0 (rfl)) ?_
  refine o_fieldAddr (q := 1) (off := 1) (by kernel_rfl) rfl rfl ?_
  refine o_load (v := (.int .i64 b)) Try.underlying3 rfl rfl (st7.cell 1 rfl 1 (rfl)) ?_
  refine o_fieldAddr (q := 2) (off := 2) (by kernel_rfl) rfl rfl ?_
  refine o_load (v := (.int .u64 c)) Try.underlying23 rfl rfl (st7.cell 1 rfl 2 (rfl)) ?_
  refine o_fieldAddr (q := 3) (off := 3) (by kernel_rfl) rfl rfl ?_
  refine o_loads (cs := s) Try.underlying24 rfl (Try.size24.trans (by rw [hls])) rfl (st7.range 1 rfl 3 (mid_part (a := [.int .u64 a, .int .i64 b, .int .u64 c]))) ?_
  refine o_fieldAddr (q := 35) (off := 35) (by kernel_rfl) rfl rfl ?_
  refine o_load (v := (.int .u64 e)) Try.underlying23 rfl rfl (st7.cell 1 rfl 35 (at_end (by simp [hls]))) ?_
  refine o_build_all [[.int .u64 a], [.int .i64 b], [.int .u64 c], s, [.int .u64 e]] (lens := [1, 1, 1, 32, 1]) pl38 (by simp [hls]) rfl (by simp [hls, z38, z24]) rfl (cs := ([.int .u64 a, .int .i64 b, .int .u64 c] ++ s ++ [.int .u64 e])) (by simp) ?_
  refine s_stores st7 0 (vs := ([.int .u64 a, .int .i64 b, .int .u64 c] ++ s ++ [.int .u64 e])) rfl (Try.size38.trans (by simp [hls])) rfl rfl hone (by simp [hls, z38, z24]) ?_
  intro w7 st7 hc7
  rw [setFrom_full (by simp [hls, z38, z24])] at st7
  refine wpList_nil ?_
  refine then_normal (hK8 _ _ ?_)
  clear hK8
  refine wp_ret ?_
  exact ret_cell rfl rfl (st7.blk 0 rfl) Try.underlying38 rfl (Try.size38.trans (by simp [hls])) ⟨rfl, st7.ch⟩

theorem op11 (w : World) (l : List Value) (hl : fitsAll ks40 l = true) : Ret Try.prog 11 [.agg l.toArray] w fun v w' => v = .agg l.toArray ∧ Ch w w' none' := by
  have hone := fitsAll_one hl
  obtain ⟨a, b, e, s, rfl, hs⟩ := fits40 hl
  have hls : s.length = 36 := fitsAll_length hs
  refine enter (n := 13) Try.func11 rfl Try.ntmps11 (Nat.le_of_ble_eq_true rfl) ?_
  have st := St.start w none'
  refine wp_seq_k fun K1 hK1 => ?_
  refine wp_region_lit ?_
  refine s_box st (cs := ([.int .i64 a, .int .u64 b] ++ s ++ [.int .u64 e])) rfl ?_
  intro b2 w3 st4 hbb2 hcb2
  refine s_alloc' st4 zero40 ?_
  intro b5 w6 st7 hbb5 hcb5
  refine wpList_nil ?_
  refine then_normal (hK1 _ _ ?_)
  clear hK1
  refine wp_seq_k fun K8 hK8 => ?_
  refine d_begin (fun w' => Ch w6 w' (fun q => q = b5)) (by kernel_rfl) ?_
  obtain ⟨w9, ew9⟩ : ∃ x, x = World.drew w6 := ⟨_, rfl⟩
  rw [← ew9]
  have hNw9 : Ch w6 w9 none' := by rw [ew9]; exact Ch.drew _ _
  have hSw9 := hNw9.mono (F := none') (G := (fun q => q = b5)) (fun _ _ f => f.elim)
  have st10 := st7.keep hNw9
  clear ew9
  refine d_take (i := 0) (d := 3) (v := (.pointer (some ⟨b2, 0, none⟩))) rfl rfl rfl (by kernel_rfl) (by kernel_rfl) (by kernel_rfl) (np_then np_body) hSw9 (fun w' hS => r_fieldAddr (q := 0) (off := 0) (by kernel_rfl) rfl rfl) ?_
  refine d_take (i := 1) (d := 4) (v := (.int .i64 a)) rfl rfl rfl (by kernel_rfl) (by kernel_rfl) (by kernel_rfl) (np_then np_body) hSw9 (fun w' hS => r_load (v := (.int .i64 a)) Try.underlying3 rfl rfl (cell_of_list (st7.blkF 1 rfl hS (by have := st4.lt_of 0 rfl (k := b2) rfl; omega)) (rfl))) ?_
  refine d_take (i := 2) (d := 5) (v := (.pointer (some ⟨b2, 1, none⟩))) rfl rfl rfl (by kernel_rfl) (by kernel_rfl) (by kernel_rfl) (np_then np_body) hSw9 (fun w' hS => r_fieldAddr (q := 1) (off := 1) (by kernel_rfl) rfl rfl) ?_
  refine d_take (i := 3) (d := 6) (v := (.int .u64 b)) rfl rfl rfl (by kernel_rfl) (by kernel_rfl) (by kernel_rfl) (np_then np_body) hSw9 (fun w' hS => r_load (v := (.int .u64 b)) Try.underlying23 rfl rfl (cell_of_list (st7.blkF 1 rfl hS (by have := st4.lt_of 0 rfl (k := b2) rfl; omega)) (rfl))) ?_
  refine d_take (i := 4) (d := 7) (v := (.pointer (some ⟨b2, 2, none⟩))) rfl rfl rfl (by kernel_rfl) (by kernel_rfl) (by kernel_rfl) (np_then np_body) hSw9 (fun w' hS => r_fieldAddr (q := 2) (off := 2) (by kernel_rfl) rfl rfl) ?_
  refine d_take (i := 5) (d := 8) (v := (.agg (s : List Value).toArray)) rfl rfl rfl (by kernel_rfl) (by kernel_rfl) (by kernel_rfl) (np_then np_body) hSw9 (fun w' hS => r_loads (cs := s) Try.underlying26 rfl (Try.size26.trans (by rw [hls])) rfl (range_of_list (st7.blkF 1 rfl hS (by have := st4.lt_of 0 rfl (k := b2) rfl; omega)) 2 (mid_part (a := [.int .i64 a, .int .u64 b])))) ?_
  refine d_take (i := 7) (d := 10) (v := (.pointer (some ⟨b2, 38, none⟩))) rfl rfl rfl (by kernel_rfl) (by kernel_rfl) (by kernel_rfl) (np_then np_body) hSw9 (fun w' hS => r_fieldAddr (q := 38) (off := 38) (by kernel_rfl) rfl rfl) ?_
  refine d_take (i := 8) (d := 11) (v := (.int .u64 e)) rfl rfl rfl (by kernel_rfl) (by kernel_rfl) (by kernel_rfl) (np_then np_body) hSw9 (fun w' hS => r_load (v := (.int .u64 e)) Try.underlying23 rfl rfl (cell_of_list (st7.blkF 1 rfl hS (by have := st4.lt_of 0 rfl (k := b2) rfl; omega)) (at_end (by simp [hls])))) ?_
  refine d_loud (i := 6) (by kernel_rfl) rfl ?_
  refine op_call (args := [.agg s.toArray]) Try.ent27 rfl (to27 w9 s hs) ?_
  rintro v8 w8 ⟨rfl, hc8⟩
  have st8 := st10.keep hc8
  have hS8 := Ch.fresh hSw9 hc8
  refine wpList_nil ?_
  refine then_normal ?_
  have hS11 : Ch w6 w8 (fun q => q = b5) := hS8
  refine ⟨hS11, ?_⟩
  refine d_take (i := 9) (d := 12) (v := (.agg (([.int .i64 a, .int .u64 b] ++ s ++ [.int .u64 e]) : List Value).toArray)) rfl rfl rfl (by kernel_rfl) (by kernel_rfl) (by kernel_rfl) (np_then np_body) hS11 (fun w' hS => r_build_all [[.int .i64 a], [.int .u64 b], s, [.int .u64 e]] (lens := [1, 1, 36, 1]) pl40 (by simp [hls]) rfl (by simp [hls, z40, z38, z24]) rfl (cs := ([.int .i64 a, .int .u64 b] ++ s ++ [.int .u64 e])) (by simp)) ?_
  refine d_loud (i := 10) (by kernel_rfl) rfl ?_
  refine s_stores st8 0 (vs := ([.int .i64 a, .int .u64 b] ++ s ++ [.int .u64 e])) rfl (Try.size40.trans (by simp [hls])) rfl rfl hone (by simp [hls, z40, z38, z24]) ?_
  intro w7 st7 hc7
  rw [setFrom_full (by simp [hls, z40, z38, z24])] at st7
  refine wpList_nil ?_
  refine then_normal ?_
  have hS12 : Ch w6 w7 (fun q => q = b5) := hS8.trans hc7 (fun _ f => f) (fun _ _ e => e)
  refine ⟨hS12, ?_⟩
  refine d_done (by kernel_rfl) ?_
  refine then_normal (hK8 _ _ ?_)
  clear hK8
  refine wp_ret ?_
  exact ret_cell rfl rfl (st7.blk 0 rfl) Try.underlying40 rfl (Try.size40.trans (by simp [hls])) ⟨rfl, st7.ch⟩
end Go.Proofs.Ytocmlbnaikojkaa
