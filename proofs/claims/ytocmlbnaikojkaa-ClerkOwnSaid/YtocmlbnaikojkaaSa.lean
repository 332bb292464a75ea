/- Rows: slice literals, append, equality of structs, slice expressions, function values; over YtocmlbnaikojkaaSo. Nothing of a program stands here. -/
import Derived.Test.YtocmlbnaikojkaaSo
import Derived.Maps.AppendAt
namespace Go.Sx
open Go

/-! ### A row of the call's own -/
/-- v is a slice of n elements (size cells each) that owns its block; its cells are xs. -/
def row (v : Value) (n : Nat) (xs : List Value) (e : TypeId) (size : Nat) : Asrt where
  fp := fun k => v.ownBlock = some k
  ok := fun h => xs.length = n * size ∧ ((v = .slice none 0 0 ∧ n = 0) ∨
    ∃ g cap cur, v = .slice (some ⟨g, 0, none⟩) n cap ∧ h g = some (.cells cur e (0, 0)) ∧ n ≤ cap ∧ cap ≤ maxLen ∧ cur.size = cap * size ∧ cur.toList.take (n * size) = xs)
  loc := by
    rintro h h' hs ⟨h1, h2⟩
    refine ⟨h1, ?_⟩
    rcases h2 with h2 | ⟨g, cap, cur, rfl, hg, r⟩
    · exact .inl h2
    · exact .inr ⟨g, cap, cur, rfl, (hs g rfl).trans hg, r⟩

theorem row_owns {w : World} {v : Value} {n : Nat} {xs : List Value} {e : TypeId} {size : Nat} : (row v n xs e size).ok (hp w) ↔ w.ownsRow 0 e size v n xs := by
  constructor
  · rintro ⟨h1, h2⟩
    refine ⟨h1, ?_⟩
    rcases h2 with h2 | ⟨g, cap, cur, rfl, hg, r⟩
    · exact .inl h2
    · exact .inr ⟨g, cap, cur, rfl, Nat.zero_le _, hg, r⟩
  · rintro ⟨h1, h2⟩
    refine ⟨h1, ?_⟩
    rcases h2 with h2 | ⟨g, cap, cur, rfl, _, hg, r⟩
    · exact .inl h2
    · exact .inr ⟨g, cap, cur, rfl, hg, r⟩

/-- What a slice reads as: n elements, the cells cs; nil let in; and how far its array may be read. -/
def Rd (w : World) (v : Value) (n : Nat) (cs : List Value) (size : Nat) : Prop :=
  cs.length = n * size ∧ (∀ u ∈ cs, u.oneCell' = true) ∧ ∃ A c, v = .slice A n c ∧ n ≤ c ∧ (A = none → n = 0) ∧ ∀ a, A = some a → 0 < n → a.spot = none ∧ w.rangeAt a.block a.off cs

theorem Rd.congr {w w' : World} {v : Value} {n : Nat} {cs : List Value} {size : Nat} (h : Rd w v n cs size) (hs : ∀ k, v.ownBlock = some k → w'.heap[k]? = w.heap[k]?) : Rd w' v n cs size := by
  obtain ⟨h1, h2, A, c, rfl, h3, h4, h5⟩ := h
  refine ⟨h1, h2, A, c, rfl, h3, h4, fun a ha hn => ⟨(h5 a ha hn).1, fun j u hu => ?_⟩⟩
  subst ha
  have := (h5 a rfl hn).2 j u hu
  rw [World.cell?_of_block (w := w) (w' := w') (a := ⟨a.block, a.off + j, none⟩) (hs a.block rfl)]
  exact this

theorem Rd.keep {w w' : World} {v : Value} {n : Nat} {cs : List Value} {size : Nat} {F : Nat → Prop} (h : Rd w v n cs size) (ch : Ch w w' F) (hF : ∀ k, v.ownBlock = some k → ¬ F k) : Rd w' v n cs size := by
  obtain ⟨h1, h2, A, c, rfl, h3, h4, h5⟩ := h
  refine ⟨h1, h2, A, c, rfl, h3, h4, fun a ha hn => ⟨(h5 a ha hn).1, fun j u hu => ?_⟩⟩
  subst ha
  have := (h5 a rfl hn).2 j u hu
  have hlt := World.block_lt_of_cell? w _ this
  rw [World.cell?_of_block (w := w) (w' := w') (a := ⟨a.block, a.off + j, none⟩) (ch.same a.block hlt (hF a.block rfl))]
  exact this

theorem row_rd {w : World} {v : Value} {n : Nat} {xs : List Value} {e : TypeId} {size : Nat} (h : (row v n xs e size).ok (hp w)) (h1 : ∀ u ∈ xs, u.oneCell' = true) : Rd w v n xs size := by
  obtain ⟨hl, h2⟩ := h
  rcases h2 with ⟨rfl, rfl⟩ | ⟨g, cap, cur, rfl, hg, hnc, hcm, hcs, htake⟩
  · exact ⟨hl, h1, none, 0, rfl, Nat.le_refl _, fun _ => rfl, fun a ha => by cases ha⟩
  · refine ⟨hl, h1, some ⟨g, 0, none⟩, cap, rfl, hnc, (fun h => by cases h), fun a ha hn => ?_⟩
    obtain rfl : ⟨g, 0, none⟩ = a := by injection ha
    refine ⟨rfl, fun j u hu => ?_⟩
    show w.cell? ⟨g, 0 + j, none⟩ = some u
    rw [Nat.zero_add, cell_of_row w g j cur e (0, 0) hg]
    rw [← htake, List.getElem?_take] at hu
    split at hu
    · simpa using hu
    · cases hu

section
variable {P : Program} {ops : Array Oper} {Q : Exit → Act → World → Prop} {rest : List Oper} {n : Nat} {E : List (Nat × Value)} {w : World}
variable {d : Nat} {ty : TypeId} {pos : String} {after : Array Edge}

/-- append of a slice that is read onto a row of one's own. -/
theorem run_append_row {w0 : World} {S : Nat → Prop} {L : List Asrt} (st : St w0 w S L) (i : Nat) {t ty e : TypeId} {inf : TypeInfo} {z : Value} {size bytes : Nat} (ht : P.underlying t = some (.slice e))
    (hi : P.info? e = some inf) (hz : inf.zero = some z) (hsize : inf.size = size) (hby : inf.bytes = bytes) (hzs : z.cells.size = size) (hsz : 0 < size) {v : Value} {k : Nat} {xs : List Value} (hrow : L[i]? = some (row v k xs e size))
    {src : Value} {m : Nat} {news : List Value} (hsrc : Rd w src m news size) (h63 : k + m ≤ maxLen) (hbytes : (k + m) * bytes ≤ 140737488355328) :
    ∃ v' w', (Builtin.append_ #[t, t] ty #[v, src]).run P w = .ok v' w' ∧ St w0 w' S (L.set i (row v' (k + m) (xs ++ news) e size)) ∧ (v'.ownBlock = v.ownBlock ∨ v'.ownBlock = some w.heap.size) ∧ (v' = .slice none 0 0 ↔ v = .slice none 0 0 ∧ m = 0) ∧ Ch w w' (fun q => v.ownBlock = some q) := by
  obtain ⟨hl, h1, A, c, rfl, hmc, hA0, hA⟩ := hsrc
  have hown : w.ownsRow 0 e size v k xs := row_owns.1 (st.get i hrow)
  cases A with
  | none =>
    have hm0 : m = 0 := hA0 rfl
    subst hm0
    have hn : news = [] := List.eq_nil_of_length_eq_zero (by simpa using hl)
    subst hn
    -- nothing is appended
    have hr : (Builtin.append_ #[t, t] ty #[v, .slice none 0 c]).run P w = .ok v w := by
      have hs : (sizeOf e).run P w = .ok size w := by simp [sizeOf, typeInfo, hi, hsize]
      rcases hown.2 with ⟨rfl, rfl⟩ | ⟨g, cap, cur, rfl, _, hg, hnc, _⟩
      · simp [Builtin.append_, run_underlying ht, hs, Builtin.lenOf, Builtin.firstCells]
      · simp [Builtin.append_, run_underlying ht, hs, Builtin.lenOf, Builtin.firstCells, hnc, storeCells]
    refine ⟨v, w, hr, ?_, .inl rfl, by simp, Ch.refl w _⟩
    have := st.turn i hrow (Ch.refl w _) (row v (k + 0) (xs ++ []) e size) (by simpa using st.get i hrow) (fun q hq => .inl hq)
    exact this
  | some a =>
    by_cases hm : m = 0
    · subst hm
      have hn : news = [] := List.eq_nil_of_length_eq_zero (by simpa using hl)
      subst hn
      obtain ⟨v', w', hr, h2, h3, h4, h5⟩ := run_append_own_at (P := P) w 0 t ty e inf z size bytes ht hi hz hsize hby hzs hsz v k xs hown a 0 c [] (by simp) (fun j u hu => by simp at hu) (fun u hu => (List.not_mem_nil hu).elim) h63 hbytes (Nat.zero_le _)
      refine ⟨v', w', hr, st.turn i hrow ((Ch.of_grown h3).mono fun q _ hq => hq.symm) _ (row_owns.2 h2) (fun q hq => ?_), h5, h4, (Ch.of_grown h3).mono fun q _ hq => hq.symm⟩
      rcases h5 with h5 | h5
      · exact .inl (show v.ownBlock = some q from h5.symm.trans hq)
      · have hq' : v'.ownBlock = some q := hq
        rw [h5] at hq'
        have := (h2.lt q (by rw [h5, ← hq'])).2
        exact .inr ⟨by injection hq' with e; omega, this⟩
    · obtain ⟨hspot, hrg⟩ := hA a rfl (by omega)
      have hadd : ∀ j, a.add j = ⟨a.block, a.off + j, none⟩ := fun j => by
        obtain ⟨ab, ao, asp⟩ := a
        simp only at hspot
        subst hspot
        exact Addr.add_mid ab ao j
      obtain ⟨v', w', hr, h2, h3, h4, h5⟩ := run_append_own_at (P := P) w 0 t ty e inf z size bytes ht hi hz hsize hby hzs hsz v k xs hown a m c news hl (fun j u hu => by rw [hadd]; exact hrg j u hu) h1 h63 hbytes (Nat.zero_le _)
      refine ⟨v', w', hr, st.turn i hrow ((Ch.of_grown h3).mono fun q _ hq => hq.symm) _ (row_owns.2 h2) (fun q hq => ?_), h5, h4, (Ch.of_grown h3).mono fun q _ hq => hq.symm⟩
      rcases h5 with h5 | h5
      · exact .inl (show v.ownBlock = some q from h5.symm.trans hq)
      · have hq' : v'.ownBlock = some q := hq
        rw [h5] at hq'
        have := (h2.lt q (by rw [h5, ← hq'])).2
        exact .inr ⟨by injection hq' with e; omega, this⟩

theorem o_append {w0 : World} {S : Nat → Prop} {L : List Asrt} (st : St w0 w S L) (i : Nat) {x y : Operand} {t e : TypeId} {inf : TypeInfo} {z : Value} {size bytes : Nat} (ht : P.underlying t = some (.slice e))
    (hi : P.info? e = some inf) (hz : inf.zero = some z) (hsize : inf.size = size) (hby : inf.bytes = bytes) (hzs : z.cells.size = size) (hsz : 0 < size) {v : Value} {k : Nat} {xs : List Value} (hrow : L[i]? = some (row v k xs e size)) (hx : ev n E x = v)
    {src : Value} {m : Nat} {news : List Value} (hy : ev n E y = src) (hsrc : Rd w src m news size) (h63 : k + m ≤ maxLen) (hbytes : (k + m) * bytes ≤ 140737488355328)
    (h : ∀ v' w', St w0 w' S (L.set i (row v' (k + m) (xs ++ news) e size)) → (v'.ownBlock = v.ownBlock ∨ v'.ownBlock = some w.heap.size) → (v' = .slice none 0 0 ↔ v = .slice none 0 0 ∧ m = 0) → Ch w w' (fun q => v.ownBlock = some q) → wpList P ops Q rest (mk n ((d, v') :: E)) w') :
    wpList P ops Q (⟨some d, .call { callee := .builtin .append, args := #[x, y], argTypes := #[t, t] }, ty, pos, after, none⟩ :: rest) (mk n E) w := by
  obtain ⟨v', w', hr, h1, h2, h3, h4⟩ := run_append_row (P := P) st i (ty := ty) ht hi hz hsize hby hzs hsz hrow hsrc h63 hbytes
  refine op_val rfl rfl ?_ (h v' w' h1 h2 h3 h4)
  show (do let d ← resolve (ev n E) { callee := .builtin .append, args := #[x, y], argTypes := #[t, t] } ty; invoke d.target d.args : Sem Next).run P w = _
  simp only [resolve, List.map_toArray, List.map_cons, List.map_nil, hx, hy, Sem.run_bind, Sem.run_pure, Result.andThen_ok, invoke, builtin, hr]

/-! ### Slice literals -/
theorem o_buildSlice0 {t e : TypeId} {sz : Nat} (ht : P.underlying t = some (.slice e)) (hs : (P.info? e).map (·.size) = some sz)
    (h : wpList P ops Q rest (mk n ((d, .slice (some ⟨w.heap.size, 0, none⟩) 0 0) :: E)) (w.alloc (.cells ([] : List Value).toArray e))) :
    wpList P ops Q (⟨some d, .buildSlice t 0 #[], ty, pos, after, none⟩ :: rest) (mk n E) w :=
  op_val rfl rfl (by
    show (do pure (.value (← Instr.buildSlice t 0 (Array.map _ #[]))) : Sem Next).run P w = _
    cases hq : P.info? e with
    | none => simp [hq] at hs
    | some inf =>
      have hs' : (sizeOf e).run P w = .ok inf.size w := by simp [sizeOf, typeInfo, hq]
      simp only [Instr.buildSlice, Sem.run_bind, run_underlying ht w, Result.andThen_ok, hs', Nat.zero_mul, show ¬ (0 : Nat) > 2 ^ 24 from by decide, if_false, if_true, Sem.run_pure, List.map_toArray, List.map_nil, Instr.fill, newRow, newObj, Array.range_zero', Array.map_empty]
      rfl) h

theorem o_buildSlice1 {t e : TypeId} {x : Operand} {inf : TypeInfo} {z : Value} {cs : List Value} (ht : P.underlying t = some (.slice e)) (hi : P.info? e = some inf) (hz : inf.zero = some z) (hs : inf.size = cs.length) (h0 : 0 < cs.length) (hbig : cs.length ≤ 16777216)
    (hx : (ev n E x).cells = cs.toArray)
    (h : wpList P ops Q rest (mk n ((d, .slice (some ⟨w.heap.size, 0, none⟩) 1 1) :: E)) (w.alloc (.cells cs.toArray e))) :
    wpList P ops Q (⟨some d, .buildSlice t 1 #[(0, x)], ty, pos, after, none⟩ :: rest) (mk n E) w :=
  op_val rfl rfl (by
    show (do pure (.value (← Instr.buildSlice t 1 (Array.map (fun (p : Nat × Operand) => (p.1, ev n E p.2)) #[(0, x)]))) : Sem Next).run P w = _
    have hs' : (sizeOf e).run P w = .ok cs.length w := by simp [sizeOf, typeInfo, hi, hs]
    have hzv : (zeroValue e).run P w = .ok z w := by simp [zeroValue, typeInfo, hi, hz]
    have hfill : Instr.fill (fun i => some (i * cs.length, cs.length)) ((Array.range (1 * cs.length)).map (z.cells[· % z.cells.size]!)) [(0, ev n E x)] = some cs.toArray := by
      have hZ : ((Array.range (1 * cs.length)).map (z.cells[· % z.cells.size]!)) = (((Array.range (1 * cs.length)).map (z.cells[· % z.cells.size]!)).toList).toArray := by rw [Array.toArray_toList]
      rw [hZ, fill_cons (vs := cs) (by rw [Nat.zero_mul]) hx rfl (by simp)]
      rw [Instr.fill, setFrom_eq _ _ _ (by simp)]
      simp
    have hb : ¬ 1 * cs.length > 2 ^ 24 := by simp; omega
    have hb0 : ¬ 1 * cs.length = 0 := by omega
    simp only [Instr.buildSlice, Sem.run_bind, run_underlying ht w, Result.andThen_ok, hs', hb, if_false, hb0, hzv, Sem.run_pure, List.map_toArray, List.map_cons, List.map_nil, hfill, newRow, newObj]
    rfl) h

/-! ### Equality -/
/-- Two values of one kind each: the cells of plain data. -/
def plainCell : Value → Bool
  | .int _ _ | .bool _ | .string _ => true
  | _ => false

theorem r_makeFunc {f : Nat} {caps : List Operand} {cv : List Value} (hc : caps.map (ev n E) = cv) :
    (execOp (ev n E) ⟨some d, .makeFunc (.func f) #[] caps.toArray, ty, pos, after, none⟩).run P w = .ok (.value (.func (.func f) #[] cv.toArray)) w :=
  (by
    show (do pure (.value (← Instr.makeFunc (.func f) (Array.map (ev n E) #[]) (caps.toArray.map (ev n E)))) : Sem Next).run P w = _
    subst hc
    simp [Instr.makeFunc])
theorem o_makeFunc {f : Nat} {caps : List Operand} {cv : List Value} (hc : caps.map (ev n E) = cv) (h : wpList P ops Q rest (mk n ((d, .func (.func f) #[] cv.toArray) :: E)) w) :
    wpList P ops Q (⟨some d, .makeFunc (.func f) #[] caps.toArray, ty, pos, after, none⟩ :: rest) (mk n E) w :=
  op_val rfl rfl (r_makeFunc hc) h

/-! ### The same over a state: the world behind is a letter -/
section
variable {w0 : World} {S : Nat → Prop} {L : List Asrt}

theorem s_box (st : St w0 w S L) {x : Operand} {t : TypeId} {cs : List Value} (hx : (ev n E x).cells = cs.toArray)
    (h : ∀ b w', St w0 w' S (pt b cs t :: L) → w.heap.size ≤ b → Ch w w' none' → wpList P ops Q rest (mk n ((d, .pointer (some ⟨b, 0, none⟩)) :: E)) w') :
    wpList P ops Q (⟨some d, .box t x, ty, pos, after, none⟩ :: rest) (mk n E) w :=
  o_box hx (h _ _ (st.alloc cs t) (Nat.le_refl _) (Ch.alloc w _ _))

theorem s_alloc (st : St w0 w S L) {t : TypeId} {i : TypeInfo} {z : Value} {cs : List Value} (hi : P.info? t = some i) (hz : i.zero = some z) (hc : z.cells = cs.toArray)
    (h : ∀ b w', St w0 w' S (pt b cs t :: L) → w.heap.size ≤ b → Ch w w' none' → wpList P ops Q rest (mk n ((d, .pointer (some ⟨b, 0, none⟩)) :: E)) w') :
    wpList P ops Q (⟨some d, .alloc t, ty, pos, after, none⟩ :: rest) (mk n E) w :=
  o_alloc hi hz hc (h _ _ (st.alloc cs t) (Nat.le_refl _) (Ch.alloc w _ _))

/-- What a type's zero value is, closed: its cells. -/
def zeroOf (P : Program) (t : TypeId) : Option (List Value) := (P.info? t).bind fun i => i.zero.map fun z => z.cells.toList

theorem s_alloc' (st : St w0 w S L) {t : TypeId} {cs : List Value} (hz : zeroOf P t = some cs)
    (h : ∀ b w', St w0 w' S (pt b cs t :: L) → w.heap.size ≤ b → Ch w w' none' → wpList P ops Q rest (mk n ((d, .pointer (some ⟨b, 0, none⟩)) :: E)) w') :
    wpList P ops Q (⟨some d, .alloc t, ty, pos, after, none⟩ :: rest) (mk n E) w := by
  unfold zeroOf at hz
  cases hi : P.info? t with
  | none => simp [hi] at hz
  | some i =>
    cases hz' : i.zero with
    | none => simp [hi, hz'] at hz
    | some z =>
      simp only [hi, hz', Option.bind_some, Option.map_some, Option.some.injEq] at hz
      exact s_alloc st hi hz' (by rw [← hz]) h

theorem s_store (st : St w0 w S L) (i : Nat) {x y : Operand} {t e : TypeId} {b o : Nat} {cs : List Value} {v : Value} (hL : L[i]? = some (pt b cs e)) (hi : (P.info? t).map (·.size) = some 1) (hx : ev n E x = .pointer (some ⟨b, o, none⟩)) (hy : ev n E y = v) (h1 : v.oneCell' = true)
    (ho : o < cs.length) (h : ∀ w', St w0 w' S (L.set i (pt b (cs.set o v) e)) → Ch w w' (fun k => k = b) → wpList P ops Q rest (mk n E) w') :
    wpList P ops Q (⟨none, .store t x y, ty, pos, after, none⟩ :: rest) (mk n E) w := by
  have hb := st.blk i hL
  refine o_store hi hx hy h1 (by rw [st.cell i hL o (List.getElem?_eq_getElem ho)]; rfl) (frozen_of_row w b o cs.toArray e hb) (h _ ?_ (Ch.setCell w b o v))
  exact st.turn i hL (Ch.setCell w b o v) _ (hp_setCell o v hb) (fun k hk => .inl hk)

theorem s_stores (st : St w0 w S L) (i : Nat) {x y : Operand} {t e : TypeId} {b o : Nat} {cs vs : List Value} (hL : L[i]? = some (pt b cs e)) (hi : (P.info? t).map (·.size) = some vs.length) (hx : ev n E x = .pointer (some ⟨b, o, none⟩)) (hy : ev n E y = .agg vs.toArray) (h1 : ∀ v ∈ vs, v.oneCell' = true)
    (ho : o + vs.length ≤ cs.length) (h : ∀ w', St w0 w' S (L.set i (pt b (setFrom cs o vs) e)) → Ch w w' (fun k => k = b) → wpList P ops Q rest (mk n E) w') :
    wpList P ops Q (⟨none, .store t x y, ty, pos, after, none⟩ :: rest) (mk n E) w := by
  have hb := st.blk i hL
  refine o_stores hi hx hy h1 (fun j hj => ⟨by rw [st.cell i hL (o + j) (List.getElem?_eq_getElem (by omega))]; rfl, frozen_of_row w b (o + j) cs.toArray e hb⟩) (h _ ?_ (setCells_ch b vs o w))
  exact st.turn i hL (setCells_ch b vs o w) _ (hp_setCells vs o cs w hb) (fun k hk => .inl hk)

theorem s_buildSlice0 (st : St w0 w S L) {t e : TypeId} {sz : Nat} (ht : P.underlying t = some (.slice e)) (hs : (P.info? e).map (·.size) = some sz)
    (h : ∀ b w', St w0 w' S (row (.slice (some ⟨b, 0, none⟩) 0 0) 0 [] e sz :: L) → w.heap.size ≤ b → b < w'.heap.size → Ch w w' none' → wpList P ops Q rest (mk n ((d, .slice (some ⟨b, 0, none⟩) 0 0) :: E)) w') :
    wpList P ops Q (⟨some d, .buildSlice t 0 #[], ty, pos, after, none⟩ :: rest) (mk n E) w :=
  o_buildSlice0 ht hs (h _ _ (st.new (Ch.alloc w _ _) _ (row_owns.2 (World.ownsRow_made w _ 0 (Nat.zero_le _) (Nat.zero_le _) (by simp))) (fun k hk => by
    obtain rfl : w.heap.size = k := by simpa [row, Value.ownBlock] using hk
    simp)) (Nat.le_refl _) (by simp) (Ch.alloc w _ _))

theorem s_buildSlice1 (st : St w0 w S L) {t e : TypeId} {x : Operand} {inf : TypeInfo} {z : Value} {cs : List Value} (ht : P.underlying t = some (.slice e)) (hi : P.info? e = some inf) (hz : inf.zero = some z) (hs : inf.size = cs.length) (h0 : 0 < cs.length) (hbig : cs.length ≤ 16777216)
    (hx : (ev n E x).cells = cs.toArray)
    (h : ∀ b w', St w0 w' S (pt b cs e :: L) → w.heap.size ≤ b → Ch w w' none' → wpList P ops Q rest (mk n ((d, .slice (some ⟨b, 0, none⟩) 1 1) :: E)) w') :
    wpList P ops Q (⟨some d, .buildSlice t 1 #[(0, x)], ty, pos, after, none⟩ :: rest) (mk n E) w :=
  o_buildSlice1 ht hi hz hs h0 hbig hx (h _ _ (st.alloc cs e) (Nat.le_refl _) (Ch.alloc w _ _))

/-- A known block read as a slice. -/
theorem St.rd (st : St w0 w S L) (i : Nat) {b : Nat} {cs : List Value} {e : TypeId} (h : L[i]? = some (pt b cs e)) {k size : Nat} (hl : cs.length = k * size) (h1 : ∀ u ∈ cs, u.oneCell' = true) : Rd w (.slice (some ⟨b, 0, none⟩) k k) k cs size :=
  ⟨hl, h1, some ⟨b, 0, none⟩, k, rfl, Nat.le_refl _, (fun h => by cases h), fun a ha _ => by
    obtain rfl : ⟨b, 0, none⟩ = a := by injection ha
    exact ⟨rfl, st.range i h 0 (by simp)⟩⟩

/-- A new row: what a call hands back. -/
structure NewRow (w w' : World) (v : Value) (k : Nat) (xs : List Value) (e : TypeId) (size : Nat) : Prop where
  ch : Ch w w' none'
  ok : (row v k xs e size).ok (hp w')
  own : ∀ q, v.ownBlock = some q → w.heap.size ≤ q ∧ q < w'.heap.size

theorem St.newRow (st : St w0 w S L) {w' : World} {v : Value} {k : Nat} {xs : List Value} {e : TypeId} {size : Nat} (h : NewRow w w' v k xs e size) : St w0 w' S (row v k xs e size :: L) :=
  st.new h.ch _ h.ok h.own

end
end
end Go.Sx
