/- More operations over YtocmlbnaikojkaaSd: conversions of integers, slice expressions, min, nil checks, pointers against nil, append of a slice of another name. Nothing of a program stands here. -/
import Derived.Test.YtocmlbnaikojkaaSd
namespace Go.Sx
open Go
section
variable {P : Program} {ops : Array Oper} {Q : Exit → Act → World → Prop} {rest : List Oper} {n : Nat} {E : List (Nat × Value)} {w : World}
variable {d : Nat} {ty : TypeId} {pos : String} {after : Array Edge}

theorem elem_of {t e : TypeId} (h : P.underlying t = some (.slice e)) : P.elem t = e := by unfold Program.elem; rw [h]
theorem pointee_of {t e : TypeId} (h : P.underlying t = some (.pointer e)) : P.pointee t = e := by unfold Program.pointee; rw [h]

theorem r_convert {x : Operand} {s t : TypeId} {k k' : IntKind} {a b : Int} {u : TypeDesc} (hs : P.underlying s = some u) (ht : P.underlying t = some (.int k')) (hx : ev n E x = .int k a) (hb : k'.wrap a = b) :
    (execOp (ev n E) ⟨some d, .convert s t x, ty, pos, after, none⟩).run P w = .ok (.value (.int k' b)) w := by
  show (do pure (.value (← convert s t (ev n E x))) : Sem Next).run P w = _
  rw [hx]
  subst hb
  simp [convert, run_underlying hs, run_underlying ht, Conv.intToInt]
theorem o_convert {x : Operand} {s t : TypeId} {k k' : IntKind} {a b : Int} {u : TypeDesc} (hs : P.underlying s = some u) (ht : P.underlying t = some (.int k')) (hx : ev n E x = .int k a) (hb : k'.wrap a = b)
    (h : wpList P ops Q rest (mk n ((d, .int k' b) :: E)) w) : wpList P ops Q (⟨some d, .convert s t x, ty, pos, after, none⟩ :: rest) (mk n E) w :=
  op_val rfl rfl (r_convert hs ht hx hb) h

theorem r_min {x y : Operand} {ts : Array TypeId} {k k' : IntKind} {a b c : Int} (hx : ev n E x = .int k a) (hy : ev n E y = .int k' b) (hc : (if b < a then b else a) = c) :
    (execOp (ev n E) ⟨some d, .call { callee := .builtin .min, args := #[x, y], argTypes := ts }, ty, pos, after, none⟩).run P w = .ok (.value (.int k c)) w := by
  show (do let d ← resolve (ev n E) { callee := .builtin .min, args := #[x, y], argTypes := ts } ty; invoke d.target d.args : Sem Next).run P w = _
  simp only [resolve, List.map_toArray, List.map_cons, List.map_nil, hx, hy, Sem.run_bind, Sem.run_pure, Result.andThen_ok, invoke, builtin, run_min_int2, hc]
theorem o_min {x y : Operand} {ts : Array TypeId} {k k' : IntKind} {a b c : Int} (hx : ev n E x = .int k a) (hy : ev n E y = .int k' b) (hc : (if b < a then b else a) = c)
    (h : wpList P ops Q rest (mk n ((d, .int k c) :: E)) w) : wpList P ops Q (⟨some d, .call { callee := .builtin .min, args := #[x, y], argTypes := ts }, ty, pos, after, none⟩ :: rest) (mk n E) w :=
  op_val rfl rfl (r_min hx hy hc) h

theorem r_nilCheck {x : Operand} {a : Addr} (hx : ev n E x = .pointer (some a)) :
    (execOp (ev n E) ⟨some d, .nilCheck x, ty, pos, after, none⟩).run P w = .ok (.value (.pointer (some a))) w := by
  simp only [execOp, hx]; rfl
theorem o_nilCheck {x : Operand} {a : Addr} (hx : ev n E x = .pointer (some a)) (h : wpList P ops Q rest (mk n ((d, .pointer (some a)) :: E)) w) :
    wpList P ops Q (⟨some d, .nilCheck x, ty, pos, after, none⟩ :: rest) (mk n E) w :=
  op_val rfl rfl (r_nilCheck hx) h

theorem r_ptr_nil {x y : Operand} {t t' e : TypeId} {A : Option Addr} {r : Bool} (hu : P.underlying t = some (.pointer e)) (hx : ev n E x = .pointer A) (hy : ev n E y = .pointer none) (hr : A.isNone = r) :
    (execOp (ev n E) ⟨some d, .binOp .eql t x y t', ty, pos, after, none⟩).run P w = .ok (.value (.bool r)) w :=
  r_bin hx hy rfl (by rw [← hr]; exact run_eql_pointer_nil w t A (by rw [pointee_of hu]; exact hu))
theorem o_ptr_nil {x y : Operand} {t t' e : TypeId} {A : Option Addr} {r : Bool} (hu : P.underlying t = some (.pointer e)) (hx : ev n E x = .pointer A) (hy : ev n E y = .pointer none) (hr : A.isNone = r)
    (h : wpList P ops Q rest (mk n ((d, .bool r) :: E)) w) : wpList P ops Q (⟨some d, .binOp .eql t x y t', ty, pos, after, none⟩ :: rest) (mk n E) w :=
  op_val rfl rfl (r_ptr_nil hu hx hy hr) h
theorem r_ptr_nn {x y : Operand} {t t' e : TypeId} {A : Option Addr} {r : Bool} (hu : P.underlying t = some (.pointer e)) (hx : ev n E x = .pointer A) (hy : ev n E y = .pointer none) (hr : (!A.isNone) = r) :
    (execOp (ev n E) ⟨some d, .binOp .neq t x y t', ty, pos, after, none⟩).run P w = .ok (.value (.bool r)) w :=
  r_bin hx hy rfl (by rw [← hr]; exact run_neq_pointer_nil w t A (by rw [pointee_of hu]; exact hu))
theorem o_ptr_nn {x y : Operand} {t t' e : TypeId} {A : Option Addr} {r : Bool} (hu : P.underlying t = some (.pointer e)) (hx : ev n E x = .pointer A) (hy : ev n E y = .pointer none) (hr : (!A.isNone) = r)
    (h : wpList P ops Q rest (mk n ((d, .bool r) :: E)) w) : wpList P ops Q (⟨some d, .binOp .neq t x y t', ty, pos, after, none⟩ :: rest) (mk n E) w :=
  op_val rfl rfl (r_ptr_nn hu hx hy hr) h

/-- append where the second slice's type has another name. -/
theorem append_types {t t2 e e2 ty : TypeId} (ht : P.underlying t = some (.slice e)) (ht2 : P.underlying t2 = some (.slice e2)) (A : Option Addr) (m c : Nat) (src : Value) (w : World) :
    (Builtin.append_ #[t, t2] ty #[.slice A m c, src]).run P w = (Builtin.append_ #[t, t] ty #[.slice A m c, src]).run P w := by
  simp [Builtin.append_, run_underlying ht, run_underlying ht2]
theorem o_append2 {w0 : World} {S : Nat → Prop} {L : List Asrt} (st : St w0 w S L) (i : Nat) {x y : Operand} {t t2 e e2 : TypeId} {inf : TypeInfo} {z : Value} {size bytes : Nat} (ht : P.underlying t = some (.slice e)) (ht2 : P.underlying t2 = some (.slice e2))
    (hi : P.info? e = some inf) (hz : inf.zero = some z) (hsize : inf.size = size) (hby : inf.bytes = bytes) (hzs : z.cells.size = size) (hsz : 0 < size) {v : Value} {k : Nat} {xs : List Value} (hrow : L[i]? = some (row v k xs e size)) (hx : ev n E x = v)
    {src : Value} {m : Nat} {news : List Value} (hy : ev n E y = src) (hsrc : Rd w src m news size) (h63 : k + m ≤ maxLen) (hbytes : (k + m) * bytes ≤ 140737488355328)
    (h : ∀ v' w', St w0 w' S (L.set i (row v' (k + m) (xs ++ news) e size)) → (v'.ownBlock = v.ownBlock ∨ v'.ownBlock = some w.heap.size) → (v' = .slice none 0 0 ↔ v = .slice none 0 0 ∧ m = 0) → Ch w w' (fun q => v.ownBlock = some q) → wpList P ops Q rest (mk n ((d, v') :: E)) w') :
    wpList P ops Q (⟨some d, .call { callee := .builtin .append, args := #[x, y], argTypes := #[t, t2] }, ty, pos, after, none⟩ :: rest) (mk n E) w := by
  obtain ⟨v', w', hr, h1, h2, h3, h4⟩ := run_append_row (P := P) st i (ty := ty) ht hi hz hsize hby hzs hsz hrow hsrc h63 hbytes
  have hr' : (Builtin.append_ #[t, t2] ty #[v, src]).run P w = .ok v' w' := by
    rcases (st.get i hrow).2 with ⟨rfl, _⟩ | ⟨g, cap, cur, rfl, _⟩
    · rw [append_types ht ht2]; exact hr
    · rw [append_types ht ht2]; exact hr
  refine op_val rfl rfl ?_ (h v' w' h1 h2 h3 h4)
  show (do let d ← resolve (ev n E) { callee := .builtin .append, args := #[x, y], argTypes := #[t, t2] } ty; invoke d.target d.args : Sem Next).run P w = _
  simp only [resolve, List.map_toArray, List.map_cons, List.map_nil, hx, hy, Sem.run_bind, Sem.run_pure, Result.andThen_ok, invoke, builtin, hr']

/-- x[:h] and x[l:], of a slice. -/
theorem r_slice_h {x y : Operand} {t e : TypeId} {A : Option Addr} {m c sz h : Nat} {k : IntKind} {z : Int} (hu : P.underlying t = some (.slice e)) (hs : (P.info? e).map (·.size) = some sz) (hx : ev n E x = .slice A m c) (hy : ev n E y = .int k z) (hz : z = (h : Int)) (hc : h ≤ c) :
    (execOp (ev n E) ⟨some d, .slice t x none (some y) none, ty, pos, after, none⟩).run P w = .ok (.value (.slice A h c)) w := by
  show (do pure (.value (← Instr.sliceAt t (ev n E x) none (some (ev n E y)) none)) : Sem Next).run P w = _
  subst hz
  cases hq : P.info? e with
  | none => simp [hq] at hs
  | some i =>
    have he := elem_of hu
    have hu' : P.underlying t = some (.slice (P.elem t)) := by rw [he]; exact hu
    have hs' : (sizeOf (P.elem t)).run P w = .ok i.size w := by rw [he]; simp [sizeOf, typeInfo, hq]
    have := run_slice_h w t A m c hu' k (h : Int) (by omega) (by omega)
    rw [hx, hy, Sem.run_bind, run_sliceAt_slice w t _ _ _ _ hu', this, hs']
    simp only [Result.andThen_ok, sliced, Sem.run_pure, Nat.zero_mul, Nat.sub_zero, Int.toNat_natCast]
    congr 3
    split
    · rfl
    · cases A <;> simp [Addr.add]
theorem o_slice_h {x y : Operand} {t e : TypeId} {A : Option Addr} {m c sz h : Nat} {k : IntKind} {z : Int} (hu : P.underlying t = some (.slice e)) (hs : (P.info? e).map (·.size) = some sz) (hx : ev n E x = .slice A m c) (hy : ev n E y = .int k z) (hz : z = (h : Int)) (hc : h ≤ c)
    (k' : wpList P ops Q rest (mk n ((d, .slice A h c) :: E)) w) : wpList P ops Q (⟨some d, .slice t x none (some y) none, ty, pos, after, none⟩ :: rest) (mk n E) w :=
  op_val rfl rfl (r_slice_h hu hs hx hy hz hc) k'
theorem r_slice_l {x y : Operand} {t e : TypeId} {b o m c sz l : Nat} {k : IntKind} {z : Int} (hu : P.underlying t = some (.slice e)) (hs : (P.info? e).map (·.size) = some sz) (hx : ev n E x = .slice (some ⟨b, o, none⟩) m c) (hy : ev n E y = .int k z) (hz : z = (l : Int)) (hc : l ≤ m) :
    (execOp (ev n E) ⟨some d, .slice t x (some y) none none, ty, pos, after, none⟩).run P w = .ok (.value (.slice (some (if c = l then ⟨b, o, none⟩ else ⟨b, o + l * sz, none⟩)) (m - l) (c - l))) w := by
  show (do pure (.value (← Instr.sliceAt t (ev n E x) (some (ev n E y)) none none)) : Sem Next).run P w = _
  subst hz
  cases hq : P.info? e with
  | none => simp [hq] at hs
  | some i =>
    have he := elem_of hu
    have hsz : i.size = sz := by simpa [hq] using hs
    have hu' : P.underlying t = some (.slice (P.elem t)) := by rw [he]; exact hu
    have hs' : (sizeOf (P.elem t)).run P w = .ok sz w := by rw [he]; simp [sizeOf, typeInfo, hq, hsz]
    have := run_slice_l w t (some ⟨b, o, none⟩) m c hu' k (l : Int) (by omega) (by omega)
    rw [hx, hy, Sem.run_bind, run_sliceAt_slice w t _ _ _ _ hu', this, hs']
    simp only [Result.andThen_ok, sliced, Sem.run_pure, Int.toNat_natCast]
    congr 3
    split
    · rfl
    · simp [Addr.add_mid]
theorem o_slice_l {x y : Operand} {t e : TypeId} {b o m c sz l : Nat} {k : IntKind} {z : Int} (hu : P.underlying t = some (.slice e)) (hs : (P.info? e).map (·.size) = some sz) (hx : ev n E x = .slice (some ⟨b, o, none⟩) m c) (hy : ev n E y = .int k z) (hz : z = (l : Int)) (hc : l ≤ m)
    (k' : wpList P ops Q rest (mk n ((d, .slice (some (if c = l then ⟨b, o, none⟩ else ⟨b, o + l * sz, none⟩)) (m - l) (c - l)) :: E)) w) : wpList P ops Q (⟨some d, .slice t x (some y) none none, ty, pos, after, none⟩ :: rest) (mk n E) w :=
  op_val rfl rfl (r_slice_l hu hs hx hy hz hc) k'
end
end Go.Sx
