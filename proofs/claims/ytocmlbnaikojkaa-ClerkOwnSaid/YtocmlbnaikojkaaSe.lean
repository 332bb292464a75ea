/- Equality of structs and arrays of plain cells, to any depth; over YtocmlbnaikojkaaSa. Nothing of a program stands here. -/
import Derived.Test.YtocmlbnaikojkaaSa
import Derived.ChangeKeysEq
namespace Go.Sx
open Go

inductive SK where
  | i (k : IntKind)
  | s
  | b
  deriving DecidableEq

def fits : SK → Value → Bool
  | .i k, .int k' _ => decide (k' = k)
  | .s, .string _ => true
  | .b, .bool _ => true
  | _, _ => false

def fitsAll : List SK → List Value → Bool
  | [], [] => true
  | k :: ks, v :: vs => fits k v && fitsAll ks vs
  | _, _ => false

def veq : Value → Value → Bool
  | .int _ a, .int _ b => a == b
  | .string a, .string b => a == b
  | .bool a, .bool b => a == b
  | _, _ => false

def vsEq : List Value → List Value → Bool
  | [], [] => true
  | a :: x, b :: y => veq a b && vsEq x y
  | _, _ => false

theorem fitsAll_length : ∀ {ks : List SK} {vs : List Value}, fitsAll ks vs = true → vs.length = ks.length
  | [], [], _ => rfl
  | _ :: _, _ :: _, h => by simp [fitsAll] at h; simp [fitsAll_length h.2]
  | [], _ :: _, h => by simp [fitsAll] at h
  | _ :: _, [], h => by simp [fitsAll] at h

theorem fitsAll_append : ∀ {ks ls : List SK} {vs : List Value}, fitsAll (ks ++ ls) vs = true ↔ fitsAll ks (vs.take ks.length) = true ∧ fitsAll ls (vs.drop ks.length) = true
  | [], ls, vs => by simp [fitsAll]
  | k :: ks, ls, [] => by simp [fitsAll]
  | k :: ks, ls, v :: vs => by
    simp only [List.cons_append, fitsAll, Bool.and_eq_true, List.length_cons, List.take_succ_cons, List.drop_succ_cons]
    rw [fitsAll_append (ks := ks) (ls := ls) (vs := vs)]
    exact and_assoc.symm

theorem fits_one {k : SK} {v : Value} (h : fits k v = true) : v.oneCell' = true := by
  cases k <;> cases v <;> simp_all [fits, Value.oneCell']

theorem fitsAll_one : ∀ {ks : List SK} {vs : List Value}, fitsAll ks vs = true → ∀ u ∈ vs, u.oneCell' = true
  | [], [], _ => by simp
  | _ :: _, _ :: _, h => by
    simp only [fitsAll, Bool.and_eq_true] at h
    intro u hu
    rcases List.mem_cons.1 hu with rfl | hu
    · exact fits_one h.1
    · exact fitsAll_one h.2 u hu
  | [], _ :: _, h => by simp [fitsAll] at h
  | _ :: _, [], h => by simp [fitsAll] at h

theorem vsEq_append : ∀ (x y x' y' : List Value), x.length = y.length → vsEq (x ++ x') (y ++ y') = (vsEq x y && vsEq x' y')
  | [], [], _, _, _ => by simp [vsEq]
  | a :: x, b :: y, x', y', h => by
    simp only [List.cons_append, vsEq, vsEq_append x y x' y' (by simpa using h), Bool.and_assoc]
  | [], _ :: _, _, _, h => by simp at h
  | _ :: _, [], _, _, h => by simp at h

theorem veq_refl {k : SK} {v : Value} (h : fits k v = true) : veq v v = true := by
  cases k <;> cases v <;> simp_all [fits, veq, beq_toListBytes]

theorem fitsAll_single {k : SK} : ∀ {vs : List Value}, fitsAll [k] vs = true → ∃ v, vs = [v] ∧ fits k v = true
  | [], h => by simp [fitsAll] at h
  | [v], h => ⟨v, rfl, by simpa [fitsAll] using h⟩
  | _ :: _ :: _, h => by simp [fitsAll] at h

theorem vsEq_refl : ∀ {ks : List SK} {vs : List Value}, fitsAll ks vs = true → vsEq vs vs = true
  | [], [], _ => rfl
  | _ :: _, _ :: _, h => by
    simp only [fitsAll, Bool.and_eq_true] at h
    simp only [vsEq, veq_refl h.1, vsEq_refl h.2, Bool.and_self]
  | [], _ :: _, h => by simp [fitsAll] at h
  | _ :: _, [], h => by simp [fitsAll] at h

def flatFs (g : TypeId → Option (List SK)) (P : Program) : Nat → List Field → Option (List SK)
  | _, [] => some []
  | pos, f :: fs =>
    if f.name ≠ "_" ∧ f.offset = pos then
      match g f.type, P.info? f.type with
      | some ks, some i => if i.size = ks.length then (flatFs g P (pos + ks.length) fs).map (ks ++ ·) else none
      | _, _ => none
    else none

def flatK (P : Program) : Nat → TypeId → Option (List SK)
  | 0, _ => none
  | d + 1, t =>
    match P.underlying t with
    | some (.int k) => some [.i k]
    | some .string => some [.s]
    | some .bool => some [.b]
    | some (.struct fs) => if P.stoodInHeld t then none else flatFs (flatK P d) P 0 fs.toList
    | some (.array m e) =>
      match flatK P d e, P.info? e with
      | some ks, some i => if i.size = ks.length ∧ 0 < ks.length then some (List.replicate m ks).flatten else none
      | _, _ => none
    | _ => none

/-- The cells of a value of type t. -/
def wrapV (P : Program) (t : TypeId) (cs : List Value) : Value :=
  match P.underlying t with
  | some (.struct _) | some (.array _ _) => .agg cs.toArray
  | _ => cs.headD undef

section
variable {P : Program}

theorem run_part_wrap {t : TypeId} {ks : List SK} {d : Nat} {i : TypeInfo} (hk : flatK P d t = some ks) (hi : P.info? t = some i) (hs : i.size = ks.length) (cs : List Value) (off : Nat)
    (hf : fitsAll ks ((cs.drop off).take ks.length) = true) (w : World) : (part t cs.toArray off).run P w = .ok (wrapV P t ((cs.drop off).take ks.length)) w := by
  cases d with
  | zero => simp [flatK] at hk
  | succ d =>
    have one : ∀ u : TypeDesc, P.underlying t = some u → u.isRow = false → ks.length = 1 → (part t cs.toArray off).run P w = .ok (((cs.drop off).take 1).headD undef) w := fun u hu hr h1 => by
      rw [h1] at hf
      have hlen := fitsAll_length hf
      rw [h1] at hlen
      cases hd : cs.drop off with
      | nil => simp [hd] at hlen
      | cons v r =>
        have hv : cs[off]? = some v := by
          have := congrArg (·[0]?) hd
          simpa using this
        rw [run_part_cell hu hr cs off hv]
        rfl
    unfold flatK at hk
    unfold wrapV
    cases hu : P.underlying t with
    | none => simp [hu] at hk
    | some u =>
      cases u
      case int k => simp only [hu, Option.some.injEq] at hk; subst hk; exact one _ hu rfl rfl
      case string => simp only [hu, Option.some.injEq] at hk; subst hk; exact one _ hu rfl rfl
      case bool => simp only [hu, Option.some.injEq] at hk; subst hk; exact one _ hu rfl rfl
      case struct fs => rw [run_part_row hu rfl hi cs off, hs]
      case array m e => rw [run_part_row hu rfl hi cs off, hs]
      all_goals (simp [hu] at hk)

theorem eqFields_flat {d m : Nat} {xs ys : List Value} (ih : ∀ t ks, flatK P d t = some ks → ∀ xs ys, fitsAll ks xs = true → fitsAll ks ys = true → ∀ w, (Op.equalIn (m + d) t (wrapV P t xs) (wrapV P t ys)).run P w = .ok (vsEq xs ys) w) :
    ∀ (fs : List Field) (pos : Nat) (ks : List SK), flatFs (flatK P d) P pos fs = some ks → fitsAll ks (xs.drop pos) = true → fitsAll ks (ys.drop pos) = true → ∀ w,
      (Op.eqFields (m + d) xs.toArray ys.toArray fs).run P w = .ok (vsEq (xs.drop pos) (ys.drop pos)) w
  | [], pos, ks, h, hx, hy, w => by
    simp only [flatFs, Option.some.injEq] at h
    subst h
    have h1 : xs.drop pos = [] := List.eq_nil_of_length_eq_zero (fitsAll_length hx)
    have h2 : ys.drop pos = [] := List.eq_nil_of_length_eq_zero (fitsAll_length hy)
    rw [h1, h2]
    rfl
  | f :: fs, pos, ks, h, hx, hy, w => by
    unfold flatFs at h
    split at h
    · rename_i hc
      obtain ⟨hn, hpos⟩ := hc
      subst hpos
      split at h
      · rename_i kf i hg hi
        split at h
        · rename_i hs
          cases hr : flatFs (flatK P d) P (f.offset + kf.length) fs with
          | none => simp [hr] at h
          | some kr =>
            simp only [hr, Option.map_some, Option.some.injEq] at h
            subst h
            obtain ⟨hx1, hx2⟩ := fitsAll_append.1 hx
            obtain ⟨hy1, hy2⟩ := fitsAll_append.1 hy
            rw [List.drop_drop] at hx2 hy2
            have e1 := run_part_wrap hg hi hs xs f.offset hx1 w
            have e2 := run_part_wrap hg hi hs ys f.offset hy1 w
            have e3 := ih f.type kf hg _ _ hx1 hy1 w
            have e4 := eqFields_flat ih fs (f.offset + kf.length) kr hr hx2 hy2 w
            simp only [Op.eqFields, hn, ne_eq, not_false_eq_true, if_true, Sem.run_bind, e1, e2, e3, Result.andThen_ok]
            have ex : xs.drop f.offset = (xs.drop f.offset).take kf.length ++ xs.drop (f.offset + kf.length) := by rw [← List.drop_drop]; exact (List.take_append_drop _ _).symm
            have ey : ys.drop f.offset = (ys.drop f.offset).take kf.length ++ ys.drop (f.offset + kf.length) := by rw [← List.drop_drop]; exact (List.take_append_drop _ _).symm
            rw [ex, ey, vsEq_append _ _ _ _ ((fitsAll_length hx1).trans (fitsAll_length hy1).symm), ← ex, ← ey]
            cases hv : vsEq ((xs.drop f.offset).take kf.length) ((ys.drop f.offset).take kf.length) with
            | false => rfl
            | true => simpa using e4
        · cases h
      · cases h
    · cases h

theorem fitsAll_rep {ks : List SK} : ∀ (m : Nat) {vs : List Value}, fitsAll (List.replicate m ks).flatten vs = true → ∀ j, j < m → fitsAll ks ((vs.drop (j * ks.length)).take ks.length) = true
  | 0, _, _, _, hj => by omega
  | m + 1, vs, h, j, hj => by
    rw [List.replicate_succ, List.flatten_cons] at h
    obtain ⟨h1, h2⟩ := fitsAll_append.1 h
    cases j with
    | zero => simpa using h1
    | succ j =>
      have := fitsAll_rep m h2 j (by omega)
      rw [List.drop_drop] at this
      rw [show (j + 1) * ks.length = ks.length + j * ks.length from by rw [Nat.succ_mul]; omega]
      exact this

theorem eqItems_flat {d m n e : Nat} {xs ys : List Value} {ks : List SK} {i : TypeInfo} (hk : flatK P d e = some ks) (hi : P.info? e = some i) (hs : i.size = ks.length)
    (ih : ∀ xs ys, fitsAll ks xs = true → fitsAll ks ys = true → ∀ w, (Op.equalIn (m + d) e (wrapV P e xs) (wrapV P e ys)).run P w = .ok (vsEq xs ys) w)
    (hx : fitsAll (List.replicate n ks).flatten xs = true) (hy : fitsAll (List.replicate n ks).flatten ys = true) :
    ∀ (l j : Nat), j + l = n → ∀ w, (Op.eqItems (m + d) e (P.cellsOf e) xs.toArray ys.toArray (List.range' j l)).run P w = .ok (vsEq (xs.drop (j * ks.length)) (ys.drop (j * ks.length))) w
  | 0, j, hj, w => by
    have hlx : xs.length = n * ks.length := by rw [fitsAll_length hx]; simp
    have hly : ys.length = n * ks.length := by rw [fitsAll_length hy]; simp
    have : j = n := by omega
    subst this
    have h1 : xs.drop (j * ks.length) = [] := List.drop_eq_nil_of_le (by omega)
    have h2 : ys.drop (j * ks.length) = [] := List.drop_eq_nil_of_le (by omega)
    rw [h1, h2]
    rfl
  | l + 1, j, hj, w => by
    have hsz : P.cellsOf e = ks.length := by simp [Program.cellsOf, hi, hs]
    have hx1 := fitsAll_rep n hx j (by omega)
    have hy1 := fitsAll_rep n hy j (by omega)
    have e1 := run_part_wrap hk hi hs xs (j * ks.length) hx1 w
    have e2 := run_part_wrap hk hi hs ys (j * ks.length) hy1 w
    have e3 := ih _ _ hx1 hy1 w
    have e4 := eqItems_flat hk hi hs ih hx hy l (j + 1) (by omega) w
    rw [List.range'_succ]
    rw [hsz] at e4 ⊢
    simp only [Op.eqItems, Sem.run_bind, e1, e2, e3, Result.andThen_ok]
    have hmul : (j + 1) * ks.length = j * ks.length + ks.length := Nat.succ_mul _ _
    have ex : xs.drop (j * ks.length) = (xs.drop (j * ks.length)).take ks.length ++ xs.drop ((j + 1) * ks.length) := by rw [hmul, ← List.drop_drop]; exact (List.take_append_drop _ _).symm
    have ey : ys.drop (j * ks.length) = (ys.drop (j * ks.length)).take ks.length ++ ys.drop ((j + 1) * ks.length) := by rw [hmul, ← List.drop_drop]; exact (List.take_append_drop _ _).symm
    rw [ex, ey, vsEq_append _ _ _ _ ((fitsAll_length hx1).trans (fitsAll_length hy1).symm), ← ex, ← ey]
    cases hv : vsEq ((xs.drop (j * ks.length)).take ks.length) ((ys.drop (j * ks.length)).take ks.length) with
    | false => rfl
    | true => simpa using e4

theorem eq_flat : ∀ (d : Nat) (t : TypeId) (ks : List SK), flatK P d t = some ks → ∀ xs ys, fitsAll ks xs = true → fitsAll ks ys = true → ∀ (m : Nat) (w : World),
    (Op.equalIn (m + d) t (wrapV P t xs) (wrapV P t ys)).run P w = .ok (vsEq xs ys) w
  | 0, _, _, h, _, _, _, _, _, _ => by simp [flatK] at h
  | d + 1, t, ks, h, xs, ys, hx, hy, m, w => by
    have ih := fun t ks h xs ys hx hy w => eq_flat d t ks h xs ys hx hy m w
    unfold flatK at h
    unfold wrapV
    cases hu : P.underlying t with
    | none => simp [hu] at h
    | some u =>
      cases u
      case int k =>
        simp only [hu, Option.some.injEq] at h; subst h
        obtain ⟨x, rfl, fx⟩ := fitsAll_single hx; clear hx
        obtain ⟨y, rfl, fy⟩ := fitsAll_single hy; clear hy
        cases x <;> simp [fits] at fx
        cases y <;> simp [fits] at fy
        subst fx; subst fy
        simp only [List.headD_cons, vsEq, veq, Bool.and_true]
        exact run_equalIn_int w (m + d) t _ _ _ _ hu
      case string =>
        simp only [hu, Option.some.injEq] at h; subst h
        obtain ⟨x, rfl, fx⟩ := fitsAll_single hx; clear hx
        obtain ⟨y, rfl, fy⟩ := fitsAll_single hy; clear hy
        cases x <;> simp [fits] at fx
        cases y <;> simp [fits] at fy
        simp only [List.headD_cons, vsEq, veq, Bool.and_true]
        rw [beq_toListBytes]
        exact run_equalIn_string w (m + d) t _ _ hu
      case bool =>
        simp only [hu, Option.some.injEq] at h; subst h
        obtain ⟨x, rfl, fx⟩ := fitsAll_single hx; clear hx
        obtain ⟨y, rfl, fy⟩ := fitsAll_single hy; clear hy
        cases x <;> simp [fits] at fx
        cases y <;> simp [fits] at fy
        simp only [List.headD_cons, vsEq, veq, Bool.and_true]
        exact run_equalIn_bool w (m + d) t _ _ hu
      case struct fs =>
        simp only [hu] at h
        split at h
        · cases h
        · rename_i hst
          have hfo : P.fieldsOf t = fs := by simp [Program.fieldsOf, hu]
          show (Op.equalIn (m + d + 1) t (.agg xs.toArray) (.agg ys.toArray)).run P w = _
          rw [run_equalIn_struct w (m + d) t _ _ (by rw [hfo]; exact hu) (by simpa using hst), hfo]
          have := eqFields_flat (xs := xs) (ys := ys) (m := m) ih fs.toList 0 ks h (by simpa using hx) (by simpa using hy) w
          simpa using this
      case array n e =>
        simp only [hu] at h
        split at h
        · rename_i ke i hk hi
          split at h
          · rename_i hs
            simp only [Option.some.injEq] at h; subst h
            show (Op.equalIn (m + d + 1) t (.agg xs.toArray) (.agg ys.toArray)).run P w = _
            rw [run_equalIn_array w (m + d) _ _ hu hi]
            have := eqItems_flat hk hi hs.1 (fun xs ys hx hy w => ih e ke hk xs ys hx hy w) hx hy n 0 (by omega) w
            rw [← List.range_eq_range'] at this
            simpa using this
          · cases h
        · cases h
      all_goals (simp [hu] at h)

end
section
variable {P : Program} {ops : Array Oper} {Q : Exit → Act → World → Prop} {rest : List Oper} {n : Nat} {E : List (Nat × Value)} {w : World}
variable {d : Nat} {ty : TypeId} {pos : String} {after : Array Edge}

def isRowT (P : Program) (t : TypeId) : Bool :=
  match P.underlying t with
  | some u => u.isRow
  | none => false

theorem run_eq_flat {t : TypeId} {ks : List SK} {k : Nat} (hk : flatK P k t = some ks) (hr : isRowT P t = true) (hle : k ≤ 10000) {xs ys : List Value} (hx : fitsAll ks xs = true) (hy : fitsAll ks ys = true) :
    (Op.equalIn 10000 t (.agg xs.toArray) (.agg ys.toArray)).run P w = .ok (vsEq xs ys) w := by
  have := eq_flat k t ks hk xs ys hx hy (10000 - k) w
  rw [Nat.sub_add_cancel hle] at this
  have hw : ∀ cs, wrapV P t cs = .agg cs.toArray := fun cs => by
    unfold isRowT at hr
    unfold wrapV
    split at hr
    · rename_i u hu
      rw [hu]
      cases u <;> simp_all
    · cases hr
  rw [hw, hw] at this
  exact this

theorem r_eq_agg {x y : Operand} {t t' : TypeId} {ks : List SK} {k : Nat} {xs ys : List Value} {r : Bool} (hk : flatK P k t = some ks) (hrow : isRowT P t = true) (hle : k ≤ 10000) (hg : P.eqGuardType P.depth t = false)
    (hx : ev n E x = .agg xs.toArray) (hy : ev n E y = .agg ys.toArray) (fx : fitsAll ks xs = true) (fy : fitsAll ks ys = true) (hr : vsEq xs ys = r) :
    (execOp (ev n E) ⟨some d, .binOp .eql t x y t', ty, pos, after, none⟩).run P w = .ok (.value (.bool r)) w :=
  (by
    show (do pure (.value (← (do eqGuard .eql t x y (ev n E x) (ev n E y); binOp .eql t (ev n E x) (ev n E y)))) : Sem Next).run P w = _
    rw [hx, hy]
    simp only [Sem.run_bind, run_eqGuard_agg w .eql t x y _ _ hg, Result.andThen_ok, run_eql_struct, run_eq_flat hk hrow hle fx fy, Sem.run_pure, hr])
theorem o_eq_agg {x y : Operand} {t t' : TypeId} {ks : List SK} {k : Nat} {xs ys : List Value} {r : Bool} (hk : flatK P k t = some ks) (hrow : isRowT P t = true) (hle : k ≤ 10000) (hg : P.eqGuardType P.depth t = false)
    (hx : ev n E x = .agg xs.toArray) (hy : ev n E y = .agg ys.toArray) (fx : fitsAll ks xs = true) (fy : fitsAll ks ys = true) (hr : vsEq xs ys = r)
    (h : wpList P ops Q rest (mk n ((d, .bool r) :: E)) w) : wpList P ops Q (⟨some d, .binOp .eql t x y t', ty, pos, after, none⟩ :: rest) (mk n E) w :=
  op_val rfl rfl (r_eq_agg hk hrow hle hg hx hy fx fy hr) h

theorem r_ne_agg {x y : Operand} {t t' : TypeId} {ks : List SK} {k : Nat} {xs ys : List Value} {r : Bool} (hk : flatK P k t = some ks) (hrow : isRowT P t = true) (hle : k ≤ 10000) (hg : P.eqGuardType P.depth t = false)
    (hx : ev n E x = .agg xs.toArray) (hy : ev n E y = .agg ys.toArray) (fx : fitsAll ks xs = true) (fy : fitsAll ks ys = true) (hr : (!vsEq xs ys) = r) :
    (execOp (ev n E) ⟨some d, .binOp .neq t x y t', ty, pos, after, none⟩).run P w = .ok (.value (.bool r)) w :=
  (by
    show (do pure (.value (← (do eqGuard .neq t x y (ev n E x) (ev n E y); binOp .neq t (ev n E x) (ev n E y)))) : Sem Next).run P w = _
    rw [hx, hy]
    simp only [Sem.run_bind, run_eqGuard_agg w .neq t x y _ _ hg, Result.andThen_ok, run_neq_struct, run_eq_flat hk hrow hle fx fy, Sem.run_pure, hr])
theorem o_ne_agg {x y : Operand} {t t' : TypeId} {ks : List SK} {k : Nat} {xs ys : List Value} {r : Bool} (hk : flatK P k t = some ks) (hrow : isRowT P t = true) (hle : k ≤ 10000) (hg : P.eqGuardType P.depth t = false)
    (hx : ev n E x = .agg xs.toArray) (hy : ev n E y = .agg ys.toArray) (fx : fitsAll ks xs = true) (fy : fitsAll ks ys = true) (hr : (!vsEq xs ys) = r)
    (h : wpList P ops Q rest (mk n ((d, .bool r) :: E)) w) : wpList P ops Q (⟨some d, .binOp .neq t x y t', ty, pos, after, none⟩ :: rest) (mk n E) w :=
  op_val rfl rfl (r_ne_agg hk hrow hle hg hx hy fx fy hr) h

end
end Go.Sx
