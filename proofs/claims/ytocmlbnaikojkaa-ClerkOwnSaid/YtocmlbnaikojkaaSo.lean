/- The operations, one rule each, over the frame of YtocmlbnaikojkaaSx. Nothing of a program stands here. -/
import Derived.Test.YtocmlbnaikojkaaSx
namespace Go.Sx
open Go
section
variable {P : Program} {ops : Array Oper} {Q : Exit → Act → World → Prop} {rest : List Oper} {n : Nat} {E : List (Nat × Value)} {w : World}
variable {d : Nat} {ty : TypeId} {pos : String} {after : Array Edge}

theorem r_move {x : Operand} {v : Value} (hv : ev n E x = v) :
    (execOp (ev n E) ⟨some d, .move x, ty, pos, after, none⟩).run P w = .ok (.value (v)) w :=
  (by subst hv; rfl)
theorem o_move {x : Operand} {v : Value} (hv : ev n E x = v) (h : wpList P ops Q rest (mk n ((d, v) :: E)) w) :
    wpList P ops Q (⟨some d, .move x, ty, pos, after, none⟩ :: rest) (mk n E) w :=
  op_val rfl rfl (r_move hv) h

theorem r_assign {x : Operand} {v : Value} (hv : ev n E x = v) :
    (execOp (ev n E) ⟨some d, .assign x, ty, pos, after, none⟩).run P w = .ok (.value (v)) w :=
  (by subst hv; rfl)
theorem o_assign {x : Operand} {v : Value} (hv : ev n E x = v) (h : wpList P ops Q rest (mk n ((d, v) :: E)) w) :
    wpList P ops Q (⟨some d, .assign x, ty, pos, after, none⟩ :: rest) (mk n E) w :=
  op_val rfl rfl (r_assign hv) h

theorem r_pick {c x y : Operand} {b : Bool} {v : Value} (hc : ev n E c = .bool b) (hv : (if b then ev n E x else ev n E y) = v) :
    (execOp (ev n E) ⟨some d, .pick c x y, ty, pos, after, none⟩).run P w = .ok (.value (v)) w :=
  (by
    show (do pure (.value (if ← asBool (ev n E c) then ev n E x else ev n E y)) : Sem Next).run P w = _
    rw [hc, ← hv]; rfl)
theorem o_pick {c x y : Operand} {b : Bool} {v : Value} (hc : ev n E c = .bool b) (hv : (if b then ev n E x else ev n E y) = v) (h : wpList P ops Q rest (mk n ((d, v) :: E)) w) :
    wpList P ops Q (⟨some d, .pick c x y, ty, pos, after, none⟩ :: rest) (mk n E) w :=
  op_val rfl rfl (r_pick hc hv) h

theorem r_not {x : Operand} {t : TypeId} {b : Bool} (hx : ev n E x = .bool b) :
    (execOp (ev n E) ⟨some d, .unOp .not t x, ty, pos, after, none⟩).run P w = .ok (.value (.bool (!b))) w :=
  (by
    show (do pure (.value (← Op.unary .not (ev n E x))) : Sem Next).run P w = _
    rw [hx]; rfl)
theorem o_not {x : Operand} {t : TypeId} {b : Bool} (hx : ev n E x = .bool b) (h : wpList P ops Q rest (mk n ((d, .bool (!b)) :: E)) w) :
    wpList P ops Q (⟨some d, .unOp .not t x, ty, pos, after, none⟩ :: rest) (mk n E) w :=
  op_val rfl rfl (r_not hx) h

theorem r_extract {x : Operand} {k : Nat} {vs : Array Value} {v : Value} (hx : ev n E x = .tuple vs) (hv : vs[k]? = some v) :
    (execOp (ev n E) ⟨some d, .extract x k, ty, pos, after, none⟩).run P w = .ok (.value (v)) w :=
  (by
    show (do pure (.value (← Instr.extract (ev n E x) k)) : Sem Next).run P w = _
    rw [hx]; simp [Instr.extract, hv])
theorem o_extract {x : Operand} {k : Nat} {vs : Array Value} {v : Value} (hx : ev n E x = .tuple vs) (hv : vs[k]? = some v) (h : wpList P ops Q rest (mk n ((d, v) :: E)) w) :
    wpList P ops Q (⟨some d, .extract x k, ty, pos, after, none⟩ :: rest) (mk n E) w :=
  op_val rfl rfl (r_extract hx hv) h

/-- A binary operation, by its run. -/
theorem r_bin {op : BinOp} {x y : Operand} {t t' : TypeId} {a b v : Value} (hx : ev n E x = a) (hy : ev n E y = b) (hg : eqGuard op t x y a b = pure ()) (hr : (binOp op t a b).run P w = .ok v w) :
    (execOp (ev n E) ⟨some d, .binOp op t x y t', ty, pos, after, none⟩).run P w = .ok (.value (v)) w :=
  (by
    show (do pure (.value (← (do eqGuard op t x y (ev n E x) (ev n E y); binOp op t (ev n E x) (ev n E y)))) : Sem Next).run P w = _
    rw [hx, hy, hg]
    simp [hr])
theorem o_bin {op : BinOp} {x y : Operand} {t t' : TypeId} {a b v : Value} (hx : ev n E x = a) (hy : ev n E y = b) (hg : eqGuard op t x y a b = pure ()) (hr : (binOp op t a b).run P w = .ok v w)
    (h : wpList P ops Q rest (mk n ((d, v) :: E)) w) :
    wpList P ops Q (⟨some d, .binOp op t x y t', ty, pos, after, none⟩ :: rest) (mk n E) w :=
  op_val rfl rfl (r_bin hx hy hg hr) h

theorem r_lss {x y : Operand} {t t' : TypeId} {k : IntKind} {a b : Int} {r : Bool} (hx : ev n E x = .int k a) (hy : ev n E y = .int k b) (hr : decide (a < b) = r) :
    (execOp (ev n E) ⟨some d, .binOp .lss t x y t', ty, pos, after, none⟩).run P w = .ok (.value (.bool r)) w :=
  r_bin hx hy rfl (by rw [binOp_lss, ← hr]; rfl)
theorem o_lss {x y : Operand} {t t' : TypeId} {k : IntKind} {a b : Int} {r : Bool} (hx : ev n E x = .int k a) (hy : ev n E y = .int k b) (hr : decide (a < b) = r)
    (h : wpList P ops Q rest (mk n ((d, .bool r) :: E)) w) : wpList P ops Q (⟨some d, .binOp .lss t x y t', ty, pos, after, none⟩ :: rest) (mk n E) w :=
  op_val rfl rfl (r_lss hx hy hr) h

theorem r_leq {x y : Operand} {t t' : TypeId} {k : IntKind} {a b : Int} {r : Bool} (hx : ev n E x = .int k a) (hy : ev n E y = .int k b) (hr : decide (a ≤ b) = r) :
    (execOp (ev n E) ⟨some d, .binOp .leq t x y t', ty, pos, after, none⟩).run P w = .ok (.value (.bool r)) w :=
  r_bin hx hy rfl (by rw [binOp_leq, ← hr]; rfl)
theorem o_leq {x y : Operand} {t t' : TypeId} {k : IntKind} {a b : Int} {r : Bool} (hx : ev n E x = .int k a) (hy : ev n E y = .int k b) (hr : decide (a ≤ b) = r)
    (h : wpList P ops Q rest (mk n ((d, .bool r) :: E)) w) : wpList P ops Q (⟨some d, .binOp .leq t x y t', ty, pos, after, none⟩ :: rest) (mk n E) w :=
  op_val rfl rfl (r_leq hx hy hr) h

theorem r_gtr {x y : Operand} {t t' : TypeId} {k : IntKind} {a b : Int} {r : Bool} (hx : ev n E x = .int k a) (hy : ev n E y = .int k b) (hr : decide (a > b) = r) :
    (execOp (ev n E) ⟨some d, .binOp .gtr t x y t', ty, pos, after, none⟩).run P w = .ok (.value (.bool r)) w :=
  r_bin hx hy rfl (by rw [binOp_gtr, ← hr]; rfl)
theorem o_gtr {x y : Operand} {t t' : TypeId} {k : IntKind} {a b : Int} {r : Bool} (hx : ev n E x = .int k a) (hy : ev n E y = .int k b) (hr : decide (a > b) = r)
    (h : wpList P ops Q rest (mk n ((d, .bool r) :: E)) w) : wpList P ops Q (⟨some d, .binOp .gtr t x y t', ty, pos, after, none⟩ :: rest) (mk n E) w :=
  op_val rfl rfl (r_gtr hx hy hr) h

theorem r_geq {x y : Operand} {t t' : TypeId} {k : IntKind} {a b : Int} {r : Bool} (hx : ev n E x = .int k a) (hy : ev n E y = .int k b) (hr : decide (a ≥ b) = r) :
    (execOp (ev n E) ⟨some d, .binOp .geq t x y t', ty, pos, after, none⟩).run P w = .ok (.value (.bool r)) w :=
  r_bin hx hy rfl (by rw [binOp_geq, ← hr]; rfl)
theorem o_geq {x y : Operand} {t t' : TypeId} {k : IntKind} {a b : Int} {r : Bool} (hx : ev n E x = .int k a) (hy : ev n E y = .int k b) (hr : decide (a ≥ b) = r)
    (h : wpList P ops Q rest (mk n ((d, .bool r) :: E)) w) : wpList P ops Q (⟨some d, .binOp .geq t x y t', ty, pos, after, none⟩ :: rest) (mk n E) w :=
  op_val rfl rfl (r_geq hx hy hr) h

theorem r_eql {x y : Operand} {t t' : TypeId} {k : IntKind} {a b : Int} {r : Bool} (hx : ev n E x = .int k a) (hy : ev n E y = .int k b) (hr : decide (a = b) = r) :
    (execOp (ev n E) ⟨some d, .binOp .eql t x y t', ty, pos, after, none⟩).run P w = .ok (.value (.bool r)) w :=
  r_bin hx hy rfl (by rw [binOp_eql, ← hr]; rfl)
theorem o_eql {x y : Operand} {t t' : TypeId} {k : IntKind} {a b : Int} {r : Bool} (hx : ev n E x = .int k a) (hy : ev n E y = .int k b) (hr : decide (a = b) = r)
    (h : wpList P ops Q rest (mk n ((d, .bool r) :: E)) w) : wpList P ops Q (⟨some d, .binOp .eql t x y t', ty, pos, after, none⟩ :: rest) (mk n E) w :=
  op_val rfl rfl (r_eql hx hy hr) h

theorem r_neq {x y : Operand} {t t' : TypeId} {k : IntKind} {a b : Int} {r : Bool} (hx : ev n E x = .int k a) (hy : ev n E y = .int k b) (hr : (!decide (a = b)) = r) :
    (execOp (ev n E) ⟨some d, .binOp .neq t x y t', ty, pos, after, none⟩).run P w = .ok (.value (.bool r)) w :=
  r_bin hx hy rfl (by rw [binOp_neq, ← hr]; rfl)
theorem o_neq {x y : Operand} {t t' : TypeId} {k : IntKind} {a b : Int} {r : Bool} (hx : ev n E x = .int k a) (hy : ev n E y = .int k b) (hr : (!decide (a = b)) = r)
    (h : wpList P ops Q rest (mk n ((d, .bool r) :: E)) w) : wpList P ops Q (⟨some d, .binOp .neq t x y t', ty, pos, after, none⟩ :: rest) (mk n E) w :=
  op_val rfl rfl (r_neq hx hy hr) h

theorem r_add64 {x y : Operand} {t t' : TypeId} {a b c : Int} (hx : ev n E x = .int .i64 a) (hy : ev n E y = .int .i64 b) (hc : a + b = c) (h0 : -9223372036854775808 ≤ c) (h1 : c ≤ 9223372036854775807) :
    (execOp (ev n E) ⟨some d, .binOp .add t x y t', ty, pos, after, none⟩).run P w = .ok (.value (.int .i64 c)) w :=
  r_bin hx hy rfl (by
    rw [binOp_add]
    subst hc
    have : IntKind.i64.wrap (a + b) = a + b := Go.IntWalk.i64_in _ (by omega)
    show Result.ok (Value.int .i64 (IntKind.i64.wrap (a + b))) w = _
    rw [this])
theorem o_add64 {x y : Operand} {t t' : TypeId} {a b c : Int} (hx : ev n E x = .int .i64 a) (hy : ev n E y = .int .i64 b) (hc : a + b = c) (h0 : -9223372036854775808 ≤ c) (h1 : c ≤ 9223372036854775807)
    (h : wpList P ops Q rest (mk n ((d, .int .i64 c) :: E)) w) : wpList P ops Q (⟨some d, .binOp .add t x y t', ty, pos, after, none⟩ :: rest) (mk n E) w :=
  op_val rfl rfl (r_add64 hx hy hc h0 h1) h

/-- A slice against nil. -/
theorem r_nil {x y : Operand} {t t' e : TypeId} {A : Option Addr} {m c m' c' : Nat} {r : Bool} (hu : P.underlying t = some (.slice e)) (hx : ev n E x = .slice A m c) (hy : ev n E y = .slice none m' c') (hr : A.isNone = r) :
    (execOp (ev n E) ⟨some d, .binOp .eql t x y t', ty, pos, after, none⟩).run P w = .ok (.value (.bool r)) w :=
  r_bin hx hy rfl (by rw [← hr]; exact Lib.run_eql_slice_nil w _ _ A m c m' c' hu)
theorem o_nil {x y : Operand} {t t' e : TypeId} {A : Option Addr} {m c m' c' : Nat} {r : Bool} (hu : P.underlying t = some (.slice e)) (hx : ev n E x = .slice A m c) (hy : ev n E y = .slice none m' c') (hr : A.isNone = r)
    (h : wpList P ops Q rest (mk n ((d, .bool r) :: E)) w) : wpList P ops Q (⟨some d, .binOp .eql t x y t', ty, pos, after, none⟩ :: rest) (mk n E) w :=
  op_val rfl rfl (r_nil hu hx hy hr) h

theorem r_len {x : Operand} {t e : TypeId} {A : Option Addr} {m c : Nat} {z : Int} (hu : P.underlying t = some (.slice e)) (hx : ev n E x = .slice A m c) (hz : (m : Int) = z) :
    (execOp (ev n E) ⟨some d, .call { callee := .builtin .len, args := #[x], argTypes := #[t] }, ty, pos, after, none⟩).run P w = .ok (.value (.int .i64 z)) w :=
  (by
    show (do let d ← resolve (ev n E) { callee := .builtin .len, args := #[x], argTypes := #[t] } ty; invoke d.target d.args : Sem Next).run P w = _
    have hl := run_len_slice (P := P) w t ty A m c (by rw [show P.elem t = e from by simp [Program.elem, hu]]; exact hu)
    simp only [resolve, List.map_toArray, List.map_cons, List.map_nil, hx, Sem.run_bind, Sem.run_pure, Result.andThen_ok, invoke, builtin, hl]
    subst hz; rfl)
theorem o_len {x : Operand} {t e : TypeId} {A : Option Addr} {m c : Nat} {z : Int} (hu : P.underlying t = some (.slice e)) (hx : ev n E x = .slice A m c) (hz : (m : Int) = z)
    (h : wpList P ops Q rest (mk n ((d, .int .i64 z) :: E)) w) :
    wpList P ops Q (⟨some d, .call { callee := .builtin .len, args := #[x], argTypes := #[t] }, ty, pos, after, none⟩ :: rest) (mk n E) w :=
  op_val rfl rfl (r_len hu hx hz) h

/-! ### Memory -/
theorem o_box {x : Operand} {t : TypeId} {cs : List Value} (hx : (ev n E x).cells = cs.toArray)
    (h : wpList P ops Q rest (mk n ((d, .pointer (some ⟨w.heap.size, 0, none⟩)) :: E)) (w.alloc (.cells cs.toArray t))) :
    wpList P ops Q (⟨some d, .box t x, ty, pos, after, none⟩ :: rest) (mk n E) w :=
  op_val rfl rfl (by
    show (do pure (.value (← Instr.box t (ev n E x))) : Sem Next).run P w = _
    simp only [Instr.box, newVar, newRow, newObj, hx]
    rfl) h

theorem o_alloc {t : TypeId} {i : TypeInfo} {z : Value} {cs : List Value} (hi : P.info? t = some i) (hz : i.zero = some z) (hc : z.cells = cs.toArray)
    (h : wpList P ops Q rest (mk n ((d, .pointer (some ⟨w.heap.size, 0, none⟩)) :: E)) (w.alloc (.cells cs.toArray t))) :
    wpList P ops Q (⟨some d, .alloc t, ty, pos, after, none⟩ :: rest) (mk n E) w :=
  op_val rfl rfl (by
    show (do pure (.value (← Instr.alloc t true (.tuple #[]))) : Sem Next).run P w = _
    have hzv : (zeroValue t).run P w = .ok z w := by simp [zeroValue, typeInfo, hi, hz]
    simp only [Instr.alloc, Sem.run_bind, hzv, Result.andThen_ok, newVar, newRow, newObj, hc]
    rfl) h

theorem r_load {x : Operand} {t : TypeId} {dsc : TypeDesc} {a : Addr} {v : Value} (hu : P.underlying t = some dsc) (hd : dsc.isRow = false) (hx : ev n E x = .pointer (some a)) (hc : w.cell? a = some v) :
    (execOp (ev n E) ⟨some d, .load t x, ty, pos, after, none⟩).run P w = .ok (.value (v)) w :=
  (by
    show (do pure (.value (← Instr.loadAt t (ev n E x))) : Sem Next).run P w = _
    have hagg : (isAgg t).run P w = .ok false w := by
      unfold isAgg
      rw [Sem.run_bind, run_underlying hu w]
      cases dsc <;> simp_all
    simp only [hx, Instr.loadAt, Instr.sureAddr, loadVar, Sem.run_bind, Sem.run_pure, Result.andThen_ok, hagg, Bool.false_eq_true, if_false, run_load, hc])
theorem o_load {x : Operand} {t : TypeId} {dsc : TypeDesc} {a : Addr} {v : Value} (hu : P.underlying t = some dsc) (hd : dsc.isRow = false) (hx : ev n E x = .pointer (some a)) (hc : w.cell? a = some v)
    (h : wpList P ops Q rest (mk n ((d, v) :: E)) w) :
    wpList P ops Q (⟨some d, .load t x, ty, pos, after, none⟩ :: rest) (mk n E) w :=
  op_val rfl rfl (r_load hu hd hx hc) h

theorem r_loads {x : Operand} {t : TypeId} {dsc : TypeDesc} {b o : Nat} {cs : List Value} (hu : P.underlying t = some dsc) (hd : dsc.isRow = true) (hi : (P.info? t).map (·.size) = some cs.length)
    (hx : ev n E x = .pointer (some ⟨b, o, none⟩)) (hc : w.rangeAt b o cs) :
    (execOp (ev n E) ⟨some d, .load t x, ty, pos, after, none⟩).run P w = .ok (.value (.agg cs.toArray)) w :=
  (by
    show (do pure (.value (← Instr.loadAt t (ev n E x))) : Sem Next).run P w = _
    rw [hx]
    simp only [Sem.run_bind, run_loadAt_mid w b o t cs dsc hc hu hd hi, Result.andThen_ok, Sem.run_pure])
theorem o_loads {x : Operand} {t : TypeId} {dsc : TypeDesc} {b o : Nat} {cs : List Value} (hu : P.underlying t = some dsc) (hd : dsc.isRow = true) (hi : (P.info? t).map (·.size) = some cs.length)
    (hx : ev n E x = .pointer (some ⟨b, o, none⟩)) (hc : w.rangeAt b o cs) (h : wpList P ops Q rest (mk n ((d, .agg cs.toArray) :: E)) w) :
    wpList P ops Q (⟨some d, .load t x, ty, pos, after, none⟩ :: rest) (mk n E) w :=
  op_val rfl rfl (r_loads hu hd hi hx hc) h

theorem o_store {x y : Operand} {t : TypeId} {b o : Nat} {v : Value} (hi : (P.info? t).map (·.size) = some 1) (hx : ev n E x = .pointer (some ⟨b, o, none⟩)) (hy : ev n E y = v) (h1 : v.oneCell' = true)
    (hc : (w.cell? ⟨b, o, none⟩).isSome = true) (hf : w.frozen? ⟨b, o, none⟩ = false) (h : wpList P ops Q rest (mk n E) (w.setCell ⟨b, o, none⟩ v)) :
    wpList P ops Q (⟨none, .store t x y, ty, pos, after, none⟩ :: rest) (mk n E) w :=
  op_skip rfl rfl (by
    show (do Instr.storeAt t (ev n E x) (ev n E y); pure .skip : Sem Next).run P w = _
    have hcells : v.cells = #[v] := by cases v <;> simp_all [Value.cells, Value.oneCell']
    have hs : (storeCells ⟨b, o, none⟩ [v] 0).run P w = .ok () (w.setCells b o [v]) :=
      run_storeCells_cells (P := P) b o [v] 0 w (fun j hj => by have : j = 0 := by simpa using hj
                                                                subst this; simpa using hc) (fun j hj => by have : j = 0 := by simpa using hj
                                                                                                            subst this; simpa using hf) (fun u hu => by rw [List.mem_singleton.1 hu]; exact h1)
    cases hq : P.info? t with
    | none => simp [hq] at hi
    | some i =>
      have hsz : i.size = 1 := by simpa [hq] using hi
      have hv : (storeVar t ⟨b, o, none⟩ v).run P w = .ok () (w.setCell ⟨b, o, none⟩ v) := by
        have hs' : (storeCells ⟨b, o, none⟩ [v] 0).run P w = .ok () (w.setCell ⟨b, o, none⟩ v) := hs
        simp [storeVar, sizeOf, typeInfo, hq, hcells, hsz, hs']
      simp only [hx, hy, Instr.storeAt, Instr.sureAddr, Sem.run_bind, Sem.run_pure, Result.andThen_ok, hv]) h

theorem o_stores {x y : Operand} {t : TypeId} {b o : Nat} {cs : List Value} (hi : (P.info? t).map (·.size) = some cs.length) (hx : ev n E x = .pointer (some ⟨b, o, none⟩)) (hy : ev n E y = .agg cs.toArray) (h1 : ∀ v ∈ cs, v.oneCell' = true)
    (hc : w.there b o cs.length) (h : wpList P ops Q rest (mk n E) (w.setCells b o cs)) :
    wpList P ops Q (⟨none, .store t x y, ty, pos, after, none⟩ :: rest) (mk n E) w :=
  op_skip rfl rfl (by
    show (do Instr.storeAt t (ev n E x) (ev n E y); pure .skip : Sem Next).run P w = _
    have := run_storeAt_mid (P := P) w b o t cs.toArray (by simpa using hc) (by simpa using hi) (all_oneCell_toArray h1)
    rw [hx, hy]
    simp only [Sem.run_bind, this, Result.andThen_ok, Sem.run_pure]) h

/-- Where a field lies: its offset, if it has cells. -/
def fieldOff (P : Program) (s : TypeId) (f : Nat) : Option Nat :=
  match P.underlying s with
  | some (.struct fs) => match fs[f]? with
    | some fd => match P.info? fd.type with
      | some i => bif Nat.beq i.size 0 then none else some fd.offset
      | none => none
    | none => none
  | _ => none

theorem r_fieldAddr {x : Operand} {s : TypeId} {f b o off : Nat} {q : Nat} (hf : fieldOff P s f = some off) (hx : ev n E x = .pointer (some ⟨b, o, none⟩)) (hq : o + off = q) :
    (execOp (ev n E) ⟨some d, .fieldAddr s x f, ty, pos, after, none⟩).run P w = .ok (.value (.pointer (some ⟨b, q, none⟩))) w :=
  (by
    show (do pure (.value (← Instr.fieldAt s (ev n E x) f)) : Sem Next).run P w = _
    unfold fieldOff at hf
    split at hf
    · rename_i fs hu
      split at hf
      · rename_i fd hfd
        split at hf
        · rename_i i hi
          have hz : ¬ i.size = 0 := by
            intro e
            rw [e] at hf
            cases hf
          have hne : (Nat.beq i.size 0) = false := by rw [← Bool.not_eq_true, Nat.beq_eq]; exact hz
          rw [hne] at hf
          have hoff : fd.offset = off := by simpa using hf
          subst hoff
          subst hq
          have hadd : (⟨b, o, none⟩ : Addr).add fd.offset = ⟨b, o + fd.offset, none⟩ := Addr.add_mid b o fd.offset
          simp only [hx, Instr.fieldAt, Sem.run_bind, run_underlying hu w, Result.andThen_ok, hfd, Instr.sureAddr, Sem.run_pure, fieldPlace, sizeOf, typeInfo, Go.program, Sem.run, hi, hz, if_false, hadd]
        · cases hf
      · cases hf
    · cases hf)
theorem o_fieldAddr {x : Operand} {s : TypeId} {f b o off : Nat} {q : Nat} (hf : fieldOff P s f = some off) (hx : ev n E x = .pointer (some ⟨b, o, none⟩)) (hq : o + off = q)
    (h : wpList P ops Q rest (mk n ((d, .pointer (some ⟨b, q, none⟩)) :: E)) w) :
    wpList P ops Q (⟨some d, .fieldAddr s x f, ty, pos, after, none⟩ :: rest) (mk n E) w :=
  op_val rfl rfl (r_fieldAddr hf hx hq) h

/-- A field of a struct at hand: offset, size, whether it is a row itself. -/
def fieldInfo (P : Program) (s : TypeId) (f : Nat) : Option (Nat × Nat × Bool) :=
  match P.underlying s with
  | some (.struct fs) => match fs[f]? with
    | some fd => match P.info? fd.type, P.underlying fd.type with
      | some i, some u => some (fd.offset, i.size, u.isRow)
      | _, _ => none
    | none => none
  | _ => none

theorem run_part_row {t : TypeId} {u : TypeDesc} {i : TypeInfo} (hu : P.underlying t = some u) (hd : u.isRow = true) (hi : P.info? t = some i) (cs : List Value) (off : Nat) :
    (part t cs.toArray off).run P w = .ok (.agg ((cs.drop off).take i.size).toArray) w := by
  have hagg : (isAgg t).run P w = .ok true w := by
    unfold isAgg
    rw [Sem.run_bind, run_underlying hu w]
    cases u <;> simp_all
  have hs : (sizeOf t).run P w = .ok i.size w := by simp [sizeOf, typeInfo, hi]
  have he : cs.toArray.extract off (off + i.size) = ((cs.drop off).take i.size).toArray := by
    apply Array.ext'
    simp [Array.toList_extract, List.extract_eq_take_drop]
  simp only [part, Sem.run_bind, hagg, Result.andThen_ok, if_true, hs, Sem.run_pure, he]

theorem run_part_cell {t : TypeId} {u : TypeDesc} (hu : P.underlying t = some u) (hd : u.isRow = false) (cs : List Value) (off : Nat) {v : Value} (hv : cs[off]? = some v) :
    (part t cs.toArray off).run P w = .ok v w := by
  have hagg : (isAgg t).run P w = .ok false w := by
    unfold isAgg
    rw [Sem.run_bind, run_underlying hu w]
    cases u <;> simp_all
  have hv' : cs.toArray[off]? = some v := by simpa using hv
  simp only [part, Sem.run_bind, hagg, Result.andThen_ok, Bool.false_eq_true, if_false, hv', Sem.run_pure]

theorem r_field_row {x : Operand} {s : TypeId} {f off sz : Nat} {cs vs : List Value} (hf : fieldInfo P s f = some (off, sz, true)) (hx : ev n E x = .agg cs.toArray) (hvs : (cs.drop off).take sz = vs) :
    (execOp (ev n E) ⟨some d, .field s x f, ty, pos, after, none⟩).run P w = .ok (.value (.agg vs.toArray)) w :=
  (by
    show (do pure (.value (← Instr.field s (ev n E x) f)) : Sem Next).run P w = _
    unfold fieldInfo at hf
    split at hf
    · rename_i fs hu
      split at hf
      · rename_i fd hfd
        split at hf
        · rename_i i u hi hu'
          simp only [Option.some.injEq, Prod.mk.injEq] at hf
          obtain ⟨rfl, rfl, hr⟩ := hf
          subst hvs
          simp only [hx, Instr.field, Sem.run_bind, run_underlying hu w, Result.andThen_ok, hfd, asAgg, Sem.run_pure, run_part_row hu' hr hi]
        · cases hf
      · cases hf
    · cases hf)
theorem o_field_row {x : Operand} {s : TypeId} {f off sz : Nat} {cs vs : List Value} (hf : fieldInfo P s f = some (off, sz, true)) (hx : ev n E x = .agg cs.toArray) (hvs : (cs.drop off).take sz = vs)
    (h : wpList P ops Q rest (mk n ((d, .agg vs.toArray) :: E)) w) :
    wpList P ops Q (⟨some d, .field s x f, ty, pos, after, none⟩ :: rest) (mk n E) w :=
  op_val rfl rfl (r_field_row hf hx hvs) h

theorem r_field_cell {x : Operand} {s : TypeId} {f off sz : Nat} {cs : List Value} {v : Value} (hf : fieldInfo P s f = some (off, sz, false)) (hx : ev n E x = .agg cs.toArray) (hv : cs[off]? = some v) :
    (execOp (ev n E) ⟨some d, .field s x f, ty, pos, after, none⟩).run P w = .ok (.value (v)) w :=
  (by
    show (do pure (.value (← Instr.field s (ev n E x) f)) : Sem Next).run P w = _
    unfold fieldInfo at hf
    split at hf
    · rename_i fs hu
      split at hf
      · rename_i fd hfd
        split at hf
        · rename_i i u hi hu'
          simp only [Option.some.injEq, Prod.mk.injEq] at hf
          obtain ⟨rfl, rfl, hr⟩ := hf
          simp only [hx, Instr.field, Sem.run_bind, run_underlying hu w, Result.andThen_ok, hfd, asAgg, Sem.run_pure, run_part_cell hu' hr cs _ hv]
        · cases hf
      · cases hf
    · cases hf)
theorem o_field_cell {x : Operand} {s : TypeId} {f off sz : Nat} {cs : List Value} {v : Value} (hf : fieldInfo P s f = some (off, sz, false)) (hx : ev n E x = .agg cs.toArray) (hv : cs[off]? = some v)
    (h : wpList P ops Q rest (mk n ((d, v) :: E)) w) :
    wpList P ops Q (⟨some d, .field s x f, ty, pos, after, none⟩ :: rest) (mk n E) w :=
  op_val rfl rfl (r_field_cell hf hx hv) h

theorem r_indexAddr {x y : Operand} {t e : TypeId} {b o sz m c q : Nat} {k : IntKind} {z : Int} {i : Nat} (hu : P.underlying t = some (.slice e)) (hs : (P.info? e).map (·.size) = some sz)
    (hx : ev n E x = .slice (some ⟨b, o, none⟩) m c) (hy : ev n E y = .int k z) (hz : z = (i : Int)) (hi : i < m) (hq : o + i * sz = q) :
    (execOp (ev n E) ⟨some d, .indexAddr t x y, ty, pos, after, none⟩).run P w = .ok (.value (.pointer (some ⟨b, q, none⟩))) w :=
  (by
    show (do pure (.value (← Instr.indexAt t (ev n E x) (ev n E y))) : Sem Next).run P w = _
    subst hz
    subst hq
    cases hq : P.info? e with
    | none => simp [hq] at hs
    | some inf =>
      have hsz : inf.size = sz := by simpa [hq] using hs
      have h1 : (0 : Int) ≤ (i : Int) ∧ (i : Int) < (m : Int) := ⟨by omega, by omega⟩
      have hs' : (sizeOf e).run P w = .ok sz w := by simp [sizeOf, typeInfo, hq, hsz]
      simp only [hx, hy, Instr.indexAt, asIntOf, Sem.run_bind, Sem.run_pure, Result.andThen_ok, run_underlying hu w]
      simp only [h1, and_self, if_true, Sem.run_bind, hs', Result.andThen_ok, Sem.run_pure, Int.toNat_natCast, Addr.add_mid])
theorem o_indexAddr {x y : Operand} {t e : TypeId} {b o sz m c q : Nat} {k : IntKind} {z : Int} {i : Nat} (hu : P.underlying t = some (.slice e)) (hs : (P.info? e).map (·.size) = some sz)
    (hx : ev n E x = .slice (some ⟨b, o, none⟩) m c) (hy : ev n E y = .int k z) (hz : z = (i : Int)) (hi : i < m) (hq : o + i * sz = q)
    (h : wpList P ops Q rest (mk n ((d, .pointer (some ⟨b, q, none⟩)) :: E)) w) :
    wpList P ops Q (⟨some d, .indexAddr t x y, ty, pos, after, none⟩ :: rest) (mk n E) w :=
  op_val rfl rfl (r_indexAddr hu hs hx hy hz hi hq) h

theorem r_indexAddr_arr {x y : Operand} {t e : TypeId} {b o sz m q : Nat} {k : IntKind} {z : Int} {i : Nat} (hu : P.underlying t = some (.array m e)) (hs : (P.info? e).map (·.size) = some sz)
    (hx : ev n E x = .pointer (some ⟨b, o, none⟩)) (hy : ev n E y = .int k z) (hz : z = (i : Int)) (hi : i < m) (hq : o + i * sz = q) :
    (execOp (ev n E) ⟨some d, .indexAddr t x y, ty, pos, after, none⟩).run P w = .ok (.value (.pointer (some ⟨b, q, none⟩))) w :=
  (by
    show (do pure (.value (← Instr.indexAt t (ev n E x) (ev n E y))) : Sem Next).run P w = _
    subst hz
    subst hq
    cases hq : P.info? e with
    | none => simp [hq] at hs
    | some inf =>
      have hsz : inf.size = sz := by simpa [hq] using hs
      have h1 : (0 : Int) ≤ (i : Int) ∧ (i : Int) < (m : Int) := ⟨by omega, by omega⟩
      have hs' : (sizeOf e).run P w = .ok sz w := by simp [sizeOf, typeInfo, hq, hsz]
      simp only [hx, hy, Instr.indexAt, asIntOf, Sem.run_bind, Sem.run_pure, Result.andThen_ok, run_underlying hu w, Instr.sureAddr]
      simp only [h1, and_self, if_true, Sem.run_bind, hs', Result.andThen_ok, Sem.run_pure, Int.toNat_natCast, Addr.add_mid])
theorem o_indexAddr_arr {x y : Operand} {t e : TypeId} {b o sz m q : Nat} {k : IntKind} {z : Int} {i : Nat} (hu : P.underlying t = some (.array m e)) (hs : (P.info? e).map (·.size) = some sz)
    (hx : ev n E x = .pointer (some ⟨b, o, none⟩)) (hy : ev n E y = .int k z) (hz : z = (i : Int)) (hi : i < m) (hq : o + i * sz = q)
    (h : wpList P ops Q rest (mk n ((d, .pointer (some ⟨b, q, none⟩)) :: E)) w) :
    wpList P ops Q (⟨some d, .indexAddr t x y, ty, pos, after, none⟩ :: rest) (mk n E) w :=
  op_val rfl rfl (r_indexAddr_arr hu hs hx hy hz hi hq) h

theorem r_index_row {x y : Operand} {t e : TypeId} {m sz : Nat} {k : IntKind} {z : Int} {i : Nat} {u : TypeDesc} {cs vs : List Value} (hu : P.underlying t = some (.array m e)) (hs : (P.info? e).map (·.size) = some sz)
    (he : P.underlying e = some u) (hr : u.isRow = true) (hx : ev n E x = .agg cs.toArray) (hy : ev n E y = .int k z) (hz : z = (i : Int)) (hi : i < m) (hvs : (cs.drop (i * sz)).take sz = vs) :
    (execOp (ev n E) ⟨some d, .index t x y, ty, pos, after, none⟩).run P w = .ok (.value (.agg vs.toArray)) w :=
  (by
    show (do pure (.value (← Instr.index t (ev n E x) (ev n E y))) : Sem Next).run P w = _
    subst hz
    subst hvs
    cases hq : P.info? e with
    | none => simp [hq] at hs
    | some inf =>
      have hsz : inf.size = sz := by simpa [hq] using hs
      subst hsz
      have h1 : (0 : Int) ≤ (i : Int) ∧ (i : Int) < (m : Int) := ⟨by omega, by omega⟩
      have hs' : (sizeOf e).run P w = .ok inf.size w := by simp [sizeOf, typeInfo, hq]
      simp only [hx, hy, Instr.index, asIntOf, Sem.run_bind, Sem.run_pure, Result.andThen_ok, run_underlying hu w]
      simp only [h1, and_self, if_true, Sem.run_bind, hs', Result.andThen_ok, Int.toNat_natCast, run_part_row he hr hq, Sem.run_pure])
theorem o_index_row {x y : Operand} {t e : TypeId} {m sz : Nat} {k : IntKind} {z : Int} {i : Nat} {u : TypeDesc} {cs vs : List Value} (hu : P.underlying t = some (.array m e)) (hs : (P.info? e).map (·.size) = some sz)
    (he : P.underlying e = some u) (hr : u.isRow = true) (hx : ev n E x = .agg cs.toArray) (hy : ev n E y = .int k z) (hz : z = (i : Int)) (hi : i < m) (hvs : (cs.drop (i * sz)).take sz = vs)
    (h : wpList P ops Q rest (mk n ((d, .agg vs.toArray) :: E)) w) :
    wpList P ops Q (⟨some d, .index t x y, ty, pos, after, none⟩ :: rest) (mk n E) w :=
  op_val rfl rfl (r_index_row hu hs he hr hx hy hz hi hvs) h

theorem r_index_cell {x y : Operand} {t e : TypeId} {m : Nat} {k : IntKind} {z : Int} {i : Nat} {u : TypeDesc} {cs : List Value} {v : Value} (hu : P.underlying t = some (.array m e)) (hs : (P.info? e).map (·.size) = some 1)
    (he : P.underlying e = some u) (hr : u.isRow = false) (hx : ev n E x = .agg cs.toArray) (hy : ev n E y = .int k z) (hz : z = (i : Int)) (hi : i < m) (hv : cs[i]? = some v) :
    (execOp (ev n E) ⟨some d, .index t x y, ty, pos, after, none⟩).run P w = .ok (.value (v)) w :=
  (by
    show (do pure (.value (← Instr.index t (ev n E x) (ev n E y))) : Sem Next).run P w = _
    subst hz
    cases hq : P.info? e with
    | none => simp [hq] at hs
    | some inf =>
      have hsz : inf.size = 1 := by simpa [hq] using hs
      have h1 : (0 : Int) ≤ (i : Int) ∧ (i : Int) < (m : Int) := ⟨by omega, by omega⟩
      have hs' : (sizeOf e).run P w = .ok 1 w := by simp [sizeOf, typeInfo, hq, hsz]
      simp only [hx, hy, Instr.index, asIntOf, Sem.run_bind, Sem.run_pure, Result.andThen_ok, run_underlying hu w]
      simp only [h1, and_self, if_true, Sem.run_bind, hs', Result.andThen_ok, Int.toNat_natCast, Nat.mul_one, run_part_cell he hr cs i hv, Sem.run_pure])
theorem o_index_cell {x y : Operand} {t e : TypeId} {m : Nat} {k : IntKind} {z : Int} {i : Nat} {u : TypeDesc} {cs : List Value} {v : Value} (hu : P.underlying t = some (.array m e)) (hs : (P.info? e).map (·.size) = some 1)
    (he : P.underlying e = some u) (hr : u.isRow = false) (hx : ev n E x = .agg cs.toArray) (hy : ev n E y = .int k z) (hz : z = (i : Int)) (hi : i < m) (hv : cs[i]? = some v)
    (h : wpList P ops Q rest (mk n ((d, v) :: E)) w) :
    wpList P ops Q (⟨some d, .index t x y, ty, pos, after, none⟩ :: rest) (mk n E) w :=
  op_val rfl rfl (r_index_cell hu hs he hr hx hy hz hi hv) h

/-! ### Literals -/
theorem fold_setFrom (off : Nat) : ∀ (vs : List Value) (j : Nat) (cs : List Value),
    (vs.zipIdx j).foldl (fun (cs : Array Value) (p : Value × Nat) => cs.setIfInBounds (off + p.2) p.1) cs.toArray = (setFrom cs (off + j) vs).toArray
  | [], _, _ => rfl
  | v :: r, j, cs => by
    simp only [List.zipIdx_cons, List.foldl_cons, setFrom]
    rw [show cs.toArray.setIfInBounds (off + j) v = (cs.set (off + j) v).toArray from by apply Array.ext'; simp]
    rw [fold_setFrom off r (j + 1)]
    rfl

theorem fill_cons {place : Nat → Option (Nat × Nat)} {cs vs : List Value} {i off size : Nat} {v : Value} {r : List (Nat × Value)} (hp : place i = some (off, size)) (hv : v.cells = vs.toArray) (hl : vs.length = size) (hfit : off + size ≤ cs.length) :
    Instr.fill place cs.toArray ((i, v) :: r) = Instr.fill place (setFrom cs off vs).toArray r := by
  rw [Instr.fill, hp]
  simp only [hv]
  have h1 : ¬ (vs.toArray.size ≠ size ∨ off + vs.toArray.size > cs.toArray.size) := by
    simp [hl]; omega
  have h2 : (decide (vs.toArray.size ≠ size) || decide (off + vs.toArray.size > cs.toArray.size)) = false := by
    simp [hl]; omega
  have hz : vs.toArray.zipIdx.foldl (fun (cs : Array Value) (p : Value × Nat) => cs.setIfInBounds (off + p.2) p.1) cs.toArray = (setFrom cs off vs).toArray := by
    rw [← Array.foldl_toList]
    simpa using fold_setFrom off vs 0 cs
  simp only [h2, Bool.false_eq_true, if_false]
  rw [← hz]

/-- The cells of a literal, part by part. -/
def fillL (pl : List (Nat × Nat)) : List Value → List (Nat × List Value) → List Value
  | cs, [] => cs
  | cs, (i, vs) :: r => fillL pl (setFrom cs ((pl[i]?).getD (0, 0)).1 vs) r

def fillOk (pl : List (Nat × Nat)) (len : Nat) : List (Nat × List Value) → Prop
  | [] => True
  | (i, vs) :: r => (∃ off, pl[i]? = some (off, vs.length) ∧ off + vs.length ≤ len) ∧ fillOk pl len r

theorem fill_all {pl : List (Nat × Nat)} : ∀ (parts : List (Nat × Value)) (vals : List (Nat × List Value)) (cs : List Value),
    parts.map (fun p => (p.1, p.2.cells.toList)) = vals → fillOk pl cs.length vals →
    Instr.fill (fun x => pl[x]?) cs.toArray parts = some (fillL pl cs vals).toArray
  | [], vals, cs, h, _ => by subst h; rfl
  | (i, v) :: r, vals, cs, h, hok => by
    subst h
    obtain ⟨⟨off, h1, h2⟩, hr⟩ := hok
    rw [fill_cons (vs := v.cells.toList) h1 (by simp) rfl h2]
    rw [fill_all r _ (setFrom cs off v.cells.toList) rfl (by rw [setFrom_length]; exact hr)]
    simp only [List.map_cons, fillL, h1, Option.getD_some]

/-- The places of a struct's fields, and its zero cells. -/
def placesOf (P : Program) (t : TypeId) : Option (List (Nat × Nat) × List Value) :=
  match P.underlying t, P.info? t with
  | some (.struct fs), some it => match it.zero, fs.toList.mapM (fun f => (P.info? f.type).map fun i => (f.offset, i.size)) with
    | some z, some pl => some (pl, z.cells.toList)
    | _, _ => none
  | _, _ => none

theorem r_build {t : TypeId} {parts : Array (Nat × Operand)} {pl : List (Nat × Nat)} {Z cs : List Value} {vals : List (Nat × List Value)} (hp : placesOf P t = some (pl, Z))
    (hv : parts.toList.map (fun p => (p.1, (ev n E p.2).cells.toList)) = vals) (hok : fillOk pl Z.length vals) (hcs : fillL pl Z vals = cs) :
    (execOp (ev n E) ⟨some d, .build t parts, ty, pos, after, none⟩).run P w = .ok (.value (.agg cs.toArray)) w :=
  (by
    show (do pure (.value (← Instr.build t (parts.map fun (i, x) => (i, ev n E x)))) : Sem Next).run P w = _
    have hb : P.built t (parts.map fun (i, x) => (i, ev n E x)).toList = some cs.toArray := by
      unfold placesOf at hp
      split at hp
      · rename_i fs it hu hi
        split at hp
        · rename_i z pl' hz hpl
          simp only [Option.some.injEq, Prod.mk.injEq] at hp
          obtain ⟨rfl, rfl⟩ := hp
          unfold Program.built
          simp only [hi, hu, hz, hpl]
          have := fill_all (pl := pl') (parts.toList.map fun (i, x) => (i, ev n E x)) vals z.cells.toList (by rw [← hv]; simp) hok
          simp only [Array.toArray_toList] at this
          rw [hcs] at this
          rw [← this]
          congr 1
          · funext x; simp
          · simp
        · cases hp
      · cases hp
    simp only [Sem.run_bind, run_build w t _ _ hb, Result.andThen_ok, Sem.run_pure])
theorem o_build {t : TypeId} {parts : Array (Nat × Operand)} {pl : List (Nat × Nat)} {Z cs : List Value} {vals : List (Nat × List Value)} (hp : placesOf P t = some (pl, Z))
    (hv : parts.toList.map (fun p => (p.1, (ev n E p.2).cells.toList)) = vals) (hok : fillOk pl Z.length vals) (hcs : fillL pl Z vals = cs)
    (h : wpList P ops Q rest (mk n ((d, .agg cs.toArray) :: E)) w) :
    wpList P ops Q (⟨some d, .build t parts, ty, pos, after, none⟩ :: rest) (mk n E) w :=
  op_val rfl rfl (r_build hp hv hok hcs) h

end
end Go.Sx
