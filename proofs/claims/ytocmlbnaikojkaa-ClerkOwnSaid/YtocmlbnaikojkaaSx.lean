/- A small frame of our own for walks: slots as a list, the world's blocks as assertions with footprints, one rule an operation. Nothing of a program stands here. -/
import Derived.WalkKit
import Derived.KernelRfl
import Derived.Deep.MidRow
import Derived.Deep.AppendLies
import Derived.WalkSpells
import Derived.Lib.Hide
namespace Go.Sx
open Go

/-! ### Slots -/
def lk : List (Nat × Value) → Nat → Value
  | [], _ => undef
  | (d, v) :: E, t => bif Nat.beq t d then v else lk E t

def mk (n : Nat) (E : List (Nat × Value)) : Act := { tmps := Array.ofFn (n := n) fun i => lk E i.1, defers := [] }

def ev (n : Nat) (E : List (Nat × Value)) : Operand → Value
  | .tmp t => bif Nat.blt t n then lk E t else undef
  | .const v => v
  | .global g => .pointer (some ⟨g, 0, none⟩)
  | .func f => .func (.func f) #[] #[]

theorem mk_get (n : Nat) (E : List (Nat × Value)) (t : Nat) : (mk n E).tmps.getD t undef = bif Nat.blt t n then lk E t else undef := by
  by_cases h : t < n
  · have : Nat.blt t n = true := by simpa [Nat.blt_eq] using h
    simp [mk, this, h]
  · have : Nat.blt t n = false := by rw [← Bool.not_eq_true, Nat.blt_eq]; exact h
    simp [mk, this, h]

theorem mk_eval (n : Nat) (E : List (Nat × Value)) : (mk n E).eval = ev n E := by
  funext x
  cases x with
  | tmp t => exact mk_get n E t
  | const v => rfl
  | global g => rfl
  | func f => rfl

theorem mk_put (n : Nat) (E : List (Nat × Value)) (d : Nat) (v : Value) : (mk n E).put (some d) v = mk n ((d, v) :: E) := by
  show (⟨(mk n E).tmps.setIfInBounds d v, []⟩ : Act) = _
  unfold mk
  congr 1
  apply Array.ext
  · simp
  · intro i h1 h2
    have h3 : i < n := by simpa using h2
    show ((Array.ofFn (n := n) fun i => lk E i.1).setIfInBounds d v)[i]'h1 = _
    rw [Array.getElem_setIfInBounds (by simpa using h3)]
    simp only [Array.getElem_ofFn, lk]
    by_cases h : d = i
    · subst h; simp
    · have : Nat.beq i d = false := by rw [← Bool.not_eq_true, Nat.beq_eq]; exact fun e => h e.symm
      simp [h, this]

theorem mk_put_none (n : Nat) (E : List (Nat × Value)) (v : Value) : (mk n E).put none v = mk n E := rfl

/-- What some slots hold. -/
def Has (E : List (Nat × Value)) : List (Nat × Value) → Prop
  | [] => True
  | (t, v) :: r => lk E t = v ∧ Has E r

theorem Has.lk_eq {E : List (Nat × Value)} : ∀ {K : List (Nat × Value)}, Has E K → ∀ t, lk (K ++ E) t = lk E t
  | [], _, _ => rfl
  | (d, v) :: r, h, t => by
    show (bif Nat.beq t d then v else lk (r ++ E) t) = _
    by_cases e : t = d
    · subst e
      simp [h.1]
    · have : Nat.beq t d = false := by rw [← Bool.not_eq_true, Nat.beq_eq]; exact e
      simp [this, Has.lk_eq h.2 t]

/-- Known slots may be written in front. -/
theorem Has.norm {n : Nat} {E K : List (Nat × Value)} (h : Has E K) : mk n E = mk n (K ++ E) := by
  unfold mk
  congr 1
  apply Array.ext
  · simp
  · intro i h1 h2
    simp [h.lk_eq]

/-! ### The rule for an operation -/
section
variable {P : Program} {ops : Array Oper} {Q : Exit → Act → World → Prop} {rest : List Oper} {n : Nat} {E : List (Nat × Value)} {w : World}

theorem op_val {o : Oper} {d : Nat} {v : Value} {w' : World} (hg : o.guard = none) (hd : o.dst = some d)
    (hr : (execOp (ev n E) o).run P w = .ok (.value v) w') (h : wpList P ops Q rest (mk n ((d, v) :: E)) w') :
    wpList P ops Q (o :: rest) (mk n E) w :=
  wpList_plain hg fun K hK => by
    unfold Oper.wp
    rw [mk_eval, hr]
    show K ((mk n E).put o.dst v) w'
    rw [hd, mk_put]
    exact hK _ _ h

theorem op_skip {o : Oper} {w' : World} (hg : o.guard = none) (hd : o.dst = none)
    (hr : (execOp (ev n E) o).run P w = .ok .skip w') (h : wpList P ops Q rest (mk n E) w') :
    wpList P ops Q (o :: rest) (mk n E) w :=
  wpList_plain hg fun K hK => by
    unfold Oper.wp
    rw [mk_eval, hr]
    show K ((mk n E).put o.dst undef) w'
    rw [hd]
    exact hK _ _ h

/-- An operation under a guard that says yes. -/
theorem op_guard {o : Oper} (hw : Region.wanted o (yielded ops (mk n E).tmps) = true)
    (h : wpList P ops Q ({ o with guard := none } :: rest) (mk n E) w) : wpList P ops Q (o :: rest) (mk n E) w := by
  unfold wpList at h ⊢
  rw [if_pos hw]
  rw [if_pos (by simp [Region.wanted])] at h
  rcases h with h | h
  · exact .inl h
  · exact .inr h

/-- An operation under a guard that says no. -/
theorem op_pass {o : Oper} {d : Nat} (hd : o.dst = some d) (hw : Region.wanted o (yielded ops (mk n E).tmps) = false)
    (h : wpList P ops Q rest (mk n ((d, undef) :: E)) w) : wpList P ops Q (o :: rest) (mk n E) w := by
  unfold wpList
  rw [if_neg (by simp [hw]), hd, mk_put]
  exact h

theorem yielded_mk {j t : Nat} {b : Bool} {o : Oper} (ho : ops[j]? = some o) (ht : o.dst = some t) (hb : ev n E (.tmp t) = .bool b) :
    yielded ops (mk n E).tmps j = some b := by
  have h1 : (mk n E).tmps.getD t undef = .bool b := (mk_get n E t).trans hb
  have h2 : (mk n E).tmps[t]? = some (.bool b) := by
    have h3 : ((mk n E).tmps[t]?).getD undef = .bool b := by rw [← Array.getD_eq_getD_getElem?]; exact h1
    cases h4 : (mk n E).tmps[t]? with
    | none => rw [h4] at h3; cases h3
    | some x => rw [h4] at h3; exact congrArg some h3
  unfold yielded
  simp only [ho, Option.bind_some, ht, h2]

theorem wanted_of {o : Oper} {y : Nat → Option Bool} {j : Nat} {want b : Bool} (hg : o.guard = some (j, want)) (hy : y j = some b) :
    Region.wanted o y = (b == want) := by
  simp only [Region.wanted, hg, hy]
  cases b <;> cases want <;> rfl

/-- The same two, where the operation stands written out. -/
theorem g_yes {dst : Option Tmp} {op : Op} {ty : TypeId} {pos : String} {after : Array Edge} {j t : Nat} {want b : Bool} {o' : Oper} (hj : ops[j]? = some o') (ht : o'.dst = some t) (hb : ev n E (.tmp t) = .bool b) (hw : (b == want) = true)
    (h : wpList P ops Q (⟨dst, op, ty, pos, after, none⟩ :: rest) (mk n E) w) : wpList P ops Q (⟨dst, op, ty, pos, after, some (j, want)⟩ :: rest) (mk n E) w :=
  op_guard (by rw [wanted_of (j := j) (want := want) rfl (yielded_mk hj ht hb)]; exact hw) h

theorem g_no {d : Nat} {op : Op} {ty : TypeId} {pos : String} {after : Array Edge} {j t : Nat} {want b : Bool} {o' : Oper} (hj : ops[j]? = some o') (ht : o'.dst = some t) (hb : ev n E (.tmp t) = .bool b) (hw : (b == want) = false)
    (h : wpList P ops Q rest (mk n ((d, undef) :: E)) w) : wpList P ops Q (⟨some d, op, ty, pos, after, some (j, want)⟩ :: rest) (mk n E) w :=
  op_pass rfl (by rw [wanted_of (j := j) (want := want) rfl (yielded_mk hj ht hb)]; exact hw) h

end

/-! ### A call -/
def Ret (P : Program) (f : Nat) (args : List Value) (w : World) (R : Value → World → Prop) : Prop :=
  Calls P f args.toArray w fun e w' => ∃ v, e = .returned v ∧ R v w'

theorem Ret.mono {P : Program} {f : Nat} {args : List Value} {w : World} {R R' : Value → World → Prop} (h : Ret P f args w R) (hr : ∀ v w', R v w' → R' v w') : Ret P f args w R' :=
  Calls.mono h fun _ _ ⟨v, e, r⟩ => ⟨v, e, hr v _ r⟩

/-- A function of the program that has a body. -/
def Enters (P : Program) (f : Nat) : Prop := ∀ (args : Array Value) (w : World), (callFunc f args).run P w = .ok (.enter f args) w

theorem enters {P : Program} {f : Nat} {fn : Func} (hf : P.funcs[f]? = some fn) (hn : (fn.name == "runtime.NumGoroutine") = false) (hb : fn.body.isNone = false) : Enters P f := by
  intro args w
  show ((match P.funcs[f]? with
    | none => stuck "call: no such function"
    | some fn => (if fn.name == "runtime.NumGoroutine" then pure .numGoroutine else if fn.body.isNone then _ else pure (.enter f args) : Sem Next)) : Sem Next).run P w = _
  rw [hf]
  simp only [hn, hb, Bool.false_eq_true, if_false]
  rfl

section
variable {P : Program} {ops : Array Oper} {Q : Exit → Act → World → Prop} {rest : List Oper} {n : Nat} {E : List (Nat × Value)} {w : World}

theorem op_enter {o : Oper} {d f : Nat} {args : List Value} {R : Value → World → Prop} (hg : o.guard = none) (hd : o.dst = some d)
    (hr : (execOp (ev n E) o).run P w = .ok (.enter f args.toArray) w) (hc : Ret P f args w R)
    (h : ∀ v w', R v w' → wpList P ops Q rest (mk n ((d, v) :: E)) w') :
    wpList P ops Q (o :: rest) (mk n E) w :=
  wpList_plain hg fun K hK => by
    unfold Oper.wp
    rw [mk_eval, hr]
    show Calls P f args.toArray w _
    refine Calls.mono hc ?_
    rintro e w' ⟨v, rfl, hR⟩
    show K ((mk n E).put o.dst v) w'
    rw [hd, mk_put]
    exact hK _ _ (h v w' hR)

/-- A call of a function that the text names. -/
theorem op_call {d f : Nat} {xs : List Operand} {ats : Array TypeId} {ty : TypeId} {pos : String} {after : Array Edge} {args : List Value} {R : Value → World → Prop}
    (hf : Enters P f) (ha : xs.map (ev n E) = args) (hc : Ret P f args w R)
    (h : ∀ v w', R v w' → wpList P ops Q rest (mk n ((d, v) :: E)) w') :
    wpList P ops Q (⟨some d, .call { callee := .value (.func f), args := xs.toArray, argTypes := ats }, ty, pos, after, none⟩ :: rest) (mk n E) w := by
  refine op_enter (f := f) (args := args) rfl rfl ?_ hc h
  show (callFunc f (#[] ++ xs.toArray.map (ev n E) ++ #[])).run P w = _
  rw [hf]
  subst ha
  simp only [Array.empty_append, Array.append_empty, List.map_toArray]

/-- A call through a function value of known make. -/
theorem op_call_val {d t f : Nat} {caps : List Value} {xs : List Operand} {ats : Array TypeId} {ty : TypeId} {pos : String} {after : Array Edge} {args : List Value} {R : Value → World → Prop}
    (hf : Enters P f) (hv : ev n E (.tmp t) = .func (.func f) #[] caps.toArray) (ha : xs.map (ev n E) ++ caps = args) (hc : Ret P f args w R)
    (h : ∀ v w', R v w' → wpList P ops Q rest (mk n ((d, v) :: E)) w') :
    wpList P ops Q (⟨some d, .call { callee := .value (.tmp t), args := xs.toArray, argTypes := ats }, ty, pos, after, none⟩ :: rest) (mk n E) w := by
  refine op_enter (f := f) (args := args) rfl rfl ?_ hc h
  have : (execOp (ev n E) ⟨some d, .call { callee := .value (.tmp t), args := xs.toArray, argTypes := ats }, ty, pos, after, none⟩) =
      callFunc f (#[] ++ xs.toArray.map (ev n E) ++ caps.toArray) := by
    show (do let d ← resolve (ev n E) _ ty; invoke d.target d.args) = _
    unfold resolve
    simp only [hv]
    rfl
  rw [this, hf]
  subst ha
  congr 2
  apply Array.ext'
  simp

end
end Go.Sx

namespace Go.Sx
/-! ### Code -/
section
variable {P : Program} {Q : Exit → Act → World → Prop} {n : Nat} {E : List (Nat × Value)} {w : World}

def E0 : Nat → List Value → List (Nat × Value)
  | _, [] => []
  | i, v :: r => (i, v) :: E0 (i + 1) r

theorem lk_E0 : ∀ (l : List Value) (i t : Nat), lk (E0 i l) t = if i ≤ t then l.getD (t - i) undef else undef
  | [], i, t => by simp [E0, lk]
  | v :: r, i, t => by
    show (bif Nat.beq t i then v else lk (E0 (i + 1) r) t) = _
    rw [lk_E0 r (i + 1) t]
    by_cases e : t = i
    · subst e
      simp
    · have : Nat.beq t i = false := by rw [← Bool.not_eq_true, Nat.beq_eq]; exact e
      rw [this, cond_false]
      by_cases hlt : i + 1 ≤ t
      · rw [if_pos hlt, if_pos (by omega), show t - i = (t - (i + 1)) + 1 from by omega]
        simp
      · rw [if_neg hlt, if_neg (by omega)]

theorem enter {f : Nat} {fn : Func} {c : Code} {args : List Value} {R : Value → World → Prop} (hf : P.funcs[f]? = some fn) (hb : fn.body = some c) (hn : fn.ntmps = n) (hl : args.length ≤ n)
    (h : c.wp P (bodyPost P fn fun e w' => ∃ v, e = .returned v ∧ R v w') (mk n (E0 0 args)) w) : Ret P f args w R := by
  refine calls_of_wp hf hb ?_
  have : ({ tmps := args.toArray ++ Array.replicate (fn.ntmps - args.toArray.size) undef, defers := [] } : Act) = mk n (E0 0 args) := by
    unfold mk
    congr 1
    apply Array.ext
    · simp [hn]; omega
    · intro i h1 h2
      rw [Array.getElem_ofFn, lk_E0]
      simp only [Nat.zero_le, if_true, Nat.sub_zero]
      by_cases hi : i < args.length
      · rw [Array.getElem_append_left (by simpa using hi)]
        simp [hi]
      · rw [Array.getElem_append_right (by simpa using hi)]
        simp [Nat.not_lt.1 hi]
  rw [this]
  exact h

theorem cond_t {c : Operand} {x y : Code} (hc : ev n E c = .bool true) (h : x.wp P Q (mk n E) w) : (Code.cond c x y).wp P Q (mk n E) w :=
  wp_cond_true (by rw [mk_eval]; exact hc) h
theorem cond_f {c : Operand} {x y : Code} (hc : ev n E c = .bool false) (h : y.wp P Q (mk n E) w) : (Code.cond c x y).wp P Q (mk n E) w :=
  wp_cond_false (by rw [mk_eval]; exact hc) h

/-- A loop: the relation bears a number that every round lowers. -/
theorem loop {c : Code} (I : Nat → List (Nat × Value) → World → Prop) {m0 : Nat} (h0 : I m0 E w)
    (round : ∀ m E w, I m E w → c.wp P (Exit.then (fun a' w' => ∃ m' E', m' < m ∧ a' = mk n E' ∧ I m' E' w') Q) (mk n E) w) : (Code.loop c).wp P Q (mk n E) w := by
  intro b k cs
  have key : ∀ m E w, I m E w →
      ∃ e a' w', Q e a' w' ∧ Arrives P (lone (b.at (mk n E) (.code c :: .inLoop c :: k)) cs w) b k cs e a' w' := by
    intro m
    induction m using Nat.strongRecOn with
    | _ m ih =>
      intro E w hI
      obtain ⟨e, a₁, w₁, hq, harr⟩ := round m E w hI b (.inLoop c :: k) cs
      cases e with
      | normal =>
        obtain ⟨m', E', hlt, rfl, hI₁⟩ := hq
        obtain ⟨e₂, a₂, w₂, hq₂, harr₂⟩ := ih m' hlt E' w₁ hI₁
        exact ⟨e₂, a₂, w₂, hq₂, .of_steps (Steps.trans harr (.one step_inLoop)) harr₂⟩
      | exit id => exact ⟨_, a₁, w₁, hq, .pass (x := .inLoop c) rfl (fun _ _ => .inl (by simp)) harr⟩
      | goto l => exact ⟨_, a₁, w₁, hq, .pass (x := .inLoop c) rfl (fun _ _ => .inl (by simp)) harr⟩
      | ret => exact ⟨_, a₁, w₁, hq, .pass (x := .inLoop c) rfl (fun _ _ => .inl (by simp)) harr⟩
      | panic ch => exact ⟨_, a₁, w₁, hq, .pass (x := .inLoop c) rfl (fun _ _ => .inl (by simp)) harr⟩
      | outgrown => exact ⟨_, a₁, w₁, hq, .pass (x := .inLoop c) rfl (fun _ _ => .inl (by simp)) harr⟩
  obtain ⟨e, a', w', hq, harr⟩ := key m0 E w h0
  exact ⟨e, a', w', hq, .of_steps (.one step_loop) harr⟩

theorem ret_tmp {fn : Func} {t : Tmp} {v : Value} {R : Value → World → Prop} (hr : fn.results = #[.tmp t]) (hv : ev n E (.tmp t) = v) (h : R v w) :
    bodyPost P fn (fun e w' => ∃ v, e = .returned v ∧ R v w') .ret (mk n E) w :=
  bodyPost_ret (results_tmp hr _ _ _) rfl ⟨v, by rw [← hv]; exact congrArg _ (mk_get n E t), h⟩

theorem end_none {fn : Func} {R : Value → World → Prop} (hr : fn.results = #[]) (h : R (.tuple #[]) w) :
    bodyPost P fn (fun e w' => ∃ v, e = .returned v ∧ R v w') .normal (mk n E) w :=
  bodyPost_end (results_none hr _ _ _) rfl ⟨_, rfl, h⟩

theorem ret_none {fn : Func} {R : Value → World → Prop} (hr : fn.results = #[]) (h : R (.tuple #[]) w) :
    bodyPost P fn (fun e w' => ∃ v, e = .returned v ∧ R v w') .ret (mk n E) w :=
  bodyPost_ret (results_none hr _ _ _) rfl ⟨_, rfl, h⟩

theorem ret_tmp2 {fn : Func} {t u : Tmp} {v1 v2 : Value} {R : Value → World → Prop} (hr : fn.results = #[.tmp t, .tmp u]) (hv : ev n E (.tmp t) = v1) (hu : ev n E (.tmp u) = v2) (h : R (.tuple #[v1, v2]) w) :
    bodyPost P fn (fun e w' => ∃ v, e = .returned v ∧ R v w') .ret (mk n E) w :=
  bodyPost_ret (results_tmp2 hr _ _ _) rfl ⟨_, by
    have h1 := mk_get n E t
    have h2 := mk_get n E u
    have h3 : ev n E (.tmp t) = (mk n E).tmps.getD t undef := h1.symm
    have h4 : ev n E (.tmp u) = (mk n E).tmps.getD u undef := h2.symm
    rw [← h3, ← h4, hv, hu], h⟩

/-- A result that lies in a variable of its own. -/
theorem ret_cell {fn : Func} {p : Tmp} {ty : TypeId} {g : Nat} {t : TypeId} {cs : List Value} {d : TypeDesc} {R : Value → World → Prop} (hr : fn.results = #[.cell p ty])
    (hv : ev n E (.tmp p) = .pointer (some ⟨g, 0, none⟩)) (hg : w.heap[g]? = some (.cells cs.toArray t (0, 0))) (hu : P.underlying ty = some d) (hd : d.isRow = true)
    (hi : (P.info? ty).map (·.size) = some cs.length) (h : R (.agg cs.toArray) w) :
    bodyPost P fn (fun e w' => ∃ v, e = .returned v ∧ R v w') .ret (mk n E) w :=
  bodyPost_ret (v := .agg cs.toArray) (results_cell_row hr _ w g t cs.toArray (0, 0) d ((mk_get n E p).trans hv) hg hu (by cases d <;> simp_all) (by simpa using hi)) rfl ⟨_, rfl, h⟩

end

/-! ### Ways out -/
section
variable {K : Act → World → Prop} {Q : Exit → Act → World → Prop} {a : Act} {w : World}
theorem then_normal (h : K a w) : Exit.then K Q .normal a w := h
theorem then_ret (h : Q .ret a w) : Exit.then K Q .ret a w := h
theorem then_exit {i : Nat} (h : Q (.exit i) a w) : Exit.then K Q (.exit i) a w := h
theorem blk_normal {i : Nat} (h : Q .normal a w) : Exit.inBlock i Q .normal a w := h
theorem blk_ret {i : Nat} (h : Q .ret a w) : Exit.inBlock i Q .ret a w := h
theorem blk_exit {i : Nat} (h : Q .normal a w) : Exit.inBlock i Q (.exit i) a w := by
  show (if i = i then Q .normal a w else Q (.exit i) a w)
  rw [if_pos rfl]; exact h
theorem blk_other {i j : Nat} (hne : j ≠ i) (h : Q (.exit j) a w) : Exit.inBlock i Q (.exit j) a w := by
  show (if j = i then Q .normal a w else Q (.exit j) a w)
  rw [if_neg hne]; exact h
end

/-! ### Assertions on blocks -/
def hp (w : World) : Nat → Option Obj := fun k => w.heap[k]?

/-- What has changed from w to w': new blocks, and at most the blocks of F. -/
structure Ch (w w' : World) (F : Nat → Prop) : Prop where
  os : w'.os = w.os
  tape : w'.tape = w.tape
  output : w'.output = w.output
  size : w.heap.size ≤ w'.heap.size
  same : ∀ k, k < w.heap.size → ¬ F k → w'.heap[k]? = w.heap[k]?

abbrev none' : Nat → Prop := fun _ => False

theorem Ch.refl (w : World) (F : Nat → Prop) : Ch w w F := ⟨rfl, rfl, rfl, Nat.le_refl _, fun _ _ _ => rfl⟩
theorem Ch.trans {w w1 w2 : World} {F G H : Nat → Prop} (h : Ch w w1 F) (k : Ch w1 w2 G) (hF : ∀ i, F i → H i) (hG : ∀ i, i < w.heap.size → G i → H i) : Ch w w2 H :=
  ⟨k.os.trans h.os, k.tape.trans h.tape, k.output.trans h.output, Nat.le_trans h.size k.size, fun i hi hn =>
    (k.same i (Nat.lt_of_lt_of_le hi h.size) (fun g => hn (hG i hi g))).trans (h.same i hi (fun f => hn (hF i f)))⟩
theorem Ch.mono {w w1 : World} {F G : Nat → Prop} (h : Ch w w1 F) (hF : ∀ i, i < w.heap.size → F i → G i) : Ch w w1 G :=
  ⟨h.os, h.tape, h.output, h.size, fun i hi hn => h.same i hi (fun f => hn (hF i hi f))⟩
theorem Ch.drew (w : World) (F : Nat → Prop) : Ch w w.drew F := ⟨rfl, rfl, rfl, Nat.le_refl _, fun _ _ _ => rfl⟩
theorem Ch.alloc (w : World) (o : Obj) (F : Nat → Prop) : Ch w (w.alloc o) F := ⟨rfl, rfl, rfl, by simp, fun k hk _ => Go.RowKit.Below.heap_alloc w o k hk⟩
theorem Ch.fresh {w w1 w2 : World} {F : Nat → Prop} (h : Ch w w1 F) (k : Ch w1 w2 none') : Ch w w2 F := h.trans k (fun _ f => f) (fun _ _ f => f.elim)
theorem Ch.below {w w1 : World} (h : Ch w w1 none') : Go.RowKit.Below w.heap.size w w1 := ⟨h.os, h.tape, h.output, h.size, fun k hk => h.same k hk (fun f => f)⟩
theorem Ch.of_grown {w w1 : World} {row : Option Nat} (h : w.grownBy w1 row) : Ch w w1 (fun k => some k = row) := ⟨h.os, h.tape, h.output, h.size, fun k hk hn => h.block k hk hn⟩

structure Asrt where
  fp : Nat → Prop
  ok : (Nat → Option Obj) → Prop
  loc : ∀ {h h' : Nat → Option Obj}, (∀ k, fp k → h' k = h k) → ok h → ok h'

/-- One block, known whole. -/
def pt (b : Nat) (cs : List Value) (e : TypeId) : Asrt :=
  ⟨fun k => k = b, fun h => h b = some (.cells cs.toArray e (0, 0)), fun hs h => (hs _ rfl).trans h⟩

/-- The state of a walk: what has changed since w0, and what is known. -/
structure St (w0 w : World) (S : Nat → Prop) (L : List Asrt) : Prop where
  ch : Ch w0 w S
  ok : ∀ A ∈ L, A.ok (hp w)
  lt : ∀ A ∈ L, ∀ k, A.fp k → k < w.heap.size
  own : ∀ A ∈ L, ∀ k, A.fp k → w0.heap.size ≤ k ∨ S k
  dis : L.Pairwise fun A B => ∀ k, A.fp k → ¬ B.fp k

theorem St.start (w : World) (S : Nat → Prop) : St w w S [] :=
  ⟨Ch.refl w S, fun _ h => (List.not_mem_nil h).elim, fun _ h => (List.not_mem_nil h).elim, fun _ h => (List.not_mem_nil h).elim, List.Pairwise.nil⟩

section
variable {w0 w w' : World} {S : Nat → Prop} {L : List Asrt}

/-- New blocks, new facts on them; all else is as it was. -/
theorem St.fresh (st : St w0 w S L) (ch : Ch w w' none') {N : List Asrt} (hok : ∀ A ∈ N, A.ok (hp w')) (hfp : ∀ A ∈ N, ∀ k, A.fp k → w.heap.size ≤ k ∧ k < w'.heap.size)
    (hdis : N.Pairwise fun A B => ∀ k, A.fp k → ¬ B.fp k) : St w0 w' S (N ++ L) where
  ch := st.ch.fresh ch
  ok := fun A hA => by
    rcases List.mem_append.1 hA with h | h
    · exact hok A h
    · exact A.loc (fun k hk => ch.same k (st.lt A h k hk) (fun f => f)) (st.ok A h)
  lt := fun A hA k hk => by
    rcases List.mem_append.1 hA with h | h
    · exact (hfp A h k hk).2
    · exact Nat.lt_of_lt_of_le (st.lt A h k hk) ch.size
  own := fun A hA k hk => by
    rcases List.mem_append.1 hA with h | h
    · exact .inl (Nat.le_trans st.ch.size (hfp A h k hk).1)
    · exact st.own A h k hk
  dis := List.pairwise_append.2 ⟨hdis, st.dis, fun A hA B hB k hk hk' => by
    have h1 := (hfp A hA k hk).1
    have h2 := st.lt B hB k hk'
    omega⟩

theorem St.drew (st : St w0 w S L) : St w0 w.drew S L :=
  st.fresh (N := []) (Ch.drew w _) (fun _ h => (List.not_mem_nil h).elim) (fun _ h => (List.not_mem_nil h).elim) List.Pairwise.nil

theorem St.keep (st : St w0 w S L) (ch : Ch w w' none') : St w0 w' S L :=
  st.fresh (N := []) ch (fun _ h => (List.not_mem_nil h).elim) (fun _ h => (List.not_mem_nil h).elim) List.Pairwise.nil

/-- One new fact. -/
theorem St.new (st : St w0 w S L) (ch : Ch w w' none') (A : Asrt) (hok : A.ok (hp w')) (hfp : ∀ k, A.fp k → w.heap.size ≤ k ∧ k < w'.heap.size) : St w0 w' S (A :: L) :=
  st.fresh (N := [A]) ch (fun B h => by rw [List.mem_singleton.1 h]; exact hok) (fun B h => by rw [List.mem_singleton.1 h]; exact hfp) (List.pairwise_singleton _ _)

theorem St.alloc (st : St w0 w S L) (cs : List Value) (e : TypeId) : St w0 (w.alloc (.cells cs.toArray e)) S (pt w.heap.size cs e :: L) :=
  st.new (Ch.alloc w _ _) _ (heap_alloc_new w _) (fun k hk => by rw [show k = w.heap.size from hk]; simp)

theorem St.get (st : St w0 w S L) (i : Nat) {A : Asrt} (h : L[i]? = some A) : A.ok (hp w) := st.ok A (List.mem_of_getElem? h)

theorem St.blk (st : St w0 w S L) (i : Nat) {b : Nat} {cs : List Value} {e : TypeId} (h : L[i]? = some (pt b cs e)) : w.heap[b]? = some (.cells cs.toArray e (0, 0)) := st.get i h

theorem St.cell (st : St w0 w S L) (i : Nat) {b : Nat} {cs : List Value} {e : TypeId} (h : L[i]? = some (pt b cs e)) (o : Nat) {v : Value} (hv : cs[o]? = some v) : w.cell? ⟨b, o, none⟩ = some v := by
  rw [cell_of_row w b o cs.toArray e (0, 0) (st.blk i h)]
  simpa using hv

theorem St.range (st : St w0 w S L) (i : Nat) {b : Nat} {cs : List Value} {e : TypeId} (h : L[i]? = some (pt b cs e)) (o : Nat) {vs : List Value} (hv : (cs.drop o).take vs.length = vs) : w.rangeAt b o vs := fun j v hj => by
  refine st.cell i h (o + j) ?_
  have hj' : j < vs.length := (List.getElem?_eq_some_iff.1 hj).1
  rw [← hv] at hj
  rw [List.getElem?_take] at hj
  rw [if_pos hj', List.getElem?_drop] at hj
  exact hj

theorem St.lt_of (st : St w0 w S L) (i : Nat) {A : Asrt} (h : L[i]? = some A) {k : Nat} (hk : A.fp k) : k < w.heap.size := st.lt A (List.mem_of_getElem? h) k hk

theorem St.new_of (st : St w0 w S L) (i : Nat) {A : Asrt} (h : L[i]? = some A) {k : Nat} (hk : A.fp k) : w0.heap.size ≤ k ∨ S k := st.own A (List.mem_of_getElem? h) k hk

/-- The i-th fact turns: only its blocks, and new ones. -/
theorem St.turn (st : St w0 w S L) (i : Nat) {A : Asrt} (h : L[i]? = some A) (ch : Ch w w' A.fp) (B : Asrt) (hok : B.ok (hp w')) (hfp : ∀ k, B.fp k → A.fp k ∨ (w.heap.size ≤ k ∧ k < w'.heap.size)) : St w0 w' S (L.set i B) := by
  have hi : i < L.length := (List.getElem?_eq_some_iff.1 h).1
  have hA : L[i] = A := (List.getElem?_eq_some_iff.1 h).2
  have hother : ∀ j (hj : j < L.length), j ≠ i → ∀ k, L[j].fp k → ¬ A.fp k := fun j hj hne k hk hk' => by
    rcases Nat.lt_or_gt_of_ne hne with hlt | hgt
    · exact List.pairwise_iff_getElem.1 st.dis j i hj hi hlt k hk (hA ▸ hk')
    · exact List.pairwise_iff_getElem.1 st.dis i j hi hj hgt k (hA ▸ hk') hk
  refine ⟨st.ch.trans ch (fun _ f => f) (fun k hk f => (st.new_of i h f).resolve_left (by omega)), ?_, ?_, ?_, ?_⟩
  · intro C hC
    obtain ⟨j, hj, rfl⟩ := List.mem_iff_getElem.1 hC
    rw [List.getElem_set]
    split
    · exact hok
    · rename_i hne
      have hj' : j < L.length := by simpa using hj
      exact L[j].loc (fun k hk => ch.same k (st.lt _ (List.getElem_mem hj') k hk) (hother j hj' (fun e => hne e.symm) k hk)) (st.ok _ (List.getElem_mem hj'))
  · intro C hC k hk
    obtain ⟨j, hj, rfl⟩ := List.mem_iff_getElem.1 hC
    rw [List.getElem_set] at hk
    split at hk
    · rcases hfp k hk with h' | h'
      · exact Nat.lt_of_lt_of_le (st.lt_of i h h') ch.size
      · exact h'.2
    · have hj' : j < L.length := by simpa using hj
      exact Nat.lt_of_lt_of_le (st.lt _ (List.getElem_mem hj') k hk) ch.size
  · intro C hC k hk
    obtain ⟨j, hj, rfl⟩ := List.mem_iff_getElem.1 hC
    rw [List.getElem_set] at hk
    split at hk
    · rcases hfp k hk with h' | h'
      · exact st.new_of i h h'
      · exact .inl (Nat.le_trans st.ch.size h'.1)
    · have hj' : j < L.length := by simpa using hj
      exact st.own _ (List.getElem_mem hj') k hk
  · refine List.pairwise_iff_getElem.2 fun a b ha hb hab k hk hk' => ?_
    rw [List.getElem_set] at hk hk'
    have ha' : a < L.length := by simpa using ha
    have hb' : b < L.length := by simpa using hb
    split at hk
    · rename_i e1
      rw [if_neg (by omega)] at hk'
      rcases hfp k hk with h' | h'
      · exact hother b hb' (by omega) k hk' h'
      · have := st.lt _ (List.getElem_mem hb') k hk'
        omega
    · rename_i e1
      split at hk'
      · rcases hfp k hk' with h' | h'
        · exact hother a ha' (fun e => e1 e.symm) k hk h'
        · have := st.lt _ (List.getElem_mem ha') k hk
          omega
      · exact List.pairwise_iff_getElem.1 st.dis a b ha' hb' hab k hk hk'

/-- A fact is let go. -/
theorem St.drop (st : St w0 w S L) {M : List Asrt} (h : M.Sublist L) : St w0 w S M :=
  ⟨st.ch, fun A hA => st.ok A (h.subset hA), fun A hA => st.lt A (h.subset hA), fun A hA => st.own A (h.subset hA), st.dis.sublist h⟩

/-- What stood at the start, outside S, stands. -/
theorem St.old (st : St w0 w S L) {A : Asrt} (h : A.ok (hp w0)) (hfp : ∀ k, A.fp k → k < w0.heap.size ∧ ¬ S k) : A.ok (hp w) :=
  A.loc (fun k hk => st.ch.same k (hfp k hk).1 (hfp k hk).2) h
end

/-- A store of one cell into a known block. -/
theorem Ch.setCell (w : World) (b o : Nat) (v : Value) : Ch w (w.setCell ⟨b, o, none⟩ v) (fun k => k = b) :=
  ⟨rfl, rfl, rfl, by simp, fun k _ hn => heap_setCell_other w ⟨b, o, none⟩ k v hn⟩

theorem hp_setCell {w : World} {b : Nat} {cs : List Value} {e : TypeId} (o : Nat) (v : Value) (h : w.heap[b]? = some (.cells cs.toArray e (0, 0))) :
    (w.setCell ⟨b, o, none⟩ v).heap[b]? = some (.cells (cs.set o v).toArray e (0, 0)) := by
  rw [setCell_eq_setRow w b o cs.toArray e (0, 0) v h, setRow_heap w b cs.toArray _ e (0, 0) h]
  congr 2
  apply Array.ext'
  simp

theorem setCells_ch (b : Nat) : ∀ (vs : List Value) (o : Nat) (w : World), Ch w (w.setCells b o vs) (fun k => k = b)
  | [], _, w => Ch.refl w _
  | v :: r, o, w => (Ch.setCell w b o v).trans (setCells_ch b r (o + 1) (w.setCell ⟨b, o, none⟩ v)) (fun _ h => h) (fun _ _ h => h)

/-- Several cells of a list set. -/
def setFrom (cs : List Value) (o : Nat) : List Value → List Value
  | [] => cs
  | v :: r => setFrom (cs.set o v) (o + 1) r

theorem hp_setCells {b : Nat} {e : TypeId} : ∀ (vs : List Value) (o : Nat) (cs : List Value) (w : World), w.heap[b]? = some (.cells cs.toArray e (0, 0)) →
    (w.setCells b o vs).heap[b]? = some (.cells (setFrom cs o vs).toArray e (0, 0))
  | [], _, _, _, h => h
  | v :: r, o, cs, _, h => hp_setCells r (o + 1) (cs.set o v) _ (hp_setCell o v h)

theorem setFrom_length : ∀ (vs cs : List Value) (o : Nat), (setFrom cs o vs).length = cs.length
  | [], _, _ => rfl
  | v :: r, cs, o => by rw [setFrom, setFrom_length r]; simp

theorem setFrom_eq : ∀ (vs cs : List Value) (o : Nat), o + vs.length ≤ cs.length → setFrom cs o vs = cs.take o ++ vs ++ cs.drop (o + vs.length)
  | [], cs, o, _ => by simp [setFrom]
  | v :: r, cs, o, h => by
    simp only [List.length_cons] at h
    rw [setFrom, setFrom_eq r (cs.set o v) (o + 1) (by simp; omega)]
    have h1 : (cs.set o v).take (o + 1) = cs.take o ++ [v] := by
      rw [List.take_succ_eq_append_getElem (by simp; omega)]
      simp [List.take_set_of_le]
    have h2 : (cs.set o v).drop (o + 1 + r.length) = cs.drop (o + (v :: r).length) := by
      rw [List.drop_set_of_lt (by omega)]
      congr 1
      simp only [List.length_cons]
      omega
    rw [h1, h2]
    simp

theorem setFrom_full {cs vs : List Value} (h : vs.length = cs.length) : setFrom cs 0 vs = vs := by
  rw [setFrom_eq vs cs 0 (by omega)]
  simp [h]

end Go.Sx
