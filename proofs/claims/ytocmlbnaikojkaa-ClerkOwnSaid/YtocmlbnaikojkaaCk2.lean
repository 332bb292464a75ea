/- ClerkOwn: what a list of wishes is, and plain laws on it. -/
import Derived.Test.YtocmlbnaikojkaaCk1
import Derived.Test.YtocmlbnaikojkaaSe
namespace Go.Proofs.Ytocmlbnaikojkaa
open Go Go.Sx

def ks40 : List SK := [.i .i64, .i .u64, .i .u64, .i .i64, .i .u64] ++ List.replicate 32 (.i .u8) ++ [.i .u64, .i .u64]
def ks81 : List SK := [.i .u32, .i .u64, .i .u64]
theorem flat40 : flatK Try.prog 10 40 = some ks40 := by kernel_rfl
theorem flat81 : flatK Try.prog 10 81 = some ks81 := by kernel_rfl
theorem guard40 : Try.prog.eqGuardType Try.prog.depth 40 = false := by kernel_rfl
theorem guard81 : Try.prog.eqGuardType Try.prog.depth 81 = false := by kernel_rfl
theorem row40 : isRowT Try.prog 40 = true := by kernel_rfl
theorem row81 : isRowT Try.prog 81 = true := by kernel_rfl

/-- A wish: its operation's cells; its trail, of so many hops, with these cells. -/
structure Wish where
  op : List Value
  tr : Value
  n : Nat
  cs : List Value

def flat (D : List Wish) : List Value := (D.map fun x => x.op ++ [x.tr]).flatten

structure OkW (x : Wish) : Prop where
  op : fitsAll ks40 x.op = true
  n : x.n ≤ 20
  cs : fitsAll (List.replicate x.n ks81).flatten x.cs = true
  one : x.tr.oneCell' = true

theorem OkW.len {x : Wish} (h : OkW x) : x.op.length = 39 := fitsAll_length h.op
theorem OkW.clen {x : Wish} (h : OkW x) : x.cs.length = x.n * 3 := by rw [fitsAll_length h.cs]; simp [ks81]
theorem OkW.ones {x : Wish} (h : OkW x) : ∀ u ∈ x.op ++ [x.tr], u.oneCell' = true := by
  intro u hu
  rcases List.mem_append.1 hu with hu | hu
  · exact fitsAll_one h.op u hu
  · rw [List.mem_singleton.1 hu]; exact h.one

/-- What is the same of two lists that are alike. -/
def dat (D : List Wish) : List (List Value × Nat × List Value) := D.map fun x => (x.op, x.n, x.cs)

def FP (v : Value) (D : List Wish) (F : Nat → Prop) : Prop := (∀ k, v.ownBlock = some k → F k) ∧ ∀ x ∈ D, ∀ k, x.tr.ownBlock = some k → F k

/-- A list of wishes that is read. -/
structure WS (w : World) (v : Value) (D : List Wish) : Prop where
  rd : Rd w v D.length (flat D) 40
  each : ∀ x ∈ D, OkW x ∧ Rd w x.tr x.n x.cs 3

theorem WS.keep {w w' : World} {v : Value} {D : List Wish} {F : Nat → Prop} (h : WS w v D) (ch : Ch w w' F) (hF : FP v D fun k => ¬ F k) : WS w' v D :=
  ⟨h.rd.keep ch hF.1, fun x hx => ⟨(h.each x hx).1, (h.each x hx).2.keep ch (hF.2 x hx)⟩⟩

theorem WS.fresh {w w' : World} {v : Value} {D : List Wish} (h : WS w v D) (ch : Ch w w' none') : WS w' v D :=
  h.keep ch ⟨fun _ _ f => f, fun _ _ _ _ f => f⟩

/-- A list of wishes of the call's own. -/
structure WO (w : World) (v : Value) (D : List Wish) (F : Nat → Prop) : Prop where
  row : (row v D.length (flat D) 43 40).ok (hp w)
  each : ∀ x ∈ D, OkW x ∧ (Sx.row x.tr x.n x.cs 81 3).ok (hp w)
  fp : FP v D F

theorem WO.ws {w : World} {v : Value} {D : List Wish} {F : Nat → Prop} (h : WO w v D F) : WS w v D := by
  refine ⟨row_rd h.row ?_, fun x hx => ⟨(h.each x hx).1, row_rd (h.each x hx).2 (fitsAll_one (h.each x hx).1.cs)⟩⟩
  intro u hu
  obtain ⟨l, hl, hu⟩ := List.mem_flatten.1 hu
  obtain ⟨x, hx, rfl⟩ := List.mem_map.1 hl
  exact (h.each x hx).1.ones u hu

theorem WO.keep {w w' : World} {v : Value} {D : List Wish} {F G : Nat → Prop} (h : WO w v D F) (ch : Ch w w' G) (hlt : ∀ k, F k → k < w.heap.size) (hF : ∀ k, F k → ¬ G k) : WO w' v D F :=
  ⟨(Sx.row _ _ _ _ _).loc (fun k hk => ch.same k (hlt k (h.fp.1 k hk)) (hF k (h.fp.1 k hk))) h.row,
   fun x hx => ⟨(h.each x hx).1, (Sx.row _ _ _ _ _).loc (fun k hk => ch.same k (hlt k (h.fp.2 x hx k hk)) (hF k (h.fp.2 x hx k hk))) (h.each x hx).2⟩, h.fp⟩

theorem WO.mono {w : World} {v : Value} {D : List Wish} {F G : Nat → Prop} (h : WO w v D F) (hF : ∀ k, F k → G k) : WO w v D G :=
  ⟨h.row, h.each, fun k hk => hF k (h.fp.1 k hk), fun x hx k hk => hF k (h.fp.2 x hx k hk)⟩

/-! ### Numbers in a flat list -/
theorem flat_length {D : List Wish} (h : ∀ x ∈ D, x.op.length = 39) : (flat D).length = D.length * 40 := by
  induction D with
  | nil => rfl
  | cons x r ih =>
    have h1 := h x (by simp)
    have h2 := ih fun y hy => h y (by simp [hy])
    unfold flat at h2 ⊢
    simp only [List.map_cons, List.flatten_cons, List.length_append, List.length_cons, List.length_nil, h1, h2]
    omega

theorem flat_drop {D : List Wish} (h : ∀ x ∈ D, x.op.length = 39) : ∀ i, (flat D).drop (i * 40) = flat (D.drop i) := by
  induction D with
  | nil => intro i; simp [flat]
  | cons x r ih =>
    intro i
    cases i with
    | zero => simp
    | succ i =>
      have h1 := h x (by simp)
      have h2 := ih (fun y hy => h y (by simp [hy])) i
      rw [List.drop_succ_cons, ← h2]
      unfold flat
      simp only [List.map_cons, List.flatten_cons]
      rw [show (i + 1) * 40 = (x.op ++ [x.tr]).length + i * 40 from by simp [h1]; omega, ← List.drop_drop, List.drop_left]

theorem flat_at {D : List Wish} (h : ∀ x ∈ D, x.op.length = 39) {i : Nat} {x : Wish} (hx : D[i]? = some x) : ((flat D).drop (i * 40)).take 40 = x.op ++ [x.tr] := by
  have hm := List.mem_of_getElem? hx
  rw [flat_drop h i]
  have hi : i < D.length := (List.getElem?_eq_some_iff.1 hx).1
  have he : D[i] = x := (List.getElem?_eq_some_iff.1 hx).2
  rw [List.drop_eq_getElem_cons hi, he]
  unfold flat
  simp only [List.map_cons, List.flatten_cons]
  rw [show (40 : Nat) = (x.op ++ [x.tr]).length from by simp [h x hm], List.take_left]

theorem WS.range {w : World} {v : Value} {D : List Wish} {b o m c : Nat} (h : WS w v D) (hv : v = .slice (some ⟨b, o, none⟩) m c) {i : Nat} {x : Wish} (hx : D[i]? = some x) : w.rangeAt b (o + i * 40) (x.op ++ [x.tr]) := by
  obtain ⟨h1, h2, A, c', e, h3, h4, h5⟩ := h.rd
  rw [hv] at e
  injection e with e1 e2 e3
  subst e1
  have hi : i < D.length := (List.getElem?_eq_some_iff.1 hx).1
  have hr := (h5 _ rfl (by omega)).2
  intro j u hu
  have hj : j < (x.op ++ [x.tr]).length := (List.getElem?_eq_some_iff.1 hu).1
  rw [← flat_at (fun y hy => (h.each y hy).1.len) hx, List.getElem?_take] at hu
  split at hu
  · rw [List.getElem?_drop] at hu
    have := hr (i * 40 + j) u hu
    rw [Nat.add_assoc]
    exact this
  · cases hu

/-- What a list's value looks like where something is in it. -/
theorem WS.form {w : World} {v : Value} {D : List Wish} (h : WS w v D) (h0 : 0 < D.length) : ∃ b o c, v = .slice (some ⟨b, o, none⟩) D.length c ∧ D.length ≤ c := by
  obtain ⟨h1, h2, A, c, e, h3, h4, h5⟩ := h.rd
  cases A with
  | none => exact absurd (h4 rfl) (by omega)
  | some a =>
    obtain ⟨b, o, s⟩ := a
    obtain ⟨hs, _⟩ := h5 _ rfl h0
    simp only at hs
    subst hs
    exact ⟨b, o, c, e, h3⟩

theorem WS.len {w : World} {v : Value} {D : List Wish} (h : WS w v D) : ∃ A c, v = .slice A D.length c ∧ (A = none → D.length = 0) := by
  obtain ⟨_, _, A, c, e, _, h4, _⟩ := h.rd
  exact ⟨A, c, e, h4⟩

/-! ### Same -/
def kindOf (op : List Value) : Int := match op[0]? with
  | some (Value.int _ z) => z
  | _ => 0
def idOf (op : List Value) : Int := match op[38]? with
  | some (Value.int _ z) => z
  | _ => 0
def sameB (op o : List Value) : Bool :=
  if kindOf op = 3 ∨ kindOf op = 4 then (decide (kindOf o = 3 ∨ kindOf o = 4)) && decide (idOf o = idOf op) else vsEq op o

theorem fits_at {ks : List SK} : ∀ {vs : List Value} {i : Nat} {k : SK}, fitsAll ks vs = true → ks[i]? = some k → ∃ v, vs[i]? = some v ∧ fits k v = true := by
  induction ks with
  | nil => intro vs i k _ h; simp at h
  | cons a ks ih =>
    intro vs i k hf hk
    cases vs with
    | nil => simp [fitsAll] at hf
    | cons v vs =>
      simp only [fitsAll, Bool.and_eq_true] at hf
      cases i with
      | zero => simp only [List.getElem?_cons_zero, Option.some.injEq] at hk; subst hk; exact ⟨v, rfl, hf.1⟩
      | succ i => simpa using ih hf.2 (by simpa using hk)

theorem kind_at {op : List Value} (h : fitsAll ks40 op = true) : op[0]? = some (.int .i64 (kindOf op)) := by
  obtain ⟨v, hv, hk⟩ := fits_at (i := 0) (k := .i .i64) h rfl
  cases v <;> simp [fits] at hk
  subst hk
  unfold kindOf
  rw [hv]
theorem id_at {op : List Value} (h : fitsAll ks40 op = true) : op[38]? = some (.int .u64 (idOf op)) := by
  obtain ⟨v, hv, hk⟩ := fits_at (i := 38) (k := .i .u64) h (by decide)
  cases v <;> simp [fits] at hk
  subst hk
  unfold idOf
  rw [hv]

end Go.Proofs.Ytocmlbnaikojkaa
