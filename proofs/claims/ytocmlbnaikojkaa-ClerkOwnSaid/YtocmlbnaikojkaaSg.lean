/- What an argument's reading tells of its cells: plain structs and arrays to any depth, and slices of them; over YtocmlbnaikojkaaSf. Nothing of a program stands here. -/
import Derived.Test.YtocmlbnaikojkaaSf
import Derived.Deep.Slices
import Derived.OpenShut
namespace Go.Sx
open Go Go.Deep
section
variable {H : Type} {enc : TypeId × Value → H} {P : Program} {w : World} {base : Nat} {spare : Nat → Bool} {held : Bool}

theorem flatFs_fits {g : TypeId → Option (List SK)} {cs : List Value} : ∀ (fs : List Field) (pos : Nat) (ks : List SK), flatFs g P pos fs = some ks →
    (∀ f ∈ fs, ∀ ks', g f.type = some ks' → P.cellsOf f.type = ks'.length → fitsAll ks' ((cs.drop f.offset).take ks'.length) = true) → fitsAll ks ((cs.drop pos).take ks.length) = true
  | [], pos, ks, h, _ => by
    simp only [flatFs, Option.some.injEq] at h
    subst h
    simp [fitsAll]
  | f :: fs, pos, ks, h, hf => by
    unfold flatFs at h
    split at h
    · rename_i hn
      split at h
      · rename_i ks1 i h1 h2
        split at h
        · rename_i hs
          rw [Option.map_eq_some_iff] at h
          obtain ⟨ks2, h3, rfl⟩ := h
          have ih := flatFs_fits fs (pos + ks1.length) ks2 h3 fun f' hf' => hf f' (List.mem_cons_of_mem _ hf')
          have h4 := hf f (List.mem_cons_self ..) ks1 h1 (by simp [Program.cellsOf, h2, hs])
          rw [hn.2] at h4
          rw [fitsAll_append, List.length_append]
          refine ⟨?_, ?_⟩
          · rw [List.take_take, Nat.min_eq_left (by omega)]; exact h4
          · rw [List.drop_take, List.drop_drop, Nat.add_sub_cancel_left]; exact ih
        · cases h
      · cases h
    · cases h

theorem rep_fits {ks : List SK} {cs : List Value} : ∀ (m o : Nat), (∀ i, i < m → fitsAll ks ((cs.drop (o + i * ks.length)).take ks.length) = true) → fitsAll (List.replicate m ks).flatten ((cs.drop o).take (m * ks.length)) = true
  | 0, _, _ => by simp [fitsAll]
  | m + 1, o, h => by
    have ih := rep_fits m (o + ks.length) fun i hi => by
      have := h (i + 1) (by omega)
      rwa [show o + (i + 1) * ks.length = o + ks.length + i * ks.length from by rw [Nat.add_mul]; omega] at this
    have h0 := h 0 (by omega)
    rw [Nat.zero_mul, Nat.add_zero] at h0
    rw [List.replicate_succ, List.flatten_cons, fitsAll_append]
    refine ⟨?_, ?_⟩
    · rw [List.take_take, Nat.min_eq_left (by rw [Nat.add_mul]; omega)]; exact h0
    · rw [List.drop_take, List.drop_drop, show (m + 1) * ks.length - ks.length = m * ks.length from by rw [Nat.add_mul]; omega]; exact ih

theorem trod_flat : ∀ (d : Nat) (t : TypeId) (ks : List SK), flatK P d t = some ks → P.cellsOf t = ks.length → ∀ (fuel : Nat) (cs : List Value) (x : DataW H × List MemPlace), DataW.trod enc P w base spare held fuel t cs = some x → fitsAll ks cs = true
  | 0, _, _, hk, _, _, _, _, _ => by simp [flatK] at hk
  | d + 1, t, ks, hk, hc, fuel, cs, x, h => by
    unfold flatK at hk
    split at hk
    · rename_i k hu
      simp only [Option.some.injEq] at hk
      subst hk
      obtain ⟨n, rfl, _⟩ := DataW.trod_int hu h
      simp [fitsAll, fits]
    · rename_i hu
      simp only [Option.some.injEq] at hk
      subst hk
      obtain ⟨n, rfl, _⟩ := DataW.trod_string hu h
      simp [fitsAll, fits]
    · rename_i hu
      simp only [Option.some.injEq] at hk
      subst hk
      obtain ⟨n, rfl, _⟩ := DataW.trod_bool hu h
      simp [fitsAll, fits]
    · rename_i fs hu
      split at hk
      · cases hk
      · obtain ⟨xs, n, _, rfl, hl, hlen, hf⟩ := DataW.trod_struct hu h
        have := flatFs_fits (cs := cs) fs.toList 0 ks hk fun f hfm ks' h1 h2 => by
          obtain ⟨i, hi⟩ := List.getElem?_of_mem hfm
          have hi' : fs[i]? = some f := by simpa using hi
          have hlt : i < fs.size := (Array.getElem?_eq_some_iff.1 hi').1
          have h3 := hf i f hi'
          rw [List.getElem?_eq_getElem (by omega), h2] at h3
          exact trod_flat d f.type ks' h1 h2 n _ _ h3
        rwa [List.drop_zero, ← hc, ← hl, List.take_length] at this
    · rename_i m e hu
      split at hk
      · rename_i ks1 i h1 h2
        split at hk
        · rename_i hs
          simp only [Option.some.injEq] at hk
          subst hk
          obtain ⟨xs, n, _, rfl, hl, hlen, hf⟩ := DataW.trod_array hu h
          have hce : P.cellsOf e = ks1.length := by simp [Program.cellsOf, h2, hs.1]
          have := rep_fits (ks := ks1) (cs := cs) m 0 fun i hi => by
            have h3 := hf i hi
            rw [List.getElem?_eq_getElem (by omega), hce] at h3
            rw [Nat.zero_add]
            exact trod_flat d e ks1 h1 hce n _ _ h3
          have hlen2 : cs.length = m * ks1.length := by rw [hl, hc]; simp
          rwa [List.drop_zero, ← hlen2, List.take_length] at this
        · cases hk
      · cases hk
    · cases hk

theorem rangeAt_append {b o : Nat} {p q : List Value} (h : w.rangeAt b o p) (k : w.rangeAt b (o + p.length) q) : w.rangeAt b o (p ++ q) := fun j v hj => by
  by_cases hlt : j < p.length
  · rw [List.getElem?_append_left hlt] at hj; exact h j v hj
  · rw [List.getElem?_append_right (by omega)] at hj
    have := k (j - p.length) v hj
    rwa [show o + p.length + (j - p.length) = o + j from by omega] at this

theorem rd_of_elems {a : Addr} {len cap s : Nat} (V : Nat → List Value) (hs : ∀ i, i < len → w.cells? base (a.add (i * s)) s = some (V i)) (hcap : len ≤ cap) (h0 : 0 < s) (hone : ∀ i, i < len → ∀ u ∈ V i, u.oneCell' = true) :
    Rd w (.slice (some a) len cap) len ((List.range len).map V).flatten s := by
  have hsp : 0 < len → a.spot = none := fun h => by
    obtain ⟨_, hl, hcell⟩ := World.cells?_some (hs 0 h)
    have g0 := hcell 0 h0
    rw [List.getElem?_eq_getElem (by omega)] at g0
    have := World.cell?_spot g0
    rw [Nat.zero_mul] at this
    exact this
  have key : ∀ n, n ≤ len → ((List.range n).map V).flatten.length = n * s ∧ (∀ u ∈ ((List.range n).map V).flatten, u.oneCell' = true) ∧ (0 < n → a.spot = none) ∧ w.rangeAt a.block a.off ((List.range n).map V).flatten := by
    intro n
    induction n with
    | zero => exact fun _ => ⟨by simp, fun u hu => by simp at hu, fun h => absurd h (by omega), fun j v hj => by simp at hj⟩
    | succ n ih =>
      intro hn
      obtain ⟨i1, i2, _, i4⟩ := ih (by omega)
      obtain ⟨_, hl, hcell⟩ := World.cells?_some (hs n (by omega))
      have hspot : a.spot = none := hsp (by omega)
      rw [List.range_succ, List.map_append, List.flatten_append]
      simp only [List.map_cons, List.map_nil, List.flatten_cons, List.flatten_nil, List.append_nil]
      refine ⟨by rw [List.length_append, i1, hl, Nat.add_mul]; omega, fun u hu => ?_, fun _ => hspot, rangeAt_append i4 ?_⟩
      · rcases List.mem_append.1 hu with hu | hu
        · exact i2 u hu
        · exact hone n (by omega) u hu
      · intro j v hj
        have hjl : j < s := by rw [← hl]; exact (List.getElem?_eq_some_iff.1 hj).1
        have := hcell j hjl
        rw [hj] at this
        obtain ⟨b, o, sp⟩ := a
        simp only at hspot
        subst hspot
        rw [i1]
        simpa [Addr.add_mid, Nat.add_assoc] using this
  obtain ⟨k1, k2, k3, k4⟩ := key len (Nat.le_refl _)
  exact ⟨k1, k2, some a, cap, rfl, hcap, (fun h => by cases h), fun b hb hl => by
    obtain rfl : a = b := by injection hb
    exact ⟨k3 hl, k4⟩⟩

theorem fits_flatten {ks : List SK} (V : Nat → List Value) : ∀ (n : Nat), (∀ i, i < n → fitsAll ks (V i) = true) → fitsAll (List.replicate n ks).flatten ((List.range n).map V).flatten = true
  | 0, _ => rfl
  | n + 1, h => by
    rw [List.range_succ, List.map_append, List.flatten_append, List.replicate_succ', List.flatten_append]
    simp only [List.map_cons, List.map_nil, List.flatten_cons, List.flatten_nil, List.append_nil]
    have ih := fits_flatten V n fun i hi => h i (by omega)
    have hl := fitsAll_length ih
    rw [fitsAll_append, ← hl, List.take_left, List.drop_left]
    exact ⟨ih, h n (by omega)⟩

/-- A slice of plain elements, as it is read. -/
theorem trod_rd {d : Nat} {t e : TypeId} {ks : List SK} (ht : P.underlying t = some (.slice e)) (hk : flatK P d e = some ks) (hc : P.cellsOf e = ks.length) (h0 : 0 < ks.length) {fuel : Nat} {cs : List Value} {x : DataW H × List MemPlace}
    (h : DataW.trod enc P w base spare held fuel t cs = some x) : ∃ v n l, cs = [v] ∧ v.oneCell' = true ∧ Rd w v n l ks.length ∧ fitsAll (List.replicate n ks).flatten l = true := by
  rcases open_slice ht h with ⟨rfl, _⟩ | ⟨a, len, cap, m, n, D, Pl, rfl, hb, hl, hm, hmm, _, hel⟩
  · exact ⟨_, 0, [], rfl, rfl, ⟨by simp, fun u hu => (List.not_mem_nil hu).elim, none, 0, rfl, Nat.le_refl _, fun _ => rfl, fun a ha => by cases ha⟩, rfl⟩
  · have hlm : len ≤ m := by rw [hmm]; split <;> omega
    obtain ⟨V, hV⟩ := choose_lt (n := len) (p := fun i cs' => w.cells? base (a.add (i * ks.length)) ks.length = some cs' ∧ fitsAll ks cs' = true) fun i hi => by
      obtain ⟨cs', h1, h2⟩ := hel i (by omega)
      rw [hc] at h1
      exact ⟨cs', h1, trod_flat d e ks hk hc n cs' _ h2⟩
    exact ⟨_, len, _, rfl, rfl, rd_of_elems V (fun i hi => (hV i hi).1) hl h0 (fun i hi => fitsAll_one (hV i hi).2), fits_flatten V len fun i hi => (hV i hi).2⟩
end
end Go.Sx
