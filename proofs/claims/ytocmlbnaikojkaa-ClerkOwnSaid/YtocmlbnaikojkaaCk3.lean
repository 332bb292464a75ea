/- ClerkOwn: contracts of clone, Twin, Same, the closure and the search. -/
import Derived.Test.YtocmlbnaikojkaaCk2
namespace Go.Proofs.Ytocmlbnaikojkaa
open Go Go.Sx
attribute [local irreducible] Go.wpList

theorem clone29 (w : World) (v : Value) (k : Nat) (cs : List Value) (hk : k ≤ 1000000) (h : Rd w v k cs 3) : Ret Try.prog 29 [v] w fun v' w' => NewRow w w' v' k cs 81 3 := by
  have hs := h
  obtain ⟨h1, h2, A, c, rfl, h3, h4, h5⟩ := h
  cases A with
  | none =>
    obtain rfl : k = 0 := h4 rfl
    obtain rfl : cs = [] := List.eq_nil_of_length_eq_zero (by simpa using h1)
    refine (clone29_nil w c).mono ?_
    rintro v' w' ⟨rfl, hc⟩
    exact ⟨hc, ⟨rfl, .inl ⟨rfl, rfl⟩⟩, fun q hq => by cases hq⟩
  | some a => exact clone29_some w a k c cs hk hs

def z43 : List Value := [.int .i64 0, .int .u64 0, .int .u64 0, .int .i64 0, .int .u64 0] ++ List.replicate 32 (.int .u8 0) ++ [.int .u64 0, .int .u64 0, .slice none 0 0]
theorem zero43 : zeroOf Try.prog 43 = some z43 := by kernel_rfl

theorem tail_at {op : List Value} {t : Value} (h : op.length = 39) : (op ++ [t])[39]? = some t := by
  rw [List.getElem?_append_right (by omega), h]; rfl
theorem tail_set {op : List Value} {t u : Value} (h : op.length = 39) : (op ++ [t]).set 39 u = op ++ [u] := by
  rw [List.set_append_right _ _ (by omega), h]; rfl
theorem head_part {op : List Value} {t : Value} (h : op.length = 39) : ((op ++ [t]).drop 0).take op.length = op := by
  rw [List.drop_zero, List.take_left]
theorem head_at {op : List Value} {t : Value} (h : op.length = 39) {i : Nat} (hi : i < 39) : (op ++ [t])[i]? = op[i]? := by
  rw [List.getElem?_append_left (by omega)]

theorem twin14 (w : World) (x : Wish) (hx : OkW x) (hr : Rd w x.tr x.n x.cs 3) : Ret Try.prog 14 [.agg (x.op ++ [x.tr]).toArray] w fun v w' => ∃ tr, v = .agg (x.op ++ [tr]).toArray ∧ NewRow w w' tr x.n x.cs 81 3 := by
  obtain ⟨op, tr, k, cs⟩ := x
  have hlen := hx.len
  have hone := hx.ones
  have hn := hx.n
  have hop := hx.op
  simp only at hlen hone hn hr hop ⊢
  refine enter (n := 8) Try.func14 rfl Try.ntmps14 (Nat.le_of_ble_eq_true rfl) ?_
  have st := St.start w none'
  refine wp_seq_k fun K1 hK1 => ?_
  refine wp_region_lit ?_
  refine s_box st (cs := (op ++ [tr])) rfl ?_
  intro b2 w3 st4 hbb2 hcb2
  refine s_alloc' st4 zero43 ?_
  intro b5 w6 st7 hbb5 hcb5
  refine wpList_nil ?_
  refine then_normal (hK1 _ _ ?_)
  clear hK1
  refine wp_seq_k fun K8 hK8 => ?_
  refine wp_region_lit ?_
  refine o_fieldAddr (q := 39) (off := 39) (by kernel_rfl) rfl rfl ?_
  refine o_load (v := tr) Try.underlying41 rfl rfl (st7.cell 1 rfl 39 (tail_at hlen)) ?_
  refine op_call (args := [tr]) Try.ent29 rfl (clone29 w6 tr k cs (by omega) (hr.keep st7.ch fun _ _ f => f)) ?_
  intro tr' w5 hnew
  have st5 := st7.newRow hnew
  have h1 : tr'.oneCell' = true := by rcases hnew.ok.2 with h | ⟨_, _, _, h, _⟩ <;> (first | rw [h.1] | rw [h]) <;> rfl
  refine o_fieldAddr (q := 39) (off := 39) (by kernel_rfl) rfl rfl ?_
  refine s_store st5 2 (v := tr') rfl Try.size41 rfl rfl h1 (by simp [hlen]) ?_
  intro w6 st6 hc6
  rw [tail_set hlen] at st6
  refine wpList_nil ?_
  refine then_normal (hK8 _ _ ?_)
  clear hK8
  refine wp_seq_k fun K9 hK9 => ?_
  refine wp_region_lit ?_
  refine o_loads (cs := op ++ [tr']) Try.underlying43 rfl (Try.size43.trans (by simp [hlen])) rfl (st6.range 2 rfl 0 (by rw [List.drop_zero, List.take_length])) ?_
  refine s_stores st6 1 (vs := op ++ [tr']) rfl (Try.size43.trans (by simp [hlen])) rfl rfl ?one (by simp [hlen, z43]) ?_
  case one =>
    intro u hu
    rcases List.mem_append.1 hu with hu | hu
    · exact fitsAll_one hop u hu
    · rw [List.mem_singleton.1 hu]; exact h1
  intro w7 st7 hc7
  rw [setFrom_full (by simp [hlen, z43])] at st7
  refine wpList_nil ?_
  refine then_normal (hK9 _ _ ?_)
  clear hK9
  refine wp_ret ?_
  refine ret_cell rfl rfl (st7.blk 1 rfl) Try.underlying43 rfl (Try.size43.trans (by simp [hlen])) ⟨tr', rfl, st7.ch, st7.get 0 rfl, fun q hq => ⟨(st7.new_of 0 rfl (k := q) hq).resolve_right (fun f => f), st7.lt_of 0 rfl (k := q) hq⟩⟩
end Go.Proofs.Ytocmlbnaikojkaa
