/- ClerkOwn: an empty signature turned into the program's is empty. -/
import Derived.Test.YtocmlbnaikojkaaCk9
namespace Go.Proofs.Ytocmlbnaikojkaa
open Go Go.Sx
attribute [local irreducible] Go.wpList

def zn (n : Nat) : List Value := List.replicate n (.int .u8 0)
theorem zn_len (n : Nat) : (zn n).length = n := List.length_replicate ..
theorem zn_one {n : Nat} : ∀ v ∈ zn n, v.oneCell' = true := fun v hv => by rw [(List.mem_replicate.1 hv).2]; rfl
theorem zn_part {n o m : Nat} (h : o + m ≤ n) : ((zn n).drop o).take (zn m).length = zn m := by
  unfold zn
  rw [List.drop_replicate, List.length_replicate, List.take_replicate]
  congr 1; omega
theorem zn_set {n : Nat} : ∀ (m o : Nat), setFrom (zn n) o (zn m) = zn n
  | 0, _ => rfl
  | m + 1, o => by
    show setFrom ((zn n).set o (.int .u8 0)) (o + 1) (zn m) = zn n
    rw [show (zn n).set o (.int .u8 0) = zn n from by unfold zn; rw [List.set_replicate_self]]
    exact zn_set m (o + 1)
theorem zero59 : zeroOf Try.prog 59 = some (zn 1024) := by kernel_rfl

theorem Try.size59 : (Try.prog.info? 59).map (·.size) = some 1024 := by kernel_rfl
theorem Try.size66 : (Try.prog.info? 66).map (·.size) = some 16 := by kernel_rfl
theorem Try.size56 : (Try.prog.info? 56).map (·.size) = some 16 := by kernel_rfl
theorem Try.size69 : (Try.prog.info? 69).map (·.size) = some 1024 := by kernel_rfl

theorem to41 (w : World) : Ret Try.prog 41 [.agg (zn 1024).toArray] w fun v w' => v = .agg (zn 1024).toArray ∧ Ch w w' none' := by
  refine enter (n := 24) Try.func41 rfl Try.ntmps41 (Nat.le_of_ble_eq_true rfl) ?_
  have st := St.start w none'
  refine wp_seq_k fun K1 hK1 => ?_
  refine wp_region_lit ?_
  refine s_box st (cs := (zn 1024)) rfl ?_
  intro b2 w3 st4 hbb2 hcb2
  refine s_alloc' st4 zero59 ?_
  intro b5 w6 st7 hbb5 hcb5
  refine wpList_nil ?_
  refine then_normal (hK1 _ _ ?_)
  clear hK1
  refine wp_seq_k fun K8 hK8 => ?_
  refine wp_region_lit ?_
  refine s_alloc' st7 zero59 ?_
  intro b9 w10 st11 hbb9 hcb9
  refine wpList_nil ?_
  refine then_normal (hK8 _ _ ?_)
  clear hK8
  refine wp_seq_k fun K12 hK12 => ?_
  refine wp_seq_k fun K13 hK13 => ?_
  refine wp_region_lit ?_
  refine o_move (v := (.int .i64 0)) rfl ?_
  refine wpList_nil ?_
  refine then_normal (hK13 _ _ ?_)
  clear hK13
  refine wp_block ?_
  have hne : ¬ b2 = b9 := by have := st7.lt_of 1 rfl (k := b2) rfl; omega
  refine Sx.loop (n := 24) (fun m E w1 => ∃ k : Nat, k ≤ 32 ∧ m = 32 - k ∧ Has E [(5, .int .i64 (k : Int)), (1, .pointer (some ⟨b2, 0, none⟩)), (2, .pointer (some ⟨b5, 0, none⟩)), (3, .pointer (some ⟨b9, 0, none⟩))] ∧ St w w1 none' [pt b9 (zn 1024) 59, pt b5 (zn 1024) 59, pt b2 (zn 1024) 69]) ⟨0, Nat.zero_le _, rfl, ⟨rfl, rfl, rfl, rfl, trivial⟩, st11⟩ ?_
  rintro m E w1 ⟨k, hk, rfl, hE, sl⟩
  rw [hE.norm]
  by_cases hlt : k < 32
  · refine wp_seq_k fun K14 hK14 => ?_
    refine wp_region_lit ?_
    refine o_lss (k := .i64) (a := (k : Int)) (b := 32) (r := true) rfl rfl (decide_eq_true (by omega)) ?_
    refine wpList_nil ?_
    refine then_normal (hK14 _ _ ?_)
    clear hK14
    refine wp_seq_k fun K15 hK15 => ?_
    refine cond_t rfl ?_
    refine wp_skip ?_
    refine then_normal (hK15 _ _ ?_)
    clear hK15
    refine wp_seq_k fun K16 hK16 => ?_
    refine wp_block ?_
    refine wp_seq_k fun K17 hK17 => ?_
    refine wp_region_lit ?_
    refine o_move (v := (.int .i64 (k : Int))) rfl ?_
    refine o_assign (v := (.int .i64 (k : Int))) rfl ?_
    refine wpList_nil ?_
    refine then_normal (hK17 _ _ ?_)
    clear hK17
    refine d_begin (fun w' => Ch w1 w' (fun q => q = b9)) (by kernel_rfl) ?_
    obtain ⟨w18, ew18⟩ : ∃ x, x = World.drew w1 := ⟨_, rfl⟩
    rw [← ew18]
    have hNw18 : Ch w1 w18 none' := by rw [ew18]; exact Ch.drew _ _
    have hSw18 := hNw18.mono (F := none') (G := (fun q => q = b9)) (fun _ _ f => f.elim)
    have st19 := sl.keep hNw18
    clear ew18
    refine d_take (i := 0) (d := 8) (v := (.int .i64 (k : Int))) rfl rfl rfl (by kernel_rfl) (by kernel_rfl) (by kernel_rfl) (np_blk (np_then (np_then (np_blk (np_then np_body))))) hSw18 (fun w' hS => r_move (v := (.int .i64 (k : Int))) rfl) ?_
    refine d_take (i := 1) (d := 9) (v := (.int .i64 (k : Int))) rfl rfl rfl (by kernel_rfl) (by kernel_rfl) (by kernel_rfl) (np_blk (np_then (np_then (np_blk (np_then np_body))))) hSw18 (fun w' hS => r_move (v := (.int .i64 (k : Int))) rfl) ?_
    refine d_take (i := 2) (d := 10) (v := (.int .i64 (k : Int))) rfl rfl rfl (by kernel_rfl) (by kernel_rfl) (by kernel_rfl) (np_blk (np_then (np_then (np_blk (np_then np_body))))) hSw18 (fun w' hS => r_move (v := (.int .i64 (k : Int))) rfl) ?_
    refine d_take (i := 3) (d := 11) (v := (.pointer (some ⟨b2, 0, none⟩))) rfl rfl rfl (by kernel_rfl) (by kernel_rfl) (by kernel_rfl) (np_blk (np_then (np_then (np_blk (np_then np_body))))) hSw18 (fun w' hS => r_fieldAddr (q := 0) (off := 0) (by kernel_rfl) rfl rfl) ?_
    refine d_take (i := 4) (d := 12) (v := (.pointer (some ⟨b2, 0 + k * 16, none⟩))) rfl rfl rfl (by kernel_rfl) (by kernel_rfl) (by kernel_rfl) (np_blk (np_then (np_then (np_blk (np_then np_body))))) hSw18 (fun w' hS => r_indexAddr_arr (i := k) (q := 0 + k * 16) Try.underlying67 Try.size66 rfl rfl rfl hlt rfl) ?_
    refine d_take (i := 5) (d := 13) (v := (.agg ((zn 16) : List Value).toArray)) rfl rfl rfl (by kernel_rfl) (by kernel_rfl) (by kernel_rfl) (np_blk (np_then (np_then (np_blk (np_then np_body))))) hSw18 (fun w' hS => r_loads (cs := (zn 16)) Try.underlying66 rfl (Try.size66.trans (by rw [zn_len])) rfl (range_of_list (sl.blkF 2 rfl hS (hne)) (0 + k * 16) (zn_part (by omega)))) ?_
    refine d_take (i := 6) (d := 14) (v := (.int .i64 (k : Int))) rfl rfl rfl (by kernel_rfl) (by kernel_rfl) (by kernel_rfl) (np_blk (np_then (np_then (np_blk (np_then np_body))))) hSw18 (fun w' hS => r_move (v := (.int .i64 (k : Int))) rfl) ?_
    refine d_take (i := 7) (d := 15) (v := (.pointer (some ⟨b2, 512, none⟩))) rfl rfl rfl (by kernel_rfl) (by kernel_rfl) (by kernel_rfl) (np_blk (np_then (np_then (np_blk (np_then np_body))))) hSw18 (fun w' hS => r_fieldAddr (q := 512) (off := 512) (by kernel_rfl) rfl rfl) ?_
    refine d_take (i := 8) (d := 16) (v := (.pointer (some ⟨b2, 512 + k * 16, none⟩))) rfl rfl rfl (by kernel_rfl) (by kernel_rfl) (by kernel_rfl) (np_blk (np_then (np_then (np_blk (np_then np_body))))) hSw18 (fun w' hS => r_indexAddr_arr (i := k) (q := 512 + k * 16) Try.underlying67 Try.size66 rfl rfl rfl hlt rfl) ?_
    refine d_take (i := 9) (d := 17) (v := (.agg ((zn 16) : List Value).toArray)) rfl rfl rfl (by kernel_rfl) (by kernel_rfl) (by kernel_rfl) (np_blk (np_then (np_then (np_blk (np_then np_body))))) hSw18 (fun w' hS => r_loads (cs := (zn 16)) Try.underlying66 rfl (Try.size66.trans (by rw [zn_len])) rfl (range_of_list (sl.blkF 2 rfl hS (hne)) (512 + k * 16) (zn_part (by omega)))) ?_
    refine d_take (i := 10) (d := 18) (v := (.pointer (some ⟨b9, 0, none⟩))) rfl rfl rfl (by kernel_rfl) (by kernel_rfl) (by kernel_rfl) (np_blk (np_then (np_then (np_blk (np_then np_body))))) hSw18 (fun w' hS => r_fieldAddr (q := 0) (off := 0) (by kernel_rfl) rfl rfl) ?_
    refine d_take (i := 11) (d := 19) (v := (.pointer (some ⟨b9, 0 + k * 16, none⟩))) rfl rfl rfl (by kernel_rfl) (by kernel_rfl) (by kernel_rfl) (np_blk (np_then (np_then (np_blk (np_then np_body))))) hSw18 (fun w' hS => r_indexAddr_arr (i := k) (q := 0 + k * 16) Try.underlying57 Try.size56 rfl rfl rfl hlt rfl) ?_
    refine d_take (i := 13) (d := 20) (v := (.pointer (some ⟨b9, 512, none⟩))) rfl rfl rfl (by kernel_rfl) (by kernel_rfl) (by kernel_rfl) (np_blk (np_then (np_then (np_blk (np_then np_body))))) hSw18 (fun w' hS => r_fieldAddr (q := 512) (off := 512) (by kernel_rfl) rfl rfl) ?_
    refine d_loud (i := 12) (by kernel_rfl) rfl ?_
    refine s_stores st19 0 (vs := zn 16) rfl (Try.size56.trans (by rw [zn_len])) rfl rfl zn_one (by rw [zn_len, zn_len]; omega) ?_
    intro w20 st21 hc22
    rw [zn_set] at st21
    have hkw20 := hSw18.trans hc22 (fun _ f => f) (fun _ _ f => f)
    refine wpList_nil ?_
    refine then_normal ?_
    have hS23 : Ch w1 w20 (fun q => q = b9) := hkw20
    refine ⟨hS23, ?_⟩
    refine d_take (i := 14) (d := 21) (v := (.pointer (some ⟨b9, 512 + k * 16, none⟩))) rfl rfl rfl (by kernel_rfl) (by kernel_rfl) (by kernel_rfl) (np_blk (np_then (np_then (np_blk (np_then np_body))))) hS23 (fun w' hS => r_indexAddr_arr (i := k) (q := 512 + k * 16) Try.underlying57 Try.size56 rfl rfl rfl hlt rfl) ?_
    refine d_loud (i := 15) (by kernel_rfl) rfl ?_
    refine s_stores st21 0 (vs := zn 16) rfl (Try.size56.trans (by rw [zn_len])) rfl rfl zn_one (by rw [zn_len, zn_len]; omega) ?_
    intro w24 st25 hc26
    rw [zn_set] at st25
    have hkw24 := hS23.trans hc26 (fun _ f => f) (fun _ _ f => f)
    refine wpList_nil ?_
    refine then_normal ?_
    have hS27 : Ch w1 w24 (fun q => q = b9) := hkw24
    refine ⟨hS27, ?_⟩
    refine d_done (by kernel_rfl) ?_
    refine blk_normal ?_
    refine then_normal (hK16 _ _ ?_)
    clear hK16
    refine wp_region_lit ?_
    refine o_add64 (a := (k : Int)) (b := 1) (c := ((k + 1 : Nat) : Int)) rfl rfl (by omega) (by omega) (by omega) ?_
    refine o_move (v := (.int .i64 ((k + 1 : Nat) : Int))) rfl ?_
    refine wpList_nil ?_
    refine then_normal ?_
    exact ⟨32 - (k + 1), _, by omega, rfl, k + 1, by omega, rfl, ⟨rfl, rfl, rfl, rfl, trivial⟩, st25⟩
  · refine wp_seq_k fun K28 hK28 => ?_
    refine wp_region_lit ?_
    refine o_lss (k := .i64) (a := (k : Int)) (b := 32) (r := false) rfl rfl (decide_eq_false (by omega)) ?_
    refine wpList_nil ?_
    refine then_normal (hK28 _ _ ?_)
    clear hK28
    refine wp_seq_k fun K29 hK29 => ?_
    refine cond_f rfl ?_
    refine wp_exit ?_
    refine then_exit ?_
    refine then_exit ?_
    refine blk_exit ?_
    refine then_normal (hK12 _ _ ?_)
    clear hK12
    refine wp_seq_k fun K30 hK30 => ?_
    refine wp_region_lit ?_
    refine o_loads (cs := zn 1024) Try.underlying59 rfl (Try.size59.trans (by rw [zn_len])) rfl (sl.range 0 rfl 0 (zn_part (by omega))) ?_
    refine s_stores sl 1 (vs := zn 1024) rfl (Try.size59.trans (by rw [zn_len])) rfl rfl zn_one (by rw [zn_len]; omega) ?_
    intro w31 st32 hc33
    rw [zn_set] at st32
    refine wpList_nil ?_
    refine then_normal (hK30 _ _ ?_)
    clear hK30
    refine wp_ret ?_
    exact ret_cell rfl rfl (st32.blk 1 rfl) Try.underlying59 rfl (Try.size59.trans (by rw [zn_len])) ⟨rfl, st32.ch⟩
end Go.Proofs.Ytocmlbnaikojkaa
