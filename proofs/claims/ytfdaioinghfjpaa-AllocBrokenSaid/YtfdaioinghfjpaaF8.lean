/- Contracts: slices.Delete of one element. -/
import Derived.Test.YtfdaioinghfjpaaRdTypes
import Derived.Test.YtfdaioinghfjpaaRdD
import Derived.Test.YtfdaioinghfjpaaF7
namespace Go.Proofs.Ytfdaioinghfjpaa
open Go.Rd Go.RowKit
set_option maxRecDepth 20000

theorem sup_upd {S : Store} {L l b : Nat} {o : Option AObj} (h : Sup S L) (hl : l < L) : Sup (upd S l b o) L := fun l' b' h' => by rw [upd_ne _ _ (by omega)]; exact h l' b' h'
theorem upd_upd (S : Store) (l b : Nat) (o o' : Option AObj) : upd (upd S l b o) l b o' = upd S l b o' := by
  funext l' b'
  simp only [upd]
  split <;> rfl

theorem delete_slc (l : List U) (j l0 b N L : Nat) (S : Store) (hj : j < l.length) (hN : l.length ≤ N) (hNm : N ≤ maxLen) (hl0 : l0 < L) (ho : S l0 b = some (.row 41 4 (l.map encU))) :
    AC Try.prog L 111 [.s (.slc l0 b 0 l.length N), .s (.pv (.lit (.int .i64 j))), .s (.pv (.lit (.int .i64 ((j : Int) + 1))))] S fun r S' =>
      ∃ es', S' = upd S l0 b (some (.row 41 4 es')) ∧ es'.take (l.length - 1) = (l.eraseIdx j).map encU ∧ l.length - 1 ≤ es'.length ∧ r = .val (.a (.s (.slc l0 b 0 (l.length - 1) N))) := by
  have hm : (N : Int) ≤ 9223372036854775807 := by have : maxLen = 9223372036854775807 := rfl; omega
  refine fn_St (n := 33) (rs := [.tmp 6]) hands_val RdT.ok RdT.mixed Try.func111 rfl (by kernel_rfl) rfl rfl rfl (by omega) ?_
  intro hS
  show awp _ _ _ _ _ (St L 33 [(0, .a (.s (.slc l0 b 0 l.length N))), (1, int j), (2, int ((j : Int) + 1))] S [])
  repeat' (first
    | (with_reducible refine want_none ?_)
    | (with_reducible refine c_seq ?_)
    | (with_reducible refine c_region ?_)
    | ((with_reducible refine c_regionD ?_ ?_ ?_ ?_); (kernel_rfl); (exact rfl); (exact rfl))
    | (with_reducible refine c_block ?_)
    | (with_reducible refine aops_nil ?_)
    | (with_reducible refine k_normal ?_)
    | (with_reducible refine c_skip ?_)
    | (with_reducible refine c_exit ?_)
    | (with_reducible refine c_ret ?_)
    | (with_reducible refine k_ret ?_)
    | (with_reducible refine k_exit ?_)
    | (with_reducible refine kl_ret ?_)
    | (with_reducible refine kl_exit ?_)
    | (with_reducible refine kr_ret ?_)
    | (with_reducible refine kr_exit ?_)
    | (with_reducible refine kb_normal ?_)
    | (with_reducible refine kb_ret ?_)
    | (with_reducible refine kb_hit ?_)
    | ((with_reducible refine kb_miss ?_ ?_); exact rfl)
    | ((with_reducible apply want_run); exact rfl; exact rfl)
    | ((with_reducible apply want_skip); exact rfl; exact rfl; exact rfl)
    | ((with_reducible apply want_out); exact rfl; exact rfl; exact rfl)
    | ((with_reducible apply want_forkF); exact rfl; exact rfl; exact rfl; (first | exact Bp.not Bp.dec | exact Bp.dec | exact Bp.not Bp.bool | exact Bp.bool); all_goals intro hc)
    | ((with_reducible apply want_forkT); exact rfl; exact rfl; exact rfl; (first | exact Bp.not Bp.dec | exact Bp.dec | exact Bp.not Bp.bool | exact Bp.bool); all_goals intro hc)
    | ((with_reducible apply st_lenslc RdT.ok); exact rfl; exact rfl; exact rfl; intro hlen) | ((with_reducible apply st_slice3); exact rfl; exact rfl; exact rfl; exact rfl; exact rfl; exact rfl; omega) | (exfalso; omega)
    | ((with_reducible apply st_alloc); exact rfl; exact rfl; exact rfl; exact rfl)
    | ((with_reducible apply st_box); exact rfl; exact rfl; exact rfl; exact rfl)
    | ((with_reducible apply st_loadpelK); exact rfl; exact rfl; assumption; exact rfl; exact rfl)
    | ((with_reducible apply st_loadpel); exact rfl; exact rfl; omega; exact rfl; (intro u hu; refine ⟨_, rfl, ?_⟩; try simp only [Int.toNat_natCast] at hu))
    | ((with_reducible apply st_load); exact rfl; exact rfl; exact rfl; exact rfl; exact rfl)
    | ((with_reducible apply st_store); exact rfl; exact rfl; exact rfl; exact rfl; exact rfl; exact rfl)
    | ((with_reducible apply st_idx); exact rfl; exact rfl; exact rfl; exact rfl; exact rfl; omega)
    | ((with_reducible apply st_len RdT.ok); exact rfl; exact rfl; exact rfl; intro hlen)
    | ((with_reducible apply st_lennil RdT.ok); exact rfl; exact rfl; exact rfl)
    | ((with_reducible apply st_add); exact rfl; exact rfl; exact rfl; omega)
    | ((with_reducible apply st_sub); exact rfl; exact rfl; exact rfl; omega)
    | ((with_reducible apply st_q RdT.ok); exact rfl; exact rfl)
    | ((with_reducible apply c_condT); exact rfl)
    | ((with_reducible apply c_condF); exact rfl)
    | ((with_reducible apply c_cond); exact rfl; (first | exact Bp.not Bp.dec | exact Bp.dec | exact Bp.not Bp.bool | exact Bp.bool); all_goals intro hc))
  refine c_regionA 8 rfl ?_
  (with_reducible apply d_take RdT.ok 0); exact rfl; exact rfl; exact rfl; exact rfl; kernel_rfl; kernel_rfl; kernel_rfl; exact rfl; exact rfl
  (with_reducible apply d_take RdT.ok 1); exact rfl; exact rfl; exact rfl; exact rfl; kernel_rfl; kernel_rfl; kernel_rfl; exact rfl; exact rfl
  (with_reducible apply d_take RdT.ok 3); exact rfl; exact rfl; exact rfl; exact rfl; kernel_rfl; kernel_rfl; kernel_rfl; exact rfl; exact rfl
  (with_reducible apply d_take RdT.ok 4); exact rfl; exact rfl; exact rfl; exact rfl; kernel_rfl; kernel_rfl; kernel_rfl; exact rfl; exact rfl
  have hnews : ((l.map encU).drop (j + 1)).take (l.length - j - 1) = (l.map encU).drop (j + 1) := List.take_of_length_le (by rw [List.length_drop, List.length_map]; omega)
  have hover : over (l.map encU) j ((l.map encU).drop (j + 1)) = (l.map encU).take j ++ ((l.map encU).drop (j + 1) ++ (l.map encU).drop (l.length - 1)) := by
    unfold over
    rw [List.length_drop, List.length_map, show j + (l.length - (j + 1)) = l.length - 1 by omega]
  have hes : ((l.map encU).take j ++ ((l.map encU).drop (j + 1) ++ (l.map encU).drop (l.length - 1))).length = l.length := by
    simp only [List.length_append, List.length_take, List.length_drop, List.length_map]
    omega
  (with_reducible apply d_two 2 5); kernel_rfl; exact rfl; exact rfl
  all_goals first | ((with_reducible apply st_slcE 0 j N); exact rfl; exact rfl; exact rfl; exact rfl; exact (mkO_low _ _ _ hl0).trans ho; exact rfl; omega; omega) | ((with_reducible apply st_slcE (j + 1) (l.length - j - 1) (N - j - 1)); exact rfl; exact rfl; exact rfl; exact rfl; exact (mkO_low _ _ _ hl0).trans ho; exact rfl; omega; omega)
  all_goals intro hb1
  all_goals first | (exfalso; omega) | refine aops_nil ?_
  all_goals first | ((with_reducible apply d_one 5); (decide +kernel); exact rfl) | ((with_reducible apply d_one 2); (decide +kernel); exact rfl)
  all_goals first | ((with_reducible apply st_slcE 0 j N); exact rfl; exact rfl; exact rfl; exact rfl; exact (mkO_low _ _ _ hl0).trans ho; exact rfl; omega; omega) | ((with_reducible apply st_slcE (j + 1) (l.length - j - 1) (N - j - 1)); exact rfl; exact rfl; exact rfl; exact rfl; exact (mkO_low _ _ _ hl0).trans ho; exact rfl; omega; omega)
  all_goals intro hb2
  all_goals first | (exfalso; omega) | refine aops_nil ?_
  all_goals ((with_reducible apply d_one 6); kernel_rfl; exact rfl)
  all_goals first
    | ((with_reducible apply st_appendIn (l.length - 1) ((l.map encU).take j ++ ((l.map encU).drop (j + 1) ++ (l.map encU).drop (l.length - 1)))); exact rfl; exact rfl; exact rfl; exact hl0; exact ho; exact rfl; exact rfl; exact rfl; exact SrcA.slc ((mkO_low _ _ _ hl0).trans ho) (by rw [List.length_map]; omega); (rw [List.length_map]; omega); (rw [hnews, List.length_drop, List.length_map]; omega); omega; omega; (rw [hnews]; exact hover))
    | ((with_reducible apply st_appendIn (l.length - 1) ((l.map encU).take j ++ ((l.map encU).drop (j + 1) ++ (l.map encU).drop (l.length - 1)))); exact rfl; exact rfl; exact rfl; exact hl0; exact ho; exact rfl; exact rfl; exact rfl; exact SrcA.row; (rw [List.length_map]; omega); (show j + 0 = _; omega); omega; omega; (rw [← hover, List.drop_of_length_le (by rw [List.length_map]; omega)]))
  all_goals refine aops_nil ?_
  all_goals ((with_reducible apply d_one 7); kernel_rfl; exact rfl)
  all_goals ((with_reducible apply st_q RdT.ok); exact rfl; exact rfl; refine aops_nil ?_; refine d_done (by decide +kernel) ?_)
  all_goals repeat' (first
    | (with_reducible refine want_none ?_)
    | (with_reducible refine c_seq ?_)
    | (with_reducible refine c_region ?_)
    | ((with_reducible refine c_regionD ?_ ?_ ?_ ?_); (kernel_rfl); (exact rfl); (exact rfl))
    | (with_reducible refine c_block ?_)
    | (with_reducible refine aops_nil ?_)
    | (with_reducible refine k_normal ?_)
    | (with_reducible refine c_skip ?_)
    | (with_reducible refine c_exit ?_)
    | (with_reducible refine c_ret ?_)
    | (with_reducible refine k_ret ?_)
    | (with_reducible refine k_exit ?_)
    | (with_reducible refine kl_ret ?_)
    | (with_reducible refine kl_exit ?_)
    | (with_reducible refine kr_ret ?_)
    | (with_reducible refine kr_exit ?_)
    | (with_reducible refine kb_normal ?_)
    | (with_reducible refine kb_ret ?_)
    | (with_reducible refine kb_hit ?_)
    | ((with_reducible refine kb_miss ?_ ?_); exact rfl)
    | ((with_reducible apply want_run); exact rfl; exact rfl)
    | ((with_reducible apply want_skip); exact rfl; exact rfl; exact rfl)
    | ((with_reducible apply want_out); exact rfl; exact rfl; exact rfl)
    | ((with_reducible apply want_forkF); exact rfl; exact rfl; exact rfl; (first | exact Bp.not Bp.dec | exact Bp.dec | exact Bp.not Bp.bool | exact Bp.bool); all_goals intro hc)
    | ((with_reducible apply want_forkT); exact rfl; exact rfl; exact rfl; (first | exact Bp.not Bp.dec | exact Bp.dec | exact Bp.not Bp.bool | exact Bp.bool); all_goals intro hc)
    | ((with_reducible apply st_lenslc RdT.ok); exact rfl; exact rfl; exact rfl; intro hlen) | ((with_reducible apply st_slcE (l.length - 1) 1 (N - (l.length - 1))); exact rfl; exact rfl; exact rfl; exact rfl; exact (mkO_low _ _ _ hl0).trans (upd_same _ _ _ _); exact rfl; omega; omega; rotate_left; (intro hb4; exfalso; omega); intro hb3) | ((with_reducible apply st_clearL); exact rfl; exact rfl; exact rfl; exact hl0; exact upd_same _ _ _ _; (rw [hes]; refine ⟨by omega, by omega, by omega⟩); exact rfl)
    | ((with_reducible apply st_alloc); exact rfl; exact rfl; exact rfl; exact rfl)
    | ((with_reducible apply st_box); exact rfl; exact rfl; exact rfl; exact rfl)
    | ((with_reducible apply st_loadpelK); exact rfl; exact rfl; assumption; exact rfl; exact rfl)
    | ((with_reducible apply st_loadpel); exact rfl; exact rfl; omega; exact rfl; (intro u hu; refine ⟨_, rfl, ?_⟩; try simp only [Int.toNat_natCast] at hu))
    | ((with_reducible apply st_load); exact rfl; exact rfl; exact rfl; exact rfl; exact rfl)
    | ((with_reducible apply st_store); exact rfl; exact rfl; exact rfl; exact rfl; exact rfl; exact rfl)
    | ((with_reducible apply st_idx); exact rfl; exact rfl; exact rfl; exact rfl; exact rfl; omega)
    | ((with_reducible apply st_len RdT.ok); exact rfl; exact rfl; exact rfl; intro hlen)
    | ((with_reducible apply st_lennil RdT.ok); exact rfl; exact rfl; exact rfl)
    | ((with_reducible apply st_add); exact rfl; exact rfl; exact rfl; omega)
    | ((with_reducible apply st_sub); exact rfl; exact rfl; exact rfl; omega)
    | ((with_reducible apply st_q RdT.ok); exact rfl; exact rfl)
    | ((with_reducible apply c_condT); exact rfl)
    | ((with_reducible apply c_condF); exact rfl)
    | ((with_reducible apply c_cond); exact rfl; (first | exact Bp.not Bp.dec | exact Bp.dec | exact Bp.not Bp.bool | exact Bp.bool); all_goals intro hc))
  all_goals
    (with_reducible apply r_one); exact rfl; exact .tmp rfl .nil; exact .s (.slcL hl0); exact sup_upd (sup_upd hS hl0) hl0
    refine ⟨_, upd_upd _ _ _ _ _, ?_, ?_, rfl⟩
    · have h1 : ((l.map encU).take j ++ ((l.map encU).drop (j + 1) ++ (l.map encU).drop (l.length - 1))).take (l.length - 1) = (l.map encU).take j ++ (l.map encU).drop (j + 1) := by
        rw [← List.append_assoc, List.take_append_of_le_length (by simp only [List.length_append, List.length_take, List.length_drop, List.length_map]; omega)]
        exact List.take_of_length_le (by simp only [List.length_append, List.length_take, List.length_drop, List.length_map]; omega)
      unfold over
      rw [h1, List.take_append_of_le_length (by simp only [List.length_append, List.length_take, List.length_drop, List.length_map]; omega),
        List.take_of_length_le (by simp only [List.length_append, List.length_take, List.length_drop, List.length_map]; omega), List.eraseIdx_eq_take_drop_succ, List.map_append, List.map_take, List.map_drop]
    · rw [over_length (by rw [hes]; omega), hes]
      omega

theorem delete_AC (l : List U) (j l0 b L : Nat) (S : Store) (hj : j < l.length) (hm : l.length ≤ maxLen) (hl0 : l0 < L) (ho : S l0 b = some (.row 41 4 (l.map encU))) :
    AC Try.prog L 111 [.s (.sl l0 b 0 l.length), .s (.pv (.lit (.int .i64 j))), .s (.pv (.lit (.int .i64 ((j : Int) + 1))))] S fun r S' =>
      ∃ es', S' = upd S l0 b (some (.row 41 4 es')) ∧ es'.take (l.length - 1) = (l.eraseIdx j).map encU ∧ l.length - 1 ≤ es'.length ∧ r = .val (.a (.s (.sl l0 b 0 (l.length - 1)))) := by
  refine AC_reveal (fun N h1 h2 => AC_slOut ((delete_slc l j l0 b N L S hj h1 h2 hl0 ho).mono ?_)) hm
  rintro r S' ⟨es', rfl, h3, h4, rfl⟩
  exact .inr ⟨l0, b, _, N, 41, 4, es', rfl, upd_same _ _ _ _, h4, es', rfl, h3, h4, rfl⟩
end Go.Proofs.Ytfdaioinghfjpaa
