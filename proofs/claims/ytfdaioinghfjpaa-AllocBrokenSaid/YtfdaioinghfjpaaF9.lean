/- Contracts: slots.turn. -/
import Derived.Test.YtfdaioinghfjpaaF8
namespace Go.Proofs.Ytfdaioinghfjpaa
open Go.Rd Go.RowKit
set_option maxRecDepth 20000

def turn1 (l : List U) (j : Nat) (u : U) (by' : Int) : List U := if u.count + by' = 0 ∧ u.old = false then l.eraseIdx j else l.set j { u with count := u.count + by' }
/-- What slots.turn makes. -/
inductive Turn (l : List U) (at' by' : Int) : TV → Prop
  | no (h : may (some l) = false ∨ countOf at' l = 0 ∨ countOf at' l + by' > 1000000) : Turn l at' by' (.tup [.s (.pv (.lit (.slice none 0 0))), .s (.pv (.lit (.bool false)))])
  | yes (j : Nat) (u : U) (hm : may (some l) = true) (hu : l[j]? = some u) (hp : u.pos = at') (hf : ∀ (i : Nat) (x : U), i < j → l[i]? = some x → x.pos ≠ at') (hc : u.count ≠ 0) (hb : u.count + by' ≤ 1000000) :
      Turn l at' by' (.tup [uA (some (turn1 l j u by')), .s (.pv (.lit (.bool true)))])

theorem may1_mem : ∀ (l : List U) (e : Int), may1 e l = true → ∀ u ∈ l, 1 ≤ u.len ∧ u.len ≤ 8 ∧ e ≤ u.pos ∧ u.pos ≤ 16 - u.len ∧ 0 ≤ u.count ∧ u.count ≤ 1000000 ∧ (u.old = true ∨ u.count ≠ 0)
  | [], _, _, u, hu => by cases hu
  | v :: r, e, h, u, hu => by
    obtain ⟨q1, q2, q3, q4, q5, q6, q7, q8⟩ := may1_cons h
    rcases List.mem_cons.1 hu with rfl | hu
    · exact ⟨q1, q2, q3, q4, q5, q6, q7⟩
    · obtain ⟨p1, p2, p3, p4, p5, p6, p7⟩ := may1_mem r _ q8 u hu
      exact ⟨p1, p2, by omega, p4, p5, p6, p7⟩

theorem turn_AC (l : List U) (at' by' : Int) (hby : by' = 1 ∨ by' = -1) : ACv Try.prog 80 [uA (some l), .s (.pv (.lit (.int .i64 at'))), .s (.pv (.lit (.int .i64 by')))] (Turn l at' by') := by
  intro L S hL
  refine fn_St (n := 69) (rs := [.tmp 6, .tmp 7]) hands_val RdT.ok RdT.mixed Try.func80 rfl (by kernel_rfl) rfl rfl rfl (by omega) ?_
  intro hS
  show awp _ _ _ _ _ (St L 69 [(0, row 4 (l.map encU)), (1, int at'), (2, int by')] S [])
  cases hmay : may (some l) with
  | false =>
    repeat' (first
    | (with_reducible refine want_none ?_)
    | (with_reducible refine c_seq ?_)
    | (with_reducible refine c_region ?_)
    | ((with_reducible refine c_regionD ?_ ?_ ?_ ?_); (kernel_rfl); (exact rfl); (exact rfl))
    | (with_reducible refine c_block ?_)
    | (with_reducible refine aops_nil ?_)
    | (with_reducible refine k_normal ?_)
    | (with_reducible refine c_skip ?_)
    | (with_reducible refine c_exit ?_)
    | (with_reducible refine c_ret ?_)
    | (with_reducible refine k_ret ?_)
    | (with_reducible refine k_exit ?_)
    | (with_reducible refine kl_ret ?_)
    | (with_reducible refine kl_exit ?_)
    | (with_reducible refine kr_ret ?_)
    | (with_reducible refine kr_exit ?_)
    | (with_reducible refine kb_normal ?_)
    | (with_reducible refine kb_ret ?_)
    | (with_reducible refine kb_hit ?_)
    | ((with_reducible refine kb_miss ?_ ?_); exact rfl)
    | ((with_reducible apply want_run); exact rfl; exact rfl)
    | ((with_reducible apply want_skip); exact rfl; exact rfl; exact rfl)
    | ((with_reducible apply want_out); exact rfl; exact rfl; exact rfl)
    | ((with_reducible apply want_forkF); exact rfl; exact rfl; exact rfl; (first | exact Bp.not Bp.dec | exact Bp.dec | exact Bp.not Bp.bool | exact Bp.bool); all_goals intro hc)
    | ((with_reducible apply want_forkT); exact rfl; exact rfl; exact rfl; (first | exact Bp.not Bp.dec | exact Bp.dec | exact Bp.not Bp.bool | exact Bp.bool); all_goals intro hc)
    | ((with_reducible apply st_callv); exact rfl; exact rfl; exact rfl; exact rfl; exact find_AC (some l) _; (rintro v rfl)) | ((with_reducible apply st_callv); exact rfl; exact rfl; exact rfl; exact rfl; exact may_AC (some l); (rintro v rfl); rw [hmay])
    | ((with_reducible apply st_alloc); exact rfl; exact rfl; exact rfl; exact rfl)
    | ((with_reducible apply st_box); exact rfl; exact rfl; exact rfl; exact rfl)
    | ((with_reducible apply st_loadpelK); exact rfl; exact rfl; assumption; exact rfl; exact rfl)
    | ((with_reducible apply st_loadpel); exact rfl; exact rfl; omega; exact rfl; (intro u hu; refine ⟨_, rfl, ?_⟩; try simp only [Int.toNat_natCast] at hu))
    | ((with_reducible apply st_load); exact rfl; exact rfl; exact rfl; exact rfl; exact rfl)
    | ((with_reducible apply st_store); exact rfl; exact rfl; exact rfl; exact rfl; exact rfl; exact rfl)
    | ((with_reducible apply st_idx); exact rfl; exact rfl; exact rfl; exact rfl; exact rfl; omega)
    | ((with_reducible apply st_len RdT.ok); exact rfl; exact rfl; exact rfl; intro hlen)
    | ((with_reducible apply st_lennil RdT.ok); exact rfl; exact rfl; exact rfl)
    | ((with_reducible apply st_add); exact rfl; exact rfl; exact rfl; omega)
    | ((with_reducible apply st_sub); exact rfl; exact rfl; exact rfl; omega)
    | ((with_reducible apply st_q RdT.ok); exact rfl; exact rfl)
    | ((with_reducible apply c_condT); exact rfl)
    | ((with_reducible apply c_condF); exact rfl)
    | ((with_reducible apply c_cond); exact rfl; (first | exact Bp.not Bp.dec | exact Bp.dec | exact Bp.not Bp.bool | exact Bp.bool); all_goals intro hc))
    (with_reducible apply r_tup); exact rfl; exact .tmp rfl (.tmp rfl .nil); exact rfl; exact .cons (.s (.pv _)) (.cons (.s (.pv _)) .nil); exact hS
    exact ⟨rfl, _, rfl, .no (.inl hmay)⟩
  | true =>
    have hlen16 : (l.length : Int) ≤ 16 := by
      have := may1_length l 0 hmay
      omega
    rcases find_spec l at' with ⟨h1, h2, _⟩ | ⟨j, u, h1, h2, h3, h4, h5⟩
    · repeat' (first
    | (with_reducible refine want_none ?_)
    | (with_reducible refine c_seq ?_)
    | (with_reducible refine c_region ?_)
    | ((with_reducible refine c_regionD ?_ ?_ ?_ ?_); (kernel_rfl); (exact rfl); (exact rfl))
    | (with_reducible refine c_block ?_)
    | (with_reducible refine aops_nil ?_)
    | (with_reducible refine k_normal ?_)
    | (with_reducible refine c_skip ?_)
    | (with_reducible refine c_exit ?_)
    | (with_reducible refine c_ret ?_)
    | (with_reducible refine k_ret ?_)
    | (with_reducible refine k_exit ?_)
    | (with_reducible refine kl_ret ?_)
    | (with_reducible refine kl_exit ?_)
    | (with_reducible refine kr_ret ?_)
    | (with_reducible refine kr_exit ?_)
    | (with_reducible refine kb_normal ?_)
    | (with_reducible refine kb_ret ?_)
    | (with_reducible refine kb_hit ?_)
    | ((with_reducible refine kb_miss ?_ ?_); exact rfl)
    | ((with_reducible apply want_run); exact rfl; exact rfl)
    | ((with_reducible apply want_skip); exact rfl; exact rfl; exact rfl)
    | ((with_reducible apply want_out); exact rfl; exact rfl; exact rfl)
    | ((with_reducible apply want_forkF); exact rfl; exact rfl; exact rfl; (first | exact Bp.not Bp.dec | exact Bp.dec | exact Bp.not Bp.bool | exact Bp.bool); all_goals intro hc)
    | ((with_reducible apply want_forkT); exact rfl; exact rfl; exact rfl; (first | exact Bp.not Bp.dec | exact Bp.dec | exact Bp.not Bp.bool | exact Bp.bool); all_goals intro hc)
    | ((with_reducible apply st_callv); exact rfl; exact rfl; exact rfl; exact rfl; exact find_AC (some l) _; (rintro v rfl); rw [h1]) | ((with_reducible apply st_callv); exact rfl; exact rfl; exact rfl; exact rfl; exact may_AC (some l); (rintro v rfl); rw [hmay])
    | ((with_reducible apply st_alloc); exact rfl; exact rfl; exact rfl; exact rfl)
    | ((with_reducible apply st_box); exact rfl; exact rfl; exact rfl; exact rfl)
    | ((with_reducible apply st_loadpelK); exact rfl; exact rfl; assumption; exact rfl; exact rfl)
    | ((with_reducible apply st_loadpel); exact rfl; exact rfl; omega; exact rfl; (intro u hu; refine ⟨_, rfl, ?_⟩; try simp only [Int.toNat_natCast] at hu))
    | ((with_reducible apply st_load); exact rfl; exact rfl; exact rfl; exact rfl; exact rfl)
    | ((with_reducible apply st_store); exact rfl; exact rfl; exact rfl; exact rfl; exact rfl; exact rfl)
    | ((with_reducible apply st_idx); exact rfl; exact rfl; exact rfl; exact rfl; exact rfl; omega)
    | ((with_reducible apply st_len RdT.ok); exact rfl; exact rfl; exact rfl; intro hlen)
    | ((with_reducible apply st_lennil RdT.ok); exact rfl; exact rfl; exact rfl)
    | ((with_reducible apply st_add); exact rfl; exact rfl; exact rfl; omega)
    | ((with_reducible apply st_sub); exact rfl; exact rfl; exact rfl; omega)
    | ((with_reducible apply st_q RdT.ok); exact rfl; exact rfl)
    | ((with_reducible apply c_condT); exact rfl)
    | ((with_reducible apply c_condF); exact rfl)
    | ((with_reducible apply c_cond); exact rfl; (first | exact Bp.not Bp.dec | exact Bp.dec | exact Bp.not Bp.bool | exact Bp.bool); all_goals intro hc))
      all_goals first
        | (exfalso; omega)
        | ((with_reducible apply r_tup); exact rfl; exact .tmp rfl (.tmp rfl .nil); exact rfl; exact .cons (.s (.pv _)) (.cons (.s (.pv _)) .nil); exact hS
           exact ⟨rfl, _, rfl, .no (.inr (.inl h2))⟩)
    · have hj : j < l.length := (List.getElem?_eq_some_iff.1 h2).1
      obtain ⟨_, _, _, _, q5, q6, _⟩ := may1_mem l 0 hmay u (List.mem_of_getElem? h2)
      repeat' (first
    | (with_reducible refine want_none ?_)
    | (with_reducible refine c_seq ?_)
    | (with_reducible refine c_region ?_)
    | ((with_reducible refine c_regionD ?_ ?_ ?_ ?_); (kernel_rfl); (exact rfl); (exact rfl))
    | (with_reducible refine c_block ?_)
    | (with_reducible refine aops_nil ?_)
    | (with_reducible refine k_normal ?_)
    | (with_reducible refine c_skip ?_)
    | (with_reducible refine c_exit ?_)
    | (with_reducible refine c_ret ?_)
    | (with_reducible refine k_ret ?_)
    | (with_reducible refine k_exit ?_)
    | (with_reducible refine kl_ret ?_)
    | (with_reducible refine kl_exit ?_)
    | (with_reducible refine kr_ret ?_)
    | (with_reducible refine kr_exit ?_)
    | (with_reducible refine kb_normal ?_)
    | (with_reducible refine kb_ret ?_)
    | (with_reducible refine kb_hit ?_)
    | ((with_reducible refine kb_miss ?_ ?_); exact rfl)
    | ((with_reducible apply want_run); exact rfl; exact rfl)
    | ((with_reducible apply want_skip); exact rfl; exact rfl; exact rfl)
    | ((with_reducible apply want_out); exact rfl; exact rfl; exact rfl)
    | ((with_reducible apply want_forkF); exact rfl; exact rfl; exact rfl; (first | exact Bp.not Bp.dec | exact Bp.dec | exact Bp.not Bp.bool | exact Bp.bool); all_goals intro hc)
    | ((with_reducible apply want_forkT); exact rfl; exact rfl; exact rfl; (first | exact Bp.not Bp.dec | exact Bp.dec | exact Bp.not Bp.bool | exact Bp.bool); all_goals intro hc)
    | ((with_reducible apply st_callv); exact rfl; exact rfl; exact rfl; exact rfl; exact find_AC (some l) _; (rintro v rfl); rw [h1]) | ((with_reducible apply st_callv); exact rfl; exact rfl; exact rfl; exact rfl; exact may_AC (some l); (rintro v rfl); rw [hmay]) | ((with_reducible apply st_callo); exact rfl; exact rfl; exact rfl; exact rfl; exact clone_row l (by omega); (rintro es rfl; rw [List.length_map])) | ((with_reducible apply st_idxown); exact rfl; exact rfl; exact rfl; exact rfl; exact rfl; exact rfl; omega) | ((with_reducible apply st_loadpr); exact rfl; exact rfl; exact rfl; (first | omega | (simp only [List.length_set]; omega)); exact rfl; (intro w hw; (first | (rw [Int.toNat_natCast, h2] at hw) | (rw [Int.toNat_natCast, List.getElem?_set_self hj] at hw)); cases hw; refine ⟨_, rfl, ?_⟩)) | ((with_reducible apply st_storeprU); exact rfl; exact rfl; exact rfl; exact rfl; exact rfl; exact rfl; omega; (intro w hw; rw [Int.toNat_natCast, h2] at hw; cases hw; refine ⟨{ u with count := u.count + by' }, _, rfl, rfl, rfl, ?_⟩))
    | ((with_reducible apply st_alloc); exact rfl; exact rfl; exact rfl; exact rfl)
    | ((with_reducible apply st_box); exact rfl; exact rfl; exact rfl; exact rfl)
    | ((with_reducible apply st_loadpelK); exact rfl; exact rfl; assumption; exact rfl; exact rfl)
    | ((with_reducible apply st_loadpel); exact rfl; exact rfl; omega; exact rfl; (intro u hu; refine ⟨_, rfl, ?_⟩; try simp only [Int.toNat_natCast] at hu))
    | ((with_reducible apply st_load); exact rfl; exact rfl; exact rfl; exact rfl; exact rfl)
    | ((with_reducible apply st_store); exact rfl; exact rfl; exact rfl; exact rfl; exact rfl; exact rfl)
    | ((with_reducible apply st_idx); exact rfl; exact rfl; exact rfl; exact rfl; exact rfl; omega)
    | ((with_reducible apply st_len RdT.ok); exact rfl; exact rfl; exact rfl; intro hlen)
    | ((with_reducible apply st_lennil RdT.ok); exact rfl; exact rfl; exact rfl)
    | ((with_reducible apply st_add); exact rfl; exact rfl; exact rfl; omega)
    | ((with_reducible apply st_sub); exact rfl; exact rfl; exact rfl; omega)
    | ((with_reducible apply st_q RdT.ok); exact rfl; exact rfl)
    | ((with_reducible apply c_condT); exact rfl)
    | ((with_reducible apply c_condF); exact rfl)
    | ((with_reducible apply c_cond); exact rfl; (first | exact Bp.not Bp.dec | exact Bp.dec | exact Bp.not Bp.bool | exact Bp.bool); all_goals intro hc))
      · (with_reducible apply r_tup); exact rfl; exact .tmp rfl (.tmp rfl .nil); exact rfl; exact .cons (.s (.pv _)) (.cons (.s (.pv _)) .nil); exact hS
        exact ⟨rfl, _, rfl, .no (.inr (.inl (by rw [h4]; exact hc)))⟩
      · (with_reducible apply r_tup); exact rfl; exact .tmp rfl (.tmp rfl .nil); exact rfl; exact .cons (.s (.pv _)) (.cons (.s (.pv _)) .nil); exact hS
        exact ⟨rfl, _, rfl, .no (.inr (.inr (by rw [h4]; omega)))⟩
      · have hset : (l.set j { u with count := u.count + by' }).length = l.length := List.length_set
        have hD := delete_AC (l.set j { u with count := u.count + by' }) j L 39 (L + 1) (mkO S L [(39, .row 41 4 ((l.set j { u with count := u.count + by' }).map encU))]) (by rw [hset]; exact hj) (by rw [hset]; simp only [maxLen]; omega) (by omega) (mkO_own _ _ _ _)
        rw [hset] at hD
        repeat' (first
    | (with_reducible refine want_none ?_)
    | (with_reducible refine c_seq ?_)
    | (with_reducible refine c_region ?_)
    | ((with_reducible refine c_regionD ?_ ?_ ?_ ?_); (kernel_rfl); (exact rfl); (exact rfl))
    | (with_reducible refine c_block ?_)
    | (with_reducible refine aops_nil ?_)
    | (with_reducible refine k_normal ?_)
    | (with_reducible refine c_skip ?_)
    | (with_reducible refine c_exit ?_)
    | (with_reducible refine c_ret ?_)
    | (with_reducible refine k_ret ?_)
    | (with_reducible refine k_exit ?_)
    | (with_reducible refine kl_ret ?_)
    | (with_reducible refine kl_exit ?_)
    | (with_reducible refine kr_ret ?_)
    | (with_reducible refine kr_exit ?_)
    | (with_reducible refine kb_normal ?_)
    | (with_reducible refine kb_ret ?_)
    | (with_reducible refine kb_hit ?_)
    | ((with_reducible refine kb_miss ?_ ?_); exact rfl)
    | ((with_reducible apply want_run); exact rfl; exact rfl)
    | ((with_reducible apply want_skip); exact rfl; exact rfl; exact rfl)
    | ((with_reducible apply want_out); exact rfl; exact rfl; exact rfl)
    | ((with_reducible apply want_forkF); exact rfl; exact rfl; exact rfl; (first | exact Bp.not Bp.dec | exact Bp.dec | exact Bp.not Bp.bool | exact Bp.bool); all_goals intro hc)
    | ((with_reducible apply want_forkT); exact rfl; exact rfl; exact rfl; (first | exact Bp.not Bp.dec | exact Bp.dec | exact Bp.not Bp.bool | exact Bp.bool); all_goals intro hc)
    | ((with_reducible apply st_callN); exact rfl; exact rfl; exact rfl; exact rfl; exact hD; (rintro r S' ⟨es', rfl, h6, h7, rfl⟩; refine ⟨_, [(39, .row 41 4 es')], rfl, mkO_aset rfl, ?_⟩))
    | ((with_reducible apply st_alloc); exact rfl; exact rfl; exact rfl; exact rfl)
    | ((with_reducible apply st_box); exact rfl; exact rfl; exact rfl; exact rfl)
    | ((with_reducible apply st_loadpelK); exact rfl; exact rfl; assumption; exact rfl; exact rfl)
    | ((with_reducible apply st_loadpel); exact rfl; exact rfl; omega; exact rfl; (intro u hu; refine ⟨_, rfl, ?_⟩; try simp only [Int.toNat_natCast] at hu))
    | ((with_reducible apply st_load); exact rfl; exact rfl; exact rfl; exact rfl; exact rfl)
    | ((with_reducible apply st_store); exact rfl; exact rfl; exact rfl; exact rfl; exact rfl; exact rfl)
    | ((with_reducible apply st_idx); exact rfl; exact rfl; exact rfl; exact rfl; exact rfl; omega)
    | ((with_reducible apply st_len RdT.ok); exact rfl; exact rfl; exact rfl; intro hlen)
    | ((with_reducible apply st_lennil RdT.ok); exact rfl; exact rfl; exact rfl)
    | ((with_reducible apply st_add); exact rfl; exact rfl; exact rfl; omega)
    | ((with_reducible apply st_sub); exact rfl; exact rfl; exact rfl; omega)
    | ((with_reducible apply st_q RdT.ok); exact rfl; exact rfl)
    | ((with_reducible apply c_condT); exact rfl)
    | ((with_reducible apply c_condF); exact rfl)
    | ((with_reducible apply c_cond); exact rfl; (first | exact Bp.not Bp.dec | exact Bp.dec | exact Bp.not Bp.bool | exact Bp.bool); all_goals intro hc))
        (with_reducible apply r_tup); exact rfl; exact .tmp rfl (.tmp rfl .nil); exact rfl; exact .cons (.s (.slT rfl h6)) (.cons (.s (.pv _)) .nil); exact hS
        refine ⟨rfl, _, rfl, ?_⟩
        have := Turn.yes (l := l) (at' := at') (by' := by') j u hmay h2 h3 h5 (by assumption) (by omega)
        rw [turn1, if_pos (by simp_all)] at this
        rw [List.eraseIdx_set_eq]
        exact this
      all_goals
        (with_reducible apply r_tup); exact rfl; exact .tmp rfl (.tmp rfl .nil); exact rfl; exact .cons (.s (.sl rfl (by rw [List.length_map, List.length_set]))) (.cons (.s (.pv _)) .nil); exact hS
        refine ⟨rfl, _, rfl, ?_⟩
        have := Turn.yes (l := l) (at' := at') (by' := by') j u hmay h2 h3 h5 (by assumption) (by omega)
        rw [turn1, if_neg (by simp_all)] at this
        exact this
end Go.Proofs.Ytfdaioinghfjpaa
