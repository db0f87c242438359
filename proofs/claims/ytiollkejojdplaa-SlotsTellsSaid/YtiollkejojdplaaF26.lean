/- Contracts: the reference's turn, Inc, Dec. -/
import Derived.Test.YtiollkejojdplaaF25
namespace Go.Proofs.Ytiollkejojdplaa
open Go.Rd Go.RowKit
set_option maxRecDepth 20000
set_option linter.unusedSimpArgs false
set_option linter.unusedVariables false
set_option maxHeartbeats 4000000

def refL (at' by' : Int) : List U → List U
  | [] => []
  | u :: r => if u.pos = at' then (if 0 < u.count + by' ∨ u.old = true then { u with count := u.count + by' } :: refL at' by' r else refL at' by' r)
    else (if 0 < u.count ∨ u.old = true then u :: refL at' by' r else refL at' by' r)
theorem refL_none {at' by' : Int} : ∀ (l : List U) (e : Int), may1 e l = true → (∀ u ∈ l, u.pos ≠ at') → refL at' by' l = l
  | [], _, _, _ => rfl
  | u :: r, e, h, hn => by
    obtain ⟨g1, g2, g3, g4, g5, g6, g7, g8⟩ := may1_cons h
    rw [refL, if_neg (hn u (by simp)), if_pos (by rcases g7 with g7 | g7; exact .inr g7; exact .inl (by omega)), refL_none r _ g8 fun x hx => hn x (by simp [hx])]
theorem refL_turn {at' by' : Int} : ∀ (l : List U) (e : Int), may1 e l = true → 0 ≤ countOf at' l + by' → refL at' by' l = turnL at' by' l
  | [], _, _, _ => rfl
  | u :: r, e, h, h0 => by
    obtain ⟨g1, g2, g3, g4, g5, g6, g7, g8⟩ := may1_cons h
    rw [countOf] at h0
    rw [refL, turnL]
    split
    · rename_i hp
      rw [if_pos hp] at h0
      have hr := refL_none (at' := at') (by' := by') r _ g8 fun x hx => by have := may1_ge r _ g8 x hx; omega
      rw [hr]
      by_cases hz : u.count + by' = 0 ∧ u.old = false
      · rw [if_pos hz, if_neg (by rw [hz.1, hz.2]; simp)]
      · rw [if_neg hz, if_pos]
        by_cases hq : 0 < u.count + by'
        · exact .inl hq
        · right
          cases ho : u.old with
          | true => rfl
          | false => exact absurd ⟨by omega, ho⟩ hz
    · rename_i hp
      rw [if_neg hp] at h0
      rw [if_pos (by rcases g7 with g7 | g7; exact .inr g7; exact .inl (by omega)), refL_turn r _ g8 h0]
theorem refTurn_AC (o : Option (List U)) (at' by' : Int) (hby : by' = 1 ∨ by' = -1) : ACv Try.prog 85 [uA o, .s (.pv (.lit (.int .i64 at'))), .s (.pv (.lit (.int .i64 by')))] fun v => v = turnV (turnO o at' by') := by
  intro L S hL
  refine fn_St (n := 60) (rs := [.tmp 6, .tmp 7]) hands_val RdT.ok RdT.mixed Try.func85 rfl (by kernel_rfl) rfl rfl rfl hL ?_
  intro hS
  cases hmay : may o with
  | false =>
    cases o with
    | none => cases hmay
    | some l =>
      show awp _ _ _ _ _ (St L 60 [(0, row 4 (l.map encU)), (1, int at'), (2, int by')] S [])
      repeat' (first
    | (with_reducible refine want_none ?_)
    | (with_reducible refine c_seq ?_)
    | (with_reducible refine c_region ?_)
    | ((with_reducible refine c_regionD ?_ ?_ ?_); (kernel_rfl); (exact rfl))
    | (with_reducible refine c_block ?_)
    | (with_reducible refine aops_nil ?_)
    | (with_reducible refine k_normal ?_)
    | (with_reducible refine c_skip ?_)
    | (with_reducible refine c_exit ?_)
    | (with_reducible refine c_ret ?_)
    | (with_reducible refine k_ret ?_)
    | (with_reducible refine k_exit ?_)
    | (with_reducible refine kl_ret ?_)
    | (with_reducible refine kl_exit ?_)
    | (with_reducible refine kr_ret ?_)
    | (with_reducible refine kr_exit ?_)
    | (with_reducible refine kb_normal ?_)
    | (with_reducible refine kb_ret ?_)
    | (with_reducible refine kb_hit ?_)
    | ((with_reducible refine kb_miss ?_ ?_); exact rfl)
    | ((with_reducible apply want_run); exact rfl; exact rfl)
    | ((with_reducible apply want_skip); exact rfl; exact rfl; exact rfl)
    | ((with_reducible apply want_out); exact rfl; exact rfl; exact rfl)
    | ((with_reducible apply want_forkF); exact rfl; exact rfl; exact rfl; (first | exact Bp.not Bp.dec | exact Bp.dec | exact Bp.not Bp.bool | exact Bp.bool); all_goals intro hc)
    | ((with_reducible apply want_forkT); exact rfl; exact rfl; exact rfl; (first | exact Bp.not Bp.dec | exact Bp.dec | exact Bp.not Bp.bool | exact Bp.bool); all_goals intro hc)
    | ((with_reducible apply st_callv); exact rfl; exact rfl; exact rfl; exact rfl; exact refMay_AC (some l); (rintro v rfl); rw [hmay])
    | ((with_reducible apply st_alloc); exact rfl; exact rfl; exact rfl; exact rfl)
    | ((with_reducible apply st_box); exact rfl; exact rfl; exact rfl; exact rfl)
    | ((with_reducible apply st_loadpelK); exact rfl; exact rfl; assumption; exact rfl; exact rfl)
    | ((with_reducible apply st_loadpel); exact rfl; exact rfl; omega; exact rfl; (intro u hu; refine ⟨_, rfl, ?_⟩; try simp only [Int.toNat_natCast] at hu))
    | ((with_reducible apply st_load); exact rfl; exact rfl; exact rfl; exact rfl; exact rfl)
    | ((with_reducible apply st_store); exact rfl; exact rfl; exact rfl; exact rfl; exact rfl; exact rfl)
    | ((with_reducible apply st_idx); exact rfl; exact rfl; exact rfl; exact rfl; exact rfl; omega)
    | ((with_reducible apply st_len RdT.ok); exact rfl; exact rfl; exact rfl; intro hlen)
    | ((with_reducible apply st_lennil RdT.ok); exact rfl; exact rfl; exact rfl)
    | ((with_reducible apply st_add); exact rfl; exact rfl; exact rfl; omega)
    | ((with_reducible apply st_sub); exact rfl; exact rfl; exact rfl; omega)
    | ((with_reducible apply st_q RdT.ok); exact rfl; exact rfl)
    | ((with_reducible apply c_condT); exact rfl)
    | ((with_reducible apply c_condF); exact rfl)
    | ((with_reducible apply c_cond); exact rfl; (first | exact Bp.not Bp.dec | exact Bp.dec | exact Bp.not Bp.bool | exact Bp.bool); all_goals intro hc))
      all_goals
        (with_reducible apply r_tup); exact rfl; exact .tmp rfl (.tmp rfl .nil); exact rfl; exact .cons (.s (.pv _)) (.cons (.s (.pv _)) .nil); exact hS; refine ⟨rfl, _, rfl, ?_⟩
        rw [turnO, if_neg (by rw [hmay]; simp)]; rfl
  | true =>
    obtain ⟨c, hc0⟩ : ∃ c, count o at' = c := ⟨_, rfl⟩
    have hcr := count_range (at' := at') hmay
    rw [hc0] at hcr
    have htd : turnO o at' by' = if c ≠ 0 ∧ c + by' ≤ 1000000 then some (refL at' by' (o.getD [])) else none := by
      unfold turnO
      rw [show countOf at' (o.getD []) = c from hc0]
      simp only [hmay, true_and]
      split
      · rename_i h
        rw [refL_turn _ 0 hmay (by rw [show countOf at' (o.getD []) = c from hc0]; omega)]
      · rfl
    rw [htd]
    clear htd
    cases o with
    | none =>
      have : c = 0 := hc0.symm
      subst this
      show awp _ _ _ _ _ (St L 60 [(0, nilS), (1, int at'), (2, int by')] S [])
      repeat' (first
    | (with_reducible refine want_none ?_)
    | (with_reducible refine c_seq ?_)
    | (with_reducible refine c_region ?_)
    | ((with_reducible refine c_regionD ?_ ?_ ?_); (kernel_rfl); (exact rfl))
    | (with_reducible refine c_block ?_)
    | (with_reducible refine aops_nil ?_)
    | (with_reducible refine k_normal ?_)
    | (with_reducible refine c_skip ?_)
    | (with_reducible refine c_exit ?_)
    | (with_reducible refine c_ret ?_)
    | (with_reducible refine k_ret ?_)
    | (with_reducible refine k_exit ?_)
    | (with_reducible refine kl_ret ?_)
    | (with_reducible refine kl_exit ?_)
    | (with_reducible refine kr_ret ?_)
    | (with_reducible refine kr_exit ?_)
    | (with_reducible refine kb_normal ?_)
    | (with_reducible refine kb_ret ?_)
    | (with_reducible refine kb_hit ?_)
    | ((with_reducible refine kb_miss ?_ ?_); exact rfl)
    | ((with_reducible apply want_run); exact rfl; exact rfl)
    | ((with_reducible apply want_skip); exact rfl; exact rfl; exact rfl)
    | ((with_reducible apply want_out); exact rfl; exact rfl; exact rfl)
    | ((with_reducible apply want_forkF); exact rfl; exact rfl; exact rfl; (first | exact Bp.not Bp.dec | exact Bp.dec | exact Bp.not Bp.bool | exact Bp.bool); all_goals intro hc)
    | ((with_reducible apply want_forkT); exact rfl; exact rfl; exact rfl; (first | exact Bp.not Bp.dec | exact Bp.dec | exact Bp.not Bp.bool | exact Bp.bool); all_goals intro hc)
    | ((with_reducible apply st_callv); exact rfl; exact rfl; exact rfl; exact rfl; exact refMay_AC none; (rintro v rfl); rw [hmay]) | ((with_reducible apply st_callv); exact rfl; exact rfl; exact rfl; exact rfl; exact refCount_AC none at'; (rintro v rfl); rw [hc0])
    | ((with_reducible apply st_alloc); exact rfl; exact rfl; exact rfl; exact rfl)
    | ((with_reducible apply st_box); exact rfl; exact rfl; exact rfl; exact rfl)
    | ((with_reducible apply st_loadpelK); exact rfl; exact rfl; assumption; exact rfl; exact rfl)
    | ((with_reducible apply st_loadpel); exact rfl; exact rfl; omega; exact rfl; (intro u hu; refine ⟨_, rfl, ?_⟩; try simp only [Int.toNat_natCast] at hu))
    | ((with_reducible apply st_load); exact rfl; exact rfl; exact rfl; exact rfl; exact rfl)
    | ((with_reducible apply st_store); exact rfl; exact rfl; exact rfl; exact rfl; exact rfl; exact rfl)
    | ((with_reducible apply st_idx); exact rfl; exact rfl; exact rfl; exact rfl; exact rfl; omega)
    | ((with_reducible apply st_len RdT.ok); exact rfl; exact rfl; exact rfl; intro hlen)
    | ((with_reducible apply st_lennil RdT.ok); exact rfl; exact rfl; exact rfl)
    | ((with_reducible apply st_add); exact rfl; exact rfl; exact rfl; omega)
    | ((with_reducible apply st_sub); exact rfl; exact rfl; exact rfl; omega)
    | ((with_reducible apply st_q RdT.ok); exact rfl; exact rfl)
    | ((with_reducible apply c_condT); exact rfl)
    | ((with_reducible apply c_condF); exact rfl)
    | ((with_reducible apply c_cond); exact rfl; (first | exact Bp.not Bp.dec | exact Bp.dec | exact Bp.not Bp.bool | exact Bp.bool); all_goals intro hc))
      all_goals first
        | (exfalso; omega)
        | ((with_reducible apply r_tup); exact rfl; exact .tmp rfl (.tmp rfl .nil); exact rfl; exact .cons (.s (.pv _)) (.cons (.s (.pv _)) .nil); exact hS; refine ⟨rfl, _, rfl, ?_⟩
           rw [if_neg (by omega)]; rfl)
    | some l =>
      show awp _ _ _ _ _ (St L 60 [(0, row 4 (l.map encU)), (1, int at'), (2, int by')] S [])
      have hlen16 : (l.length : Int) ≤ 16 := by
        have := may1_length l 0 hmay
        omega
      repeat' (first
    | (with_reducible refine want_none ?_)
    | (with_reducible refine c_seq ?_)
    | (with_reducible refine c_region ?_)
    | ((with_reducible refine c_regionD ?_ ?_ ?_); (kernel_rfl); (exact rfl))
    | (with_reducible refine c_block ?_)
    | (with_reducible refine aops_nil ?_)
    | (with_reducible refine k_normal ?_)
    | (with_reducible refine c_skip ?_)
    | (with_reducible refine c_exit ?_)
    | (with_reducible refine c_ret ?_)
    | (with_reducible refine k_ret ?_)
    | (with_reducible refine k_exit ?_)
    | (with_reducible refine kl_ret ?_)
    | (with_reducible refine kl_exit ?_)
    | (with_reducible refine kr_ret ?_)
    | (with_reducible refine kr_exit ?_)
    | (with_reducible refine kb_normal ?_)
    | (with_reducible refine kb_ret ?_)
    | (with_reducible refine kb_hit ?_)
    | ((with_reducible refine kb_miss ?_ ?_); exact rfl)
    | ((with_reducible apply want_run); exact rfl; exact rfl)
    | ((with_reducible apply want_skip); exact rfl; exact rfl; exact rfl)
    | ((with_reducible apply want_out); exact rfl; exact rfl; exact rfl)
    | ((with_reducible apply want_forkF); exact rfl; exact rfl; exact rfl; (first | exact Bp.not Bp.dec | exact Bp.dec | exact Bp.not Bp.bool | exact Bp.bool); all_goals intro hc)
    | ((with_reducible apply want_forkT); exact rfl; exact rfl; exact rfl; (first | exact Bp.not Bp.dec | exact Bp.dec | exact Bp.not Bp.bool | exact Bp.bool); all_goals intro hc)
    | ((with_reducible apply st_callv); exact rfl; exact rfl; exact rfl; exact rfl; exact refMay_AC (some l); (rintro v rfl); rw [hmay]) | ((with_reducible apply st_callv); exact rfl; exact rfl; exact rfl; exact rfl; exact refCount_AC (some l) at'; (rintro v rfl); rw [hc0]) | ((with_reducible apply st_buildslice); exact rfl; exact rfl; exact rfl; exact rfl; exact rfl; exact rfl; exact rfl; exact rfl)
    | ((with_reducible apply st_alloc); exact rfl; exact rfl; exact rfl; exact rfl)
    | ((with_reducible apply st_box); exact rfl; exact rfl; exact rfl; exact rfl)
    | ((with_reducible apply st_loadpelK); exact rfl; exact rfl; assumption; exact rfl; exact rfl)
    | ((with_reducible apply st_loadpel); exact rfl; exact rfl; omega; exact rfl; (intro u hu; refine ⟨_, rfl, ?_⟩; try simp only [Int.toNat_natCast] at hu))
    | ((with_reducible apply st_load); exact rfl; exact rfl; exact rfl; exact rfl; exact rfl)
    | ((with_reducible apply st_store); exact rfl; exact rfl; exact rfl; exact rfl; exact rfl; exact rfl)
    | ((with_reducible apply st_idx); exact rfl; exact rfl; exact rfl; exact rfl; exact rfl; omega)
    | ((with_reducible apply st_len RdT.ok); exact rfl; exact rfl; exact rfl; intro hlen)
    | ((with_reducible apply st_lennil RdT.ok); exact rfl; exact rfl; exact rfl)
    | ((with_reducible apply st_add); exact rfl; exact rfl; exact rfl; omega)
    | ((with_reducible apply st_sub); exact rfl; exact rfl; exact rfl; omega)
    | ((with_reducible apply st_q RdT.ok); exact rfl; exact rfl)
    | ((with_reducible apply c_condT); exact rfl)
    | ((with_reducible apply c_condF); exact rfl)
    | ((with_reducible apply c_cond); exact rfl; (first | exact Bp.not Bp.dec | exact Bp.dec | exact Bp.not Bp.bool | exact Bp.bool); all_goals intro hc))
      all_goals first
        | ((with_reducible apply r_tup); exact rfl; exact .tmp rfl (.tmp rfl .nil); exact rfl; exact .cons (.s (.pv _)) (.cons (.s (.pv _)) .nil); exact hS; refine ⟨rfl, _, rfl, ?_⟩
           rw [if_neg (by omega)]; rfl)
        | skip
      rw [if_pos (by omega)]
      refine c_loop (β := Nat × List U) (fun b => b.1 ≤ l.length ∧ b.2.length ≤ b.1 ∧ refL at' by' l = b.2 ++ refL at' by' (l.drop b.1)) (fun b => l.length - b.1)
        (fun b => [(0, row 4 (l.map encU)), (1, int at'), (2, int by'), (8, .a (.s (.sl L 28 0 b.2.length))), (9, int b.1)])
        (fun b => [(28, .row 41 4 (b.2.map encU))]) (0, []) ⟨Nat.zero_le _, Nat.zero_le _, rfl⟩ ⟨rfl, rfl, rfl, rfl, rfl, trivial⟩ ⟨rfl, trivial⟩ rfl rfl ?_
      rintro ⟨k, out⟩ ⟨hk, ho, hm⟩
      dsimp only at hk ho hm ⊢
      rcases Nat.lt_or_ge k l.length with hk' | hk'
      · obtain ⟨u, hu⟩ : ∃ u, l[k]? = some u := ⟨_, List.getElem?_eq_getElem hk'⟩
        obtain ⟨q1, q2, q3, q4, q5, q6, q7⟩ := may1_mem l 0 hmay u (List.mem_of_getElem? hu)
        repeat' (first
    | (with_reducible refine want_none ?_)
    | (with_reducible refine c_seq ?_)
    | (with_reducible refine c_region ?_)
    | ((with_reducible refine c_regionD ?_ ?_ ?_); (kernel_rfl); (exact rfl))
    | (with_reducible refine c_block ?_)
    | (with_reducible refine aops_nil ?_)
    | (with_reducible refine k_normal ?_)
    | (with_reducible refine c_skip ?_)
    | (with_reducible refine c_exit ?_)
    | (with_reducible refine c_ret ?_)
    | (with_reducible refine k_ret ?_)
    | (with_reducible refine k_exit ?_)
    | (with_reducible refine kl_ret ?_)
    | (with_reducible refine kl_exit ?_)
    | (with_reducible refine kr_ret ?_)
    | (with_reducible refine kr_exit ?_)
    | (with_reducible refine kb_normal ?_)
    | (with_reducible refine kb_ret ?_)
    | (with_reducible refine kb_hit ?_)
    | ((with_reducible refine kb_miss ?_ ?_); exact rfl)
    | ((with_reducible apply want_run); exact rfl; exact rfl)
    | ((with_reducible apply want_skip); exact rfl; exact rfl; exact rfl)
    | ((with_reducible apply want_out); exact rfl; exact rfl; exact rfl)
    | ((with_reducible apply want_forkF); exact rfl; exact rfl; exact rfl; (first | exact Bp.not Bp.dec | exact Bp.dec | exact Bp.not Bp.bool | exact Bp.bool); all_goals intro hc)
    | ((with_reducible apply want_forkT); exact rfl; exact rfl; exact rfl; (first | exact Bp.not Bp.dec | exact Bp.dec | exact Bp.not Bp.bool | exact Bp.bool); all_goals intro hc)
    | ((with_reducible apply st_buildslice); exact rfl; exact rfl; exact rfl; exact rfl; exact rfl; exact rfl; exact rfl; exact rfl) | ((with_reducible apply st_append1); exact rfl; exact rfl; exact rfl; exact rfl; (first | exact (List.length_map _).symm | exact rfl); exact .own rfl rfl rfl; exact (List.map_append (l₂ := [{ u with count := u.count + by' }])).symm; (rw [List.length_map, List.length_append]; refine ⟨?_, ?_⟩; (show _ * 32 ≤ _; simp at *; omega); (simp [maxLen] at *; omega)); exact rfl; exact rfl; exact rfl; exact rfl; exact rfl; exact rfl; exact rfl) | ((with_reducible apply st_append1); exact rfl; exact rfl; exact rfl; exact rfl; (first | exact (List.length_map _).symm | exact rfl); exact .own rfl rfl rfl; exact (List.map_append (l₂ := [u])).symm; (rw [List.length_map, List.length_append]; refine ⟨?_, ?_⟩; (show _ * 32 ≤ _; simp at *; omega); (simp [maxLen] at *; omega)); exact rfl; exact rfl; exact rfl; exact rfl; exact rfl; exact rfl; exact rfl)
    | ((with_reducible apply st_alloc); exact rfl; exact rfl; exact rfl; exact rfl)
    | ((with_reducible apply st_box); exact rfl; exact rfl; exact rfl; exact rfl)
    | ((with_reducible apply st_loadpelK); exact rfl; exact rfl; assumption; exact rfl; exact rfl)
    | ((with_reducible apply st_loadpel); exact rfl; exact rfl; omega; exact rfl; (intro u hu; refine ⟨_, rfl, ?_⟩; try simp only [Int.toNat_natCast] at hu))
    | ((with_reducible apply st_load); exact rfl; exact rfl; exact rfl; exact rfl; exact rfl)
    | ((with_reducible apply st_store); exact rfl; exact rfl; exact rfl; exact rfl; exact rfl; exact rfl)
    | ((with_reducible apply st_idx); exact rfl; exact rfl; exact rfl; exact rfl; exact rfl; omega)
    | ((with_reducible apply st_len RdT.ok); exact rfl; exact rfl; exact rfl; intro hlen)
    | ((with_reducible apply st_lennil RdT.ok); exact rfl; exact rfl; exact rfl)
    | ((with_reducible apply st_add); exact rfl; exact rfl; exact rfl; omega)
    | ((with_reducible apply st_sub); exact rfl; exact rfl; exact rfl; omega)
    | ((with_reducible apply st_q RdT.ok); exact rfl; exact rfl)
    | ((with_reducible apply c_condT); exact rfl)
    | ((with_reducible apply c_condF); exact rfl)
    | ((with_reducible apply c_cond); exact rfl; (first | exact Bp.not Bp.dec | exact Bp.dec | exact Bp.not Bp.bool | exact Bp.bool); all_goals intro hc))
        all_goals try (exfalso; omega)
        all_goals first
          | ((with_reducible refine k_back (k + 1, out ++ [{ u with count := u.count + by' }]) ?_ ?_ ?_ ?_ ?_ ?_)
             · refine ⟨by dsimp only; omega, by simp at *; omega, ?_⟩
               rw [hm, drop_cons hu, refL, if_pos (by assumption), if_pos (by first | exact .inl (by assumption) | exact .inr (by assumption))]
               simp
             · dsimp only; omega
             · exact ⟨rfl, rfl, rfl, by show TV.a (.s (.sl L 28 0 (List.map encU _).length)) = _; rw [List.length_map], rfl, trivial⟩
             · exact ⟨rfl, trivial⟩
             · exact rfl
             · exact rfl)
          | ((with_reducible refine k_back (k + 1, out ++ [u]) ?_ ?_ ?_ ?_ ?_ ?_)
             · refine ⟨by dsimp only; omega, by simp at *; omega, ?_⟩
               rw [hm, drop_cons hu, refL, if_neg (by assumption), if_pos (by first | exact .inl (by assumption) | exact .inr (by assumption))]
               simp
             · dsimp only; omega
             · exact ⟨rfl, rfl, rfl, by show TV.a (.s (.sl L 28 0 (List.map encU _).length)) = _; rw [List.length_map], rfl, trivial⟩
             · exact ⟨rfl, trivial⟩
             · exact rfl
             · exact rfl)
          | ((with_reducible refine k_back (k + 1, out) ?_ ?_ ?_ ?_ ?_ ?_)
             · refine ⟨by dsimp only; omega, by dsimp only; omega, ?_⟩
               rw [hm, drop_cons hu, refL]
               first
                 | rw [if_pos (by assumption), if_neg (by rintro (h | h) <;> simp_all <;> omega)]
                 | rw [if_neg (by assumption), if_neg (by rintro (h | h) <;> simp_all <;> omega)]
             · dsimp only; omega
             · exact ⟨rfl, rfl, rfl, rfl, rfl, trivial⟩
             · exact ⟨rfl, trivial⟩
             · exact rfl
             · exact rfl)
          | trace_state
      · repeat' (first
    | (with_reducible refine want_none ?_)
    | (with_reducible refine c_seq ?_)
    | (with_reducible refine c_region ?_)
    | ((with_reducible refine c_regionD ?_ ?_ ?_); (kernel_rfl); (exact rfl))
    | (with_reducible refine c_block ?_)
    | (with_reducible refine aops_nil ?_)
    | (with_reducible refine k_normal ?_)
    | (with_reducible refine c_skip ?_)
    | (with_reducible refine c_exit ?_)
    | (with_reducible refine c_ret ?_)
    | (with_reducible refine k_ret ?_)
    | (with_reducible refine k_exit ?_)
    | (with_reducible refine kl_ret ?_)
    | (with_reducible refine kl_exit ?_)
    | (with_reducible refine kr_ret ?_)
    | (with_reducible refine kr_exit ?_)
    | (with_reducible refine kb_normal ?_)
    | (with_reducible refine kb_ret ?_)
    | (with_reducible refine kb_hit ?_)
    | ((with_reducible refine kb_miss ?_ ?_); exact rfl)
    | ((with_reducible apply want_run); exact rfl; exact rfl)
    | ((with_reducible apply want_skip); exact rfl; exact rfl; exact rfl)
    | ((with_reducible apply want_out); exact rfl; exact rfl; exact rfl)
    | ((with_reducible apply want_forkF); exact rfl; exact rfl; exact rfl; (first | exact Bp.not Bp.dec | exact Bp.dec | exact Bp.not Bp.bool | exact Bp.bool); all_goals intro hc)
    | ((with_reducible apply want_forkT); exact rfl; exact rfl; exact rfl; (first | exact Bp.not Bp.dec | exact Bp.dec | exact Bp.not Bp.bool | exact Bp.bool); all_goals intro hc)
    | ((with_reducible apply st_alloc); exact rfl; exact rfl; exact rfl; exact rfl)
    | ((with_reducible apply st_box); exact rfl; exact rfl; exact rfl; exact rfl)
    | ((with_reducible apply st_loadpelK); exact rfl; exact rfl; assumption; exact rfl; exact rfl)
    | ((with_reducible apply st_loadpel); exact rfl; exact rfl; omega; exact rfl; (intro u hu; refine ⟨_, rfl, ?_⟩; try simp only [Int.toNat_natCast] at hu))
    | ((with_reducible apply st_load); exact rfl; exact rfl; exact rfl; exact rfl; exact rfl)
    | ((with_reducible apply st_store); exact rfl; exact rfl; exact rfl; exact rfl; exact rfl; exact rfl)
    | ((with_reducible apply st_idx); exact rfl; exact rfl; exact rfl; exact rfl; exact rfl; omega)
    | ((with_reducible apply st_len RdT.ok); exact rfl; exact rfl; exact rfl; intro hlen)
    | ((with_reducible apply st_lennil RdT.ok); exact rfl; exact rfl; exact rfl)
    | ((with_reducible apply st_add); exact rfl; exact rfl; exact rfl; omega)
    | ((with_reducible apply st_sub); exact rfl; exact rfl; exact rfl; omega)
    | ((with_reducible apply st_q RdT.ok); exact rfl; exact rfl)
    | ((with_reducible apply c_condT); exact rfl)
    | ((with_reducible apply c_condF); exact rfl)
    | ((with_reducible apply c_cond); exact rfl; (first | exact Bp.not Bp.dec | exact Bp.dec | exact Bp.not Bp.bool | exact Bp.bool); all_goals intro hc))
        all_goals try (exfalso; omega)
        (with_reducible apply r_tup); exact rfl; exact .tmp rfl (.tmp rfl .nil); exact rfl; exact .cons (.s (.sl rfl (by first | rfl | rw [List.length_map]))) (.cons (.s (.pv _)) .nil); exact hS; refine ⟨rfl, _, rfl, ?_⟩
        show _ = turnV (some (refL at' by' l))
        rw [hm, List.drop_of_length_le (by omega)]
        simp [refL, turnV, slA, slP]
theorem refInc_AC (o : Option (List U)) (at' : Int) : ACv Try.prog 23 [uA o, .s (.pv (.lit (.int .i64 at')))] fun v => v = turnV (turnO o at' 1) := by
  intro L S hL
  refine fn_St (n := 11) (rs := [.tmp 4, .tmp 5]) hands_val RdT.ok RdT.mixed Try.func23 rfl (by kernel_rfl) rfl rfl rfl (by omega) ?_
  intro hS
  obtain ⟨t, ht⟩ : ∃ t, turnO o at' 1 = t := ⟨_, rfl⟩
  cases o <;> cases t
  all_goals
    show awp _ _ _ _ _ (St L 11 [(0, .a (uA _)), (1, int at')] S [])
    repeat' (first
    | (with_reducible refine want_none ?_)
    | (with_reducible refine c_seq ?_)
    | (with_reducible refine c_region ?_)
    | ((with_reducible refine c_regionD ?_ ?_ ?_); (kernel_rfl); (exact rfl))
    | (with_reducible refine c_block ?_)
    | (with_reducible refine aops_nil ?_)
    | (with_reducible refine k_normal ?_)
    | (with_reducible refine c_skip ?_)
    | (with_reducible refine c_exit ?_)
    | (with_reducible refine c_ret ?_)
    | (with_reducible refine k_ret ?_)
    | (with_reducible refine k_exit ?_)
    | (with_reducible refine kl_ret ?_)
    | (with_reducible refine kl_exit ?_)
    | (with_reducible refine kr_ret ?_)
    | (with_reducible refine kr_exit ?_)
    | (with_reducible refine kb_normal ?_)
    | (with_reducible refine kb_ret ?_)
    | (with_reducible refine kb_hit ?_)
    | ((with_reducible refine kb_miss ?_ ?_); exact rfl)
    | ((with_reducible apply want_run); exact rfl; exact rfl)
    | ((with_reducible apply want_skip); exact rfl; exact rfl; exact rfl)
    | ((with_reducible apply want_out); exact rfl; exact rfl; exact rfl)
    | ((with_reducible apply want_forkF); exact rfl; exact rfl; exact rfl; (first | exact Bp.not Bp.dec | exact Bp.dec | exact Bp.not Bp.bool | exact Bp.bool); all_goals intro hc)
    | ((with_reducible apply want_forkT); exact rfl; exact rfl; exact rfl; (first | exact Bp.not Bp.dec | exact Bp.dec | exact Bp.not Bp.bool | exact Bp.bool); all_goals intro hc)
    | ((with_reducible apply st_callv); exact rfl; exact rfl; exact rfl; exact rfl; exact refTurn_AC none at' 1 (.inl rfl); (rintro v rfl); rw [ht]) | ((with_reducible apply st_callv); exact rfl; exact rfl; exact rfl; exact rfl; exact refTurn_AC (some _) at' 1 (.inl rfl); (rintro v rfl); rw [ht])
    | ((with_reducible apply st_alloc); exact rfl; exact rfl; exact rfl; exact rfl)
    | ((with_reducible apply st_box); exact rfl; exact rfl; exact rfl; exact rfl)
    | ((with_reducible apply st_loadpelK); exact rfl; exact rfl; assumption; exact rfl; exact rfl)
    | ((with_reducible apply st_loadpel); exact rfl; exact rfl; omega; exact rfl; (intro u hu; refine ⟨_, rfl, ?_⟩; try simp only [Int.toNat_natCast] at hu))
    | ((with_reducible apply st_load); exact rfl; exact rfl; exact rfl; exact rfl; exact rfl)
    | ((with_reducible apply st_store); exact rfl; exact rfl; exact rfl; exact rfl; exact rfl; exact rfl)
    | ((with_reducible apply st_idx); exact rfl; exact rfl; exact rfl; exact rfl; exact rfl; omega)
    | ((with_reducible apply st_len RdT.ok); exact rfl; exact rfl; exact rfl; intro hlen)
    | ((with_reducible apply st_lennil RdT.ok); exact rfl; exact rfl; exact rfl)
    | ((with_reducible apply st_add); exact rfl; exact rfl; exact rfl; omega)
    | ((with_reducible apply st_sub); exact rfl; exact rfl; exact rfl; omega)
    | ((with_reducible apply st_q RdT.ok); exact rfl; exact rfl)
    | ((with_reducible apply c_condT); exact rfl)
    | ((with_reducible apply c_condF); exact rfl)
    | ((with_reducible apply c_cond); exact rfl; (first | exact Bp.not Bp.dec | exact Bp.dec | exact Bp.not Bp.bool | exact Bp.bool); all_goals intro hc))
    (with_reducible apply r_tup); exact rfl; exact .tmp rfl (.tmp rfl .nil); exact rfl; exact .cons (.s (.pv _)) (.cons (.s (.pv _)) .nil); exact hS
    exact ⟨rfl, _, rfl, rfl⟩
theorem refDec_AC (o : Option (List U)) (at' : Int) : ACv Try.prog 25 [uA o, .s (.pv (.lit (.int .i64 at')))] fun v => v = turnV (turnO o at' (-1)) := by
  intro L S hL
  refine fn_St (n := 11) (rs := [.tmp 4, .tmp 5]) hands_val RdT.ok RdT.mixed Try.func25 rfl (by kernel_rfl) rfl rfl rfl (by omega) ?_
  intro hS
  obtain ⟨t, ht⟩ : ∃ t, turnO o at' (-1) = t := ⟨_, rfl⟩
  cases o <;> cases t
  all_goals
    show awp _ _ _ _ _ (St L 11 [(0, .a (uA _)), (1, int at')] S [])
    repeat' (first
    | (with_reducible refine want_none ?_)
    | (with_reducible refine c_seq ?_)
    | (with_reducible refine c_region ?_)
    | ((with_reducible refine c_regionD ?_ ?_ ?_); (kernel_rfl); (exact rfl))
    | (with_reducible refine c_block ?_)
    | (with_reducible refine aops_nil ?_)
    | (with_reducible refine k_normal ?_)
    | (with_reducible refine c_skip ?_)
    | (with_reducible refine c_exit ?_)
    | (with_reducible refine c_ret ?_)
    | (with_reducible refine k_ret ?_)
    | (with_reducible refine k_exit ?_)
    | (with_reducible refine kl_ret ?_)
    | (with_reducible refine kl_exit ?_)
    | (with_reducible refine kr_ret ?_)
    | (with_reducible refine kr_exit ?_)
    | (with_reducible refine kb_normal ?_)
    | (with_reducible refine kb_ret ?_)
    | (with_reducible refine kb_hit ?_)
    | ((with_reducible refine kb_miss ?_ ?_); exact rfl)
    | ((with_reducible apply want_run); exact rfl; exact rfl)
    | ((with_reducible apply want_skip); exact rfl; exact rfl; exact rfl)
    | ((with_reducible apply want_out); exact rfl; exact rfl; exact rfl)
    | ((with_reducible apply want_forkF); exact rfl; exact rfl; exact rfl; (first | exact Bp.not Bp.dec | exact Bp.dec | exact Bp.not Bp.bool | exact Bp.bool); all_goals intro hc)
    | ((with_reducible apply want_forkT); exact rfl; exact rfl; exact rfl; (first | exact Bp.not Bp.dec | exact Bp.dec | exact Bp.not Bp.bool | exact Bp.bool); all_goals intro hc)
    | ((with_reducible apply st_callv); exact rfl; exact rfl; exact rfl; exact rfl; exact refTurn_AC none at' (-1) (.inr rfl); (rintro v rfl); rw [ht]) | ((with_reducible apply st_callv); exact rfl; exact rfl; exact rfl; exact rfl; exact refTurn_AC (some _) at' (-1) (.inr rfl); (rintro v rfl); rw [ht])
    | ((with_reducible apply st_alloc); exact rfl; exact rfl; exact rfl; exact rfl)
    | ((with_reducible apply st_box); exact rfl; exact rfl; exact rfl; exact rfl)
    | ((with_reducible apply st_loadpelK); exact rfl; exact rfl; assumption; exact rfl; exact rfl)
    | ((with_reducible apply st_loadpel); exact rfl; exact rfl; omega; exact rfl; (intro u hu; refine ⟨_, rfl, ?_⟩; try simp only [Int.toNat_natCast] at hu))
    | ((with_reducible apply st_load); exact rfl; exact rfl; exact rfl; exact rfl; exact rfl)
    | ((with_reducible apply st_store); exact rfl; exact rfl; exact rfl; exact rfl; exact rfl; exact rfl)
    | ((with_reducible apply st_idx); exact rfl; exact rfl; exact rfl; exact rfl; exact rfl; omega)
    | ((with_reducible apply st_len RdT.ok); exact rfl; exact rfl; exact rfl; intro hlen)
    | ((with_reducible apply st_lennil RdT.ok); exact rfl; exact rfl; exact rfl)
    | ((with_reducible apply st_add); exact rfl; exact rfl; exact rfl; omega)
    | ((with_reducible apply st_sub); exact rfl; exact rfl; exact rfl; omega)
    | ((with_reducible apply st_q RdT.ok); exact rfl; exact rfl)
    | ((with_reducible apply c_condT); exact rfl)
    | ((with_reducible apply c_condF); exact rfl)
    | ((with_reducible apply c_cond); exact rfl; (first | exact Bp.not Bp.dec | exact Bp.dec | exact Bp.not Bp.bool | exact Bp.bool); all_goals intro hc))
    (with_reducible apply r_tup); exact rfl; exact .tmp rfl (.tmp rfl .nil); exact rfl; exact .cons (.s (.pv _)) (.cons (.s (.pv _)) .nil); exact hS
    exact ⟨rfl, _, rfl, rfl⟩
end Go.Proofs.Ytiollkejojdplaa
