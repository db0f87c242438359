/- The law AllocTells of the given program, for every input. (part 9 of 10) -/
import Derived.Test.YtfdaioinghfjpaaATl8
namespace Go.Proofs.Ytfdaioinghfjpaa
open Go.Rd Go.RowKit
set_option maxRecDepth 20000
set_option linter.unusedSimpArgs false
set_option linter.unusedVariables false
set_option maxHeartbeats 4000000
def refL (at' by' : Int) : List U → List U
  | [] => []
  | u :: r => if u.pos = at' then (if 0 < u.count + by' ∨ u.old = true then { u with count := u.count + by' } :: refL at' by' r else refL at' by' r)
    else (if 0 < u.count ∨ u.old = true then u :: refL at' by' r else refL at' by' r)
theorem refL_none {at' by' : Int} : ∀ (l : List U) (e : Int), may1 e l = true → (∀ u ∈ l, u.pos ≠ at') → refL at' by' l = l
  | [], _, _, _ => rfl
  | u :: r, e, h, hn => by
    obtain ⟨g1, g2, g3, g4, g5, g6, g7, g8⟩ := may1_cons h
    rw [refL, if_neg (hn u (by simp)), if_pos (by rcases g7 with g7 | g7; exact .inr g7; exact .inl (by omega)), refL_none r _ g8 fun x hx => hn x (by simp [hx])]
theorem refL_turn {at' by' : Int} : ∀ (l : List U) (e : Int), may1 e l = true → 0 ≤ countOf at' l + by' → refL at' by' l = turnL at' by' l
  | [], _, _, _ => rfl
  | u :: r, e, h, h0 => by
    obtain ⟨g1, g2, g3, g4, g5, g6, g7, g8⟩ := may1_cons h
    rw [countOf] at h0
    rw [refL, turnL]
    split
    · rename_i hp
      rw [if_pos hp] at h0
      have hr := refL_none (at' := at') (by' := by') r _ g8 fun x hx => by have := may1_ge r _ g8 x hx; omega
      rw [hr]
      by_cases hz : u.count + by' = 0 ∧ u.old = false
      · rw [if_pos hz, if_neg (by rw [hz.1, hz.2]; simp)]
      · rw [if_neg hz, if_pos]
        by_cases hq : 0 < u.count + by'
        · exact .inl hq
        · right
          cases ho : u.old with
          | true => rfl
          | false => exact absurd ⟨by omega, ho⟩ hz
    · rename_i hp
      rw [if_neg hp] at h0
      rw [if_pos (by rcases g7 with g7 | g7; exact .inr g7; exact .inl (by omega)), refL_turn r _ g8 h0]
theorem refTurn_AC (o : Option (List U)) (at' by' : Int) (hby : by' = 1 ∨ by' = -1) : ACv Try.prog 81 [uA o, .s (.pv (.lit (.int .i64 at'))), .s (.pv (.lit (.int .i64 by')))] fun v => v = turnV (turnO o at' by') := by
  intro L S hL
  refine fn_St (n := 60) (rs := [.tmp 6, .tmp 7]) hands_val RdT.ok RdT.mixed Try.func81 rfl (by kernel_rfl) rfl rfl rfl hL ?_
  intro hS
  cases hmay : may o with
  | false =>
    cases o with
    | none => cases hmay
    | some l =>
      show awp _ _ _ _ _ (St L 60 [(0, row 4 (l.map encU)), (1, int at'), (2, int by')] S [])
      repeat' (first
          | (with_reducible refine want_none ?_)
          | (with_reducible refine c_seq ?_)
          | (with_reducible refine c_region ?_)
          | (with_reducible refine c_block ?_)
          | (with_reducible refine aops_nil ?_)
          | (with_reducible refine k_normal ?_)
          | (with_reducible refine c_skip ?_)
          | (with_reducible refine c_exit ?_)
          | (with_reducible refine c_ret ?_)
          | (with_reducible refine k_ret ?_)
          | (with_reducible refine k_exit ?_)
          | (with_reducible refine kr_exit ?_)
          | (with_reducible refine kb_normal ?_)
          | (with_reducible refine kb_hit ?_)
          | ((with_reducible apply want_run); exact rfl; exact rfl)
          | ((with_reducible apply want_skip); exact rfl; exact rfl; exact rfl)
          | ((with_reducible apply want_forkF); exact rfl; exact rfl; exact rfl; (first | exact Bp.not Bp.dec | exact Bp.dec | exact Bp.not Bp.bool | exact Bp.bool); all_goals intro hc)
          | ((with_reducible apply st_callv); exact rfl; exact rfl; exact rfl; exact rfl; exact refMay_AC (some l); (rintro v rfl); rw [hmay])
          | ((with_reducible apply st_alloc); exact rfl; exact rfl; exact rfl; exact rfl)
          | ((with_reducible apply st_loadpelK); exact rfl; exact rfl; assumption; exact rfl; exact rfl)
          | ((with_reducible apply st_loadpel); exact rfl; exact rfl; omega; exact rfl; (intro u hu; refine ⟨_, rfl, ?_⟩; try simp only [Int.toNat_natCast] at hu))
          | ((with_reducible apply st_load); exact rfl; exact rfl; exact rfl; exact rfl; exact rfl)
          | ((with_reducible apply st_store); exact rfl; exact rfl; exact rfl; exact rfl; exact rfl; exact rfl)
          | ((with_reducible apply st_idx); exact rfl; exact rfl; exact rfl; exact rfl; exact rfl; omega)
          | ((with_reducible apply st_len RdT.ok); exact rfl; exact rfl; exact rfl; intro hlen)
          | ((with_reducible apply st_add); exact rfl; exact rfl; exact rfl; omega)
          | ((with_reducible apply st_q RdT.ok); exact rfl; exact rfl)
          | ((with_reducible apply c_condT); exact rfl)
          | ((with_reducible apply c_cond); exact rfl; (first | exact Bp.not Bp.dec | exact Bp.dec | exact Bp.not Bp.bool | exact Bp.bool); all_goals intro hc))
      all_goals
        (with_reducible apply r_tup); exact rfl; exact .tmp rfl (.tmp rfl .nil); exact rfl; exact .cons (.s (.pv _)) (.cons (.s (.pv _)) .nil); exact hS; refine ⟨rfl, _, rfl, ?_⟩
        rw [turnO, if_neg (by rw [hmay]; simp)]; rfl
  | true =>
    obtain ⟨c, hc0⟩ : ∃ c, count o at' = c := ⟨_, rfl⟩
    have hcr := count_range (at' := at') hmay
    rw [hc0] at hcr
    have htd : turnO o at' by' = if c ≠ 0 ∧ c + by' ≤ 1000000 then some (refL at' by' (o.getD [])) else none := by
      unfold turnO
      rw [show countOf at' (o.getD []) = c from hc0]
      simp only [hmay, true_and]
      split
      · rename_i h
        rw [refL_turn _ 0 hmay (by rw [show countOf at' (o.getD []) = c from hc0]; omega)]
      · rfl
    rw [htd]
    clear htd
    cases o with
    | none =>
      have : c = 0 := hc0.symm
      subst this
      show awp _ _ _ _ _ (St L 60 [(0, nilS), (1, int at'), (2, int by')] S [])
      repeat' (first
          | (with_reducible refine want_none ?_)
          | (with_reducible refine c_seq ?_)
          | (with_reducible refine c_region ?_)
          | (with_reducible refine c_block ?_)
          | (with_reducible refine aops_nil ?_)
          | (with_reducible refine k_normal ?_)
          | (with_reducible refine c_skip ?_)
          | (with_reducible refine c_exit ?_)
          | (with_reducible refine c_ret ?_)
          | (with_reducible refine k_ret ?_)
          | (with_reducible refine k_exit ?_)
          | (with_reducible refine kr_exit ?_)
          | (with_reducible refine kb_normal ?_)
          | (with_reducible refine kb_hit ?_)
          | ((with_reducible apply want_run); exact rfl; exact rfl)
          | ((with_reducible apply want_skip); exact rfl; exact rfl; exact rfl)
          | ((with_reducible apply want_forkF); exact rfl; exact rfl; exact rfl; (first | exact Bp.not Bp.dec | exact Bp.dec | exact Bp.not Bp.bool | exact Bp.bool); all_goals intro hc)
          | ((with_reducible apply st_callv); exact rfl; exact rfl; exact rfl; exact rfl; exact refMay_AC none; (rintro v rfl); rw [hmay])
          | ((with_reducible apply st_callv); exact rfl; exact rfl; exact rfl; exact rfl; exact refCount_AC none at'; (rintro v rfl); rw [hc0])
          | ((with_reducible apply st_alloc); exact rfl; exact rfl; exact rfl; exact rfl)
          | ((with_reducible apply st_loadpelK); exact rfl; exact rfl; assumption; exact rfl; exact rfl)
          | ((with_reducible apply st_loadpel); exact rfl; exact rfl; omega; exact rfl; (intro u hu; refine ⟨_, rfl, ?_⟩; try simp only [Int.toNat_natCast] at hu))
          | ((with_reducible apply st_load); exact rfl; exact rfl; exact rfl; exact rfl; exact rfl)
          | ((with_reducible apply st_store); exact rfl; exact rfl; exact rfl; exact rfl; exact rfl; exact rfl)
          | ((with_reducible apply st_idx); exact rfl; exact rfl; exact rfl; exact rfl; exact rfl; omega)
          | ((with_reducible apply st_len RdT.ok); exact rfl; exact rfl; exact rfl; intro hlen)
          | ((with_reducible apply st_add); exact rfl; exact rfl; exact rfl; omega)
          | ((with_reducible apply st_q RdT.ok); exact rfl; exact rfl)
          | ((with_reducible apply c_condT); exact rfl)
          | ((with_reducible apply c_cond); exact rfl; (first | exact Bp.not Bp.dec | exact Bp.dec | exact Bp.not Bp.bool | exact Bp.bool); all_goals intro hc))
      all_goals first
        | (exfalso; omega)
        | ((with_reducible apply r_tup); exact rfl; exact .tmp rfl (.tmp rfl .nil); exact rfl; exact .cons (.s (.pv _)) (.cons (.s (.pv _)) .nil); exact hS; refine ⟨rfl, _, rfl, ?_⟩
           rw [if_neg (by omega)]; rfl)
    | some l =>
      show awp _ _ _ _ _ (St L 60 [(0, row 4 (l.map encU)), (1, int at'), (2, int by')] S [])
      have hlen16 : (l.length : Int) ≤ 16 := by
        have := may1_length l 0 hmay
        omega
      repeat' (first
          | (with_reducible refine want_none ?_)
          | (with_reducible refine c_seq ?_)
          | (with_reducible refine c_region ?_)
          | (with_reducible refine c_block ?_)
          | (with_reducible refine aops_nil ?_)
          | (with_reducible refine k_normal ?_)
          | (with_reducible refine c_skip ?_)
          | (with_reducible refine c_exit ?_)
          | (with_reducible refine c_ret ?_)
          | (with_reducible refine k_ret ?_)
          | (with_reducible refine k_exit ?_)
          | (with_reducible refine kr_exit ?_)
          | (with_reducible refine kb_normal ?_)
          | (with_reducible refine kb_hit ?_)
          | ((with_reducible apply want_run); exact rfl; exact rfl)
          | ((with_reducible apply want_skip); exact rfl; exact rfl; exact rfl)
          | ((with_reducible apply want_forkF); exact rfl; exact rfl; exact rfl; (first | exact Bp.not Bp.dec | exact Bp.dec | exact Bp.not Bp.bool | exact Bp.bool); all_goals intro hc)
          | ((with_reducible apply st_callv); exact rfl; exact rfl; exact rfl; exact rfl; exact refMay_AC (some l); (rintro v rfl); rw [hmay])
          | ((with_reducible apply st_callv); exact rfl; exact rfl; exact rfl; exact rfl; exact refCount_AC (some l) at'; (rintro v rfl); rw [hc0])
          | ((with_reducible apply st_buildslice); exact rfl; exact rfl; exact rfl; exact rfl; exact rfl; exact rfl; exact rfl; exact rfl)
          | ((with_reducible apply st_alloc); exact rfl; exact rfl; exact rfl; exact rfl)
          | ((with_reducible apply st_loadpelK); exact rfl; exact rfl; assumption; exact rfl; exact rfl)
          | ((with_reducible apply st_loadpel); exact rfl; exact rfl; omega; exact rfl; (intro u hu; refine ⟨_, rfl, ?_⟩; try simp only [Int.toNat_natCast] at hu))
          | ((with_reducible apply st_load); exact rfl; exact rfl; exact rfl; exact rfl; exact rfl)
          | ((with_reducible apply st_store); exact rfl; exact rfl; exact rfl; exact rfl; exact rfl; exact rfl)
          | ((with_reducible apply st_idx); exact rfl; exact rfl; exact rfl; exact rfl; exact rfl; omega)
          | ((with_reducible apply st_len RdT.ok); exact rfl; exact rfl; exact rfl; intro hlen)
          | ((with_reducible apply st_add); exact rfl; exact rfl; exact rfl; omega)
          | ((with_reducible apply st_q RdT.ok); exact rfl; exact rfl)
          | ((with_reducible apply c_condT); exact rfl)
          | ((with_reducible apply c_cond); exact rfl; (first | exact Bp.not Bp.dec | exact Bp.dec | exact Bp.not Bp.bool | exact Bp.bool); all_goals intro hc))
      all_goals first
        | ((with_reducible apply r_tup); exact rfl; exact .tmp rfl (.tmp rfl .nil); exact rfl; exact .cons (.s (.pv _)) (.cons (.s (.pv _)) .nil); exact hS; refine ⟨rfl, _, rfl, ?_⟩
           rw [if_neg (by omega)]; rfl)
        | skip
      rw [if_pos (by omega)]
      refine c_loop (β := Nat × List U) (fun b => b.1 ≤ l.length ∧ b.2.length ≤ b.1 ∧ refL at' by' l = b.2 ++ refL at' by' (l.drop b.1)) (fun b => l.length - b.1)
        (fun b => [(0, row 4 (l.map encU)), (1, int at'), (2, int by'), (8, .a (.s (.sl L 28 0 b.2.length))), (9, int b.1)])
        (fun b => [(28, .row 41 4 (b.2.map encU))]) (0, []) ⟨Nat.zero_le _, Nat.zero_le _, rfl⟩ ⟨rfl, rfl, rfl, rfl, rfl, trivial⟩ ⟨rfl, trivial⟩ rfl rfl ?_
      rintro ⟨k, out⟩ ⟨hk, ho, hm⟩
      dsimp only at hk ho hm ⊢
      rcases Nat.lt_or_ge k l.length with hk' | hk'
      · obtain ⟨u, hu⟩ : ∃ u, l[k]? = some u := ⟨_, List.getElem?_eq_getElem hk'⟩
        obtain ⟨q1, q2, q3, q4, q5, q6, q7⟩ := may1_mem l 0 hmay u (List.mem_of_getElem? hu)
        repeat' (first
            | (with_reducible refine want_none ?_)
            | (with_reducible refine c_seq ?_)
            | (with_reducible refine c_region ?_)
            | (with_reducible refine c_block ?_)
            | (with_reducible refine aops_nil ?_)
            | (with_reducible refine k_normal ?_)
            | (with_reducible refine c_skip ?_)
            | (with_reducible refine c_exit ?_)
            | (with_reducible refine c_ret ?_)
            | (with_reducible refine k_ret ?_)
            | (with_reducible refine k_exit ?_)
            | (with_reducible refine kr_exit ?_)
            | (with_reducible refine kb_normal ?_)
            | (with_reducible refine kb_hit ?_)
            | ((with_reducible apply want_run); exact rfl; exact rfl)
            | ((with_reducible apply want_skip); exact rfl; exact rfl; exact rfl)
            | ((with_reducible apply want_forkF); exact rfl; exact rfl; exact rfl; (first | exact Bp.not Bp.dec | exact Bp.dec | exact Bp.not Bp.bool | exact Bp.bool); all_goals intro hc)
            | ((with_reducible apply st_buildslice); exact rfl; exact rfl; exact rfl; exact rfl; exact rfl; exact rfl; exact rfl; exact rfl)
            | ((with_reducible apply st_append1); exact rfl; exact rfl; exact rfl; exact rfl; (first | exact (List.length_map _).symm | exact rfl); exact .own rfl rfl rfl; exact (List.map_append (l₂ := [{ u with count := u.count + by' }])).symm; (rw [List.length_map, List.length_append]; refine ⟨?_, ?_⟩; (show _ * 32 ≤ _; simp at *; omega); (simp [maxLen] at *; omega)); exact rfl; exact rfl; exact rfl; exact rfl; exact rfl; exact rfl; exact rfl)
            | ((with_reducible apply st_append1); exact rfl; exact rfl; exact rfl; exact rfl; (first | exact (List.length_map _).symm | exact rfl); exact .own rfl rfl rfl; exact (List.map_append (l₂ := [u])).symm; (rw [List.length_map, List.length_append]; refine ⟨?_, ?_⟩; (show _ * 32 ≤ _; simp at *; omega); (simp [maxLen] at *; omega)); exact rfl; exact rfl; exact rfl; exact rfl; exact rfl; exact rfl; exact rfl)
            | ((with_reducible apply st_alloc); exact rfl; exact rfl; exact rfl; exact rfl)
            | ((with_reducible apply st_loadpelK); exact rfl; exact rfl; assumption; exact rfl; exact rfl)
            | ((with_reducible apply st_loadpel); exact rfl; exact rfl; omega; exact rfl; (intro u hu; refine ⟨_, rfl, ?_⟩; try simp only [Int.toNat_natCast] at hu))
            | ((with_reducible apply st_load); exact rfl; exact rfl; exact rfl; exact rfl; exact rfl)
            | ((with_reducible apply st_store); exact rfl; exact rfl; exact rfl; exact rfl; exact rfl; exact rfl)
            | ((with_reducible apply st_idx); exact rfl; exact rfl; exact rfl; exact rfl; exact rfl; omega)
            | ((with_reducible apply st_len RdT.ok); exact rfl; exact rfl; exact rfl; intro hlen)
            | ((with_reducible apply st_add); exact rfl; exact rfl; exact rfl; omega)
            | ((with_reducible apply st_q RdT.ok); exact rfl; exact rfl)
            | ((with_reducible apply c_condT); exact rfl)
            | ((with_reducible apply c_cond); exact rfl; (first | exact Bp.not Bp.dec | exact Bp.dec | exact Bp.not Bp.bool | exact Bp.bool); all_goals intro hc))
        all_goals try (exfalso; omega)
        all_goals first
          | ((with_reducible refine k_back (k + 1, out ++ [{ u with count := u.count + by' }]) ?_ ?_ ?_ ?_ ?_ ?_)
             · refine ⟨by dsimp only; omega, by simp at *; omega, ?_⟩
               rw [hm, drop_cons hu, refL, if_pos (by assumption), if_pos (by first | exact .inl (by assumption) | exact .inr (by assumption))]
               simp
             · dsimp only; omega
             · exact ⟨rfl, rfl, rfl, by show TV.a (.s (.sl L 28 0 (List.map encU _).length)) = _; rw [List.length_map], rfl, trivial⟩
             · exact ⟨rfl, trivial⟩
             · exact rfl
             · exact rfl)
          | ((with_reducible refine k_back (k + 1, out ++ [u]) ?_ ?_ ?_ ?_ ?_ ?_)
             · refine ⟨by dsimp only; omega, by simp at *; omega, ?_⟩
               rw [hm, drop_cons hu, refL, if_neg (by assumption), if_pos (by first | exact .inl (by assumption) | exact .inr (by assumption))]
               simp
             · dsimp only; omega
             · exact ⟨rfl, rfl, rfl, by show TV.a (.s (.sl L 28 0 (List.map encU _).length)) = _; rw [List.length_map], rfl, trivial⟩
             · exact ⟨rfl, trivial⟩
             · exact rfl
             · exact rfl)
          | ((with_reducible refine k_back (k + 1, out) ?_ ?_ ?_ ?_ ?_ ?_)
             · refine ⟨by dsimp only; omega, by dsimp only; omega, ?_⟩
               rw [hm, drop_cons hu, refL]
               first
                 | rw [if_pos (by assumption), if_neg (by rintro (h | h) <;> simp_all <;> omega)]
                 | rw [if_neg (by assumption), if_neg (by rintro (h | h) <;> simp_all <;> omega)]
             · dsimp only; omega
             · exact ⟨rfl, rfl, rfl, rfl, rfl, trivial⟩
             · exact ⟨rfl, trivial⟩
             · exact rfl
             · exact rfl)
          | trace_state
      · repeat' (first
            | (with_reducible refine want_none ?_)
            | (with_reducible refine c_seq ?_)
            | (with_reducible refine c_region ?_)
            | (with_reducible refine c_block ?_)
            | (with_reducible refine aops_nil ?_)
            | (with_reducible refine k_normal ?_)
            | (with_reducible refine c_skip ?_)
            | (with_reducible refine c_exit ?_)
            | (with_reducible refine c_ret ?_)
            | (with_reducible refine k_ret ?_)
            | (with_reducible refine k_exit ?_)
            | (with_reducible refine kr_exit ?_)
            | (with_reducible refine kb_normal ?_)
            | (with_reducible refine kb_hit ?_)
            | ((with_reducible apply want_run); exact rfl; exact rfl)
            | ((with_reducible apply want_skip); exact rfl; exact rfl; exact rfl)
            | ((with_reducible apply want_forkF); exact rfl; exact rfl; exact rfl; (first | exact Bp.not Bp.dec | exact Bp.dec | exact Bp.not Bp.bool | exact Bp.bool); all_goals intro hc)
            | ((with_reducible apply st_alloc); exact rfl; exact rfl; exact rfl; exact rfl)
            | ((with_reducible apply st_loadpelK); exact rfl; exact rfl; assumption; exact rfl; exact rfl)
            | ((with_reducible apply st_loadpel); exact rfl; exact rfl; omega; exact rfl; (intro u hu; refine ⟨_, rfl, ?_⟩; try simp only [Int.toNat_natCast] at hu))
            | ((with_reducible apply st_load); exact rfl; exact rfl; exact rfl; exact rfl; exact rfl)
            | ((with_reducible apply st_store); exact rfl; exact rfl; exact rfl; exact rfl; exact rfl; exact rfl)
            | ((with_reducible apply st_idx); exact rfl; exact rfl; exact rfl; exact rfl; exact rfl; omega)
            | ((with_reducible apply st_len RdT.ok); exact rfl; exact rfl; exact rfl; intro hlen)
            | ((with_reducible apply st_add); exact rfl; exact rfl; exact rfl; omega)
            | ((with_reducible apply st_q RdT.ok); exact rfl; exact rfl)
            | ((with_reducible apply c_condT); exact rfl)
            | ((with_reducible apply c_cond); exact rfl; (first | exact Bp.not Bp.dec | exact Bp.dec | exact Bp.not Bp.bool | exact Bp.bool); all_goals intro hc))
        all_goals try (exfalso; omega)
        (with_reducible apply r_tup); exact rfl; exact .tmp rfl (.tmp rfl .nil); exact rfl; exact .cons (.s (.sl rfl (by first | rfl | rw [List.length_map]))) (.cons (.s (.pv _)) .nil); exact hS; refine ⟨rfl, _, rfl, ?_⟩
        show _ = turnV (some (refL at' by' l))
        rw [hm, List.drop_of_length_le (by omega)]
        simp [refL, turnV, slA, slP]
theorem refInc_AC (o : Option (List U)) (at' : Int) : ACv Try.prog 22 [uA o, .s (.pv (.lit (.int .i64 at')))] fun v => v = turnV (turnO o at' 1) := by
  intro L S hL
  refine fn_St (n := 11) (rs := [.tmp 4, .tmp 5]) hands_val RdT.ok RdT.mixed Try.func22 rfl (by kernel_rfl) rfl rfl rfl (by omega) ?_
  intro hS
  obtain ⟨t, ht⟩ : ∃ t, turnO o at' 1 = t := ⟨_, rfl⟩
  cases o <;> cases t
  all_goals
    show awp _ _ _ _ _ (St L 11 [(0, .a (uA _)), (1, int at')] S [])
    repeat' (first
        | (with_reducible refine want_none ?_)
        | (with_reducible refine c_seq ?_)
        | (with_reducible refine c_region ?_)
        | (with_reducible refine aops_nil ?_)
        | (with_reducible refine k_normal ?_)
        | (with_reducible refine c_ret ?_)
        | ((with_reducible apply st_callv); exact rfl; exact rfl; exact rfl; exact rfl; exact refTurn_AC none at' 1 (.inl rfl); (rintro v rfl); rw [ht])
        | ((with_reducible apply st_callv); exact rfl; exact rfl; exact rfl; exact rfl; exact refTurn_AC (some _) at' 1 (.inl rfl); (rintro v rfl); rw [ht])
        | ((with_reducible apply st_q RdT.ok); exact rfl; exact rfl))
    (with_reducible apply r_tup); exact rfl; exact .tmp rfl (.tmp rfl .nil); exact rfl; exact .cons (.s (.pv _)) (.cons (.s (.pv _)) .nil); exact hS
    exact ⟨rfl, _, rfl, rfl⟩
theorem refDec_AC (o : Option (List U)) (at' : Int) : ACv Try.prog 24 [uA o, .s (.pv (.lit (.int .i64 at')))] fun v => v = turnV (turnO o at' (-1)) := by
  intro L S hL
  refine fn_St (n := 11) (rs := [.tmp 4, .tmp 5]) hands_val RdT.ok RdT.mixed Try.func24 rfl (by kernel_rfl) rfl rfl rfl (by omega) ?_
  intro hS
  obtain ⟨t, ht⟩ : ∃ t, turnO o at' (-1) = t := ⟨_, rfl⟩
  cases o <;> cases t
  all_goals
    show awp _ _ _ _ _ (St L 11 [(0, .a (uA _)), (1, int at')] S [])
    repeat' (first
        | (with_reducible refine want_none ?_)
        | (with_reducible refine c_seq ?_)
        | (with_reducible refine c_region ?_)
        | (with_reducible refine aops_nil ?_)
        | (with_reducible refine k_normal ?_)
        | (with_reducible refine c_ret ?_)
        | ((with_reducible apply st_callv); exact rfl; exact rfl; exact rfl; exact rfl; exact refTurn_AC none at' (-1) (.inr rfl); (rintro v rfl); rw [ht])
        | ((with_reducible apply st_callv); exact rfl; exact rfl; exact rfl; exact rfl; exact refTurn_AC (some _) at' (-1) (.inr rfl); (rintro v rfl); rw [ht])
        | ((with_reducible apply st_q RdT.ok); exact rfl; exact rfl))
    (with_reducible apply r_tup); exact rfl; exact .tmp rfl (.tmp rfl .nil); exact rfl; exact .cons (.s (.pv _)) (.cons (.s (.pv _)) .nil); exact hS
    exact ⟨rfl, _, rfl, rfl⟩
end Go.Proofs.Ytfdaioinghfjpaa
namespace Go.Proofs.Ytfdaioinghfjpaa
open Go.Rd Go.RowKit
set_option maxRecDepth 20000
set_option linter.unusedSimpArgs false
set_option linter.unusedVariables false
set_option maxHeartbeats 4000000
theorem withC_AC (l : List Tb) (i : Int) (t : Tb) (hl : l.length ≤ 1000) (hi : 0 ≤ i ∧ i < l.length) : ACv Try.prog 94 [cA (some l), .s (.pv (.lit (.int .i64 i))), uA t] fun v => v = .a (cA (some (l.set i.toNat t))) := by
  intro L S hL
  refine fn_St (n := 16) (rs := [.tmp 6]) hands_val RdT.ok RdT.mixed Try.func94 rfl (by kernel_rfl) rfl rfl rfl (by omega) ?_
  intro hS
  have hl24 : l.length * 24 ≤ 140737488355328 := by omega
  show awp _ _ _ _ _ (St L 16 [(0, row 1 (l.map encC)), (1, int i), (2, .a (uA t))] S [])
  repeat' (first
      | (with_reducible refine want_none ?_)
      | (with_reducible refine c_seq ?_)
      | (with_reducible refine c_region ?_)
      | (with_reducible refine aops_nil ?_)
      | (with_reducible refine k_normal ?_)
      | (with_reducible refine c_ret ?_)
      | ((with_reducible apply st_buildslice); exact rfl; exact rfl; exact rfl; exact rfl; exact rfl; exact rfl; exact rfl; exact rfl)
      | ((with_reducible apply st_append1); exact rfl; exact rfl; exact rfl; exact rfl; exact rfl; exact .row rfl; exact List.nil_append _; (rw [List.length_map]; exact ⟨hl24, by simp only [maxLen]; omega⟩); exact rfl; exact rfl; exact rfl; exact rfl; exact rfl; exact rfl; exact rfl)
      | ((with_reducible apply st_idxown); exact rfl; exact rfl; exact rfl; exact rfl; exact rfl; exact rfl; (rw [List.length_map]; omega))
      | ((with_reducible apply st_storeprU); exact rfl; exact rfl; exact rfl; exact rfl; exact rfl; exact rfl; omega; (intro b hb; refine ⟨t, _, rfl, rfl, rfl, ?_⟩))
      | ((with_reducible apply st_q RdT.ok); exact rfl; exact rfl))
  (with_reducible apply r_one); exact rfl; exact .tmp rfl .nil; exact .s (.sl rfl (by rw [List.length_map, List.length_map, List.length_set])); exact hS; refine ⟨rfl, _, rfl, ?_⟩
  rfl
theorem refTakeC_AC (o : Option (List Tb)) (n no : Int) : ACv Try.prog 50 [cA o, .s (.pv (.lit (.int .i64 n))), .s (.pv (.lit (.int .i64 no)))] fun v => v = takeCV (takeC o n no) := by
  intro L S hL
  refine fn_St (n := 45) (rs := [.tmp 6, .tmp 7, .tmp 8, .tmp 9]) hands_val RdT.ok RdT.mixed Try.func50 rfl (by kernel_rfl) rfl rfl rfl (by omega) ?_
  intro hS
  cases hmay : mayC o with
  | false =>
    show awp _ _ _ _ _ (St L 45 [(0, .a (cA o)), (1, int n), (2, int no)] S [])
    repeat' (first
        | (with_reducible refine want_none ?_)
        | (with_reducible refine c_seq ?_)
        | (with_reducible refine c_region ?_)
        | (with_reducible refine c_block ?_)
        | (with_reducible refine aops_nil ?_)
        | (with_reducible refine k_normal ?_)
        | (with_reducible refine c_skip ?_)
        | (with_reducible refine c_exit ?_)
        | (with_reducible refine c_ret ?_)
        | (with_reducible refine k_ret ?_)
        | (with_reducible refine k_exit ?_)
        | (with_reducible refine kr_ret ?_)
        | (with_reducible refine kr_exit ?_)
        | (with_reducible refine kb_normal ?_)
        | (with_reducible refine kb_ret ?_)
        | (with_reducible refine kb_hit ?_)
        | ((with_reducible apply want_run); exact rfl; exact rfl)
        | ((with_reducible apply want_skip); exact rfl; exact rfl; exact rfl)
        | ((with_reducible apply st_callv); exact rfl; exact rfl; exact rfl; exact rfl; exact refMayC_AC o; (rintro v rfl); rw [hmay])
        | ((with_reducible apply st_loadpelK); exact rfl; exact rfl; assumption; exact rfl; exact rfl)
        | ((with_reducible apply st_loadpel); exact rfl; exact rfl; omega; exact rfl; (intro u hu; refine ⟨_, rfl, ?_⟩; try simp only [Int.toNat_natCast] at hu))
        | ((with_reducible apply st_idx); exact rfl; exact rfl; exact rfl; exact rfl; exact rfl; omega)
        | ((with_reducible apply st_len RdT.ok); exact rfl; exact rfl; exact rfl; intro hlen)
        | ((with_reducible apply st_add); exact rfl; exact rfl; exact rfl; omega)
        | ((with_reducible apply st_q RdT.ok); exact rfl; exact rfl)
        | ((with_reducible apply c_condT); exact rfl)
        | ((with_reducible apply c_condF); exact rfl)
        | ((with_reducible apply c_cond); exact rfl; (first | exact Bp.not Bp.dec | exact Bp.dec | exact Bp.not Bp.bool | exact Bp.bool); all_goals intro hc))
    ((with_reducible apply r_tup); exact rfl; exact .tmp rfl (.tmp rfl (.tmp rfl (.tmp rfl .nil))); exact rfl; exact .cons (.s (.pv _)) (.cons (.s (.pv _)) (.cons (.s (.pv _)) (.cons (.s (.pv _)) .nil))); exact hS; refine ⟨rfl, _, rfl, ?_⟩)
    rw [takeC, if_neg (by rw [hmay]; simp)]; rfl
  | true =>
    have hln := mayC_len hmay
    cases o with
    | none => exact absurd hln.1 (by simp)
    | some l =>
      simp only [Option.getD_some] at hln
      rw [takeC, if_pos hmay, Option.getD_some]
      show awp _ _ _ _ _ (St L 45 [(0, row 1 (l.map encC)), (1, int n), (2, int no)] S [])
      repeat' (first
          | (with_reducible refine want_none ?_)
          | (with_reducible refine c_seq ?_)
          | (with_reducible refine c_region ?_)
          | (with_reducible refine c_block ?_)
          | (with_reducible refine aops_nil ?_)
          | (with_reducible refine k_normal ?_)
          | (with_reducible refine c_skip ?_)
          | (with_reducible refine c_exit ?_)
          | (with_reducible refine c_ret ?_)
          | (with_reducible refine k_ret ?_)
          | (with_reducible refine k_exit ?_)
          | (with_reducible refine kr_ret ?_)
          | (with_reducible refine kr_exit ?_)
          | (with_reducible refine kb_normal ?_)
          | (with_reducible refine kb_ret ?_)
          | (with_reducible refine kb_hit ?_)
          | ((with_reducible apply want_run); exact rfl; exact rfl)
          | ((with_reducible apply want_skip); exact rfl; exact rfl; exact rfl)
          | ((with_reducible apply st_callv); exact rfl; exact rfl; exact rfl; exact rfl; exact refMayC_AC (some l); (rintro v rfl); rw [hmay])
          | ((with_reducible apply st_loadpelK); exact rfl; exact rfl; assumption; exact rfl; exact rfl)
          | ((with_reducible apply st_loadpel); exact rfl; exact rfl; omega; exact rfl; (intro u hu; refine ⟨_, rfl, ?_⟩; try simp only [Int.toNat_natCast] at hu))
          | ((with_reducible apply st_idx); exact rfl; exact rfl; exact rfl; exact rfl; exact rfl; omega)
          | ((with_reducible apply st_len RdT.ok); exact rfl; exact rfl; exact rfl; intro hlen)
          | ((with_reducible apply st_add); exact rfl; exact rfl; exact rfl; omega)
          | ((with_reducible apply st_q RdT.ok); exact rfl; exact rfl)
          | ((with_reducible apply c_condT); exact rfl)
          | ((with_reducible apply c_condF); exact rfl)
          | ((with_reducible apply c_cond); exact rfl; (first | exact Bp.not Bp.dec | exact Bp.dec | exact Bp.not Bp.bool | exact Bp.bool); all_goals intro hc))
      refine c_loop (β := Nat) (fun k => k ≤ l.length ∧ takeC1 n no 0 l = takeC1 n no k (l.drop k)) (fun k => l.length - k) (fun k => [(0, row 1 (l.map encC)), (1, int n), (2, int no), (10, int k)]) (fun _ => []) 0 ⟨Nat.zero_le _, rfl⟩ ⟨rfl, rfl, rfl, rfl, trivial⟩ trivial rfl rfl ?_
      rintro k ⟨hk, hm⟩
      rcases Nat.lt_or_ge k l.length with hk' | hk'
      · obtain ⟨u, hu⟩ : ∃ u, l[k]? = some u := ⟨_, List.getElem?_eq_getElem hk'⟩
        rw [drop_consG hu, takeC1] at hm
        cases ht : take u n with
        | none =>
          rw [ht] at hm
          have hm' : takeC1 n no 0 l = takeC1 n no (k + 1) (l.drop (k + 1)) := by rw [hm]; simp
          repeat' (first
              | (with_reducible refine want_none ?_)
              | (with_reducible refine c_seq ?_)
              | (with_reducible refine c_region ?_)
              | (with_reducible refine c_block ?_)
              | (with_reducible refine aops_nil ?_)
              | (with_reducible refine k_normal ?_)
              | (with_reducible refine c_skip ?_)
              | (with_reducible refine c_exit ?_)
              | (with_reducible refine c_ret ?_)
              | (with_reducible refine k_ret ?_)
              | (with_reducible refine k_exit ?_)
              | (with_reducible refine kr_ret ?_)
              | (with_reducible refine kr_exit ?_)
              | (with_reducible refine kb_normal ?_)
              | (with_reducible refine kb_ret ?_)
              | (with_reducible refine kb_hit ?_)
              | ((with_reducible apply want_run); exact rfl; exact rfl)
              | ((with_reducible apply want_skip); exact rfl; exact rfl; exact rfl)
              | ((with_reducible apply st_callv); exact rfl; exact rfl; exact rfl; exact rfl; exact refTake_AC u n; (rintro v rfl); rw [ht])
              | ((with_reducible apply st_loadpelK); exact rfl; exact rfl; assumption; exact rfl; exact rfl)
              | ((with_reducible apply st_loadpel); exact rfl; exact rfl; omega; exact rfl; (intro u hu; refine ⟨_, rfl, ?_⟩; try simp only [Int.toNat_natCast] at hu))
              | ((with_reducible apply st_idx); exact rfl; exact rfl; exact rfl; exact rfl; exact rfl; omega)
              | ((with_reducible apply st_len RdT.ok); exact rfl; exact rfl; exact rfl; intro hlen)
              | ((with_reducible apply st_add); exact rfl; exact rfl; exact rfl; omega)
              | ((with_reducible apply st_q RdT.ok); exact rfl; exact rfl)
              | ((with_reducible apply c_condT); exact rfl)
              | ((with_reducible apply c_condF); exact rfl)
              | ((with_reducible apply c_cond); exact rfl; (first | exact Bp.not Bp.dec | exact Bp.dec | exact Bp.not Bp.bool | exact Bp.bool); all_goals intro hc))
          all_goals first
            | (exfalso; omega)
            | ((with_reducible refine k_back (k + 1) ?_ ?_ ?_ ?_ ?_ ?_)
               · exact ⟨by omega, hm'⟩
               · omega
               · exact ⟨rfl, rfl, rfl, rfl, trivial⟩
               · exact trivial
               · exact rfl
               · exact rfl)
            | trace_state
        | some p =>
          obtain ⟨m, a⟩ := p
          rw [ht] at hm
          repeat' (first
              | (with_reducible refine want_none ?_)
              | (with_reducible refine c_seq ?_)
              | (with_reducible refine c_region ?_)
              | (with_reducible refine c_block ?_)
              | (with_reducible refine aops_nil ?_)
              | (with_reducible refine k_normal ?_)
              | (with_reducible refine c_skip ?_)
              | (with_reducible refine c_exit ?_)
              | (with_reducible refine c_ret ?_)
              | (with_reducible refine k_ret ?_)
              | (with_reducible refine k_exit ?_)
              | (with_reducible refine kr_ret ?_)
              | (with_reducible refine kr_exit ?_)
              | (with_reducible refine kb_normal ?_)
              | (with_reducible refine kb_ret ?_)
              | (with_reducible refine kb_hit ?_)
              | ((with_reducible apply want_run); exact rfl; exact rfl)
              | ((with_reducible apply want_skip); exact rfl; exact rfl; exact rfl)
              | ((with_reducible apply st_callv); exact rfl; exact rfl; exact rfl; exact rfl; exact refTake_AC u n; (rintro v rfl); rw [ht])
              | ((with_reducible apply st_callv); exact rfl; exact rfl; exact rfl; exact rfl; exact withC_AC l k (some m) hln.2 (by omega); (rintro v rfl))
              | ((with_reducible apply st_loadpelK); exact rfl; exact rfl; assumption; exact rfl; exact rfl)
              | ((with_reducible apply st_loadpel); exact rfl; exact rfl; omega; exact rfl; (intro u hu; refine ⟨_, rfl, ?_⟩; try simp only [Int.toNat_natCast] at hu))
              | ((with_reducible apply st_idx); exact rfl; exact rfl; exact rfl; exact rfl; exact rfl; omega)
              | ((with_reducible apply st_len RdT.ok); exact rfl; exact rfl; exact rfl; intro hlen)
              | ((with_reducible apply st_add); exact rfl; exact rfl; exact rfl; omega)
              | ((with_reducible apply st_q RdT.ok); exact rfl; exact rfl)
              | ((with_reducible apply c_condT); exact rfl)
              | ((with_reducible apply c_condF); exact rfl)
              | ((with_reducible apply c_cond); exact rfl; (first | exact Bp.not Bp.dec | exact Bp.dec | exact Bp.not Bp.bool | exact Bp.bool); all_goals intro hc))
          all_goals first
            | (exfalso; omega)
            | ((with_reducible refine k_back (k + 1) ?_ ?_ ?_ ?_ ?_ ?_)
               · exact ⟨by omega, by rw [hm, if_pos (by omega)]⟩
               · omega
               · exact ⟨rfl, rfl, rfl, rfl, trivial⟩
               · exact trivial
               · exact rfl
               · exact rfl)
            | skip
          all_goals
            ((with_reducible apply r_tup); exact rfl; exact .tmp rfl (.tmp rfl (.tmp rfl (.tmp rfl .nil))); exact rfl; exact .cons (.s (.pv _)) (.cons (.s (.pv _)) (.cons (.s (.pv _)) (.cons (.s (.pv _)) .nil))); exact hS; refine ⟨rfl, _, rfl, ?_⟩)
            rw [hm, if_neg (by omega), if_pos (show (some (m, a)).isSome = true from rfl)]
            rfl
      · repeat' (first
            | (with_reducible refine want_none ?_)
            | (with_reducible refine c_seq ?_)
            | (with_reducible refine c_region ?_)
            | (with_reducible refine c_block ?_)
            | (with_reducible refine aops_nil ?_)
            | (with_reducible refine k_normal ?_)
            | (with_reducible refine c_skip ?_)
            | (with_reducible refine c_exit ?_)
            | (with_reducible refine c_ret ?_)
            | (with_reducible refine k_ret ?_)
            | (with_reducible refine k_exit ?_)
            | (with_reducible refine kr_ret ?_)
            | (with_reducible refine kr_exit ?_)
            | (with_reducible refine kb_normal ?_)
            | (with_reducible refine kb_ret ?_)
            | (with_reducible refine kb_hit ?_)
            | ((with_reducible apply want_run); exact rfl; exact rfl)
            | ((with_reducible apply want_skip); exact rfl; exact rfl; exact rfl)
            | ((with_reducible apply st_loadpelK); exact rfl; exact rfl; assumption; exact rfl; exact rfl)
            | ((with_reducible apply st_loadpel); exact rfl; exact rfl; omega; exact rfl; (intro u hu; refine ⟨_, rfl, ?_⟩; try simp only [Int.toNat_natCast] at hu))
            | ((with_reducible apply st_idx); exact rfl; exact rfl; exact rfl; exact rfl; exact rfl; omega)
            | ((with_reducible apply st_len RdT.ok); exact rfl; exact rfl; exact rfl; intro hlen)
            | ((with_reducible apply st_add); exact rfl; exact rfl; exact rfl; omega)
            | ((with_reducible apply st_q RdT.ok); exact rfl; exact rfl)
            | ((with_reducible apply c_condT); exact rfl)
            | ((with_reducible apply c_condF); exact rfl)
            | ((with_reducible apply c_cond); exact rfl; (first | exact Bp.not Bp.dec | exact Bp.dec | exact Bp.not Bp.bool | exact Bp.bool); all_goals intro hc))
        all_goals try (exfalso; omega)
        ((with_reducible apply r_tup); exact rfl; exact .tmp rfl (.tmp rfl (.tmp rfl (.tmp rfl .nil))); exact rfl; exact .cons (.s (.pv _)) (.cons (.s (.pv _)) (.cons (.s (.pv _)) (.cons (.s (.pv _)) .nil))); exact hS; refine ⟨rfl, _, rfl, ?_⟩)
        rw [hm, List.drop_of_length_le (by omega)]
        rfl
theorem turnC_has (o : Option (List Tb)) (x : Rf) (b : Int) (hm : mayC o = true) : hasC o x = false → turnC o x b = none := by
  intro h
  rw [turnC]
  split
  · rename_i h1
    obtain ⟨h2, h3, h4⟩ := h1
    rw [hasC, h3, decide_eq_true h4] at h
    split
    · rename_i t ht
      rw [List.getD_eq_getElem?_getD, ht] at h
      rw [if_neg]
      rintro ⟨h5, _⟩
      rw [show (Option.getD (some t) none) = t from rfl, h5] at h
      cases h
    · rfl
  · rfl
theorem turnC_has2 {l : List Tb} {x : Rf} (b : Int) (hm : mayC (some l) = true) (h : hasC (some l) x = true) : 0 ≤ x.chunk ∧ x.chunk < l.length ∧ ∃ t, l[x.chunk.toNat]? = some t ∧ turnC (some l) x b = (turnO t x.pos b).map fun m => l.set x.chunk.toNat (some m) := by
  rw [hasC] at h
  simp only [Bool.and_eq_true, decide_eq_true_eq, Option.getD_some] at h
  obtain ⟨⟨h1, h2⟩, h3⟩ := h
  have h0 : 0 ≤ x.chunk := by
    unfold mayR at h1
    simp only [Bool.and_eq_true, decide_eq_true_eq] at h1
    omega
  have ht : l[x.chunk.toNat]? = some l[x.chunk.toNat] := List.getElem?_eq_getElem (by omega)
  refine ⟨h0, h2, _, ht, ?_⟩
  rw [List.getD_eq_getElem?_getD, ht, Option.getD_some] at h3
  rw [turnC, if_pos ⟨hm, h1, h2⟩, Option.getD_some, ht]
  show (if _ then _ else _) = _
  cases hq : turnO l[x.chunk.toNat] x.pos b with
  | none => rw [if_neg (by simp)]; rfl
  | some m => rw [if_pos ⟨h3, rfl⟩]; rfl
theorem refIncC_AC (o : Option (List Tb)) (x : Rf) : ACv Try.prog 51 [cA o, rA x] fun v => v = turnCV (turnC o x 1) := by
  intro L S hL
  refine fn_St (n := 35) (rs := [.tmp 4, .tmp 5]) hands_val RdT.ok RdT.mixed Try.func51 rfl (by kernel_rfl) rfl rfl rfl (by omega) ?_
  intro hS
  cases hmay : mayC o with
  | false =>
    show awp _ _ _ _ _ (St L 35 [(0, .a (cA o)), (1, .a (rA x))] S [])
    repeat' (first
        | (with_reducible refine want_none ?_)
        | (with_reducible refine c_seq ?_)
        | (with_reducible refine c_region ?_)
        | (with_reducible refine aops_nil ?_)
        | (with_reducible refine k_normal ?_)
        | (with_reducible refine c_skip ?_)
        | (with_reducible refine c_ret ?_)
        | (with_reducible refine k_ret ?_)
        | ((with_reducible apply want_run); exact rfl; exact rfl)
        | ((with_reducible apply want_skip); exact rfl; exact rfl; exact rfl)
        | ((with_reducible apply st_callv); exact rfl; exact rfl; exact rfl; exact rfl; exact refMayC_AC o; (rintro v rfl); rw [hmay])
        | ((with_reducible apply st_box); exact rfl; exact rfl; exact rfl; exact rfl)
        | ((with_reducible apply st_loadpelK); exact rfl; exact rfl; assumption; exact rfl; exact rfl)
        | ((with_reducible apply st_load); exact rfl; exact rfl; exact rfl; exact rfl; exact rfl)
        | ((with_reducible apply st_idx); exact rfl; exact rfl; exact rfl; exact rfl; exact rfl; omega)
        | ((with_reducible apply st_q RdT.ok); exact rfl; exact rfl)
        | ((with_reducible apply c_condT); exact rfl)
        | ((with_reducible apply c_condF); exact rfl))
    ((with_reducible apply r_tup); exact rfl; exact .tmp rfl (.tmp rfl .nil); exact rfl; exact .cons (.s (.pv _)) (.cons (.s (.pv _)) .nil); exact hS; refine ⟨rfl, _, rfl, ?_⟩)
    rw [turnC, if_neg (by rw [hmay]; simp)]; rfl
  | true =>
    have hln := mayC_len hmay
    cases hh : hasC o x with
    | false =>
      show awp _ _ _ _ _ (St L 35 [(0, .a (cA o)), (1, .a (rA x))] S [])
      repeat' (first
          | (with_reducible refine want_none ?_)
          | (with_reducible refine c_seq ?_)
          | (with_reducible refine c_region ?_)
          | (with_reducible refine aops_nil ?_)
          | (with_reducible refine k_normal ?_)
          | (with_reducible refine c_skip ?_)
          | (with_reducible refine c_ret ?_)
          | (with_reducible refine k_ret ?_)
          | ((with_reducible apply want_run); exact rfl; exact rfl)
          | ((with_reducible apply want_skip); exact rfl; exact rfl; exact rfl)
          | ((with_reducible apply st_callv); exact rfl; exact rfl; exact rfl; exact rfl; exact refMayC_AC o; (rintro v rfl); rw [hmay])
          | ((with_reducible apply st_callv); exact rfl; exact rfl; exact rfl; exact rfl; exact hasC_AC o x; (rintro v rfl); rw [hh])
          | ((with_reducible apply st_box); exact rfl; exact rfl; exact rfl; exact rfl)
          | ((with_reducible apply st_loadpelK); exact rfl; exact rfl; assumption; exact rfl; exact rfl)
          | ((with_reducible apply st_load); exact rfl; exact rfl; exact rfl; exact rfl; exact rfl)
          | ((with_reducible apply st_idx); exact rfl; exact rfl; exact rfl; exact rfl; exact rfl; omega)
          | ((with_reducible apply st_q RdT.ok); exact rfl; exact rfl)
          | ((with_reducible apply c_condT); exact rfl)
          | ((with_reducible apply c_condF); exact rfl))
      ((with_reducible apply r_tup); exact rfl; exact .tmp rfl (.tmp rfl .nil); exact rfl; exact .cons (.s (.pv _)) (.cons (.s (.pv _)) .nil); exact hS; refine ⟨rfl, _, rfl, ?_⟩)
      rw [turnC_has o x _ hmay hh]; rfl
    | true =>
      cases o with
      | none => exact absurd hln.1 (by simp)
      | some l =>
        simp only [Option.getD_some] at hln
        obtain ⟨h0, h1, t, ht, he⟩ := turnC_has2 1 hmay hh
        cases hq : turnO t x.pos 1 with
        | none =>
          rw [hq] at he
          show awp _ _ _ _ _ (St L 35 [(0, row 1 (l.map encC)), (1, .a (rA x))] S [])
          repeat' (first
              | (with_reducible refine want_none ?_)
              | (with_reducible refine c_seq ?_)
              | (with_reducible refine c_region ?_)
              | (with_reducible refine aops_nil ?_)
              | (with_reducible refine k_normal ?_)
              | (with_reducible refine c_skip ?_)
              | (with_reducible refine c_ret ?_)
              | (with_reducible refine k_ret ?_)
              | ((with_reducible apply want_run); exact rfl; exact rfl)
              | ((with_reducible apply want_skip); exact rfl; exact rfl; exact rfl)
              | ((with_reducible apply st_callv); exact rfl; exact rfl; exact rfl; exact rfl; exact refMayC_AC (some l); (rintro v rfl); rw [hmay])
              | ((with_reducible apply st_callv); exact rfl; exact rfl; exact rfl; exact rfl; exact hasC_AC (some l) x; (rintro v rfl); rw [hh])
              | ((with_reducible apply d_done); (decide +kernel))
              | ((with_reducible apply d_takeQ RdT.ok 0); (decide +kernel); exact rfl; exact rfl; exact rfl; exact rfl; (decide +kernel); (decide +kernel); exact rfl; exact rfl)
              | ((with_reducible apply d_takeQ RdT.ok 1); (decide +kernel); exact rfl; exact rfl; exact rfl; exact rfl; (decide +kernel); (decide +kernel); exact rfl; exact rfl)
              | ((with_reducible apply d_takeQ RdT.ok 5); (decide +kernel); exact rfl; exact rfl; exact rfl; exact rfl; (decide +kernel); (decide +kernel); exact rfl; exact rfl)
              | ((with_reducible apply d_takeQ RdT.ok 8); (decide +kernel); exact rfl; exact rfl; exact rfl; exact rfl; (decide +kernel); (decide +kernel); exact rfl; exact rfl)
              | ((with_reducible apply d_takeQ RdT.ok 9); (decide +kernel); exact rfl; exact rfl; exact rfl; exact rfl; (decide +kernel); (decide +kernel); exact rfl; exact rfl)
              | ((with_reducible apply d_takeQ RdT.ok 10); (decide +kernel); exact rfl; exact rfl; exact rfl; exact rfl; (decide +kernel); (decide +kernel); exact rfl; exact rfl)
              | ((with_reducible apply d_takeQ RdT.ok 11); (decide +kernel); exact rfl; exact rfl; exact rfl; exact rfl; (decide +kernel); (decide +kernel); exact rfl; exact rfl)
              | ((with_reducible apply d_takeQ RdT.ok 12); (decide +kernel); exact rfl; exact rfl; exact rfl; exact rfl; (decide +kernel); (decide +kernel); exact rfl; exact rfl)
              | ((with_reducible apply d_rs [2, 3, 4, 6, 7]); (decide +kernel); exact rfl)
              | ((with_reducible apply d_rs [2, 3, 4, 6]); (decide +kernel); exact rfl)
              | ((with_reducible apply d_rs [2, 3, 4, 7]); (decide +kernel); exact rfl)
              | ((with_reducible apply d_rs [2, 3, 6, 7]); (decide +kernel); exact rfl)
              | ((with_reducible apply d_rs [2, 4, 6, 7]); (decide +kernel); exact rfl)
              | ((with_reducible apply d_rs [3, 4, 6, 7]); (decide +kernel); exact rfl)
              | ((with_reducible apply d_rs [2, 3, 4]); (decide +kernel); exact rfl)
              | ((with_reducible apply d_rs [2, 3, 6]); (decide +kernel); exact rfl)
              | ((with_reducible apply d_rs [2, 3, 7]); (decide +kernel); exact rfl)
              | ((with_reducible apply d_rs [2, 4, 6]); (decide +kernel); exact rfl)
              | ((with_reducible apply d_rs [2, 4, 7]); (decide +kernel); exact rfl)
              | ((with_reducible apply d_rs [2, 6, 7]); (decide +kernel); exact rfl)
              | ((with_reducible apply d_rs [3, 4, 6]); (decide +kernel); exact rfl)
              | ((with_reducible apply d_rs [3, 4, 7]); (decide +kernel); exact rfl)
              | ((with_reducible apply d_rs [3, 6, 7]); (decide +kernel); exact rfl)
              | ((with_reducible apply d_rs [4, 6, 7]); (decide +kernel); exact rfl)
              | ((with_reducible apply d_rs [2, 3]); (decide +kernel); exact rfl)
              | ((with_reducible apply d_rs [2, 4]); (decide +kernel); exact rfl)
              | ((with_reducible apply d_rs [2, 6]); (decide +kernel); exact rfl)
              | ((with_reducible apply d_rs [2, 7]); (decide +kernel); exact rfl)
              | ((with_reducible apply d_rs [3, 4]); (decide +kernel); exact rfl)
              | ((with_reducible apply d_rs [3, 6]); (decide +kernel); exact rfl)
              | ((with_reducible apply d_rs [3, 7]); (decide +kernel); exact rfl)
              | ((with_reducible apply d_rs [4, 6]); (decide +kernel); exact rfl)
              | ((with_reducible apply d_rs [4, 7]); (decide +kernel); exact rfl)
              | ((with_reducible apply d_rs [6, 7]); (decide +kernel); exact rfl)
              | ((with_reducible apply d_rs [2]); (decide +kernel); exact rfl)
              | ((with_reducible apply d_rs [3]); (decide +kernel); exact rfl)
              | ((with_reducible apply d_rs [4]); (decide +kernel); exact rfl)
              | ((with_reducible apply d_rs [6]); (decide +kernel); exact rfl)
              | ((with_reducible apply d_rs [7]); (decide +kernel); exact rfl)
              | (with_reducible exact allR_nil)
              | ((with_reducible apply allR_cons); exact rfl)
              | ((with_reducible refine c_regionA 13 ?_ ?_); exact rfl)
              | ((with_reducible apply st_callv); exact rfl; exact rfl; exact rfl; exact rfl; exact refInc_AC t x.pos; (rintro v rfl); rw [hq])
              | ((with_reducible apply st_box); exact rfl; exact rfl; exact rfl; exact rfl)
              | ((with_reducible apply st_loadpelK); exact rfl; exact rfl; assumption; exact rfl; exact rfl)
              | ((with_reducible apply st_load); exact rfl; exact rfl; exact rfl; exact rfl; exact rfl)
              | ((with_reducible apply st_idx); exact rfl; exact rfl; exact rfl; exact rfl; exact rfl; omega)
              | ((with_reducible apply st_q RdT.ok); exact rfl; exact rfl)
              | ((with_reducible apply c_condT); exact rfl)
              | ((with_reducible apply c_condF); exact rfl))
          all_goals first
            | (exfalso; omega)
            | (skip
               ((with_reducible apply r_tup); exact rfl; exact .tmp rfl (.tmp rfl .nil); exact rfl; exact .cons (.s (.pv _)) (.cons (.s (.pv _)) .nil); exact hS; refine ⟨rfl, _, rfl, ?_⟩)
               rw [he]
               rfl)
            | trace_state
        | some m =>
          rw [hq] at he
          show awp _ _ _ _ _ (St L 35 [(0, row 1 (l.map encC)), (1, .a (rA x))] S [])
          repeat' (first
              | (with_reducible refine want_none ?_)
              | (with_reducible refine c_seq ?_)
              | (with_reducible refine c_region ?_)
              | (with_reducible refine aops_nil ?_)
              | (with_reducible refine k_normal ?_)
              | (with_reducible refine c_skip ?_)
              | (with_reducible refine c_ret ?_)
              | (with_reducible refine k_ret ?_)
              | ((with_reducible apply want_run); exact rfl; exact rfl)
              | ((with_reducible apply want_skip); exact rfl; exact rfl; exact rfl)
              | ((with_reducible apply st_callv); exact rfl; exact rfl; exact rfl; exact rfl; exact refMayC_AC (some l); (rintro v rfl); rw [hmay])
              | ((with_reducible apply st_callv); exact rfl; exact rfl; exact rfl; exact rfl; exact hasC_AC (some l) x; (rintro v rfl); rw [hh])
              | ((with_reducible apply d_done); (decide +kernel))
              | ((with_reducible apply d_takeQ RdT.ok 0); (decide +kernel); exact rfl; exact rfl; exact rfl; exact rfl; (decide +kernel); (decide +kernel); exact rfl; exact rfl)
              | ((with_reducible apply d_takeQ RdT.ok 1); (decide +kernel); exact rfl; exact rfl; exact rfl; exact rfl; (decide +kernel); (decide +kernel); exact rfl; exact rfl)
              | ((with_reducible apply d_takeQ RdT.ok 5); (decide +kernel); exact rfl; exact rfl; exact rfl; exact rfl; (decide +kernel); (decide +kernel); exact rfl; exact rfl)
              | ((with_reducible apply d_takeQ RdT.ok 8); (decide +kernel); exact rfl; exact rfl; exact rfl; exact rfl; (decide +kernel); (decide +kernel); exact rfl; exact rfl)
              | ((with_reducible apply d_takeQ RdT.ok 9); (decide +kernel); exact rfl; exact rfl; exact rfl; exact rfl; (decide +kernel); (decide +kernel); exact rfl; exact rfl)
              | ((with_reducible apply d_takeQ RdT.ok 10); (decide +kernel); exact rfl; exact rfl; exact rfl; exact rfl; (decide +kernel); (decide +kernel); exact rfl; exact rfl)
              | ((with_reducible apply d_takeQ RdT.ok 11); (decide +kernel); exact rfl; exact rfl; exact rfl; exact rfl; (decide +kernel); (decide +kernel); exact rfl; exact rfl)
              | ((with_reducible apply d_takeQ RdT.ok 12); (decide +kernel); exact rfl; exact rfl; exact rfl; exact rfl; (decide +kernel); (decide +kernel); exact rfl; exact rfl)
              | ((with_reducible apply d_rs [2, 3, 4, 6, 7]); (decide +kernel); exact rfl)
              | ((with_reducible apply d_rs [2, 3, 4, 6]); (decide +kernel); exact rfl)
              | ((with_reducible apply d_rs [2, 3, 4, 7]); (decide +kernel); exact rfl)
              | ((with_reducible apply d_rs [2, 3, 6, 7]); (decide +kernel); exact rfl)
              | ((with_reducible apply d_rs [2, 4, 6, 7]); (decide +kernel); exact rfl)
              | ((with_reducible apply d_rs [3, 4, 6, 7]); (decide +kernel); exact rfl)
              | ((with_reducible apply d_rs [2, 3, 4]); (decide +kernel); exact rfl)
              | ((with_reducible apply d_rs [2, 3, 6]); (decide +kernel); exact rfl)
              | ((with_reducible apply d_rs [2, 3, 7]); (decide +kernel); exact rfl)
              | ((with_reducible apply d_rs [2, 4, 6]); (decide +kernel); exact rfl)
              | ((with_reducible apply d_rs [2, 4, 7]); (decide +kernel); exact rfl)
              | ((with_reducible apply d_rs [2, 6, 7]); (decide +kernel); exact rfl)
              | ((with_reducible apply d_rs [3, 4, 6]); (decide +kernel); exact rfl)
              | ((with_reducible apply d_rs [3, 4, 7]); (decide +kernel); exact rfl)
              | ((with_reducible apply d_rs [3, 6, 7]); (decide +kernel); exact rfl)
              | ((with_reducible apply d_rs [4, 6, 7]); (decide +kernel); exact rfl)
              | ((with_reducible apply d_rs [2, 3]); (decide +kernel); exact rfl)
              | ((with_reducible apply d_rs [2, 4]); (decide +kernel); exact rfl)
              | ((with_reducible apply d_rs [2, 6]); (decide +kernel); exact rfl)
              | ((with_reducible apply d_rs [2, 7]); (decide +kernel); exact rfl)
              | ((with_reducible apply d_rs [3, 4]); (decide +kernel); exact rfl)
              | ((with_reducible apply d_rs [3, 6]); (decide +kernel); exact rfl)
              | ((with_reducible apply d_rs [3, 7]); (decide +kernel); exact rfl)
              | ((with_reducible apply d_rs [4, 6]); (decide +kernel); exact rfl)
              | ((with_reducible apply d_rs [4, 7]); (decide +kernel); exact rfl)
              | ((with_reducible apply d_rs [6, 7]); (decide +kernel); exact rfl)
              | ((with_reducible apply d_rs [2]); (decide +kernel); exact rfl)
              | ((with_reducible apply d_rs [3]); (decide +kernel); exact rfl)
              | ((with_reducible apply d_rs [4]); (decide +kernel); exact rfl)
              | ((with_reducible apply d_rs [6]); (decide +kernel); exact rfl)
              | ((with_reducible apply d_rs [7]); (decide +kernel); exact rfl)
              | (with_reducible exact allR_nil)
              | ((with_reducible apply allR_cons); exact rfl)
              | ((with_reducible refine c_regionA 13 ?_ ?_); exact rfl)
              | ((with_reducible apply st_callv); exact rfl; exact rfl; exact rfl; exact rfl; exact refInc_AC t x.pos; (rintro v rfl); rw [hq])
              | ((with_reducible apply st_callv); exact rfl; exact rfl; exact rfl; exact rfl; exact withC_AC l x.chunk (some m) hln.2 (by omega); (rintro v rfl))
              | ((with_reducible apply st_box); exact rfl; exact rfl; exact rfl; exact rfl)
              | ((with_reducible apply st_loadpelK); exact rfl; exact rfl; assumption; exact rfl; exact rfl)
              | ((with_reducible apply st_load); exact rfl; exact rfl; exact rfl; exact rfl; exact rfl)
              | ((with_reducible apply st_idx); exact rfl; exact rfl; exact rfl; exact rfl; exact rfl; omega)
              | ((with_reducible apply st_q RdT.ok); exact rfl; exact rfl)
              | ((with_reducible apply c_condT); exact rfl)
              | ((with_reducible apply c_condF); exact rfl))
          all_goals first
            | (exfalso; omega)
            | (skip
               ((with_reducible apply r_tup); exact rfl; exact .tmp rfl (.tmp rfl .nil); exact rfl; exact .cons (.s (.pv _)) (.cons (.s (.pv _)) .nil); exact hS; refine ⟨rfl, _, rfl, ?_⟩)
               rw [he]
               rfl)
            | trace_state
theorem refDecC_AC (o : Option (List Tb)) (x : Rf) : ACv Try.prog 52 [cA o, rA x] fun v => v = turnCV (turnC o x (-1)) := by
  intro L S hL
  refine fn_St (n := 35) (rs := [.tmp 4, .tmp 5]) hands_val RdT.ok RdT.mixed Try.func52 rfl (by kernel_rfl) rfl rfl rfl (by omega) ?_
  intro hS
  cases hmay : mayC o with
  | false =>
    show awp _ _ _ _ _ (St L 35 [(0, .a (cA o)), (1, .a (rA x))] S [])
    repeat' (first
        | (with_reducible refine want_none ?_)
        | (with_reducible refine c_seq ?_)
        | (with_reducible refine c_region ?_)
        | (with_reducible refine aops_nil ?_)
        | (with_reducible refine k_normal ?_)
        | (with_reducible refine c_skip ?_)
        | (with_reducible refine c_ret ?_)
        | (with_reducible refine k_ret ?_)
        | ((with_reducible apply want_run); exact rfl; exact rfl)
        | ((with_reducible apply want_skip); exact rfl; exact rfl; exact rfl)
        | ((with_reducible apply st_callv); exact rfl; exact rfl; exact rfl; exact rfl; exact refMayC_AC o; (rintro v rfl); rw [hmay])
        | ((with_reducible apply st_box); exact rfl; exact rfl; exact rfl; exact rfl)
        | ((with_reducible apply st_loadpelK); exact rfl; exact rfl; assumption; exact rfl; exact rfl)
        | ((with_reducible apply st_load); exact rfl; exact rfl; exact rfl; exact rfl; exact rfl)
        | ((with_reducible apply st_idx); exact rfl; exact rfl; exact rfl; exact rfl; exact rfl; omega)
        | ((with_reducible apply st_q RdT.ok); exact rfl; exact rfl)
        | ((with_reducible apply c_condT); exact rfl)
        | ((with_reducible apply c_condF); exact rfl))
    ((with_reducible apply r_tup); exact rfl; exact .tmp rfl (.tmp rfl .nil); exact rfl; exact .cons (.s (.pv _)) (.cons (.s (.pv _)) .nil); exact hS; refine ⟨rfl, _, rfl, ?_⟩)
    rw [turnC, if_neg (by rw [hmay]; simp)]; rfl
  | true =>
    have hln := mayC_len hmay
    cases hh : hasC o x with
    | false =>
      show awp _ _ _ _ _ (St L 35 [(0, .a (cA o)), (1, .a (rA x))] S [])
      repeat' (first
          | (with_reducible refine want_none ?_)
          | (with_reducible refine c_seq ?_)
          | (with_reducible refine c_region ?_)
          | (with_reducible refine aops_nil ?_)
          | (with_reducible refine k_normal ?_)
          | (with_reducible refine c_skip ?_)
          | (with_reducible refine c_ret ?_)
          | (with_reducible refine k_ret ?_)
          | ((with_reducible apply want_run); exact rfl; exact rfl)
          | ((with_reducible apply want_skip); exact rfl; exact rfl; exact rfl)
          | ((with_reducible apply st_callv); exact rfl; exact rfl; exact rfl; exact rfl; exact refMayC_AC o; (rintro v rfl); rw [hmay])
          | ((with_reducible apply st_callv); exact rfl; exact rfl; exact rfl; exact rfl; exact hasC_AC o x; (rintro v rfl); rw [hh])
          | ((with_reducible apply st_box); exact rfl; exact rfl; exact rfl; exact rfl)
          | ((with_reducible apply st_loadpelK); exact rfl; exact rfl; assumption; exact rfl; exact rfl)
          | ((with_reducible apply st_load); exact rfl; exact rfl; exact rfl; exact rfl; exact rfl)
          | ((with_reducible apply st_idx); exact rfl; exact rfl; exact rfl; exact rfl; exact rfl; omega)
          | ((with_reducible apply st_q RdT.ok); exact rfl; exact rfl)
          | ((with_reducible apply c_condT); exact rfl)
          | ((with_reducible apply c_condF); exact rfl))
      ((with_reducible apply r_tup); exact rfl; exact .tmp rfl (.tmp rfl .nil); exact rfl; exact .cons (.s (.pv _)) (.cons (.s (.pv _)) .nil); exact hS; refine ⟨rfl, _, rfl, ?_⟩)
      rw [turnC_has o x _ hmay hh]; rfl
    | true =>
      cases o with
      | none => exact absurd hln.1 (by simp)
      | some l =>
        simp only [Option.getD_some] at hln
        obtain ⟨h0, h1, t, ht, he⟩ := turnC_has2 (-1) hmay hh
        cases hq : turnO t x.pos (-1) with
        | none =>
          rw [hq] at he
          show awp _ _ _ _ _ (St L 35 [(0, row 1 (l.map encC)), (1, .a (rA x))] S [])
          repeat' (first
              | (with_reducible refine want_none ?_)
              | (with_reducible refine c_seq ?_)
              | (with_reducible refine c_region ?_)
              | (with_reducible refine aops_nil ?_)
              | (with_reducible refine k_normal ?_)
              | (with_reducible refine c_skip ?_)
              | (with_reducible refine c_ret ?_)
              | (with_reducible refine k_ret ?_)
              | ((with_reducible apply want_run); exact rfl; exact rfl)
              | ((with_reducible apply want_skip); exact rfl; exact rfl; exact rfl)
              | ((with_reducible apply st_callv); exact rfl; exact rfl; exact rfl; exact rfl; exact refMayC_AC (some l); (rintro v rfl); rw [hmay])
              | ((with_reducible apply st_callv); exact rfl; exact rfl; exact rfl; exact rfl; exact hasC_AC (some l) x; (rintro v rfl); rw [hh])
              | ((with_reducible apply d_done); (decide +kernel))
              | ((with_reducible apply d_takeQ RdT.ok 0); (decide +kernel); exact rfl; exact rfl; exact rfl; exact rfl; (decide +kernel); (decide +kernel); exact rfl; exact rfl)
              | ((with_reducible apply d_takeQ RdT.ok 1); (decide +kernel); exact rfl; exact rfl; exact rfl; exact rfl; (decide +kernel); (decide +kernel); exact rfl; exact rfl)
              | ((with_reducible apply d_takeQ RdT.ok 5); (decide +kernel); exact rfl; exact rfl; exact rfl; exact rfl; (decide +kernel); (decide +kernel); exact rfl; exact rfl)
              | ((with_reducible apply d_takeQ RdT.ok 8); (decide +kernel); exact rfl; exact rfl; exact rfl; exact rfl; (decide +kernel); (decide +kernel); exact rfl; exact rfl)
              | ((with_reducible apply d_takeQ RdT.ok 9); (decide +kernel); exact rfl; exact rfl; exact rfl; exact rfl; (decide +kernel); (decide +kernel); exact rfl; exact rfl)
              | ((with_reducible apply d_takeQ RdT.ok 10); (decide +kernel); exact rfl; exact rfl; exact rfl; exact rfl; (decide +kernel); (decide +kernel); exact rfl; exact rfl)
              | ((with_reducible apply d_takeQ RdT.ok 11); (decide +kernel); exact rfl; exact rfl; exact rfl; exact rfl; (decide +kernel); (decide +kernel); exact rfl; exact rfl)
              | ((with_reducible apply d_takeQ RdT.ok 12); (decide +kernel); exact rfl; exact rfl; exact rfl; exact rfl; (decide +kernel); (decide +kernel); exact rfl; exact rfl)
              | ((with_reducible apply d_rs [2, 3, 4, 6, 7]); (decide +kernel); exact rfl)
              | ((with_reducible apply d_rs [2, 3, 4, 6]); (decide +kernel); exact rfl)
              | ((with_reducible apply d_rs [2, 3, 4, 7]); (decide +kernel); exact rfl)
              | ((with_reducible apply d_rs [2, 3, 6, 7]); (decide +kernel); exact rfl)
              | ((with_reducible apply d_rs [2, 4, 6, 7]); (decide +kernel); exact rfl)
              | ((with_reducible apply d_rs [3, 4, 6, 7]); (decide +kernel); exact rfl)
              | ((with_reducible apply d_rs [2, 3, 4]); (decide +kernel); exact rfl)
              | ((with_reducible apply d_rs [2, 3, 6]); (decide +kernel); exact rfl)
              | ((with_reducible apply d_rs [2, 3, 7]); (decide +kernel); exact rfl)
              | ((with_reducible apply d_rs [2, 4, 6]); (decide +kernel); exact rfl)
              | ((with_reducible apply d_rs [2, 4, 7]); (decide +kernel); exact rfl)
              | ((with_reducible apply d_rs [2, 6, 7]); (decide +kernel); exact rfl)
              | ((with_reducible apply d_rs [3, 4, 6]); (decide +kernel); exact rfl)
              | ((with_reducible apply d_rs [3, 4, 7]); (decide +kernel); exact rfl)
              | ((with_reducible apply d_rs [3, 6, 7]); (decide +kernel); exact rfl)
              | ((with_reducible apply d_rs [4, 6, 7]); (decide +kernel); exact rfl)
              | ((with_reducible apply d_rs [2, 3]); (decide +kernel); exact rfl)
              | ((with_reducible apply d_rs [2, 4]); (decide +kernel); exact rfl)
              | ((with_reducible apply d_rs [2, 6]); (decide +kernel); exact rfl)
              | ((with_reducible apply d_rs [2, 7]); (decide +kernel); exact rfl)
              | ((with_reducible apply d_rs [3, 4]); (decide +kernel); exact rfl)
              | ((with_reducible apply d_rs [3, 6]); (decide +kernel); exact rfl)
              | ((with_reducible apply d_rs [3, 7]); (decide +kernel); exact rfl)
              | ((with_reducible apply d_rs [4, 6]); (decide +kernel); exact rfl)
              | ((with_reducible apply d_rs [4, 7]); (decide +kernel); exact rfl)
              | ((with_reducible apply d_rs [6, 7]); (decide +kernel); exact rfl)
              | ((with_reducible apply d_rs [2]); (decide +kernel); exact rfl)
              | ((with_reducible apply d_rs [3]); (decide +kernel); exact rfl)
              | ((with_reducible apply d_rs [4]); (decide +kernel); exact rfl)
              | ((with_reducible apply d_rs [6]); (decide +kernel); exact rfl)
              | ((with_reducible apply d_rs [7]); (decide +kernel); exact rfl)
              | (with_reducible exact allR_nil)
              | ((with_reducible apply allR_cons); exact rfl)
              | ((with_reducible refine c_regionA 13 ?_ ?_); exact rfl)
              | ((with_reducible apply st_callv); exact rfl; exact rfl; exact rfl; exact rfl; exact refDec_AC t x.pos; (rintro v rfl); rw [hq])
              | ((with_reducible apply st_box); exact rfl; exact rfl; exact rfl; exact rfl)
              | ((with_reducible apply st_loadpelK); exact rfl; exact rfl; assumption; exact rfl; exact rfl)
              | ((with_reducible apply st_load); exact rfl; exact rfl; exact rfl; exact rfl; exact rfl)
              | ((with_reducible apply st_idx); exact rfl; exact rfl; exact rfl; exact rfl; exact rfl; omega)
              | ((with_reducible apply st_q RdT.ok); exact rfl; exact rfl)
              | ((with_reducible apply c_condT); exact rfl)
              | ((with_reducible apply c_condF); exact rfl))
          all_goals first
            | (exfalso; omega)
            | (skip
               ((with_reducible apply r_tup); exact rfl; exact .tmp rfl (.tmp rfl .nil); exact rfl; exact .cons (.s (.pv _)) (.cons (.s (.pv _)) .nil); exact hS; refine ⟨rfl, _, rfl, ?_⟩)
               rw [he]
               rfl)
            | trace_state
        | some m =>
          rw [hq] at he
          show awp _ _ _ _ _ (St L 35 [(0, row 1 (l.map encC)), (1, .a (rA x))] S [])
          repeat' (first
              | (with_reducible refine want_none ?_)
              | (with_reducible refine c_seq ?_)
              | (with_reducible refine c_region ?_)
              | (with_reducible refine aops_nil ?_)
              | (with_reducible refine k_normal ?_)
              | (with_reducible refine c_skip ?_)
              | (with_reducible refine c_ret ?_)
              | (with_reducible refine k_ret ?_)
              | ((with_reducible apply want_run); exact rfl; exact rfl)
              | ((with_reducible apply want_skip); exact rfl; exact rfl; exact rfl)
              | ((with_reducible apply st_callv); exact rfl; exact rfl; exact rfl; exact rfl; exact refMayC_AC (some l); (rintro v rfl); rw [hmay])
              | ((with_reducible apply st_callv); exact rfl; exact rfl; exact rfl; exact rfl; exact hasC_AC (some l) x; (rintro v rfl); rw [hh])
              | ((with_reducible apply d_done); (decide +kernel))
              | ((with_reducible apply d_takeQ RdT.ok 0); (decide +kernel); exact rfl; exact rfl; exact rfl; exact rfl; (decide +kernel); (decide +kernel); exact rfl; exact rfl)
              | ((with_reducible apply d_takeQ RdT.ok 1); (decide +kernel); exact rfl; exact rfl; exact rfl; exact rfl; (decide +kernel); (decide +kernel); exact rfl; exact rfl)
              | ((with_reducible apply d_takeQ RdT.ok 5); (decide +kernel); exact rfl; exact rfl; exact rfl; exact rfl; (decide +kernel); (decide +kernel); exact rfl; exact rfl)
              | ((with_reducible apply d_takeQ RdT.ok 8); (decide +kernel); exact rfl; exact rfl; exact rfl; exact rfl; (decide +kernel); (decide +kernel); exact rfl; exact rfl)
              | ((with_reducible apply d_takeQ RdT.ok 9); (decide +kernel); exact rfl; exact rfl; exact rfl; exact rfl; (decide +kernel); (decide +kernel); exact rfl; exact rfl)
              | ((with_reducible apply d_takeQ RdT.ok 10); (decide +kernel); exact rfl; exact rfl; exact rfl; exact rfl; (decide +kernel); (decide +kernel); exact rfl; exact rfl)
              | ((with_reducible apply d_takeQ RdT.ok 11); (decide +kernel); exact rfl; exact rfl; exact rfl; exact rfl; (decide +kernel); (decide +kernel); exact rfl; exact rfl)
              | ((with_reducible apply d_takeQ RdT.ok 12); (decide +kernel); exact rfl; exact rfl; exact rfl; exact rfl; (decide +kernel); (decide +kernel); exact rfl; exact rfl)
              | ((with_reducible apply d_rs [2, 3, 4, 6, 7]); (decide +kernel); exact rfl)
              | ((with_reducible apply d_rs [2, 3, 4, 6]); (decide +kernel); exact rfl)
              | ((with_reducible apply d_rs [2, 3, 4, 7]); (decide +kernel); exact rfl)
              | ((with_reducible apply d_rs [2, 3, 6, 7]); (decide +kernel); exact rfl)
              | ((with_reducible apply d_rs [2, 4, 6, 7]); (decide +kernel); exact rfl)
              | ((with_reducible apply d_rs [3, 4, 6, 7]); (decide +kernel); exact rfl)
              | ((with_reducible apply d_rs [2, 3, 4]); (decide +kernel); exact rfl)
              | ((with_reducible apply d_rs [2, 3, 6]); (decide +kernel); exact rfl)
              | ((with_reducible apply d_rs [2, 3, 7]); (decide +kernel); exact rfl)
              | ((with_reducible apply d_rs [2, 4, 6]); (decide +kernel); exact rfl)
              | ((with_reducible apply d_rs [2, 4, 7]); (decide +kernel); exact rfl)
              | ((with_reducible apply d_rs [2, 6, 7]); (decide +kernel); exact rfl)
              | ((with_reducible apply d_rs [3, 4, 6]); (decide +kernel); exact rfl)
              | ((with_reducible apply d_rs [3, 4, 7]); (decide +kernel); exact rfl)
              | ((with_reducible apply d_rs [3, 6, 7]); (decide +kernel); exact rfl)
              | ((with_reducible apply d_rs [4, 6, 7]); (decide +kernel); exact rfl)
              | ((with_reducible apply d_rs [2, 3]); (decide +kernel); exact rfl)
              | ((with_reducible apply d_rs [2, 4]); (decide +kernel); exact rfl)
              | ((with_reducible apply d_rs [2, 6]); (decide +kernel); exact rfl)
              | ((with_reducible apply d_rs [2, 7]); (decide +kernel); exact rfl)
              | ((with_reducible apply d_rs [3, 4]); (decide +kernel); exact rfl)
              | ((with_reducible apply d_rs [3, 6]); (decide +kernel); exact rfl)
              | ((with_reducible apply d_rs [3, 7]); (decide +kernel); exact rfl)
              | ((with_reducible apply d_rs [4, 6]); (decide +kernel); exact rfl)
              | ((with_reducible apply d_rs [4, 7]); (decide +kernel); exact rfl)
              | ((with_reducible apply d_rs [6, 7]); (decide +kernel); exact rfl)
              | ((with_reducible apply d_rs [2]); (decide +kernel); exact rfl)
              | ((with_reducible apply d_rs [3]); (decide +kernel); exact rfl)
              | ((with_reducible apply d_rs [4]); (decide +kernel); exact rfl)
              | ((with_reducible apply d_rs [6]); (decide +kernel); exact rfl)
              | ((with_reducible apply d_rs [7]); (decide +kernel); exact rfl)
              | (with_reducible exact allR_nil)
              | ((with_reducible apply allR_cons); exact rfl)
              | ((with_reducible refine c_regionA 13 ?_ ?_); exact rfl)
              | ((with_reducible apply st_callv); exact rfl; exact rfl; exact rfl; exact rfl; exact refDec_AC t x.pos; (rintro v rfl); rw [hq])
              | ((with_reducible apply st_callv); exact rfl; exact rfl; exact rfl; exact rfl; exact withC_AC l x.chunk (some m) hln.2 (by omega); (rintro v rfl))
              | ((with_reducible apply st_box); exact rfl; exact rfl; exact rfl; exact rfl)
              | ((with_reducible apply st_loadpelK); exact rfl; exact rfl; assumption; exact rfl; exact rfl)
              | ((with_reducible apply st_load); exact rfl; exact rfl; exact rfl; exact rfl; exact rfl)
              | ((with_reducible apply st_idx); exact rfl; exact rfl; exact rfl; exact rfl; exact rfl; omega)
              | ((with_reducible apply st_q RdT.ok); exact rfl; exact rfl)
              | ((with_reducible apply c_condT); exact rfl)
              | ((with_reducible apply c_condF); exact rfl))
          all_goals first
            | (exfalso; omega)
            | (skip
               ((with_reducible apply r_tup); exact rfl; exact .tmp rfl (.tmp rfl .nil); exact rfl; exact .cons (.s (.pv _)) (.cons (.s (.pv _)) .nil); exact hS; refine ⟨rfl, _, rfl, ?_⟩)
               rw [he]
               rfl)
            | trace_state
end Go.Proofs.Ytfdaioinghfjpaa
namespace Go.Rd
open Go.RowKit Go.Proofs
variable {P : Program} {T : TypeId → Option TI} {L n : Nat} {tm : List (Nat × TV)} {S : Store} {own : List (Nat × AObj)} {ops rest : List Oper} {Q : ASt → Prop} {d : Tmp} {ty : TypeId} {pos : String} {af : Array Edge} {g : Option (Nat × Bool)}
def FB (op : BinOp) (k : FloatKind) (a b r : Nat) : Prop := floatBits op k a b = some r ∨ (floatBits op k a b = none ∧ NanB k r)
theorem st_flt {op : BinOp} {t t2 : TypeId} {x y : Operand} {k : FloatKind} {a b : Nat} (hx : evF tm x = some (lit (.float k a))) (hy : evF tm y = some (lit (.float k b))) (ht : T t = none) (hop : op = .add ∨ op = .sub ∨ op = .mul ∨ op = .quo) (hd : Nat.blt d n = true)
    (hk : ∀ r, FB op k a b r → aops P T ops rest Q (St L n ((d, lit (.float k r)) :: tm) S own)) : aop1 P T ops rest Q ⟨some d, .binOp op t x y t2, ty, pos, af, g⟩ (St L n tm S own) := by
  simp only [aop1, x1, evF_ok hx, evF_ok hy]
  cases hf : floatBits op k a b with
  | some r =>
    left
    refine ⟨rfl, ?_⟩
    rcases hop with rfl | rfl | rfl | rfl <;> exact ⟨r, hf, put_some hd (hk r (.inl hf))⟩
  | none =>
    right
    exact ⟨ht, rfl, hop, hf, fun r hr => put_some hd (hk r (.inr ⟨hf, hr⟩))⟩
theorem FB.some {op : BinOp} {k : FloatKind} {a b r p : Nat} (h : FB op k a b r) (hp : floatBits op k a b = some p) : r = p := by
  rcases h with h | h
  · rw [hp] at h; cases h; rfl
  · rw [hp] at h; cases h.1
theorem FB.none {op : BinOp} {k : FloatKind} {a b r : Nat} (h : FB op k a b r) (hp : floatBits op k a b = none) : NanB k r := by
  rcases h with h | h
  · rw [hp] at h; cases h
  · exact h.2
end Go.Rd
namespace Go.Proofs.Ytfdaioinghfjpaa
open Go.Rd Go.RowKit
set_option maxRecDepth 20000
set_option linter.unusedSimpArgs false
set_option linter.unusedVariables false
set_option maxHeartbeats 4000000
def PartR (a b : Int) (r : Nat) : Prop := FB .quo .f64 (floatOfInt .f64 a) (floatOfInt .f64 b) r
theorem partG_AC (a b : Int) : ACv Try.prog 93 [.s (.pv (.lit (.int .i64 a))), .s (.pv (.lit (.int .i64 b)))] fun v => ∃ r, v = .a (fl r) ∧ PartR a b r := by
    intro L S hL
    refine fn_St (n := 10) (rs := [.tmp 4]) hands_val RdT.ok RdT.mixed Try.func93 rfl (by kernel_rfl) rfl rfl rfl hL ?_
    intro hS
    show awp _ _ _ _ _ (St L 10 [(0, int a), (1, int b)] S [])
    repeat' (first
        | (with_reducible refine want_none ?_)
        | (with_reducible refine c_seq ?_)
        | (with_reducible refine c_region ?_)
        | (with_reducible refine aops_nil ?_)
        | (with_reducible refine k_normal ?_)
        | (with_reducible refine c_ret ?_)
        | ((with_reducible apply st_flt); exact rfl; exact rfl; exact rfl; (first | exact .inl rfl | exact .inr (.inl rfl) | exact .inr (.inr (.inl rfl)) | exact .inr (.inr (.inr rfl))); exact rfl; (intro r hr))
        | ((with_reducible apply st_toFloat (k := .f64)); exact rfl; exact rfl; (kernel_rfl); (kernel_rfl))
        | ((with_reducible apply st_q RdT.ok); exact rfl; exact rfl))
    ((with_reducible apply r_one); exact rfl; exact .tmp rfl .nil; exact .s (.pv _); exact hS; refine ⟨rfl, _, rfl, ?_⟩)
    exact ⟨_, rfl, hr⟩
theorem refPartG_AC (a b : Int) : ACv Try.prog 97 [.s (.pv (.lit (.int .i64 a))), .s (.pv (.lit (.int .i64 b)))] fun v => ∃ r, v = .a (fl r) ∧ PartR a b r := by
    intro L S hL
    refine fn_St (n := 10) (rs := [.tmp 4]) hands_val RdT.ok RdT.mixed Try.func97 rfl (by kernel_rfl) rfl rfl rfl hL ?_
    intro hS
    show awp _ _ _ _ _ (St L 10 [(0, int a), (1, int b)] S [])
    repeat' (first
        | (with_reducible refine want_none ?_)
        | (with_reducible refine c_seq ?_)
        | (with_reducible refine c_region ?_)
        | (with_reducible refine aops_nil ?_)
        | (with_reducible refine k_normal ?_)
        | (with_reducible refine c_ret ?_)
        | ((with_reducible apply st_flt); exact rfl; exact rfl; exact rfl; (first | exact .inl rfl | exact .inr (.inl rfl) | exact .inr (.inr (.inl rfl)) | exact .inr (.inr (.inr rfl))); exact rfl; (intro r hr))
        | ((with_reducible apply st_toFloat (k := .f64)); exact rfl; exact rfl; (kernel_rfl); (kernel_rfl))
        | ((with_reducible apply st_q RdT.ok); exact rfl; exact rfl))
    ((with_reducible apply r_one); exact rfl; exact .tmp rfl .nil; exact .s (.pv _); exact hS; refine ⟨rfl, _, rfl, ?_⟩)
    exact ⟨_, rfl, hr⟩
def BrR (a b : Int) (r : Nat) : Prop := ∃ p, PartR a b p ∧ FB .sub .f64 4607182418800017408 p r
def BrC (o : Option (List Tb)) (r : Nat) : Prop := if mayC o = true then BrR (sumOf lng (o.getD [])) (sumOf fr (o.getD [])) r else r = 0
theorem brokenG_AC (o : Option (List Tb)) : ACv Try.prog 48 [cA o] fun v => ∃ r, v = .a (fl r) ∧ BrC o r := by
  intro L S hL
  refine fn_St (n := 30) (rs := [.tmp 2]) hands_val RdT.ok RdT.mixed Try.func48 rfl (by kernel_rfl) rfl rfl rfl hL ?_
  intro hS
  cases hmay : mayC o with
  | false =>
    show awp _ _ _ _ _ (St L 30 [(0, .a (cA o))] S [])
    repeat' (first
        | (with_reducible refine want_none ?_)
        | (with_reducible refine c_seq ?_)
        | (with_reducible refine c_region ?_)
        | (with_reducible refine c_block ?_)
        | (with_reducible refine aops_nil ?_)
        | (with_reducible refine k_normal ?_)
        | (with_reducible refine c_skip ?_)
        | (with_reducible refine c_exit ?_)
        | (with_reducible refine c_ret ?_)
        | (with_reducible refine k_ret ?_)
        | (with_reducible refine k_exit ?_)
        | (with_reducible refine kr_exit ?_)
        | (with_reducible refine kb_normal ?_)
        | (with_reducible refine kb_hit ?_)
        | ((with_reducible apply st_callv); exact rfl; exact rfl; exact rfl; exact rfl; exact mayC_AC o; (rintro v rfl); rw [hmay])
        | ((with_reducible apply st_loadpelK); exact rfl; exact rfl; assumption; exact rfl; exact rfl)
        | ((with_reducible apply st_loadpel); exact rfl; exact rfl; omega; exact rfl; (intro u hu; refine ⟨_, rfl, ?_⟩; try simp only [Int.toNat_natCast] at hu))
        | ((with_reducible apply st_idx); exact rfl; exact rfl; exact rfl; exact rfl; exact rfl; omega)
        | ((with_reducible apply st_len RdT.ok); exact rfl; exact rfl; exact rfl; intro hlen)
        | ((with_reducible apply st_add); exact rfl; exact rfl; exact rfl; omega)
        | ((with_reducible apply st_q RdT.ok); exact rfl; exact rfl)
        | ((with_reducible apply c_condT); exact rfl)
        | ((with_reducible apply c_condF); exact rfl)
        | ((with_reducible apply c_cond); exact rfl; (first | exact Bp.not Bp.dec | exact Bp.dec | exact Bp.not Bp.bool | exact Bp.bool); all_goals intro hc))
    ((with_reducible apply r_one); exact rfl; exact .tmp rfl .nil; exact .s (.pv _); exact hS; refine ⟨rfl, _, rfl, ?_⟩)
    exact ⟨_, rfl, by rw [BrC, if_neg (by rw [hmay]; simp)]⟩
  | true =>
  cases o with
  | none => exact absurd (mayC_len hmay).1 (by simp)
  | some l =>
  have hln := mayC_len hmay
  have hme := mayC_mem hmay
  simp only [Option.getD_some] at hln hme
  have ho : orNil (l.map used) = some (l.map used) := orNil_some (by rw [List.length_map]; exact hln.1)
  have hlm : (l.map used).length = l.length := List.length_map _
  have hbr : ∀ r, BrR (sumOf lng l) (sumOf fr l) r → BrC (some l) r := fun r h => by rw [BrC, if_pos hmay]; exact h
  show awp _ _ _ _ _ (St L 30 [(0, row 1 (l.map encC))] S [])
  repeat' (first
      | (with_reducible refine want_none ?_)
      | (with_reducible refine c_seq ?_)
      | (with_reducible refine c_region ?_)
      | (with_reducible refine c_block ?_)
      | (with_reducible refine aops_nil ?_)
      | (with_reducible refine k_normal ?_)
      | (with_reducible refine c_skip ?_)
      | (with_reducible refine c_exit ?_)
      | (with_reducible refine c_ret ?_)
      | (with_reducible refine k_ret ?_)
      | (with_reducible refine k_exit ?_)
      | (with_reducible refine kr_exit ?_)
      | (with_reducible refine kb_normal ?_)
      | (with_reducible refine kb_hit ?_)
      | ((with_reducible apply st_callv); exact rfl; exact rfl; exact rfl; exact rfl; exact mayC_AC (some l); (rintro v rfl); rw [hmay])
      | ((with_reducible apply st_callv); exact rfl; exact rfl; exact rfl; exact rfl; exact eachB_AC 28 used used_AC l hln.2; (rintro v rfl); rw [ho])
      | ((with_reducible apply st_loadpelK); exact rfl; exact rfl; assumption; exact rfl; exact rfl)
      | ((with_reducible apply st_loadpel); exact rfl; exact rfl; omega; exact rfl; (intro u hu; refine ⟨_, rfl, ?_⟩; try simp only [Int.toNat_natCast] at hu))
      | ((with_reducible apply st_idx); exact rfl; exact rfl; exact rfl; exact rfl; exact rfl; omega)
      | ((with_reducible apply st_len RdT.ok); exact rfl; exact rfl; exact rfl; intro hlen)
      | ((with_reducible apply st_add); exact rfl; exact rfl; exact rfl; omega)
      | ((with_reducible apply st_q RdT.ok); exact rfl; exact rfl)
      | ((with_reducible apply c_condT); exact rfl)
      | ((with_reducible apply c_condF); exact rfl)
      | ((with_reducible apply c_cond); exact rfl; (first | exact Bp.not Bp.dec | exact Bp.dec | exact Bp.not Bp.bool | exact Bp.bool); all_goals intro hc))
  refine c_loop (β := Nat) (fun k => k ≤ l.length) (fun k => l.length - k) (fun k => [(3, int (sumOf lng (l.take k))), (4, int (sumOf fr (l.take k))), (11, row 1 ((l.map used).map encD)), (12, int (l.map used).length), (13, int k)]) (fun _ => []) 0 (Nat.zero_le _) ⟨rfl, rfl, rfl, rfl, rfl, trivial⟩ trivial rfl rfl ?_
  intro k hk
  have b1 := sumOf_le fr 16 fr_le (l.take k)
  have b2 := sumOf_le lng 16 lng_le (l.take k)
  rw [List.length_take] at b1 b2
  rcases Nat.lt_or_ge k l.length with hk' | hk'
  · obtain ⟨t, ht⟩ : ∃ t, l[k]? = some t := ⟨_, List.getElem?_eq_getElem hk'⟩
    have hu' : (l.map used)[k]? = some (some (bitsOf t)) := by
      rw [List.getElem?_map, ht]
      exact congrArg some (used_some (hme t (List.mem_of_getElem? ht)))
    have f1 := fr_le t
    have f2 := lng_le t
    have f3 : longF 0 (runs1 0 0 (bitsOf t)) = (lng t : Int) := (Int.toNat_of_nonneg (long_nonneg _)).symm
    repeat' (first
        | (with_reducible refine want_none ?_)
        | (with_reducible refine c_seq ?_)
        | (with_reducible refine c_region ?_)
        | (with_reducible refine c_block ?_)
        | (with_reducible refine aops_nil ?_)
        | (with_reducible refine k_normal ?_)
        | (with_reducible refine c_skip ?_)
        | (with_reducible refine c_exit ?_)
        | (with_reducible refine c_ret ?_)
        | (with_reducible refine k_ret ?_)
        | (with_reducible refine k_exit ?_)
        | (with_reducible refine kr_exit ?_)
        | (with_reducible refine kb_normal ?_)
        | (with_reducible refine kb_hit ?_)
        | ((with_reducible apply st_callv); exact rfl; exact rfl; exact rfl; exact rfl; exact longest_AC (bitsOf t) (bitsOf_sz _) (bitsOf_ne _); (rintro v rfl); rw [f3])
        | ((with_reducible apply st_callv); exact rfl; exact rfl; exact rfl; exact rfl; exact runsFree_AC (bitsOf t) (bitsOf_sz _) (bitsOf_ne _); (rintro v rfl); rw [show free (bitsOf t) = fr t from rfl])
        | ((with_reducible apply st_loadpelK); exact rfl; exact rfl; assumption; exact rfl; exact rfl)
        | ((with_reducible apply st_loadpel); exact rfl; exact rfl; omega; exact rfl; (intro u hu; refine ⟨_, rfl, ?_⟩; try simp only [Int.toNat_natCast] at hu))
        | ((with_reducible apply st_idx); exact rfl; exact rfl; exact rfl; exact rfl; exact rfl; omega)
        | ((with_reducible apply st_len RdT.ok); exact rfl; exact rfl; exact rfl; intro hlen)
        | ((with_reducible apply st_add); exact rfl; exact rfl; exact rfl; omega)
        | ((with_reducible apply st_q RdT.ok); exact rfl; exact rfl)
        | ((with_reducible apply c_condT); exact rfl)
        | ((with_reducible apply c_condF); exact rfl)
        | ((with_reducible apply c_cond); exact rfl; (first | exact Bp.not Bp.dec | exact Bp.dec | exact Bp.not Bp.bool | exact Bp.bool); all_goals intro hc))
    all_goals try (exfalso; omega)
    (with_reducible refine k_back (k + 1) ?_ ?_ ?_ ?_ ?_ ?_)
    · omega
    · omega
    · refine ⟨?_, ?_, rfl, rfl, rfl, trivial⟩
      · rw [sumOf_take lng ht]
        exact (show Rd.int ((sumOf lng (l.take k) : Int) + (lng t : Int)) = _ from congrArg Rd.int (by omega))
      · rw [sumOf_take fr ht]
        exact (show Rd.int ((sumOf fr (l.take k) : Int) + (fr t : Int)) = _ from congrArg Rd.int (by omega))
    · exact trivial
    · exact rfl
    · exact rfl
  · have e1 : l.take k = l := List.take_of_length_le hk'
    rw [e1]
    repeat' (first
        | (with_reducible refine want_none ?_)
        | (with_reducible refine c_seq ?_)
        | (with_reducible refine c_region ?_)
        | (with_reducible refine c_block ?_)
        | (with_reducible refine aops_nil ?_)
        | (with_reducible refine k_normal ?_)
        | (with_reducible refine c_skip ?_)
        | (with_reducible refine c_exit ?_)
        | (with_reducible refine c_ret ?_)
        | (with_reducible refine k_ret ?_)
        | (with_reducible refine k_exit ?_)
        | (with_reducible refine kr_exit ?_)
        | (with_reducible refine kb_normal ?_)
        | (with_reducible refine kb_hit ?_)
        | ((with_reducible apply st_callv); exact rfl; exact rfl; exact rfl; exact rfl; exact partG_AC (sumOf lng l) (sumOf fr l); (rintro v ⟨p, rfl, hp⟩))
        | ((with_reducible apply st_flt); exact rfl; exact rfl; exact rfl; (first | exact .inl rfl | exact .inr (.inl rfl) | exact .inr (.inr (.inl rfl)) | exact .inr (.inr (.inr rfl))); exact rfl; (intro r hr))
        | ((with_reducible apply st_loadpelK); exact rfl; exact rfl; assumption; exact rfl; exact rfl)
        | ((with_reducible apply st_loadpel); exact rfl; exact rfl; omega; exact rfl; (intro u hu; refine ⟨_, rfl, ?_⟩; try simp only [Int.toNat_natCast] at hu))
        | ((with_reducible apply st_idx); exact rfl; exact rfl; exact rfl; exact rfl; exact rfl; omega)
        | ((with_reducible apply st_len RdT.ok); exact rfl; exact rfl; exact rfl; intro hlen)
        | ((with_reducible apply st_add); exact rfl; exact rfl; exact rfl; omega)
        | ((with_reducible apply st_q RdT.ok); exact rfl; exact rfl)
        | ((with_reducible apply c_condT); exact rfl)
        | ((with_reducible apply c_condF); exact rfl)
        | ((with_reducible apply c_cond); exact rfl; (first | exact Bp.not Bp.dec | exact Bp.dec | exact Bp.not Bp.bool | exact Bp.bool); all_goals intro hc))
    all_goals try (exfalso; omega)
    ((with_reducible apply r_one); exact rfl; exact .tmp rfl .nil; exact .s (.pv _); exact hS; refine ⟨rfl, _, rfl, ?_⟩)
    exact ⟨_, rfl, hbr _ ⟨_, hp, hr⟩⟩
end Go.Proofs.Ytfdaioinghfjpaa
namespace Go.Proofs.Ytfdaioinghfjpaa
open Go.Rd Go.RowKit
set_option maxRecDepth 20000
namespace Fl
theorem bi : Ieee.double.binade = 4503599627370496 := by decide
theorem ir : Ieee.double.infRung = 9218868437227405312 := by decide
theorem sw : Ieee.double.signWeight = 9223372036854775808 := by decide
theorem fb : Ieee.double.fractionBits = 52 := rfl
theorem p52 : (2 : Nat) ^ 52 = 4503599627370496 := by decide
end Fl
end Go.Proofs.Ytfdaioinghfjpaa
namespace Go.Proofs.Ytfdaioinghfjpaa
open Go.Rd Go.RowKit
set_option maxRecDepth 20000
namespace Fl
theorem nan_read {r : Nat} (h : NanB .f64 r) : ∃ s f, Ieee.double.read r = .nan s f := by
  obtain ⟨x, y, t, rfl⟩ := h
  show ∃ s f, Ieee.double.read ((t % 2) * 2 ^ 63 + 0x7ff0000000000000 + 1 + (t / 2) % (2 ^ 52 - 1)) = .nan s f
  have e63 : (2 : Nat) ^ 63 = 9223372036854775808 := by decide
  rw [e63, p52]
  obtain ⟨m, hm⟩ : ∃ m, (t / 2) % (4503599627370496 - 1) = m := ⟨_, rfl⟩
  have hml : m < 4503599627370495 := by omega
  obtain ⟨w, hw⟩ : ∃ w, t % 2 = w := ⟨_, rfl⟩
  have hwl : w ≤ 1 := by omega
  rw [hm, hw]
  clear hm hw
  unfold Ieee.Format.read
  rw [sw, bi, ir]
  obtain ⟨z, hz⟩ : ∃ z, (w * 9223372036854775808 + 9218868437227405312 + 1 + m) % 9223372036854775808 = z := ⟨_, rfl⟩
  simp only [hz]
  rw [if_neg (by omega), if_neg (by omega), if_neg (by omega)]
  exact ⟨_, _, rfl⟩
theorem nan_order {r s : Nat} (h : NanB .f64 r) : Ieee.double.order r s = none := by
  obtain ⟨a, b, e⟩ := nan_read h
  unfold Ieee.Format.order
  rw [e]
  rfl
theorem nan_sub {r s : Nat} (h : NanB .f64 r) : floatBits .sub .f64 s r = none := by
  obtain ⟨a, b, e⟩ := nan_read h
  show (((Ieee.double.read s).sum (Ieee.double.read r).opposite).map Ieee.double.write) = none
  rw [e]
  cases Ieee.double.read s <;> rfl
end Fl
end Go.Proofs.Ytfdaioinghfjpaa
namespace Go.Proofs.Ytfdaioinghfjpaa
open Go.Rd Go.RowKit
set_option maxRecDepth 20000
set_option linter.unusedSimpArgs false
set_option linter.unusedVariables false
set_option maxHeartbeats 4000000
def refCommitC (o : Option (List Tb)) : List Tb := if mayC o = true then (o.getD []).map fun t => some (refCommit t) else []
theorem refCommitC_AC (o : Option (List Tb)) : ACv Try.prog 55 [cA o] fun v => v = .a (cA (some (refCommitC o))) := by
  intro L S hL
  refine fn_St (n := 25) (rs := [.tmp 2]) hands_val RdT.ok RdT.mixed Try.func55 rfl (by kernel_rfl) rfl rfl rfl hL ?_
  intro hS
  cases o with
  | none =>
    show awp _ _ _ _ _ (St L 25 [(0, nilS)] S [])
    repeat' (first
        | (with_reducible refine want_none ?_)
        | (with_reducible refine c_seq ?_)
        | (with_reducible refine c_region ?_)
        | (with_reducible refine c_block ?_)
        | (with_reducible refine aops_nil ?_)
        | (with_reducible refine k_normal ?_)
        | (with_reducible refine c_skip ?_)
        | (with_reducible refine c_exit ?_)
        | (with_reducible refine c_ret ?_)
        | (with_reducible refine k_exit ?_)
        | (with_reducible refine kl_exit ?_)
        | (with_reducible refine kr_exit ?_)
        | (with_reducible refine kb_normal ?_)
        | (with_reducible refine kb_hit ?_)
        | ((with_reducible apply want_run); exact rfl; exact rfl)
        | ((with_reducible apply want_skip); exact rfl; exact rfl; exact rfl)
        | ((with_reducible apply want_forkT); exact rfl; exact rfl; exact rfl; (first | exact Bp.not Bp.dec | exact Bp.dec | exact Bp.not Bp.bool | exact Bp.bool); all_goals intro hc)
        | ((with_reducible apply st_buildslice); exact rfl; exact rfl; exact rfl; exact rfl; exact rfl; exact rfl; exact rfl; exact rfl)
        | ((with_reducible apply st_loadpel); exact rfl; exact rfl; omega; exact rfl; (intro u hu; refine ⟨_, rfl, ?_⟩; try simp only [Int.toNat_natCast] at hu))
        | ((with_reducible apply st_idx); exact rfl; exact rfl; exact rfl; exact rfl; exact rfl; omega)
        | ((with_reducible apply st_len RdT.ok); exact rfl; exact rfl; exact rfl; intro hlen)
        | ((with_reducible apply st_lennil RdT.ok); exact rfl; exact rfl; exact rfl)
        | ((with_reducible apply st_add); exact rfl; exact rfl; exact rfl; omega)
        | ((with_reducible apply st_q RdT.ok); exact rfl; exact rfl)
        | ((with_reducible apply c_condT); exact rfl)
        | ((with_reducible apply c_condF); exact rfl))
    refine c_loop0 ?_
    repeat' (first
        | (with_reducible refine want_none ?_)
        | (with_reducible refine c_seq ?_)
        | (with_reducible refine c_region ?_)
        | (with_reducible refine c_block ?_)
        | (with_reducible refine aops_nil ?_)
        | (with_reducible refine k_normal ?_)
        | (with_reducible refine c_skip ?_)
        | (with_reducible refine c_exit ?_)
        | (with_reducible refine c_ret ?_)
        | (with_reducible refine k_exit ?_)
        | (with_reducible refine kl_exit ?_)
        | (with_reducible refine kr_exit ?_)
        | (with_reducible refine kb_normal ?_)
        | (with_reducible refine kb_hit ?_)
        | ((with_reducible apply want_run); exact rfl; exact rfl)
        | ((with_reducible apply want_skip); exact rfl; exact rfl; exact rfl)
        | ((with_reducible apply want_forkT); exact rfl; exact rfl; exact rfl; (first | exact Bp.not Bp.dec | exact Bp.dec | exact Bp.not Bp.bool | exact Bp.bool); all_goals intro hc)
        | ((with_reducible apply st_loadpel); exact rfl; exact rfl; omega; exact rfl; (intro u hu; refine ⟨_, rfl, ?_⟩; try simp only [Int.toNat_natCast] at hu))
        | ((with_reducible apply st_idx); exact rfl; exact rfl; exact rfl; exact rfl; exact rfl; omega)
        | ((with_reducible apply st_len RdT.ok); exact rfl; exact rfl; exact rfl; intro hlen)
        | ((with_reducible apply st_lennil RdT.ok); exact rfl; exact rfl; exact rfl)
        | ((with_reducible apply st_add); exact rfl; exact rfl; exact rfl; omega)
        | ((with_reducible apply st_q RdT.ok); exact rfl; exact rfl)
        | ((with_reducible apply c_condT); exact rfl)
        | ((with_reducible apply c_condF); exact rfl))
    (with_reducible apply r_one); exact rfl; exact .tmp rfl .nil; exact .s (.sl rfl rfl); exact hS; refine ⟨rfl, _, rfl, ?_⟩
    rfl
  | some l =>
    show awp _ _ _ _ _ (St L 25 [(0, row 1 (l.map encC))] S [])
    repeat' (first
        | (with_reducible refine want_none ?_)
        | (with_reducible refine c_seq ?_)
        | (with_reducible refine c_region ?_)
        | (with_reducible refine c_block ?_)
        | (with_reducible refine aops_nil ?_)
        | (with_reducible refine k_normal ?_)
        | (with_reducible refine c_skip ?_)
        | (with_reducible refine c_exit ?_)
        | (with_reducible refine c_ret ?_)
        | (with_reducible refine k_exit ?_)
        | (with_reducible refine kl_exit ?_)
        | (with_reducible refine kr_exit ?_)
        | (with_reducible refine kb_normal ?_)
        | (with_reducible refine kb_hit ?_)
        | ((with_reducible apply want_run); exact rfl; exact rfl)
        | ((with_reducible apply want_skip); exact rfl; exact rfl; exact rfl)
        | ((with_reducible apply want_forkT); exact rfl; exact rfl; exact rfl; (first | exact Bp.not Bp.dec | exact Bp.dec | exact Bp.not Bp.bool | exact Bp.bool); all_goals intro hc)
        | ((with_reducible apply st_buildslice); exact rfl; exact rfl; exact rfl; exact rfl; exact rfl; exact rfl; exact rfl; exact rfl)
        | ((with_reducible apply st_loadpel); exact rfl; exact rfl; omega; exact rfl; (intro u hu; refine ⟨_, rfl, ?_⟩; try simp only [Int.toNat_natCast] at hu))
        | ((with_reducible apply st_idx); exact rfl; exact rfl; exact rfl; exact rfl; exact rfl; omega)
        | ((with_reducible apply st_len RdT.ok); exact rfl; exact rfl; exact rfl; intro hlen)
        | ((with_reducible apply st_lennil RdT.ok); exact rfl; exact rfl; exact rfl)
        | ((with_reducible apply st_add); exact rfl; exact rfl; exact rfl; omega)
        | ((with_reducible apply st_q RdT.ok); exact rfl; exact rfl)
        | ((with_reducible apply c_condT); exact rfl)
        | ((with_reducible apply c_condF); exact rfl))
    cases hmay : mayC (some l) with
    | false =>
      refine c_loop0 ?_
      repeat' (first
          | (with_reducible refine want_none ?_)
          | (with_reducible refine c_seq ?_)
          | (with_reducible refine c_region ?_)
          | (with_reducible refine c_block ?_)
          | (with_reducible refine aops_nil ?_)
          | (with_reducible refine k_normal ?_)
          | (with_reducible refine c_skip ?_)
          | (with_reducible refine c_exit ?_)
          | (with_reducible refine c_ret ?_)
          | (with_reducible refine k_exit ?_)
          | (with_reducible refine kl_exit ?_)
          | (with_reducible refine kr_exit ?_)
          | (with_reducible refine kb_normal ?_)
          | (with_reducible refine kb_hit ?_)
          | ((with_reducible apply want_run); exact rfl; exact rfl)
          | ((with_reducible apply want_skip); exact rfl; exact rfl; exact rfl)
          | ((with_reducible apply want_forkT); exact rfl; exact rfl; exact rfl; (first | exact Bp.not Bp.dec | exact Bp.dec | exact Bp.not Bp.bool | exact Bp.bool); all_goals intro hc)
          | ((with_reducible apply st_callv); exact rfl; exact rfl; exact rfl; exact rfl; exact refMayC_AC (some l); (rintro v rfl); rw [hmay])
          | ((with_reducible apply st_loadpel); exact rfl; exact rfl; omega; exact rfl; (intro u hu; refine ⟨_, rfl, ?_⟩; try simp only [Int.toNat_natCast] at hu))
          | ((with_reducible apply st_idx); exact rfl; exact rfl; exact rfl; exact rfl; exact rfl; omega)
          | ((with_reducible apply st_len RdT.ok); exact rfl; exact rfl; exact rfl; intro hlen)
          | ((with_reducible apply st_lennil RdT.ok); exact rfl; exact rfl; exact rfl)
          | ((with_reducible apply st_add); exact rfl; exact rfl; exact rfl; omega)
          | ((with_reducible apply st_q RdT.ok); exact rfl; exact rfl)
          | ((with_reducible apply c_condT); exact rfl)
          | ((with_reducible apply c_condF); exact rfl))
      all_goals
        (with_reducible apply r_one); exact rfl; exact .tmp rfl .nil; exact .s (.sl rfl rfl); exact hS; refine ⟨rfl, _, rfl, ?_⟩
        rw [refCommitC, if_neg (by rw [hmay]; decide)]; rfl
    | true =>
      have hln := mayC_len hmay
      simp only [Option.getD_some] at hln
      rw [refCommitC, if_pos hmay, Option.getD_some]
      refine c_loop (β := Nat × List Tb) (fun b => b.1 ≤ l.length ∧ b.2.length = b.1 ∧ (l.map fun t => some (refCommit t)) = b.2 ++ (l.drop b.1).map fun t => some (refCommit t)) (fun b => l.length - b.1)
        (fun b => [(0, row 1 (l.map encC)), (3, .a (.s (.sl L 5 0 b.2.length))), (4, int b.1)])
        (fun b => [(5, .row 22 1 (b.2.map encC))]) (0, []) ⟨Nat.zero_le _, rfl, rfl⟩ ⟨rfl, rfl, rfl, trivial⟩ ⟨rfl, trivial⟩ rfl rfl ?_
      rintro ⟨k, out⟩ ⟨hk, ho, hm⟩
      dsimp only at hk ho hm ⊢
      repeat' (first
          | (with_reducible refine want_none ?_)
          | (with_reducible refine c_seq ?_)
          | (with_reducible refine c_region ?_)
          | (with_reducible refine c_block ?_)
          | (with_reducible refine aops_nil ?_)
          | (with_reducible refine k_normal ?_)
          | (with_reducible refine c_skip ?_)
          | (with_reducible refine c_exit ?_)
          | (with_reducible refine c_ret ?_)
          | (with_reducible refine k_exit ?_)
          | (with_reducible refine kl_exit ?_)
          | (with_reducible refine kr_exit ?_)
          | (with_reducible refine kb_normal ?_)
          | (with_reducible refine kb_hit ?_)
          | ((with_reducible apply want_run); exact rfl; exact rfl)
          | ((with_reducible apply want_skip); exact rfl; exact rfl; exact rfl)
          | ((with_reducible apply want_forkT); exact rfl; exact rfl; exact rfl; (first | exact Bp.not Bp.dec | exact Bp.dec | exact Bp.not Bp.bool | exact Bp.bool); all_goals intro hc)
          | ((with_reducible apply st_callv); exact rfl; exact rfl; exact rfl; exact rfl; exact refMayC_AC (some l); (rintro v rfl); rw [hmay])
          | ((with_reducible apply st_callv); exact rfl; exact rfl; exact rfl; exact rfl; exact refCommit_AC u; (rintro v rfl))
          | ((with_reducible apply st_buildslice); exact rfl; exact rfl; exact rfl; exact rfl; exact rfl; exact rfl; exact rfl; exact rfl)
          | ((with_reducible apply st_append1); exact rfl; exact rfl; exact rfl; exact rfl; exact (List.length_map _).symm; exact .own rfl rfl rfl; exact (List.map_append (l₂ := [some (refCommit u)])).symm; (rw [List.length_map, List.length_append]; refine ⟨?_, ?_⟩; (show _ * 24 ≤ _; simp at *; omega); (simp [maxLen] at *; omega)); exact rfl; exact rfl; exact rfl; exact rfl; exact rfl; exact rfl; exact rfl)
          | ((with_reducible apply st_loadpel); exact rfl; exact rfl; omega; exact rfl; (intro u hu; refine ⟨_, rfl, ?_⟩; try simp only [Int.toNat_natCast] at hu))
          | ((with_reducible apply st_idx); exact rfl; exact rfl; exact rfl; exact rfl; exact rfl; omega)
          | ((with_reducible apply st_len RdT.ok); exact rfl; exact rfl; exact rfl; intro hlen)
          | ((with_reducible apply st_lennil RdT.ok); exact rfl; exact rfl; exact rfl)
          | ((with_reducible apply st_add); exact rfl; exact rfl; exact rfl; omega)
          | ((with_reducible apply st_q RdT.ok); exact rfl; exact rfl)
          | ((with_reducible apply c_condT); exact rfl)
          | ((with_reducible apply c_condF); exact rfl))
      all_goals try (exfalso; omega)
      · (with_reducible refine k_back (k + 1, out ++ [some (refCommit u)]) ?_ ?_ ?_ ?_ ?_ ?_)
        · refine ⟨by dsimp only; omega, by simp; omega, ?_⟩
          rw [hm, drop_consG hu, List.map_cons]
          simp
        · dsimp only; omega
        · exact ⟨rfl, by show TV.a (.s (.sl L 5 0 (List.map encC _).length)) = _; rw [List.length_map], rfl, trivial⟩
        · exact ⟨rfl, trivial⟩
        · exact rfl
        · exact rfl
      · (with_reducible apply r_one); exact rfl; exact .tmp rfl .nil; exact .s (.sl rfl (List.length_map _).symm); exact hS; refine ⟨rfl, _, rfl, ?_⟩
        show _ = TV.a (cA (some (l.map fun t => some (refCommit t))))
        rw [hm, List.drop_of_length_le (by omega)]
        simp [slA, slP]
theorem refFreeC_AC (o : Option (List Tb)) : ACv Try.prog 53 [cA o] fun v => v = freeCV (freeC o) := by
  intro L S hL
  refine fn_St (n := 35) (rs := [.tmp 2, .tmp 3]) hands_val RdT.ok RdT.mixed Try.func53 rfl (by kernel_rfl) rfl rfl rfl hL ?_
  intro hS
  cases hmay : mayC o with
  | false =>
    rw [freeC, if_neg (by rw [hmay]; simp)]
    cases o with
    | none =>
      show awp _ _ _ _ _ (St L 35 [(0, nilS)] S [])
      repeat' (first
          | (with_reducible refine want_none ?_)
          | (with_reducible refine c_seq ?_)
          | (with_reducible refine c_region ?_)
          | (with_reducible refine c_block ?_)
          | (with_reducible refine aops_nil ?_)
          | (with_reducible refine k_normal ?_)
          | (with_reducible refine c_skip ?_)
          | (with_reducible refine c_exit ?_)
          | (with_reducible refine c_ret ?_)
          | (with_reducible refine k_exit ?_)
          | (with_reducible refine kl_exit ?_)
          | (with_reducible refine kr_exit ?_)
          | (with_reducible refine kb_normal ?_)
          | (with_reducible refine kb_hit ?_)
          | ((with_reducible apply want_run); exact rfl; exact rfl)
          | ((with_reducible apply want_skip); exact rfl; exact rfl; exact rfl)
          | ((with_reducible apply want_forkT); exact rfl; exact rfl; exact rfl; (first | exact Bp.not Bp.dec | exact Bp.dec | exact Bp.not Bp.bool | exact Bp.bool); all_goals intro hc)
          | ((with_reducible apply st_loadpelK); exact rfl; exact rfl; assumption; exact rfl; exact rfl)
          | ((with_reducible apply st_loadpel); exact rfl; exact rfl; omega; exact rfl; (intro u hu; refine ⟨_, rfl, ?_⟩; try simp only [Int.toNat_natCast] at hu))
          | ((with_reducible apply st_idx); exact rfl; exact rfl; exact rfl; exact rfl; exact rfl; omega)
          | ((with_reducible apply st_len RdT.ok); exact rfl; exact rfl; exact rfl; intro hlen)
          | ((with_reducible apply st_lennil RdT.ok); exact rfl; exact rfl; exact rfl)
          | ((with_reducible apply st_add); exact rfl; exact rfl; exact rfl; omega)
          | ((with_reducible apply st_q RdT.ok); exact rfl; exact rfl)
          | ((with_reducible apply c_condT); exact rfl)
          | ((with_reducible apply c_condF); exact rfl)
          | ((with_reducible apply c_cond); exact rfl; (first | exact Bp.not Bp.dec | exact Bp.dec | exact Bp.not Bp.bool | exact Bp.bool); all_goals intro hc))
      refine c_loop0 ?_
      repeat' (first
          | (with_reducible refine want_none ?_)
          | (with_reducible refine c_seq ?_)
          | (with_reducible refine c_region ?_)
          | (with_reducible refine c_block ?_)
          | (with_reducible refine aops_nil ?_)
          | (with_reducible refine k_normal ?_)
          | (with_reducible refine c_skip ?_)
          | (with_reducible refine c_exit ?_)
          | (with_reducible refine c_ret ?_)
          | (with_reducible refine k_exit ?_)
          | (with_reducible refine kl_exit ?_)
          | (with_reducible refine kr_exit ?_)
          | (with_reducible refine kb_normal ?_)
          | (with_reducible refine kb_hit ?_)
          | ((with_reducible apply want_run); exact rfl; exact rfl)
          | ((with_reducible apply want_skip); exact rfl; exact rfl; exact rfl)
          | ((with_reducible apply want_forkT); exact rfl; exact rfl; exact rfl; (first | exact Bp.not Bp.dec | exact Bp.dec | exact Bp.not Bp.bool | exact Bp.bool); all_goals intro hc)
          | ((with_reducible apply st_loadpelK); exact rfl; exact rfl; assumption; exact rfl; exact rfl)
          | ((with_reducible apply st_loadpel); exact rfl; exact rfl; omega; exact rfl; (intro u hu; refine ⟨_, rfl, ?_⟩; try simp only [Int.toNat_natCast] at hu))
          | ((with_reducible apply st_idx); exact rfl; exact rfl; exact rfl; exact rfl; exact rfl; omega)
          | ((with_reducible apply st_len RdT.ok); exact rfl; exact rfl; exact rfl; intro hlen)
          | ((with_reducible apply st_lennil RdT.ok); exact rfl; exact rfl; exact rfl)
          | ((with_reducible apply st_add); exact rfl; exact rfl; exact rfl; omega)
          | ((with_reducible apply st_q RdT.ok); exact rfl; exact rfl)
          | ((with_reducible apply c_condT); exact rfl)
          | ((with_reducible apply c_condF); exact rfl)
          | ((with_reducible apply c_cond); exact rfl; (first | exact Bp.not Bp.dec | exact Bp.dec | exact Bp.not Bp.bool | exact Bp.bool); all_goals intro hc))
      (with_reducible apply r_tup); exact rfl; exact .tmp rfl (.tmp rfl .nil); exact rfl; exact .cons (.s (.pv _)) (.cons (.s (.pv _)) .nil); exact hS; refine ⟨rfl, _, rfl, ?_⟩
      rfl
    | some l =>
      show awp _ _ _ _ _ (St L 35 [(0, row 1 (l.map encC))] S [])
      repeat' (first
          | (with_reducible refine want_none ?_)
          | (with_reducible refine c_seq ?_)
          | (with_reducible refine c_region ?_)
          | (with_reducible refine c_block ?_)
          | (with_reducible refine aops_nil ?_)
          | (with_reducible refine k_normal ?_)
          | (with_reducible refine c_skip ?_)
          | (with_reducible refine c_exit ?_)
          | (with_reducible refine c_ret ?_)
          | (with_reducible refine k_exit ?_)
          | (with_reducible refine kl_exit ?_)
          | (with_reducible refine kr_exit ?_)
          | (with_reducible refine kb_normal ?_)
          | (with_reducible refine kb_hit ?_)
          | ((with_reducible apply want_run); exact rfl; exact rfl)
          | ((with_reducible apply want_skip); exact rfl; exact rfl; exact rfl)
          | ((with_reducible apply want_forkT); exact rfl; exact rfl; exact rfl; (first | exact Bp.not Bp.dec | exact Bp.dec | exact Bp.not Bp.bool | exact Bp.bool); all_goals intro hc)
          | ((with_reducible apply st_loadpelK); exact rfl; exact rfl; assumption; exact rfl; exact rfl)
          | ((with_reducible apply st_loadpel); exact rfl; exact rfl; omega; exact rfl; (intro u hu; refine ⟨_, rfl, ?_⟩; try simp only [Int.toNat_natCast] at hu))
          | ((with_reducible apply st_idx); exact rfl; exact rfl; exact rfl; exact rfl; exact rfl; omega)
          | ((with_reducible apply st_len RdT.ok); exact rfl; exact rfl; exact rfl; intro hlen)
          | ((with_reducible apply st_lennil RdT.ok); exact rfl; exact rfl; exact rfl)
          | ((with_reducible apply st_add); exact rfl; exact rfl; exact rfl; omega)
          | ((with_reducible apply st_q RdT.ok); exact rfl; exact rfl)
          | ((with_reducible apply c_condT); exact rfl)
          | ((with_reducible apply c_condF); exact rfl)
          | ((with_reducible apply c_cond); exact rfl; (first | exact Bp.not Bp.dec | exact Bp.dec | exact Bp.not Bp.bool | exact Bp.bool); all_goals intro hc))
      refine c_loop0 ?_
      repeat' (first
          | (with_reducible refine want_none ?_)
          | (with_reducible refine c_seq ?_)
          | (with_reducible refine c_region ?_)
          | (with_reducible refine c_block ?_)
          | (with_reducible refine aops_nil ?_)
          | (with_reducible refine k_normal ?_)
          | (with_reducible refine c_skip ?_)
          | (with_reducible refine c_exit ?_)
          | (with_reducible refine c_ret ?_)
          | (with_reducible refine k_exit ?_)
          | (with_reducible refine kl_exit ?_)
          | (with_reducible refine kr_exit ?_)
          | (with_reducible refine kb_normal ?_)
          | (with_reducible refine kb_hit ?_)
          | ((with_reducible apply want_run); exact rfl; exact rfl)
          | ((with_reducible apply want_skip); exact rfl; exact rfl; exact rfl)
          | ((with_reducible apply want_forkT); exact rfl; exact rfl; exact rfl; (first | exact Bp.not Bp.dec | exact Bp.dec | exact Bp.not Bp.bool | exact Bp.bool); all_goals intro hc)
          | ((with_reducible apply st_callv); exact rfl; exact rfl; exact rfl; exact rfl; exact refMayC_AC (some l); (rintro v rfl); rw [hmay])
          | ((with_reducible apply st_loadpelK); exact rfl; exact rfl; assumption; exact rfl; exact rfl)
          | ((with_reducible apply st_loadpel); exact rfl; exact rfl; omega; exact rfl; (intro u hu; refine ⟨_, rfl, ?_⟩; try simp only [Int.toNat_natCast] at hu))
          | ((with_reducible apply st_idx); exact rfl; exact rfl; exact rfl; exact rfl; exact rfl; omega)
          | ((with_reducible apply st_len RdT.ok); exact rfl; exact rfl; exact rfl; intro hlen)
          | ((with_reducible apply st_lennil RdT.ok); exact rfl; exact rfl; exact rfl)
          | ((with_reducible apply st_add); exact rfl; exact rfl; exact rfl; omega)
          | ((with_reducible apply st_q RdT.ok); exact rfl; exact rfl)
          | ((with_reducible apply c_condT); exact rfl)
          | ((with_reducible apply c_condF); exact rfl)
          | ((with_reducible apply c_cond); exact rfl; (first | exact Bp.not Bp.dec | exact Bp.dec | exact Bp.not Bp.bool | exact Bp.bool); all_goals intro hc))
      all_goals
        (with_reducible apply r_tup); exact rfl; exact .tmp rfl (.tmp rfl .nil); exact rfl; exact .cons (.s (.pv _)) (.cons (.s (.pv _)) .nil); exact hS; refine ⟨rfl, _, rfl, ?_⟩
        rfl
  | true =>
    have hln := mayC_len hmay
    have hme := mayC_mem hmay
    cases o with
    | none => exact absurd hln.1 (by simp)
    | some l =>
      simp only [Option.getD_some] at hln hme
      rw [freeC, if_pos hmay, Option.getD_some]
      show awp _ _ _ _ _ (St L 35 [(0, row 1 (l.map encC))] S [])
      repeat' (first
          | (with_reducible refine want_none ?_)
          | (with_reducible refine c_seq ?_)
          | (with_reducible refine c_region ?_)
          | (with_reducible refine c_block ?_)
          | (with_reducible refine aops_nil ?_)
          | (with_reducible refine k_normal ?_)
          | (with_reducible refine c_skip ?_)
          | (with_reducible refine c_exit ?_)
          | (with_reducible refine c_ret ?_)
          | (with_reducible refine k_exit ?_)
          | (with_reducible refine kl_exit ?_)
          | (with_reducible refine kr_exit ?_)
          | (with_reducible refine kb_normal ?_)
          | (with_reducible refine kb_hit ?_)
          | ((with_reducible apply want_run); exact rfl; exact rfl)
          | ((with_reducible apply want_skip); exact rfl; exact rfl; exact rfl)
          | ((with_reducible apply want_forkT); exact rfl; exact rfl; exact rfl; (first | exact Bp.not Bp.dec | exact Bp.dec | exact Bp.not Bp.bool | exact Bp.bool); all_goals intro hc)
          | ((with_reducible apply st_loadpelK); exact rfl; exact rfl; assumption; exact rfl; exact rfl)
          | ((with_reducible apply st_loadpel); exact rfl; exact rfl; omega; exact rfl; (intro u hu; refine ⟨_, rfl, ?_⟩; try simp only [Int.toNat_natCast] at hu))
          | ((with_reducible apply st_idx); exact rfl; exact rfl; exact rfl; exact rfl; exact rfl; omega)
          | ((with_reducible apply st_len RdT.ok); exact rfl; exact rfl; exact rfl; intro hlen)
          | ((with_reducible apply st_lennil RdT.ok); exact rfl; exact rfl; exact rfl)
          | ((with_reducible apply st_add); exact rfl; exact rfl; exact rfl; omega)
          | ((with_reducible apply st_q RdT.ok); exact rfl; exact rfl)
          | ((with_reducible apply c_condT); exact rfl)
          | ((with_reducible apply c_condF); exact rfl)
          | ((with_reducible apply c_cond); exact rfl; (first | exact Bp.not Bp.dec | exact Bp.dec | exact Bp.not Bp.bool | exact Bp.bool); all_goals intro hc))
      refine c_loop (β := Nat) (fun k => k ≤ l.length) (fun k => l.length - k) (fun k => [(0, row 1 (l.map encC)), (4, int (sumOf fr (l.take k))), (5, int (sumOf emptyT (l.take k))), (6, int k)]) (fun _ => []) 0 (Nat.zero_le _) ⟨rfl, rfl, rfl, rfl, trivial⟩ trivial rfl rfl ?_
      intro k hk
      have b1 := sumOf_le fr 16 fr_le (l.take k)
      have b2 := sumOf_le emptyT 1 emptyT_le (l.take k)
      rw [List.length_take] at b1 b2
      rcases Nat.lt_or_ge k l.length with hk' | hk'
      · obtain ⟨t, ht⟩ : ∃ t, l[k]? = some t := ⟨_, List.getElem?_eq_getElem hk'⟩
        have hus := used_some (hme t (List.mem_of_getElem? ht))
        have hft := fr_le t
        have hbo : used1 none16 (t.getD []) = bitsOf t := rfl
        rw [hbo] at hus
        have hs1 := sumOf_take fr ht
        have hs2 := sumOf_take emptyT ht
        rcases t with _ | u
        all_goals
          repeat' (first
              | (with_reducible refine want_none ?_)
              | (with_reducible refine c_seq ?_)
              | (with_reducible refine c_region ?_)
              | (with_reducible refine c_block ?_)
              | (with_reducible refine aops_nil ?_)
              | (with_reducible refine k_normal ?_)
              | (with_reducible refine c_skip ?_)
              | (with_reducible refine c_exit ?_)
              | (with_reducible refine c_ret ?_)
              | (with_reducible refine k_exit ?_)
              | (with_reducible refine kl_exit ?_)
              | (with_reducible refine kr_exit ?_)
              | (with_reducible refine kb_normal ?_)
              | (with_reducible refine kb_hit ?_)
              | ((with_reducible apply want_run); exact rfl; exact rfl)
              | ((with_reducible apply want_skip); exact rfl; exact rfl; exact rfl)
              | ((with_reducible apply want_forkT); exact rfl; exact rfl; exact rfl; (first | exact Bp.not Bp.dec | exact Bp.dec | exact Bp.not Bp.bool | exact Bp.bool); all_goals intro hc)
              | ((with_reducible apply st_callv); exact rfl; exact rfl; exact rfl; exact rfl; exact refMayC_AC (some l); (rintro v rfl); rw [hmay])
              | ((with_reducible apply st_callv); exact rfl; exact rfl; exact rfl; exact rfl; exact refUsed_AC none; (rintro v rfl); rw [hus])
              | ((with_reducible apply st_callv); exact rfl; exact rfl; exact rfl; exact rfl; exact refUsed_AC (some u); (rintro v rfl); rw [hus])
              | ((with_reducible apply st_callv); exact rfl; exact rfl; exact rfl; exact rfl; exact free_AC (bitsOf none); (rintro v rfl); rw [show free (bitsOf none) = fr none from rfl])
              | ((with_reducible apply st_callv); exact rfl; exact rfl; exact rfl; exact rfl; exact free_AC (bitsOf (some u)); (rintro v rfl); rw [show free (bitsOf (some u)) = fr (some u) from rfl])
              | ((with_reducible apply st_loadpelK); exact rfl; exact rfl; assumption; exact rfl; exact rfl)
              | ((with_reducible apply st_loadpel); exact rfl; exact rfl; omega; exact rfl; (intro u hu; refine ⟨_, rfl, ?_⟩; try simp only [Int.toNat_natCast] at hu))
              | ((with_reducible apply st_idx); exact rfl; exact rfl; exact rfl; exact rfl; exact rfl; omega)
              | ((with_reducible apply st_len RdT.ok); exact rfl; exact rfl; exact rfl; intro hlen)
              | ((with_reducible apply st_lennil RdT.ok); exact rfl; exact rfl; exact rfl)
              | ((with_reducible apply st_add); exact rfl; exact rfl; exact rfl; omega)
              | ((with_reducible apply st_q RdT.ok); exact rfl; exact rfl)
              | ((with_reducible apply c_condT); exact rfl)
              | ((with_reducible apply c_condF); exact rfl)
              | ((with_reducible apply c_cond); exact rfl; (first | exact Bp.not Bp.dec | exact Bp.dec | exact Bp.not Bp.bool | exact Bp.bool); all_goals intro hc))
        all_goals first
          | (exfalso; omega)
          | ((with_reducible refine k_back (k + 1) ?_ ?_ ?_ ?_ ?_ ?_)
             · omega
             · omega
             · refine ⟨rfl, ?_, ?_, rfl, trivial⟩
               · rw [hs1]
                 exact (show Rd.int ((sumOf fr (l.take k) : Int) + (fr _ : Int)) = _ from congrArg Rd.int (by omega))
               · rw [hs2]
                 first
                   | exact (show Rd.int ((sumOf emptyT (l.take k) : Int) + 1) = _ from congrArg Rd.int (by rw [show emptyT _ = 1 from if_pos (by first | rfl | (simp only [Option.getD_some]; omega))]; omega))
                   | exact (show Rd.int (sumOf emptyT (l.take k) : Int) = _ from congrArg Rd.int (by rw [show emptyT _ = 0 from if_neg (by simp only [Option.getD_some]; omega)]; omega))
             · exact trivial
             · exact rfl
             · exact rfl)
          | trace_state
      · repeat' (first
            | (with_reducible refine want_none ?_)
            | (with_reducible refine c_seq ?_)
            | (with_reducible refine c_region ?_)
            | (with_reducible refine c_block ?_)
            | (with_reducible refine aops_nil ?_)
            | (with_reducible refine k_normal ?_)
            | (with_reducible refine c_skip ?_)
            | (with_reducible refine c_exit ?_)
            | (with_reducible refine c_ret ?_)
            | (with_reducible refine k_exit ?_)
            | (with_reducible refine kl_exit ?_)
            | (with_reducible refine kr_exit ?_)
            | (with_reducible refine kb_normal ?_)
            | (with_reducible refine kb_hit ?_)
            | ((with_reducible apply want_run); exact rfl; exact rfl)
            | ((with_reducible apply want_skip); exact rfl; exact rfl; exact rfl)
            | ((with_reducible apply want_forkT); exact rfl; exact rfl; exact rfl; (first | exact Bp.not Bp.dec | exact Bp.dec | exact Bp.not Bp.bool | exact Bp.bool); all_goals intro hc)
            | ((with_reducible apply st_callv); exact rfl; exact rfl; exact rfl; exact rfl; exact refMayC_AC (some l); (rintro v rfl); rw [hmay])
            | ((with_reducible apply st_loadpelK); exact rfl; exact rfl; assumption; exact rfl; exact rfl)
            | ((with_reducible apply st_loadpel); exact rfl; exact rfl; omega; exact rfl; (intro u hu; refine ⟨_, rfl, ?_⟩; try simp only [Int.toNat_natCast] at hu))
            | ((with_reducible apply st_idx); exact rfl; exact rfl; exact rfl; exact rfl; exact rfl; omega)
            | ((with_reducible apply st_len RdT.ok); exact rfl; exact rfl; exact rfl; intro hlen)
            | ((with_reducible apply st_lennil RdT.ok); exact rfl; exact rfl; exact rfl)
            | ((with_reducible apply st_add); exact rfl; exact rfl; exact rfl; omega)
            | ((with_reducible apply st_q RdT.ok); exact rfl; exact rfl)
            | ((with_reducible apply c_condT); exact rfl)
            | ((with_reducible apply c_condF); exact rfl)
            | ((with_reducible apply c_cond); exact rfl; (first | exact Bp.not Bp.dec | exact Bp.dec | exact Bp.not Bp.bool | exact Bp.bool); all_goals intro hc))
        all_goals try (exfalso; omega)
        (with_reducible apply r_tup); exact rfl; exact .tmp rfl (.tmp rfl .nil); exact rfl; exact .cons (.s (.pv _)) (.cons (.s (.pv _)) .nil); exact hS; refine ⟨rfl, _, rfl, ?_⟩
        rw [List.take_of_length_le (by omega)]
        rfl
theorem refBrokenG_AC (o : Option (List Tb)) : ACv Try.prog 57 [cA o] fun v => ∃ r, v = .a (fl r) ∧ BrC o r := by
  intro L S hL
  refine fn_St (n := 33) (rs := [.tmp 2]) hands_val RdT.ok RdT.mixed Try.func57 rfl (by kernel_rfl) rfl rfl rfl hL ?_
  intro hS
  cases hmay : mayC o with
  | false =>
    show awp _ _ _ _ _ (St L 33 [(0, .a (cA o))] S [])
    repeat' (first
        | (with_reducible refine want_none ?_)
        | (with_reducible refine c_seq ?_)
        | (with_reducible refine c_region ?_)
        | (with_reducible refine c_block ?_)
        | (with_reducible refine aops_nil ?_)
        | (with_reducible refine k_normal ?_)
        | (with_reducible refine c_skip ?_)
        | (with_reducible refine c_exit ?_)
        | (with_reducible refine c_ret ?_)
        | (with_reducible refine k_ret ?_)
        | (with_reducible refine k_exit ?_)
        | (with_reducible refine kr_exit ?_)
        | (with_reducible refine kb_normal ?_)
        | (with_reducible refine kb_hit ?_)
        | ((with_reducible apply st_callv); exact rfl; exact rfl; exact rfl; exact rfl; exact refMayC_AC o; (rintro v rfl); rw [hmay])
        | ((with_reducible apply st_loadpelK); exact rfl; exact rfl; assumption; exact rfl; exact rfl)
        | ((with_reducible apply st_loadpel); exact rfl; exact rfl; omega; exact rfl; (intro u hu; refine ⟨_, rfl, ?_⟩; try simp only [Int.toNat_natCast] at hu))
        | ((with_reducible apply st_idx); exact rfl; exact rfl; exact rfl; exact rfl; exact rfl; omega)
        | ((with_reducible apply st_len RdT.ok); exact rfl; exact rfl; exact rfl; intro hlen)
        | ((with_reducible apply st_add); exact rfl; exact rfl; exact rfl; omega)
        | ((with_reducible apply st_q RdT.ok); exact rfl; exact rfl)
        | ((with_reducible apply c_condT); exact rfl)
        | ((with_reducible apply c_condF); exact rfl)
        | ((with_reducible apply c_cond); exact rfl; (first | exact Bp.not Bp.dec | exact Bp.dec | exact Bp.not Bp.bool | exact Bp.bool); all_goals intro hc))
    ((with_reducible apply r_one); exact rfl; exact .tmp rfl .nil; exact .s (.pv _); exact hS; refine ⟨rfl, _, rfl, ?_⟩)
    exact ⟨_, rfl, by rw [BrC, if_neg (by rw [hmay]; simp)]⟩
  | true =>
  cases o with
  | none => exact absurd (mayC_len hmay).1 (by simp)
  | some l =>
  have hln := mayC_len hmay
  have hme := mayC_mem hmay
  simp only [Option.getD_some] at hln hme
  have hbr : ∀ r, BrR (sumOf lng l) (sumOf fr l) r → BrC (some l) r := fun r h => by rw [BrC, if_pos hmay]; exact h
  have f1 : freeC (some l) = ((sumOf fr l : Int), (sumOf emptyT l : Int)) := by rw [freeC, if_pos hmay]; rfl
  show awp _ _ _ _ _ (St L 33 [(0, row 1 (l.map encC))] S [])
  repeat' (first
      | (with_reducible refine want_none ?_)
      | (with_reducible refine c_seq ?_)
      | (with_reducible refine c_region ?_)
      | (with_reducible refine c_block ?_)
      | (with_reducible refine aops_nil ?_)
      | (with_reducible refine k_normal ?_)
      | (with_reducible refine c_skip ?_)
      | (with_reducible refine c_exit ?_)
      | (with_reducible refine c_ret ?_)
      | (with_reducible refine k_ret ?_)
      | (with_reducible refine k_exit ?_)
      | (with_reducible refine kr_exit ?_)
      | (with_reducible refine kb_normal ?_)
      | (with_reducible refine kb_hit ?_)
      | ((with_reducible apply st_callv); exact rfl; exact rfl; exact rfl; exact rfl; exact refMayC_AC (some l); (rintro v rfl); rw [hmay])
      | ((with_reducible apply st_loadpelK); exact rfl; exact rfl; assumption; exact rfl; exact rfl)
      | ((with_reducible apply st_loadpel); exact rfl; exact rfl; omega; exact rfl; (intro u hu; refine ⟨_, rfl, ?_⟩; try simp only [Int.toNat_natCast] at hu))
      | ((with_reducible apply st_idx); exact rfl; exact rfl; exact rfl; exact rfl; exact rfl; omega)
      | ((with_reducible apply st_len RdT.ok); exact rfl; exact rfl; exact rfl; intro hlen)
      | ((with_reducible apply st_add); exact rfl; exact rfl; exact rfl; omega)
      | ((with_reducible apply st_q RdT.ok); exact rfl; exact rfl)
      | ((with_reducible apply c_condT); exact rfl)
      | ((with_reducible apply c_condF); exact rfl)
      | ((with_reducible apply c_cond); exact rfl; (first | exact Bp.not Bp.dec | exact Bp.dec | exact Bp.not Bp.bool | exact Bp.bool); all_goals intro hc))
  refine c_loop (β := Nat) (fun k => k ≤ l.length) (fun k => l.length - k) (fun k => [(0, row 1 (l.map encC)), (3, int (sumOf lng (l.take k))), (4, int k)]) (fun _ => []) 0 (Nat.zero_le _) ⟨rfl, rfl, rfl, trivial⟩ trivial rfl rfl ?_
  intro k hk
  have b2 := sumOf_le lng 16 lng_le (l.take k)
  rw [List.length_take] at b2
  rcases Nat.lt_or_ge k l.length with hk' | hk'
  · obtain ⟨t, ht⟩ : ∃ t, l[k]? = some t := ⟨_, List.getElem?_eq_getElem hk'⟩
    have hus : used t = some (bitsOf t) := used_some (hme t (List.mem_of_getElem? ht))
    have f2 := lng_le t
    have f3 : longF 0 (runs1 0 0 (bitsOf t)) = (lng t : Int) := (Int.toNat_of_nonneg (long_nonneg _)).symm
    repeat' (first
        | (with_reducible refine want_none ?_)
        | (with_reducible refine c_seq ?_)
        | (with_reducible refine c_region ?_)
        | (with_reducible refine c_block ?_)
        | (with_reducible refine aops_nil ?_)
        | (with_reducible refine k_normal ?_)
        | (with_reducible refine c_skip ?_)
        | (with_reducible refine c_exit ?_)
        | (with_reducible refine c_ret ?_)
        | (with_reducible refine k_ret ?_)
        | (with_reducible refine k_exit ?_)
        | (with_reducible refine kr_exit ?_)
        | (with_reducible refine kb_normal ?_)
        | (with_reducible refine kb_hit ?_)
        | ((with_reducible apply st_callv); exact rfl; exact rfl; exact rfl; exact rfl; exact refUsed_AC t; (rintro v rfl); rw [hus])
        | ((with_reducible apply st_callv); exact rfl; exact rfl; exact rfl; exact rfl; exact refLongest_AC (bitsOf t) (bitsOf_sz _); (rintro v rfl); rw [f3])
        | ((with_reducible apply st_loadpelK); exact rfl; exact rfl; assumption; exact rfl; exact rfl)
        | ((with_reducible apply st_loadpel); exact rfl; exact rfl; omega; exact rfl; (intro u hu; refine ⟨_, rfl, ?_⟩; try simp only [Int.toNat_natCast] at hu))
        | ((with_reducible apply st_idx); exact rfl; exact rfl; exact rfl; exact rfl; exact rfl; omega)
        | ((with_reducible apply st_len RdT.ok); exact rfl; exact rfl; exact rfl; intro hlen)
        | ((with_reducible apply st_add); exact rfl; exact rfl; exact rfl; omega)
        | ((with_reducible apply st_q RdT.ok); exact rfl; exact rfl)
        | ((with_reducible apply c_condT); exact rfl)
        | ((with_reducible apply c_condF); exact rfl)
        | ((with_reducible apply c_cond); exact rfl; (first | exact Bp.not Bp.dec | exact Bp.dec | exact Bp.not Bp.bool | exact Bp.bool); all_goals intro hc))
    all_goals try (exfalso; omega)
    (with_reducible refine k_back (k + 1) ?_ ?_ ?_ ?_ ?_ ?_)
    · omega
    · omega
    · refine ⟨rfl, ?_, rfl, trivial⟩
      rw [sumOf_take lng ht]
      exact (show Rd.int ((sumOf lng (l.take k) : Int) + (lng t : Int)) = _ from congrArg Rd.int (by omega))
    · exact trivial
    · exact rfl
    · exact rfl
  · have e1 : l.take k = l := List.take_of_length_le hk'
    rw [e1]
    repeat' (first
        | (with_reducible refine want_none ?_)
        | (with_reducible refine c_seq ?_)
        | (with_reducible refine c_region ?_)
        | (with_reducible refine c_block ?_)
        | (with_reducible refine aops_nil ?_)
        | (with_reducible refine k_normal ?_)
        | (with_reducible refine c_skip ?_)
        | (with_reducible refine c_exit ?_)
        | (with_reducible refine c_ret ?_)
        | (with_reducible refine k_ret ?_)
        | (with_reducible refine k_exit ?_)
        | (with_reducible refine kr_exit ?_)
        | (with_reducible refine kb_normal ?_)
        | (with_reducible refine kb_hit ?_)
        | ((with_reducible apply st_callv); exact rfl; exact rfl; exact rfl; exact rfl; exact refFreeC_AC (some l); (rintro v rfl); rw [f1])
        | ((with_reducible apply st_callv); exact rfl; exact rfl; exact rfl; exact rfl; exact refPartG_AC (sumOf lng l) (sumOf fr l); (rintro v ⟨p, rfl, hp⟩))
        | ((with_reducible apply st_flt); exact rfl; exact rfl; exact rfl; (first | exact .inl rfl | exact .inr (.inl rfl) | exact .inr (.inr (.inl rfl)) | exact .inr (.inr (.inr rfl))); exact rfl; (intro r hr))
        | ((with_reducible apply st_loadpelK); exact rfl; exact rfl; assumption; exact rfl; exact rfl)
        | ((with_reducible apply st_loadpel); exact rfl; exact rfl; omega; exact rfl; (intro u hu; refine ⟨_, rfl, ?_⟩; try simp only [Int.toNat_natCast] at hu))
        | ((with_reducible apply st_idx); exact rfl; exact rfl; exact rfl; exact rfl; exact rfl; omega)
        | ((with_reducible apply st_len RdT.ok); exact rfl; exact rfl; exact rfl; intro hlen)
        | ((with_reducible apply st_add); exact rfl; exact rfl; exact rfl; omega)
        | ((with_reducible apply st_q RdT.ok); exact rfl; exact rfl)
        | ((with_reducible apply c_condT); exact rfl)
        | ((with_reducible apply c_condF); exact rfl)
        | ((with_reducible apply c_cond); exact rfl; (first | exact Bp.not Bp.dec | exact Bp.dec | exact Bp.not Bp.bool | exact Bp.bool); all_goals intro hc))
    all_goals try (exfalso; omega)
    ((with_reducible apply r_one); exact rfl; exact .tmp rfl .nil; exact .s (.pv _); exact hS; refine ⟨rfl, _, rfl, ?_⟩)
    exact ⟨_, rfl, hbr _ ⟨_, hp, hr⟩⟩
end Go.Proofs.Ytfdaioinghfjpaa
namespace Go.Proofs.Ytfdaioinghfjpaa
open Go.Rd Go.RowKit
set_option maxRecDepth 20000
set_option linter.unusedSimpArgs false
set_option linter.unusedVariables false
set_option maxHeartbeats 4000000
namespace Fl
def lt (a b : Nat) : Bool := Ieee.double.order a b == some .lt
def eq (a b : Nat) : Bool := Ieee.double.order a b == some .eq
def none (a : Nat) : Bool := Ieee.double.order a a != some .eq
def minus (a : Nat) : Bool := lt a 0 || (eq a 0 && lt ((floatBits .quo .f64 4607182418800017408 a).getD 0) 0)
def less (a b : Nat) : Bool := !none a && (none b || (lt a b || (eq a b && minus a && !minus b)))
def same (a b : Nat) : Bool := !less a b && !less b a
theorem quo_one {a : Nat} (h : eq a 0 = true) : ∃ r, floatBits .quo .f64 4607182418800017408 a = some r := by
  have r1 : Ieee.double.read 4607182418800017408 = .number false 4503599627370496 (-52) := by decide
  show ∃ r, (((Ieee.double.read 4607182418800017408).quotient (Ieee.double.fractionBits + 2) (Ieee.double.read a)).map Ieee.double.write) = some r
  rw [r1]
  cases hr : Ieee.double.read a with
  | nan s f =>
    unfold eq Ieee.Format.order at h
    rw [hr] at h
    cases h
  | infinity s => exact ⟨_, rfl⟩
  | number s m e =>
    unfold Ieee.Datum.quotient
    simp only []
    by_cases hm : m = 0
    · rw [if_pos hm, if_neg (by decide)]; exact ⟨_, rfl⟩
    · rw [if_neg hm]; exact ⟨_, rfl⟩
theorem order_self {a : Nat} (h : none a = false) : Ieee.double.order a a = some .eq := by
  unfold none at h
  simpa using h
theorem less_self (a : Nat) : less a a = false := by
  unfold less
  cases hn : none a with
  | true => rfl
  | false =>
    have h := order_self hn
    have h1 : lt a a = false := by unfold lt; rw [h]; rfl
    rw [h1]
    cases minus a <;> simp
theorem same_self (a : Nat) : same a a = true := by unfold same; rw [less_self]; rfl
theorem none_nan {a : Nat} (h : NanB .f64 a) : none a = true := by unfold none; rw [nan_order h]; rfl
theorem same_nan {a b : Nat} (ha : NanB .f64 a) (hb : NanB .f64 b) : same a b = true := by
  unfold same less
  rw [none_nan ha, none_nan hb]
  rfl
end Fl
theorem none_AC (a : Nat) : ACv Try.prog 113 [fl a] fun v => v = Rd.bool (Fl.none a) := by
  intro L S hL
  refine fn_St (n := 6) (rs := [.tmp 2]) hands_val RdT.ok RdT.mixed Try.func113 rfl (by kernel_rfl) rfl rfl rfl hL ?_
  intro hS
  show awp _ _ _ _ _ (St L 6 [(0, .a (fl a))] S [])
  repeat' (first
      | (with_reducible refine want_none ?_)
      | (with_reducible refine c_seq ?_)
      | (with_reducible refine c_region ?_)
      | (with_reducible refine aops_nil ?_)
      | (with_reducible refine k_normal ?_)
      | (with_reducible refine c_ret ?_)
      | ((with_reducible apply st_float); exact rfl; exact rfl; exact rfl; exact rfl)
      | ((with_reducible apply st_q RdT.ok); exact rfl; exact rfl))
  ((with_reducible apply r_one); exact rfl; exact .tmp rfl .nil; exact .s (.pv _); exact hS; refine ⟨rfl, _, rfl, ?_⟩)
  rfl
theorem minus_AC (a : Nat) : ACv Try.prog 114 [fl a] fun v => v = Rd.bool (Fl.minus a) := by
  intro L S hL
  refine fn_St (n := 14) (rs := [.tmp 2]) hands_val RdT.ok RdT.mixed Try.func114 rfl (by kernel_rfl) rfl rfl rfl hL ?_
  intro hS
  have e1 : fopF .lss .f64 a 0 = some (Rd.bool (Fl.lt a 0)) := rfl
  have e2 : fopF .eql .f64 a 0 = some (Rd.bool (Fl.eq a 0)) := rfl
  unfold Fl.minus
  cases h1 : Fl.lt a 0 with
  | true =>
    rw [h1] at e1
    show awp _ _ _ _ _ (St L 14 [(0, .a (fl a))] S [])
    repeat' (first
        | (with_reducible refine want_none ?_)
        | (with_reducible refine c_seq ?_)
        | (with_reducible refine c_region ?_)
        | (with_reducible refine aops_nil ?_)
        | (with_reducible refine k_normal ?_)
        | (with_reducible refine c_ret ?_)
        | ((with_reducible apply want_run); exact rfl; exact rfl)
        | ((with_reducible apply want_skip); exact rfl; exact rfl; exact rfl)
        | ((with_reducible apply want_out); exact rfl; exact rfl; exact rfl)
        | ((with_reducible apply st_float); exact rfl; exact rfl; exact e1; exact rfl)
        | ((with_reducible apply st_q RdT.ok); exact rfl; exact rfl))
    all_goals (((with_reducible apply r_one); exact rfl; exact .tmp rfl .nil; exact .s (.pv _); exact hS; refine ⟨rfl, _, rfl, ?_⟩); rfl)
  | false =>
    rw [h1] at e1
    cases h2 : Fl.eq a 0 with
    | false =>
      rw [h2] at e2
      show awp _ _ _ _ _ (St L 14 [(0, .a (fl a))] S [])
      repeat' (first
          | (with_reducible refine want_none ?_)
          | (with_reducible refine c_seq ?_)
          | (with_reducible refine c_region ?_)
          | (with_reducible refine aops_nil ?_)
          | (with_reducible refine k_normal ?_)
          | (with_reducible refine c_ret ?_)
          | ((with_reducible apply want_run); exact rfl; exact rfl)
          | ((with_reducible apply want_skip); exact rfl; exact rfl; exact rfl)
          | ((with_reducible apply want_out); exact rfl; exact rfl; exact rfl)
          | ((with_reducible apply st_float); exact rfl; exact rfl; exact e1; exact rfl)
          | ((with_reducible apply st_float); exact rfl; exact rfl; exact e2; exact rfl)
          | ((with_reducible apply st_q RdT.ok); exact rfl; exact rfl))
      all_goals (((with_reducible apply r_one); exact rfl; exact .tmp rfl .nil; exact .s (.pv _); exact hS; refine ⟨rfl, _, rfl, ?_⟩); rfl)
    | true =>
      rw [h2] at e2
      obtain ⟨r, hr⟩ := Fl.quo_one h2
      have e3 : fopF .quo .f64 4607182418800017408 a = some (lit (.float .f64 r)) := by simp only [fopF, hr]
      have e4 : fopF .lss .f64 r 0 = some (Rd.bool (Fl.lt r 0)) := rfl
      rw [hr]
      show awp _ _ _ _ _ (St L 14 [(0, .a (fl a))] S [])
      repeat' (first
          | (with_reducible refine want_none ?_)
          | (with_reducible refine c_seq ?_)
          | (with_reducible refine c_region ?_)
          | (with_reducible refine aops_nil ?_)
          | (with_reducible refine k_normal ?_)
          | (with_reducible refine c_ret ?_)
          | ((with_reducible apply want_run); exact rfl; exact rfl)
          | ((with_reducible apply want_skip); exact rfl; exact rfl; exact rfl)
          | ((with_reducible apply want_out); exact rfl; exact rfl; exact rfl)
          | ((with_reducible apply st_float); exact rfl; exact rfl; exact e1; exact rfl)
          | ((with_reducible apply st_float); exact rfl; exact rfl; exact e2; exact rfl)
          | ((with_reducible apply st_float); exact rfl; exact rfl; exact e3; exact rfl)
          | ((with_reducible apply st_float); exact rfl; exact rfl; exact e4; exact rfl)
          | ((with_reducible apply st_q RdT.ok); exact rfl; exact rfl))
      all_goals (((with_reducible apply r_one); exact rfl; exact .tmp rfl .nil; exact .s (.pv _); exact hS; refine ⟨rfl, _, rfl, ?_⟩); exact congrArg Rd.bool (by simp))
theorem less_AC (a b : Nat) : ACv Try.prog 96 [fl a, fl b] fun v => v = Rd.bool (Fl.less a b) := by
  intro L S hL
  refine fn_St (n := 26) (rs := [.tmp 4]) hands_val RdT.ok RdT.mixed Try.func96 rfl (by kernel_rfl) rfl rfl rfl hL ?_
  intro hS
  have e1 : fopF .lss .f64 a b = some (Rd.bool (Fl.lt a b)) := rfl
  have e2 : fopF .eql .f64 a b = some (Rd.bool (Fl.eq a b)) := rfl
  unfold Fl.less
  obtain ⟨n1, h1⟩ : ∃ x, Fl.none a = x := ⟨_, rfl⟩
  obtain ⟨n2, h2⟩ : ∃ x, Fl.none b = x := ⟨_, rfl⟩
  obtain ⟨n3, h3⟩ : ∃ x, Fl.lt a b = x := ⟨_, rfl⟩
  obtain ⟨n4, h4⟩ : ∃ x, Fl.eq a b = x := ⟨_, rfl⟩
  obtain ⟨n5, h5⟩ : ∃ x, Fl.minus a = x := ⟨_, rfl⟩
  obtain ⟨n6, h6⟩ : ∃ x, Fl.minus b = x := ⟨_, rfl⟩
  rw [h3] at e1
  rw [h4] at e2
  rw [h1, h2, h3, h4, h5, h6]
  cases n1 <;> cases n2 <;> cases n3 <;> cases n4 <;> cases n5 <;> cases n6
  all_goals
    show awp _ _ _ _ _ (St L 26 [(0, .a (fl a)), (1, .a (fl b))] S [])
    repeat' (first
        | (with_reducible refine want_none ?_)
        | (with_reducible refine c_seq ?_)
        | (with_reducible refine c_region ?_)
        | (with_reducible refine aops_nil ?_)
        | (with_reducible refine k_normal ?_)
        | (with_reducible refine c_skip ?_)
        | (with_reducible refine c_ret ?_)
        | (with_reducible refine k_ret ?_)
        | ((with_reducible apply want_run); exact rfl; exact rfl)
        | ((with_reducible apply want_skip); exact rfl; exact rfl; exact rfl)
        | ((with_reducible apply want_out); exact rfl; exact rfl; exact rfl)
        | ((with_reducible apply st_callv); exact rfl; exact rfl; exact rfl; exact rfl; exact none_AC a; (rintro v rfl); rw [h1])
        | ((with_reducible apply st_callv); exact rfl; exact rfl; exact rfl; exact rfl; exact none_AC b; (rintro v rfl); rw [h2])
        | ((with_reducible apply st_float); exact rfl; exact rfl; exact e1; exact rfl)
        | ((with_reducible apply st_float); exact rfl; exact rfl; exact e2; exact rfl)
        | ((with_reducible apply st_callv); exact rfl; exact rfl; exact rfl; exact rfl; exact minus_AC a; (rintro v rfl); rw [h5])
        | ((with_reducible apply st_callv); exact rfl; exact rfl; exact rfl; exact rfl; exact minus_AC b; (rintro v rfl); rw [h6])
        | ((with_reducible apply st_q RdT.ok); exact rfl; exact rfl)
        | ((with_reducible apply c_condT); exact rfl)
        | ((with_reducible apply c_condF); exact rfl))
    all_goals (((with_reducible apply r_one); exact rfl; exact .tmp rfl .nil; exact .s (.pv _); exact hS; refine ⟨rfl, _, rfl, ?_⟩); rfl)
theorem rsame_AC (a b : Nat) : ACv Try.prog 56 [fl a, fl b] fun v => v = Rd.bool (Fl.same a b) := by
  intro L S hL
  refine fn_St (n := 15) (rs := [.tmp 4]) hands_val RdT.ok RdT.mixed Try.func56 rfl (by kernel_rfl) rfl rfl rfl hL ?_
  intro hS
  unfold Fl.same
  obtain ⟨n1, h1⟩ : ∃ x, Fl.less a b = x := ⟨_, rfl⟩
  obtain ⟨n2, h2⟩ : ∃ x, Fl.less b a = x := ⟨_, rfl⟩
  rw [h1, h2]
  cases n1 <;> cases n2
  all_goals
    show awp _ _ _ _ _ (St L 15 [(0, .a (fl a)), (1, .a (fl b))] S [])
    repeat' (first
        | (with_reducible refine want_none ?_)
        | (with_reducible refine c_seq ?_)
        | (with_reducible refine c_region ?_)
        | (with_reducible refine aops_nil ?_)
        | (with_reducible refine k_normal ?_)
        | (with_reducible refine c_ret ?_)
        | ((with_reducible apply want_run); exact rfl; exact rfl)
        | ((with_reducible apply want_skip); exact rfl; exact rfl; exact rfl)
        | ((with_reducible apply st_callv); exact rfl; exact rfl; exact rfl; exact rfl; exact less_AC a b; (rintro v rfl); rw [h1])
        | ((with_reducible apply st_callv); exact rfl; exact rfl; exact rfl; exact rfl; exact less_AC b a; (rintro v rfl); rw [h2])
        | ((with_reducible apply st_q RdT.ok); exact rfl; exact rfl))
    all_goals (((with_reducible apply r_one); exact rfl; exact .tmp rfl .nil; exact .s (.pv _); exact hS; refine ⟨rfl, _, rfl, ?_⟩); rfl)
end Go.Proofs.Ytfdaioinghfjpaa
namespace Go.Proofs.Ytfdaioinghfjpaa
open Go.Rd Go.RowKit
set_option maxRecDepth 20000
set_option linter.unusedSimpArgs false
set_option linter.unusedVariables false
set_option maxHeartbeats 8000000
theorem takeCV_eq (t : Option (List Tb × Int × Int)) : takeCV t = .tup [cA (t.map (·.1)), .s (.pv (.lit (.int .i64 ((t.map (·.2.1)).getD 0)))), .s (.pv (.lit (.int .i64 ((t.map (·.2.2)).getD 0)))), .s (.pv (.lit (.bool t.isSome)))] := by
  rcases t with _ | ⟨l, a, b⟩ <;> rfl
theorem sameC_self (o : Option (List Tb)) : sameC o o = true := by simp [sameC]
theorem sameC_commit (o : Option (List Tb)) : sameC (commitC o) (some (refCommitC o)) = true := by
  unfold sameC commitC refCommitC
  rw [decide_eq_true]
  split
  · rename_i h
    have hm := mayC_mem h
    rw [Option.getD_some, Option.getD_some, List.map_map, List.map_map]
    refine List.map_congr_left fun t ht => ?_
    show (commit t).getD [] = refCommit t
    rw [commit_getD (hm t ht), refCommit, if_pos (hm t ht)]
  · rfl
theorem brC_same {o : Option (List Tb)} {r s : Nat} (h1 : BrC o r) (h2 : BrC o s) : Fl.same r s = true := by
  unfold BrC at h1 h2
  split at h1
  · rename_i hm
    rw [if_pos hm] at h2
    obtain ⟨p, hp, hr⟩ := h1
    obtain ⟨q, hq, hs⟩ := h2
    rcases hp with hp | ⟨hp, hp2⟩
    · have : q = p := FB.some hq hp
      subst this
      rcases hr with hr | ⟨hr, hr2⟩
      · have : s = r := FB.some hs hr
        subst this
        exact Fl.same_self _
      · exact Fl.same_nan hr2 (FB.none hs hr)
    · have hq2 : NanB .f64 q := FB.none hq hp
      exact Fl.same_nan (FB.none hr (Fl.nan_sub hp2)) (FB.none hs (Fl.nan_sub hq2))
  · rename_i hm
    rw [if_neg hm] at h2
    subst h1
    subst h2
    exact Fl.same_self _
theorem allocTells_AC (hfix : ACv Try.prog 39 [] fun v => v = Rd.bool true) (o : Option (List Tb)) (x : Rf) (y : Sz) : ACv Try.prog 12 [cA o, rA x, sA y] fun v => v = Rd.bool true := by
  intro L S hL
  refine fn_St (n := 160) (rs := [.tmp 6]) hands_val RdT.ok RdT.mixed Try.func12 rfl (by kernel_rfl) rfl rfl rfl (by omega) ?_
  intro hS
  obtain ⟨sm, hsm⟩ : ∃ b, smallC o = b := ⟨_, rfl⟩
  have hsc := sameC_commit o
  obtain ⟨rc, hrc⟩ : ∃ c, refCommitC o = c := ⟨_, rfl⟩
  obtain ⟨cc, hcc⟩ : ∃ c, commitC o = c := ⟨_, rfl⟩
  obtain ⟨t1, e1⟩ : ∃ c, (takeC o y.n y.no).map (·.1) = c := ⟨_, rfl⟩
  obtain ⟨t2, e2⟩ : ∃ c, ((takeC o y.n y.no).map (·.2.1)).getD 0 = c := ⟨_, rfl⟩
  obtain ⟨t3, e3⟩ : ∃ c, ((takeC o y.n y.no).map (·.2.2)).getD 0 = c := ⟨_, rfl⟩
  obtain ⟨t4, e4⟩ : ∃ c, (takeC o y.n y.no).isSome = c := ⟨_, rfl⟩
  obtain ⟨i1, f1⟩ : ∃ c, turnC o x 1 = c := ⟨_, rfl⟩
  obtain ⟨i2, f2⟩ : ∃ c, i1.isSome = c := ⟨_, rfl⟩
  obtain ⟨d1, g1⟩ : ∃ c, turnC o x (-1) = c := ⟨_, rfl⟩
  obtain ⟨d2, g2⟩ : ∃ c, d1.isSome = c := ⟨_, rfl⟩
  obtain ⟨my, hmay⟩ : ∃ c, mayC o = c := ⟨_, rfl⟩
  obtain ⟨⟨fa, fb⟩, hfr⟩ : ∃ c, freeC o = c := ⟨_, rfl⟩
  rw [hrc, hcc] at hsc
  show awp _ _ _ _ _ (St L 160 [(0, .a (cA o)), (1, .a (rA x)), (2, .a (sA y))] S [])
  repeat' (first
      | (with_reducible refine want_none ?_)
      | (with_reducible refine c_seq ?_)
      | (with_reducible refine c_region ?_)
      | (with_reducible refine aops_nil ?_)
      | (with_reducible refine k_normal ?_)
      | (with_reducible refine c_skip ?_)
      | (with_reducible refine c_ret ?_)
      | (with_reducible refine k_ret ?_)
      | ((with_reducible apply want_run); exact rfl; exact rfl)
      | ((with_reducible apply want_skip); exact rfl; exact rfl; exact rfl)
      | ((with_reducible apply want_forkF); exact rfl; exact rfl; exact rfl; (first | exact Bp.not Bp.dec | exact Bp.dec | exact Bp.not Bp.bool | exact Bp.bool); all_goals intro hc)
      | ((with_reducible apply want_forkT); exact rfl; exact rfl; exact rfl; (first | exact Bp.not Bp.dec | exact Bp.dec | exact Bp.not Bp.bool | exact Bp.bool); all_goals intro hc)
      | ((with_reducible apply st_callv); exact rfl; exact rfl; exact rfl; exact rfl; exact hfix; (rintro v rfl))
      | ((with_reducible apply st_callv); exact rfl; exact rfl; exact rfl; exact rfl; exact smallC_AC o; (rintro v rfl); rw [hsm])
      | ((with_reducible apply st_callv); exact rfl; exact rfl; exact rfl; exact rfl; exact takeC_AC o y.n y.no; (rintro v rfl); rw [takeCV_eq, e1, e2, e3, e4])
      | ((with_reducible apply st_callv); exact rfl; exact rfl; exact rfl; exact rfl; exact refTakeC_AC o y.n y.no; (rintro v rfl); rw [takeCV_eq, e1, e2, e3, e4])
      | ((with_reducible apply st_callv); exact rfl; exact rfl; exact rfl; exact rfl; exact incC_AC o x; (rintro v rfl); rw [turnCV_eq, f1, f2])
      | ((with_reducible apply st_callv); exact rfl; exact rfl; exact rfl; exact rfl; exact refIncC_AC o x; (rintro v rfl); rw [turnCV_eq, f1, f2])
      | ((with_reducible apply st_callv); exact rfl; exact rfl; exact rfl; exact rfl; exact decC_AC o x; (rintro v rfl); rw [turnCV_eq, g1, g2])
      | ((with_reducible apply st_callv); exact rfl; exact rfl; exact rfl; exact rfl; exact refDecC_AC o x; (rintro v rfl); rw [turnCV_eq, g1, g2])
      | ((with_reducible apply st_callv); exact rfl; exact rfl; exact rfl; exact rfl; exact freeC_AC o; (rintro v rfl); rw [hfr])
      | ((with_reducible apply st_callv); exact rfl; exact rfl; exact rfl; exact rfl; exact refFreeC_AC o; (rintro v rfl); rw [hfr])
      | ((with_reducible apply st_callv); exact rfl; exact rfl; exact rfl; exact rfl; exact mayC_AC o; (rintro v rfl); rw [hmay])
      | ((with_reducible apply st_callv); exact rfl; exact rfl; exact rfl; exact rfl; exact refMayC_AC o; (rintro v rfl); rw [hmay])
      | ((with_reducible apply st_callv); exact rfl; exact rfl; exact rfl; exact rfl; exact sameC_AC t1 t1; (rintro v rfl); rw [sameC_self])
      | ((with_reducible apply st_callv); exact rfl; exact rfl; exact rfl; exact rfl; exact sameC_AC i1 i1; (rintro v rfl); rw [sameC_self])
      | ((with_reducible apply st_callv); exact rfl; exact rfl; exact rfl; exact rfl; exact sameC_AC d1 d1; (rintro v rfl); rw [sameC_self])
      | ((with_reducible apply st_callv); exact rfl; exact rfl; exact rfl; exact rfl; exact commitC_AC o; (rintro v rfl); rw [hcc])
      | ((with_reducible apply st_callv); exact rfl; exact rfl; exact rfl; exact rfl; exact refCommitC_AC o; (rintro v rfl); rw [hrc])
      | ((with_reducible apply st_callv); exact rfl; exact rfl; exact rfl; exact rfl; exact sameC_AC cc (some rc); (rintro v rfl); rw [hsc])
      | ((with_reducible apply st_callv); exact rfl; exact rfl; exact rfl; exact rfl; exact brokenG_AC o; (rintro v ⟨r1, rfl, hr1⟩))
      | ((with_reducible apply st_callv); exact rfl; exact rfl; exact rfl; exact rfl; exact refBrokenG_AC o; (rintro v ⟨r2, rfl, hr2⟩))
      | ((with_reducible apply st_callv); exact rfl; exact rfl; exact rfl; exact rfl; exact rsame_AC r1 r2; (rintro v rfl); rw [brC_same hr1 hr2])
      | ((with_reducible apply st_box); exact rfl; exact rfl; exact rfl; exact rfl)
      | ((with_reducible apply st_load); exact rfl; exact rfl; exact rfl; exact rfl; exact rfl)
      | ((with_reducible apply st_q RdT.ok); exact rfl; exact rfl)
      | ((with_reducible apply c_condT); exact rfl)
      | ((with_reducible apply c_cond); exact rfl; (first | exact Bp.not Bp.dec | exact Bp.dec | exact Bp.not Bp.bool | exact Bp.bool); all_goals intro hc))
  all_goals first
    | exact absurd rfl hc
    | (((with_reducible apply r_one); exact rfl; exact .tmp rfl .nil; exact .s (.pv _); exact hS; refine ⟨rfl, _, rfl, ?_⟩); rfl)
    | trace_state
end Go.Proofs.Ytfdaioinghfjpaa
