/- The law AllocTells of the given program, for every input. (part 8 of 10) -/
import Derived.Test.YtfdaioinghfjpaaATl7
namespace Go.Proofs.Ytfdaioinghfjpaa
open Go.Rd Go.RowKit
set_option maxRecDepth 20000
set_option linter.unusedSimpArgs false
set_option linter.unusedVariables false
set_option maxHeartbeats 4000000
def hasC (o : Option (List Tb)) (x : Rf) : Bool := mayR x && decide (x.chunk < (o.getD []).length) && (((o.getD []).getD x.chunk.toNat none).getD []).any (testR x)
theorem hasC_AC (o : Option (List Tb)) (x : Rf) : ACv Try.prog 47 [cA o, rA x] fun v => v = Rd.bool (hasC o x) := by
  intro L S hL
  refine fn_St (n := 46) (rs := [.tmp 4]) hands_val RdT.ok RdT.mixed Try.func47 rfl (by kernel_rfl) rfl rfl rfl (by omega) ?_
  intro hS
  cases hmr : mayR x with
  | false =>
    show awp _ _ _ _ _ (St L 46 [(0, .a (cA o)), (1, .a (rA x))] S [])
    repeat' (first
        | (with_reducible refine want_none ?_)
        | (with_reducible refine c_seq ?_)
        | (with_reducible refine c_region ?_)
        | (with_reducible refine c_block ?_)
        | (with_reducible refine aops_nil ?_)
        | (with_reducible refine k_normal ?_)
        | (with_reducible refine c_skip ?_)
        | (with_reducible refine c_exit ?_)
        | (with_reducible refine c_ret ?_)
        | (with_reducible refine k_ret ?_)
        | (with_reducible refine k_exit ?_)
        | (with_reducible refine kl_exit ?_)
        | (with_reducible refine kr_ret ?_)
        | (with_reducible refine kr_exit ?_)
        | (with_reducible refine kb_normal ?_)
        | (with_reducible refine kb_ret ?_)
        | (with_reducible refine kb_hit ?_)
        | ((with_reducible apply want_run); exact rfl; exact rfl)
        | ((with_reducible apply want_skip); exact rfl; exact rfl; exact rfl)
        | ((with_reducible apply want_forkT); exact rfl; exact rfl; exact rfl; (first | exact Bp.not Bp.dec | exact Bp.dec | exact Bp.not Bp.bool | exact Bp.bool); all_goals intro hc)
        | ((with_reducible apply st_callv); exact rfl; exact rfl; exact rfl; exact rfl; exact refMayR_AC x; (rintro v rfl); rw [hmr])
        | ((with_reducible apply st_box); exact rfl; exact rfl; exact rfl; exact rfl)
        | ((with_reducible apply st_loadpelK); exact rfl; exact rfl; assumption; exact rfl; exact rfl)
        | ((with_reducible apply st_loadpel); exact rfl; exact rfl; omega; exact rfl; (intro u hu; refine ⟨_, rfl, ?_⟩; try simp only [Int.toNat_natCast] at hu))
        | ((with_reducible apply st_load); exact rfl; exact rfl; exact rfl; exact rfl; exact rfl)
        | ((with_reducible apply st_idx); exact rfl; exact rfl; exact rfl; exact rfl; exact rfl; omega)
        | ((with_reducible apply st_len RdT.ok); exact rfl; exact rfl; exact rfl; intro hlen)
        | ((with_reducible apply st_lennil RdT.ok); exact rfl; exact rfl; exact rfl)
        | ((with_reducible apply st_add); exact rfl; exact rfl; exact rfl; omega)
        | ((with_reducible apply st_q RdT.ok); exact rfl; exact rfl)
        | ((with_reducible apply c_condT); exact rfl)
        | ((with_reducible apply c_condF); exact rfl)
        | ((with_reducible apply c_cond); exact rfl; (first | exact Bp.not Bp.dec | exact Bp.dec | exact Bp.not Bp.bool | exact Bp.bool); all_goals intro hc))
    ((with_reducible apply r_one); exact rfl; exact .tmp rfl .nil; exact .s (.pv _); exact hS; refine ⟨rfl, _, rfl, ?_⟩)
    rw [hasC, hmr]; rfl
  | true =>
    have hch : 0 ≤ x.chunk ∧ x.size ≤ 256 := by
      unfold mayR at hmr
      simp only [Bool.and_eq_true, decide_eq_true_eq] at hmr
      omega
    cases o with
    | none =>
      show awp _ _ _ _ _ (St L 46 [(0, nilS), (1, .a (rA x))] S [])
      repeat' (first
          | (with_reducible refine want_none ?_)
          | (with_reducible refine c_seq ?_)
          | (with_reducible refine c_region ?_)
          | (with_reducible refine c_block ?_)
          | (with_reducible refine aops_nil ?_)
          | (with_reducible refine k_normal ?_)
          | (with_reducible refine c_skip ?_)
          | (with_reducible refine c_exit ?_)
          | (with_reducible refine c_ret ?_)
          | (with_reducible refine k_ret ?_)
          | (with_reducible refine k_exit ?_)
          | (with_reducible refine kl_exit ?_)
          | (with_reducible refine kr_ret ?_)
          | (with_reducible refine kr_exit ?_)
          | (with_reducible refine kb_normal ?_)
          | (with_reducible refine kb_ret ?_)
          | (with_reducible refine kb_hit ?_)
          | ((with_reducible apply want_run); exact rfl; exact rfl)
          | ((with_reducible apply want_skip); exact rfl; exact rfl; exact rfl)
          | ((with_reducible apply want_forkT); exact rfl; exact rfl; exact rfl; (first | exact Bp.not Bp.dec | exact Bp.dec | exact Bp.not Bp.bool | exact Bp.bool); all_goals intro hc)
          | ((with_reducible apply st_callv); exact rfl; exact rfl; exact rfl; exact rfl; exact refMayR_AC x; (rintro v rfl); rw [hmr])
          | ((with_reducible apply st_box); exact rfl; exact rfl; exact rfl; exact rfl)
          | ((with_reducible apply st_loadpelK); exact rfl; exact rfl; assumption; exact rfl; exact rfl)
          | ((with_reducible apply st_loadpel); exact rfl; exact rfl; omega; exact rfl; (intro u hu; refine ⟨_, rfl, ?_⟩; try simp only [Int.toNat_natCast] at hu))
          | ((with_reducible apply st_load); exact rfl; exact rfl; exact rfl; exact rfl; exact rfl)
          | ((with_reducible apply st_idx); exact rfl; exact rfl; exact rfl; exact rfl; exact rfl; omega)
          | ((with_reducible apply st_len RdT.ok); exact rfl; exact rfl; exact rfl; intro hlen)
          | ((with_reducible apply st_lennil RdT.ok); exact rfl; exact rfl; exact rfl)
          | ((with_reducible apply st_add); exact rfl; exact rfl; exact rfl; omega)
          | ((with_reducible apply st_q RdT.ok); exact rfl; exact rfl)
          | ((with_reducible apply c_condT); exact rfl)
          | ((with_reducible apply c_condF); exact rfl)
          | ((with_reducible apply c_cond); exact rfl; (first | exact Bp.not Bp.dec | exact Bp.dec | exact Bp.not Bp.bool | exact Bp.bool); all_goals intro hc))
      all_goals first
        | (exfalso; omega)
        | (((with_reducible apply r_one); exact rfl; exact .tmp rfl .nil; exact .s (.pv _); exact hS; refine ⟨rfl, _, rfl, ?_⟩)
           rw [hasC, hmr, decide_eq_false (by simp only [Option.getD_none, List.length_nil]; omega)]; rfl)
    | some l =>
      show awp _ _ _ _ _ (St L 46 [(0, row 1 (l.map encC)), (1, .a (rA x))] S [])
      repeat' (first
          | (with_reducible refine want_none ?_)
          | (with_reducible refine c_seq ?_)
          | (with_reducible refine c_region ?_)
          | (with_reducible refine c_block ?_)
          | (with_reducible refine aops_nil ?_)
          | (with_reducible refine k_normal ?_)
          | (with_reducible refine c_skip ?_)
          | (with_reducible refine c_exit ?_)
          | (with_reducible refine c_ret ?_)
          | (with_reducible refine k_ret ?_)
          | (with_reducible refine k_exit ?_)
          | (with_reducible refine kl_exit ?_)
          | (with_reducible refine kr_ret ?_)
          | (with_reducible refine kr_exit ?_)
          | (with_reducible refine kb_normal ?_)
          | (with_reducible refine kb_ret ?_)
          | (with_reducible refine kb_hit ?_)
          | ((with_reducible apply want_run); exact rfl; exact rfl)
          | ((with_reducible apply want_skip); exact rfl; exact rfl; exact rfl)
          | ((with_reducible apply want_forkT); exact rfl; exact rfl; exact rfl; (first | exact Bp.not Bp.dec | exact Bp.dec | exact Bp.not Bp.bool | exact Bp.bool); all_goals intro hc)
          | ((with_reducible apply st_callv); exact rfl; exact rfl; exact rfl; exact rfl; exact refMayR_AC x; (rintro v rfl); rw [hmr])
          | ((with_reducible apply st_loadpel); exact rfl; exact rfl; omega; exact rfl; (intro u hu; rcases u with _ | u <;> refine ⟨_, rfl, ?_⟩))
          | ((with_reducible apply st_box); exact rfl; exact rfl; exact rfl; exact rfl)
          | ((with_reducible apply st_loadpelK); exact rfl; exact rfl; assumption; exact rfl; exact rfl)
          | ((with_reducible apply st_loadpel); exact rfl; exact rfl; omega; exact rfl; (intro u hu; refine ⟨_, rfl, ?_⟩; try simp only [Int.toNat_natCast] at hu))
          | ((with_reducible apply st_load); exact rfl; exact rfl; exact rfl; exact rfl; exact rfl)
          | ((with_reducible apply st_idx); exact rfl; exact rfl; exact rfl; exact rfl; exact rfl; omega)
          | ((with_reducible apply st_len RdT.ok); exact rfl; exact rfl; exact rfl; intro hlen)
          | ((with_reducible apply st_lennil RdT.ok); exact rfl; exact rfl; exact rfl)
          | ((with_reducible apply st_add); exact rfl; exact rfl; exact rfl; omega)
          | ((with_reducible apply st_q RdT.ok); exact rfl; exact rfl)
          | ((with_reducible apply c_condT); exact rfl)
          | ((with_reducible apply c_condF); exact rfl)
          | ((with_reducible apply c_cond); exact rfl; (first | exact Bp.not Bp.dec | exact Bp.dec | exact Bp.not Bp.bool | exact Bp.bool); all_goals intro hc))
      · ((with_reducible apply r_one); exact rfl; exact .tmp rfl .nil; exact .s (.pv _); exact hS; refine ⟨rfl, _, rfl, ?_⟩)
        rw [hasC, hmr, decide_eq_false (by simp only [Option.getD_some]; omega)]; rfl
      · have hh : hasC (some l) x = false := by
          rw [hasC, hmr, Option.getD_some, List.getD_eq_getElem?_getD, hu]
          simp
        refine c_loop0 ?_
        repeat' (first
            | (with_reducible refine want_none ?_)
            | (with_reducible refine c_seq ?_)
            | (with_reducible refine c_region ?_)
            | (with_reducible refine c_block ?_)
            | (with_reducible refine aops_nil ?_)
            | (with_reducible refine k_normal ?_)
            | (with_reducible refine c_skip ?_)
            | (with_reducible refine c_exit ?_)
            | (with_reducible refine c_ret ?_)
            | (with_reducible refine k_ret ?_)
            | (with_reducible refine k_exit ?_)
            | (with_reducible refine kl_exit ?_)
            | (with_reducible refine kr_ret ?_)
            | (with_reducible refine kr_exit ?_)
            | (with_reducible refine kb_normal ?_)
            | (with_reducible refine kb_ret ?_)
            | (with_reducible refine kb_hit ?_)
            | ((with_reducible apply want_run); exact rfl; exact rfl)
            | ((with_reducible apply want_skip); exact rfl; exact rfl; exact rfl)
            | ((with_reducible apply want_forkT); exact rfl; exact rfl; exact rfl; (first | exact Bp.not Bp.dec | exact Bp.dec | exact Bp.not Bp.bool | exact Bp.bool); all_goals intro hc)
            | ((with_reducible apply st_box); exact rfl; exact rfl; exact rfl; exact rfl)
            | ((with_reducible apply st_loadpelK); exact rfl; exact rfl; assumption; exact rfl; exact rfl)
            | ((with_reducible apply st_loadpel); exact rfl; exact rfl; omega; exact rfl; (intro u hu; refine ⟨_, rfl, ?_⟩; try simp only [Int.toNat_natCast] at hu))
            | ((with_reducible apply st_load); exact rfl; exact rfl; exact rfl; exact rfl; exact rfl)
            | ((with_reducible apply st_idx); exact rfl; exact rfl; exact rfl; exact rfl; exact rfl; omega)
            | ((with_reducible apply st_len RdT.ok); exact rfl; exact rfl; exact rfl; intro hlen)
            | ((with_reducible apply st_lennil RdT.ok); exact rfl; exact rfl; exact rfl)
            | ((with_reducible apply st_add); exact rfl; exact rfl; exact rfl; omega)
            | ((with_reducible apply st_q RdT.ok); exact rfl; exact rfl)
            | ((with_reducible apply c_condT); exact rfl)
            | ((with_reducible apply c_condF); exact rfl)
            | ((with_reducible apply c_cond); exact rfl; (first | exact Bp.not Bp.dec | exact Bp.dec | exact Bp.not Bp.bool | exact Bp.bool); all_goals intro hc))
        ((with_reducible apply r_one); exact rfl; exact .tmp rfl .nil; exact .s (.pv _); exact hS; refine ⟨rfl, _, rfl, ?_⟩)
        rw [hh]
      · have hh : hasC (some l) x = u.any (testR x) := by
          rw [hasC, hmr, Option.getD_some, List.getD_eq_getElem?_getD, hu, decide_eq_true (by omega)]
          rfl
        rw [hh]
        clear hh
        refine c_loop (β := Nat) (fun k => k ≤ u.length ∧ ∀ (i : Nat) (y : U), i < u.length → i < k → u[i]? = some y → testR x y = false) (fun k => u.length - k) (fun k => [(3, .a (.s (.pb L 3 0))), (5, row 4 (u.map encU)), (6, int k)]) (fun _ => [(3, .box 53 ((encR x).map .pv))]) 0 ⟨Nat.zero_le _, fun _ _ _ h => absurd h (by omega)⟩ ⟨rfl, rfl, rfl, trivial⟩ ⟨rfl, trivial⟩ rfl rfl ?_
        rintro k ⟨hk, hm⟩
        rcases Nat.lt_or_ge k u.length with hk' | hk'
        · obtain ⟨y, hy⟩ : ∃ y, u[k]? = some y := ⟨_, List.getElem?_eq_getElem hk'⟩
          have hback : testR x y = false → ∀ (i : Nat) (z : U), i < u.length → i < k + 1 → u[i]? = some z → testR x z = false := by
            intro hq i z hi hik hz
            rcases Nat.lt_or_ge i k with h1 | h1
            · exact hm i z hi h1 hz
            · have : i = k := by omega
              subst this
              rw [hy] at hz
              cases hz
              exact hq
          repeat' (first
              | (with_reducible refine want_none ?_)
              | (with_reducible refine c_seq ?_)
              | (with_reducible refine c_region ?_)
              | (with_reducible refine c_block ?_)
              | (with_reducible refine aops_nil ?_)
              | (with_reducible refine k_normal ?_)
              | (with_reducible refine c_skip ?_)
              | (with_reducible refine c_exit ?_)
              | (with_reducible refine c_ret ?_)
              | (with_reducible refine k_ret ?_)
              | (with_reducible refine k_exit ?_)
              | (with_reducible refine kl_exit ?_)
              | (with_reducible refine kr_ret ?_)
              | (with_reducible refine kr_exit ?_)
              | (with_reducible refine kb_normal ?_)
              | (with_reducible refine kb_ret ?_)
              | (with_reducible refine kb_hit ?_)
              | ((with_reducible apply want_run); exact rfl; exact rfl)
              | ((with_reducible apply want_skip); exact rfl; exact rfl; exact rfl)
              | ((with_reducible apply want_forkT); exact rfl; exact rfl; exact rfl; (first | exact Bp.not Bp.dec | exact Bp.dec | exact Bp.not Bp.bool | exact Bp.bool); all_goals intro hc)
              | (with_reducible refine q_nil ?_)
              | ((with_reducible apply q_one); exact rfl; exact rfl)
              | ((with_reducible apply q_callS); exact rfl; exact rfl; exact rfl)
              | ((with_reducible refine c_regionQ ?_ ?_); (decide +kernel))
              | ((with_reducible apply q_callR); exact rfl; exact rfl; exact rfl; (with_reducible apply acq); exact rfl; exact rfl; exact rfl; exact refLenR_AC x (by omega); exact rfl; (refine put_some rfl ?_))
              | ((with_reducible apply st_box); exact rfl; exact rfl; exact rfl; exact rfl)
              | ((with_reducible apply st_loadpelK); exact rfl; exact rfl; assumption; exact rfl; exact rfl)
              | ((with_reducible apply st_loadpel); exact rfl; exact rfl; omega; exact rfl; (intro u hu; refine ⟨_, rfl, ?_⟩; try simp only [Int.toNat_natCast] at hu))
              | ((with_reducible apply st_load); exact rfl; exact rfl; exact rfl; exact rfl; exact rfl)
              | ((with_reducible apply st_idx); exact rfl; exact rfl; exact rfl; exact rfl; exact rfl; omega)
              | ((with_reducible apply st_len RdT.ok); exact rfl; exact rfl; exact rfl; intro hlen)
              | ((with_reducible apply st_lennil RdT.ok); exact rfl; exact rfl; exact rfl)
              | ((with_reducible apply st_add); exact rfl; exact rfl; exact rfl; omega)
              | ((with_reducible apply st_q RdT.ok); exact rfl; exact rfl)
              | ((with_reducible apply c_condT); exact rfl)
              | ((with_reducible apply c_condF); exact rfl)
              | ((with_reducible apply c_cond); exact rfl; (first | exact Bp.not Bp.dec | exact Bp.dec | exact Bp.not Bp.bool | exact Bp.bool); all_goals intro hc))
          all_goals try (exfalso; omega)
          all_goals first
            | (((with_reducible apply r_one); exact rfl; exact .tmp rfl .nil; exact .s (.pv _); exact hS; refine ⟨rfl, _, rfl, ?_⟩)
               rw [show u.any (testR x) = true from any_true hy (by unfold testR; simp_all)])
            | ((with_reducible refine k_back (k + 1) ?_ ?_ ?_ ?_ ?_ ?_)
               · exact ⟨by omega, hback (by clear hback hm; unfold testR; simp_all)⟩
               · omega
               · exact ⟨rfl, rfl, rfl, trivial⟩
               · exact ⟨rfl, trivial⟩
               · exact rfl
               · exact rfl)
            | trace_state
        · repeat' (first
              | (with_reducible refine want_none ?_)
              | (with_reducible refine c_seq ?_)
              | (with_reducible refine c_region ?_)
              | (with_reducible refine c_block ?_)
              | (with_reducible refine aops_nil ?_)
              | (with_reducible refine k_normal ?_)
              | (with_reducible refine c_skip ?_)
              | (with_reducible refine c_exit ?_)
              | (with_reducible refine c_ret ?_)
              | (with_reducible refine k_ret ?_)
              | (with_reducible refine k_exit ?_)
              | (with_reducible refine kl_exit ?_)
              | (with_reducible refine kr_ret ?_)
              | (with_reducible refine kr_exit ?_)
              | (with_reducible refine kb_normal ?_)
              | (with_reducible refine kb_ret ?_)
              | (with_reducible refine kb_hit ?_)
              | ((with_reducible apply want_run); exact rfl; exact rfl)
              | ((with_reducible apply want_skip); exact rfl; exact rfl; exact rfl)
              | ((with_reducible apply want_forkT); exact rfl; exact rfl; exact rfl; (first | exact Bp.not Bp.dec | exact Bp.dec | exact Bp.not Bp.bool | exact Bp.bool); all_goals intro hc)
              | ((with_reducible apply st_box); exact rfl; exact rfl; exact rfl; exact rfl)
              | ((with_reducible apply st_loadpelK); exact rfl; exact rfl; assumption; exact rfl; exact rfl)
              | ((with_reducible apply st_loadpel); exact rfl; exact rfl; omega; exact rfl; (intro u hu; refine ⟨_, rfl, ?_⟩; try simp only [Int.toNat_natCast] at hu))
              | ((with_reducible apply st_load); exact rfl; exact rfl; exact rfl; exact rfl; exact rfl)
              | ((with_reducible apply st_idx); exact rfl; exact rfl; exact rfl; exact rfl; exact rfl; omega)
              | ((with_reducible apply st_len RdT.ok); exact rfl; exact rfl; exact rfl; intro hlen)
              | ((with_reducible apply st_lennil RdT.ok); exact rfl; exact rfl; exact rfl)
              | ((with_reducible apply st_add); exact rfl; exact rfl; exact rfl; omega)
              | ((with_reducible apply st_q RdT.ok); exact rfl; exact rfl)
              | ((with_reducible apply c_condT); exact rfl)
              | ((with_reducible apply c_condF); exact rfl)
              | ((with_reducible apply c_cond); exact rfl; (first | exact Bp.not Bp.dec | exact Bp.dec | exact Bp.not Bp.bool | exact Bp.bool); all_goals intro hc))
          all_goals try (exfalso; omega)
          ((with_reducible apply r_one); exact rfl; exact .tmp rfl .nil; exact .s (.pv _); exact hS; refine ⟨rfl, _, rfl, ?_⟩)
          rw [show u.any (testR x) = false from any_false fun i y hi hy => hm i y hi (by omega) hy]
end Go.Proofs.Ytfdaioinghfjpaa
namespace Go.Proofs.Ytfdaioinghfjpaa
open Go.Rd Go.RowKit
end Go.Proofs.Ytfdaioinghfjpaa
namespace Go.Proofs.Ytfdaioinghfjpaa
open Go.Rd Go.RowKit
set_option maxRecDepth 20000
set_option linter.unusedSimpArgs false
set_option linter.unusedVariables false
set_option maxHeartbeats 4000000
theorem sameC_AC (a b : Option (List Tb)) : ACv Try.prog 46 [cA a, cA b] fun v => v = Rd.bool (sameC a b) := by
  intro L S hL
  refine fn_St (n := 27) (rs := [.tmp 4]) hands_val RdT.ok RdT.mixed Try.func46 rfl (by kernel_rfl) rfl rfl rfl (by omega) ?_
  intro hS
  cases a with
  | none =>
    cases b with
    | none =>
      show awp _ _ _ _ _ (St L 27 [(0, nilS), (1, nilS)] S [])
      repeat' (first
          | (with_reducible refine want_none ?_)
          | (with_reducible refine c_seq ?_)
          | (with_reducible refine c_region ?_)
          | (with_reducible refine c_block ?_)
          | (with_reducible refine aops_nil ?_)
          | (with_reducible refine k_normal ?_)
          | (with_reducible refine c_skip ?_)
          | (with_reducible refine c_exit ?_)
          | (with_reducible refine c_ret ?_)
          | (with_reducible refine k_ret ?_)
          | (with_reducible refine k_exit ?_)
          | (with_reducible refine kl_exit ?_)
          | (with_reducible refine kr_ret ?_)
          | (with_reducible refine kr_exit ?_)
          | (with_reducible refine kb_normal ?_)
          | (with_reducible refine kb_ret ?_)
          | (with_reducible refine kb_hit ?_)
          | ((with_reducible apply st_loadpelK); exact rfl; exact rfl; assumption; exact rfl; exact rfl)
          | ((with_reducible apply st_idx); exact rfl; exact rfl; exact rfl; exact rfl; exact rfl; omega)
          | ((with_reducible apply st_len RdT.ok); exact rfl; exact rfl; exact rfl; intro hlen)
          | ((with_reducible apply st_lennil RdT.ok); exact rfl; exact rfl; exact rfl)
          | ((with_reducible apply st_add); exact rfl; exact rfl; exact rfl; omega)
          | ((with_reducible apply st_q RdT.ok); exact rfl; exact rfl)
          | ((with_reducible apply c_condF); exact rfl)
          | ((with_reducible apply c_cond); exact rfl; (first | exact Bp.not Bp.dec | exact Bp.dec | exact Bp.not Bp.bool | exact Bp.bool); all_goals intro hc))
      refine c_loop0 ?_
      repeat' (first
          | (with_reducible refine want_none ?_)
          | (with_reducible refine c_seq ?_)
          | (with_reducible refine c_region ?_)
          | (with_reducible refine c_block ?_)
          | (with_reducible refine aops_nil ?_)
          | (with_reducible refine k_normal ?_)
          | (with_reducible refine c_skip ?_)
          | (with_reducible refine c_exit ?_)
          | (with_reducible refine c_ret ?_)
          | (with_reducible refine k_ret ?_)
          | (with_reducible refine k_exit ?_)
          | (with_reducible refine kl_exit ?_)
          | (with_reducible refine kr_ret ?_)
          | (with_reducible refine kr_exit ?_)
          | (with_reducible refine kb_normal ?_)
          | (with_reducible refine kb_ret ?_)
          | (with_reducible refine kb_hit ?_)
          | ((with_reducible apply st_loadpelK); exact rfl; exact rfl; assumption; exact rfl; exact rfl)
          | ((with_reducible apply st_idx); exact rfl; exact rfl; exact rfl; exact rfl; exact rfl; omega)
          | ((with_reducible apply st_len RdT.ok); exact rfl; exact rfl; exact rfl; intro hlen)
          | ((with_reducible apply st_lennil RdT.ok); exact rfl; exact rfl; exact rfl)
          | ((with_reducible apply st_add); exact rfl; exact rfl; exact rfl; omega)
          | ((with_reducible apply st_q RdT.ok); exact rfl; exact rfl)
          | ((with_reducible apply c_condF); exact rfl)
          | ((with_reducible apply c_cond); exact rfl; (first | exact Bp.not Bp.dec | exact Bp.dec | exact Bp.not Bp.bool | exact Bp.bool); all_goals intro hc))
      ((with_reducible apply r_one); exact rfl; exact .tmp rfl .nil; exact .s (.pv _); exact hS; refine ⟨rfl, _, rfl, ?_⟩)
      rfl
    | some m =>
      show awp _ _ _ _ _ (St L 27 [(0, nilS), (1, row 1 (m.map encC))] S [])
      repeat' (first
          | (with_reducible refine want_none ?_)
          | (with_reducible refine c_seq ?_)
          | (with_reducible refine c_region ?_)
          | (with_reducible refine c_block ?_)
          | (with_reducible refine aops_nil ?_)
          | (with_reducible refine k_normal ?_)
          | (with_reducible refine c_skip ?_)
          | (with_reducible refine c_exit ?_)
          | (with_reducible refine c_ret ?_)
          | (with_reducible refine k_ret ?_)
          | (with_reducible refine k_exit ?_)
          | (with_reducible refine kl_exit ?_)
          | (with_reducible refine kr_ret ?_)
          | (with_reducible refine kr_exit ?_)
          | (with_reducible refine kb_normal ?_)
          | (with_reducible refine kb_ret ?_)
          | (with_reducible refine kb_hit ?_)
          | ((with_reducible apply st_loadpelK); exact rfl; exact rfl; assumption; exact rfl; exact rfl)
          | ((with_reducible apply st_idx); exact rfl; exact rfl; exact rfl; exact rfl; exact rfl; omega)
          | ((with_reducible apply st_len RdT.ok); exact rfl; exact rfl; exact rfl; intro hlen)
          | ((with_reducible apply st_lennil RdT.ok); exact rfl; exact rfl; exact rfl)
          | ((with_reducible apply st_add); exact rfl; exact rfl; exact rfl; omega)
          | ((with_reducible apply st_q RdT.ok); exact rfl; exact rfl)
          | ((with_reducible apply c_condF); exact rfl)
          | ((with_reducible apply c_cond); exact rfl; (first | exact Bp.not Bp.dec | exact Bp.dec | exact Bp.not Bp.bool | exact Bp.bool); all_goals intro hc))
      · ((with_reducible apply r_one); exact rfl; exact .tmp rfl .nil; exact .s (.pv _); exact hS; refine ⟨rfl, _, rfl, ?_⟩)
        cases m with
        | nil => simp at hc
        | cons u r => rfl
      · refine c_loop0 ?_
        repeat' (first
            | (with_reducible refine want_none ?_)
            | (with_reducible refine c_seq ?_)
            | (with_reducible refine c_region ?_)
            | (with_reducible refine c_block ?_)
            | (with_reducible refine aops_nil ?_)
            | (with_reducible refine k_normal ?_)
            | (with_reducible refine c_skip ?_)
            | (with_reducible refine c_exit ?_)
            | (with_reducible refine c_ret ?_)
            | (with_reducible refine k_ret ?_)
            | (with_reducible refine k_exit ?_)
            | (with_reducible refine kl_exit ?_)
            | (with_reducible refine kr_ret ?_)
            | (with_reducible refine kr_exit ?_)
            | (with_reducible refine kb_normal ?_)
            | (with_reducible refine kb_ret ?_)
            | (with_reducible refine kb_hit ?_)
            | ((with_reducible apply st_loadpelK); exact rfl; exact rfl; assumption; exact rfl; exact rfl)
            | ((with_reducible apply st_idx); exact rfl; exact rfl; exact rfl; exact rfl; exact rfl; omega)
            | ((with_reducible apply st_len RdT.ok); exact rfl; exact rfl; exact rfl; intro hlen)
            | ((with_reducible apply st_lennil RdT.ok); exact rfl; exact rfl; exact rfl)
            | ((with_reducible apply st_add); exact rfl; exact rfl; exact rfl; omega)
            | ((with_reducible apply st_q RdT.ok); exact rfl; exact rfl)
            | ((with_reducible apply c_condF); exact rfl)
            | ((with_reducible apply c_cond); exact rfl; (first | exact Bp.not Bp.dec | exact Bp.dec | exact Bp.not Bp.bool | exact Bp.bool); all_goals intro hc))
        ((with_reducible apply r_one); exact rfl; exact .tmp rfl .nil; exact .s (.pv _); exact hS; refine ⟨rfl, _, rfl, ?_⟩)
        cases m with
        | nil => rfl
        | cons u r => simp at hc; omega
  | some l =>
    cases b with
    | none =>
      show awp _ _ _ _ _ (St L 27 [(0, row 1 (l.map encC)), (1, nilS)] S [])
      repeat' (first
          | (with_reducible refine want_none ?_)
          | (with_reducible refine c_seq ?_)
          | (with_reducible refine c_region ?_)
          | (with_reducible refine c_block ?_)
          | (with_reducible refine aops_nil ?_)
          | (with_reducible refine k_normal ?_)
          | (with_reducible refine c_skip ?_)
          | (with_reducible refine c_exit ?_)
          | (with_reducible refine c_ret ?_)
          | (with_reducible refine k_ret ?_)
          | (with_reducible refine k_exit ?_)
          | (with_reducible refine kl_exit ?_)
          | (with_reducible refine kr_ret ?_)
          | (with_reducible refine kr_exit ?_)
          | (with_reducible refine kb_normal ?_)
          | (with_reducible refine kb_ret ?_)
          | (with_reducible refine kb_hit ?_)
          | ((with_reducible apply st_loadpelK); exact rfl; exact rfl; assumption; exact rfl; exact rfl)
          | ((with_reducible apply st_idx); exact rfl; exact rfl; exact rfl; exact rfl; exact rfl; omega)
          | ((with_reducible apply st_len RdT.ok); exact rfl; exact rfl; exact rfl; intro hlen)
          | ((with_reducible apply st_lennil RdT.ok); exact rfl; exact rfl; exact rfl)
          | ((with_reducible apply st_add); exact rfl; exact rfl; exact rfl; omega)
          | ((with_reducible apply st_q RdT.ok); exact rfl; exact rfl)
          | ((with_reducible apply c_condF); exact rfl)
          | ((with_reducible apply c_cond); exact rfl; (first | exact Bp.not Bp.dec | exact Bp.dec | exact Bp.not Bp.bool | exact Bp.bool); all_goals intro hc))
      · ((with_reducible apply r_one); exact rfl; exact .tmp rfl .nil; exact .s (.pv _); exact hS; refine ⟨rfl, _, rfl, ?_⟩)
        cases l with
        | nil => simp at hc
        | cons u r => rfl
      · refine c_loop0 ?_
        repeat' (first
            | (with_reducible refine want_none ?_)
            | (with_reducible refine c_seq ?_)
            | (with_reducible refine c_region ?_)
            | (with_reducible refine c_block ?_)
            | (with_reducible refine aops_nil ?_)
            | (with_reducible refine k_normal ?_)
            | (with_reducible refine c_skip ?_)
            | (with_reducible refine c_exit ?_)
            | (with_reducible refine c_ret ?_)
            | (with_reducible refine k_ret ?_)
            | (with_reducible refine k_exit ?_)
            | (with_reducible refine kl_exit ?_)
            | (with_reducible refine kr_ret ?_)
            | (with_reducible refine kr_exit ?_)
            | (with_reducible refine kb_normal ?_)
            | (with_reducible refine kb_ret ?_)
            | (with_reducible refine kb_hit ?_)
            | ((with_reducible apply st_loadpelK); exact rfl; exact rfl; assumption; exact rfl; exact rfl)
            | ((with_reducible apply st_idx); exact rfl; exact rfl; exact rfl; exact rfl; exact rfl; omega)
            | ((with_reducible apply st_len RdT.ok); exact rfl; exact rfl; exact rfl; intro hlen)
            | ((with_reducible apply st_lennil RdT.ok); exact rfl; exact rfl; exact rfl)
            | ((with_reducible apply st_add); exact rfl; exact rfl; exact rfl; omega)
            | ((with_reducible apply st_q RdT.ok); exact rfl; exact rfl)
            | ((with_reducible apply c_condF); exact rfl)
            | ((with_reducible apply c_cond); exact rfl; (first | exact Bp.not Bp.dec | exact Bp.dec | exact Bp.not Bp.bool | exact Bp.bool); all_goals intro hc))
        · exfalso; omega
        · ((with_reducible apply r_one); exact rfl; exact .tmp rfl .nil; exact .s (.pv _); exact hS; refine ⟨rfl, _, rfl, ?_⟩)
          cases l with
          | nil => rfl
          | cons u r => simp at *; try omega
    | some m =>
      show awp _ _ _ _ _ (St L 27 [(0, row 1 (l.map encC)), (1, row 1 (m.map encC))] S [])
      repeat' (first
          | (with_reducible refine want_none ?_)
          | (with_reducible refine c_seq ?_)
          | (with_reducible refine c_region ?_)
          | (with_reducible refine c_block ?_)
          | (with_reducible refine aops_nil ?_)
          | (with_reducible refine k_normal ?_)
          | (with_reducible refine c_skip ?_)
          | (with_reducible refine c_exit ?_)
          | (with_reducible refine c_ret ?_)
          | (with_reducible refine k_ret ?_)
          | (with_reducible refine k_exit ?_)
          | (with_reducible refine kl_exit ?_)
          | (with_reducible refine kr_ret ?_)
          | (with_reducible refine kr_exit ?_)
          | (with_reducible refine kb_normal ?_)
          | (with_reducible refine kb_ret ?_)
          | (with_reducible refine kb_hit ?_)
          | ((with_reducible apply st_loadpelK); exact rfl; exact rfl; assumption; exact rfl; exact rfl)
          | ((with_reducible apply st_idx); exact rfl; exact rfl; exact rfl; exact rfl; exact rfl; omega)
          | ((with_reducible apply st_len RdT.ok); exact rfl; exact rfl; exact rfl; intro hlen)
          | ((with_reducible apply st_lennil RdT.ok); exact rfl; exact rfl; exact rfl)
          | ((with_reducible apply st_add); exact rfl; exact rfl; exact rfl; omega)
          | ((with_reducible apply st_q RdT.ok); exact rfl; exact rfl)
          | ((with_reducible apply c_condF); exact rfl)
          | ((with_reducible apply c_cond); exact rfl; (first | exact Bp.not Bp.dec | exact Bp.dec | exact Bp.not Bp.bool | exact Bp.bool); all_goals intro hc))
      · ((with_reducible apply r_one); exact rfl; exact .tmp rfl .nil; exact .s (.pv _); exact hS; refine ⟨rfl, _, rfl, ?_⟩)
        refine congrArg Rd.bool ?_
        refine (decide_eq_false fun e => ?_).symm
        have := congrArg List.length e
        simp at this
        omega
      · have hlm : l.length = m.length := by omega
        refine c_loop (β := Nat) (fun k => k ≤ l.length ∧ ∀ (i : Nat) (x : Tb), i < k → l[i]? = some x → ∃ y, m[i]? = some y ∧ x.getD [] = y.getD []) (fun k => l.length - k) (fun k => [(0, row 1 (l.map encC)), (1, row 1 (m.map encC)), (5, int k)]) (fun _ => []) 0 ⟨Nat.zero_le _, fun i x hi => by omega⟩ ⟨rfl, rfl, rfl, trivial⟩ trivial rfl rfl ?_
        rintro k ⟨hk, hm⟩
        rcases Nat.lt_or_ge k l.length with hk' | hk'
        · obtain ⟨ua, hua⟩ : ∃ u, l[k]? = some u := ⟨_, List.getElem?_eq_getElem hk'⟩
          obtain ⟨ub, hub⟩ : ∃ u, m[k]? = some u := ⟨_, List.getElem?_eq_getElem (by omega)⟩
          repeat' (first
              | (with_reducible refine want_none ?_)
              | (with_reducible refine c_seq ?_)
              | (with_reducible refine c_region ?_)
              | (with_reducible refine c_block ?_)
              | (with_reducible refine aops_nil ?_)
              | (with_reducible refine k_normal ?_)
              | (with_reducible refine c_skip ?_)
              | (with_reducible refine c_exit ?_)
              | (with_reducible refine c_ret ?_)
              | (with_reducible refine k_ret ?_)
              | (with_reducible refine k_exit ?_)
              | (with_reducible refine kl_exit ?_)
              | (with_reducible refine kr_ret ?_)
              | (with_reducible refine kr_exit ?_)
              | (with_reducible refine kb_normal ?_)
              | (with_reducible refine kb_ret ?_)
              | (with_reducible refine kb_hit ?_)
              | (with_reducible refine q_nil ?_)
              | ((with_reducible apply q_one); exact rfl; exact rfl)
              | ((with_reducible refine c_regionQ ?_ ?_); (decide +kernel))
              | ((with_reducible apply q_call); exact rfl; (with_reducible apply acq); exact rfl; exact rfl; exact rfl; exact same_AC ua ub; exact rfl; (refine put_some rfl ?_))
              | ((with_reducible apply st_loadpelK); exact rfl; exact rfl; assumption; exact rfl; exact rfl)
              | ((with_reducible apply st_idx); exact rfl; exact rfl; exact rfl; exact rfl; exact rfl; omega)
              | ((with_reducible apply st_len RdT.ok); exact rfl; exact rfl; exact rfl; intro hlen)
              | ((with_reducible apply st_lennil RdT.ok); exact rfl; exact rfl; exact rfl)
              | ((with_reducible apply st_add); exact rfl; exact rfl; exact rfl; omega)
              | ((with_reducible apply st_q RdT.ok); exact rfl; exact rfl)
              | ((with_reducible apply c_condF); exact rfl)
              | ((with_reducible apply c_cond); exact rfl; (first | exact Bp.not Bp.dec | exact Bp.dec | exact Bp.not Bp.bool | exact Bp.bool); all_goals intro hc))
          all_goals try (exfalso; omega)
          · ((with_reducible apply r_one); exact rfl; exact .tmp rfl .nil; exact .s (.pv _); exact hS; refine ⟨rfl, _, rfl, ?_⟩)
            refine congrArg Rd.bool (decide_eq_false fun e => ?_).symm
            have := congrArg (fun q => q[k]?) e
            simp only [List.getElem?_map, hua, hub, Option.getD_some, Option.map_some, Option.some.injEq] at this
            exact hc this
          · have hq := Classical.not_not.1 hc
            (with_reducible refine k_back (k + 1) ?_ ?_ ?_ ?_ ?_ ?_)
            · refine ⟨by omega, fun i x hi hx => ?_⟩
              rcases Nat.lt_or_ge i k with h | h
              · exact hm i x h hx
              · have : i = k := by omega
                subst this
                rw [hua] at hx
                cases hx
                exact ⟨ub, hub, hq⟩
            · omega
            · exact ⟨rfl, rfl, rfl, trivial⟩
            · exact trivial
            · exact rfl
            · exact rfl
        · repeat' (first
              | (with_reducible refine want_none ?_)
              | (with_reducible refine c_seq ?_)
              | (with_reducible refine c_region ?_)
              | (with_reducible refine c_block ?_)
              | (with_reducible refine aops_nil ?_)
              | (with_reducible refine k_normal ?_)
              | (with_reducible refine c_skip ?_)
              | (with_reducible refine c_exit ?_)
              | (with_reducible refine c_ret ?_)
              | (with_reducible refine k_ret ?_)
              | (with_reducible refine k_exit ?_)
              | (with_reducible refine kl_exit ?_)
              | (with_reducible refine kr_ret ?_)
              | (with_reducible refine kr_exit ?_)
              | (with_reducible refine kb_normal ?_)
              | (with_reducible refine kb_ret ?_)
              | (with_reducible refine kb_hit ?_)
              | ((with_reducible apply st_loadpelK); exact rfl; exact rfl; assumption; exact rfl; exact rfl)
              | ((with_reducible apply st_idx); exact rfl; exact rfl; exact rfl; exact rfl; exact rfl; omega)
              | ((with_reducible apply st_len RdT.ok); exact rfl; exact rfl; exact rfl; intro hlen)
              | ((with_reducible apply st_lennil RdT.ok); exact rfl; exact rfl; exact rfl)
              | ((with_reducible apply st_add); exact rfl; exact rfl; exact rfl; omega)
              | ((with_reducible apply st_q RdT.ok); exact rfl; exact rfl)
              | ((with_reducible apply c_condF); exact rfl)
              | ((with_reducible apply c_cond); exact rfl; (first | exact Bp.not Bp.dec | exact Bp.dec | exact Bp.not Bp.bool | exact Bp.bool); all_goals intro hc))
          all_goals first
            | (exfalso; omega)
            | (((with_reducible apply r_one); exact rfl; exact .tmp rfl .nil; exact .s (.pv _); exact hS; refine ⟨rfl, _, rfl, ?_⟩)
               refine congrArg Rd.bool (decide_eq_true ?_).symm
               apply List.ext_getElem?
               intro i
               simp only [List.getElem?_map, Option.getD_some]
               cases hx : l[i]? with
               | none => rw [List.getElem?_eq_none_iff] at hx; rw [List.getElem?_eq_none (by omega)]
               | some x =>
                 obtain ⟨y, h1, h2⟩ := hm i x (by have := (List.getElem?_eq_some_iff.1 hx).1; omega) hx
                 rw [h1, Option.map_some, Option.map_some, h2])
end Go.Proofs.Ytfdaioinghfjpaa
namespace Go.Rd
open Go.RowKit Go.Proofs
variable {P : Program} {T : TypeId → Option TI} {L n : Nat} {tm : List (Nat × TV)} {S : Store} {own : List (Nat × AObj)} {ops rest : List Oper} {Q : ASt → Prop} {d : Tmp} {ty : TypeId} {pos : String} {af : Array Edge} {g : Option (Nat × Bool)}
end Go.Rd
namespace Go.Proofs.Ytfdaioinghfjpaa
open Go.Rd Go.RowKit
set_option maxRecDepth 20000
set_option linter.unusedSimpArgs false
set_option linter.unusedVariables false
set_option maxHeartbeats 8000000
structure Sz where
  n : Int
  no : Int
def encS (x : Sz) : List PV := [.lit (.int .i64 x.n), .lit (.int .i64 x.no)]
abbrev sA (x : Sz) : AV := .agg ((encS x).map .pv)
end Go.Proofs.Ytfdaioinghfjpaa
namespace Go.Proofs.Ytfdaioinghfjpaa
open Go.Rd Go.RowKit Go.ChangeShapes Go.WideShapes
theorem readsS : Reads Try.prog 48 2 encS fun _ => True := by
  refine ⟨by kernel_rfl, fun H enc w base held n cs y h => ?_⟩
  have hs : structOf Try.prog 48 = some [(0, 3), (1, 3)] := by kernel_rfl
  obtain ⟨n0, h0, w0⟩ := field_int hs h (i := 0) rfl (k := .i64) (by kernel_rfl) (by kernel_rfl)
  obtain ⟨n1, h1, w1⟩ := field_int hs h (i := 1) rfl (k := .i64) (by kernel_rfl) (by kernel_rfl)
  refine ⟨⟨n0, n1⟩, trivial, rfl, fun j x hj => ?_⟩
  match j, hj with
  | 0, hj => cases hj; exact ⟨_, h0, .lit _ rfl⟩
  | 1, hj => cases hj; exact ⟨_, h1, .lit _ rfl⟩
end Go.Proofs.Ytfdaioinghfjpaa
namespace Go.Rd
open Go.RowKit Go.Proofs
variable {P : Program} {T : TypeId → Option TI} {L n : Nat} {tm : List (Nat × TV)} {S : Store} {own : List (Nat × AObj)} {ops rest : List Oper} {Q : ASt → Prop} {d : Tmp} {ty : TypeId} {pos : String} {af : Array Edge} {g : Option (Nat × Bool)}
def fopF (op : BinOp) (k : FloatKind) (a b : Nat) : Option TV :=
  match op with
  | .eql => some (bool (k.format.order a b == some .eq))
  | .neq => some (bool (k.format.order a b != some .eq))
  | .lss => some (bool (k.format.order a b == some .lt))
  | .leq => some (bool (k.format.order a b == some .lt || k.format.order a b == some .eq))
  | .gtr => some (bool (k.format.order a b == some .gt))
  | .geq => some (bool (k.format.order a b == some .gt || k.format.order a b == some .eq))
  | op => match floatBits op k a b with
    | some r => some (lit (.float k r))
    | none => none
theorem fopF_ok {op : BinOp} {k : FloatKind} {a b : Nat} {v : TV} {K : TV → Prop} (h : fopF op k a b = some v) (hk : K v) : floatOp op k a b K := by
  unfold fopF at h
  unfold floatOp
  cases op <;> simp only [Option.some.injEq] at h ⊢
  all_goals first
    | (subst h; exact hk)
    | (split at h
       · rename_i r hr
         cases h
         exact ⟨r, hr, hk⟩
       · cases h)
theorem st_float {op : BinOp} {t t2 : TypeId} {x y : Operand} {k : FloatKind} {a b : Nat} {v : TV} (hx : evF tm x = some (lit (.float k a))) (hy : evF tm y = some (lit (.float k b))) (h : fopF op k a b = some v) (hd : Nat.blt d n = true)
    (hk : aops P T ops rest Q (St L n ((d, v) :: tm) S own)) : aop1 P T ops rest Q ⟨some d, .binOp op t x y t2, ty, pos, af, g⟩ (St L n tm S own) := by
  simp only [aop1, x1, evF_ok hx, evF_ok hy]
  left
  exact ⟨rfl, fopF_ok h (put_some hd hk)⟩
theorem st_toFloat {s t : TypeId} {x : Operand} {k : FloatKind} {ik : IntKind} {m : Int} (hx : evF tm x = some (lit (.int ik m))) (hd : Nat.blt d n = true) (hs : (P.underlying s).isSome = true) (ht : P.underlying t = some (.float k))
    (hk : aops P T ops rest Q (St L n ((d, lit (.float k (floatOfInt k m))) :: tm) S own)) : aop1 P T ops rest Q ⟨some d, .convert s t x, ty, pos, af, g⟩ (St L n tm S own) := by
  simp only [aop1, x1, evF_ok hx]
  exact ⟨hs, .inr ⟨k, ht, put_some hd hk⟩⟩
theorem st_ofFloat {s t : TypeId} {x : Operand} {k : FloatKind} {ik : IntKind} {b : Nat} {m : Int} (hx : evF tm x = some (lit (.float k b))) (hd : Nat.blt d n = true) (hv : floatToIntVal k b ik = some m) (hs : (P.underlying s).isSome = true) (ht : P.underlying t = some (.int ik))
    (hk : aops P T ops rest Q (St L n ((d, lit (.int ik m)) :: tm) S own)) : aop1 P T ops rest Q ⟨some d, .convert s t x, ty, pos, af, g⟩ (St L n tm S own) := by
  simp only [aop1, x1, evF_ok hx]
  exact ⟨hs, ik, m, ht, hv, put_some hd hk⟩
theorem st_slstr {t : TypeId} {ti : TI} {x : Operand} {lo hi : Option Operand} {s : ByteArray} {l h : Int} (hx : evF tm x = some (str s)) (ht : T t = some ti) (hs : ti.d = .str) (hl : boundF tm lo 0 = some l) (hh : boundF tm hi s.size = some h) (hb : 0 ≤ l ∧ l ≤ h ∧ h ≤ s.size) (hd : Nat.blt d n = true)
    (hk : aops P T ops rest Q (St L n ((d, str (s.extract l.toNat h.toNat)) :: tm) S own)) : aop1 P T ops rest Q ⟨some d, .slice t x lo hi none, ty, pos, af, g⟩ (St L n tm S own) := by
  simp only [aop1, x1]
  refine .inl ⟨rfl, ?_⟩
  rw [evF_ok hx]
  refine ⟨ti, ht, ?_⟩
  rw [hs]
  exact boundF_ok hl (boundF_ok hh ⟨hb.1, hb.2.1, hb.2.2, put_some hd hk⟩)
theorem st_strcat {t t2 : TypeId} {x y : Operand} {a b : ByteArray} (hx : evF tm x = some (str a)) (hy : evF tm y = some (str b)) (hd : Nat.blt d n = true) (hb : a.size + b.size ≤ maxLen)
    (hk : aops P T ops rest Q (St L n ((d, str (a ++ b)) :: tm) S own)) : aop1 P T ops rest Q ⟨some d, .binOp .add t x y t2, ty, pos, af, g⟩ (St L n tm S own) := by
  simp only [aop1, x1, evF_ok hx, evF_ok hy]
  left
  exact ⟨hb, put_some hd hk⟩
theorem st_lenstr {t : TypeId} {x : Operand} {s : ByteArray} (hx : evF tm x = some (str s)) (ht : P.underlying t = some .string) (hd : Nat.blt d n = true)
    (hk : aops P T ops rest Q (St L n ((d, int s.size) :: tm) S own)) : aop1 P T ops rest Q ⟨some d, .call ⟨.builtin .len, #[x], #[t]⟩, ty, pos, af, g⟩ (St L n tm S own) := by
  simp only [aop1, x1]
  show qLen P t ((St L n tm S own).ev x) (fun v => (St L n tm S own).put (some d) v (aops P T ops rest Q))
  rw [evF_ok hx]
  exact ⟨ht, put_some hd hk⟩
end Go.Rd
namespace Go.Proofs.Ytfdaioinghfjpaa
open Go.Rd Go.RowKit
set_option maxRecDepth 20000
set_option linter.unusedSimpArgs false
set_option linter.unusedVariables false
set_option maxHeartbeats 4000000
abbrev fl (b : Nat) : AV := .s (.pv (.lit (.float .f64 b)))
theorem none0_AC : ACv Try.prog 113 [fl 0] fun v => v = Rd.bool false := by
  intro L S hL
  refine fn_St (n := 6) (rs := [.tmp 2]) hands_val RdT.ok RdT.mixed Try.func113 rfl (by kernel_rfl) rfl rfl rfl hL ?_
  intro hS
  show awp _ _ _ _ _ (St L 6 [(0, .a (fl 0))] S [])
  repeat' (first
      | (with_reducible refine want_none ?_)
      | (with_reducible refine c_seq ?_)
      | (with_reducible refine c_region ?_)
      | (with_reducible refine aops_nil ?_)
      | (with_reducible refine k_normal ?_)
      | (with_reducible refine c_ret ?_)
      | ((with_reducible apply st_float); exact rfl; exact rfl; exact rfl; exact rfl)
      | ((with_reducible apply st_q RdT.ok); exact rfl; exact rfl))
  ((with_reducible apply r_one); exact rfl; exact .tmp rfl .nil; exact .s (.pv _); exact hS; refine ⟨rfl, _, rfl, ?_⟩)
  rfl
theorem minus0_AC : ACv Try.prog 114 [fl 0] fun v => v = Rd.bool false := by
  intro L S hL
  refine fn_St (n := 14) (rs := [.tmp 2]) hands_val RdT.ok RdT.mixed Try.func114 rfl (by kernel_rfl) rfl rfl rfl hL ?_
  intro hS
  show awp _ _ _ _ _ (St L 14 [(0, .a (fl 0))] S [])
  repeat' (first
      | (with_reducible refine want_none ?_)
      | (with_reducible refine c_seq ?_)
      | (with_reducible refine c_region ?_)
      | (with_reducible refine aops_nil ?_)
      | (with_reducible refine k_normal ?_)
      | (with_reducible refine c_ret ?_)
      | ((with_reducible apply want_run); exact rfl; exact rfl)
      | ((with_reducible apply st_float); exact rfl; exact rfl; exact rfl; exact rfl)
      | ((with_reducible apply st_q RdT.ok); exact rfl; exact rfl))
  ((with_reducible apply r_one); exact rfl; exact .tmp rfl .nil; exact .s (.pv _); exact hS; refine ⟨rfl, _, rfl, ?_⟩)
  exact congrArg Rd.bool (by decide +kernel)
theorem part_AC (a b : Int) (r : Nat) (h : floatBits .quo .f64 (floatOfInt .f64 a) (floatOfInt .f64 b) = some r) : ACv Try.prog 93 [.s (.pv (.lit (.int .i64 a))), .s (.pv (.lit (.int .i64 b)))] fun v => v = .a (fl r) := by
  intro L S hL
  refine fn_St (n := 10) (rs := [.tmp 4]) hands_val RdT.ok RdT.mixed Try.func93 rfl (by kernel_rfl) rfl rfl rfl hL ?_
  intro hS
  have h2 : fopF .quo .f64 (floatOfInt .f64 a) (floatOfInt .f64 b) = some (lit (.float .f64 r)) := by simp only [fopF, h]
  show awp _ _ _ _ _ (St L 10 [(0, int a), (1, int b)] S [])
  repeat' (first
      | (with_reducible refine want_none ?_)
      | (with_reducible refine c_seq ?_)
      | (with_reducible refine c_region ?_)
      | (with_reducible refine aops_nil ?_)
      | (with_reducible refine k_normal ?_)
      | (with_reducible refine c_ret ?_)
      | ((with_reducible apply st_float); exact rfl; exact rfl; exact h2; exact rfl)
      | ((with_reducible apply st_toFloat (k := .f64)); exact rfl; exact rfl; (kernel_rfl); (kernel_rfl))
      | ((with_reducible apply st_q RdT.ok); exact rfl; exact rfl))
  ((with_reducible apply r_one); exact rfl; exact .tmp rfl .nil; exact .s (.pv _); exact hS; refine ⟨rfl, _, rfl, ?_⟩)
  rfl
theorem digits0_AC : ACv Try.prog 115 [.s (.pv (.lit (.int .u64 0)))] fun v => v = Rd.str ⟨#[48]⟩ := by
  intro L S hL
  refine fn_St (n := 22) (rs := [.tmp 2]) hands_val RdT.ok RdT.mixed Try.func115 rfl (by kernel_rfl) rfl rfl rfl hL ?_
  intro hS
  show awp _ _ _ _ _ (St L 22 [(0, lit (.int .u64 0))] S [])
  repeat' (first
      | (with_reducible refine want_none ?_)
      | (with_reducible refine c_seq ?_)
      | (with_reducible refine c_region ?_)
      | (with_reducible refine c_block ?_)
      | (with_reducible refine aops_nil ?_)
      | (with_reducible refine k_normal ?_)
      | (with_reducible refine c_exit ?_)
      | (with_reducible refine c_ret ?_)
      | (with_reducible refine k_exit ?_)
      | (with_reducible refine kl_exit ?_)
      | (with_reducible refine kb_hit ?_)
      | ((with_reducible apply st_q RdT.ok); exact rfl; exact rfl)
      | ((with_reducible apply c_condF); exact rfl))
  refine c_loop0 ?_
  repeat' (first
      | (with_reducible refine want_none ?_)
      | (with_reducible refine c_seq ?_)
      | (with_reducible refine c_region ?_)
      | (with_reducible refine c_block ?_)
      | (with_reducible refine aops_nil ?_)
      | (with_reducible refine k_normal ?_)
      | (with_reducible refine c_exit ?_)
      | (with_reducible refine c_ret ?_)
      | (with_reducible refine k_exit ?_)
      | (with_reducible refine kl_exit ?_)
      | (with_reducible refine kb_hit ?_)
      | ((with_reducible apply st_slstr); exact rfl; exact rfl; exact rfl; exact rfl; exact rfl; (decide +kernel); exact rfl)
      | ((with_reducible apply st_strcat); exact rfl; exact rfl; exact rfl; (decide +kernel))
      | ((with_reducible apply st_q RdT.ok); exact rfl; exact rfl)
      | ((with_reducible apply c_condF); exact rfl))
  ((with_reducible apply r_one); exact rfl; exact .tmp rfl .nil; exact .s (.pv _); exact hS; refine ⟨rfl, _, rfl, ?_⟩)
  exact congrArg Rd.str (by decide +kernel)
theorem text0_AC : ACv Try.prog 83 [fl 0] fun v => v = Rd.str ⟨#[48, 46, 48, 48, 48]⟩ := by
  intro L S hL
  refine fn_St (n := 62) (rs := [.tmp 2]) hands_val RdT.ok RdT.mixed Try.func83 rfl (by kernel_rfl) rfl rfl rfl hL ?_
  intro hS
  have f1 : fopF .mul .f64 0 4652007308841189376 = some (lit (.float .f64 0)) := by simp only [fopF, show floatBits .mul .f64 0 4652007308841189376 = some 0 from by decide +kernel]
  have f2 : fopF .add .f64 0 4602678819172646912 = some (lit (.float .f64 4602678819172646912)) := by simp only [fopF, show floatBits .add .f64 0 4602678819172646912 = some 4602678819172646912 from by decide +kernel]
  have f3 : floatToIntVal .f64 4602678819172646912 .i64 = some 0 := by decide +kernel
  show awp _ _ _ _ _ (St L 62 [(0, .a (fl 0))] S [])
  repeat' (first
      | (with_reducible refine want_none ?_)
      | (with_reducible refine c_seq ?_)
      | (with_reducible refine c_region ?_)
      | ((with_reducible refine c_regionD ?_ ?_ ?_ ?_); (kernel_rfl); (exact rfl); (exact rfl))
      | (with_reducible refine c_block ?_)
      | (with_reducible refine aops_nil ?_)
      | (with_reducible refine k_normal ?_)
      | (with_reducible refine c_skip ?_)
      | (with_reducible refine c_exit ?_)
      | (with_reducible refine c_ret ?_)
      | (with_reducible refine k_exit ?_)
      | (with_reducible refine kr_exit ?_)
      | (with_reducible refine kb_normal ?_)
      | (with_reducible refine kb_hit ?_)
      | ((with_reducible apply want_run); exact rfl; exact rfl)
      | ((with_reducible apply st_float); exact rfl; exact rfl; exact f1; exact rfl)
      | ((with_reducible apply st_float); exact rfl; exact rfl; exact f2; exact rfl)
      | ((with_reducible apply st_callv); exact rfl; exact rfl; exact rfl; exact rfl; exact none0_AC; (rintro v rfl))
      | ((with_reducible apply st_callv); exact rfl; exact rfl; exact rfl; exact rfl; exact minus0_AC; (rintro v rfl))
      | ((with_reducible apply st_callv); exact rfl; exact rfl; exact rfl; exact rfl; exact digits0_AC; (rintro v rfl))
      | ((with_reducible apply st_slstr); exact rfl; exact rfl; exact rfl; exact rfl; exact rfl; (decide +kernel); exact rfl)
      | ((with_reducible apply st_strcat); exact rfl; exact rfl; exact rfl; (decide +kernel))
      | ((with_reducible apply st_lenstr); exact rfl; (kernel_rfl); exact rfl)
      | ((with_reducible apply st_float); exact rfl; exact rfl; exact rfl; exact rfl)
      | ((with_reducible apply st_toFloat (k := .f64) (t := 61)); exact rfl; exact rfl; (kernel_rfl); (kernel_rfl))
      | ((with_reducible apply st_ofFloat (ik := .i64)); exact rfl; exact rfl; exact f3; (kernel_rfl); (kernel_rfl))
      | ((with_reducible apply st_q RdT.ok); exact rfl; exact rfl)
      | ((with_reducible apply c_condT); exact rfl)
      | ((with_reducible apply c_condF); exact rfl))
  refine c_loop (β := Nat) (fun k => k ≤ 3) (fun k => 3 - k) (fun k => [(3, Rd.str ⟨#[]⟩), (6, Rd.str ⟨(List.replicate (k + 1) 48).toArray⟩)]) (fun _ => []) 0 (Nat.zero_le _) ⟨rfl, congrArg Rd.str (by decide +kernel), trivial⟩ trivial rfl rfl ?_
  intro k hk
  rcases (show k = 0 ∨ k = 1 ∨ k = 2 ∨ k = 3 by omega) with rfl | rfl | rfl | rfl
  all_goals
    repeat' (first
        | (with_reducible refine want_none ?_)
        | (with_reducible refine c_seq ?_)
        | (with_reducible refine c_region ?_)
        | ((with_reducible refine c_regionD ?_ ?_ ?_ ?_); (kernel_rfl); (exact rfl); (exact rfl))
        | (with_reducible refine c_block ?_)
        | (with_reducible refine aops_nil ?_)
        | (with_reducible refine k_normal ?_)
        | (with_reducible refine c_skip ?_)
        | (with_reducible refine c_exit ?_)
        | (with_reducible refine c_ret ?_)
        | (with_reducible refine k_exit ?_)
        | (with_reducible refine kr_exit ?_)
        | (with_reducible refine kb_normal ?_)
        | (with_reducible refine kb_hit ?_)
        | ((with_reducible apply want_run); exact rfl; exact rfl)
        | ((with_reducible apply st_slstr); exact rfl; exact rfl; exact rfl; exact rfl; exact rfl; (decide +kernel); exact rfl)
        | ((with_reducible apply st_strcat); exact rfl; exact rfl; exact rfl; (decide +kernel))
        | ((with_reducible apply st_lenstr); exact rfl; (kernel_rfl); exact rfl)
        | ((with_reducible apply st_float); exact rfl; exact rfl; exact rfl; exact rfl)
        | ((with_reducible apply st_toFloat (k := .f64) (t := 61)); exact rfl; exact rfl; (kernel_rfl); (kernel_rfl))
        | ((with_reducible apply st_ofFloat (ik := .i64)); exact rfl; exact rfl; exact f3; (kernel_rfl); (kernel_rfl))
        | ((with_reducible apply st_q RdT.ok); exact rfl; exact rfl)
        | ((with_reducible apply c_condT); exact rfl)
        | ((with_reducible apply c_condF); exact rfl))
  · skip
    (with_reducible refine k_back 1 ?_ ?_ ?_ ?_ ?_ ?_)
    · decide
    · decide
    · exact ⟨rfl, congrArg Rd.str (by decide +kernel), trivial⟩
    · exact trivial
    · exact rfl
    · exact rfl
  · skip
    (with_reducible refine k_back 2 ?_ ?_ ?_ ?_ ?_ ?_)
    · decide
    · decide
    · exact ⟨rfl, congrArg Rd.str (by decide +kernel), trivial⟩
    · exact trivial
    · exact rfl
    · exact rfl
  · skip
    (with_reducible refine k_back 3 ?_ ?_ ?_ ?_ ?_ ?_)
    · decide
    · decide
    · exact ⟨rfl, congrArg Rd.str (by decide +kernel), trivial⟩
    · exact trivial
    · exact rfl
    · exact rfl
  · ((with_reducible apply r_one); exact rfl; exact .tmp rfl .nil; exact .s (.pv _); exact hS; refine ⟨rfl, _, rfl, ?_⟩)
    exact congrArg Rd.str (by decide +kernel)
end Go.Proofs.Ytfdaioinghfjpaa
namespace Go.Proofs.Ytfdaioinghfjpaa
open Go.Rd Go.RowKit
set_option maxRecDepth 20000
set_option linter.unusedSimpArgs false
theorem refFirst_AC (bs : List Bool) (n : Int) : ACv Try.prog 79 [bA (some bs), .s (.pv (.lit (.int .i64 n)))] fun v => v = Rd.int (firstOf n (runs1 0 0 bs)) := by
  intro L S hL
  refine fn_St (n := 17) (rs := [.tmp 4]) hands_val RdT.ok RdT.mixed Try.func79 rfl (by kernel_rfl) rfl rfl rfl (by omega) ?_
  intro hS
  show awp _ _ _ _ _ (St L 17 [(0, row 1 (bs.map encB)), (1, int n)] S [])
  repeat' (first
      | (with_reducible refine want_none ?_)
      | (with_reducible refine c_seq ?_)
      | (with_reducible refine c_region ?_)
      | (with_reducible refine c_block ?_)
      | (with_reducible refine aops_nil ?_)
      | (with_reducible refine k_normal ?_)
      | (with_reducible refine c_skip ?_)
      | (with_reducible refine c_exit ?_)
      | (with_reducible refine c_ret ?_)
      | (with_reducible refine k_ret ?_)
      | (with_reducible refine k_exit ?_)
      | (with_reducible refine kr_ret ?_)
      | (with_reducible refine kr_exit ?_)
      | (with_reducible refine kb_normal ?_)
      | (with_reducible refine kb_ret ?_)
      | (with_reducible refine kb_hit ?_)
      | ((with_reducible apply st_len RdT.ok); exact rfl; exact rfl; exact rfl; intro hlen)
      | ((with_reducible apply st_add); exact rfl; exact rfl; exact rfl; omega)
      | ((with_reducible apply st_q RdT.ok); exact rfl; exact rfl)
      | ((with_reducible apply c_cond); exact rfl; (first | exact Bp.not Bp.dec | exact Bp.dec | exact Bp.not Bp.bool | exact Bp.bool); all_goals intro hc))
  refine c_loop (β := Nat) (fun k => k ≤ bs.length ∧ ∀ a : Nat, a < k → fits bs a n = false) (fun k => bs.length - k) (fun k => [(0, row 1 (bs.map encB)), (1, int n), (5, int k)]) (fun _ => []) 0 ⟨Nat.zero_le _, fun _ h => absurd h (by omega)⟩ ⟨rfl, rfl, rfl, trivial⟩ trivial rfl rfl ?_
  rintro k ⟨hk, hm⟩
  repeat' (first
      | (with_reducible refine want_none ?_)
      | (with_reducible refine c_seq ?_)
      | (with_reducible refine c_region ?_)
      | (with_reducible refine c_block ?_)
      | (with_reducible refine aops_nil ?_)
      | (with_reducible refine k_normal ?_)
      | (with_reducible refine c_skip ?_)
      | (with_reducible refine c_exit ?_)
      | (with_reducible refine c_ret ?_)
      | (with_reducible refine k_ret ?_)
      | (with_reducible refine k_exit ?_)
      | (with_reducible refine kr_ret ?_)
      | (with_reducible refine kr_exit ?_)
      | (with_reducible refine kb_normal ?_)
      | (with_reducible refine kb_ret ?_)
      | (with_reducible refine kb_hit ?_)
      | ((with_reducible apply st_callv); exact rfl; exact rfl; exact rfl; exact rfl; exact fits_AC bs k n; (rintro v rfl))
      | ((with_reducible apply st_len RdT.ok); exact rfl; exact rfl; exact rfl; intro hlen)
      | ((with_reducible apply st_add); exact rfl; exact rfl; exact rfl; omega)
      | ((with_reducible apply st_q RdT.ok); exact rfl; exact rfl)
      | ((with_reducible apply c_cond); exact rfl; (first | exact Bp.not Bp.dec | exact Bp.dec | exact Bp.not Bp.bool | exact Bp.bool); all_goals intro hc))
  · ((with_reducible apply r_one); exact rfl; exact .tmp rfl .nil; exact .s (.pv _); exact hS; refine ⟨rfl, _, rfl, ?_⟩)
    exact congrArg Rd.int (FF_unique (.inr ⟨k, Nat.zero_le _, rfl, hc, fun b _ hb => hm b hb⟩) (firstOf_FF bs n))
  · ((with_reducible refine k_back (k + 1) ?_ ?_ ?_ ?_ ?_ ?_); rotate_left; rotate_left; exact (by repeat' (first
                                                                                                       | exact trivial
                                                                                                       | (refine And.intro rfl ?_))); exact (by repeat' (first
                                                                                                                                                                               | exact trivial
                                                                                                                                                                               | (refine And.intro rfl ?_))); exact rfl; exact rfl)
    · refine ⟨by omega, fun a ha => ?_⟩
      rcases Nat.lt_or_ge a k with h | h
      · exact hm a h
      · rw [show a = k by omega]; exact Bool.eq_false_iff.2 hc
    · omega
  · ((with_reducible apply r_one); exact rfl; exact .tmp rfl .nil; exact .s (.pv _); exact hS; refine ⟨rfl, _, rfl, ?_⟩)
    refine congrArg Rd.int (FF_unique (.inl ⟨rfl, fun a _ => ?_⟩) (firstOf_FF bs n))
    rcases Nat.lt_or_ge a k with h | h
    · exact hm a h
    · rw [Bool.eq_false_iff]
      intro hf
      have := (fits_iff _ _ _).1 hf
      omega
theorem long_le (bs : List Bool) : longF 0 (runs1 0 0 bs) ≤ bs.length := by
  by_cases h : 1 ≤ longF 0 (runs1 0 0 bs)
  · have := first_fits ((first_long bs _).2 ⟨h, Int.le_refl _⟩)
    have := (fits_iff _ _ _).1 this
    omega
  · omega
theorem refLongest_AC (bs : List Bool) (hsz : bs.length < 9223372036854775807) : ACv Try.prog 38 [bA (some bs)] fun v => v = Rd.int (longF 0 (runs1 0 0 bs)) := by
  intro L S hL
  refine fn_St (n := 12) (rs := [.tmp 2]) hands_val RdT.ok RdT.mixed Try.func38 rfl (by kernel_rfl) rfl rfl rfl (by omega) ?_
  intro hS
  have hle := long_le bs
  have h0 := long_nonneg bs
  show awp _ _ _ _ _ (St L 12 [(0, row 1 (bs.map encB))] S [])
  repeat' (first
      | (with_reducible refine want_none ?_)
      | (with_reducible refine c_seq ?_)
      | (with_reducible refine c_region ?_)
      | (with_reducible refine c_block ?_)
      | (with_reducible refine aops_nil ?_)
      | (with_reducible refine k_normal ?_)
      | (with_reducible refine c_skip ?_)
      | (with_reducible refine c_exit ?_)
      | (with_reducible refine c_ret ?_)
      | (with_reducible refine k_exit ?_)
      | (with_reducible refine kr_exit ?_)
      | (with_reducible refine kb_normal ?_)
      | (with_reducible refine kb_hit ?_)
      | ((with_reducible apply st_add); exact rfl; exact rfl; exact rfl; omega)
      | ((with_reducible apply st_q RdT.ok); exact rfl; exact rfl)
      | ((with_reducible apply c_cond); exact rfl; (first | exact Bp.not Bp.dec | exact Bp.dec | exact Bp.not Bp.bool | exact Bp.bool); all_goals intro hc))
  refine c_loop (β := Nat) (fun k => (k : Int) ≤ longF 0 (runs1 0 0 bs)) (fun k => (longF 0 (runs1 0 0 bs)).toNat - k) (fun k => [(0, row 1 (bs.map encB)), (3, int k)]) (fun _ => []) 0 h0 ⟨rfl, rfl, trivial⟩ trivial rfl rfl ?_
  intro k hk
  repeat' (first
      | (with_reducible refine want_none ?_)
      | (with_reducible refine c_seq ?_)
      | (with_reducible refine c_region ?_)
      | (with_reducible refine c_block ?_)
      | (with_reducible refine aops_nil ?_)
      | (with_reducible refine k_normal ?_)
      | (with_reducible refine c_skip ?_)
      | (with_reducible refine c_exit ?_)
      | (with_reducible refine c_ret ?_)
      | (with_reducible refine k_exit ?_)
      | (with_reducible refine kr_exit ?_)
      | (with_reducible refine kb_normal ?_)
      | (with_reducible refine kb_hit ?_)
      | ((with_reducible apply st_callv); exact rfl; exact rfl; exact rfl; exact rfl; exact refFirst_AC bs (k + 1); (rintro v rfl))
      | ((with_reducible apply st_add); exact rfl; exact rfl; exact rfl; omega)
      | ((with_reducible apply st_q RdT.ok); exact rfl; exact rfl)
      | ((with_reducible apply c_cond); exact rfl; (first | exact Bp.not Bp.dec | exact Bp.dec | exact Bp.not Bp.bool | exact Bp.bool); all_goals intro hc))
  all_goals
    have hl := first_long bs (k + 1)
  · have h1 := (hl.1 hc).2
    ((with_reducible refine k_back (k + 1) ?_ ?_ ?_ ?_ ?_ ?_); rotate_left; rotate_left; exact (by repeat' (first
                                                                                                       | exact trivial
                                                                                                       | (refine And.intro rfl ?_))); exact (by repeat' (first
                                                                                                                                                                               | exact trivial
                                                                                                                                                                               | (refine And.intro rfl ?_))); exact rfl; exact rfl)
    · show ((k + 1 : Nat) : Int) ≤ _; omega
    · omega
  · ((with_reducible apply r_one); exact rfl; exact .tmp rfl .nil; exact .s (.pv _); exact hS; refine ⟨rfl, _, rfl, ?_⟩)
    have : ¬ ((k : Int) + 1 ≤ longF 0 (runs1 0 0 bs)) := fun h => hc (hl.2 ⟨by omega, h⟩)
    exact congrArg Rd.int (by omega)
end Go.Proofs.Ytfdaioinghfjpaa
namespace Go.Rd
open Go.RowKit Go.Proofs
variable {P : Program} {T : TypeId → Option TI} {L n : Nat} {tm : List (Nat × TV)} {S : Store} {own : List (Nat × AObj)} {ops rest : List Oper} {Q : ASt → Prop} {d : Tmp} {ty : TypeId} {pos : String} {af : Array Edge} {g : Option (Nat × Bool)}
theorem st_streq {t t2 : TypeId} {x y : Operand} {a b : ByteArray} (hx : evF tm x = some (str a)) (hy : evF tm y = some (str b)) (hd : Nat.blt d n = true)
    (hk : aops P T ops rest Q (St L n ((d, bool (a.toList == b.toList)) :: tm) S own)) : aop1 P T ops rest Q ⟨some d, .binOp .eql t x y t2, ty, pos, af, g⟩ (St L n tm S own) := by
  simp only [aop1, x1, evF_ok hx, evF_ok hy]
  left
  exact put_some hd hk
end Go.Rd
namespace Go.Proofs.Ytfdaioinghfjpaa
open Go.Rd Go.RowKit
set_option maxRecDepth 20000
set_option linter.unusedSimpArgs false
set_option linter.unusedVariables false
set_option maxHeartbeats 4000000
theorem orNil_some {α : Type} {l : List α} (h : 1 ≤ l.length) : orNil l = some l := by
  cases l with
  | nil => simp at h
  | cons u r => rfl
def lng (t : Tb) : Nat := (longF 0 (runs1 0 0 (bitsOf t))).toNat
theorem lng_le (t : Tb) : lng t ≤ 16 := by
  have h := long_le (bitsOf t)
  rw [bitsOf_len] at h
  unfold lng
  omega
theorem broken_AC (l : List Tb) (hmay : mayC (some l) = true) (p r : Nat) (h1 : floatBits .quo .f64 (floatOfInt .f64 (sumOf lng l)) (floatOfInt .f64 (sumOf fr l)) = some p) (h2 : floatBits .sub .f64 4607182418800017408 p = some r) :
    ACv Try.prog 48 [cA (some l)] fun v => v = .a (fl r) := by
  intro L S hL
  refine fn_St (n := 30) (rs := [.tmp 2]) hands_val RdT.ok RdT.mixed Try.func48 rfl (by kernel_rfl) rfl rfl rfl hL ?_
  intro hS
  have hln := mayC_len hmay
  have hme := mayC_mem hmay
  simp only [Option.getD_some] at hln hme
  have ho : orNil (l.map used) = some (l.map used) := orNil_some (by rw [List.length_map]; exact hln.1)
  have h3 : fopF .sub .f64 4607182418800017408 p = some (lit (.float .f64 r)) := by simp only [fopF, h2]
  have hlm : (l.map used).length = l.length := List.length_map _
  show awp _ _ _ _ _ (St L 30 [(0, row 1 (l.map encC))] S [])
  repeat' (first
      | (with_reducible refine want_none ?_)
      | (with_reducible refine c_seq ?_)
      | (with_reducible refine c_region ?_)
      | (with_reducible refine c_block ?_)
      | (with_reducible refine aops_nil ?_)
      | (with_reducible refine k_normal ?_)
      | (with_reducible refine c_skip ?_)
      | (with_reducible refine c_exit ?_)
      | (with_reducible refine c_ret ?_)
      | (with_reducible refine k_exit ?_)
      | (with_reducible refine kr_exit ?_)
      | (with_reducible refine kb_normal ?_)
      | (with_reducible refine kb_hit ?_)
      | ((with_reducible apply st_callv); exact rfl; exact rfl; exact rfl; exact rfl; exact mayC_AC (some l); (rintro v rfl); rw [hmay])
      | ((with_reducible apply st_callv); exact rfl; exact rfl; exact rfl; exact rfl; exact eachB_AC 28 used used_AC l hln.2; (rintro v rfl); rw [ho])
      | ((with_reducible apply st_loadpelK); exact rfl; exact rfl; assumption; exact rfl; exact rfl)
      | ((with_reducible apply st_loadpel); exact rfl; exact rfl; omega; exact rfl; (intro u hu; refine ⟨_, rfl, ?_⟩; try simp only [Int.toNat_natCast] at hu))
      | ((with_reducible apply st_idx); exact rfl; exact rfl; exact rfl; exact rfl; exact rfl; omega)
      | ((with_reducible apply st_len RdT.ok); exact rfl; exact rfl; exact rfl; intro hlen)
      | ((with_reducible apply st_add); exact rfl; exact rfl; exact rfl; omega)
      | ((with_reducible apply st_q RdT.ok); exact rfl; exact rfl)
      | ((with_reducible apply c_condF); exact rfl)
      | ((with_reducible apply c_cond); exact rfl; (first | exact Bp.not Bp.dec | exact Bp.dec | exact Bp.not Bp.bool | exact Bp.bool); all_goals intro hc))
  refine c_loop (β := Nat) (fun k => k ≤ l.length) (fun k => l.length - k) (fun k => [(3, int (sumOf lng (l.take k))), (4, int (sumOf fr (l.take k))), (11, row 1 ((l.map used).map encD)), (12, int (l.map used).length), (13, int k)]) (fun _ => []) 0 (Nat.zero_le _) ⟨rfl, rfl, rfl, rfl, rfl, trivial⟩ trivial rfl rfl ?_
  intro k hk
  have b1 := sumOf_le fr 16 fr_le (l.take k)
  have b2 := sumOf_le lng 16 lng_le (l.take k)
  rw [List.length_take] at b1 b2
  rcases Nat.lt_or_ge k l.length with hk' | hk'
  · obtain ⟨t, ht⟩ : ∃ t, l[k]? = some t := ⟨_, List.getElem?_eq_getElem hk'⟩
    have hu' : (l.map used)[k]? = some (some (bitsOf t)) := by
      rw [List.getElem?_map, ht]
      exact congrArg some (used_some (hme t (List.mem_of_getElem? ht)))
    have f1 := fr_le t
    have f2 := lng_le t
    have f3 : longF 0 (runs1 0 0 (bitsOf t)) = (lng t : Int) := (Int.toNat_of_nonneg (long_nonneg _)).symm
    repeat' (first
        | (with_reducible refine want_none ?_)
        | (with_reducible refine c_seq ?_)
        | (with_reducible refine c_region ?_)
        | (with_reducible refine c_block ?_)
        | (with_reducible refine aops_nil ?_)
        | (with_reducible refine k_normal ?_)
        | (with_reducible refine c_skip ?_)
        | (with_reducible refine c_exit ?_)
        | (with_reducible refine c_ret ?_)
        | (with_reducible refine k_exit ?_)
        | (with_reducible refine kr_exit ?_)
        | (with_reducible refine kb_normal ?_)
        | (with_reducible refine kb_hit ?_)
        | ((with_reducible apply st_callv); exact rfl; exact rfl; exact rfl; exact rfl; exact longest_AC (bitsOf t) (bitsOf_sz _) (bitsOf_ne _); (rintro v rfl); rw [f3])
        | ((with_reducible apply st_callv); exact rfl; exact rfl; exact rfl; exact rfl; exact runsFree_AC (bitsOf t) (bitsOf_sz _) (bitsOf_ne _); (rintro v rfl); rw [show free (bitsOf t) = fr t from rfl])
        | ((with_reducible apply st_loadpelK); exact rfl; exact rfl; assumption; exact rfl; exact rfl)
        | ((with_reducible apply st_loadpel); exact rfl; exact rfl; omega; exact rfl; (intro u hu; refine ⟨_, rfl, ?_⟩; try simp only [Int.toNat_natCast] at hu))
        | ((with_reducible apply st_idx); exact rfl; exact rfl; exact rfl; exact rfl; exact rfl; omega)
        | ((with_reducible apply st_len RdT.ok); exact rfl; exact rfl; exact rfl; intro hlen)
        | ((with_reducible apply st_add); exact rfl; exact rfl; exact rfl; omega)
        | ((with_reducible apply st_q RdT.ok); exact rfl; exact rfl)
        | ((with_reducible apply c_condF); exact rfl)
        | ((with_reducible apply c_cond); exact rfl; (first | exact Bp.not Bp.dec | exact Bp.dec | exact Bp.not Bp.bool | exact Bp.bool); all_goals intro hc))
    all_goals try (exfalso; omega)
    (with_reducible refine k_back (k + 1) ?_ ?_ ?_ ?_ ?_ ?_)
    · omega
    · omega
    · refine ⟨?_, ?_, rfl, rfl, rfl, trivial⟩
      · rw [sumOf_take lng ht]
        exact (show Rd.int ((sumOf lng (l.take k) : Int) + (lng t : Int)) = _ from congrArg Rd.int (by omega))
      · rw [sumOf_take fr ht]
        exact (show Rd.int ((sumOf fr (l.take k) : Int) + (fr t : Int)) = _ from congrArg Rd.int (by omega))
    · exact trivial
    · exact rfl
    · exact rfl
  · have e1 : l.take k = l := List.take_of_length_le hk'
    rw [e1]
    repeat' (first
        | (with_reducible refine want_none ?_)
        | (with_reducible refine c_seq ?_)
        | (with_reducible refine c_region ?_)
        | (with_reducible refine c_block ?_)
        | (with_reducible refine aops_nil ?_)
        | (with_reducible refine k_normal ?_)
        | (with_reducible refine c_skip ?_)
        | (with_reducible refine c_exit ?_)
        | (with_reducible refine c_ret ?_)
        | (with_reducible refine k_exit ?_)
        | (with_reducible refine kr_exit ?_)
        | (with_reducible refine kb_normal ?_)
        | (with_reducible refine kb_hit ?_)
        | ((with_reducible apply st_callv); exact rfl; exact rfl; exact rfl; exact rfl; exact part_AC (sumOf lng l) (sumOf fr l) p h1; (rintro v rfl))
        | ((with_reducible apply st_float); exact rfl; exact rfl; exact h3; exact rfl)
        | ((with_reducible apply st_loadpelK); exact rfl; exact rfl; assumption; exact rfl; exact rfl)
        | ((with_reducible apply st_loadpel); exact rfl; exact rfl; omega; exact rfl; (intro u hu; refine ⟨_, rfl, ?_⟩; try simp only [Int.toNat_natCast] at hu))
        | ((with_reducible apply st_idx); exact rfl; exact rfl; exact rfl; exact rfl; exact rfl; omega)
        | ((with_reducible apply st_len RdT.ok); exact rfl; exact rfl; exact rfl; intro hlen)
        | ((with_reducible apply st_add); exact rfl; exact rfl; exact rfl; omega)
        | ((with_reducible apply st_q RdT.ok); exact rfl; exact rfl)
        | ((with_reducible apply c_condF); exact rfl)
        | ((with_reducible apply c_cond); exact rfl; (first | exact Bp.not Bp.dec | exact Bp.dec | exact Bp.not Bp.bool | exact Bp.bool); all_goals intro hc))
    all_goals try (exfalso; omega)
    ((with_reducible apply r_one); exact rfl; exact .tmp rfl .nil; exact .s (.pv _); exact hS; refine ⟨rfl, _, rfl, ?_⟩)
    rfl
end Go.Proofs.Ytfdaioinghfjpaa
namespace Go.Proofs.Ytfdaioinghfjpaa
open Go.Rd Go.RowKit
set_option maxRecDepth 20000
set_option linter.unusedSimpArgs false
set_option linter.unusedVariables false
set_option maxHeartbeats 4000000
def fx1 : Rf := ⟨1, 0, 70, true⟩
def fx2 : Rf := ⟨1, 0, 30, true⟩
theorem fixed17_AC : ACv Try.prog 39 [] fun v => v = Rd.bool true := by
  intro L S hL
  refine fn_St (n := 109) (rs := [.tmp 0]) hands_val RdT.ok RdT.mixed Try.func39 rfl (by kernel_rfl) rfl rfl rfl (by omega) ?_
  intro hS
  have h1 : takeC (some [none, none]) 3 0 = some ([none, some [⟨0, 3, 1, false⟩]], 1, 0) := by decide +kernel
  obtain ⟨e, u2, h2, he, hel, hu2, hu0⟩ : ∃ (e : List Tb) (u2 : List U), turnC (some [none, some [⟨0, 3, 1, false⟩]]) fx1 1 = some e ∧ e[1]? = some (some u2) ∧ e.length = 2 ∧ u2.length = 1 ∧ u2[0]? = some ⟨0, 3, 2, false⟩ :=
    ⟨[none, some [⟨0, 3, 2, false⟩]], [⟨0, 3, 2, false⟩], by decide +kernel, rfl, rfl, rfl, rfl⟩
  have h3 : turnC (some [none, some [⟨0, 3, 1, false⟩]]) fx1 (-1) = some [none, some []] := by decide +kernel
  have h4 : turnC (some [none, some [⟨0, 3, 1, false⟩]]) fx2 (-1) = none := by decide +kernel
  have h5 : freeC (some [none, some [⟨0, 3, 1, false⟩]]) = (29, 1) := by decide +kernel
  have h6 : sameC (some [none, some []]) (some [none, none]) = true := by decide +kernel
  have h7 : mayC (some [none, none]) = true := by decide +kernel
  have h8 : mayC none = false := by decide +kernel
  have hB := broken_AC [none, none] h7 4607182418800017408 0 (by decide +kernel) (by decide +kernel)
  show awp _ _ _ _ _ (St L 109 [] S [])
  repeat' (first
      | (with_reducible refine want_none ?_)
      | (with_reducible refine c_seq ?_)
      | (with_reducible refine c_region ?_)
      | (with_reducible refine aops_nil ?_)
      | (with_reducible refine k_normal ?_)
      | (with_reducible refine c_ret ?_)
      | ((with_reducible apply want_run); exact rfl; exact rfl)
      | ((with_reducible apply want_skip); exact rfl; exact rfl; exact rfl)
      | ((with_reducible apply want_forkT); exact rfl; exact rfl; exact rfl; (first | exact Bp.not Bp.dec | exact Bp.dec | exact Bp.not Bp.bool | exact Bp.bool); all_goals intro hc)
      | ((with_reducible apply st_buildsliceP); exact rfl; exact rfl; exact rfl; exact rfl; exact rfl; exact rfl; exact rfl; exact rfl)
      | ((with_reducible apply st_callv); exact rfl; exact rfl; exact rfl; exact rfl; exact takeC_AC (some [none, none]) 3 0; (rintro v rfl); rw [h1])
      | ((with_reducible apply st_callv); exact rfl; exact rfl; exact rfl; exact rfl; exact incC_AC (some [none, some [⟨0, 3, 1, false⟩]]) fx1; (rintro v rfl); rw [turnCV_eq, h2])
      | ((with_reducible apply st_callv); exact rfl; exact rfl; exact rfl; exact rfl; exact decC_AC (some [none, some [⟨0, 3, 1, false⟩]]) fx1; (rintro v rfl); rw [turnCV_eq, h3])
      | ((with_reducible apply st_callv); exact rfl; exact rfl; exact rfl; exact rfl; exact decC_AC (some [none, some [⟨0, 3, 1, false⟩]]) fx2; (rintro v rfl); rw [turnCV_eq, h4])
      | ((with_reducible apply st_callv); exact rfl; exact rfl; exact rfl; exact rfl; exact freeC_AC (some [none, some [⟨0, 3, 1, false⟩]]); (rintro v rfl); rw [h5])
      | ((with_reducible apply st_callv); exact rfl; exact rfl; exact rfl; exact rfl; exact sameC_AC (some [none, some []]) (some [none, none]); (rintro v rfl); rw [h6])
      | ((with_reducible apply st_callv); exact rfl; exact rfl; exact rfl; exact rfl; exact hB; (rintro v rfl))
      | ((with_reducible apply st_callv); exact rfl; exact rfl; exact rfl; exact rfl; exact text0_AC; (rintro v rfl))
      | ((with_reducible apply st_callv); exact rfl; exact rfl; exact rfl; exact rfl; exact mayC_AC (some [none, none]); (rintro v rfl); rw [h7])
      | ((with_reducible apply st_callv); exact rfl; exact rfl; exact rfl; exact rfl; exact mayC_AC none; (rintro v rfl); rw [h8])
      | ((with_reducible apply st_streq); exact rfl; exact rfl; exact rfl)
      | ((with_reducible apply st_alloc); exact rfl; exact rfl; exact rfl; exact rfl)
      | ((with_reducible apply st_loadpelK); exact rfl; exact rfl; assumption; exact rfl; exact rfl)
      | ((with_reducible apply st_load); exact rfl; exact rfl; exact rfl; exact rfl; exact rfl)
      | ((with_reducible apply st_store); exact rfl; exact rfl; exact rfl; exact rfl; exact rfl; exact rfl)
      | ((with_reducible apply st_idx); exact rfl; exact rfl; exact rfl; exact rfl; exact rfl; omega)
      | ((with_reducible apply st_len RdT.ok); exact rfl; exact rfl; exact rfl; intro hlen)
      | ((with_reducible apply st_q RdT.ok); exact rfl; exact rfl))
  all_goals first
    | (exfalso; omega)
    | (((with_reducible apply r_one); exact rfl; exact .tmp rfl .nil; exact .s (.pv _); exact hS; refine ⟨rfl, _, rfl, ?_⟩); rfl)
    | exact absurd (by decide +kernel) hc
end Go.Proofs.Ytfdaioinghfjpaa
namespace Go.Proofs.Ytfdaioinghfjpaa
open Go.Rd Go.RowKit
set_option maxRecDepth 20000
set_option linter.unusedSimpArgs false
set_option linter.unusedVariables false
set_option maxHeartbeats 4000000
theorem covers_eq (s : Nat) (u : U) (h : 0 ≤ u.pos) : covers s u = (decide (u.pos ≤ (s : Int)) && decide ((s : Int) < u.pos + u.len)) := by
  unfold covers
  rw [Bool.decide_and]
theorem any_take {l : List U} {k : Nat} {u : U} (p : U → Bool) (h : l[k]? = some u) : (l.take (k + 1)).any p = ((l.take k).any p || p u) := by
  obtain ⟨h1, h2⟩ := List.getElem?_eq_some_iff.1 h
  rw [List.take_succ_eq_append_getElem h1, List.any_append, h2]
  simp
theorem refUsed_AC (o : Option (List U)) : ACv Try.prog 29 [uA o] (fun v => v = .a (bA (used o))) := by
  intro L S hL
  refine fn_St (n := 51) (rs := [.tmp 2]) hands_val RdT.ok RdT.mixed Try.func29 rfl (by kernel_rfl) rfl rfl rfl hL ?_
  intro hS
  cases hmay : may o with
  | false =>
    cases o with
    | none => cases hmay
    | some l =>
      show awp _ _ _ _ _ (St L 51 [(0, row 4 (l.map encU))] S [])
      repeat' (first
          | (with_reducible refine want_none ?_)
          | (with_reducible refine c_seq ?_)
          | (with_reducible refine c_region ?_)
          | ((with_reducible refine c_regionD ?_ ?_ ?_ ?_); (kernel_rfl); (exact rfl); (exact rfl))
          | (with_reducible refine c_block ?_)
          | (with_reducible refine aops_nil ?_)
          | (with_reducible refine k_normal ?_)
          | (with_reducible refine c_skip ?_)
          | (with_reducible refine c_exit ?_)
          | (with_reducible refine c_ret ?_)
          | (with_reducible refine k_ret ?_)
          | (with_reducible refine k_exit ?_)
          | (with_reducible refine kl_exit ?_)
          | (with_reducible refine kr_exit ?_)
          | (with_reducible refine kb_normal ?_)
          | (with_reducible refine kb_hit ?_)
          | ((with_reducible apply want_run); exact rfl; exact rfl)
          | ((with_reducible apply want_skip); exact rfl; exact rfl; exact rfl)
          | ((with_reducible apply want_out); exact rfl; exact rfl; exact rfl)
          | ((with_reducible apply want_forkF); exact rfl; exact rfl; exact rfl; (first | exact Bp.not Bp.dec | exact Bp.dec | exact Bp.not Bp.bool | exact Bp.bool); all_goals intro hc)
          | ((with_reducible apply want_forkT); exact rfl; exact rfl; exact rfl; (first | exact Bp.not Bp.dec | exact Bp.dec | exact Bp.not Bp.bool | exact Bp.bool); all_goals intro hc)
          | ((with_reducible apply st_callv); exact rfl; exact rfl; exact rfl; exact rfl; exact refMay_AC (some l); (rintro v rfl); rw [hmay])
          | ((with_reducible apply st_loadpelK); exact rfl; exact rfl; assumption; exact rfl; exact rfl)
          | ((with_reducible apply st_loadpel); exact rfl; exact rfl; omega; exact rfl; (intro u hu; refine ⟨_, rfl, ?_⟩; try simp only [Int.toNat_natCast] at hu))
          | ((with_reducible apply st_idx); exact rfl; exact rfl; exact rfl; exact rfl; exact rfl; omega)
          | ((with_reducible apply st_len RdT.ok); exact rfl; exact rfl; exact rfl; intro hlen)
          | ((with_reducible apply st_lennil RdT.ok); exact rfl; exact rfl; exact rfl)
          | ((with_reducible apply st_add); exact rfl; exact rfl; exact rfl; omega)
          | ((with_reducible apply st_q RdT.ok); exact rfl; exact rfl)
          | ((with_reducible apply c_condT); exact rfl)
          | ((with_reducible apply c_condF); exact rfl)
          | ((with_reducible apply c_cond); exact rfl; (first | exact Bp.not Bp.dec | exact Bp.dec | exact Bp.not Bp.bool | exact Bp.bool); all_goals intro hc))
      ((with_reducible apply r_one); exact rfl; exact .tmp rfl .nil; exact .s (.pv _); exact hS; refine ⟨rfl, _, rfl, ?_⟩)
      rw [used, if_neg (by rw [hmay]; decide)]; rfl
  | true =>
    have hlu : (used1 none16 (o.getD [])).length = 16 := by rw [used1_length]; rfl
    have hgu : ∀ s : Nat, s < 16 → (used1 none16 (o.getD []))[s]? = some ((o.getD []).any (covers s)) := fun s hs => by
      rw [used1_get s _ _ 0 (by omega) hmay, show none16[s]? = some false from by unfold none16; rw [List.getElem?_replicate, if_pos hs]]
      simp
    rw [used_some hmay]
    obtain ⟨bs, hbs⟩ : ∃ b, used1 none16 (o.getD []) = b := ⟨_, rfl⟩
    rw [hbs] at hlu hgu ⊢
    have htk : ∀ s : Nat, s < 16 → bs.take (s + 1) = bs.take s ++ [(o.getD []).any (covers s)] := fun s hs => by
      have h1 := hgu s hs
      obtain ⟨h2, h3⟩ := List.getElem?_eq_some_iff.1 h1
      rw [List.take_succ_eq_append_getElem h2, h3]
    show awp _ _ _ _ (retQ _ _ (exitVal fun r S' => S' = S ∧ ∃ v, r = .val v ∧ v = row 1 (bs.map encB))) _
    cases o with
    | none =>
      show awp _ _ _ _ _ (St L 51 [(0, nilS)] S [])
      repeat' (first
          | (with_reducible refine want_none ?_)
          | (with_reducible refine c_seq ?_)
          | (with_reducible refine c_region ?_)
          | ((with_reducible refine c_regionD ?_ ?_ ?_ ?_); (kernel_rfl); (exact rfl); (exact rfl))
          | (with_reducible refine c_block ?_)
          | (with_reducible refine aops_nil ?_)
          | (with_reducible refine k_normal ?_)
          | (with_reducible refine c_skip ?_)
          | (with_reducible refine c_exit ?_)
          | (with_reducible refine c_ret ?_)
          | (with_reducible refine k_ret ?_)
          | (with_reducible refine k_exit ?_)
          | (with_reducible refine kl_exit ?_)
          | (with_reducible refine kr_exit ?_)
          | (with_reducible refine kb_normal ?_)
          | (with_reducible refine kb_hit ?_)
          | ((with_reducible apply want_run); exact rfl; exact rfl)
          | ((with_reducible apply want_skip); exact rfl; exact rfl; exact rfl)
          | ((with_reducible apply want_out); exact rfl; exact rfl; exact rfl)
          | ((with_reducible apply want_forkF); exact rfl; exact rfl; exact rfl; (first | exact Bp.not Bp.dec | exact Bp.dec | exact Bp.not Bp.bool | exact Bp.bool); all_goals intro hc)
          | ((with_reducible apply want_forkT); exact rfl; exact rfl; exact rfl; (first | exact Bp.not Bp.dec | exact Bp.dec | exact Bp.not Bp.bool | exact Bp.bool); all_goals intro hc)
          | ((with_reducible apply st_callv); exact rfl; exact rfl; exact rfl; exact rfl; exact refMay_AC none; (rintro v rfl); rw [hmay])
          | ((with_reducible apply st_buildslice); exact rfl; exact rfl; exact rfl; exact rfl; exact rfl; exact rfl; exact rfl; exact rfl)
          | ((with_reducible apply st_loadpelK); exact rfl; exact rfl; assumption; exact rfl; exact rfl)
          | ((with_reducible apply st_loadpel); exact rfl; exact rfl; omega; exact rfl; (intro u hu; refine ⟨_, rfl, ?_⟩; try simp only [Int.toNat_natCast] at hu))
          | ((with_reducible apply st_idx); exact rfl; exact rfl; exact rfl; exact rfl; exact rfl; omega)
          | ((with_reducible apply st_len RdT.ok); exact rfl; exact rfl; exact rfl; intro hlen)
          | ((with_reducible apply st_lennil RdT.ok); exact rfl; exact rfl; exact rfl)
          | ((with_reducible apply st_add); exact rfl; exact rfl; exact rfl; omega)
          | ((with_reducible apply st_q RdT.ok); exact rfl; exact rfl)
          | ((with_reducible apply c_condT); exact rfl)
          | ((with_reducible apply c_condF); exact rfl)
          | ((with_reducible apply c_cond); exact rfl; (first | exact Bp.not Bp.dec | exact Bp.dec | exact Bp.not Bp.bool | exact Bp.bool); all_goals intro hc))
      refine c_loop (β := Nat) (fun s => s ≤ 16) (fun s => 16 - s) (fun s => [(0, nilS), (3, .a (.s (.sl L 10 0 s))), (4, int s)]) (fun s => [(10, .row 4 1 ((bs.take s).map encB))]) 0 (Nat.zero_le _) ⟨rfl, rfl, rfl, trivial⟩ ⟨rfl, trivial⟩ rfl rfl ?_
      intro s hs
      have hlt : (bs.take s).length = s := by rw [List.length_take]; omega
      repeat' (first
          | (with_reducible refine want_none ?_)
          | (with_reducible refine c_seq ?_)
          | (with_reducible refine c_region ?_)
          | ((with_reducible refine c_regionD ?_ ?_ ?_ ?_); (kernel_rfl); (exact rfl); (exact rfl))
          | (with_reducible refine c_block ?_)
          | (with_reducible refine aops_nil ?_)
          | (with_reducible refine k_normal ?_)
          | (with_reducible refine c_skip ?_)
          | (with_reducible refine c_exit ?_)
          | (with_reducible refine c_ret ?_)
          | (with_reducible refine k_ret ?_)
          | (with_reducible refine k_exit ?_)
          | (with_reducible refine kl_exit ?_)
          | (with_reducible refine kr_exit ?_)
          | (with_reducible refine kb_normal ?_)
          | (with_reducible refine kb_hit ?_)
          | ((with_reducible apply want_run); exact rfl; exact rfl)
          | ((with_reducible apply want_skip); exact rfl; exact rfl; exact rfl)
          | ((with_reducible apply want_out); exact rfl; exact rfl; exact rfl)
          | ((with_reducible apply want_forkF); exact rfl; exact rfl; exact rfl; (first | exact Bp.not Bp.dec | exact Bp.dec | exact Bp.not Bp.bool | exact Bp.bool); all_goals intro hc)
          | ((with_reducible apply want_forkT); exact rfl; exact rfl; exact rfl; (first | exact Bp.not Bp.dec | exact Bp.dec | exact Bp.not Bp.bool | exact Bp.bool); all_goals intro hc)
          | ((with_reducible apply st_loadpelK); exact rfl; exact rfl; assumption; exact rfl; exact rfl)
          | ((with_reducible apply st_loadpel); exact rfl; exact rfl; omega; exact rfl; (intro u hu; refine ⟨_, rfl, ?_⟩; try simp only [Int.toNat_natCast] at hu))
          | ((with_reducible apply st_idx); exact rfl; exact rfl; exact rfl; exact rfl; exact rfl; omega)
          | ((with_reducible apply st_len RdT.ok); exact rfl; exact rfl; exact rfl; intro hlen)
          | ((with_reducible apply st_lennil RdT.ok); exact rfl; exact rfl; exact rfl)
          | ((with_reducible apply st_add); exact rfl; exact rfl; exact rfl; omega)
          | ((with_reducible apply st_q RdT.ok); exact rfl; exact rfl)
          | ((with_reducible apply c_condT); exact rfl)
          | ((with_reducible apply c_condF); exact rfl)
          | ((with_reducible apply c_cond); exact rfl; (first | exact Bp.not Bp.dec | exact Bp.dec | exact Bp.not Bp.bool | exact Bp.bool); all_goals intro hc))
      · refine c_loop0 ?_
        repeat' (first
            | (with_reducible refine want_none ?_)
            | (with_reducible refine c_seq ?_)
            | (with_reducible refine c_region ?_)
            | ((with_reducible refine c_regionD ?_ ?_ ?_ ?_); (kernel_rfl); (exact rfl); (exact rfl))
            | (with_reducible refine c_block ?_)
            | (with_reducible refine aops_nil ?_)
            | (with_reducible refine k_normal ?_)
            | (with_reducible refine c_skip ?_)
            | (with_reducible refine c_exit ?_)
            | (with_reducible refine c_ret ?_)
            | (with_reducible refine k_ret ?_)
            | (with_reducible refine k_exit ?_)
            | (with_reducible refine kl_exit ?_)
            | (with_reducible refine kr_exit ?_)
            | (with_reducible refine kb_normal ?_)
            | (with_reducible refine kb_hit ?_)
            | ((with_reducible apply want_run); exact rfl; exact rfl)
            | ((with_reducible apply want_skip); exact rfl; exact rfl; exact rfl)
            | ((with_reducible apply want_out); exact rfl; exact rfl; exact rfl)
            | ((with_reducible apply want_forkF); exact rfl; exact rfl; exact rfl; (first | exact Bp.not Bp.dec | exact Bp.dec | exact Bp.not Bp.bool | exact Bp.bool); all_goals intro hc)
            | ((with_reducible apply want_forkT); exact rfl; exact rfl; exact rfl; (first | exact Bp.not Bp.dec | exact Bp.dec | exact Bp.not Bp.bool | exact Bp.bool); all_goals intro hc)
            | ((with_reducible apply st_buildslice); exact rfl; exact rfl; exact rfl; exact rfl; exact rfl; exact rfl; exact rfl; exact rfl)
            | ((with_reducible apply st_loadpelK); exact rfl; exact rfl; assumption; exact rfl; exact rfl)
            | ((with_reducible apply st_loadpel); exact rfl; exact rfl; omega; exact rfl; (intro u hu; refine ⟨_, rfl, ?_⟩; try simp only [Int.toNat_natCast] at hu))
            | ((with_reducible apply st_idx); exact rfl; exact rfl; exact rfl; exact rfl; exact rfl; omega)
            | ((with_reducible apply st_len RdT.ok); exact rfl; exact rfl; exact rfl; intro hlen)
            | ((with_reducible apply st_lennil RdT.ok); exact rfl; exact rfl; exact rfl)
            | ((with_reducible apply st_add); exact rfl; exact rfl; exact rfl; omega)
            | ((with_reducible apply st_q RdT.ok); exact rfl; exact rfl)
            | ((with_reducible apply c_condT); exact rfl)
            | ((with_reducible apply c_condF); exact rfl)
            | ((with_reducible apply c_cond); exact rfl; (first | exact Bp.not Bp.dec | exact Bp.dec | exact Bp.not Bp.bool | exact Bp.bool); all_goals intro hc))
        (with_reducible apply st_append1); exact rfl; exact rfl; exact rfl; exact rfl; exact (by rw [List.length_map, hlt]); exact .own rfl rfl rfl; exact (List.map_append (l₂ := [false])).symm; (rw [List.length_map, List.length_append]; refine ⟨?_, ?_⟩; (show _ * 1 ≤ _; simp at *; omega); (simp [maxLen] at *; omega)); exact rfl; exact rfl; exact rfl; exact rfl; exact rfl; exact rfl; exact rfl
        repeat' (first
            | (with_reducible refine want_none ?_)
            | (with_reducible refine c_seq ?_)
            | (with_reducible refine c_region ?_)
            | ((with_reducible refine c_regionD ?_ ?_ ?_ ?_); (kernel_rfl); (exact rfl); (exact rfl))
            | (with_reducible refine c_block ?_)
            | (with_reducible refine aops_nil ?_)
            | (with_reducible refine k_normal ?_)
            | (with_reducible refine c_skip ?_)
            | (with_reducible refine c_exit ?_)
            | (with_reducible refine c_ret ?_)
            | (with_reducible refine k_ret ?_)
            | (with_reducible refine k_exit ?_)
            | (with_reducible refine kl_exit ?_)
            | (with_reducible refine kr_exit ?_)
            | (with_reducible refine kb_normal ?_)
            | (with_reducible refine kb_hit ?_)
            | ((with_reducible apply want_run); exact rfl; exact rfl)
            | ((with_reducible apply want_skip); exact rfl; exact rfl; exact rfl)
            | ((with_reducible apply want_out); exact rfl; exact rfl; exact rfl)
            | ((with_reducible apply want_forkF); exact rfl; exact rfl; exact rfl; (first | exact Bp.not Bp.dec | exact Bp.dec | exact Bp.not Bp.bool | exact Bp.bool); all_goals intro hc)
            | ((with_reducible apply want_forkT); exact rfl; exact rfl; exact rfl; (first | exact Bp.not Bp.dec | exact Bp.dec | exact Bp.not Bp.bool | exact Bp.bool); all_goals intro hc)
            | ((with_reducible apply st_loadpelK); exact rfl; exact rfl; assumption; exact rfl; exact rfl)
            | ((with_reducible apply st_loadpel); exact rfl; exact rfl; omega; exact rfl; (intro u hu; refine ⟨_, rfl, ?_⟩; try simp only [Int.toNat_natCast] at hu))
            | ((with_reducible apply st_idx); exact rfl; exact rfl; exact rfl; exact rfl; exact rfl; omega)
            | ((with_reducible apply st_len RdT.ok); exact rfl; exact rfl; exact rfl; intro hlen)
            | ((with_reducible apply st_lennil RdT.ok); exact rfl; exact rfl; exact rfl)
            | ((with_reducible apply st_add); exact rfl; exact rfl; exact rfl; omega)
            | ((with_reducible apply st_q RdT.ok); exact rfl; exact rfl)
            | ((with_reducible apply c_condT); exact rfl)
            | ((with_reducible apply c_condF); exact rfl)
            | ((with_reducible apply c_cond); exact rfl; (first | exact Bp.not Bp.dec | exact Bp.dec | exact Bp.not Bp.bool | exact Bp.bool); all_goals intro hc))
        (with_reducible refine k_back (s + 1) ?_ ?_ ?_ ?_ ?_ ?_)
        · omega
        · omega
        · exact ⟨rfl, by show TV.a (.s (.sl L 10 0 (List.map encB _).length)) = _; rw [List.length_map, List.length_append, hlt]; rfl, rfl, trivial⟩
        · refine ⟨?_, trivial⟩
          rw [htk s (by omega)]
          rfl
        · exact rfl
        · exact rfl
      · (with_reducible apply r_one); exact rfl; exact .tmp rfl .nil; exact .s (.sl rfl (by rw [List.length_map, hlt])); exact hS; refine ⟨rfl, _, rfl, ?_⟩
        rw [List.take_of_length_le (by omega)]
    | some l =>
      show awp _ _ _ _ _ (St L 51 [(0, row 4 (l.map encU))] S [])
      repeat' (first
          | (with_reducible refine want_none ?_)
          | (with_reducible refine c_seq ?_)
          | (with_reducible refine c_region ?_)
          | ((with_reducible refine c_regionD ?_ ?_ ?_ ?_); (kernel_rfl); (exact rfl); (exact rfl))
          | (with_reducible refine c_block ?_)
          | (with_reducible refine aops_nil ?_)
          | (with_reducible refine k_normal ?_)
          | (with_reducible refine c_skip ?_)
          | (with_reducible refine c_exit ?_)
          | (with_reducible refine c_ret ?_)
          | (with_reducible refine k_ret ?_)
          | (with_reducible refine k_exit ?_)
          | (with_reducible refine kl_exit ?_)
          | (with_reducible refine kr_exit ?_)
          | (with_reducible refine kb_normal ?_)
          | (with_reducible refine kb_hit ?_)
          | ((with_reducible apply want_run); exact rfl; exact rfl)
          | ((with_reducible apply want_skip); exact rfl; exact rfl; exact rfl)
          | ((with_reducible apply want_out); exact rfl; exact rfl; exact rfl)
          | ((with_reducible apply want_forkF); exact rfl; exact rfl; exact rfl; (first | exact Bp.not Bp.dec | exact Bp.dec | exact Bp.not Bp.bool | exact Bp.bool); all_goals intro hc)
          | ((with_reducible apply want_forkT); exact rfl; exact rfl; exact rfl; (first | exact Bp.not Bp.dec | exact Bp.dec | exact Bp.not Bp.bool | exact Bp.bool); all_goals intro hc)
          | ((with_reducible apply st_callv); exact rfl; exact rfl; exact rfl; exact rfl; exact refMay_AC (some l); (rintro v rfl); rw [hmay])
          | ((with_reducible apply st_buildslice); exact rfl; exact rfl; exact rfl; exact rfl; exact rfl; exact rfl; exact rfl; exact rfl)
          | ((with_reducible apply st_loadpelK); exact rfl; exact rfl; assumption; exact rfl; exact rfl)
          | ((with_reducible apply st_loadpel); exact rfl; exact rfl; omega; exact rfl; (intro u hu; refine ⟨_, rfl, ?_⟩; try simp only [Int.toNat_natCast] at hu))
          | ((with_reducible apply st_idx); exact rfl; exact rfl; exact rfl; exact rfl; exact rfl; omega)
          | ((with_reducible apply st_len RdT.ok); exact rfl; exact rfl; exact rfl; intro hlen)
          | ((with_reducible apply st_lennil RdT.ok); exact rfl; exact rfl; exact rfl)
          | ((with_reducible apply st_add); exact rfl; exact rfl; exact rfl; omega)
          | ((with_reducible apply st_q RdT.ok); exact rfl; exact rfl)
          | ((with_reducible apply c_condT); exact rfl)
          | ((with_reducible apply c_condF); exact rfl)
          | ((with_reducible apply c_cond); exact rfl; (first | exact Bp.not Bp.dec | exact Bp.dec | exact Bp.not Bp.bool | exact Bp.bool); all_goals intro hc))
      refine c_loop (β := Nat) (fun s => s ≤ 16) (fun s => 16 - s) (fun s => [(0, row 4 (l.map encU)), (3, .a (.s (.sl L 10 0 s))), (4, int s)]) (fun s => [(10, .row 4 1 ((bs.take s).map encB))]) 0 (Nat.zero_le _) ⟨rfl, rfl, rfl, trivial⟩ ⟨rfl, trivial⟩ rfl rfl ?_
      intro s hs
      have hlt : (bs.take s).length = s := by rw [List.length_take]; omega
      repeat' (first
          | (with_reducible refine want_none ?_)
          | (with_reducible refine c_seq ?_)
          | (with_reducible refine c_region ?_)
          | ((with_reducible refine c_regionD ?_ ?_ ?_ ?_); (kernel_rfl); (exact rfl); (exact rfl))
          | (with_reducible refine c_block ?_)
          | (with_reducible refine aops_nil ?_)
          | (with_reducible refine k_normal ?_)
          | (with_reducible refine c_skip ?_)
          | (with_reducible refine c_exit ?_)
          | (with_reducible refine c_ret ?_)
          | (with_reducible refine k_ret ?_)
          | (with_reducible refine k_exit ?_)
          | (with_reducible refine kl_exit ?_)
          | (with_reducible refine kr_exit ?_)
          | (with_reducible refine kb_normal ?_)
          | (with_reducible refine kb_hit ?_)
          | ((with_reducible apply want_run); exact rfl; exact rfl)
          | ((with_reducible apply want_skip); exact rfl; exact rfl; exact rfl)
          | ((with_reducible apply want_out); exact rfl; exact rfl; exact rfl)
          | ((with_reducible apply want_forkF); exact rfl; exact rfl; exact rfl; (first | exact Bp.not Bp.dec | exact Bp.dec | exact Bp.not Bp.bool | exact Bp.bool); all_goals intro hc)
          | ((with_reducible apply want_forkT); exact rfl; exact rfl; exact rfl; (first | exact Bp.not Bp.dec | exact Bp.dec | exact Bp.not Bp.bool | exact Bp.bool); all_goals intro hc)
          | ((with_reducible apply st_loadpelK); exact rfl; exact rfl; assumption; exact rfl; exact rfl)
          | ((with_reducible apply st_loadpel); exact rfl; exact rfl; omega; exact rfl; (intro u hu; refine ⟨_, rfl, ?_⟩; try simp only [Int.toNat_natCast] at hu))
          | ((with_reducible apply st_idx); exact rfl; exact rfl; exact rfl; exact rfl; exact rfl; omega)
          | ((with_reducible apply st_len RdT.ok); exact rfl; exact rfl; exact rfl; intro hlen)
          | ((with_reducible apply st_lennil RdT.ok); exact rfl; exact rfl; exact rfl)
          | ((with_reducible apply st_add); exact rfl; exact rfl; exact rfl; omega)
          | ((with_reducible apply st_q RdT.ok); exact rfl; exact rfl)
          | ((with_reducible apply c_condT); exact rfl)
          | ((with_reducible apply c_condF); exact rfl)
          | ((with_reducible apply c_cond); exact rfl; (first | exact Bp.not Bp.dec | exact Bp.dec | exact Bp.not Bp.bool | exact Bp.bool); all_goals intro hc))
      · refine c_loop (β := Nat) (fun i => i ≤ l.length) (fun i => l.length - i) (fun i => [(0, row 4 (l.map encU)), (3, .a (.s (.sl L 10 0 s))), (4, int s), (5, Rd.bool ((l.take i).any (covers s))), (6, int i)]) (fun _ => [(10, .row 4 1 ((bs.take s).map encB))]) 0 (Nat.zero_le _) ⟨rfl, rfl, rfl, rfl, rfl, trivial⟩ ⟨rfl, trivial⟩ rfl rfl ?_
        intro i hi
        rcases Nat.lt_or_ge i l.length with hi' | hi'
        · obtain ⟨u, hu⟩ : ∃ u, l[i]? = some u := ⟨_, List.getElem?_eq_getElem hi'⟩
          obtain ⟨q1, q2, q3, q4, _⟩ := may1_mem l 0 hmay u (List.mem_of_getElem? hu)
          obtain ⟨b0, hb0⟩ : ∃ b, (l.take i).any (covers s) = b := ⟨_, rfl⟩
          have hbn : (l.take (i + 1)).any (covers s) = (b0 || (decide (u.pos ≤ (s : Int)) && decide ((s : Int) < u.pos + u.len))) := by rw [any_take _ hu, hb0, covers_eq _ _ (by omega)]
          rw [hb0]
          repeat' (first
              | (with_reducible refine want_none ?_)
              | (with_reducible refine c_seq ?_)
              | (with_reducible refine c_region ?_)
              | ((with_reducible refine c_regionD ?_ ?_ ?_ ?_); (kernel_rfl); (exact rfl); (exact rfl))
              | (with_reducible refine c_block ?_)
              | (with_reducible refine aops_nil ?_)
              | (with_reducible refine k_normal ?_)
              | (with_reducible refine c_skip ?_)
              | (with_reducible refine c_exit ?_)
              | (with_reducible refine c_ret ?_)
              | (with_reducible refine k_ret ?_)
              | (with_reducible refine k_exit ?_)
              | (with_reducible refine kl_exit ?_)
              | (with_reducible refine kr_exit ?_)
              | (with_reducible refine kb_normal ?_)
              | (with_reducible refine kb_hit ?_)
              | ((with_reducible apply want_run); exact rfl; exact rfl)
              | ((with_reducible apply want_skip); exact rfl; exact rfl; exact rfl)
              | ((with_reducible apply want_out); exact rfl; exact rfl; exact rfl)
              | ((with_reducible apply want_forkF); exact rfl; exact rfl; exact rfl; (first | exact Bp.not Bp.dec | exact Bp.dec | exact Bp.not Bp.bool | exact Bp.bool); all_goals intro hc)
              | ((with_reducible apply want_forkT); exact rfl; exact rfl; exact rfl; (first | exact Bp.not Bp.dec | exact Bp.dec | exact Bp.not Bp.bool | exact Bp.bool); all_goals intro hc)
              | ((with_reducible apply st_loadpelK); exact rfl; exact rfl; assumption; exact rfl; exact rfl)
              | ((with_reducible apply st_loadpel); exact rfl; exact rfl; omega; exact rfl; (intro u hu; refine ⟨_, rfl, ?_⟩; try simp only [Int.toNat_natCast] at hu))
              | ((with_reducible apply st_idx); exact rfl; exact rfl; exact rfl; exact rfl; exact rfl; omega)
              | ((with_reducible apply st_len RdT.ok); exact rfl; exact rfl; exact rfl; intro hlen)
              | ((with_reducible apply st_lennil RdT.ok); exact rfl; exact rfl; exact rfl)
              | ((with_reducible apply st_add); exact rfl; exact rfl; exact rfl; omega)
              | ((with_reducible apply st_q RdT.ok); exact rfl; exact rfl)
              | ((with_reducible apply c_condT); exact rfl)
              | ((with_reducible apply c_condF); exact rfl)
              | ((with_reducible apply c_cond); exact rfl; (first | exact Bp.not Bp.dec | exact Bp.dec | exact Bp.not Bp.bool | exact Bp.bool); all_goals intro hc))
          all_goals first
            | (exfalso; omega)
            | ((with_reducible refine k_back (i + 1) ?_ ?_ ?_ ?_ ?_ ?_)
               · omega
               · omega
               · refine ⟨rfl, rfl, rfl, ?_, rfl, trivial⟩
                 rw [hbn]
                 clear hgu htk hbs hmay hS
                 first | exact congrArg Rd.bool (show true = _ by simp_all; done) | exact congrArg Rd.bool (show false = _ by simp_all; intros; omega) | exact congrArg Rd.bool (show decide ((s : Int) < u.pos + u.len) = _ by simp_all; done)
               · exact ⟨rfl, trivial⟩
               · exact rfl
               · exact rfl)
            | trace_state
        · have hti : l.take i = l := List.take_of_length_le hi'
          rw [hti]
          obtain ⟨b0, hb0⟩ : ∃ b, l.any (covers s) = b := ⟨_, rfl⟩
          rw [hb0]
          repeat' (first
              | (with_reducible refine want_none ?_)
              | (with_reducible refine c_seq ?_)
              | (with_reducible refine c_region ?_)
              | ((with_reducible refine c_regionD ?_ ?_ ?_ ?_); (kernel_rfl); (exact rfl); (exact rfl))
              | (with_reducible refine c_block ?_)
              | (with_reducible refine aops_nil ?_)
              | (with_reducible refine k_normal ?_)
              | (with_reducible refine c_skip ?_)
              | (with_reducible refine c_exit ?_)
              | (with_reducible refine c_ret ?_)
              | (with_reducible refine k_ret ?_)
              | (with_reducible refine k_exit ?_)
              | (with_reducible refine kl_exit ?_)
              | (with_reducible refine kr_exit ?_)
              | (with_reducible refine kb_normal ?_)
              | (with_reducible refine kb_hit ?_)
              | ((with_reducible apply want_run); exact rfl; exact rfl)
              | ((with_reducible apply want_skip); exact rfl; exact rfl; exact rfl)
              | ((with_reducible apply want_out); exact rfl; exact rfl; exact rfl)
              | ((with_reducible apply want_forkF); exact rfl; exact rfl; exact rfl; (first | exact Bp.not Bp.dec | exact Bp.dec | exact Bp.not Bp.bool | exact Bp.bool); all_goals intro hc)
              | ((with_reducible apply want_forkT); exact rfl; exact rfl; exact rfl; (first | exact Bp.not Bp.dec | exact Bp.dec | exact Bp.not Bp.bool | exact Bp.bool); all_goals intro hc)
              | ((with_reducible apply st_buildslice); exact rfl; exact rfl; exact rfl; exact rfl; exact rfl; exact rfl; exact rfl; exact rfl)
              | ((with_reducible apply st_append1); exact rfl; exact rfl; exact rfl; exact rfl; exact (by rw [List.length_map, hlt]); exact .own rfl rfl rfl; exact (List.map_append (l₂ := [b0])).symm; (rw [List.length_map, List.length_append]; refine ⟨?_, ?_⟩; (show _ * 1 ≤ _; simp at *; omega); (simp [maxLen] at *; omega)); exact rfl; exact rfl; exact rfl; exact rfl; exact rfl; exact rfl; exact rfl)
              | ((with_reducible apply st_loadpelK); exact rfl; exact rfl; assumption; exact rfl; exact rfl)
              | ((with_reducible apply st_loadpel); exact rfl; exact rfl; omega; exact rfl; (intro u hu; refine ⟨_, rfl, ?_⟩; try simp only [Int.toNat_natCast] at hu))
              | ((with_reducible apply st_idx); exact rfl; exact rfl; exact rfl; exact rfl; exact rfl; omega)
              | ((with_reducible apply st_len RdT.ok); exact rfl; exact rfl; exact rfl; intro hlen)
              | ((with_reducible apply st_lennil RdT.ok); exact rfl; exact rfl; exact rfl)
              | ((with_reducible apply st_add); exact rfl; exact rfl; exact rfl; omega)
              | ((with_reducible apply st_q RdT.ok); exact rfl; exact rfl)
              | ((with_reducible apply c_condT); exact rfl)
              | ((with_reducible apply c_condF); exact rfl)
              | ((with_reducible apply c_cond); exact rfl; (first | exact Bp.not Bp.dec | exact Bp.dec | exact Bp.not Bp.bool | exact Bp.bool); all_goals intro hc))
          all_goals try (exfalso; omega)
          (with_reducible refine k_back (s + 1) ?_ ?_ ?_ ?_ ?_ ?_)
          · omega
          · omega
          · exact ⟨rfl, by show TV.a (.s (.sl L 10 0 (List.map encB _).length)) = _; rw [List.length_map, List.length_append, hlt]; rfl, rfl, trivial⟩
          · refine ⟨?_, trivial⟩
            rw [htk s (by omega)]
            show _ = some (AObj.row _ 1 (List.map encB (_ ++ [l.any (covers s)])))
            rw [hb0]
            rfl
          · exact rfl
          · exact rfl
      · (with_reducible apply r_one); exact rfl; exact .tmp rfl .nil; exact .s (.sl rfl (by rw [List.length_map, hlt])); exact hS; refine ⟨rfl, _, rfl, ?_⟩
        rw [List.take_of_length_le (by omega)]
end Go.Proofs.Ytfdaioinghfjpaa
namespace Go.Proofs.Ytfdaioinghfjpaa
open Go.Rd Go.RowKit
set_option maxRecDepth 20000
set_option linter.unusedSimpArgs false
set_option linter.unusedVariables false
set_option maxHeartbeats 4000000
theorem take_def (o : Option (List U)) (n : Int) : take o n = if may o = true ∧ 1 ≤ n ∧ n ≤ 8 ∧ 0 ≤ firstOf n (runs1 0 0 (used1 none16 (o.getD []))) then some (ins1 (firstOf n (runs1 0 0 (used1 none16 (o.getD [])))) n (o.getD []), firstOf n (runs1 0 0 (used1 none16 (o.getD [])))) else none := by
  unfold take
  split
  · rename_i h
    rw [if_pos ⟨h.1, ((first_long _ _).1 h.2.2).1, h.2.1, h.2.2⟩, insOf_ins1]
  · rename_i h
    rw [if_neg fun h2 => h ⟨h2.1, h2.2.2.1, h2.2.2.2⟩]
theorem refTake_AC (o : Option (List U)) (n : Int) : ACv Try.prog 20 [uA o, .s (.pv (.lit (.int .i64 n)))] fun v => v = takeV (take o n) := by
  intro L S hL
  refine fn_St (n := 69) (rs := [.tmp 4, .tmp 5, .tmp 6]) hands_val RdT.ok RdT.mixed Try.func20 rfl (by kernel_rfl) rfl rfl rfl hL ?_
  intro hS
  cases hmay : may o with
  | false =>
    cases o with
    | none => cases hmay
    | some l =>
      show awp _ _ _ _ _ (St L 69 [(0, row 4 (l.map encU)), (1, int n)] S [])
      repeat' (first
          | (with_reducible refine want_none ?_)
          | (with_reducible refine c_seq ?_)
          | (with_reducible refine c_region ?_)
          | (with_reducible refine c_block ?_)
          | (with_reducible refine aops_nil ?_)
          | (with_reducible refine k_normal ?_)
          | (with_reducible refine c_skip ?_)
          | (with_reducible refine c_exit ?_)
          | (with_reducible refine c_ret ?_)
          | (with_reducible refine k_ret ?_)
          | (with_reducible refine k_exit ?_)
          | (with_reducible refine kl_exit ?_)
          | (with_reducible refine kr_exit ?_)
          | (with_reducible refine kb_normal ?_)
          | (with_reducible refine kb_hit ?_)
          | ((with_reducible apply want_run); exact rfl; exact rfl)
          | ((with_reducible apply want_skip); exact rfl; exact rfl; exact rfl)
          | ((with_reducible apply want_forkF); exact rfl; exact rfl; exact rfl; (first | exact Bp.not Bp.dec | exact Bp.dec | exact Bp.not Bp.bool | exact Bp.bool); all_goals intro hc)
          | ((with_reducible apply st_callv); exact rfl; exact rfl; exact rfl; exact rfl; exact refMay_AC (some l); (rintro v rfl); rw [hmay])
          | ((with_reducible apply st_loadpelK); exact rfl; exact rfl; assumption; exact rfl; exact rfl)
          | ((with_reducible apply st_loadpel); exact rfl; exact rfl; omega; exact rfl; (intro u hu; refine ⟨_, rfl, ?_⟩; try simp only [Int.toNat_natCast] at hu))
          | ((with_reducible apply st_idx); exact rfl; exact rfl; exact rfl; exact rfl; exact rfl; omega)
          | ((with_reducible apply st_len RdT.ok); exact rfl; exact rfl; exact rfl; intro hlen)
          | ((with_reducible apply st_lennil RdT.ok); exact rfl; exact rfl; exact rfl)
          | ((with_reducible apply st_add); exact rfl; exact rfl; exact rfl; omega)
          | ((with_reducible apply st_q RdT.ok); exact rfl; exact rfl)
          | ((with_reducible apply c_condT); exact rfl)
          | ((with_reducible apply c_condF); exact rfl)
          | ((with_reducible apply c_cond); exact rfl; (first | exact Bp.not Bp.dec | exact Bp.dec | exact Bp.not Bp.bool | exact Bp.bool); all_goals intro hc))
      all_goals
        (with_reducible apply r_tup); exact rfl; exact .tmp rfl (.tmp rfl (.tmp rfl .nil)); exact rfl; exact .cons (.s (.pv _)) (.cons (.s (.pv _)) (.cons (.s (.pv _)) .nil)); exact hS; refine ⟨rfl, _, rfl, ?_⟩
        rw [take_def, if_neg (by rw [hmay]; simp)]; rfl
  | true =>
    have hus := used_some hmay
    obtain ⟨bs, hbs⟩ : ∃ b, used1 none16 (o.getD []) = b := ⟨_, rfl⟩
    obtain ⟨a, ha⟩ : ∃ a, firstOf n (runs1 0 0 bs) = a := ⟨_, rfl⟩
    have htd := take_def o n
    rw [hbs] at hus htd
    rw [ha] at htd
    simp only [hmay, true_and] at htd
    rw [htd]
    clear htd
    cases o with
    | none =>
      show awp _ _ _ _ _ (St L 69 [(0, nilS), (1, int n)] S [])
      repeat' (first
          | (with_reducible refine want_none ?_)
          | (with_reducible refine c_seq ?_)
          | (with_reducible refine c_region ?_)
          | (with_reducible refine c_block ?_)
          | (with_reducible refine aops_nil ?_)
          | (with_reducible refine k_normal ?_)
          | (with_reducible refine c_skip ?_)
          | (with_reducible refine c_exit ?_)
          | (with_reducible refine c_ret ?_)
          | (with_reducible refine k_ret ?_)
          | (with_reducible refine k_exit ?_)
          | (with_reducible refine kl_exit ?_)
          | (with_reducible refine kr_exit ?_)
          | (with_reducible refine kb_normal ?_)
          | (with_reducible refine kb_hit ?_)
          | ((with_reducible apply want_run); exact rfl; exact rfl)
          | ((with_reducible apply want_skip); exact rfl; exact rfl; exact rfl)
          | ((with_reducible apply want_forkF); exact rfl; exact rfl; exact rfl; (first | exact Bp.not Bp.dec | exact Bp.dec | exact Bp.not Bp.bool | exact Bp.bool); all_goals intro hc)
          | ((with_reducible apply st_callv); exact rfl; exact rfl; exact rfl; exact rfl; exact refMay_AC none; (rintro v rfl); rw [hmay])
          | ((with_reducible apply st_callv); exact rfl; exact rfl; exact rfl; exact rfl; exact refUsed_AC none; (rintro v rfl); rw [hus])
          | ((with_reducible apply st_callv); exact rfl; exact rfl; exact rfl; exact rfl; exact refFirst_AC bs n; (rintro v rfl); rw [ha])
          | ((with_reducible apply st_buildslice); exact rfl; exact rfl; exact rfl; exact rfl; exact rfl; exact rfl; exact rfl; exact rfl)
          | ((with_reducible apply st_loadpelK); exact rfl; exact rfl; assumption; exact rfl; exact rfl)
          | ((with_reducible apply st_loadpel); exact rfl; exact rfl; omega; exact rfl; (intro u hu; refine ⟨_, rfl, ?_⟩; try simp only [Int.toNat_natCast] at hu))
          | ((with_reducible apply st_idx); exact rfl; exact rfl; exact rfl; exact rfl; exact rfl; omega)
          | ((with_reducible apply st_len RdT.ok); exact rfl; exact rfl; exact rfl; intro hlen)
          | ((with_reducible apply st_lennil RdT.ok); exact rfl; exact rfl; exact rfl)
          | ((with_reducible apply st_add); exact rfl; exact rfl; exact rfl; omega)
          | ((with_reducible apply st_q RdT.ok); exact rfl; exact rfl)
          | ((with_reducible apply c_condT); exact rfl)
          | ((with_reducible apply c_condF); exact rfl)
          | ((with_reducible apply c_cond); exact rfl; (first | exact Bp.not Bp.dec | exact Bp.dec | exact Bp.not Bp.bool | exact Bp.bool); all_goals intro hc))
      all_goals first
        | ((with_reducible apply r_tup); exact rfl; exact .tmp rfl (.tmp rfl (.tmp rfl .nil)); exact rfl; exact .cons (.s (.pv _)) (.cons (.s (.pv _)) (.cons (.s (.pv _)) .nil)); exact hS; refine ⟨rfl, _, rfl, ?_⟩; rw [if_neg (by omega)]; rfl)
        | skip
      refine c_loop0 ?_
      repeat' (first
          | (with_reducible refine want_none ?_)
          | (with_reducible refine c_seq ?_)
          | (with_reducible refine c_region ?_)
          | (with_reducible refine c_block ?_)
          | (with_reducible refine aops_nil ?_)
          | (with_reducible refine k_normal ?_)
          | (with_reducible refine c_skip ?_)
          | (with_reducible refine c_exit ?_)
          | (with_reducible refine c_ret ?_)
          | (with_reducible refine k_ret ?_)
          | (with_reducible refine k_exit ?_)
          | (with_reducible refine kl_exit ?_)
          | (with_reducible refine kr_exit ?_)
          | (with_reducible refine kb_normal ?_)
          | (with_reducible refine kb_hit ?_)
          | ((with_reducible apply want_run); exact rfl; exact rfl)
          | ((with_reducible apply want_skip); exact rfl; exact rfl; exact rfl)
          | ((with_reducible apply want_forkF); exact rfl; exact rfl; exact rfl; (first | exact Bp.not Bp.dec | exact Bp.dec | exact Bp.not Bp.bool | exact Bp.bool); all_goals intro hc)
          | ((with_reducible apply st_buildslice); exact rfl; exact rfl; exact rfl; exact rfl; exact rfl; exact rfl; exact rfl; exact rfl)
          | ((with_reducible apply st_append1); exact rfl; exact rfl; exact rfl; exact rfl; exact rfl; exact .own rfl rfl rfl; exact rfl; (refine ⟨?_, ?_⟩; (show _ * 32 ≤ _; simp); (simp [maxLen])); exact rfl; exact rfl; exact rfl; exact rfl; exact rfl; exact rfl; exact rfl)
          | ((with_reducible apply st_loadpelK); exact rfl; exact rfl; assumption; exact rfl; exact rfl)
          | ((with_reducible apply st_loadpel); exact rfl; exact rfl; omega; exact rfl; (intro u hu; refine ⟨_, rfl, ?_⟩; try simp only [Int.toNat_natCast] at hu))
          | ((with_reducible apply st_idx); exact rfl; exact rfl; exact rfl; exact rfl; exact rfl; omega)
          | ((with_reducible apply st_len RdT.ok); exact rfl; exact rfl; exact rfl; intro hlen)
          | ((with_reducible apply st_lennil RdT.ok); exact rfl; exact rfl; exact rfl)
          | ((with_reducible apply st_add); exact rfl; exact rfl; exact rfl; omega)
          | ((with_reducible apply st_q RdT.ok); exact rfl; exact rfl)
          | ((with_reducible apply c_condT); exact rfl)
          | ((with_reducible apply c_condF); exact rfl)
          | ((with_reducible apply c_cond); exact rfl; (first | exact Bp.not Bp.dec | exact Bp.dec | exact Bp.not Bp.bool | exact Bp.bool); all_goals intro hc))
      (with_reducible apply r_tup); exact rfl; exact .tmp rfl (.tmp rfl (.tmp rfl .nil)); exact rfl; exact .cons (.s (.sl rfl rfl)) (.cons (.s (.pv _)) (.cons (.s (.pv _)) .nil)); exact hS; refine ⟨rfl, _, rfl, ?_⟩
      rw [if_pos (by omega)]
      rfl
    | some l =>
      show awp _ _ _ _ _ (St L 69 [(0, row 4 (l.map encU)), (1, int n)] S [])
      have hlen16 : (l.length : Int) ≤ 16 := by
        have := may1_length l 0 hmay
        omega
      repeat' (first
          | (with_reducible refine want_none ?_)
          | (with_reducible refine c_seq ?_)
          | (with_reducible refine c_region ?_)
          | (with_reducible refine c_block ?_)
          | (with_reducible refine aops_nil ?_)
          | (with_reducible refine k_normal ?_)
          | (with_reducible refine c_skip ?_)
          | (with_reducible refine c_exit ?_)
          | (with_reducible refine c_ret ?_)
          | (with_reducible refine k_ret ?_)
          | (with_reducible refine k_exit ?_)
          | (with_reducible refine kl_exit ?_)
          | (with_reducible refine kr_exit ?_)
          | (with_reducible refine kb_normal ?_)
          | (with_reducible refine kb_hit ?_)
          | ((with_reducible apply want_run); exact rfl; exact rfl)
          | ((with_reducible apply want_skip); exact rfl; exact rfl; exact rfl)
          | ((with_reducible apply want_forkF); exact rfl; exact rfl; exact rfl; (first | exact Bp.not Bp.dec | exact Bp.dec | exact Bp.not Bp.bool | exact Bp.bool); all_goals intro hc)
          | ((with_reducible apply st_callv); exact rfl; exact rfl; exact rfl; exact rfl; exact refMay_AC (some l); (rintro v rfl); rw [hmay])
          | ((with_reducible apply st_callv); exact rfl; exact rfl; exact rfl; exact rfl; exact refUsed_AC (some l); (rintro v rfl); rw [hus])
          | ((with_reducible apply st_callv); exact rfl; exact rfl; exact rfl; exact rfl; exact refFirst_AC bs n; (rintro v rfl); rw [ha])
          | ((with_reducible apply st_buildslice); exact rfl; exact rfl; exact rfl; exact rfl; exact rfl; exact rfl; exact rfl; exact rfl)
          | ((with_reducible apply st_loadpelK); exact rfl; exact rfl; assumption; exact rfl; exact rfl)
          | ((with_reducible apply st_loadpel); exact rfl; exact rfl; omega; exact rfl; (intro u hu; refine ⟨_, rfl, ?_⟩; try simp only [Int.toNat_natCast] at hu))
          | ((with_reducible apply st_idx); exact rfl; exact rfl; exact rfl; exact rfl; exact rfl; omega)
          | ((with_reducible apply st_len RdT.ok); exact rfl; exact rfl; exact rfl; intro hlen)
          | ((with_reducible apply st_lennil RdT.ok); exact rfl; exact rfl; exact rfl)
          | ((with_reducible apply st_add); exact rfl; exact rfl; exact rfl; omega)
          | ((with_reducible apply st_q RdT.ok); exact rfl; exact rfl)
          | ((with_reducible apply c_condT); exact rfl)
          | ((with_reducible apply c_condF); exact rfl)
          | ((with_reducible apply c_cond); exact rfl; (first | exact Bp.not Bp.dec | exact Bp.dec | exact Bp.not Bp.bool | exact Bp.bool); all_goals intro hc))
      all_goals first
        | ((with_reducible apply r_tup); exact rfl; exact .tmp rfl (.tmp rfl (.tmp rfl .nil)); exact rfl; exact .cons (.s (.pv _)) (.cons (.s (.pv _)) (.cons (.s (.pv _)) .nil)); exact hS; refine ⟨rfl, _, rfl, ?_⟩; rw [if_neg (by omega)]; rfl)
        | skip
      rw [if_pos (by omega)]
      refine c_loop (β := Nat × Bool × List U) (fun b => b.1 ≤ l.length ∧ b.2.2.length ≤ b.1 + b.2.1.toNat ∧ ins1 a n l = b.2.2 ++ (if b.2.1 = true then l.drop b.1 else ins1 a n (l.drop b.1))) (fun b => l.length - b.1)
        (fun b => [(0, row 4 (l.map encU)), (1, int n), (7, int a), (8, .a (.s (.sl L 28 0 b.2.2.length))), (9, Rd.bool b.2.1), (10, int b.1)])
        (fun b => [(28, .row 41 4 (b.2.2.map encU))]) (0, false, []) ⟨Nat.zero_le _, Nat.zero_le _, rfl⟩ ⟨rfl, rfl, rfl, rfl, rfl, rfl, trivial⟩ ⟨rfl, trivial⟩ rfl rfl ?_
      rintro ⟨k, laid, out⟩ ⟨hk, ho, hm⟩
      dsimp only at hk ho hm ⊢
      cases laid with
      | false =>
        simp only [Bool.false_eq_true, if_false] at hm
        repeat' (first
            | (with_reducible refine want_none ?_)
            | (with_reducible refine c_seq ?_)
            | (with_reducible refine c_region ?_)
            | (with_reducible refine c_block ?_)
            | (with_reducible refine aops_nil ?_)
            | (with_reducible refine k_normal ?_)
            | (with_reducible refine c_skip ?_)
            | (with_reducible refine c_exit ?_)
            | (with_reducible refine c_ret ?_)
            | (with_reducible refine k_ret ?_)
            | (with_reducible refine k_exit ?_)
            | (with_reducible refine kl_exit ?_)
            | (with_reducible refine kr_exit ?_)
            | (with_reducible refine kb_normal ?_)
            | (with_reducible refine kb_hit ?_)
            | ((with_reducible apply want_run); exact rfl; exact rfl)
            | ((with_reducible apply want_skip); exact rfl; exact rfl; exact rfl)
            | ((with_reducible apply want_forkF); exact rfl; exact rfl; exact rfl; (first | exact Bp.not Bp.dec | exact Bp.dec | exact Bp.not Bp.bool | exact Bp.bool); all_goals intro hc)
            | ((with_reducible apply st_buildslice); exact rfl; exact rfl; exact rfl; exact rfl; exact rfl; exact rfl; exact rfl; exact rfl)
            | ((with_reducible apply st_append1); exact rfl; exact rfl; exact rfl; exact rfl; (first | exact (List.length_map _).symm | exact rfl); exact .own rfl rfl rfl; exact (List.map_append (l₂ := [takeU a n])).symm; (rw [List.length_map, List.length_append]; refine ⟨?_, ?_⟩; (show _ * 32 ≤ _; simp at *; omega); (simp [maxLen] at *; omega)); exact rfl; exact rfl; exact rfl; exact rfl; exact rfl; exact rfl; exact rfl)
            | ((with_reducible apply st_append1); exact rfl; exact rfl; exact rfl; exact rfl; (first | exact (List.length_map _).symm | exact rfl); exact .own rfl rfl rfl; exact (List.map_append (l₂ := [u])).symm; (rw [List.length_map, List.length_append]; refine ⟨?_, ?_⟩; (show _ * 32 ≤ _; simp at *; omega); (simp [maxLen] at *; omega)); exact rfl; exact rfl; exact rfl; exact rfl; exact rfl; exact rfl; exact rfl)
            | ((with_reducible apply st_loadpelK); exact rfl; exact rfl; assumption; exact rfl; exact rfl)
            | ((with_reducible apply st_loadpel); exact rfl; exact rfl; omega; exact rfl; (intro u hu; refine ⟨_, rfl, ?_⟩; try simp only [Int.toNat_natCast] at hu))
            | ((with_reducible apply st_idx); exact rfl; exact rfl; exact rfl; exact rfl; exact rfl; omega)
            | ((with_reducible apply st_len RdT.ok); exact rfl; exact rfl; exact rfl; intro hlen)
            | ((with_reducible apply st_lennil RdT.ok); exact rfl; exact rfl; exact rfl)
            | ((with_reducible apply st_add); exact rfl; exact rfl; exact rfl; omega)
            | ((with_reducible apply st_q RdT.ok); exact rfl; exact rfl)
            | ((with_reducible apply c_condT); exact rfl)
            | ((with_reducible apply c_condF); exact rfl)
            | ((with_reducible apply c_cond); exact rfl; (first | exact Bp.not Bp.dec | exact Bp.dec | exact Bp.not Bp.bool | exact Bp.bool); all_goals intro hc))
        all_goals first
          | ((with_reducible refine k_back (k + 1, true, out ++ [takeU a n] ++ [u]) ?_ ?_ ?_ ?_ ?_ ?_)
             · refine ⟨by dsimp only; omega, by simp at *; omega, ?_⟩
               rw [hm, drop_cons hu]
               rw [ins1, if_pos (by assumption)]; simp
             · dsimp only; omega
             · exact ⟨rfl, rfl, rfl, by show TV.a (.s (.sl L 28 0 (List.map encU _).length)) = _; rw [List.length_map], rfl, rfl, trivial⟩
             · exact ⟨rfl, trivial⟩
             · exact rfl
             · exact rfl)
          | ((with_reducible refine k_back (k + 1, false, out ++ [u]) ?_ ?_ ?_ ?_ ?_ ?_)
             · refine ⟨by dsimp only; omega, by simp at *; omega, ?_⟩
               rw [hm, drop_cons hu]
               rw [ins1, if_neg (by assumption)]; simp
             · dsimp only; omega
             · exact ⟨rfl, rfl, rfl, by show TV.a (.s (.sl L 28 0 (List.map encU _).length)) = _; rw [List.length_map], rfl, rfl, trivial⟩
             · exact ⟨rfl, trivial⟩
             · exact rfl
             · exact rfl)
          | ((with_reducible apply r_tup); exact rfl; exact .tmp rfl (.tmp rfl (.tmp rfl .nil)); exact rfl; exact .cons (.s (.sl rfl (by first | rfl | rw [List.length_map]))) (.cons (.s (.pv _)) (.cons (.s (.pv _)) .nil)); exact hS; refine ⟨rfl, _, rfl, ?_⟩
             show _ = takeV (some (ins1 a n l, a))
             rw [hm, List.drop_of_length_le (by omega)]
             rfl)
      | true =>
        simp only [if_true] at hm
        repeat' (first
            | (with_reducible refine want_none ?_)
            | (with_reducible refine c_seq ?_)
            | (with_reducible refine c_region ?_)
            | (with_reducible refine c_block ?_)
            | (with_reducible refine aops_nil ?_)
            | (with_reducible refine k_normal ?_)
            | (with_reducible refine c_skip ?_)
            | (with_reducible refine c_exit ?_)
            | (with_reducible refine c_ret ?_)
            | (with_reducible refine k_ret ?_)
            | (with_reducible refine k_exit ?_)
            | (with_reducible refine kl_exit ?_)
            | (with_reducible refine kr_exit ?_)
            | (with_reducible refine kb_normal ?_)
            | (with_reducible refine kb_hit ?_)
            | ((with_reducible apply want_run); exact rfl; exact rfl)
            | ((with_reducible apply want_skip); exact rfl; exact rfl; exact rfl)
            | ((with_reducible apply want_forkF); exact rfl; exact rfl; exact rfl; (first | exact Bp.not Bp.dec | exact Bp.dec | exact Bp.not Bp.bool | exact Bp.bool); all_goals intro hc)
            | ((with_reducible apply st_buildslice); exact rfl; exact rfl; exact rfl; exact rfl; exact rfl; exact rfl; exact rfl; exact rfl)
            | ((with_reducible apply st_append1); exact rfl; exact rfl; exact rfl; exact rfl; (first | exact (List.length_map _).symm | exact rfl); exact .own rfl rfl rfl; exact (List.map_append (l₂ := [takeU a n])).symm; (rw [List.length_map, List.length_append]; refine ⟨?_, ?_⟩; (show _ * 32 ≤ _; simp at *; omega); (simp [maxLen] at *; omega)); exact rfl; exact rfl; exact rfl; exact rfl; exact rfl; exact rfl; exact rfl)
            | ((with_reducible apply st_append1); exact rfl; exact rfl; exact rfl; exact rfl; (first | exact (List.length_map _).symm | exact rfl); exact .own rfl rfl rfl; exact (List.map_append (l₂ := [u])).symm; (rw [List.length_map, List.length_append]; refine ⟨?_, ?_⟩; (show _ * 32 ≤ _; simp at *; omega); (simp [maxLen] at *; omega)); exact rfl; exact rfl; exact rfl; exact rfl; exact rfl; exact rfl; exact rfl)
            | ((with_reducible apply st_loadpelK); exact rfl; exact rfl; assumption; exact rfl; exact rfl)
            | ((with_reducible apply st_loadpel); exact rfl; exact rfl; omega; exact rfl; (intro u hu; refine ⟨_, rfl, ?_⟩; try simp only [Int.toNat_natCast] at hu))
            | ((with_reducible apply st_idx); exact rfl; exact rfl; exact rfl; exact rfl; exact rfl; omega)
            | ((with_reducible apply st_len RdT.ok); exact rfl; exact rfl; exact rfl; intro hlen)
            | ((with_reducible apply st_lennil RdT.ok); exact rfl; exact rfl; exact rfl)
            | ((with_reducible apply st_add); exact rfl; exact rfl; exact rfl; omega)
            | ((with_reducible apply st_q RdT.ok); exact rfl; exact rfl)
            | ((with_reducible apply c_condT); exact rfl)
            | ((with_reducible apply c_condF); exact rfl)
            | ((with_reducible apply c_cond); exact rfl; (first | exact Bp.not Bp.dec | exact Bp.dec | exact Bp.not Bp.bool | exact Bp.bool); all_goals intro hc))
        all_goals first
          | ((with_reducible refine k_back (k + 1, true, out ++ [u]) ?_ ?_ ?_ ?_ ?_ ?_)
             · refine ⟨by dsimp only; omega, by simp at *; omega, ?_⟩
               rw [hm, drop_cons hu]
               simp
             · dsimp only; omega
             · exact ⟨rfl, rfl, rfl, by show TV.a (.s (.sl L 28 0 (List.map encU _).length)) = _; rw [List.length_map], rfl, rfl, trivial⟩
             · exact ⟨rfl, trivial⟩
             · exact rfl
             · exact rfl)
          | ((with_reducible apply r_tup); exact rfl; exact .tmp rfl (.tmp rfl (.tmp rfl .nil)); exact rfl; exact .cons (.s (.sl rfl (by first | rfl | rw [List.length_map]))) (.cons (.s (.pv _)) (.cons (.s (.pv _)) .nil)); exact hS; refine ⟨rfl, _, rfl, ?_⟩
             show _ = takeV (some (ins1 a n l, a))
             rw [hm, List.drop_of_length_le (by omega)]
             simp [takeV, slA, slP])
end Go.Proofs.Ytfdaioinghfjpaa
