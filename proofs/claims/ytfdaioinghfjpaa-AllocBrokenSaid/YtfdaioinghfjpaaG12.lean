/- What is fixed of alloc. -/
import Derived.Test.YtfdaioinghfjpaaG11
namespace Go.Proofs.Ytfdaioinghfjpaa
open Go.Rd Go.RowKit
set_option maxRecDepth 20000
set_option linter.unusedSimpArgs false
set_option linter.unusedVariables false
set_option maxHeartbeats 4000000

def fx1 : Rf := ⟨1, 0, 70, true⟩
def fx2 : Rf := ⟨1, 0, 30, true⟩
theorem fixed17_AC : ACv Try.prog 39 [] fun v => v = Rd.bool true := by
  intro L S hL
  refine fn_St (n := 109) (rs := [.tmp 0]) hands_val RdT.ok RdT.mixed Try.func39 rfl (by kernel_rfl) rfl rfl rfl (by omega) ?_
  intro hS
  have h1 : takeC (some [none, none]) 3 0 = some ([none, some [⟨0, 3, 1, false⟩]], 1, 0) := by decide +kernel
  obtain ⟨e, u2, h2, he, hel, hu2, hu0⟩ : ∃ (e : List Tb) (u2 : List U), turnC (some [none, some [⟨0, 3, 1, false⟩]]) fx1 1 = some e ∧ e[1]? = some (some u2) ∧ e.length = 2 ∧ u2.length = 1 ∧ u2[0]? = some ⟨0, 3, 2, false⟩ :=
    ⟨[none, some [⟨0, 3, 2, false⟩]], [⟨0, 3, 2, false⟩], by decide +kernel, rfl, rfl, rfl, rfl⟩
  have h3 : turnC (some [none, some [⟨0, 3, 1, false⟩]]) fx1 (-1) = some [none, some []] := by decide +kernel
  have h4 : turnC (some [none, some [⟨0, 3, 1, false⟩]]) fx2 (-1) = none := by decide +kernel
  have h5 : freeC (some [none, some [⟨0, 3, 1, false⟩]]) = (29, 1) := by decide +kernel
  have h6 : sameC (some [none, some []]) (some [none, none]) = true := by decide +kernel
  have h7 : mayC (some [none, none]) = true := by decide +kernel
  have h8 : mayC none = false := by decide +kernel
  have hB := broken_AC [none, none] h7 4607182418800017408 0 (by decide +kernel) (by decide +kernel)
  show awp _ _ _ _ _ (St L 109 [] S [])
  repeat' (first
    | (with_reducible refine want_none ?_)
    | (with_reducible refine c_seq ?_)
    | (with_reducible refine c_region ?_)
    | ((with_reducible refine c_regionD ?_ ?_ ?_ ?_); (kernel_rfl); (exact rfl); (exact rfl))
    | (with_reducible refine c_block ?_)
    | (with_reducible refine aops_nil ?_)
    | (with_reducible refine k_normal ?_)
    | (with_reducible refine c_skip ?_)
    | (with_reducible refine c_exit ?_)
    | (with_reducible refine c_ret ?_)
    | (with_reducible refine k_ret ?_)
    | (with_reducible refine k_exit ?_)
    | (with_reducible refine kl_ret ?_)
    | (with_reducible refine kl_exit ?_)
    | (with_reducible refine kr_ret ?_)
    | (with_reducible refine kr_exit ?_)
    | (with_reducible refine kb_normal ?_)
    | (with_reducible refine kb_ret ?_)
    | (with_reducible refine kb_hit ?_)
    | ((with_reducible refine kb_miss ?_ ?_); exact rfl)
    | ((with_reducible apply want_run); exact rfl; exact rfl)
    | ((with_reducible apply want_skip); exact rfl; exact rfl; exact rfl)
    | ((with_reducible apply want_out); exact rfl; exact rfl; exact rfl)
    | ((with_reducible apply want_forkF); exact rfl; exact rfl; exact rfl; (first | exact Bp.not Bp.dec | exact Bp.dec | exact Bp.not Bp.bool | exact Bp.bool); all_goals intro hc)
    | ((with_reducible apply want_forkT); exact rfl; exact rfl; exact rfl; (first | exact Bp.not Bp.dec | exact Bp.dec | exact Bp.not Bp.bool | exact Bp.bool); all_goals intro hc)
    | ((with_reducible apply st_buildsliceP); exact rfl; exact rfl; exact rfl; exact rfl; exact rfl; exact rfl; exact rfl; exact rfl) | ((with_reducible apply st_callv); exact rfl; exact rfl; exact rfl; exact rfl; exact takeC_AC (some [none, none]) 3 0; (rintro v rfl); rw [h1]) | ((with_reducible apply st_callv); exact rfl; exact rfl; exact rfl; exact rfl; exact incC_AC (some [none, some [⟨0, 3, 1, false⟩]]) fx1; (rintro v rfl); rw [turnCV_eq, h2]) | ((with_reducible apply st_callv); exact rfl; exact rfl; exact rfl; exact rfl; exact decC_AC (some [none, some [⟨0, 3, 1, false⟩]]) fx1; (rintro v rfl); rw [turnCV_eq, h3]) | ((with_reducible apply st_callv); exact rfl; exact rfl; exact rfl; exact rfl; exact decC_AC (some [none, some [⟨0, 3, 1, false⟩]]) fx2; (rintro v rfl); rw [turnCV_eq, h4]) | ((with_reducible apply st_callv); exact rfl; exact rfl; exact rfl; exact rfl; exact freeC_AC (some [none, some [⟨0, 3, 1, false⟩]]); (rintro v rfl); rw [h5]) | ((with_reducible apply st_callv); exact rfl; exact rfl; exact rfl; exact rfl; exact sameC_AC (some [none, some []]) (some [none, none]); (rintro v rfl); rw [h6]) | ((with_reducible apply st_callv); exact rfl; exact rfl; exact rfl; exact rfl; exact hB; (rintro v rfl)) | ((with_reducible apply st_callv); exact rfl; exact rfl; exact rfl; exact rfl; exact text0_AC; (rintro v rfl)) | ((with_reducible apply st_callv); exact rfl; exact rfl; exact rfl; exact rfl; exact mayC_AC (some [none, none]); (rintro v rfl); rw [h7]) | ((with_reducible apply st_callv); exact rfl; exact rfl; exact rfl; exact rfl; exact mayC_AC none; (rintro v rfl); rw [h8]) | ((with_reducible apply st_streq); exact rfl; exact rfl; exact rfl)
    | ((with_reducible apply st_alloc); exact rfl; exact rfl; exact rfl; exact rfl)
    | ((with_reducible apply st_box); exact rfl; exact rfl; exact rfl; exact rfl)
    | ((with_reducible apply st_loadpelK); exact rfl; exact rfl; assumption; exact rfl; exact rfl)
    | ((with_reducible apply st_loadpel); exact rfl; exact rfl; omega; exact rfl; (intro u hu; refine ⟨_, rfl, ?_⟩; try simp only [Int.toNat_natCast] at hu))
    | ((with_reducible apply st_load); exact rfl; exact rfl; exact rfl; exact rfl; exact rfl)
    | ((with_reducible apply st_store); exact rfl; exact rfl; exact rfl; exact rfl; exact rfl; exact rfl)
    | ((with_reducible apply st_idx); exact rfl; exact rfl; exact rfl; exact rfl; exact rfl; omega)
    | ((with_reducible apply st_len RdT.ok); exact rfl; exact rfl; exact rfl; intro hlen)
    | ((with_reducible apply st_lennil RdT.ok); exact rfl; exact rfl; exact rfl)
    | ((with_reducible apply st_add); exact rfl; exact rfl; exact rfl; omega)
    | ((with_reducible apply st_sub); exact rfl; exact rfl; exact rfl; omega)
    | ((with_reducible apply st_q RdT.ok); exact rfl; exact rfl)
    | ((with_reducible apply c_condT); exact rfl)
    | ((with_reducible apply c_condF); exact rfl)
    | ((with_reducible apply c_cond); exact rfl; (first | exact Bp.not Bp.dec | exact Bp.dec | exact Bp.not Bp.bool | exact Bp.bool); all_goals intro hc))
  all_goals first
    | (exfalso; omega)
    | (((with_reducible apply r_one); exact rfl; exact .tmp rfl .nil; exact .s (.pv _); exact hS; refine ⟨rfl, _, rfl, ?_⟩); rfl)
    | exact absurd (by decide +kernel) hc
end Go.Proofs.Ytfdaioinghfjpaa
