/- The law of referring twice: contract (over what is fixed). -/
import Derived.Test.YtfdaioinghfjpaaP4
import Derived.Test.YtfdaioinghfjpaaG14
import Derived.Test.YtfdaioinghfjpaaG9
import Derived.Test.YtfdaioinghfjpaaF11
namespace Go.Proofs.Ytfdaioinghfjpaa
open Go.Rd Go.RowKit
set_option maxRecDepth 20000
set_option linter.unusedSimpArgs false
set_option linter.unusedVariables false
set_option maxHeartbeats 8000000

theorem inc_none {l d : List Tb} {x : Rf} (hi : turnC (some l) x 1 = none) (hd : turnC (some l) x (-1) = some d) :
    hasC (some l) x = true ∧ ∃ t, l[x.chunk.toNat]? = some t ∧ 0 ≤ x.chunk ∧ x.chunk < l.length ∧ count t x.pos = 1000000 := by
  obtain ⟨h1, h2, h3, t, m, ht, h4, h5, rfl⟩ := turnC_some hd
  simp only [Option.getD_some] at h3 ht
  have hch : 0 ≤ x.chunk := by
    unfold mayR at h2
    simp only [Bool.and_eq_true, decide_eq_true_eq] at h2
    omega
  have hmt : may t = true := mayC_mem h1 t (List.mem_of_getElem? ht)
  refine ⟨?_, t, ht, hch, h3, ?_⟩
  · rw [hasC, h2, Option.getD_some, List.getD_eq_getElem?_getD, ht, decide_eq_true h3]
    show (true && true && (Option.getD t []).any (testR x)) = true
    rw [h4]
    rfl
  · have hn : turnO t x.pos 1 = none := by
      cases hq : turnO t x.pos 1 with
      | none => rfl
      | some m' =>
        exfalso
        rw [turnC, if_pos ⟨h1, h2, h3⟩, Option.getD_some, ht] at hi
        replace hi : (if _ then _ else _) = none := hi
        rw [if_pos ⟨h4, by rw [hq]; rfl⟩] at hi
        cases hi
    have e1 := turnO_inc_iff (at' := x.pos) hmt
    have e2 := turnO_dec_iff (at' := x.pos) hmt
    rw [hn, Option.isSome_none] at e1
    rw [h5, Option.isSome_some] at e2
    have f1 := of_decide_eq_false e1.symm
    have f2 := of_decide_eq_true e2.symm
    have f3 := count_range (at' := x.pos) hmt
    omega
theorem allocTwice_AC (hfix : ACv Try.prog 39 [] fun v => v = Rd.bool true) (o : Option (List Tb)) (x : Rf) : ACv Try.prog 11 [cA o, rA x] fun v => v = Rd.bool true := by
  intro L S hL
  refine fn_St (n := 110) (rs := [.tmp 4]) hands_val RdT.ok RdT.mixed Try.func11 rfl (by kernel_rfl) rfl rfl rfl (by omega) ?_
  intro hS
  obtain ⟨sm, hsm⟩ : ∃ b, smallC o = b := ⟨_, rfl⟩
  cases hmay : mayC o with
  | false =>
    show awp _ _ _ _ _ (St L 110 [(0, .a (cA o)), (1, .a (rA x))] S [])
    repeat' (first
    | (with_reducible refine want_none ?_)
    | (with_reducible refine c_seq ?_)
    | (with_reducible refine c_region ?_)
    | ((with_reducible refine c_regionD ?_ ?_ ?_ ?_); (kernel_rfl); (exact rfl); (exact rfl))
    | (with_reducible refine c_block ?_)
    | (with_reducible refine aops_nil ?_)
    | (with_reducible refine k_normal ?_)
    | (with_reducible refine c_skip ?_)
    | (with_reducible refine c_exit ?_)
    | (with_reducible refine c_ret ?_)
    | (with_reducible refine k_ret ?_)
    | (with_reducible refine k_exit ?_)
    | (with_reducible refine kl_ret ?_)
    | (with_reducible refine kl_exit ?_)
    | (with_reducible refine kr_ret ?_)
    | (with_reducible refine kr_exit ?_)
    | (with_reducible refine kb_normal ?_)
    | (with_reducible refine kb_ret ?_)
    | (with_reducible refine kb_hit ?_)
    | ((with_reducible refine kb_miss ?_ ?_); exact rfl)
    | ((with_reducible apply want_run); exact rfl; exact rfl)
    | ((with_reducible apply want_skip); exact rfl; exact rfl; exact rfl)
    | ((with_reducible apply want_out); exact rfl; exact rfl; exact rfl)
    | ((with_reducible apply want_forkF); exact rfl; exact rfl; exact rfl; (first | exact Bp.not Bp.dec | exact Bp.dec | exact Bp.not Bp.bool | exact Bp.bool); all_goals intro hc)
    | ((with_reducible apply want_forkT); exact rfl; exact rfl; exact rfl; (first | exact Bp.not Bp.dec | exact Bp.dec | exact Bp.not Bp.bool | exact Bp.bool); all_goals intro hc)
    | ((with_reducible apply st_callv); exact rfl; exact rfl; exact rfl; exact rfl; exact hfix; (rintro v rfl)) | ((with_reducible apply st_callv); exact rfl; exact rfl; exact rfl; exact rfl; exact smallC_AC o; (rintro v rfl); rw [hsm]) | ((with_reducible apply st_callv); exact rfl; exact rfl; exact rfl; exact rfl; exact refMayC_AC o; (rintro v rfl); rw [hmay])
    | ((with_reducible apply st_alloc); exact rfl; exact rfl; exact rfl; exact rfl)
    | ((with_reducible apply st_box); exact rfl; exact rfl; exact rfl; exact rfl)
    | ((with_reducible apply st_loadpelK); exact rfl; exact rfl; assumption; exact rfl; exact rfl)
    | ((with_reducible apply st_loadpel); exact rfl; exact rfl; omega; exact rfl; (intro u hu; refine ⟨_, rfl, ?_⟩; try simp only [Int.toNat_natCast] at hu))
    | ((with_reducible apply st_load); exact rfl; exact rfl; exact rfl; exact rfl; exact rfl)
    | ((with_reducible apply st_store); exact rfl; exact rfl; exact rfl; exact rfl; exact rfl; exact rfl)
    | ((with_reducible apply st_idx); exact rfl; exact rfl; exact rfl; exact rfl; exact rfl; omega)
    | ((with_reducible apply st_len RdT.ok); exact rfl; exact rfl; exact rfl; intro hlen)
    | ((with_reducible apply st_lennil RdT.ok); exact rfl; exact rfl; exact rfl)
    | ((with_reducible apply st_add); exact rfl; exact rfl; exact rfl; omega)
    | ((with_reducible apply st_sub); exact rfl; exact rfl; exact rfl; omega)
    | ((with_reducible apply st_q RdT.ok); exact rfl; exact rfl)
    | ((with_reducible apply c_condT); exact rfl)
    | ((with_reducible apply c_condF); exact rfl)
    | ((with_reducible apply c_cond); exact rfl; (first | exact Bp.not Bp.dec | exact Bp.dec | exact Bp.not Bp.bool | exact Bp.bool); all_goals intro hc))
    all_goals (((with_reducible apply r_one); exact rfl; exact .tmp rfl .nil; exact .s (.pv _); exact hS; refine ⟨rfl, _, rfl, ?_⟩); rfl)
  | true =>
    have hln := mayC_len hmay
    cases o with
    | none => exact absurd hln.1 (by simp)
    | some l =>
      cases hi : turnC (some l) x 1 with
      | none =>
        cases hd : turnC (some l) x (-1) with
        | none =>
          show awp _ _ _ _ _ (St L 110 [(0, row 1 (l.map encC)), (1, .a (rA x))] S [])
          repeat' (first
    | (with_reducible refine want_none ?_)
    | (with_reducible refine c_seq ?_)
    | (with_reducible refine c_region ?_)
    | ((with_reducible refine c_regionD ?_ ?_ ?_ ?_); (kernel_rfl); (exact rfl); (exact rfl))
    | (with_reducible refine c_block ?_)
    | (with_reducible refine aops_nil ?_)
    | (with_reducible refine k_normal ?_)
    | (with_reducible refine c_skip ?_)
    | (with_reducible refine c_exit ?_)
    | (with_reducible refine c_ret ?_)
    | (with_reducible refine k_ret ?_)
    | (with_reducible refine k_exit ?_)
    | (with_reducible refine kl_ret ?_)
    | (with_reducible refine kl_exit ?_)
    | (with_reducible refine kr_ret ?_)
    | (with_reducible refine kr_exit ?_)
    | (with_reducible refine kb_normal ?_)
    | (with_reducible refine kb_ret ?_)
    | (with_reducible refine kb_hit ?_)
    | ((with_reducible refine kb_miss ?_ ?_); exact rfl)
    | ((with_reducible apply want_run); exact rfl; exact rfl)
    | ((with_reducible apply want_skip); exact rfl; exact rfl; exact rfl)
    | ((with_reducible apply want_out); exact rfl; exact rfl; exact rfl)
    | ((with_reducible apply want_forkF); exact rfl; exact rfl; exact rfl; (first | exact Bp.not Bp.dec | exact Bp.dec | exact Bp.not Bp.bool | exact Bp.bool); all_goals intro hc)
    | ((with_reducible apply want_forkT); exact rfl; exact rfl; exact rfl; (first | exact Bp.not Bp.dec | exact Bp.dec | exact Bp.not Bp.bool | exact Bp.bool); all_goals intro hc)
    | ((with_reducible apply st_callv); exact rfl; exact rfl; exact rfl; exact rfl; exact hfix; (rintro v rfl)) | ((with_reducible apply st_callv); exact rfl; exact rfl; exact rfl; exact rfl; exact smallC_AC (some l); (rintro v rfl); rw [hsm]) | ((with_reducible apply st_callv); exact rfl; exact rfl; exact rfl; exact rfl; exact refMayC_AC (some l); (rintro v rfl); rw [hmay]) | ((with_reducible apply st_callv); exact rfl; exact rfl; exact rfl; exact rfl; exact incC_AC (some l) x; (rintro v rfl); rw [turnCV_eq, hi]) | ((with_reducible apply st_callv); exact rfl; exact rfl; exact rfl; exact rfl; exact decC_AC (some l) x; (rintro v rfl); rw [turnCV_eq, hd]) | (with_reducible refine q_nil ?_) | ((with_reducible apply q_one); exact rfl; exact rfl) | ((with_reducible apply q_callS); exact rfl; exact rfl; exact rfl) | ((with_reducible apply q_callO); exact rfl; exact rfl; exact rfl) | ((with_reducible refine c_regionQ ?_ ?_); (decide +kernel))
    | ((with_reducible apply st_alloc); exact rfl; exact rfl; exact rfl; exact rfl)
    | ((with_reducible apply st_box); exact rfl; exact rfl; exact rfl; exact rfl)
    | ((with_reducible apply st_loadpelK); exact rfl; exact rfl; assumption; exact rfl; exact rfl)
    | ((with_reducible apply st_loadpel); exact rfl; exact rfl; omega; exact rfl; (intro u hu; refine ⟨_, rfl, ?_⟩; try simp only [Int.toNat_natCast] at hu))
    | ((with_reducible apply st_load); exact rfl; exact rfl; exact rfl; exact rfl; exact rfl)
    | ((with_reducible apply st_store); exact rfl; exact rfl; exact rfl; exact rfl; exact rfl; exact rfl)
    | ((with_reducible apply st_idx); exact rfl; exact rfl; exact rfl; exact rfl; exact rfl; omega)
    | ((with_reducible apply st_len RdT.ok); exact rfl; exact rfl; exact rfl; intro hlen)
    | ((with_reducible apply st_lennil RdT.ok); exact rfl; exact rfl; exact rfl)
    | ((with_reducible apply st_add); exact rfl; exact rfl; exact rfl; omega)
    | ((with_reducible apply st_sub); exact rfl; exact rfl; exact rfl; omega)
    | ((with_reducible apply st_q RdT.ok); exact rfl; exact rfl)
    | ((with_reducible apply c_condT); exact rfl)
    | ((with_reducible apply c_condF); exact rfl)
    | ((with_reducible apply c_cond); exact rfl; (first | exact Bp.not Bp.dec | exact Bp.dec | exact Bp.not Bp.bool | exact Bp.bool); all_goals intro hc))
          all_goals first
            | (exfalso; omega)
            | (((with_reducible apply r_one); exact rfl; exact .tmp rfl .nil; exact .s (.pv _); exact hS; refine ⟨rfl, _, rfl, ?_⟩); rfl)
        | some d =>
          obtain ⟨hh, t, ht, h0, h1, hn0⟩ := inc_none hi hd
          show awp _ _ _ _ _ (St L 110 [(0, row 1 (l.map encC)), (1, .a (rA x))] S [])
          repeat' (first
    | (with_reducible refine want_none ?_)
    | (with_reducible refine c_seq ?_)
    | (with_reducible refine c_region ?_)
    | ((with_reducible refine c_regionD ?_ ?_ ?_ ?_); (kernel_rfl); (exact rfl); (exact rfl))
    | (with_reducible refine c_block ?_)
    | (with_reducible refine aops_nil ?_)
    | (with_reducible refine k_normal ?_)
    | (with_reducible refine c_skip ?_)
    | (with_reducible refine c_exit ?_)
    | (with_reducible refine c_ret ?_)
    | (with_reducible refine k_ret ?_)
    | (with_reducible refine k_exit ?_)
    | (with_reducible refine kl_ret ?_)
    | (with_reducible refine kl_exit ?_)
    | (with_reducible refine kr_ret ?_)
    | (with_reducible refine kr_exit ?_)
    | (with_reducible refine kb_normal ?_)
    | (with_reducible refine kb_ret ?_)
    | (with_reducible refine kb_hit ?_)
    | ((with_reducible refine kb_miss ?_ ?_); exact rfl)
    | ((with_reducible apply want_run); exact rfl; exact rfl)
    | ((with_reducible apply want_skip); exact rfl; exact rfl; exact rfl)
    | ((with_reducible apply want_out); exact rfl; exact rfl; exact rfl)
    | ((with_reducible apply want_forkF); exact rfl; exact rfl; exact rfl; (first | exact Bp.not Bp.dec | exact Bp.dec | exact Bp.not Bp.bool | exact Bp.bool); all_goals intro hc)
    | ((with_reducible apply want_forkT); exact rfl; exact rfl; exact rfl; (first | exact Bp.not Bp.dec | exact Bp.dec | exact Bp.not Bp.bool | exact Bp.bool); all_goals intro hc)
    | ((with_reducible apply st_callv); exact rfl; exact rfl; exact rfl; exact rfl; exact hfix; (rintro v rfl)) | ((with_reducible apply st_callv); exact rfl; exact rfl; exact rfl; exact rfl; exact smallC_AC (some l); (rintro v rfl); rw [hsm]) | ((with_reducible apply st_callv); exact rfl; exact rfl; exact rfl; exact rfl; exact refMayC_AC (some l); (rintro v rfl); rw [hmay]) | ((with_reducible apply st_callv); exact rfl; exact rfl; exact rfl; exact rfl; exact incC_AC (some l) x; (rintro v rfl); rw [turnCV_eq, hi]) | ((with_reducible apply st_callv); exact rfl; exact rfl; exact rfl; exact rfl; exact decC_AC (some l) x; (rintro v rfl); rw [turnCV_eq, hd]) | (with_reducible refine q_nil ?_) | ((with_reducible apply q_one); exact rfl; exact rfl) | ((with_reducible apply q_callS); exact rfl; exact rfl; exact rfl) | ((with_reducible apply q_callO); exact rfl; exact rfl; exact rfl) | ((with_reducible refine c_regionQ ?_ ?_); (decide +kernel)) | ((with_reducible apply q_call); exact rfl; (with_reducible apply acq); exact rfl; exact rfl; exact rfl; exact hasC_AC (some l) x; exact rfl; (refine put_some rfl ?_); rw [hh]) | ((with_reducible apply q_callR); exact rfl; exact rfl; exact rfl; (with_reducible apply acq); exact rfl; exact rfl; exact rfl; exact hasC_AC (some l) x; exact rfl; (refine put_some rfl ?_); rw [hh]) | ((with_reducible apply q_call); exact rfl; (with_reducible apply acq); exact rfl; exact rfl; exact rfl; exact refCount_AC t x.pos; exact rfl; (refine put_some rfl ?_); rw [hn0]) | ((with_reducible apply q_callR); exact rfl; exact rfl; exact rfl; (with_reducible apply acq); exact rfl; exact rfl; exact rfl; exact refCount_AC t x.pos; exact rfl; (refine put_some rfl ?_); rw [hn0])
    | ((with_reducible apply st_alloc); exact rfl; exact rfl; exact rfl; exact rfl)
    | ((with_reducible apply st_box); exact rfl; exact rfl; exact rfl; exact rfl)
    | ((with_reducible apply st_loadpelK); exact rfl; exact rfl; assumption; exact rfl; exact rfl)
    | ((with_reducible apply st_loadpel); exact rfl; exact rfl; omega; exact rfl; (intro u hu; refine ⟨_, rfl, ?_⟩; try simp only [Int.toNat_natCast] at hu))
    | ((with_reducible apply st_load); exact rfl; exact rfl; exact rfl; exact rfl; exact rfl)
    | ((with_reducible apply st_store); exact rfl; exact rfl; exact rfl; exact rfl; exact rfl; exact rfl)
    | ((with_reducible apply st_idx); exact rfl; exact rfl; exact rfl; exact rfl; exact rfl; omega)
    | ((with_reducible apply st_len RdT.ok); exact rfl; exact rfl; exact rfl; intro hlen)
    | ((with_reducible apply st_lennil RdT.ok); exact rfl; exact rfl; exact rfl)
    | ((with_reducible apply st_add); exact rfl; exact rfl; exact rfl; omega)
    | ((with_reducible apply st_sub); exact rfl; exact rfl; exact rfl; omega)
    | ((with_reducible apply st_q RdT.ok); exact rfl; exact rfl)
    | ((with_reducible apply c_condT); exact rfl)
    | ((with_reducible apply c_condF); exact rfl)
    | ((with_reducible apply c_cond); exact rfl; (first | exact Bp.not Bp.dec | exact Bp.dec | exact Bp.not Bp.bool | exact Bp.bool); all_goals intro hc))
          all_goals first
            | (exfalso; omega)
            | (((with_reducible apply r_one); exact rfl; exact .tmp rfl .nil; exact .s (.pv _); exact hS; refine ⟨rfl, _, rfl, ?_⟩); first | rfl | exact congrArg Rd.bool (decide_eq_true (by omega)))
      | some c =>
        obtain ⟨t, m, ht, h0, h1, hc0, hm, hmt, hb⟩ := turnC_back hi
        have hs := sameC_set ht
        have hcl : c.length = l.length := by rw [hc0, List.length_set]
        have hcm : c[x.chunk.toNat]? = some (some m) := by rw [hc0, List.getElem?_set_self (by omega)]
        have hct := turnO_count hm
        have hcr := count_range (at' := x.pos) hmt
        obtain ⟨n0, hn0⟩ : ∃ n, count t x.pos = n := ⟨_, rfl⟩
        rw [hn0] at hct hcr
        obtain ⟨b, hbb⟩ : ∃ b, l.set x.chunk.toNat (some (t.getD [])) = b := ⟨_, rfl⟩
        rw [hbb] at hb hs
        clear hc0
        show awp _ _ _ _ _ (St L 110 [(0, row 1 (l.map encC)), (1, .a (rA x))] S [])
        repeat' (first
    | (with_reducible refine want_none ?_)
    | (with_reducible refine c_seq ?_)
    | (with_reducible refine c_region ?_)
    | ((with_reducible refine c_regionD ?_ ?_ ?_ ?_); (kernel_rfl); (exact rfl); (exact rfl))
    | (with_reducible refine c_block ?_)
    | (with_reducible refine aops_nil ?_)
    | (with_reducible refine k_normal ?_)
    | (with_reducible refine c_skip ?_)
    | (with_reducible refine c_exit ?_)
    | (with_reducible refine c_ret ?_)
    | (with_reducible refine k_ret ?_)
    | (with_reducible refine k_exit ?_)
    | (with_reducible refine kl_ret ?_)
    | (with_reducible refine kl_exit ?_)
    | (with_reducible refine kr_ret ?_)
    | (with_reducible refine kr_exit ?_)
    | (with_reducible refine kb_normal ?_)
    | (with_reducible refine kb_ret ?_)
    | (with_reducible refine kb_hit ?_)
    | ((with_reducible refine kb_miss ?_ ?_); exact rfl)
    | ((with_reducible apply want_run); exact rfl; exact rfl)
    | ((with_reducible apply want_skip); exact rfl; exact rfl; exact rfl)
    | ((with_reducible apply want_out); exact rfl; exact rfl; exact rfl)
    | ((with_reducible apply want_forkF); exact rfl; exact rfl; exact rfl; (first | exact Bp.not Bp.dec | exact Bp.dec | exact Bp.not Bp.bool | exact Bp.bool); all_goals intro hc)
    | ((with_reducible apply want_forkT); exact rfl; exact rfl; exact rfl; (first | exact Bp.not Bp.dec | exact Bp.dec | exact Bp.not Bp.bool | exact Bp.bool); all_goals intro hc)
    | ((with_reducible apply st_callv); exact rfl; exact rfl; exact rfl; exact rfl; exact hfix; (rintro v rfl)) | ((with_reducible apply st_callv); exact rfl; exact rfl; exact rfl; exact rfl; exact smallC_AC (some l); (rintro v rfl); rw [hsm]) | ((with_reducible apply st_callv); exact rfl; exact rfl; exact rfl; exact rfl; exact refMayC_AC (some l); (rintro v rfl); rw [hmay]) | ((with_reducible apply st_callv); exact rfl; exact rfl; exact rfl; exact rfl; exact incC_AC (some l) x; (rintro v rfl); rw [turnCV_eq, hi]) | ((with_reducible apply st_callv); exact rfl; exact rfl; exact rfl; exact rfl; exact decC_AC (some c) x; (rintro v rfl); rw [turnCV_eq, hb]) | (with_reducible refine q_nil ?_) | ((with_reducible apply q_one); exact rfl; exact rfl) | ((with_reducible apply q_callS); exact rfl; exact rfl; exact rfl) | ((with_reducible apply q_callO); exact rfl; exact rfl; exact rfl) | ((with_reducible refine c_regionQ ?_ ?_); (decide +kernel)) | ((with_reducible apply q_call); exact rfl; (with_reducible apply acq); exact rfl; exact rfl; exact rfl; exact sameC_AC (some b) (some l); exact rfl; (refine put_some rfl ?_); rw [hs]) | ((with_reducible apply q_callR); exact rfl; exact rfl; exact rfl; (with_reducible apply acq); exact rfl; exact rfl; exact rfl; exact sameC_AC (some b) (some l); exact rfl; (refine put_some rfl ?_); rw [hs]) | ((with_reducible apply q_call); exact rfl; (with_reducible apply acq); exact rfl; exact rfl; exact rfl; exact refCount_AC (some m) x.pos; exact rfl; (refine put_some rfl ?_); rw [hct]) | ((with_reducible apply q_callR); exact rfl; exact rfl; exact rfl; (with_reducible apply acq); exact rfl; exact rfl; exact rfl; exact refCount_AC (some m) x.pos; exact rfl; (refine put_some rfl ?_); rw [hct]) | ((with_reducible apply q_call); exact rfl; (with_reducible apply acq); exact rfl; exact rfl; exact rfl; exact refCount_AC t x.pos; exact rfl; (refine put_some rfl ?_); rw [hn0]) | ((with_reducible apply q_callR); exact rfl; exact rfl; exact rfl; (with_reducible apply acq); exact rfl; exact rfl; exact rfl; exact refCount_AC t x.pos; exact rfl; (refine put_some rfl ?_); rw [hn0])
    | ((with_reducible apply st_alloc); exact rfl; exact rfl; exact rfl; exact rfl)
    | ((with_reducible apply st_box); exact rfl; exact rfl; exact rfl; exact rfl)
    | ((with_reducible apply st_loadpelK); exact rfl; exact rfl; assumption; exact rfl; exact rfl)
    | ((with_reducible apply st_loadpel); exact rfl; exact rfl; omega; exact rfl; (intro u hu; refine ⟨_, rfl, ?_⟩; try simp only [Int.toNat_natCast] at hu))
    | ((with_reducible apply st_load); exact rfl; exact rfl; exact rfl; exact rfl; exact rfl)
    | ((with_reducible apply st_store); exact rfl; exact rfl; exact rfl; exact rfl; exact rfl; exact rfl)
    | ((with_reducible apply st_idx); exact rfl; exact rfl; exact rfl; exact rfl; exact rfl; omega)
    | ((with_reducible apply st_len RdT.ok); exact rfl; exact rfl; exact rfl; intro hlen)
    | ((with_reducible apply st_lennil RdT.ok); exact rfl; exact rfl; exact rfl)
    | ((with_reducible apply st_add); exact rfl; exact rfl; exact rfl; omega)
    | ((with_reducible apply st_sub); exact rfl; exact rfl; exact rfl; omega)
    | ((with_reducible apply st_q RdT.ok); exact rfl; exact rfl)
    | ((with_reducible apply c_condT); exact rfl)
    | ((with_reducible apply c_condF); exact rfl)
    | ((with_reducible apply c_cond); exact rfl; (first | exact Bp.not Bp.dec | exact Bp.dec | exact Bp.not Bp.bool | exact Bp.bool); all_goals intro hc))
        all_goals first
          | (exfalso; omega)
          | (((with_reducible apply r_one); exact rfl; exact .tmp rfl .nil; exact .s (.pv _); exact hS; refine ⟨rfl, _, rfl, ?_⟩); first | rfl | exact congrArg Rd.bool (decide_eq_true (by omega)))
end Go.Proofs.Ytfdaioinghfjpaa
