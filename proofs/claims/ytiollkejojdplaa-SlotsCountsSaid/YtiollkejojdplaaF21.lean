/- Contracts: the law of counts. -/
import Derived.Test.YtiollkejojdplaaP2
namespace Go.Proofs.Ytiollkejojdplaa
open Go.Rd Go.RowKit
set_option maxRecDepth 20000
set_option linter.unusedSimpArgs false
set_option maxHeartbeats 4000000

theorem slotsCounts_AC (o : Option (List U)) (at' x : Int) : ACv Try.prog 8 [uA o, .s (.pv (.lit (.int .i64 at'))), .s (.pv (.lit (.int .i64 x)))] fun v => v = Rd.bool true := by
  intro L S hL
  refine fn_St (n := 95) (rs := [.tmp 6]) hands_val RdT.ok RdT.mixed Try.func8 rfl (by kernel_rfl) rfl rfl rfl (by omega) ?_
  intro hS
  cases hmay : may o with
  | false =>
    cases o with
    | none => cases hmay
    | some l =>
      show awp _ _ _ _ _ (St L 95 [(0, row 4 (l.map encU)), (1, int at'), (2, int x)] S [])
      repeat' (first
    | (with_reducible refine want_none ?_)
    | (with_reducible refine c_seq ?_)
    | (with_reducible refine c_region ?_)
    | ((with_reducible refine c_regionD ?_ ?_ ?_); (kernel_rfl); (exact rfl))
    | (with_reducible refine c_block ?_)
    | (with_reducible refine aops_nil ?_)
    | (with_reducible refine k_normal ?_)
    | (with_reducible refine c_skip ?_)
    | (with_reducible refine c_exit ?_)
    | (with_reducible refine c_ret ?_)
    | (with_reducible refine k_ret ?_)
    | (with_reducible refine k_exit ?_)
    | (with_reducible refine kl_ret ?_)
    | (with_reducible refine kl_exit ?_)
    | (with_reducible refine kr_ret ?_)
    | (with_reducible refine kr_exit ?_)
    | (with_reducible refine kb_normal ?_)
    | (with_reducible refine kb_ret ?_)
    | (with_reducible refine kb_hit ?_)
    | ((with_reducible refine kb_miss ?_ ?_); exact rfl)
    | ((with_reducible apply want_run); exact rfl; exact rfl)
    | ((with_reducible apply want_skip); exact rfl; exact rfl; exact rfl)
    | ((with_reducible apply want_out); exact rfl; exact rfl; exact rfl)
    | ((with_reducible apply want_forkF); exact rfl; exact rfl; exact rfl; (first | exact Bp.not Bp.dec | exact Bp.dec | exact Bp.not Bp.bool | exact Bp.bool); all_goals intro hc)
    | ((with_reducible apply want_forkT); exact rfl; exact rfl; exact rfl; (first | exact Bp.not Bp.dec | exact Bp.dec | exact Bp.not Bp.bool | exact Bp.bool); all_goals intro hc)
    | ((with_reducible apply st_callv); exact rfl; exact rfl; exact rfl; exact rfl; exact fixed_AC; (rintro v rfl)) | ((with_reducible apply st_callv); exact rfl; exact rfl; exact rfl; exact rfl; exact refMay_AC (some l); (rintro v rfl); rw [hmay])
    | ((with_reducible apply st_alloc); exact rfl; exact rfl; exact rfl; exact rfl)
    | ((with_reducible apply st_box); exact rfl; exact rfl; exact rfl; exact rfl)
    | ((with_reducible apply st_loadpelK); exact rfl; exact rfl; assumption; exact rfl; exact rfl)
    | ((with_reducible apply st_loadpel); exact rfl; exact rfl; omega; exact rfl; (intro u hu; refine ⟨_, rfl, ?_⟩; try simp only [Int.toNat_natCast] at hu))
    | ((with_reducible apply st_load); exact rfl; exact rfl; exact rfl; exact rfl; exact rfl)
    | ((with_reducible apply st_store); exact rfl; exact rfl; exact rfl; exact rfl; exact rfl; exact rfl)
    | ((with_reducible apply st_idx); exact rfl; exact rfl; exact rfl; exact rfl; exact rfl; omega)
    | ((with_reducible apply st_len RdT.ok); exact rfl; exact rfl; exact rfl; intro hlen)
    | ((with_reducible apply st_lennil RdT.ok); exact rfl; exact rfl; exact rfl)
    | ((with_reducible apply st_add); exact rfl; exact rfl; exact rfl; omega)
    | ((with_reducible apply st_sub); exact rfl; exact rfl; exact rfl; omega)
    | ((with_reducible apply st_q RdT.ok); exact rfl; exact rfl)
    | ((with_reducible apply c_condT); exact rfl)
    | ((with_reducible apply c_condF); exact rfl)
    | ((with_reducible apply c_cond); exact rfl; (first | exact Bp.not Bp.dec | exact Bp.dec | exact Bp.not Bp.bool | exact Bp.bool); all_goals intro hc))
      all_goals (((with_reducible apply r_one); exact rfl; exact .tmp rfl .nil; exact .s (.pv _); exact hS; refine ⟨rfl, _, rfl, ?_⟩); rfl)
  | true =>
    have hra := count_range (at' := at') hmay
    have hia := turnO_inc_iff (at' := at') hmay
    have hib := turnO_dec_iff (at' := at') hmay
    have hca := fun a (h : turnO o at' 1 = some a) => turnO_count h
    have hcb := fun a (h : turnO o at' (-1) = some a) => turnO_count h
    have hxa := fun a (h : turnO o at' 1 = some a) (hx : x ≠ at') => turnO_other hx h
    have hxb := fun a (h : turnO o at' (-1) = some a) (hx : x ≠ at') => turnO_other hx h
    obtain ⟨c, hcN⟩ : ∃ c, count o at' = c := ⟨_, rfl⟩
    obtain ⟨y, hcX⟩ : ∃ c, count o x = c := ⟨_, rfl⟩
    rw [hcN] at hra hia hib hca hcb
    rw [hcX] at hxa hxb
    cases hta : turnO o at' 1 with
    | none =>
      rw [hta, Option.isSome_none] at hia
      have hia1 := of_decide_eq_false hia.symm
      clear hia
      cases htb : turnO o at' (-1) with
      | none =>
        rw [htb, Option.isSome_none] at hib
        have hib1 := of_decide_eq_false hib.symm
        clear hib hca hcb hxa hxb
        cases o with
        | none =>
          show awp _ _ _ _ _ (St L 95 [(0, .a (uA none)), (1, int at'), (2, int x)] S [])
          repeat' (first
    | (with_reducible refine want_none ?_)
    | (with_reducible refine c_seq ?_)
    | (with_reducible refine c_region ?_)
    | ((with_reducible refine c_regionD ?_ ?_ ?_); (kernel_rfl); (exact rfl))
    | (with_reducible refine c_block ?_)
    | (with_reducible refine aops_nil ?_)
    | (with_reducible refine k_normal ?_)
    | (with_reducible refine c_skip ?_)
    | (with_reducible refine c_exit ?_)
    | (with_reducible refine c_ret ?_)
    | (with_reducible refine k_ret ?_)
    | (with_reducible refine k_exit ?_)
    | (with_reducible refine kl_ret ?_)
    | (with_reducible refine kl_exit ?_)
    | (with_reducible refine kr_ret ?_)
    | (with_reducible refine kr_exit ?_)
    | (with_reducible refine kb_normal ?_)
    | (with_reducible refine kb_ret ?_)
    | (with_reducible refine kb_hit ?_)
    | ((with_reducible refine kb_miss ?_ ?_); exact rfl)
    | ((with_reducible apply want_run); exact rfl; exact rfl)
    | ((with_reducible apply want_skip); exact rfl; exact rfl; exact rfl)
    | ((with_reducible apply want_out); exact rfl; exact rfl; exact rfl)
    | ((with_reducible apply want_forkF); exact rfl; exact rfl; exact rfl; (first | exact Bp.not Bp.dec | exact Bp.dec | exact Bp.not Bp.bool | exact Bp.bool); all_goals intro hc)
    | ((with_reducible apply want_forkT); exact rfl; exact rfl; exact rfl; (first | exact Bp.not Bp.dec | exact Bp.dec | exact Bp.not Bp.bool | exact Bp.bool); all_goals intro hc)
    | ((with_reducible apply st_callv); exact rfl; exact rfl; exact rfl; exact rfl; exact fixed_AC; (rintro v rfl)) | ((with_reducible apply st_callv); exact rfl; exact rfl; exact rfl; exact rfl; exact refMay_AC none; (rintro v rfl); rw [hmay]) | ((with_reducible apply st_callv); exact rfl; exact rfl; exact rfl; exact rfl; exact incO_AC none at'; (rintro v rfl); rw [hta]) | ((with_reducible apply st_callv); exact rfl; exact rfl; exact rfl; exact rfl; exact decO_AC none at'; (rintro v rfl); rw [htb]) | ((with_reducible apply st_callv); exact rfl; exact rfl; exact rfl; exact rfl; exact count_AC none at'; (rintro v rfl); rw [hcN]) | ((with_reducible apply st_callv); exact rfl; exact rfl; exact rfl; exact rfl; exact count_AC none x; (rintro v rfl); rw [hcX]) | ((with_reducible apply st_callv); exact rfl; exact rfl; exact rfl; exact rfl; exact count_AC (some a) at'; (rintro v rfl); rw [hca1]) | ((with_reducible apply st_callv); exact rfl; exact rfl; exact rfl; exact rfl; exact count_AC (some a) x; (rintro v rfl); rw [hxa1 (by omega)]) | ((with_reducible apply st_callv); exact rfl; exact rfl; exact rfl; exact rfl; exact count_AC (some b) at'; (rintro v rfl); rw [hcb1]) | ((with_reducible apply st_callv); exact rfl; exact rfl; exact rfl; exact rfl; exact count_AC (some b) x; (rintro v rfl); rw [hxb1 (by omega)])
    | ((with_reducible apply st_alloc); exact rfl; exact rfl; exact rfl; exact rfl)
    | ((with_reducible apply st_box); exact rfl; exact rfl; exact rfl; exact rfl)
    | ((with_reducible apply st_loadpelK); exact rfl; exact rfl; assumption; exact rfl; exact rfl)
    | ((with_reducible apply st_loadpel); exact rfl; exact rfl; omega; exact rfl; (intro u hu; refine ⟨_, rfl, ?_⟩; try simp only [Int.toNat_natCast] at hu))
    | ((with_reducible apply st_load); exact rfl; exact rfl; exact rfl; exact rfl; exact rfl)
    | ((with_reducible apply st_store); exact rfl; exact rfl; exact rfl; exact rfl; exact rfl; exact rfl)
    | ((with_reducible apply st_idx); exact rfl; exact rfl; exact rfl; exact rfl; exact rfl; omega)
    | ((with_reducible apply st_len RdT.ok); exact rfl; exact rfl; exact rfl; intro hlen)
    | ((with_reducible apply st_lennil RdT.ok); exact rfl; exact rfl; exact rfl)
    | ((with_reducible apply st_add); exact rfl; exact rfl; exact rfl; omega)
    | ((with_reducible apply st_sub); exact rfl; exact rfl; exact rfl; omega)
    | ((with_reducible apply st_q RdT.ok); exact rfl; exact rfl)
    | ((with_reducible apply c_condT); exact rfl)
    | ((with_reducible apply c_condF); exact rfl)
    | ((with_reducible apply c_cond); exact rfl; (first | exact Bp.not Bp.dec | exact Bp.dec | exact Bp.not Bp.bool | exact Bp.bool); all_goals intro hc))
          all_goals try (exfalso; omega)
          all_goals try (exfalso; clear hS hmay; simp_all; done)
          all_goals first
            | (((with_reducible apply r_one); exact rfl; exact .tmp rfl .nil; exact .s (.pv _); exact hS; refine ⟨rfl, _, rfl, ?_⟩); first | rfl | exact congrArg Rd.bool (decide_eq_true (by omega)) | (refine congrArg Rd.bool ?_; simp_all; done) | (refine congrArg Rd.bool ?_; simp_all; omega))
        | some l =>
          show awp _ _ _ _ _ (St L 95 [(0, .a (uA (some l))), (1, int at'), (2, int x)] S [])
          repeat' (first
    | (with_reducible refine want_none ?_)
    | (with_reducible refine c_seq ?_)
    | (with_reducible refine c_region ?_)
    | ((with_reducible refine c_regionD ?_ ?_ ?_); (kernel_rfl); (exact rfl))
    | (with_reducible refine c_block ?_)
    | (with_reducible refine aops_nil ?_)
    | (with_reducible refine k_normal ?_)
    | (with_reducible refine c_skip ?_)
    | (with_reducible refine c_exit ?_)
    | (with_reducible refine c_ret ?_)
    | (with_reducible refine k_ret ?_)
    | (with_reducible refine k_exit ?_)
    | (with_reducible refine kl_ret ?_)
    | (with_reducible refine kl_exit ?_)
    | (with_reducible refine kr_ret ?_)
    | (with_reducible refine kr_exit ?_)
    | (with_reducible refine kb_normal ?_)
    | (with_reducible refine kb_ret ?_)
    | (with_reducible refine kb_hit ?_)
    | ((with_reducible refine kb_miss ?_ ?_); exact rfl)
    | ((with_reducible apply want_run); exact rfl; exact rfl)
    | ((with_reducible apply want_skip); exact rfl; exact rfl; exact rfl)
    | ((with_reducible apply want_out); exact rfl; exact rfl; exact rfl)
    | ((with_reducible apply want_forkF); exact rfl; exact rfl; exact rfl; (first | exact Bp.not Bp.dec | exact Bp.dec | exact Bp.not Bp.bool | exact Bp.bool); all_goals intro hc)
    | ((with_reducible apply want_forkT); exact rfl; exact rfl; exact rfl; (first | exact Bp.not Bp.dec | exact Bp.dec | exact Bp.not Bp.bool | exact Bp.bool); all_goals intro hc)
    | ((with_reducible apply st_callv); exact rfl; exact rfl; exact rfl; exact rfl; exact fixed_AC; (rintro v rfl)) | ((with_reducible apply st_callv); exact rfl; exact rfl; exact rfl; exact rfl; exact refMay_AC (some l); (rintro v rfl); rw [hmay]) | ((with_reducible apply st_callv); exact rfl; exact rfl; exact rfl; exact rfl; exact incO_AC (some l) at'; (rintro v rfl); rw [hta]) | ((with_reducible apply st_callv); exact rfl; exact rfl; exact rfl; exact rfl; exact decO_AC (some l) at'; (rintro v rfl); rw [htb]) | ((with_reducible apply st_callv); exact rfl; exact rfl; exact rfl; exact rfl; exact count_AC (some l) at'; (rintro v rfl); rw [hcN]) | ((with_reducible apply st_callv); exact rfl; exact rfl; exact rfl; exact rfl; exact count_AC (some l) x; (rintro v rfl); rw [hcX]) | ((with_reducible apply st_callv); exact rfl; exact rfl; exact rfl; exact rfl; exact count_AC (some a) at'; (rintro v rfl); rw [hca1]) | ((with_reducible apply st_callv); exact rfl; exact rfl; exact rfl; exact rfl; exact count_AC (some a) x; (rintro v rfl); rw [hxa1 (by omega)]) | ((with_reducible apply st_callv); exact rfl; exact rfl; exact rfl; exact rfl; exact count_AC (some b) at'; (rintro v rfl); rw [hcb1]) | ((with_reducible apply st_callv); exact rfl; exact rfl; exact rfl; exact rfl; exact count_AC (some b) x; (rintro v rfl); rw [hxb1 (by omega)])
    | ((with_reducible apply st_alloc); exact rfl; exact rfl; exact rfl; exact rfl)
    | ((with_reducible apply st_box); exact rfl; exact rfl; exact rfl; exact rfl)
    | ((with_reducible apply st_loadpelK); exact rfl; exact rfl; assumption; exact rfl; exact rfl)
    | ((with_reducible apply st_loadpel); exact rfl; exact rfl; omega; exact rfl; (intro u hu; refine ⟨_, rfl, ?_⟩; try simp only [Int.toNat_natCast] at hu))
    | ((with_reducible apply st_load); exact rfl; exact rfl; exact rfl; exact rfl; exact rfl)
    | ((with_reducible apply st_store); exact rfl; exact rfl; exact rfl; exact rfl; exact rfl; exact rfl)
    | ((with_reducible apply st_idx); exact rfl; exact rfl; exact rfl; exact rfl; exact rfl; omega)
    | ((with_reducible apply st_len RdT.ok); exact rfl; exact rfl; exact rfl; intro hlen)
    | ((with_reducible apply st_lennil RdT.ok); exact rfl; exact rfl; exact rfl)
    | ((with_reducible apply st_add); exact rfl; exact rfl; exact rfl; omega)
    | ((with_reducible apply st_sub); exact rfl; exact rfl; exact rfl; omega)
    | ((with_reducible apply st_q RdT.ok); exact rfl; exact rfl)
    | ((with_reducible apply c_condT); exact rfl)
    | ((with_reducible apply c_condF); exact rfl)
    | ((with_reducible apply c_cond); exact rfl; (first | exact Bp.not Bp.dec | exact Bp.dec | exact Bp.not Bp.bool | exact Bp.bool); all_goals intro hc))
          all_goals try (exfalso; omega)
          all_goals try (exfalso; clear hS hmay; simp_all; done)
          all_goals first
            | (((with_reducible apply r_one); exact rfl; exact .tmp rfl .nil; exact .s (.pv _); exact hS; refine ⟨rfl, _, rfl, ?_⟩); first | rfl | exact congrArg Rd.bool (decide_eq_true (by omega)) | (refine congrArg Rd.bool ?_; simp_all; done) | (refine congrArg Rd.bool ?_; simp_all; omega))
      | some b =>
        rw [htb, Option.isSome_some] at hib
        have hib1 := of_decide_eq_true hib.symm
        have hcb1 := hcb b htb
        have hxb1 := hxb b htb
        clear hib hca hcb hxa hxb
        cases o with
        | none => cases htb
        | some l =>
          show awp _ _ _ _ _ (St L 95 [(0, .a (uA (some l))), (1, int at'), (2, int x)] S [])
          repeat' (first
    | (with_reducible refine want_none ?_)
    | (with_reducible refine c_seq ?_)
    | (with_reducible refine c_region ?_)
    | ((with_reducible refine c_regionD ?_ ?_ ?_); (kernel_rfl); (exact rfl))
    | (with_reducible refine c_block ?_)
    | (with_reducible refine aops_nil ?_)
    | (with_reducible refine k_normal ?_)
    | (with_reducible refine c_skip ?_)
    | (with_reducible refine c_exit ?_)
    | (with_reducible refine c_ret ?_)
    | (with_reducible refine k_ret ?_)
    | (with_reducible refine k_exit ?_)
    | (with_reducible refine kl_ret ?_)
    | (with_reducible refine kl_exit ?_)
    | (with_reducible refine kr_ret ?_)
    | (with_reducible refine kr_exit ?_)
    | (with_reducible refine kb_normal ?_)
    | (with_reducible refine kb_ret ?_)
    | (with_reducible refine kb_hit ?_)
    | ((with_reducible refine kb_miss ?_ ?_); exact rfl)
    | ((with_reducible apply want_run); exact rfl; exact rfl)
    | ((with_reducible apply want_skip); exact rfl; exact rfl; exact rfl)
    | ((with_reducible apply want_out); exact rfl; exact rfl; exact rfl)
    | ((with_reducible apply want_forkF); exact rfl; exact rfl; exact rfl; (first | exact Bp.not Bp.dec | exact Bp.dec | exact Bp.not Bp.bool | exact Bp.bool); all_goals intro hc)
    | ((with_reducible apply want_forkT); exact rfl; exact rfl; exact rfl; (first | exact Bp.not Bp.dec | exact Bp.dec | exact Bp.not Bp.bool | exact Bp.bool); all_goals intro hc)
    | ((with_reducible apply st_callv); exact rfl; exact rfl; exact rfl; exact rfl; exact fixed_AC; (rintro v rfl)) | ((with_reducible apply st_callv); exact rfl; exact rfl; exact rfl; exact rfl; exact refMay_AC (some l); (rintro v rfl); rw [hmay]) | ((with_reducible apply st_callv); exact rfl; exact rfl; exact rfl; exact rfl; exact incO_AC (some l) at'; (rintro v rfl); rw [hta]) | ((with_reducible apply st_callv); exact rfl; exact rfl; exact rfl; exact rfl; exact decO_AC (some l) at'; (rintro v rfl); rw [htb]) | ((with_reducible apply st_callv); exact rfl; exact rfl; exact rfl; exact rfl; exact count_AC (some l) at'; (rintro v rfl); rw [hcN]) | ((with_reducible apply st_callv); exact rfl; exact rfl; exact rfl; exact rfl; exact count_AC (some l) x; (rintro v rfl); rw [hcX]) | ((with_reducible apply st_callv); exact rfl; exact rfl; exact rfl; exact rfl; exact count_AC (some a) at'; (rintro v rfl); rw [hca1]) | ((with_reducible apply st_callv); exact rfl; exact rfl; exact rfl; exact rfl; exact count_AC (some a) x; (rintro v rfl); rw [hxa1 (by omega)]) | ((with_reducible apply st_callv); exact rfl; exact rfl; exact rfl; exact rfl; exact count_AC (some b) at'; (rintro v rfl); rw [hcb1]) | ((with_reducible apply st_callv); exact rfl; exact rfl; exact rfl; exact rfl; exact count_AC (some b) x; (rintro v rfl); rw [hxb1 (by omega)])
    | ((with_reducible apply st_alloc); exact rfl; exact rfl; exact rfl; exact rfl)
    | ((with_reducible apply st_box); exact rfl; exact rfl; exact rfl; exact rfl)
    | ((with_reducible apply st_loadpelK); exact rfl; exact rfl; assumption; exact rfl; exact rfl)
    | ((with_reducible apply st_loadpel); exact rfl; exact rfl; omega; exact rfl; (intro u hu; refine ⟨_, rfl, ?_⟩; try simp only [Int.toNat_natCast] at hu))
    | ((with_reducible apply st_load); exact rfl; exact rfl; exact rfl; exact rfl; exact rfl)
    | ((with_reducible apply st_store); exact rfl; exact rfl; exact rfl; exact rfl; exact rfl; exact rfl)
    | ((with_reducible apply st_idx); exact rfl; exact rfl; exact rfl; exact rfl; exact rfl; omega)
    | ((with_reducible apply st_len RdT.ok); exact rfl; exact rfl; exact rfl; intro hlen)
    | ((with_reducible apply st_lennil RdT.ok); exact rfl; exact rfl; exact rfl)
    | ((with_reducible apply st_add); exact rfl; exact rfl; exact rfl; omega)
    | ((with_reducible apply st_sub); exact rfl; exact rfl; exact rfl; omega)
    | ((with_reducible apply st_q RdT.ok); exact rfl; exact rfl)
    | ((with_reducible apply c_condT); exact rfl)
    | ((with_reducible apply c_condF); exact rfl)
    | ((with_reducible apply c_cond); exact rfl; (first | exact Bp.not Bp.dec | exact Bp.dec | exact Bp.not Bp.bool | exact Bp.bool); all_goals intro hc))
          all_goals try (exfalso; omega)
          all_goals try (exfalso; clear hS hmay; simp_all; done)
          all_goals first
            | (((with_reducible apply r_one); exact rfl; exact .tmp rfl .nil; exact .s (.pv _); exact hS; refine ⟨rfl, _, rfl, ?_⟩); first | rfl | exact congrArg Rd.bool (decide_eq_true (by omega)) | (refine congrArg Rd.bool ?_; simp_all; done) | (refine congrArg Rd.bool ?_; simp_all; omega))
    | some a =>
      rw [hta, Option.isSome_some] at hia
      have hia1 := of_decide_eq_true hia.symm
      have hca1 := hca a hta
      have hxa1 := hxa a hta
      clear hia
      cases htb : turnO o at' (-1) with
      | none =>
        rw [htb, Option.isSome_none] at hib
        have hib1 := of_decide_eq_false hib.symm
        clear hib hca hcb hxa hxb
        omega
      | some b =>
        rw [htb, Option.isSome_some] at hib
        have hib1 := of_decide_eq_true hib.symm
        have hcb1 := hcb b htb
        have hxb1 := hxb b htb
        clear hib hca hcb hxa hxb
        cases o with
        | none => cases htb
        | some l =>
          show awp _ _ _ _ _ (St L 95 [(0, .a (uA (some l))), (1, int at'), (2, int x)] S [])
          repeat' (first
    | (with_reducible refine want_none ?_)
    | (with_reducible refine c_seq ?_)
    | (with_reducible refine c_region ?_)
    | ((with_reducible refine c_regionD ?_ ?_ ?_); (kernel_rfl); (exact rfl))
    | (with_reducible refine c_block ?_)
    | (with_reducible refine aops_nil ?_)
    | (with_reducible refine k_normal ?_)
    | (with_reducible refine c_skip ?_)
    | (with_reducible refine c_exit ?_)
    | (with_reducible refine c_ret ?_)
    | (with_reducible refine k_ret ?_)
    | (with_reducible refine k_exit ?_)
    | (with_reducible refine kl_ret ?_)
    | (with_reducible refine kl_exit ?_)
    | (with_reducible refine kr_ret ?_)
    | (with_reducible refine kr_exit ?_)
    | (with_reducible refine kb_normal ?_)
    | (with_reducible refine kb_ret ?_)
    | (with_reducible refine kb_hit ?_)
    | ((with_reducible refine kb_miss ?_ ?_); exact rfl)
    | ((with_reducible apply want_run); exact rfl; exact rfl)
    | ((with_reducible apply want_skip); exact rfl; exact rfl; exact rfl)
    | ((with_reducible apply want_out); exact rfl; exact rfl; exact rfl)
    | ((with_reducible apply want_forkF); exact rfl; exact rfl; exact rfl; (first | exact Bp.not Bp.dec | exact Bp.dec | exact Bp.not Bp.bool | exact Bp.bool); all_goals intro hc)
    | ((with_reducible apply want_forkT); exact rfl; exact rfl; exact rfl; (first | exact Bp.not Bp.dec | exact Bp.dec | exact Bp.not Bp.bool | exact Bp.bool); all_goals intro hc)
    | ((with_reducible apply st_callv); exact rfl; exact rfl; exact rfl; exact rfl; exact fixed_AC; (rintro v rfl)) | ((with_reducible apply st_callv); exact rfl; exact rfl; exact rfl; exact rfl; exact refMay_AC (some l); (rintro v rfl); rw [hmay]) | ((with_reducible apply st_callv); exact rfl; exact rfl; exact rfl; exact rfl; exact incO_AC (some l) at'; (rintro v rfl); rw [hta]) | ((with_reducible apply st_callv); exact rfl; exact rfl; exact rfl; exact rfl; exact decO_AC (some l) at'; (rintro v rfl); rw [htb]) | ((with_reducible apply st_callv); exact rfl; exact rfl; exact rfl; exact rfl; exact count_AC (some l) at'; (rintro v rfl); rw [hcN]) | ((with_reducible apply st_callv); exact rfl; exact rfl; exact rfl; exact rfl; exact count_AC (some l) x; (rintro v rfl); rw [hcX]) | ((with_reducible apply st_callv); exact rfl; exact rfl; exact rfl; exact rfl; exact count_AC (some a) at'; (rintro v rfl); rw [hca1]) | ((with_reducible apply st_callv); exact rfl; exact rfl; exact rfl; exact rfl; exact count_AC (some a) x; (rintro v rfl); rw [hxa1 (by omega)]) | ((with_reducible apply st_callv); exact rfl; exact rfl; exact rfl; exact rfl; exact count_AC (some b) at'; (rintro v rfl); rw [hcb1]) | ((with_reducible apply st_callv); exact rfl; exact rfl; exact rfl; exact rfl; exact count_AC (some b) x; (rintro v rfl); rw [hxb1 (by omega)])
    | ((with_reducible apply st_alloc); exact rfl; exact rfl; exact rfl; exact rfl)
    | ((with_reducible apply st_box); exact rfl; exact rfl; exact rfl; exact rfl)
    | ((with_reducible apply st_loadpelK); exact rfl; exact rfl; assumption; exact rfl; exact rfl)
    | ((with_reducible apply st_loadpel); exact rfl; exact rfl; omega; exact rfl; (intro u hu; refine ⟨_, rfl, ?_⟩; try simp only [Int.toNat_natCast] at hu))
    | ((with_reducible apply st_load); exact rfl; exact rfl; exact rfl; exact rfl; exact rfl)
    | ((with_reducible apply st_store); exact rfl; exact rfl; exact rfl; exact rfl; exact rfl; exact rfl)
    | ((with_reducible apply st_idx); exact rfl; exact rfl; exact rfl; exact rfl; exact rfl; omega)
    | ((with_reducible apply st_len RdT.ok); exact rfl; exact rfl; exact rfl; intro hlen)
    | ((with_reducible apply st_lennil RdT.ok); exact rfl; exact rfl; exact rfl)
    | ((with_reducible apply st_add); exact rfl; exact rfl; exact rfl; omega)
    | ((with_reducible apply st_sub); exact rfl; exact rfl; exact rfl; omega)
    | ((with_reducible apply st_q RdT.ok); exact rfl; exact rfl)
    | ((with_reducible apply c_condT); exact rfl)
    | ((with_reducible apply c_condF); exact rfl)
    | ((with_reducible apply c_cond); exact rfl; (first | exact Bp.not Bp.dec | exact Bp.dec | exact Bp.not Bp.bool | exact Bp.bool); all_goals intro hc))
          all_goals try (exfalso; omega)
          all_goals try (exfalso; clear hS hmay; simp_all; done)
          all_goals first
            | (((with_reducible apply r_one); exact rfl; exact .tmp rfl .nil; exact .s (.pv _); exact hS; refine ⟨rfl, _, rfl, ?_⟩); first | rfl | exact congrArg Rd.bool (decide_eq_true (by omega)) | (refine congrArg Rd.bool ?_; simp_all; done) | (refine congrArg Rd.bool ?_; simp_all; omega))
end Go.Proofs.Ytiollkejojdplaa
