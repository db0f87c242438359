/- Contracts: the law of what is free. -/
import Derived.Test.YtiollkejojdplaaF19
namespace Go.Proofs.Ytiollkejojdplaa
open Go.Rd Go.RowKit
set_option maxRecDepth 20000
set_option linter.unusedSimpArgs false
set_option maxHeartbeats 4000000

theorem slotsFree_AC (o : Option (List U)) (n : Int) : ACv Try.prog 7 [uA o, .s (.pv (.lit (.int .i64 n)))] fun v => v = Rd.bool true := by
  intro L S hL
  refine fn_St (n := 77) (rs := [.tmp 4]) hands_val RdT.ok RdT.mixed Try.func7 rfl (by kernel_rfl) rfl rfl rfl (by omega) ?_
  intro hS
  cases hmay : may o with
  | false =>
    cases o with
    | none => cases hmay
    | some l =>
      show awp _ _ _ _ _ (St L 77 [(0, row 4 (l.map encU)), (1, int n)] S [])
      repeat' (first
    | (with_reducible refine want_none ?_)
    | (with_reducible refine c_seq ?_)
    | (with_reducible refine c_region ?_)
    | ((with_reducible refine c_regionD ?_ ?_ ?_); (kernel_rfl); (exact rfl))
    | (with_reducible refine c_block ?_)
    | (with_reducible refine aops_nil ?_)
    | (with_reducible refine k_normal ?_)
    | (with_reducible refine c_skip ?_)
    | (with_reducible refine c_exit ?_)
    | (with_reducible refine c_ret ?_)
    | (with_reducible refine k_ret ?_)
    | (with_reducible refine k_exit ?_)
    | (with_reducible refine kl_ret ?_)
    | (with_reducible refine kl_exit ?_)
    | (with_reducible refine kr_ret ?_)
    | (with_reducible refine kr_exit ?_)
    | (with_reducible refine kb_normal ?_)
    | (with_reducible refine kb_ret ?_)
    | (with_reducible refine kb_hit ?_)
    | ((with_reducible refine kb_miss ?_ ?_); exact rfl)
    | ((with_reducible apply want_run); exact rfl; exact rfl)
    | ((with_reducible apply want_skip); exact rfl; exact rfl; exact rfl)
    | ((with_reducible apply want_out); exact rfl; exact rfl; exact rfl)
    | ((with_reducible apply want_forkF); exact rfl; exact rfl; exact rfl; (first | exact Bp.not Bp.dec | exact Bp.dec | exact Bp.not Bp.bool | exact Bp.bool); all_goals intro hc)
    | ((with_reducible apply want_forkT); exact rfl; exact rfl; exact rfl; (first | exact Bp.not Bp.dec | exact Bp.dec | exact Bp.not Bp.bool | exact Bp.bool); all_goals intro hc)
    | ((with_reducible apply st_callv); exact rfl; exact rfl; exact rfl; exact rfl; exact fixed_AC; (rintro v rfl)) | ((with_reducible apply st_callv); exact rfl; exact rfl; exact rfl; exact rfl; exact refMay_AC (some l); (rintro v rfl); rw [hmay])
    | ((with_reducible apply st_alloc); exact rfl; exact rfl; exact rfl; exact rfl)
    | ((with_reducible apply st_box); exact rfl; exact rfl; exact rfl; exact rfl)
    | ((with_reducible apply st_loadpelK); exact rfl; exact rfl; assumption; exact rfl; exact rfl)
    | ((with_reducible apply st_loadpel); exact rfl; exact rfl; omega; exact rfl; (intro u hu; refine ⟨_, rfl, ?_⟩; try simp only [Int.toNat_natCast] at hu))
    | ((with_reducible apply st_load); exact rfl; exact rfl; exact rfl; exact rfl; exact rfl)
    | ((with_reducible apply st_store); exact rfl; exact rfl; exact rfl; exact rfl; exact rfl; exact rfl)
    | ((with_reducible apply st_idx); exact rfl; exact rfl; exact rfl; exact rfl; exact rfl; omega)
    | ((with_reducible apply st_len RdT.ok); exact rfl; exact rfl; exact rfl; intro hlen)
    | ((with_reducible apply st_lennil RdT.ok); exact rfl; exact rfl; exact rfl)
    | ((with_reducible apply st_add); exact rfl; exact rfl; exact rfl; omega)
    | ((with_reducible apply st_sub); exact rfl; exact rfl; exact rfl; omega)
    | ((with_reducible apply st_q RdT.ok); exact rfl; exact rfl)
    | ((with_reducible apply c_condT); exact rfl)
    | ((with_reducible apply c_condF); exact rfl)
    | ((with_reducible apply c_cond); exact rfl; (first | exact Bp.not Bp.dec | exact Bp.dec | exact Bp.not Bp.bool | exact Bp.bool); all_goals intro hc))
      all_goals (((with_reducible apply r_one); exact rfl; exact .tmp rfl .nil; exact .s (.pv _); exact hS; refine ⟨rfl, _, rfl, ?_⟩); rfl)
  | true =>
    have hu0 := used_some hmay
    obtain ⟨bs0, hb0⟩ : ∃ b, used1 none16 (o.getD []) = b := ⟨_, rfl⟩
    have hl0 : bs0.length = 16 := by rw [← hb0, used1_length]; rfl
    have hf0 := free_le bs0
    rw [hb0] at hu0
    cases htk : take o n with
    | none =>
      have hno : 1 ≤ n → n ≤ 8 → longF 0 (runs1 0 0 bs0) < n ∧ 0 < (o.getD []).length := fun h1 h8 => by
        have := take_none htk hmay h1 h8
        rw [hb0] at this
        exact ⟨this.1, List.length_pos_iff.2 this.2⟩
      cases o with
      | none => 
        simp only [Option.getD_none, List.length_nil] at hno
        by_cases h18 : 1 ≤ n ∧ n ≤ 8
        · exact absurd (hno h18.1 h18.2).2 (by omega)
        show awp _ _ _ _ _ (St L 77 [(0, .a (uA none)), (1, int n)] S [])
        repeat' (first
    | (with_reducible refine want_none ?_)
    | (with_reducible refine c_seq ?_)
    | (with_reducible refine c_region ?_)
    | ((with_reducible refine c_regionD ?_ ?_ ?_); (kernel_rfl); (exact rfl))
    | (with_reducible refine c_block ?_)
    | (with_reducible refine aops_nil ?_)
    | (with_reducible refine k_normal ?_)
    | (with_reducible refine c_skip ?_)
    | (with_reducible refine c_exit ?_)
    | (with_reducible refine c_ret ?_)
    | (with_reducible refine k_ret ?_)
    | (with_reducible refine k_exit ?_)
    | (with_reducible refine kl_ret ?_)
    | (with_reducible refine kl_exit ?_)
    | (with_reducible refine kr_ret ?_)
    | (with_reducible refine kr_exit ?_)
    | (with_reducible refine kb_normal ?_)
    | (with_reducible refine kb_ret ?_)
    | (with_reducible refine kb_hit ?_)
    | ((with_reducible refine kb_miss ?_ ?_); exact rfl)
    | ((with_reducible apply want_run); exact rfl; exact rfl)
    | ((with_reducible apply want_skip); exact rfl; exact rfl; exact rfl)
    | ((with_reducible apply want_out); exact rfl; exact rfl; exact rfl)
    | ((with_reducible apply want_forkF); exact rfl; exact rfl; exact rfl; (first | exact Bp.not Bp.dec | exact Bp.dec | exact Bp.not Bp.bool | exact Bp.bool); all_goals intro hc)
    | ((with_reducible apply want_forkT); exact rfl; exact rfl; exact rfl; (first | exact Bp.not Bp.dec | exact Bp.dec | exact Bp.not Bp.bool | exact Bp.bool); all_goals intro hc)
    | ((with_reducible apply st_callv); exact rfl; exact rfl; exact rfl; exact rfl; exact fixed_AC; (rintro v rfl)) | ((with_reducible apply st_callv); exact rfl; exact rfl; exact rfl; exact rfl; exact refMay_AC none; (rintro v rfl); rw [hmay]) | ((with_reducible apply st_callv); exact rfl; exact rfl; exact rfl; exact rfl; exact used_AC none; (rintro v rfl); rw [hu0]) | ((with_reducible apply st_callv); exact rfl; exact rfl; exact rfl; exact rfl; exact free_AC bs0; (rintro v rfl)) | ((with_reducible apply st_callv); exact rfl; exact rfl; exact rfl; exact rfl; exact take_AC none n; (rintro v rfl); rw [htk]) | ((with_reducible apply st_callv); exact rfl; exact rfl; exact rfl; exact rfl; exact refLongest_AC bs0 (by omega); (rintro v rfl)) | ((with_reducible apply st_callv); exact rfl; exact rfl; exact rfl; exact rfl; exact used_AC (some m); (rintro v rfl); rw [hu1]) | ((with_reducible apply st_callv); exact rfl; exact rfl; exact rfl; exact rfl; exact free_AC bs1; (rintro v rfl)) | ((with_reducible apply st_callv); exact rfl; exact rfl; exact rfl; exact rfl; exact count_AC (some m) a; (rintro v rfl); rw [hct])
    | ((with_reducible apply st_alloc); exact rfl; exact rfl; exact rfl; exact rfl)
    | ((with_reducible apply st_box); exact rfl; exact rfl; exact rfl; exact rfl)
    | ((with_reducible apply st_loadpelK); exact rfl; exact rfl; assumption; exact rfl; exact rfl)
    | ((with_reducible apply st_loadpel); exact rfl; exact rfl; omega; exact rfl; (intro u hu; refine ⟨_, rfl, ?_⟩; try simp only [Int.toNat_natCast] at hu))
    | ((with_reducible apply st_load); exact rfl; exact rfl; exact rfl; exact rfl; exact rfl)
    | ((with_reducible apply st_store); exact rfl; exact rfl; exact rfl; exact rfl; exact rfl; exact rfl)
    | ((with_reducible apply st_idx); exact rfl; exact rfl; exact rfl; exact rfl; exact rfl; omega)
    | ((with_reducible apply st_len RdT.ok); exact rfl; exact rfl; exact rfl; intro hlen)
    | ((with_reducible apply st_lennil RdT.ok); exact rfl; exact rfl; exact rfl)
    | ((with_reducible apply st_add); exact rfl; exact rfl; exact rfl; omega)
    | ((with_reducible apply st_sub); exact rfl; exact rfl; exact rfl; omega)
    | ((with_reducible apply st_q RdT.ok); exact rfl; exact rfl)
    | ((with_reducible apply c_condT); exact rfl)
    | ((with_reducible apply c_condF); exact rfl)
    | ((with_reducible apply c_cond); exact rfl; (first | exact Bp.not Bp.dec | exact Bp.dec | exact Bp.not Bp.bool | exact Bp.bool); all_goals intro hc))
        all_goals first
          | (exfalso; omega)
          | (((with_reducible apply r_one); exact rfl; exact .tmp rfl .nil; exact .s (.pv _); exact hS; refine ⟨rfl, _, rfl, ?_⟩); first | rfl | exact congrArg Rd.bool (decide_eq_true (by omega)))
      | some l =>
        simp only [Option.getD_some] at hno
        by_cases h18 : 1 ≤ n ∧ n ≤ 8
        · obtain ⟨hno1, hno2⟩ := hno h18.1 h18.2
          show awp _ _ _ _ _ (St L 77 [(0, .a (uA (some l))), (1, int n)] S [])
          repeat' (first
    | (with_reducible refine want_none ?_)
    | (with_reducible refine c_seq ?_)
    | (with_reducible refine c_region ?_)
    | ((with_reducible refine c_regionD ?_ ?_ ?_); (kernel_rfl); (exact rfl))
    | (with_reducible refine c_block ?_)
    | (with_reducible refine aops_nil ?_)
    | (with_reducible refine k_normal ?_)
    | (with_reducible refine c_skip ?_)
    | (with_reducible refine c_exit ?_)
    | (with_reducible refine c_ret ?_)
    | (with_reducible refine k_ret ?_)
    | (with_reducible refine k_exit ?_)
    | (with_reducible refine kl_ret ?_)
    | (with_reducible refine kl_exit ?_)
    | (with_reducible refine kr_ret ?_)
    | (with_reducible refine kr_exit ?_)
    | (with_reducible refine kb_normal ?_)
    | (with_reducible refine kb_ret ?_)
    | (with_reducible refine kb_hit ?_)
    | ((with_reducible refine kb_miss ?_ ?_); exact rfl)
    | ((with_reducible apply want_run); exact rfl; exact rfl)
    | ((with_reducible apply want_skip); exact rfl; exact rfl; exact rfl)
    | ((with_reducible apply want_out); exact rfl; exact rfl; exact rfl)
    | ((with_reducible apply want_forkF); exact rfl; exact rfl; exact rfl; (first | exact Bp.not Bp.dec | exact Bp.dec | exact Bp.not Bp.bool | exact Bp.bool); all_goals intro hc)
    | ((with_reducible apply want_forkT); exact rfl; exact rfl; exact rfl; (first | exact Bp.not Bp.dec | exact Bp.dec | exact Bp.not Bp.bool | exact Bp.bool); all_goals intro hc)
    | ((with_reducible apply st_callv); exact rfl; exact rfl; exact rfl; exact rfl; exact fixed_AC; (rintro v rfl)) | ((with_reducible apply st_callv); exact rfl; exact rfl; exact rfl; exact rfl; exact refMay_AC (some l); (rintro v rfl); rw [hmay]) | ((with_reducible apply st_callv); exact rfl; exact rfl; exact rfl; exact rfl; exact used_AC (some l); (rintro v rfl); rw [hu0]) | ((with_reducible apply st_callv); exact rfl; exact rfl; exact rfl; exact rfl; exact free_AC bs0; (rintro v rfl)) | ((with_reducible apply st_callv); exact rfl; exact rfl; exact rfl; exact rfl; exact take_AC (some l) n; (rintro v rfl); rw [htk]) | ((with_reducible apply st_callv); exact rfl; exact rfl; exact rfl; exact rfl; exact refLongest_AC bs0 (by omega); (rintro v rfl)) | ((with_reducible apply st_callv); exact rfl; exact rfl; exact rfl; exact rfl; exact used_AC (some m); (rintro v rfl); rw [hu1]) | ((with_reducible apply st_callv); exact rfl; exact rfl; exact rfl; exact rfl; exact free_AC bs1; (rintro v rfl)) | ((with_reducible apply st_callv); exact rfl; exact rfl; exact rfl; exact rfl; exact count_AC (some m) a; (rintro v rfl); rw [hct])
    | ((with_reducible apply st_alloc); exact rfl; exact rfl; exact rfl; exact rfl)
    | ((with_reducible apply st_box); exact rfl; exact rfl; exact rfl; exact rfl)
    | ((with_reducible apply st_loadpelK); exact rfl; exact rfl; assumption; exact rfl; exact rfl)
    | ((with_reducible apply st_loadpel); exact rfl; exact rfl; omega; exact rfl; (intro u hu; refine ⟨_, rfl, ?_⟩; try simp only [Int.toNat_natCast] at hu))
    | ((with_reducible apply st_load); exact rfl; exact rfl; exact rfl; exact rfl; exact rfl)
    | ((with_reducible apply st_store); exact rfl; exact rfl; exact rfl; exact rfl; exact rfl; exact rfl)
    | ((with_reducible apply st_idx); exact rfl; exact rfl; exact rfl; exact rfl; exact rfl; omega)
    | ((with_reducible apply st_len RdT.ok); exact rfl; exact rfl; exact rfl; intro hlen)
    | ((with_reducible apply st_lennil RdT.ok); exact rfl; exact rfl; exact rfl)
    | ((with_reducible apply st_add); exact rfl; exact rfl; exact rfl; omega)
    | ((with_reducible apply st_sub); exact rfl; exact rfl; exact rfl; omega)
    | ((with_reducible apply st_q RdT.ok); exact rfl; exact rfl)
    | ((with_reducible apply c_condT); exact rfl)
    | ((with_reducible apply c_condF); exact rfl)
    | ((with_reducible apply c_cond); exact rfl; (first | exact Bp.not Bp.dec | exact Bp.dec | exact Bp.not Bp.bool | exact Bp.bool); all_goals intro hc))
          all_goals first
            | (exfalso; omega)
            | (((with_reducible apply r_one); exact rfl; exact .tmp rfl .nil; exact .s (.pv _); exact hS; refine ⟨rfl, _, rfl, ?_⟩); first | rfl | exact congrArg Rd.bool (decide_eq_true (by omega)))
        show awp _ _ _ _ _ (St L 77 [(0, .a (uA (some l))), (1, int n)] S [])
        repeat' (first
    | (with_reducible refine want_none ?_)
    | (with_reducible refine c_seq ?_)
    | (with_reducible refine c_region ?_)
    | ((with_reducible refine c_regionD ?_ ?_ ?_); (kernel_rfl); (exact rfl))
    | (with_reducible refine c_block ?_)
    | (with_reducible refine aops_nil ?_)
    | (with_reducible refine k_normal ?_)
    | (with_reducible refine c_skip ?_)
    | (with_reducible refine c_exit ?_)
    | (with_reducible refine c_ret ?_)
    | (with_reducible refine k_ret ?_)
    | (with_reducible refine k_exit ?_)
    | (with_reducible refine kl_ret ?_)
    | (with_reducible refine kl_exit ?_)
    | (with_reducible refine kr_ret ?_)
    | (with_reducible refine kr_exit ?_)
    | (with_reducible refine kb_normal ?_)
    | (with_reducible refine kb_ret ?_)
    | (with_reducible refine kb_hit ?_)
    | ((with_reducible refine kb_miss ?_ ?_); exact rfl)
    | ((with_reducible apply want_run); exact rfl; exact rfl)
    | ((with_reducible apply want_skip); exact rfl; exact rfl; exact rfl)
    | ((with_reducible apply want_out); exact rfl; exact rfl; exact rfl)
    | ((with_reducible apply want_forkF); exact rfl; exact rfl; exact rfl; (first | exact Bp.not Bp.dec | exact Bp.dec | exact Bp.not Bp.bool | exact Bp.bool); all_goals intro hc)
    | ((with_reducible apply want_forkT); exact rfl; exact rfl; exact rfl; (first | exact Bp.not Bp.dec | exact Bp.dec | exact Bp.not Bp.bool | exact Bp.bool); all_goals intro hc)
    | ((with_reducible apply st_callv); exact rfl; exact rfl; exact rfl; exact rfl; exact fixed_AC; (rintro v rfl)) | ((with_reducible apply st_callv); exact rfl; exact rfl; exact rfl; exact rfl; exact refMay_AC (some l); (rintro v rfl); rw [hmay]) | ((with_reducible apply st_callv); exact rfl; exact rfl; exact rfl; exact rfl; exact used_AC (some l); (rintro v rfl); rw [hu0]) | ((with_reducible apply st_callv); exact rfl; exact rfl; exact rfl; exact rfl; exact free_AC bs0; (rintro v rfl)) | ((with_reducible apply st_callv); exact rfl; exact rfl; exact rfl; exact rfl; exact take_AC (some l) n; (rintro v rfl); rw [htk]) | ((with_reducible apply st_callv); exact rfl; exact rfl; exact rfl; exact rfl; exact refLongest_AC bs0 (by omega); (rintro v rfl)) | ((with_reducible apply st_callv); exact rfl; exact rfl; exact rfl; exact rfl; exact used_AC (some m); (rintro v rfl); rw [hu1]) | ((with_reducible apply st_callv); exact rfl; exact rfl; exact rfl; exact rfl; exact free_AC bs1; (rintro v rfl)) | ((with_reducible apply st_callv); exact rfl; exact rfl; exact rfl; exact rfl; exact count_AC (some m) a; (rintro v rfl); rw [hct])
    | ((with_reducible apply st_alloc); exact rfl; exact rfl; exact rfl; exact rfl)
    | ((with_reducible apply st_box); exact rfl; exact rfl; exact rfl; exact rfl)
    | ((with_reducible apply st_loadpelK); exact rfl; exact rfl; assumption; exact rfl; exact rfl)
    | ((with_reducible apply st_loadpel); exact rfl; exact rfl; omega; exact rfl; (intro u hu; refine ⟨_, rfl, ?_⟩; try simp only [Int.toNat_natCast] at hu))
    | ((with_reducible apply st_load); exact rfl; exact rfl; exact rfl; exact rfl; exact rfl)
    | ((with_reducible apply st_store); exact rfl; exact rfl; exact rfl; exact rfl; exact rfl; exact rfl)
    | ((with_reducible apply st_idx); exact rfl; exact rfl; exact rfl; exact rfl; exact rfl; omega)
    | ((with_reducible apply st_len RdT.ok); exact rfl; exact rfl; exact rfl; intro hlen)
    | ((with_reducible apply st_lennil RdT.ok); exact rfl; exact rfl; exact rfl)
    | ((with_reducible apply st_add); exact rfl; exact rfl; exact rfl; omega)
    | ((with_reducible apply st_sub); exact rfl; exact rfl; exact rfl; omega)
    | ((with_reducible apply st_q RdT.ok); exact rfl; exact rfl)
    | ((with_reducible apply c_condT); exact rfl)
    | ((with_reducible apply c_condF); exact rfl)
    | ((with_reducible apply c_cond); exact rfl; (first | exact Bp.not Bp.dec | exact Bp.dec | exact Bp.not Bp.bool | exact Bp.bool); all_goals intro hc))
        all_goals first
          | (exfalso; omega)
          | (((with_reducible apply r_one); exact rfl; exact .tmp rfl .nil; exact .s (.pv _); exact hS; refine ⟨rfl, _, rfl, ?_⟩); first | rfl | exact congrArg Rd.bool (decide_eq_true (by omega)))
    | some p =>
      obtain ⟨m, a⟩ := p
      have hu1 := used_some (take_may htk)
      have hct := take_count htk
      have hfr := take_free htk
      have hln : m.length = (o.getD []).length + 1 := by obtain ⟨h1, h2, h3, h4, h5, h6, rfl, _⟩ := take_some htk; exact ins1_length _ _ _
      simp only [Option.getD_some] at hu1 hfr
      obtain ⟨bs1, hb1⟩ : ∃ b, used1 none16 m = b := ⟨_, rfl⟩
      have hf1 := free_le bs1
      rw [hb1] at hu1 hfr
      rw [hb0] at hfr
      have h1n := (take_some htk).2.1
      have hn8 := (take_some htk).2.2.1
      cases o with
      | none =>
        simp only [Option.getD_none, List.length_nil] at hln
        show awp _ _ _ _ _ (St L 77 [(0, .a (uA none)), (1, int n)] S [])
        repeat' (first
    | (with_reducible refine want_none ?_)
    | (with_reducible refine c_seq ?_)
    | (with_reducible refine c_region ?_)
    | ((with_reducible refine c_regionD ?_ ?_ ?_); (kernel_rfl); (exact rfl))
    | (with_reducible refine c_block ?_)
    | (with_reducible refine aops_nil ?_)
    | (with_reducible refine k_normal ?_)
    | (with_reducible refine c_skip ?_)
    | (with_reducible refine c_exit ?_)
    | (with_reducible refine c_ret ?_)
    | (with_reducible refine k_ret ?_)
    | (with_reducible refine k_exit ?_)
    | (with_reducible refine kl_ret ?_)
    | (with_reducible refine kl_exit ?_)
    | (with_reducible refine kr_ret ?_)
    | (with_reducible refine kr_exit ?_)
    | (with_reducible refine kb_normal ?_)
    | (with_reducible refine kb_ret ?_)
    | (with_reducible refine kb_hit ?_)
    | ((with_reducible refine kb_miss ?_ ?_); exact rfl)
    | ((with_reducible apply want_run); exact rfl; exact rfl)
    | ((with_reducible apply want_skip); exact rfl; exact rfl; exact rfl)
    | ((with_reducible apply want_out); exact rfl; exact rfl; exact rfl)
    | ((with_reducible apply want_forkF); exact rfl; exact rfl; exact rfl; (first | exact Bp.not Bp.dec | exact Bp.dec | exact Bp.not Bp.bool | exact Bp.bool); all_goals intro hc)
    | ((with_reducible apply want_forkT); exact rfl; exact rfl; exact rfl; (first | exact Bp.not Bp.dec | exact Bp.dec | exact Bp.not Bp.bool | exact Bp.bool); all_goals intro hc)
    | ((with_reducible apply st_callv); exact rfl; exact rfl; exact rfl; exact rfl; exact fixed_AC; (rintro v rfl)) | ((with_reducible apply st_callv); exact rfl; exact rfl; exact rfl; exact rfl; exact refMay_AC none; (rintro v rfl); rw [hmay]) | ((with_reducible apply st_callv); exact rfl; exact rfl; exact rfl; exact rfl; exact used_AC none; (rintro v rfl); rw [hu0]) | ((with_reducible apply st_callv); exact rfl; exact rfl; exact rfl; exact rfl; exact free_AC bs0; (rintro v rfl)) | ((with_reducible apply st_callv); exact rfl; exact rfl; exact rfl; exact rfl; exact take_AC none n; (rintro v rfl); rw [htk]) | ((with_reducible apply st_callv); exact rfl; exact rfl; exact rfl; exact rfl; exact refLongest_AC bs0 (by omega); (rintro v rfl)) | ((with_reducible apply st_callv); exact rfl; exact rfl; exact rfl; exact rfl; exact used_AC (some m); (rintro v rfl); rw [hu1]) | ((with_reducible apply st_callv); exact rfl; exact rfl; exact rfl; exact rfl; exact free_AC bs1; (rintro v rfl)) | ((with_reducible apply st_callv); exact rfl; exact rfl; exact rfl; exact rfl; exact count_AC (some m) a; (rintro v rfl); rw [hct])
    | ((with_reducible apply st_alloc); exact rfl; exact rfl; exact rfl; exact rfl)
    | ((with_reducible apply st_box); exact rfl; exact rfl; exact rfl; exact rfl)
    | ((with_reducible apply st_loadpelK); exact rfl; exact rfl; assumption; exact rfl; exact rfl)
    | ((with_reducible apply st_loadpel); exact rfl; exact rfl; omega; exact rfl; (intro u hu; refine ⟨_, rfl, ?_⟩; try simp only [Int.toNat_natCast] at hu))
    | ((with_reducible apply st_load); exact rfl; exact rfl; exact rfl; exact rfl; exact rfl)
    | ((with_reducible apply st_store); exact rfl; exact rfl; exact rfl; exact rfl; exact rfl; exact rfl)
    | ((with_reducible apply st_idx); exact rfl; exact rfl; exact rfl; exact rfl; exact rfl; omega)
    | ((with_reducible apply st_len RdT.ok); exact rfl; exact rfl; exact rfl; intro hlen)
    | ((with_reducible apply st_lennil RdT.ok); exact rfl; exact rfl; exact rfl)
    | ((with_reducible apply st_add); exact rfl; exact rfl; exact rfl; omega)
    | ((with_reducible apply st_sub); exact rfl; exact rfl; exact rfl; omega)
    | ((with_reducible apply st_q RdT.ok); exact rfl; exact rfl)
    | ((with_reducible apply c_condT); exact rfl)
    | ((with_reducible apply c_condF); exact rfl)
    | ((with_reducible apply c_cond); exact rfl; (first | exact Bp.not Bp.dec | exact Bp.dec | exact Bp.not Bp.bool | exact Bp.bool); all_goals intro hc))
        all_goals first
          | (exfalso; omega)
          | (((with_reducible apply r_one); exact rfl; exact .tmp rfl .nil; exact .s (.pv _); exact hS; refine ⟨rfl, _, rfl, ?_⟩); first | rfl | exact congrArg Rd.bool (decide_eq_true (by omega)))
      | some l =>
        simp only [Option.getD_some] at hln
        show awp _ _ _ _ _ (St L 77 [(0, .a (uA (some l))), (1, int n)] S [])
        repeat' (first
    | (with_reducible refine want_none ?_)
    | (with_reducible refine c_seq ?_)
    | (with_reducible refine c_region ?_)
    | ((with_reducible refine c_regionD ?_ ?_ ?_); (kernel_rfl); (exact rfl))
    | (with_reducible refine c_block ?_)
    | (with_reducible refine aops_nil ?_)
    | (with_reducible refine k_normal ?_)
    | (with_reducible refine c_skip ?_)
    | (with_reducible refine c_exit ?_)
    | (with_reducible refine c_ret ?_)
    | (with_reducible refine k_ret ?_)
    | (with_reducible refine k_exit ?_)
    | (with_reducible refine kl_ret ?_)
    | (with_reducible refine kl_exit ?_)
    | (with_reducible refine kr_ret ?_)
    | (with_reducible refine kr_exit ?_)
    | (with_reducible refine kb_normal ?_)
    | (with_reducible refine kb_ret ?_)
    | (with_reducible refine kb_hit ?_)
    | ((with_reducible refine kb_miss ?_ ?_); exact rfl)
    | ((with_reducible apply want_run); exact rfl; exact rfl)
    | ((with_reducible apply want_skip); exact rfl; exact rfl; exact rfl)
    | ((with_reducible apply want_out); exact rfl; exact rfl; exact rfl)
    | ((with_reducible apply want_forkF); exact rfl; exact rfl; exact rfl; (first | exact Bp.not Bp.dec | exact Bp.dec | exact Bp.not Bp.bool | exact Bp.bool); all_goals intro hc)
    | ((with_reducible apply want_forkT); exact rfl; exact rfl; exact rfl; (first | exact Bp.not Bp.dec | exact Bp.dec | exact Bp.not Bp.bool | exact Bp.bool); all_goals intro hc)
    | ((with_reducible apply st_callv); exact rfl; exact rfl; exact rfl; exact rfl; exact fixed_AC; (rintro v rfl)) | ((with_reducible apply st_callv); exact rfl; exact rfl; exact rfl; exact rfl; exact refMay_AC (some l); (rintro v rfl); rw [hmay]) | ((with_reducible apply st_callv); exact rfl; exact rfl; exact rfl; exact rfl; exact used_AC (some l); (rintro v rfl); rw [hu0]) | ((with_reducible apply st_callv); exact rfl; exact rfl; exact rfl; exact rfl; exact free_AC bs0; (rintro v rfl)) | ((with_reducible apply st_callv); exact rfl; exact rfl; exact rfl; exact rfl; exact take_AC (some l) n; (rintro v rfl); rw [htk]) | ((with_reducible apply st_callv); exact rfl; exact rfl; exact rfl; exact rfl; exact refLongest_AC bs0 (by omega); (rintro v rfl)) | ((with_reducible apply st_callv); exact rfl; exact rfl; exact rfl; exact rfl; exact used_AC (some m); (rintro v rfl); rw [hu1]) | ((with_reducible apply st_callv); exact rfl; exact rfl; exact rfl; exact rfl; exact free_AC bs1; (rintro v rfl)) | ((with_reducible apply st_callv); exact rfl; exact rfl; exact rfl; exact rfl; exact count_AC (some m) a; (rintro v rfl); rw [hct])
    | ((with_reducible apply st_alloc); exact rfl; exact rfl; exact rfl; exact rfl)
    | ((with_reducible apply st_box); exact rfl; exact rfl; exact rfl; exact rfl)
    | ((with_reducible apply st_loadpelK); exact rfl; exact rfl; assumption; exact rfl; exact rfl)
    | ((with_reducible apply st_loadpel); exact rfl; exact rfl; omega; exact rfl; (intro u hu; refine ⟨_, rfl, ?_⟩; try simp only [Int.toNat_natCast] at hu))
    | ((with_reducible apply st_load); exact rfl; exact rfl; exact rfl; exact rfl; exact rfl)
    | ((with_reducible apply st_store); exact rfl; exact rfl; exact rfl; exact rfl; exact rfl; exact rfl)
    | ((with_reducible apply st_idx); exact rfl; exact rfl; exact rfl; exact rfl; exact rfl; omega)
    | ((with_reducible apply st_len RdT.ok); exact rfl; exact rfl; exact rfl; intro hlen)
    | ((with_reducible apply st_lennil RdT.ok); exact rfl; exact rfl; exact rfl)
    | ((with_reducible apply st_add); exact rfl; exact rfl; exact rfl; omega)
    | ((with_reducible apply st_sub); exact rfl; exact rfl; exact rfl; omega)
    | ((with_reducible apply st_q RdT.ok); exact rfl; exact rfl)
    | ((with_reducible apply c_condT); exact rfl)
    | ((with_reducible apply c_condF); exact rfl)
    | ((with_reducible apply c_cond); exact rfl; (first | exact Bp.not Bp.dec | exact Bp.dec | exact Bp.not Bp.bool | exact Bp.bool); all_goals intro hc))
        all_goals first
          | (exfalso; omega)
          | (((with_reducible apply r_one); exact rfl; exact .tmp rfl .nil; exact .s (.pv _); exact hS; refine ⟨rfl, _, rfl, ?_⟩); first | rfl | exact congrArg Rd.bool (decide_eq_true (by omega)))
end Go.Proofs.Ytiollkejojdplaa
