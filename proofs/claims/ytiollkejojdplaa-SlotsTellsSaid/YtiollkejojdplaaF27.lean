/- Contracts: the law of the document's answers. -/
import Derived.Test.YtiollkejojdplaaF26
namespace Go.Proofs.Ytiollkejojdplaa
open Go.Rd Go.RowKit
set_option maxRecDepth 20000
set_option linter.unusedSimpArgs false
set_option linter.unusedVariables false
set_option maxHeartbeats 8000000

theorem same_self (o : Option (List U)) : same o o = true := by simp [same]
theorem sameB_self (o : Option (List Bool)) : sameB o o = true := by simp [sameB]
theorem same_commit (o : Option (List U)) : same (commit o) (some (refCommit o)) = true := by
  unfold same commit refCommit
  split <;> simp [orNil_getD]
/-- What is handed back, without a case. -/
theorem takeV_eq (t : Option (List U × Int)) : takeV t = .tup [uA (t.map (·.1)), .s (.pv (.lit (.int .i64 ((t.map (·.2)).getD 0)))), .s (.pv (.lit (.bool t.isSome)))] := by
  rcases t with _ | ⟨l, a⟩ <;> rfl
theorem turnV_eq (t : Option (List U)) : turnV t = .tup [uA t, .s (.pv (.lit (.bool t.isSome)))] := by
  rcases t with _ | l <;> rfl
theorem sameBO_AC (a : Option (List Bool)) : ACv Try.prog 28 [bA a, bA a] fun v => v = Rd.bool true := by
  cases a with
  | none => exact sameB_nil
  | some b =>
    have := sameB_AC b b
    rwa [sameB_self] at this
theorem slotsTells_AC (o : Option (List U)) (at' n : Int) : ACv Try.prog 3 [uA o, .s (.pv (.lit (.int .i64 at'))), .s (.pv (.lit (.int .i64 n)))] fun v => v = Rd.bool true := by
  intro L S hL
  refine fn_St (n := 128) (rs := [.tmp 6]) hands_val RdT.ok RdT.mixed Try.func3 rfl (by kernel_rfl) rfl rfl rfl (by omega) ?_
  intro hS
  have hsc := same_commit o
  obtain ⟨rc, hrc⟩ : ∃ c, refCommit o = c := ⟨_, rfl⟩
  obtain ⟨cc, hcc⟩ : ∃ c, commit o = c := ⟨_, rfl⟩
  obtain ⟨t1, e1⟩ : ∃ c, (take o n).map (·.1) = c := ⟨_, rfl⟩
  obtain ⟨t2, e2⟩ : ∃ c, ((take o n).map (·.2)).getD 0 = c := ⟨_, rfl⟩
  obtain ⟨t3, e3⟩ : ∃ c, (take o n).isSome = c := ⟨_, rfl⟩
  obtain ⟨i1, f1⟩ : ∃ c, turnO o at' 1 = c := ⟨_, rfl⟩
  obtain ⟨i2, f2⟩ : ∃ c, i1.isSome = c := ⟨_, rfl⟩
  obtain ⟨d1, g1⟩ : ∃ c, turnO o at' (-1) = c := ⟨_, rfl⟩
  obtain ⟨d2, g2⟩ : ∃ c, d1.isSome = c := ⟨_, rfl⟩
  obtain ⟨us, hus⟩ : ∃ c, used o = c := ⟨_, rfl⟩
  obtain ⟨c, hcn⟩ : ∃ c, count o at' = c := ⟨_, rfl⟩
  obtain ⟨my, hmay⟩ : ∃ c, may o = c := ⟨_, rfl⟩
  rw [hrc, hcc] at hsc
  cases o with
  | none =>
    show awp _ _ _ _ _ (St L 128 [(0, nilS), (1, int at'), (2, int n)] S [])
    repeat' (first
    | (with_reducible refine want_none ?_)
    | (with_reducible refine c_seq ?_)
    | (with_reducible refine c_region ?_)
    | ((with_reducible refine c_regionD ?_ ?_ ?_); (kernel_rfl); (exact rfl))
    | (with_reducible refine c_block ?_)
    | (with_reducible refine aops_nil ?_)
    | (with_reducible refine k_normal ?_)
    | (with_reducible refine c_skip ?_)
    | (with_reducible refine c_exit ?_)
    | (with_reducible refine c_ret ?_)
    | (with_reducible refine k_ret ?_)
    | (with_reducible refine k_exit ?_)
    | (with_reducible refine kl_ret ?_)
    | (with_reducible refine kl_exit ?_)
    | (with_reducible refine kr_ret ?_)
    | (with_reducible refine kr_exit ?_)
    | (with_reducible refine kb_normal ?_)
    | (with_reducible refine kb_ret ?_)
    | (with_reducible refine kb_hit ?_)
    | ((with_reducible refine kb_miss ?_ ?_); exact rfl)
    | ((with_reducible apply want_run); exact rfl; exact rfl)
    | ((with_reducible apply want_skip); exact rfl; exact rfl; exact rfl)
    | ((with_reducible apply want_out); exact rfl; exact rfl; exact rfl)
    | ((with_reducible apply want_forkF); exact rfl; exact rfl; exact rfl; (first | exact Bp.not Bp.dec | exact Bp.dec | exact Bp.not Bp.bool | exact Bp.bool); all_goals intro hc)
    | ((with_reducible apply want_forkT); exact rfl; exact rfl; exact rfl; (first | exact Bp.not Bp.dec | exact Bp.dec | exact Bp.not Bp.bool | exact Bp.bool); all_goals intro hc)
    | ((with_reducible apply st_callv); exact rfl; exact rfl; exact rfl; exact rfl; exact fixed_AC; (rintro v rfl)) | ((with_reducible apply st_callv); exact rfl; exact rfl; exact rfl; exact rfl; exact take_AC none n; (rintro v rfl); rw [takeV_eq, e1, e2, e3]) | ((with_reducible apply st_callv); exact rfl; exact rfl; exact rfl; exact rfl; exact refTake_AC none n; (rintro v rfl); rw [takeV_eq, e1, e2, e3]) | ((with_reducible apply st_callv); exact rfl; exact rfl; exact rfl; exact rfl; exact incO_AC none at'; (rintro v rfl); rw [turnV_eq, f1, f2]) | ((with_reducible apply st_callv); exact rfl; exact rfl; exact rfl; exact rfl; exact refInc_AC none at'; (rintro v rfl); rw [turnV_eq, f1, f2]) | ((with_reducible apply st_callv); exact rfl; exact rfl; exact rfl; exact rfl; exact decO_AC none at'; (rintro v rfl); rw [turnV_eq, g1, g2]) | ((with_reducible apply st_callv); exact rfl; exact rfl; exact rfl; exact rfl; exact refDec_AC none at'; (rintro v rfl); rw [turnV_eq, g1, g2]) | ((with_reducible apply st_callv); exact rfl; exact rfl; exact rfl; exact rfl; exact may_AC none; (rintro v rfl); rw [hmay]) | ((with_reducible apply st_callv); exact rfl; exact rfl; exact rfl; exact rfl; exact refMay_AC none; (rintro v rfl); rw [hmay]) | ((with_reducible apply st_callv); exact rfl; exact rfl; exact rfl; exact rfl; exact used_AC none; (rintro v rfl); rw [hus]) | ((with_reducible apply st_callv); exact rfl; exact rfl; exact rfl; exact rfl; exact refUsed_AC none; (rintro v rfl); rw [hus]) | ((with_reducible apply st_callv); exact rfl; exact rfl; exact rfl; exact rfl; exact sameBO_AC us; (rintro v rfl)) | ((with_reducible apply st_callv); exact rfl; exact rfl; exact rfl; exact rfl; exact count_AC none at'; (rintro v rfl); rw [hcn]) | ((with_reducible apply st_callv); exact rfl; exact rfl; exact rfl; exact rfl; exact refCount_AC none at'; (rintro v rfl); rw [hcn]) | ((with_reducible apply st_callv); exact rfl; exact rfl; exact rfl; exact rfl; exact same_AC t1 t1; (rintro v rfl); rw [same_self]) | ((with_reducible apply st_callv); exact rfl; exact rfl; exact rfl; exact rfl; exact same_AC i1 i1; (rintro v rfl); rw [same_self]) | ((with_reducible apply st_callv); exact rfl; exact rfl; exact rfl; exact rfl; exact same_AC d1 d1; (rintro v rfl); rw [same_self]) | ((with_reducible apply st_callv); exact rfl; exact rfl; exact rfl; exact rfl; exact commit_AC none; (rintro v rfl); rw [hcc]) | ((with_reducible apply st_callv); exact rfl; exact rfl; exact rfl; exact rfl; exact refCommit_AC none; (rintro v rfl); rw [hrc]) | ((with_reducible apply st_callv); exact rfl; exact rfl; exact rfl; exact rfl; exact same_AC cc (some rc); (rintro v rfl); rw [hsc])
    | ((with_reducible apply st_alloc); exact rfl; exact rfl; exact rfl; exact rfl)
    | ((with_reducible apply st_box); exact rfl; exact rfl; exact rfl; exact rfl)
    | ((with_reducible apply st_loadpelK); exact rfl; exact rfl; assumption; exact rfl; exact rfl)
    | ((with_reducible apply st_loadpel); exact rfl; exact rfl; omega; exact rfl; (intro u hu; refine ⟨_, rfl, ?_⟩; try simp only [Int.toNat_natCast] at hu))
    | ((with_reducible apply st_load); exact rfl; exact rfl; exact rfl; exact rfl; exact rfl)
    | ((with_reducible apply st_store); exact rfl; exact rfl; exact rfl; exact rfl; exact rfl; exact rfl)
    | ((with_reducible apply st_idx); exact rfl; exact rfl; exact rfl; exact rfl; exact rfl; omega)
    | ((with_reducible apply st_len RdT.ok); exact rfl; exact rfl; exact rfl; intro hlen)
    | ((with_reducible apply st_lennil RdT.ok); exact rfl; exact rfl; exact rfl)
    | ((with_reducible apply st_add); exact rfl; exact rfl; exact rfl; omega)
    | ((with_reducible apply st_sub); exact rfl; exact rfl; exact rfl; omega)
    | ((with_reducible apply st_q RdT.ok); exact rfl; exact rfl)
    | ((with_reducible apply c_condT); exact rfl)
    | ((with_reducible apply c_condF); exact rfl)
    | ((with_reducible apply c_cond); exact rfl; (first | exact Bp.not Bp.dec | exact Bp.dec | exact Bp.not Bp.bool | exact Bp.bool); all_goals intro hc))
    all_goals first
      | exact absurd rfl hc
      | (((with_reducible apply r_one); exact rfl; exact .tmp rfl .nil; exact .s (.pv _); exact hS; refine ⟨rfl, _, rfl, ?_⟩); rfl)
  | some l =>
    show awp _ _ _ _ _ (St L 128 [(0, row 4 (l.map encU)), (1, int at'), (2, int n)] S [])
    repeat' (first
    | (with_reducible refine want_none ?_)
    | (with_reducible refine c_seq ?_)
    | (with_reducible refine c_region ?_)
    | ((with_reducible refine c_regionD ?_ ?_ ?_); (kernel_rfl); (exact rfl))
    | (with_reducible refine c_block ?_)
    | (with_reducible refine aops_nil ?_)
    | (with_reducible refine k_normal ?_)
    | (with_reducible refine c_skip ?_)
    | (with_reducible refine c_exit ?_)
    | (with_reducible refine c_ret ?_)
    | (with_reducible refine k_ret ?_)
    | (with_reducible refine k_exit ?_)
    | (with_reducible refine kl_ret ?_)
    | (with_reducible refine kl_exit ?_)
    | (with_reducible refine kr_ret ?_)
    | (with_reducible refine kr_exit ?_)
    | (with_reducible refine kb_normal ?_)
    | (with_reducible refine kb_ret ?_)
    | (with_reducible refine kb_hit ?_)
    | ((with_reducible refine kb_miss ?_ ?_); exact rfl)
    | ((with_reducible apply want_run); exact rfl; exact rfl)
    | ((with_reducible apply want_skip); exact rfl; exact rfl; exact rfl)
    | ((with_reducible apply want_out); exact rfl; exact rfl; exact rfl)
    | ((with_reducible apply want_forkF); exact rfl; exact rfl; exact rfl; (first | exact Bp.not Bp.dec | exact Bp.dec | exact Bp.not Bp.bool | exact Bp.bool); all_goals intro hc)
    | ((with_reducible apply want_forkT); exact rfl; exact rfl; exact rfl; (first | exact Bp.not Bp.dec | exact Bp.dec | exact Bp.not Bp.bool | exact Bp.bool); all_goals intro hc)
    | ((with_reducible apply st_callv); exact rfl; exact rfl; exact rfl; exact rfl; exact fixed_AC; (rintro v rfl)) | ((with_reducible apply st_callv); exact rfl; exact rfl; exact rfl; exact rfl; exact take_AC (some l) n; (rintro v rfl); rw [takeV_eq, e1, e2, e3]) | ((with_reducible apply st_callv); exact rfl; exact rfl; exact rfl; exact rfl; exact refTake_AC (some l) n; (rintro v rfl); rw [takeV_eq, e1, e2, e3]) | ((with_reducible apply st_callv); exact rfl; exact rfl; exact rfl; exact rfl; exact incO_AC (some l) at'; (rintro v rfl); rw [turnV_eq, f1, f2]) | ((with_reducible apply st_callv); exact rfl; exact rfl; exact rfl; exact rfl; exact refInc_AC (some l) at'; (rintro v rfl); rw [turnV_eq, f1, f2]) | ((with_reducible apply st_callv); exact rfl; exact rfl; exact rfl; exact rfl; exact decO_AC (some l) at'; (rintro v rfl); rw [turnV_eq, g1, g2]) | ((with_reducible apply st_callv); exact rfl; exact rfl; exact rfl; exact rfl; exact refDec_AC (some l) at'; (rintro v rfl); rw [turnV_eq, g1, g2]) | ((with_reducible apply st_callv); exact rfl; exact rfl; exact rfl; exact rfl; exact may_AC (some l); (rintro v rfl); rw [hmay]) | ((with_reducible apply st_callv); exact rfl; exact rfl; exact rfl; exact rfl; exact refMay_AC (some l); (rintro v rfl); rw [hmay]) | ((with_reducible apply st_callv); exact rfl; exact rfl; exact rfl; exact rfl; exact used_AC (some l); (rintro v rfl); rw [hus]) | ((with_reducible apply st_callv); exact rfl; exact rfl; exact rfl; exact rfl; exact refUsed_AC (some l); (rintro v rfl); rw [hus]) | ((with_reducible apply st_callv); exact rfl; exact rfl; exact rfl; exact rfl; exact sameBO_AC us; (rintro v rfl)) | ((with_reducible apply st_callv); exact rfl; exact rfl; exact rfl; exact rfl; exact count_AC (some l) at'; (rintro v rfl); rw [hcn]) | ((with_reducible apply st_callv); exact rfl; exact rfl; exact rfl; exact rfl; exact refCount_AC (some l) at'; (rintro v rfl); rw [hcn]) | ((with_reducible apply st_callv); exact rfl; exact rfl; exact rfl; exact rfl; exact same_AC t1 t1; (rintro v rfl); rw [same_self]) | ((with_reducible apply st_callv); exact rfl; exact rfl; exact rfl; exact rfl; exact same_AC i1 i1; (rintro v rfl); rw [same_self]) | ((with_reducible apply st_callv); exact rfl; exact rfl; exact rfl; exact rfl; exact same_AC d1 d1; (rintro v rfl); rw [same_self]) | ((with_reducible apply st_callv); exact rfl; exact rfl; exact rfl; exact rfl; exact commit_AC (some l); (rintro v rfl); rw [hcc]) | ((with_reducible apply st_callv); exact rfl; exact rfl; exact rfl; exact rfl; exact refCommit_AC (some l); (rintro v rfl); rw [hrc]) | ((with_reducible apply st_callv); exact rfl; exact rfl; exact rfl; exact rfl; exact same_AC cc (some rc); (rintro v rfl); rw [hsc])
    | ((with_reducible apply st_alloc); exact rfl; exact rfl; exact rfl; exact rfl)
    | ((with_reducible apply st_box); exact rfl; exact rfl; exact rfl; exact rfl)
    | ((with_reducible apply st_loadpelK); exact rfl; exact rfl; assumption; exact rfl; exact rfl)
    | ((with_reducible apply st_loadpel); exact rfl; exact rfl; omega; exact rfl; (intro u hu; refine ⟨_, rfl, ?_⟩; try simp only [Int.toNat_natCast] at hu))
    | ((with_reducible apply st_load); exact rfl; exact rfl; exact rfl; exact rfl; exact rfl)
    | ((with_reducible apply st_store); exact rfl; exact rfl; exact rfl; exact rfl; exact rfl; exact rfl)
    | ((with_reducible apply st_idx); exact rfl; exact rfl; exact rfl; exact rfl; exact rfl; omega)
    | ((with_reducible apply st_len RdT.ok); exact rfl; exact rfl; exact rfl; intro hlen)
    | ((with_reducible apply st_lennil RdT.ok); exact rfl; exact rfl; exact rfl)
    | ((with_reducible apply st_add); exact rfl; exact rfl; exact rfl; omega)
    | ((with_reducible apply st_sub); exact rfl; exact rfl; exact rfl; omega)
    | ((with_reducible apply st_q RdT.ok); exact rfl; exact rfl)
    | ((with_reducible apply c_condT); exact rfl)
    | ((with_reducible apply c_condF); exact rfl)
    | ((with_reducible apply c_cond); exact rfl; (first | exact Bp.not Bp.dec | exact Bp.dec | exact Bp.not Bp.bool | exact Bp.bool); all_goals intro hc))
    all_goals first
      | exact absurd rfl hc
      | (((with_reducible apply r_one); exact rfl; exact .tmp rfl .nil; exact .s (.pv _); exact hS; refine ⟨rfl, _, rfl, ?_⟩); rfl)
end Go.Proofs.Ytiollkejojdplaa
