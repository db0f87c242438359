/- Contracts of alloc: Take. -/
import Derived.Test.YtfdaioinghfjpaaG2
import Derived.Test.YtfdaioinghfjpaaF16
namespace Go.Proofs.Ytfdaioinghfjpaa
open Go.Rd Go.RowKit
set_option maxRecDepth 20000
set_option linter.unusedSimpArgs false
set_option linter.unusedVariables false
set_option maxHeartbeats 4000000

/-- What is handed back, without a case. -/
theorem takeV_eq (t : Option (List U × Int)) : takeV t = .tup [uA (t.map (·.1)), .s (.pv (.lit (.int .i64 ((t.map (·.2)).getD 0)))), .s (.pv (.lit (.bool t.isSome)))] := by
  rcases t with _ | ⟨l, a⟩ <;> rfl
theorem mayC_len {o : Option (List Tb)} (h : mayC o = true) : 1 ≤ (o.getD []).length ∧ (o.getD []).length ≤ 1000 := by
  unfold mayC at h
  rw [Bool.and_eq_true] at h
  exact of_decide_eq_true h.1
theorem mayC_mem {o : Option (List Tb)} (h : mayC o = true) : ∀ t ∈ o.getD [], may t = true := by
  unfold mayC at h
  rw [Bool.and_eq_true] at h
  exact List.all_eq_true.1 h.2
theorem may_len {t : Tb} (h : may t = true) : (t.getD []).length ≤ 16 := by
  have := may1_length _ 0 h
  omega
theorem mayC_fits {o : Option (List Tb)} (h : mayC o = true) : (o.getD []).length * 24 ≤ 140737488355328 ∧ ∀ t ∈ o.getD [], (t.getD []).length * 32 ≤ 140737488355328 :=
  ⟨by have := (mayC_len h).2; omega, fun t ht => by have := may_len (mayC_mem h t ht); omega⟩

/-- The first table, but one, that has room. -/
def takeC1 (n no : Int) (k : Nat) : List Tb → Option (Nat × Option (List U × Int))
  | [] => none
  | t :: r => if (k : Int) = no then takeC1 n no (k + 1) r else if (take t n).isSome = true then some (k, take t n) else takeC1 n no (k + 1) r
def takeC (o : Option (List Tb)) (n no : Int) : Option (List Tb × Int × Int) :=
  if mayC o = true then (takeC1 n no 0 (o.getD [])).map fun p => ((o.getD []).set p.1 (p.2.map (·.1)), (p.1 : Int), (p.2.map (·.2)).getD 0) else none
def takeCV : Option (List Tb × Int × Int) → TV
  | none => .tup [.s (.pv (.lit (.slice none 0 0))), .s (.pv (.lit (.int .i64 0))), .s (.pv (.lit (.int .i64 0))), .s (.pv (.lit (.bool false)))]
  | some (c, i, a) => .tup [cA (some c), .s (.pv (.lit (.int .i64 i))), .s (.pv (.lit (.int .i64 a))), .s (.pv (.lit (.bool true)))]

theorem takeC_AC (o : Option (List Tb)) (n no : Int) : ACv Try.prog 42 [cA o, .s (.pv (.lit (.int .i64 n))), .s (.pv (.lit (.int .i64 no)))] fun v => v = takeCV (takeC o n no) := by
  intro L S hL
  refine fn_St (n := 47) (rs := [.tmp 6, .tmp 7, .tmp 8, .tmp 9]) hands_val RdT.ok RdT.mixed Try.func42 rfl (by kernel_rfl) rfl rfl rfl (by omega) ?_
  intro hS
  cases hmay : mayC o with
  | false =>
    show awp _ _ _ _ _ (St L 47 [(0, .a (cA o)), (1, int n), (2, int no)] S [])
    repeat' (first
    | (with_reducible refine want_none ?_)
    | (with_reducible refine c_seq ?_)
    | (with_reducible refine c_region ?_)
    | ((with_reducible refine c_regionD ?_ ?_ ?_ ?_); (kernel_rfl); (exact rfl); (exact rfl))
    | (with_reducible refine c_block ?_)
    | (with_reducible refine aops_nil ?_)
    | (with_reducible refine k_normal ?_)
    | (with_reducible refine c_skip ?_)
    | (with_reducible refine c_exit ?_)
    | (with_reducible refine c_ret ?_)
    | (with_reducible refine k_ret ?_)
    | (with_reducible refine k_exit ?_)
    | (with_reducible refine kl_ret ?_)
    | (with_reducible refine kl_exit ?_)
    | (with_reducible refine kr_ret ?_)
    | (with_reducible refine kr_exit ?_)
    | (with_reducible refine kb_normal ?_)
    | (with_reducible refine kb_ret ?_)
    | (with_reducible refine kb_hit ?_)
    | ((with_reducible refine kb_miss ?_ ?_); exact rfl)
    | ((with_reducible apply want_run); exact rfl; exact rfl)
    | ((with_reducible apply want_skip); exact rfl; exact rfl; exact rfl)
    | ((with_reducible apply want_out); exact rfl; exact rfl; exact rfl)
    | ((with_reducible apply want_forkF); exact rfl; exact rfl; exact rfl; (first | exact Bp.not Bp.dec | exact Bp.dec | exact Bp.not Bp.bool | exact Bp.bool); all_goals intro hc)
    | ((with_reducible apply want_forkT); exact rfl; exact rfl; exact rfl; (first | exact Bp.not Bp.dec | exact Bp.dec | exact Bp.not Bp.bool | exact Bp.bool); all_goals intro hc)
    | ((with_reducible apply st_callv); exact rfl; exact rfl; exact rfl; exact rfl; exact mayC_AC o; (rintro v rfl); rw [hmay])
    | ((with_reducible apply st_alloc); exact rfl; exact rfl; exact rfl; exact rfl)
    | ((with_reducible apply st_box); exact rfl; exact rfl; exact rfl; exact rfl)
    | ((with_reducible apply st_loadpelK); exact rfl; exact rfl; assumption; exact rfl; exact rfl)
    | ((with_reducible apply st_loadpel); exact rfl; exact rfl; omega; exact rfl; (intro u hu; refine ⟨_, rfl, ?_⟩; try simp only [Int.toNat_natCast] at hu))
    | ((with_reducible apply st_load); exact rfl; exact rfl; exact rfl; exact rfl; exact rfl)
    | ((with_reducible apply st_store); exact rfl; exact rfl; exact rfl; exact rfl; exact rfl; exact rfl)
    | ((with_reducible apply st_idx); exact rfl; exact rfl; exact rfl; exact rfl; exact rfl; omega)
    | ((with_reducible apply st_len RdT.ok); exact rfl; exact rfl; exact rfl; intro hlen)
    | ((with_reducible apply st_lennil RdT.ok); exact rfl; exact rfl; exact rfl)
    | ((with_reducible apply st_add); exact rfl; exact rfl; exact rfl; omega)
    | ((with_reducible apply st_sub); exact rfl; exact rfl; exact rfl; omega)
    | ((with_reducible apply st_q RdT.ok); exact rfl; exact rfl)
    | ((with_reducible apply c_condT); exact rfl)
    | ((with_reducible apply c_condF); exact rfl)
    | ((with_reducible apply c_cond); exact rfl; (first | exact Bp.not Bp.dec | exact Bp.dec | exact Bp.not Bp.bool | exact Bp.bool); all_goals intro hc))
    (with_reducible apply r_tup); exact rfl; exact .tmp rfl (.tmp rfl (.tmp rfl (.tmp rfl .nil))); exact rfl; exact .cons (.s (.pv _)) (.cons (.s (.pv _)) (.cons (.s (.pv _)) (.cons (.s (.pv _)) .nil))); exact hS; refine ⟨rfl, _, rfl, ?_⟩
    rw [takeC, if_neg (by rw [hmay]; simp)]; rfl
  | true =>
    obtain ⟨hl, hls⟩ := mayC_fits hmay
    have hln := mayC_len hmay
    cases o with
    | none => exact absurd hln.1 (by simp)
    | some l =>
      simp only [Option.getD_some] at hl hls hln
      rw [takeC, if_pos hmay, Option.getD_some]
      show awp _ _ _ _ _ (St L 47 [(0, row 1 (l.map encC)), (1, int n), (2, int no)] S [])
      repeat' (first
    | (with_reducible refine want_none ?_)
    | (with_reducible refine c_seq ?_)
    | (with_reducible refine c_region ?_)
    | ((with_reducible refine c_regionD ?_ ?_ ?_ ?_); (kernel_rfl); (exact rfl); (exact rfl))
    | (with_reducible refine c_block ?_)
    | (with_reducible refine aops_nil ?_)
    | (with_reducible refine k_normal ?_)
    | (with_reducible refine c_skip ?_)
    | (with_reducible refine c_exit ?_)
    | (with_reducible refine c_ret ?_)
    | (with_reducible refine k_ret ?_)
    | (with_reducible refine k_exit ?_)
    | (with_reducible refine kl_ret ?_)
    | (with_reducible refine kl_exit ?_)
    | (with_reducible refine kr_ret ?_)
    | (with_reducible refine kr_exit ?_)
    | (with_reducible refine kb_normal ?_)
    | (with_reducible refine kb_ret ?_)
    | (with_reducible refine kb_hit ?_)
    | ((with_reducible refine kb_miss ?_ ?_); exact rfl)
    | ((with_reducible apply want_run); exact rfl; exact rfl)
    | ((with_reducible apply want_skip); exact rfl; exact rfl; exact rfl)
    | ((with_reducible apply want_out); exact rfl; exact rfl; exact rfl)
    | ((with_reducible apply want_forkF); exact rfl; exact rfl; exact rfl; (first | exact Bp.not Bp.dec | exact Bp.dec | exact Bp.not Bp.bool | exact Bp.bool); all_goals intro hc)
    | ((with_reducible apply want_forkT); exact rfl; exact rfl; exact rfl; (first | exact Bp.not Bp.dec | exact Bp.dec | exact Bp.not Bp.bool | exact Bp.bool); all_goals intro hc)
    | ((with_reducible apply st_callv); exact rfl; exact rfl; exact rfl; exact rfl; exact mayC_AC (some l); (rintro v rfl); rw [hmay])
    | ((with_reducible apply st_alloc); exact rfl; exact rfl; exact rfl; exact rfl)
    | ((with_reducible apply st_box); exact rfl; exact rfl; exact rfl; exact rfl)
    | ((with_reducible apply st_loadpelK); exact rfl; exact rfl; assumption; exact rfl; exact rfl)
    | ((with_reducible apply st_loadpel); exact rfl; exact rfl; omega; exact rfl; (intro u hu; refine ⟨_, rfl, ?_⟩; try simp only [Int.toNat_natCast] at hu))
    | ((with_reducible apply st_load); exact rfl; exact rfl; exact rfl; exact rfl; exact rfl)
    | ((with_reducible apply st_store); exact rfl; exact rfl; exact rfl; exact rfl; exact rfl; exact rfl)
    | ((with_reducible apply st_idx); exact rfl; exact rfl; exact rfl; exact rfl; exact rfl; omega)
    | ((with_reducible apply st_len RdT.ok); exact rfl; exact rfl; exact rfl; intro hlen)
    | ((with_reducible apply st_lennil RdT.ok); exact rfl; exact rfl; exact rfl)
    | ((with_reducible apply st_add); exact rfl; exact rfl; exact rfl; omega)
    | ((with_reducible apply st_sub); exact rfl; exact rfl; exact rfl; omega)
    | ((with_reducible apply st_q RdT.ok); exact rfl; exact rfl)
    | ((with_reducible apply c_condT); exact rfl)
    | ((with_reducible apply c_condF); exact rfl)
    | ((with_reducible apply c_cond); exact rfl; (first | exact Bp.not Bp.dec | exact Bp.dec | exact Bp.not Bp.bool | exact Bp.bool); all_goals intro hc))
      refine c_loop (β := Nat) (fun k => k ≤ l.length ∧ takeC1 n no 0 l = takeC1 n no k (l.drop k)) (fun k => l.length - k) (fun k => [(0, row 1 (l.map encC)), (1, int n), (2, int no), (19, row 1 (l.map encC)), (20, int l.length), (21, int k)]) (fun _ => []) 0 ⟨Nat.zero_le _, rfl⟩ ⟨rfl, rfl, rfl, rfl, rfl, rfl, trivial⟩ trivial rfl rfl ?_
      rintro k ⟨hk, hm⟩
      repeat' (first
    | (with_reducible refine want_none ?_)
    | (with_reducible refine c_seq ?_)
    | (with_reducible refine c_region ?_)
    | ((with_reducible refine c_regionD ?_ ?_ ?_ ?_); (kernel_rfl); (exact rfl); (exact rfl))
    | (with_reducible refine c_block ?_)
    | (with_reducible refine aops_nil ?_)
    | (with_reducible refine k_normal ?_)
    | (with_reducible refine c_skip ?_)
    | (with_reducible refine c_exit ?_)
    | (with_reducible refine c_ret ?_)
    | (with_reducible refine k_ret ?_)
    | (with_reducible refine k_exit ?_)
    | (with_reducible refine kl_ret ?_)
    | (with_reducible refine kl_exit ?_)
    | (with_reducible refine kr_ret ?_)
    | (with_reducible refine kr_exit ?_)
    | (with_reducible refine kb_normal ?_)
    | (with_reducible refine kb_ret ?_)
    | (with_reducible refine kb_hit ?_)
    | ((with_reducible refine kb_miss ?_ ?_); exact rfl)
    | ((with_reducible apply want_run); exact rfl; exact rfl)
    | ((with_reducible apply want_skip); exact rfl; exact rfl; exact rfl)
    | ((with_reducible apply want_out); exact rfl; exact rfl; exact rfl)
    | ((with_reducible apply want_forkF); exact rfl; exact rfl; exact rfl; (first | exact Bp.not Bp.dec | exact Bp.dec | exact Bp.not Bp.bool | exact Bp.bool); all_goals intro hc)
    | ((with_reducible apply want_forkT); exact rfl; exact rfl; exact rfl; (first | exact Bp.not Bp.dec | exact Bp.dec | exact Bp.not Bp.bool | exact Bp.bool); all_goals intro hc)
    | ((with_reducible apply st_callv); exact rfl; exact rfl; exact rfl; exact rfl; exact take_AC u n; (rintro v rfl); rw [takeV_eq]) | ((with_reducible apply st_callo); exact rfl; exact rfl; exact rfl; exact rfl; exact copied_row l hl hls; (rintro es rfl)) | ((with_reducible apply st_idxown); exact rfl; exact rfl; exact rfl; exact rfl; exact rfl; exact rfl; (rw [List.length_map]; omega)) | ((with_reducible apply st_storeprU); exact rfl; exact rfl; exact rfl; exact rfl; exact rfl; exact rfl; omega; (intro b hb; refine ⟨(take u n).map (·.1), _, rfl, rfl, rfl, ?_⟩))
    | ((with_reducible apply st_alloc); exact rfl; exact rfl; exact rfl; exact rfl)
    | ((with_reducible apply st_box); exact rfl; exact rfl; exact rfl; exact rfl)
    | ((with_reducible apply st_loadpelK); exact rfl; exact rfl; assumption; exact rfl; exact rfl)
    | ((with_reducible apply st_loadpel); exact rfl; exact rfl; omega; exact rfl; (intro u hu; refine ⟨_, rfl, ?_⟩; try simp only [Int.toNat_natCast] at hu))
    | ((with_reducible apply st_load); exact rfl; exact rfl; exact rfl; exact rfl; exact rfl)
    | ((with_reducible apply st_store); exact rfl; exact rfl; exact rfl; exact rfl; exact rfl; exact rfl)
    | ((with_reducible apply st_idx); exact rfl; exact rfl; exact rfl; exact rfl; exact rfl; omega)
    | ((with_reducible apply st_len RdT.ok); exact rfl; exact rfl; exact rfl; intro hlen)
    | ((with_reducible apply st_lennil RdT.ok); exact rfl; exact rfl; exact rfl)
    | ((with_reducible apply st_add); exact rfl; exact rfl; exact rfl; omega)
    | ((with_reducible apply st_sub); exact rfl; exact rfl; exact rfl; omega)
    | ((with_reducible apply st_q RdT.ok); exact rfl; exact rfl)
    | ((with_reducible apply c_condT); exact rfl)
    | ((with_reducible apply c_condF); exact rfl)
    | ((with_reducible apply c_cond); exact rfl; (first | exact Bp.not Bp.dec | exact Bp.dec | exact Bp.not Bp.bool | exact Bp.bool); all_goals intro hc))
      · ((with_reducible refine k_back (k + 1) ?_ ?_ ?_ ?_ ?_ ?_); rotate_left; rotate_left; exact (by repeat' (first | exact trivial | (refine And.intro rfl ?_))); exact (by repeat' (first | exact trivial | (refine And.intro rfl ?_))); exact rfl; exact rfl)
        · exact ⟨by omega, by rw [hm, drop_consG hu, takeC1, if_pos (by assumption)]⟩
        · omega
      · (with_reducible apply r_tup); exact rfl; exact .tmp rfl (.tmp rfl (.tmp rfl (.tmp rfl .nil))); exact rfl; exact .cons (.s (.sl rfl (by rw [List.length_map, List.length_map, List.length_set]))) (.cons (.s (.pv _)) (.cons (.s (.pv _)) (.cons (.s (.pv _)) .nil))); exact hS; refine ⟨rfl, _, rfl, ?_⟩
        rw [hm, drop_consG hu, takeC1, if_neg (by assumption), if_pos hc]
        rfl
      · ((with_reducible refine k_back (k + 1) ?_ ?_ ?_ ?_ ?_ ?_); rotate_left; rotate_left; exact (by repeat' (first | exact trivial | (refine And.intro rfl ?_))); exact (by repeat' (first | exact trivial | (refine And.intro rfl ?_))); exact rfl; exact rfl)
        · exact ⟨by omega, by rw [hm, drop_consG hu, takeC1, if_neg (by assumption), if_neg (by assumption)]⟩
        · omega
      · (with_reducible apply r_tup); exact rfl; exact .tmp rfl (.tmp rfl (.tmp rfl (.tmp rfl .nil))); exact rfl; exact .cons (.s (.pv _)) (.cons (.s (.pv _)) (.cons (.s (.pv _)) (.cons (.s (.pv _)) .nil))); exact hS; refine ⟨rfl, _, rfl, ?_⟩
        rw [hm, List.drop_of_length_le (by omega)]
        rfl
end Go.Proofs.Ytfdaioinghfjpaa
