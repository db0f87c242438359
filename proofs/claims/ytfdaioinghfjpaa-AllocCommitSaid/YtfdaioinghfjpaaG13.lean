/- The law of commits of all tables: plain part, contract (over what is fixed). -/
import Derived.Test.YtfdaioinghfjpaaG7
import Derived.Test.YtfdaioinghfjpaaG9
import Derived.Test.YtfdaioinghfjpaaP1
namespace Go.Proofs.Ytfdaioinghfjpaa
open Go.Rd Go.RowKit
set_option maxRecDepth 20000
set_option linter.unusedSimpArgs false
set_option linter.unusedVariables false
set_option maxHeartbeats 4000000

theorem sumOf_map (f : Tb → Nat) (h : Tb → Tb) : ∀ l : List Tb, (∀ t ∈ l, f t ≤ f (h t)) → sumOf f l ≤ sumOf f (l.map h)
  | [], _ => Nat.le_refl _
  | t :: r, hl => by
    have h1 := sumOf_map f h r fun x hx => hl x (by simp [hx])
    have h2 := hl t (by simp)
    rw [List.map_cons, sumOf, sumOf]
    omega
theorem commitC_some {l : List Tb} (h : mayC (some l) = true) : commitC (some l) = some (l.map commit) := by
  rw [commitC, if_pos h]; rfl
theorem commitC_may {l : List Tb} (h : mayC (some l) = true) : mayC (some (l.map commit)) = true := by
  have h1 := mayC_len h
  have h2 := mayC_mem h
  simp only [Option.getD_some] at h1 h2
  unfold mayC
  rw [Bool.and_eq_true, Option.getD_some, List.length_map]
  refine ⟨decide_eq_true h1, List.all_eq_true.2 fun t ht => ?_⟩
  obtain ⟨x, hx, rfl⟩ := List.mem_map.1 ht
  exact commit_may (h2 x hx)
theorem commitC_fr {l : List Tb} (h : mayC (some l) = true) : sumOf fr l ≤ sumOf fr (l.map commit) :=
  sumOf_map _ _ _ fun t ht => commit_free (mayC_mem h t ht)
theorem commitC_empty {l : List Tb} (h : mayC (some l) = true) : sumOf emptyT l ≤ sumOf emptyT (l.map commit) := by
  refine sumOf_map _ _ _ fun t ht => ?_
  have hm := mayC_mem h t ht
  unfold emptyT
  rw [commit_getD hm]
  have := commit1_length (t.getD [])
  split <;> split <;> omega
theorem commitC_same {l : List Tb} (h : mayC (some l) = true) : sameC (some ((l.map commit).map commit)) (some (l.map commit)) = true := by
  unfold sameC
  rw [decide_eq_true]
  simp only [Option.getD_some, List.map_map]
  refine List.map_congr_left fun t ht => ?_
  have hm := mayC_mem h t ht
  show (commit (commit t)).getD [] = (commit t).getD []
  rw [commit_getD (commit_may hm), commit_getD hm, commit1_twice]
theorem allocCommit_AC (hfix : ACv Try.prog 39 [] fun v => v = Rd.bool true) (o : Option (List Tb)) : ACv Try.prog 13 [cA o] fun v => v = Rd.bool true := by
  intro L S hL
  refine fn_St (n := 58) (rs := [.tmp 2]) hands_val RdT.ok RdT.mixed Try.func13 rfl (by kernel_rfl) rfl rfl rfl (by omega) ?_
  intro hS
  obtain ⟨sm, hsm⟩ : ∃ b, smallC o = b := ⟨_, rfl⟩
  cases hmay : mayC o with
  | false =>
    show awp _ _ _ _ _ (St L 58 [(0, .a (cA o))] S [])
    repeat' (first
    | (with_reducible refine want_none ?_)
    | (with_reducible refine c_seq ?_)
    | (with_reducible refine c_region ?_)
    | ((with_reducible refine c_regionD ?_ ?_ ?_ ?_); (kernel_rfl); (exact rfl); (exact rfl))
    | (with_reducible refine c_block ?_)
    | (with_reducible refine aops_nil ?_)
    | (with_reducible refine k_normal ?_)
    | (with_reducible refine c_skip ?_)
    | (with_reducible refine c_exit ?_)
    | (with_reducible refine c_ret ?_)
    | (with_reducible refine k_ret ?_)
    | (with_reducible refine k_exit ?_)
    | (with_reducible refine kl_ret ?_)
    | (with_reducible refine kl_exit ?_)
    | (with_reducible refine kr_ret ?_)
    | (with_reducible refine kr_exit ?_)
    | (with_reducible refine kb_normal ?_)
    | (with_reducible refine kb_ret ?_)
    | (with_reducible refine kb_hit ?_)
    | ((with_reducible refine kb_miss ?_ ?_); exact rfl)
    | ((with_reducible apply want_run); exact rfl; exact rfl)
    | ((with_reducible apply want_skip); exact rfl; exact rfl; exact rfl)
    | ((with_reducible apply want_out); exact rfl; exact rfl; exact rfl)
    | ((with_reducible apply want_forkF); exact rfl; exact rfl; exact rfl; (first | exact Bp.not Bp.dec | exact Bp.dec | exact Bp.not Bp.bool | exact Bp.bool); all_goals intro hc)
    | ((with_reducible apply want_forkT); exact rfl; exact rfl; exact rfl; (first | exact Bp.not Bp.dec | exact Bp.dec | exact Bp.not Bp.bool | exact Bp.bool); all_goals intro hc)
    | ((with_reducible apply st_callv); exact rfl; exact rfl; exact rfl; exact rfl; exact hfix; (rintro v rfl)) | ((with_reducible apply st_callv); exact rfl; exact rfl; exact rfl; exact rfl; exact smallC_AC o; (rintro v rfl); rw [hsm]) | ((with_reducible apply st_callv); exact rfl; exact rfl; exact rfl; exact rfl; exact refMayC_AC o; (rintro v rfl); rw [hmay])
    | ((with_reducible apply st_alloc); exact rfl; exact rfl; exact rfl; exact rfl)
    | ((with_reducible apply st_box); exact rfl; exact rfl; exact rfl; exact rfl)
    | ((with_reducible apply st_loadpelK); exact rfl; exact rfl; assumption; exact rfl; exact rfl)
    | ((with_reducible apply st_loadpel); exact rfl; exact rfl; omega; exact rfl; (intro u hu; refine ⟨_, rfl, ?_⟩; try simp only [Int.toNat_natCast] at hu))
    | ((with_reducible apply st_load); exact rfl; exact rfl; exact rfl; exact rfl; exact rfl)
    | ((with_reducible apply st_store); exact rfl; exact rfl; exact rfl; exact rfl; exact rfl; exact rfl)
    | ((with_reducible apply st_idx); exact rfl; exact rfl; exact rfl; exact rfl; exact rfl; omega)
    | ((with_reducible apply st_len RdT.ok); exact rfl; exact rfl; exact rfl; intro hlen)
    | ((with_reducible apply st_lennil RdT.ok); exact rfl; exact rfl; exact rfl)
    | ((with_reducible apply st_add); exact rfl; exact rfl; exact rfl; omega)
    | ((with_reducible apply st_sub); exact rfl; exact rfl; exact rfl; omega)
    | ((with_reducible apply st_q RdT.ok); exact rfl; exact rfl)
    | ((with_reducible apply c_condT); exact rfl)
    | ((with_reducible apply c_condF); exact rfl)
    | ((with_reducible apply c_cond); exact rfl; (first | exact Bp.not Bp.dec | exact Bp.dec | exact Bp.not Bp.bool | exact Bp.bool); all_goals intro hc))
    all_goals (((with_reducible apply r_one); exact rfl; exact .tmp rfl .nil; exact .s (.pv _); exact hS; refine ⟨rfl, _, rfl, ?_⟩); rfl)
  | true =>
    have hln := mayC_len hmay
    cases o with
    | none => exact absurd hln.1 (by simp)
    | some l =>
      have e1 := commitC_some hmay
      have e2 := commitC_may hmay
      have e3 := commitC_some e2
      have e4 := commitC_same hmay
      have e5 := commitC_fr hmay
      have e6 := commitC_empty hmay
      have f1 : freeC (some l) = ((sumOf fr l : Int), (sumOf emptyT l : Int)) := by rw [freeC, if_pos hmay]; rfl
      have f2 : freeC (some (l.map commit)) = ((sumOf fr (l.map commit) : Int), (sumOf emptyT (l.map commit) : Int)) := by rw [freeC, if_pos e2]; rfl
      obtain ⟨d, hd⟩ : ∃ d, l.map commit = d := ⟨_, rfl⟩
      have hdl : d.length = l.length := by rw [← hd, List.length_map]
      rw [hd] at e1 e2 e3 e4 e5 e6 f2
      show awp _ _ _ _ _ (St L 58 [(0, row 1 (l.map encC))] S [])
      repeat' (first
    | (with_reducible refine want_none ?_)
    | (with_reducible refine c_seq ?_)
    | (with_reducible refine c_region ?_)
    | ((with_reducible refine c_regionD ?_ ?_ ?_ ?_); (kernel_rfl); (exact rfl); (exact rfl))
    | (with_reducible refine c_block ?_)
    | (with_reducible refine aops_nil ?_)
    | (with_reducible refine k_normal ?_)
    | (with_reducible refine c_skip ?_)
    | (with_reducible refine c_exit ?_)
    | (with_reducible refine c_ret ?_)
    | (with_reducible refine k_ret ?_)
    | (with_reducible refine k_exit ?_)
    | (with_reducible refine kl_ret ?_)
    | (with_reducible refine kl_exit ?_)
    | (with_reducible refine kr_ret ?_)
    | (with_reducible refine kr_exit ?_)
    | (with_reducible refine kb_normal ?_)
    | (with_reducible refine kb_ret ?_)
    | (with_reducible refine kb_hit ?_)
    | ((with_reducible refine kb_miss ?_ ?_); exact rfl)
    | ((with_reducible apply want_run); exact rfl; exact rfl)
    | ((with_reducible apply want_skip); exact rfl; exact rfl; exact rfl)
    | ((with_reducible apply want_out); exact rfl; exact rfl; exact rfl)
    | ((with_reducible apply want_forkF); exact rfl; exact rfl; exact rfl; (first | exact Bp.not Bp.dec | exact Bp.dec | exact Bp.not Bp.bool | exact Bp.bool); all_goals intro hc)
    | ((with_reducible apply want_forkT); exact rfl; exact rfl; exact rfl; (first | exact Bp.not Bp.dec | exact Bp.dec | exact Bp.not Bp.bool | exact Bp.bool); all_goals intro hc)
    | ((with_reducible apply st_callv); exact rfl; exact rfl; exact rfl; exact rfl; exact hfix; (rintro v rfl)) | ((with_reducible apply st_callv); exact rfl; exact rfl; exact rfl; exact rfl; exact smallC_AC (some l); (rintro v rfl); rw [hsm]) | ((with_reducible apply st_callv); exact rfl; exact rfl; exact rfl; exact rfl; exact refMayC_AC (some l); (rintro v rfl); rw [hmay]) | ((with_reducible apply st_callv); exact rfl; exact rfl; exact rfl; exact rfl; exact commitC_AC (some l); (rintro v rfl); rw [e1]) | ((with_reducible apply st_callv); exact rfl; exact rfl; exact rfl; exact rfl; exact freeC_AC (some l); (rintro v rfl); rw [f1]) | ((with_reducible apply st_callv); exact rfl; exact rfl; exact rfl; exact rfl; exact freeC_AC (some d); (rintro v rfl); rw [f2]) | ((with_reducible apply st_callv); exact rfl; exact rfl; exact rfl; exact rfl; exact commitC_AC (some d); (rintro v rfl); rw [e3]) | ((with_reducible apply st_callv); exact rfl; exact rfl; exact rfl; exact rfl; exact sameC_AC (some (d.map commit)) (some d); (rintro v rfl); rw [e4]) | ((with_reducible apply st_callv); exact rfl; exact rfl; exact rfl; exact rfl; exact mayC_AC (some d); (rintro v rfl); rw [e2])
    | ((with_reducible apply st_alloc); exact rfl; exact rfl; exact rfl; exact rfl)
    | ((with_reducible apply st_box); exact rfl; exact rfl; exact rfl; exact rfl)
    | ((with_reducible apply st_loadpelK); exact rfl; exact rfl; assumption; exact rfl; exact rfl)
    | ((with_reducible apply st_loadpel); exact rfl; exact rfl; omega; exact rfl; (intro u hu; refine ⟨_, rfl, ?_⟩; try simp only [Int.toNat_natCast] at hu))
    | ((with_reducible apply st_load); exact rfl; exact rfl; exact rfl; exact rfl; exact rfl)
    | ((with_reducible apply st_store); exact rfl; exact rfl; exact rfl; exact rfl; exact rfl; exact rfl)
    | ((with_reducible apply st_idx); exact rfl; exact rfl; exact rfl; exact rfl; exact rfl; omega)
    | ((with_reducible apply st_len RdT.ok); exact rfl; exact rfl; exact rfl; intro hlen)
    | ((with_reducible apply st_lennil RdT.ok); exact rfl; exact rfl; exact rfl)
    | ((with_reducible apply st_add); exact rfl; exact rfl; exact rfl; omega)
    | ((with_reducible apply st_sub); exact rfl; exact rfl; exact rfl; omega)
    | ((with_reducible apply st_q RdT.ok); exact rfl; exact rfl)
    | ((with_reducible apply c_condT); exact rfl)
    | ((with_reducible apply c_condF); exact rfl)
    | ((with_reducible apply c_cond); exact rfl; (first | exact Bp.not Bp.dec | exact Bp.dec | exact Bp.not Bp.bool | exact Bp.bool); all_goals intro hc))
      all_goals first
        | (exfalso; omega)
        | (((with_reducible apply r_one); exact rfl; exact .tmp rfl .nil; exact .s (.pv _); exact hS; refine ⟨rfl, _, rfl, ?_⟩); rfl)
end Go.Proofs.Ytfdaioinghfjpaa
