/- Contracts of alloc: Free. -/
import Derived.Test.YtfdaioinghfjpaaG3
import Derived.Test.YtfdaioinghfjpaaG6
import Derived.Test.YtfdaioinghfjpaaP1
namespace Go.Proofs.Ytfdaioinghfjpaa
open Go.Rd Go.RowKit
set_option maxRecDepth 20000
set_option linter.unusedSimpArgs false
set_option linter.unusedVariables false
set_option maxHeartbeats 4000000

def bitsOf (t : Tb) : List Bool := used1 none16 (t.getD [])
theorem bitsOf_len (t : Tb) : (bitsOf t).length = 16 := by rw [bitsOf, used1_length]; rfl
theorem bitsOf_sz (t : Tb) : (bitsOf t).length < 9223372036854775807 := by rw [bitsOf_len]; decide
theorem bitsOf_ne (t : Tb) : bitsOf t ≠ [] := fun h => by have := congrArg List.length h; rw [bitsOf_len] at this; cases this
def emptyT (t : Tb) : Nat := if (t.getD []).length = 0 then 1 else 0
def sumOf (f : Tb → Nat) : List Tb → Nat
  | [] => 0
  | t :: r => f t + sumOf f r
theorem sumOf_take (f : Tb → Nat) {u : Tb} : ∀ {l : List Tb} {k : Nat}, l[k]? = some u → sumOf f (l.take (k + 1)) = sumOf f (l.take k) + f u
  | [], k, h => by simp at h
  | v :: r, 0, h => by simp at h; subst h; simp [sumOf]
  | v :: r, k + 1, h => by
    have := sumOf_take f (l := r) (k := k) (by simpa using h)
    rw [List.take_succ_cons, sumOf, List.take_succ_cons, sumOf, this]
    omega
theorem sumOf_le (f : Tb → Nat) (m : Nat) (hf : ∀ t, f t ≤ m) : ∀ l : List Tb, sumOf f l ≤ m * l.length
  | [] => by simp [sumOf]
  | t :: r => by
    have h1 := sumOf_le f m hf r
    have h2 := hf t
    rw [sumOf, List.length_cons, Nat.mul_add]
    omega
def fr (t : Tb) : Nat := free (bitsOf t)
theorem fr_le (t : Tb) : fr t ≤ 16 := by have := free_le (bitsOf t); rw [bitsOf_len] at this; exact this
theorem emptyT_le (t : Tb) : emptyT t ≤ 1 := by unfold emptyT; split <;> omega
def freeC (o : Option (List Tb)) : Int × Int := if mayC o = true then ((sumOf fr (o.getD []) : Int), (sumOf emptyT (o.getD []) : Int)) else (0, 0)
def freeCV (p : Int × Int) : TV := .tup [.s (.pv (.lit (.int .i64 p.1))), .s (.pv (.lit (.int .i64 p.2)))]

theorem freeC_AC (o : Option (List Tb)) : ACv Try.prog 43 [cA o] fun v => v = freeCV (freeC o) := by
  intro L S hL
  refine fn_St (n := 30) (rs := [.tmp 2, .tmp 3]) hands_val RdT.ok RdT.mixed Try.func43 rfl (by kernel_rfl) rfl rfl rfl hL ?_
  intro hS
  cases hmay : mayC o with
  | false =>
    show awp _ _ _ _ _ (St L 30 [(0, .a (cA o))] S [])
    repeat' (first
    | (with_reducible refine want_none ?_)
    | (with_reducible refine c_seq ?_)
    | (with_reducible refine c_region ?_)
    | ((with_reducible refine c_regionD ?_ ?_ ?_ ?_); (kernel_rfl); (exact rfl); (exact rfl))
    | (with_reducible refine c_block ?_)
    | (with_reducible refine aops_nil ?_)
    | (with_reducible refine k_normal ?_)
    | (with_reducible refine c_skip ?_)
    | (with_reducible refine c_exit ?_)
    | (with_reducible refine c_ret ?_)
    | (with_reducible refine k_ret ?_)
    | (with_reducible refine k_exit ?_)
    | (with_reducible refine kl_ret ?_)
    | (with_reducible refine kl_exit ?_)
    | (with_reducible refine kr_ret ?_)
    | (with_reducible refine kr_exit ?_)
    | (with_reducible refine kb_normal ?_)
    | (with_reducible refine kb_ret ?_)
    | (with_reducible refine kb_hit ?_)
    | ((with_reducible refine kb_miss ?_ ?_); exact rfl)
    | ((with_reducible apply want_run); exact rfl; exact rfl)
    | ((with_reducible apply want_skip); exact rfl; exact rfl; exact rfl)
    | ((with_reducible apply want_out); exact rfl; exact rfl; exact rfl)
    | ((with_reducible apply want_forkF); exact rfl; exact rfl; exact rfl; (first | exact Bp.not Bp.dec | exact Bp.dec | exact Bp.not Bp.bool | exact Bp.bool); all_goals intro hc)
    | ((with_reducible apply want_forkT); exact rfl; exact rfl; exact rfl; (first | exact Bp.not Bp.dec | exact Bp.dec | exact Bp.not Bp.bool | exact Bp.bool); all_goals intro hc)
    | ((with_reducible apply st_callv); exact rfl; exact rfl; exact rfl; exact rfl; exact mayC_AC o; (rintro v rfl); rw [hmay])
    | ((with_reducible apply st_alloc); exact rfl; exact rfl; exact rfl; exact rfl)
    | ((with_reducible apply st_box); exact rfl; exact rfl; exact rfl; exact rfl)
    | ((with_reducible apply st_loadpelK); exact rfl; exact rfl; assumption; exact rfl; exact rfl)
    | ((with_reducible apply st_loadpel); exact rfl; exact rfl; omega; exact rfl; (intro u hu; refine ⟨_, rfl, ?_⟩; try simp only [Int.toNat_natCast] at hu))
    | ((with_reducible apply st_load); exact rfl; exact rfl; exact rfl; exact rfl; exact rfl)
    | ((with_reducible apply st_store); exact rfl; exact rfl; exact rfl; exact rfl; exact rfl; exact rfl)
    | ((with_reducible apply st_idx); exact rfl; exact rfl; exact rfl; exact rfl; exact rfl; omega)
    | ((with_reducible apply st_len RdT.ok); exact rfl; exact rfl; exact rfl; intro hlen)
    | ((with_reducible apply st_lennil RdT.ok); exact rfl; exact rfl; exact rfl)
    | ((with_reducible apply st_add); exact rfl; exact rfl; exact rfl; omega)
    | ((with_reducible apply st_sub); exact rfl; exact rfl; exact rfl; omega)
    | ((with_reducible apply st_q RdT.ok); exact rfl; exact rfl)
    | ((with_reducible apply c_condT); exact rfl)
    | ((with_reducible apply c_condF); exact rfl)
    | ((with_reducible apply c_cond); exact rfl; (first | exact Bp.not Bp.dec | exact Bp.dec | exact Bp.not Bp.bool | exact Bp.bool); all_goals intro hc))
    (with_reducible apply r_tup); exact rfl; exact .tmp rfl (.tmp rfl .nil); exact rfl; exact .cons (.s (.pv _)) (.cons (.s (.pv _)) .nil); exact hS; refine ⟨rfl, _, rfl, ?_⟩
    rw [freeC, if_neg (by rw [hmay]; simp)]; rfl
  | true =>
    have hln := mayC_len hmay
    have hme := mayC_mem hmay
    cases o with
    | none => exact absurd hln.1 (by simp)
    | some l =>
      simp only [Option.getD_some] at hln hme
      rw [freeC, if_pos hmay, Option.getD_some]
      show awp _ _ _ _ _ (St L 30 [(0, row 1 (l.map encC))] S [])
      repeat' (first
    | (with_reducible refine want_none ?_)
    | (with_reducible refine c_seq ?_)
    | (with_reducible refine c_region ?_)
    | ((with_reducible refine c_regionD ?_ ?_ ?_ ?_); (kernel_rfl); (exact rfl); (exact rfl))
    | (with_reducible refine c_block ?_)
    | (with_reducible refine aops_nil ?_)
    | (with_reducible refine k_normal ?_)
    | (with_reducible refine c_skip ?_)
    | (with_reducible refine c_exit ?_)
    | (with_reducible refine c_ret ?_)
    | (with_reducible refine k_ret ?_)
    | (with_reducible refine k_exit ?_)
    | (with_reducible refine kl_ret ?_)
    | (with_reducible refine kl_exit ?_)
    | (with_reducible refine kr_ret ?_)
    | (with_reducible refine kr_exit ?_)
    | (with_reducible refine kb_normal ?_)
    | (with_reducible refine kb_ret ?_)
    | (with_reducible refine kb_hit ?_)
    | ((with_reducible refine kb_miss ?_ ?_); exact rfl)
    | ((with_reducible apply want_run); exact rfl; exact rfl)
    | ((with_reducible apply want_skip); exact rfl; exact rfl; exact rfl)
    | ((with_reducible apply want_out); exact rfl; exact rfl; exact rfl)
    | ((with_reducible apply want_forkF); exact rfl; exact rfl; exact rfl; (first | exact Bp.not Bp.dec | exact Bp.dec | exact Bp.not Bp.bool | exact Bp.bool); all_goals intro hc)
    | ((with_reducible apply want_forkT); exact rfl; exact rfl; exact rfl; (first | exact Bp.not Bp.dec | exact Bp.dec | exact Bp.not Bp.bool | exact Bp.bool); all_goals intro hc)
    | ((with_reducible apply st_callv); exact rfl; exact rfl; exact rfl; exact rfl; exact mayC_AC (some l); (rintro v rfl); rw [hmay])
    | ((with_reducible apply st_alloc); exact rfl; exact rfl; exact rfl; exact rfl)
    | ((with_reducible apply st_box); exact rfl; exact rfl; exact rfl; exact rfl)
    | ((with_reducible apply st_loadpelK); exact rfl; exact rfl; assumption; exact rfl; exact rfl)
    | ((with_reducible apply st_loadpel); exact rfl; exact rfl; omega; exact rfl; (intro u hu; refine ⟨_, rfl, ?_⟩; try simp only [Int.toNat_natCast] at hu))
    | ((with_reducible apply st_load); exact rfl; exact rfl; exact rfl; exact rfl; exact rfl)
    | ((with_reducible apply st_store); exact rfl; exact rfl; exact rfl; exact rfl; exact rfl; exact rfl)
    | ((with_reducible apply st_idx); exact rfl; exact rfl; exact rfl; exact rfl; exact rfl; omega)
    | ((with_reducible apply st_len RdT.ok); exact rfl; exact rfl; exact rfl; intro hlen)
    | ((with_reducible apply st_lennil RdT.ok); exact rfl; exact rfl; exact rfl)
    | ((with_reducible apply st_add); exact rfl; exact rfl; exact rfl; omega)
    | ((with_reducible apply st_sub); exact rfl; exact rfl; exact rfl; omega)
    | ((with_reducible apply st_q RdT.ok); exact rfl; exact rfl)
    | ((with_reducible apply c_condT); exact rfl)
    | ((with_reducible apply c_condF); exact rfl)
    | ((with_reducible apply c_cond); exact rfl; (first | exact Bp.not Bp.dec | exact Bp.dec | exact Bp.not Bp.bool | exact Bp.bool); all_goals intro hc))
      refine c_loop (β := Nat) (fun k => k ≤ l.length) (fun k => l.length - k) (fun k => [(4, int (sumOf fr (l.take k))), (5, int (sumOf emptyT (l.take k))), (11, row 1 (l.map encC)), (12, int l.length), (13, int k)]) (fun _ => []) 0 (Nat.zero_le _) ⟨rfl, rfl, rfl, rfl, rfl, trivial⟩ trivial rfl rfl ?_
      intro k hk
      have b1 := sumOf_le fr 16 fr_le (l.take k)
      have b2 := sumOf_le emptyT 1 emptyT_le (l.take k)
      rw [List.length_take] at b1 b2
      have hus : ∀ t, l[k]? = some t → used t = some (bitsOf t) := fun t ht => used_some (hme t (List.mem_of_getElem? ht))
      have hfr := fr_le
      repeat' (first
    | (with_reducible refine want_none ?_)
    | (with_reducible refine c_seq ?_)
    | (with_reducible refine c_region ?_)
    | ((with_reducible refine c_regionD ?_ ?_ ?_ ?_); (kernel_rfl); (exact rfl); (exact rfl))
    | (with_reducible refine c_block ?_)
    | (with_reducible refine aops_nil ?_)
    | (with_reducible refine k_normal ?_)
    | (with_reducible refine c_skip ?_)
    | (with_reducible refine c_exit ?_)
    | (with_reducible refine c_ret ?_)
    | (with_reducible refine k_ret ?_)
    | (with_reducible refine k_exit ?_)
    | (with_reducible refine kl_ret ?_)
    | (with_reducible refine kl_exit ?_)
    | (with_reducible refine kr_ret ?_)
    | (with_reducible refine kr_exit ?_)
    | (with_reducible refine kb_normal ?_)
    | (with_reducible refine kb_ret ?_)
    | (with_reducible refine kb_hit ?_)
    | ((with_reducible refine kb_miss ?_ ?_); exact rfl)
    | ((with_reducible apply want_run); exact rfl; exact rfl)
    | ((with_reducible apply want_skip); exact rfl; exact rfl; exact rfl)
    | ((with_reducible apply want_out); exact rfl; exact rfl; exact rfl)
    | ((with_reducible apply want_forkF); exact rfl; exact rfl; exact rfl; (first | exact Bp.not Bp.dec | exact Bp.dec | exact Bp.not Bp.bool | exact Bp.bool); all_goals intro hc)
    | ((with_reducible apply want_forkT); exact rfl; exact rfl; exact rfl; (first | exact Bp.not Bp.dec | exact Bp.dec | exact Bp.not Bp.bool | exact Bp.bool); all_goals intro hc)
    | ((with_reducible apply st_loadpel); exact rfl; exact rfl; omega; exact rfl; (intro u hu; simp only [Int.toNat_natCast] at hu; have hfu := fr_le u; rcases u with _ | u <;> refine ⟨_, rfl, ?_⟩)) | ((with_reducible apply st_callv); exact rfl; exact rfl; exact rfl; exact rfl; exact used_AC none; (rintro v rfl); rw [hus _ hu]) | ((with_reducible apply st_callv); exact rfl; exact rfl; exact rfl; exact rfl; exact used_AC (some u); (rintro v rfl); rw [hus _ hu]) | ((with_reducible apply st_callv); exact rfl; exact rfl; exact rfl; exact rfl; exact runsFree_AC (bitsOf none) (bitsOf_sz _) (bitsOf_ne _); (rintro v rfl); rw [show free (bitsOf none) = fr none from rfl]) | ((with_reducible apply st_callv); exact rfl; exact rfl; exact rfl; exact rfl; exact runsFree_AC (bitsOf (some u)) (bitsOf_sz _) (bitsOf_ne _); (rintro v rfl); rw [show free (bitsOf (some u)) = fr (some u) from rfl])
    | ((with_reducible apply st_alloc); exact rfl; exact rfl; exact rfl; exact rfl)
    | ((with_reducible apply st_box); exact rfl; exact rfl; exact rfl; exact rfl)
    | ((with_reducible apply st_loadpelK); exact rfl; exact rfl; assumption; exact rfl; exact rfl)
    | ((with_reducible apply st_loadpel); exact rfl; exact rfl; omega; exact rfl; (intro u hu; refine ⟨_, rfl, ?_⟩; try simp only [Int.toNat_natCast] at hu))
    | ((with_reducible apply st_load); exact rfl; exact rfl; exact rfl; exact rfl; exact rfl)
    | ((with_reducible apply st_store); exact rfl; exact rfl; exact rfl; exact rfl; exact rfl; exact rfl)
    | ((with_reducible apply st_idx); exact rfl; exact rfl; exact rfl; exact rfl; exact rfl; omega)
    | ((with_reducible apply st_len RdT.ok); exact rfl; exact rfl; exact rfl; intro hlen)
    | ((with_reducible apply st_lennil RdT.ok); exact rfl; exact rfl; exact rfl)
    | ((with_reducible apply st_add); exact rfl; exact rfl; exact rfl; omega)
    | ((with_reducible apply st_sub); exact rfl; exact rfl; exact rfl; omega)
    | ((with_reducible apply st_q RdT.ok); exact rfl; exact rfl)
    | ((with_reducible apply c_condT); exact rfl)
    | ((with_reducible apply c_condF); exact rfl)
    | ((with_reducible apply c_cond); exact rfl; (first | exact Bp.not Bp.dec | exact Bp.dec | exact Bp.not Bp.bool | exact Bp.bool); all_goals intro hc))
      all_goals first
        | ((with_reducible refine k_back (k + 1) ?_ ?_ ?_ ?_ ?_ ?_)
           · omega
           · omega
           · refine ⟨?_, ?_, rfl, rfl, rfl, trivial⟩
             · rw [sumOf_take fr hu]
               exact (show Rd.int ((sumOf fr (l.take k) : Int) + (fr _ : Int)) = _ from congrArg Rd.int (by omega))
             · rw [sumOf_take emptyT hu]
               first
                 | exact (show Rd.int ((sumOf emptyT (l.take k) : Int) + 1) = _ from congrArg Rd.int (by rw [show emptyT _ = 1 from if_pos (by first | rfl | (simp only [Option.getD_some]; omega))]; omega))
                 | exact (show Rd.int (sumOf emptyT (l.take k) : Int) = _ from congrArg Rd.int (by rw [show emptyT _ = 0 from if_neg (by simp only [Option.getD_some]; omega)]; omega))
           · exact trivial
           · exact rfl
           · exact rfl)
        | ((with_reducible apply r_tup); exact rfl; exact .tmp rfl (.tmp rfl .nil); exact rfl; exact .cons (.s (.pv _)) (.cons (.s (.pv _)) .nil); exact hS; refine ⟨rfl, _, rfl, ?_⟩
           rw [List.take_of_length_le (by omega)]
           rfl)
        | trace_state
end Go.Proofs.Ytfdaioinghfjpaa
