/- Contracts: the elements; slots.May. -/
import Derived.Test.YtfdaioinghfjpaaRdTypes
import Derived.Test.YtfdaioinghfjpaaRdLaw
namespace Go.Proofs.Ytfdaioinghfjpaa
open Go.Rd Go.RowKit
set_option maxRecDepth 20000

structure U where
  pos : Int
  len : Int
  count : Int
  old : Bool
  deriving DecidableEq
def encU (u : U) : List PV := [.lit (.int .i64 u.pos), .lit (.int .i64 u.len), .lit (.int .i64 u.count), .lit (.bool u.old)]
/-- A slice: nil, or its elements. -/
abbrev uA : Option (List U) → AV := slA 4 encU
abbrev bA : Option (List Bool) → AV := slA 1 encB

theorem eq41 (u v : U) : Rd.EqAt Try.prog 41 [.int .i64 u.pos, .int .i64 u.len, .int .i64 u.count, .bool u.old] [.int .i64 v.pos, .int .i64 v.len, .int .i64 v.count, .bool v.old] (decide (u = v)) := by
  have e : decide (u = v) = (u.pos == v.pos && (u.len == v.len && (u.count == v.count && (u.old == v.old && true)))) := by
    obtain ⟨a, b, c, d⟩ := u
    obtain ⟨a', b', c', d'⟩ := v
    simp only [U.mk.injEq, Bool.decide_and, Bool.and_true]
    rfl
  rw [e]
  refine eqAt_of Try.underlying41 (by kernel_rfl) (by kernel_rfl) fun w => ?_
  refine eqfs_cons (by rfl) (by go_simp; rfl) (by go_simp; rfl) (by go_simp) ?_
  refine eqfs_cons (by rfl) (by go_simp; rfl) (by go_simp; rfl) (by go_simp) ?_
  refine eqfs_cons (by rfl) (by go_simp; rfl) (by go_simp; rfl) (by go_simp) ?_
  refine eqfs_cons (by rfl) (by go_simp; rfl) (by go_simp; rfl) (by go_simp) ?_
  exact eqfs_nil

theorem drop_cons {α : Type} {l : List α} {k : Nat} {u : α} (h : l[k]? = some u) : l.drop k = u :: l.drop (k + 1) := by
  obtain ⟨h1, h2⟩ := List.getElem?_eq_some_iff.1 h
  rw [List.drop_eq_getElem_cons h1, h2]

def may1 (e : Int) : List U → Bool
  | [] => true
  | u :: r => if u.len < 1 ∨ u.len > 8 ∨ u.pos < e ∨ u.pos > 16 - u.len then false else if u.count < 0 ∨ u.count > 1000000 ∨ u.old = false ∧ u.count = 0 then false else may1 (u.pos + u.len) r
def may (o : Option (List U)) : Bool := may1 0 (o.getD [])

theorem may_AC (o : Option (List U)) : ACv Try.prog 25 [uA o] (fun v => v = Rd.bool (may o)) := by
  intro L S hL
  refine fn_St (n := 58) (rs := [.tmp 2]) hands_val RdT.ok RdT.mixed Try.func25 rfl (by kernel_rfl) rfl rfl rfl hL ?_
  intro hS
  cases o with
  | none =>
    show awp _ _ _ _ _ (St L 58 [(0, .a (.s (.pv (.lit (.slice none 0 0)))))] S [])
    repeat' (first
    | (with_reducible refine want_none ?_)
    | (with_reducible refine c_seq ?_)
    | (with_reducible refine c_region ?_)
    | ((with_reducible refine c_regionD ?_ ?_ ?_ ?_); (kernel_rfl); (exact rfl); (exact rfl))
    | (with_reducible refine c_block ?_)
    | (with_reducible refine aops_nil ?_)
    | (with_reducible refine k_normal ?_)
    | (with_reducible refine c_skip ?_)
    | (with_reducible refine c_exit ?_)
    | (with_reducible refine c_ret ?_)
    | (with_reducible refine k_ret ?_)
    | (with_reducible refine k_exit ?_)
    | (with_reducible refine kl_ret ?_)
    | (with_reducible refine kl_exit ?_)
    | (with_reducible refine kr_ret ?_)
    | (with_reducible refine kr_exit ?_)
    | (with_reducible refine kb_normal ?_)
    | (with_reducible refine kb_ret ?_)
    | (with_reducible refine kb_hit ?_)
    | ((with_reducible refine kb_miss ?_ ?_); exact rfl)
    | ((with_reducible apply want_run); exact rfl; exact rfl)
    | ((with_reducible apply want_skip); exact rfl; exact rfl; exact rfl)
    | ((with_reducible apply want_out); exact rfl; exact rfl; exact rfl)
    | ((with_reducible apply want_forkF); exact rfl; exact rfl; exact rfl; (first | exact Bp.not Bp.dec | exact Bp.dec | exact Bp.not Bp.bool | exact Bp.bool); all_goals intro hc)
    | ((with_reducible apply want_forkT); exact rfl; exact rfl; exact rfl; (first | exact Bp.not Bp.dec | exact Bp.dec | exact Bp.not Bp.bool | exact Bp.bool); all_goals intro hc)
    | ((with_reducible apply st_alloc); exact rfl; exact rfl; exact rfl; exact rfl)
    | ((with_reducible apply st_box); exact rfl; exact rfl; exact rfl; exact rfl)
    | ((with_reducible apply st_loadpelK); exact rfl; exact rfl; assumption; exact rfl; exact rfl)
    | ((with_reducible apply st_loadpel); exact rfl; exact rfl; omega; exact rfl; (intro u hu; refine ⟨_, rfl, ?_⟩; try simp only [Int.toNat_natCast] at hu))
    | ((with_reducible apply st_load); exact rfl; exact rfl; exact rfl; exact rfl; exact rfl)
    | ((with_reducible apply st_store); exact rfl; exact rfl; exact rfl; exact rfl; exact rfl; exact rfl)
    | ((with_reducible apply st_idx); exact rfl; exact rfl; exact rfl; exact rfl; exact rfl; omega)
    | ((with_reducible apply st_len RdT.ok); exact rfl; exact rfl; exact rfl; intro hlen)
    | ((with_reducible apply st_lennil RdT.ok); exact rfl; exact rfl; exact rfl)
    | ((with_reducible apply st_add); exact rfl; exact rfl; exact rfl; omega)
    | ((with_reducible apply st_sub); exact rfl; exact rfl; exact rfl; omega)
    | ((with_reducible apply st_q RdT.ok); exact rfl; exact rfl)
    | ((with_reducible apply c_condT); exact rfl)
    | ((with_reducible apply c_condF); exact rfl)
    | ((with_reducible apply c_cond); exact rfl; (first | exact Bp.not Bp.dec | exact Bp.dec | exact Bp.not Bp.bool | exact Bp.bool); all_goals intro hc))
    refine c_loop0 ?_
    repeat' (first
    | (with_reducible refine want_none ?_)
    | (with_reducible refine c_seq ?_)
    | (with_reducible refine c_region ?_)
    | ((with_reducible refine c_regionD ?_ ?_ ?_ ?_); (kernel_rfl); (exact rfl); (exact rfl))
    | (with_reducible refine c_block ?_)
    | (with_reducible refine aops_nil ?_)
    | (with_reducible refine k_normal ?_)
    | (with_reducible refine c_skip ?_)
    | (with_reducible refine c_exit ?_)
    | (with_reducible refine c_ret ?_)
    | (with_reducible refine k_ret ?_)
    | (with_reducible refine k_exit ?_)
    | (with_reducible refine kl_ret ?_)
    | (with_reducible refine kl_exit ?_)
    | (with_reducible refine kr_ret ?_)
    | (with_reducible refine kr_exit ?_)
    | (with_reducible refine kb_normal ?_)
    | (with_reducible refine kb_ret ?_)
    | (with_reducible refine kb_hit ?_)
    | ((with_reducible refine kb_miss ?_ ?_); exact rfl)
    | ((with_reducible apply want_run); exact rfl; exact rfl)
    | ((with_reducible apply want_skip); exact rfl; exact rfl; exact rfl)
    | ((with_reducible apply want_out); exact rfl; exact rfl; exact rfl)
    | ((with_reducible apply want_forkF); exact rfl; exact rfl; exact rfl; (first | exact Bp.not Bp.dec | exact Bp.dec | exact Bp.not Bp.bool | exact Bp.bool); all_goals intro hc)
    | ((with_reducible apply want_forkT); exact rfl; exact rfl; exact rfl; (first | exact Bp.not Bp.dec | exact Bp.dec | exact Bp.not Bp.bool | exact Bp.bool); all_goals intro hc)
    | ((with_reducible apply st_alloc); exact rfl; exact rfl; exact rfl; exact rfl)
    | ((with_reducible apply st_box); exact rfl; exact rfl; exact rfl; exact rfl)
    | ((with_reducible apply st_loadpelK); exact rfl; exact rfl; assumption; exact rfl; exact rfl)
    | ((with_reducible apply st_loadpel); exact rfl; exact rfl; omega; exact rfl; (intro u hu; refine ⟨_, rfl, ?_⟩; try simp only [Int.toNat_natCast] at hu))
    | ((with_reducible apply st_load); exact rfl; exact rfl; exact rfl; exact rfl; exact rfl)
    | ((with_reducible apply st_store); exact rfl; exact rfl; exact rfl; exact rfl; exact rfl; exact rfl)
    | ((with_reducible apply st_idx); exact rfl; exact rfl; exact rfl; exact rfl; exact rfl; omega)
    | ((with_reducible apply st_len RdT.ok); exact rfl; exact rfl; exact rfl; intro hlen)
    | ((with_reducible apply st_lennil RdT.ok); exact rfl; exact rfl; exact rfl)
    | ((with_reducible apply st_add); exact rfl; exact rfl; exact rfl; omega)
    | ((with_reducible apply st_sub); exact rfl; exact rfl; exact rfl; omega)
    | ((with_reducible apply st_q RdT.ok); exact rfl; exact rfl)
    | ((with_reducible apply c_condT); exact rfl)
    | ((with_reducible apply c_condF); exact rfl)
    | ((with_reducible apply c_cond); exact rfl; (first | exact Bp.not Bp.dec | exact Bp.dec | exact Bp.not Bp.bool | exact Bp.bool); all_goals intro hc))
    ((with_reducible apply r_one); exact rfl; exact .tmp rfl .nil; exact .s (.pv _); exact hS; refine ⟨rfl, _, rfl, ?_⟩)
    rfl
  | some l =>
    show awp _ _ _ _ _ (St L 58 [(0, .a (.s (.pv (.row 4 (l.map encU)))))] S [])
    show awp _ _ _ _ (retQ _ _ (exitVal fun r S' => S' = S ∧ ∃ v, r = .val v ∧ v = Rd.bool (may1 0 l))) _
    repeat' (first
    | (with_reducible refine want_none ?_)
    | (with_reducible refine c_seq ?_)
    | (with_reducible refine c_region ?_)
    | ((with_reducible refine c_regionD ?_ ?_ ?_ ?_); (kernel_rfl); (exact rfl); (exact rfl))
    | (with_reducible refine c_block ?_)
    | (with_reducible refine aops_nil ?_)
    | (with_reducible refine k_normal ?_)
    | (with_reducible refine c_skip ?_)
    | (with_reducible refine c_exit ?_)
    | (with_reducible refine c_ret ?_)
    | (with_reducible refine k_ret ?_)
    | (with_reducible refine k_exit ?_)
    | (with_reducible refine kl_ret ?_)
    | (with_reducible refine kl_exit ?_)
    | (with_reducible refine kr_ret ?_)
    | (with_reducible refine kr_exit ?_)
    | (with_reducible refine kb_normal ?_)
    | (with_reducible refine kb_ret ?_)
    | (with_reducible refine kb_hit ?_)
    | ((with_reducible refine kb_miss ?_ ?_); exact rfl)
    | ((with_reducible apply want_run); exact rfl; exact rfl)
    | ((with_reducible apply want_skip); exact rfl; exact rfl; exact rfl)
    | ((with_reducible apply want_out); exact rfl; exact rfl; exact rfl)
    | ((with_reducible apply want_forkF); exact rfl; exact rfl; exact rfl; (first | exact Bp.not Bp.dec | exact Bp.dec | exact Bp.not Bp.bool | exact Bp.bool); all_goals intro hc)
    | ((with_reducible apply want_forkT); exact rfl; exact rfl; exact rfl; (first | exact Bp.not Bp.dec | exact Bp.dec | exact Bp.not Bp.bool | exact Bp.bool); all_goals intro hc)
    | ((with_reducible apply st_alloc); exact rfl; exact rfl; exact rfl; exact rfl)
    | ((with_reducible apply st_box); exact rfl; exact rfl; exact rfl; exact rfl)
    | ((with_reducible apply st_loadpelK); exact rfl; exact rfl; assumption; exact rfl; exact rfl)
    | ((with_reducible apply st_loadpel); exact rfl; exact rfl; omega; exact rfl; (intro u hu; refine ⟨_, rfl, ?_⟩; try simp only [Int.toNat_natCast] at hu))
    | ((with_reducible apply st_load); exact rfl; exact rfl; exact rfl; exact rfl; exact rfl)
    | ((with_reducible apply st_store); exact rfl; exact rfl; exact rfl; exact rfl; exact rfl; exact rfl)
    | ((with_reducible apply st_idx); exact rfl; exact rfl; exact rfl; exact rfl; exact rfl; omega)
    | ((with_reducible apply st_len RdT.ok); exact rfl; exact rfl; exact rfl; intro hlen)
    | ((with_reducible apply st_lennil RdT.ok); exact rfl; exact rfl; exact rfl)
    | ((with_reducible apply st_add); exact rfl; exact rfl; exact rfl; omega)
    | ((with_reducible apply st_sub); exact rfl; exact rfl; exact rfl; omega)
    | ((with_reducible apply st_q RdT.ok); exact rfl; exact rfl)
    | ((with_reducible apply c_condT); exact rfl)
    | ((with_reducible apply c_condF); exact rfl)
    | ((with_reducible apply c_cond); exact rfl; (first | exact Bp.not Bp.dec | exact Bp.dec | exact Bp.not Bp.bool | exact Bp.bool); all_goals intro hc))
    refine c_loop (β := Int × Nat) (fun b => b.2 ≤ l.length ∧ 0 ≤ b.1 ∧ may1 0 l = may1 b.1 (l.drop b.2)) (fun b => l.length - b.2) (fun b => [(3, int b.1), (6, row 4 (l.map encU)), (7, int l.length), (8, int b.2)]) (fun _ => []) (0, 0) ⟨Nat.zero_le _, Int.le_refl _, rfl⟩ ⟨rfl, rfl, rfl, rfl, trivial⟩ trivial rfl rfl ?_
    rintro ⟨e, k⟩ ⟨hk, he, hm⟩
    dsimp only at hk he hm ⊢
    repeat' (first
    | (with_reducible refine want_none ?_)
    | (with_reducible refine c_seq ?_)
    | (with_reducible refine c_region ?_)
    | ((with_reducible refine c_regionD ?_ ?_ ?_ ?_); (kernel_rfl); (exact rfl); (exact rfl))
    | (with_reducible refine c_block ?_)
    | (with_reducible refine aops_nil ?_)
    | (with_reducible refine k_normal ?_)
    | (with_reducible refine c_skip ?_)
    | (with_reducible refine c_exit ?_)
    | (with_reducible refine c_ret ?_)
    | (with_reducible refine k_ret ?_)
    | (with_reducible refine k_exit ?_)
    | (with_reducible refine kl_ret ?_)
    | (with_reducible refine kl_exit ?_)
    | (with_reducible refine kr_ret ?_)
    | (with_reducible refine kr_exit ?_)
    | (with_reducible refine kb_normal ?_)
    | (with_reducible refine kb_ret ?_)
    | (with_reducible refine kb_hit ?_)
    | ((with_reducible refine kb_miss ?_ ?_); exact rfl)
    | ((with_reducible apply want_run); exact rfl; exact rfl)
    | ((with_reducible apply want_skip); exact rfl; exact rfl; exact rfl)
    | ((with_reducible apply want_out); exact rfl; exact rfl; exact rfl)
    | ((with_reducible apply want_forkF); exact rfl; exact rfl; exact rfl; (first | exact Bp.not Bp.dec | exact Bp.dec | exact Bp.not Bp.bool | exact Bp.bool); all_goals intro hc)
    | ((with_reducible apply want_forkT); exact rfl; exact rfl; exact rfl; (first | exact Bp.not Bp.dec | exact Bp.dec | exact Bp.not Bp.bool | exact Bp.bool); all_goals intro hc)
    | ((with_reducible apply st_alloc); exact rfl; exact rfl; exact rfl; exact rfl)
    | ((with_reducible apply st_box); exact rfl; exact rfl; exact rfl; exact rfl)
    | ((with_reducible apply st_loadpelK); exact rfl; exact rfl; assumption; exact rfl; exact rfl)
    | ((with_reducible apply st_loadpel); exact rfl; exact rfl; omega; exact rfl; (intro u hu; refine ⟨_, rfl, ?_⟩; try simp only [Int.toNat_natCast] at hu))
    | ((with_reducible apply st_load); exact rfl; exact rfl; exact rfl; exact rfl; exact rfl)
    | ((with_reducible apply st_store); exact rfl; exact rfl; exact rfl; exact rfl; exact rfl; exact rfl)
    | ((with_reducible apply st_idx); exact rfl; exact rfl; exact rfl; exact rfl; exact rfl; omega)
    | ((with_reducible apply st_len RdT.ok); exact rfl; exact rfl; exact rfl; intro hlen)
    | ((with_reducible apply st_lennil RdT.ok); exact rfl; exact rfl; exact rfl)
    | ((with_reducible apply st_add); exact rfl; exact rfl; exact rfl; omega)
    | ((with_reducible apply st_sub); exact rfl; exact rfl; exact rfl; omega)
    | ((with_reducible apply st_q RdT.ok); exact rfl; exact rfl)
    | ((with_reducible apply c_condT); exact rfl)
    | ((with_reducible apply c_condF); exact rfl)
    | ((with_reducible apply c_cond); exact rfl; (first | exact Bp.not Bp.dec | exact Bp.dec | exact Bp.not Bp.bool | exact Bp.bool); all_goals intro hc))
    all_goals first
      | ((with_reducible apply r_one); exact rfl; exact .tmp rfl .nil; exact .s (.pv _); exact hS; refine ⟨rfl, _, rfl, ?_⟩)
      | ((with_reducible refine k_back (u.pos + u.len, k + 1) ?_ ?_ ?_ ?_ ?_ ?_); refine ⟨by dsimp only; omega, by dsimp only; omega, ?_⟩; all_goals first | exact rfl | exact trivial | (dsimp only; omega) | exact ⟨rfl, rfl, rfl, rfl, trivial⟩ | skip)
    all_goals first
      | (rw [hm, drop_cons hu, may1, if_pos (by omega)]; done)
      | (rw [hm, drop_cons hu, may1, if_neg (by omega), if_pos (by simp_all)]; done)
      | (rw [hm, drop_cons hu, may1, if_neg (by omega), if_neg (by simp_all)]; done)
      | (rw [hm, List.drop_of_length_le (by omega)]; rfl)
end Go.Proofs.Ytfdaioinghfjpaa
