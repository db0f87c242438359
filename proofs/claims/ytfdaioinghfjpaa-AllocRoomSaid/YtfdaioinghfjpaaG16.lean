/- The law of room in tables: contract (over what is fixed). -/
import Derived.Test.YtfdaioinghfjpaaP5
import Derived.Test.YtfdaioinghfjpaaG9
import Derived.Test.YtfdaioinghfjpaaF11
namespace Go.Rd
open Go.RowKit Go.Proofs
variable {P : Program} {T : TypeId → Option TI} {L n : Nat} {tm : List (Nat × TV)} {S : Store} {own : List (Nat × AObj)} {ops rest : List Oper} {Q : ASt → Prop} {d : Tmp} {ty : TypeId} {pos : String} {af : Array Edge} {g : Option (Nat × Bool)}
theorem st_mul {t t2 : TypeId} {x y : Operand} {a b : Int} (hx : evF tm x = some (int a)) (hy : evF tm y = some (int b)) (hd : Nat.blt d n = true) (h1 : -9223372036854775808 ≤ a * b ∧ a * b ≤ 9223372036854775807)
    (hk : aops P T ops rest Q (St L n ((d, int (a * b)) :: tm) S own)) : aop1 P T ops rest Q ⟨some d, .binOp .mul t x y t2, ty, pos, af, g⟩ (St L n tm S own) := by
  simp only [aop1, x1, evF_ok hx, evF_ok hy]
  left
  refine ⟨.inl rfl, ?_⟩
  show (St L n tm S own).put (some d) (lit (.int .i64 (IntKind.i64.wrap (a * b)))) _
  rw [wrap_id h1.1 h1.2]
  exact put_some hd hk
end Go.Rd
namespace Go.Proofs.Ytfdaioinghfjpaa
open Go.Rd Go.RowKit
set_option maxRecDepth 20000
set_option linter.unusedSimpArgs false
set_option linter.unusedVariables false
set_option maxHeartbeats 8000000

structure Sz where
  n : Int
  no : Int
def encS (x : Sz) : List PV := [.lit (.int .i64 x.n), .lit (.int .i64 x.no)]
abbrev sA (x : Sz) : AV := .agg ((encS x).map .pv)
theorem allocRoom_AC (hfix : ACv Try.prog 39 [] fun v => v = Rd.bool true) (o : Option (List Tb)) (y : Sz) : ACv Try.prog 9 [cA o, sA y] fun v => v = Rd.bool true := by
  intro L S hL
  refine fn_St (n := 134) (rs := [.tmp 4]) hands_val RdT.ok RdT.mixed Try.func9 rfl (by kernel_rfl) rfl rfl rfl (by omega) ?_
  intro hS
  obtain ⟨sm, hsm⟩ : ∃ b, smallC o = b := ⟨_, rfl⟩
  cases hmay : mayC o with
  | false =>
    show awp _ _ _ _ _ (St L 134 [(0, .a (cA o)), (1, .a (sA y))] S [])
    repeat' (first
    | (with_reducible refine want_none ?_)
    | (with_reducible refine c_seq ?_)
    | (with_reducible refine c_region ?_)
    | ((with_reducible refine c_regionD ?_ ?_ ?_ ?_); (kernel_rfl); (exact rfl); (exact rfl))
    | (with_reducible refine c_block ?_)
    | (with_reducible refine aops_nil ?_)
    | (with_reducible refine k_normal ?_)
    | (with_reducible refine c_skip ?_)
    | (with_reducible refine c_exit ?_)
    | (with_reducible refine c_ret ?_)
    | (with_reducible refine k_ret ?_)
    | (with_reducible refine k_exit ?_)
    | (with_reducible refine kl_ret ?_)
    | (with_reducible refine kl_exit ?_)
    | (with_reducible refine kr_ret ?_)
    | (with_reducible refine kr_exit ?_)
    | (with_reducible refine kb_normal ?_)
    | (with_reducible refine kb_ret ?_)
    | (with_reducible refine kb_hit ?_)
    | ((with_reducible refine kb_miss ?_ ?_); exact rfl)
    | ((with_reducible apply want_run); exact rfl; exact rfl)
    | ((with_reducible apply want_skip); exact rfl; exact rfl; exact rfl)
    | ((with_reducible apply want_out); exact rfl; exact rfl; exact rfl)
    | ((with_reducible apply want_forkF); exact rfl; exact rfl; exact rfl; (first | exact Bp.not Bp.dec | exact Bp.dec | exact Bp.not Bp.bool | exact Bp.bool); all_goals intro hc)
    | ((with_reducible apply want_forkT); exact rfl; exact rfl; exact rfl; (first | exact Bp.not Bp.dec | exact Bp.dec | exact Bp.not Bp.bool | exact Bp.bool); all_goals intro hc)
    | ((with_reducible apply st_callv); exact rfl; exact rfl; exact rfl; exact rfl; exact hfix; (rintro v rfl)) | ((with_reducible apply st_callv); exact rfl; exact rfl; exact rfl; exact rfl; exact smallC_AC o; (rintro v rfl); rw [hsm]) | ((with_reducible apply st_callv); exact rfl; exact rfl; exact rfl; exact rfl; exact refMayC_AC o; (rintro v rfl); rw [hmay])
    | ((with_reducible apply st_alloc); exact rfl; exact rfl; exact rfl; exact rfl)
    | ((with_reducible apply st_box); exact rfl; exact rfl; exact rfl; exact rfl)
    | ((with_reducible apply st_loadpelK); exact rfl; exact rfl; assumption; exact rfl; exact rfl)
    | ((with_reducible apply st_loadpel); exact rfl; exact rfl; omega; exact rfl; (intro u hu; refine ⟨_, rfl, ?_⟩; try simp only [Int.toNat_natCast] at hu))
    | ((with_reducible apply st_load); exact rfl; exact rfl; exact rfl; exact rfl; exact rfl)
    | ((with_reducible apply st_store); exact rfl; exact rfl; exact rfl; exact rfl; exact rfl; exact rfl)
    | ((with_reducible apply st_idx); exact rfl; exact rfl; exact rfl; exact rfl; exact rfl; omega)
    | ((with_reducible apply st_len RdT.ok); exact rfl; exact rfl; exact rfl; intro hlen)
    | ((with_reducible apply st_lennil RdT.ok); exact rfl; exact rfl; exact rfl)
    | ((with_reducible apply st_add); exact rfl; exact rfl; exact rfl; omega)
    | ((with_reducible apply st_sub); exact rfl; exact rfl; exact rfl; omega)
    | ((with_reducible apply st_q RdT.ok); exact rfl; exact rfl)
    | ((with_reducible apply c_condT); exact rfl)
    | ((with_reducible apply c_condF); exact rfl)
    | ((with_reducible apply c_cond); exact rfl; (first | exact Bp.not Bp.dec | exact Bp.dec | exact Bp.not Bp.bool | exact Bp.bool); all_goals intro hc))
    all_goals (((with_reducible apply r_one); exact rfl; exact .tmp rfl .nil; exact .s (.pv _); exact hS; refine ⟨rfl, _, rfl, ?_⟩); rfl)
  | true =>
    have hln := mayC_len hmay
    cases o with
    | none => exact absurd hln.1 (by simp)
    | some l =>
      simp only [Option.getD_some] at hln
      show awp _ _ _ _ _ (St L 134 [(0, row 1 (l.map encC)), (1, .a (sA y))] S [])
      repeat' (first
    | (with_reducible refine want_none ?_)
    | (with_reducible refine c_seq ?_)
    | (with_reducible refine c_region ?_)
    | ((with_reducible refine c_regionD ?_ ?_ ?_ ?_); (kernel_rfl); (exact rfl); (exact rfl))
    | (with_reducible refine c_block ?_)
    | (with_reducible refine aops_nil ?_)
    | (with_reducible refine k_normal ?_)
    | (with_reducible refine c_skip ?_)
    | (with_reducible refine c_exit ?_)
    | (with_reducible refine c_ret ?_)
    | (with_reducible refine k_ret ?_)
    | (with_reducible refine k_exit ?_)
    | (with_reducible refine kl_ret ?_)
    | (with_reducible refine kl_exit ?_)
    | (with_reducible refine kr_ret ?_)
    | (with_reducible refine kr_exit ?_)
    | (with_reducible refine kb_normal ?_)
    | (with_reducible refine kb_ret ?_)
    | (with_reducible refine kb_hit ?_)
    | ((with_reducible refine kb_miss ?_ ?_); exact rfl)
    | ((with_reducible apply want_run); exact rfl; exact rfl)
    | ((with_reducible apply want_skip); exact rfl; exact rfl; exact rfl)
    | ((with_reducible apply want_out); exact rfl; exact rfl; exact rfl)
    | ((with_reducible apply want_forkF); exact rfl; exact rfl; exact rfl; (first | exact Bp.not Bp.dec | exact Bp.dec | exact Bp.not Bp.bool | exact Bp.bool); all_goals intro hc)
    | ((with_reducible apply want_forkT); exact rfl; exact rfl; exact rfl; (first | exact Bp.not Bp.dec | exact Bp.dec | exact Bp.not Bp.bool | exact Bp.bool); all_goals intro hc)
    | ((with_reducible apply st_callv); exact rfl; exact rfl; exact rfl; exact rfl; exact hfix; (rintro v rfl)) | ((with_reducible apply st_callv); exact rfl; exact rfl; exact rfl; exact rfl; exact smallC_AC (some l); (rintro v rfl); rw [hsm]) | ((with_reducible apply st_callv); exact rfl; exact rfl; exact rfl; exact rfl; exact refMayC_AC (some l); (rintro v rfl); rw [hmay])
    | ((with_reducible apply st_alloc); exact rfl; exact rfl; exact rfl; exact rfl)
    | ((with_reducible apply st_box); exact rfl; exact rfl; exact rfl; exact rfl)
    | ((with_reducible apply st_loadpelK); exact rfl; exact rfl; assumption; exact rfl; exact rfl)
    | ((with_reducible apply st_loadpel); exact rfl; exact rfl; omega; exact rfl; (intro u hu; refine ⟨_, rfl, ?_⟩; try simp only [Int.toNat_natCast] at hu))
    | ((with_reducible apply st_load); exact rfl; exact rfl; exact rfl; exact rfl; exact rfl)
    | ((with_reducible apply st_store); exact rfl; exact rfl; exact rfl; exact rfl; exact rfl; exact rfl)
    | ((with_reducible apply st_idx); exact rfl; exact rfl; exact rfl; exact rfl; exact rfl; omega)
    | ((with_reducible apply st_len RdT.ok); exact rfl; exact rfl; exact rfl; intro hlen)
    | ((with_reducible apply st_lennil RdT.ok); exact rfl; exact rfl; exact rfl)
    | ((with_reducible apply st_add); exact rfl; exact rfl; exact rfl; omega)
    | ((with_reducible apply st_sub); exact rfl; exact rfl; exact rfl; omega)
    | ((with_reducible apply st_q RdT.ok); exact rfl; exact rfl)
    | ((with_reducible apply c_condT); exact rfl)
    | ((with_reducible apply c_condF); exact rfl)
    | ((with_reducible apply c_cond); exact rfl; (first | exact Bp.not Bp.dec | exact Bp.dec | exact Bp.not Bp.bool | exact Bp.bool); all_goals intro hc))
      all_goals first
        | (exfalso; omega)
        | (((with_reducible apply r_one); exact rfl; exact .tmp rfl .nil; exact .s (.pv _); exact hS; refine ⟨rfl, _, rfl, ?_⟩); rfl)
        | skip
      have hn1 : 1 ≤ y.n := by omega
      have hn8 : y.n ≤ 8 := by omega
      clear hc
      refine c_loop (β := Nat × Bool) (fun b => b.1 ≤ l.length ∧ roomOf y.no l b.1 = b.2) (fun b => l.length - b.1) (fun b => [(0, row 1 (l.map encC)), (3, .a (.s (.pb L 3 0))), (5, Rd.bool b.2), (6, int b.1)]) (fun _ => [(3, .box 48 ((encS y).map .pv))]) (0, false) ⟨Nat.zero_le _, rfl⟩ ⟨rfl, rfl, rfl, rfl, trivial⟩ ⟨rfl, trivial⟩ rfl rfl ?_
      rintro ⟨k, b⟩ ⟨hk, hb⟩
      dsimp only at hk hb ⊢
      rcases Nat.lt_or_ge k l.length with hk' | hk'
      · obtain ⟨u, hu⟩ : ∃ u, l[k]? = some u := ⟨_, List.getElem?_eq_getElem hk'⟩
        have hsucc := roomOf_succ (no := y.no) hu
        rw [hb] at hsucc
        cases b with
        | true =>
          repeat' (first
    | (with_reducible refine want_none ?_)
    | (with_reducible refine c_seq ?_)
    | (with_reducible refine c_region ?_)
    | ((with_reducible refine c_regionD ?_ ?_ ?_ ?_); (kernel_rfl); (exact rfl); (exact rfl))
    | (with_reducible refine c_block ?_)
    | (with_reducible refine aops_nil ?_)
    | (with_reducible refine k_normal ?_)
    | (with_reducible refine c_skip ?_)
    | (with_reducible refine c_exit ?_)
    | (with_reducible refine c_ret ?_)
    | (with_reducible refine k_ret ?_)
    | (with_reducible refine k_exit ?_)
    | (with_reducible refine kl_ret ?_)
    | (with_reducible refine kl_exit ?_)
    | (with_reducible refine kr_ret ?_)
    | (with_reducible refine kr_exit ?_)
    | (with_reducible refine kb_normal ?_)
    | (with_reducible refine kb_ret ?_)
    | (with_reducible refine kb_hit ?_)
    | ((with_reducible refine kb_miss ?_ ?_); exact rfl)
    | ((with_reducible apply want_run); exact rfl; exact rfl)
    | ((with_reducible apply want_skip); exact rfl; exact rfl; exact rfl)
    | ((with_reducible apply want_out); exact rfl; exact rfl; exact rfl)
    | ((with_reducible apply want_forkF); exact rfl; exact rfl; exact rfl; (first | exact Bp.not Bp.dec | exact Bp.dec | exact Bp.not Bp.bool | exact Bp.bool); all_goals intro hc)
    | ((with_reducible apply want_forkT); exact rfl; exact rfl; exact rfl; (first | exact Bp.not Bp.dec | exact Bp.dec | exact Bp.not Bp.bool | exact Bp.bool); all_goals intro hc)
    | ((with_reducible apply st_alloc); exact rfl; exact rfl; exact rfl; exact rfl)
    | ((with_reducible apply st_box); exact rfl; exact rfl; exact rfl; exact rfl)
    | ((with_reducible apply st_loadpelK); exact rfl; exact rfl; assumption; exact rfl; exact rfl)
    | ((with_reducible apply st_loadpel); exact rfl; exact rfl; omega; exact rfl; (intro u hu; refine ⟨_, rfl, ?_⟩; try simp only [Int.toNat_natCast] at hu))
    | ((with_reducible apply st_load); exact rfl; exact rfl; exact rfl; exact rfl; exact rfl)
    | ((with_reducible apply st_store); exact rfl; exact rfl; exact rfl; exact rfl; exact rfl; exact rfl)
    | ((with_reducible apply st_idx); exact rfl; exact rfl; exact rfl; exact rfl; exact rfl; omega)
    | ((with_reducible apply st_len RdT.ok); exact rfl; exact rfl; exact rfl; intro hlen)
    | ((with_reducible apply st_lennil RdT.ok); exact rfl; exact rfl; exact rfl)
    | ((with_reducible apply st_add); exact rfl; exact rfl; exact rfl; omega)
    | ((with_reducible apply st_sub); exact rfl; exact rfl; exact rfl; omega)
    | ((with_reducible apply st_q RdT.ok); exact rfl; exact rfl)
    | ((with_reducible apply c_condT); exact rfl)
    | ((with_reducible apply c_condF); exact rfl)
    | ((with_reducible apply c_cond); exact rfl; (first | exact Bp.not Bp.dec | exact Bp.dec | exact Bp.not Bp.bool | exact Bp.bool); all_goals intro hc))
          all_goals first
            | (exfalso; omega)
            | ((with_reducible refine k_back (k + 1, true) ?_ ?_ ?_ ?_ ?_ ?_)
               · exact ⟨by dsimp only; omega, hsucc⟩
               · dsimp only; omega
               · exact ⟨rfl, rfl, rfl, rfl, trivial⟩
               · exact ⟨rfl, trivial⟩
               · exact rfl
               · exact rfl)
        | false =>
          rw [Bool.false_or] at hsucc
          rcases u with _ | u
          all_goals
            repeat' (first
    | (with_reducible refine want_none ?_)
    | (with_reducible refine c_seq ?_)
    | (with_reducible refine c_region ?_)
    | ((with_reducible refine c_regionD ?_ ?_ ?_ ?_); (kernel_rfl); (exact rfl); (exact rfl))
    | (with_reducible refine c_block ?_)
    | (with_reducible refine aops_nil ?_)
    | (with_reducible refine k_normal ?_)
    | (with_reducible refine c_skip ?_)
    | (with_reducible refine c_exit ?_)
    | (with_reducible refine c_ret ?_)
    | (with_reducible refine k_ret ?_)
    | (with_reducible refine k_exit ?_)
    | (with_reducible refine kl_ret ?_)
    | (with_reducible refine kl_exit ?_)
    | (with_reducible refine kr_ret ?_)
    | (with_reducible refine kr_exit ?_)
    | (with_reducible refine kb_normal ?_)
    | (with_reducible refine kb_ret ?_)
    | (with_reducible refine kb_hit ?_)
    | ((with_reducible refine kb_miss ?_ ?_); exact rfl)
    | ((with_reducible apply want_run); exact rfl; exact rfl)
    | ((with_reducible apply want_skip); exact rfl; exact rfl; exact rfl)
    | ((with_reducible apply want_out); exact rfl; exact rfl; exact rfl)
    | ((with_reducible apply want_forkF); exact rfl; exact rfl; exact rfl; (first | exact Bp.not Bp.dec | exact Bp.dec | exact Bp.not Bp.bool | exact Bp.bool); all_goals intro hc)
    | ((with_reducible apply want_forkT); exact rfl; exact rfl; exact rfl; (first | exact Bp.not Bp.dec | exact Bp.dec | exact Bp.not Bp.bool | exact Bp.bool); all_goals intro hc)
    | ((with_reducible apply st_alloc); exact rfl; exact rfl; exact rfl; exact rfl)
    | ((with_reducible apply st_box); exact rfl; exact rfl; exact rfl; exact rfl)
    | ((with_reducible apply st_loadpelK); exact rfl; exact rfl; assumption; exact rfl; exact rfl)
    | ((with_reducible apply st_loadpel); exact rfl; exact rfl; omega; exact rfl; (intro u hu; refine ⟨_, rfl, ?_⟩; try simp only [Int.toNat_natCast] at hu))
    | ((with_reducible apply st_load); exact rfl; exact rfl; exact rfl; exact rfl; exact rfl)
    | ((with_reducible apply st_store); exact rfl; exact rfl; exact rfl; exact rfl; exact rfl; exact rfl)
    | ((with_reducible apply st_idx); exact rfl; exact rfl; exact rfl; exact rfl; exact rfl; omega)
    | ((with_reducible apply st_len RdT.ok); exact rfl; exact rfl; exact rfl; intro hlen)
    | ((with_reducible apply st_lennil RdT.ok); exact rfl; exact rfl; exact rfl)
    | ((with_reducible apply st_add); exact rfl; exact rfl; exact rfl; omega)
    | ((with_reducible apply st_sub); exact rfl; exact rfl; exact rfl; omega)
    | ((with_reducible apply st_q RdT.ok); exact rfl; exact rfl)
    | ((with_reducible apply c_condT); exact rfl)
    | ((with_reducible apply c_condF); exact rfl)
    | ((with_reducible apply c_cond); exact rfl; (first | exact Bp.not Bp.dec | exact Bp.dec | exact Bp.not Bp.bool | exact Bp.bool); all_goals intro hc))
          all_goals first
            | (exfalso; omega)
            | ((with_reducible refine k_back (k + 1, roomOf y.no l (k + 1)) ?_ ?_ ?_ ?_ ?_ ?_)
               · exact ⟨by dsimp only; omega, rfl⟩
               · dsimp only; omega
               · refine ⟨rfl, rfl, congrArg Rd.bool (Eq.trans ?_ hsucc.symm), rfl, trivial⟩
                 first | (simp_all; done) | (simp_all; omega)
               · exact ⟨rfl, trivial⟩
               · exact rfl
               · exact rfl)
            | trace_state
      · cases ht : takeC (some l) y.n y.no with
        | none =>
          have hb0 := roomOf_none ht hmay hn1 hn8 hk
          rw [hb] at hb0
          subst hb0
          repeat' (first
    | (with_reducible refine want_none ?_)
    | (with_reducible refine c_seq ?_)
    | (with_reducible refine c_region ?_)
    | ((with_reducible refine c_regionD ?_ ?_ ?_ ?_); (kernel_rfl); (exact rfl); (exact rfl))
    | (with_reducible refine c_block ?_)
    | (with_reducible refine aops_nil ?_)
    | (with_reducible refine k_normal ?_)
    | (with_reducible refine c_skip ?_)
    | (with_reducible refine c_exit ?_)
    | (with_reducible refine c_ret ?_)
    | (with_reducible refine k_ret ?_)
    | (with_reducible refine k_exit ?_)
    | (with_reducible refine kl_ret ?_)
    | (with_reducible refine kl_exit ?_)
    | (with_reducible refine kr_ret ?_)
    | (with_reducible refine kr_exit ?_)
    | (with_reducible refine kb_normal ?_)
    | (with_reducible refine kb_ret ?_)
    | (with_reducible refine kb_hit ?_)
    | ((with_reducible refine kb_miss ?_ ?_); exact rfl)
    | ((with_reducible apply want_run); exact rfl; exact rfl)
    | ((with_reducible apply want_skip); exact rfl; exact rfl; exact rfl)
    | ((with_reducible apply want_out); exact rfl; exact rfl; exact rfl)
    | ((with_reducible apply want_forkF); exact rfl; exact rfl; exact rfl; (first | exact Bp.not Bp.dec | exact Bp.dec | exact Bp.not Bp.bool | exact Bp.bool); all_goals intro hc)
    | ((with_reducible apply want_forkT); exact rfl; exact rfl; exact rfl; (first | exact Bp.not Bp.dec | exact Bp.dec | exact Bp.not Bp.bool | exact Bp.bool); all_goals intro hc)
    | ((with_reducible apply st_callv); exact rfl; exact rfl; exact rfl; exact rfl; exact takeC_AC (some l) y.n y.no; (rintro v rfl); rw [ht])
    | ((with_reducible apply st_alloc); exact rfl; exact rfl; exact rfl; exact rfl)
    | ((with_reducible apply st_box); exact rfl; exact rfl; exact rfl; exact rfl)
    | ((with_reducible apply st_loadpelK); exact rfl; exact rfl; assumption; exact rfl; exact rfl)
    | ((with_reducible apply st_loadpel); exact rfl; exact rfl; omega; exact rfl; (intro u hu; refine ⟨_, rfl, ?_⟩; try simp only [Int.toNat_natCast] at hu))
    | ((with_reducible apply st_load); exact rfl; exact rfl; exact rfl; exact rfl; exact rfl)
    | ((with_reducible apply st_store); exact rfl; exact rfl; exact rfl; exact rfl; exact rfl; exact rfl)
    | ((with_reducible apply st_idx); exact rfl; exact rfl; exact rfl; exact rfl; exact rfl; omega)
    | ((with_reducible apply st_len RdT.ok); exact rfl; exact rfl; exact rfl; intro hlen)
    | ((with_reducible apply st_lennil RdT.ok); exact rfl; exact rfl; exact rfl)
    | ((with_reducible apply st_add); exact rfl; exact rfl; exact rfl; omega)
    | ((with_reducible apply st_sub); exact rfl; exact rfl; exact rfl; omega)
    | ((with_reducible apply st_q RdT.ok); exact rfl; exact rfl)
    | ((with_reducible apply c_condT); exact rfl)
    | ((with_reducible apply c_condF); exact rfl)
    | ((with_reducible apply c_cond); exact rfl; (first | exact Bp.not Bp.dec | exact Bp.dec | exact Bp.not Bp.bool | exact Bp.bool); all_goals intro hc))
          all_goals first
            | (exfalso; omega)
            | (((with_reducible apply r_one); exact rfl; exact .tmp rfl .nil; exact .s (.pv _); exact hS; refine ⟨rfl, _, rfl, ?_⟩); rfl)
            | trace_state
        | some p =>
          obtain ⟨d, i, a⟩ := p
          obtain ⟨j, b2, rfl, h2, h3, h4, h5, h6, h7, h8, h9, h10, h11⟩ := takeC_laws ht
          have f1 : freeC (some l) = ((sumOf fr l : Int), (sumOf emptyT l : Int)) := by rw [freeC, if_pos hmay]; rfl
          have f2 : freeC (some d) = ((sumOf fr d : Int), (sumOf emptyT d : Int)) := by rw [freeC, if_pos h5]; rfl
          have g1 := sumOf_le fr 16 fr_le l
          have g2 := sumOf_le fr 16 fr_le d
          repeat' (first
    | (with_reducible refine want_none ?_)
    | (with_reducible refine c_seq ?_)
    | (with_reducible refine c_region ?_)
    | ((with_reducible refine c_regionD ?_ ?_ ?_ ?_); (kernel_rfl); (exact rfl); (exact rfl))
    | (with_reducible refine c_block ?_)
    | (with_reducible refine aops_nil ?_)
    | (with_reducible refine k_normal ?_)
    | (with_reducible refine c_skip ?_)
    | (with_reducible refine c_exit ?_)
    | (with_reducible refine c_ret ?_)
    | (with_reducible refine k_ret ?_)
    | (with_reducible refine k_exit ?_)
    | (with_reducible refine kl_ret ?_)
    | (with_reducible refine kl_exit ?_)
    | (with_reducible refine kr_ret ?_)
    | (with_reducible refine kr_exit ?_)
    | (with_reducible refine kb_normal ?_)
    | (with_reducible refine kb_ret ?_)
    | (with_reducible refine kb_hit ?_)
    | ((with_reducible refine kb_miss ?_ ?_); exact rfl)
    | ((with_reducible apply want_run); exact rfl; exact rfl)
    | ((with_reducible apply want_skip); exact rfl; exact rfl; exact rfl)
    | ((with_reducible apply want_out); exact rfl; exact rfl; exact rfl)
    | ((with_reducible apply want_forkF); exact rfl; exact rfl; exact rfl; (first | exact Bp.not Bp.dec | exact Bp.dec | exact Bp.not Bp.bool | exact Bp.bool); all_goals intro hc)
    | ((with_reducible apply want_forkT); exact rfl; exact rfl; exact rfl; (first | exact Bp.not Bp.dec | exact Bp.dec | exact Bp.not Bp.bool | exact Bp.bool); all_goals intro hc)
    | (with_reducible refine q_nil ?_) | ((with_reducible apply q_one); exact rfl; exact rfl) | ((with_reducible apply q_callS); exact rfl; exact rfl; exact rfl) | ((with_reducible apply q_callO); exact rfl; exact rfl; exact rfl) | ((with_reducible refine c_regionQ ?_ ?_); (decide +kernel)) | ((with_reducible apply st_callv); exact rfl; exact rfl; exact rfl; exact rfl; exact takeC_AC (some l) y.n y.no; (rintro v rfl); rw [ht]) | ((with_reducible apply st_mul); exact rfl; exact rfl; exact rfl; omega) | ((with_reducible apply st_callv); exact rfl; exact rfl; exact rfl; exact rfl; exact freeC_AC (some l); (rintro v rfl); rw [f1]) | ((with_reducible apply st_callv); exact rfl; exact rfl; exact rfl; exact rfl; exact freeC_AC (some d); (rintro v rfl); rw [f2]) | ((with_reducible apply st_callv); exact rfl; exact rfl; exact rfl; exact rfl; exact decC_AC (some d) (roomR j a y.n); (rintro v rfl); rw [turnCV_eq, h8]) | ((with_reducible apply st_callv); exact rfl; exact rfl; exact rfl; exact rfl; exact mayC_AC (some d); (rintro v rfl); rw [h5]) | ((with_reducible apply st_callv); exact rfl; exact rfl; exact rfl; exact rfl; exact sameC_AC (some b2) (some l); (rintro v rfl); rw [h9]) | ((with_reducible apply st_callv); exact rfl; exact rfl; exact rfl; exact rfl; exact hasC_AC (some l) (roomR j a y.n); (rintro v rfl); rw [h10]) | ((with_reducible apply q_call); exact rfl; (with_reducible apply acq); exact rfl; exact rfl; exact rfl; exact mayC_AC (some d); exact rfl; (refine put_some rfl ?_); rw [h5]) | ((with_reducible apply q_callR); exact rfl; exact rfl; exact rfl; (with_reducible apply acq); exact rfl; exact rfl; exact rfl; exact mayC_AC (some d); exact rfl; (refine put_some rfl ?_); rw [h5]) | ((with_reducible apply q_call); exact rfl; (with_reducible apply acq); exact rfl; exact rfl; exact rfl; exact sameC_AC (some b2) (some l); exact rfl; (refine put_some rfl ?_); rw [h9]) | ((with_reducible apply q_callR); exact rfl; exact rfl; exact rfl; (with_reducible apply acq); exact rfl; exact rfl; exact rfl; exact sameC_AC (some b2) (some l); exact rfl; (refine put_some rfl ?_); rw [h9]) | ((with_reducible apply q_call); exact rfl; (with_reducible apply acq); exact rfl; exact rfl; exact rfl; exact hasC_AC (some l) (roomR j a y.n); exact rfl; (refine put_some rfl ?_); rw [h10]) | ((with_reducible apply q_callR); exact rfl; exact rfl; exact rfl; (with_reducible apply acq); exact rfl; exact rfl; exact rfl; exact hasC_AC (some l) (roomR j a y.n); exact rfl; (refine put_some rfl ?_); rw [h10])
    | ((with_reducible apply st_alloc); exact rfl; exact rfl; exact rfl; exact rfl)
    | ((with_reducible apply st_box); exact rfl; exact rfl; exact rfl; exact rfl)
    | ((with_reducible apply st_loadpelK); exact rfl; exact rfl; assumption; exact rfl; exact rfl)
    | ((with_reducible apply st_loadpel); exact rfl; exact rfl; omega; exact rfl; (intro u hu; refine ⟨_, rfl, ?_⟩; try simp only [Int.toNat_natCast] at hu))
    | ((with_reducible apply st_load); exact rfl; exact rfl; exact rfl; exact rfl; exact rfl)
    | ((with_reducible apply st_store); exact rfl; exact rfl; exact rfl; exact rfl; exact rfl; exact rfl)
    | ((with_reducible apply st_idx); exact rfl; exact rfl; exact rfl; exact rfl; exact rfl; omega)
    | ((with_reducible apply st_len RdT.ok); exact rfl; exact rfl; exact rfl; intro hlen)
    | ((with_reducible apply st_lennil RdT.ok); exact rfl; exact rfl; exact rfl)
    | ((with_reducible apply st_add); exact rfl; exact rfl; exact rfl; omega)
    | ((with_reducible apply st_sub); exact rfl; exact rfl; exact rfl; omega)
    | ((with_reducible apply st_q RdT.ok); exact rfl; exact rfl)
    | ((with_reducible apply c_condT); exact rfl)
    | ((with_reducible apply c_condF); exact rfl)
    | ((with_reducible apply c_cond); exact rfl; (first | exact Bp.not Bp.dec | exact Bp.dec | exact Bp.not Bp.bool | exact Bp.bool); all_goals intro hc))
          all_goals first
            | (exfalso; omega)
            | (((with_reducible apply r_one); exact rfl; exact .tmp rfl .nil; exact .s (.pv _); exact hS; refine ⟨rfl, _, rfl, ?_⟩); first | rfl | exact congrArg Rd.bool (decide_eq_true (by omega)))
            | trace_state
end Go.Proofs.Ytfdaioinghfjpaa
