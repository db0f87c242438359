/- The law AllocTells of the given program, for every input. (part 6 of 10) -/
import Derived.Test.YtfdaioinghfjpaaATl5
import Derived.RangeFuncBox
import Derived.WalkKit
import Derived.OwnWalkIn
import Derived.TacticsInMore
import Derived.LoopNIn
import Derived.LoopIn
import Derived.Lib.Hide
namespace Go.Proofs.Ytfdaioinghfjpaa
open Go.Rd Go.RowKit
set_option maxRecDepth 20000
def commit1 : List U → List U
  | [] => []
  | u :: r => if 0 < u.count then { u with old := true } :: commit1 r else commit1 r
def orNil {α : Type} : List α → Option (List α)
  | [] => none
  | l => some l
def commit (o : Option (List U)) : Option (List U) := if may o = true then orNil (commit1 (o.getD [])) else none
theorem may1_length : ∀ (l : List U) (e : Int), may1 e l = true → (l.length : Int) ≤ max (16 - e) 0
  | [], e, _ => by simp; omega
  | u :: r, e, h => by
    obtain ⟨h1, h2, h3, h4, _, _, _, h5⟩ := may1_cons h
    have := may1_length r (u.pos + u.len) h5
    rw [List.length_cons]
    omega
theorem commit_AC (o : Option (List U)) : ACv Try.prog 33 [uA o] (fun v => v = .a (uA (commit o))) := by
  intro L S hL
  refine fn_St (n := 25) (rs := [.tmp 2]) hands_val RdT.ok RdT.mixed Try.func33 rfl (by kernel_rfl) rfl rfl rfl hL ?_
  intro hS
  cases o with
  | none =>
    show awp _ _ _ _ _ (St L 25 [(0, nilS)] S [])
    repeat' (first
        | (with_reducible refine want_none ?_)
        | (with_reducible refine c_seq ?_)
        | (with_reducible refine c_region ?_)
        | (with_reducible refine c_block ?_)
        | (with_reducible refine aops_nil ?_)
        | (with_reducible refine k_normal ?_)
        | (with_reducible refine c_skip ?_)
        | (with_reducible refine c_exit ?_)
        | (with_reducible refine c_ret ?_)
        | (with_reducible refine k_ret ?_)
        | (with_reducible refine k_exit ?_)
        | (with_reducible refine kl_exit ?_)
        | (with_reducible refine kr_exit ?_)
        | (with_reducible refine kb_normal ?_)
        | (with_reducible refine kb_hit ?_)
        | ((with_reducible apply st_callv); exact rfl; exact rfl; exact rfl; exact rfl; exact may_AC none; (rintro v rfl))
        | ((with_reducible apply st_alloc); exact rfl; exact rfl; exact rfl; exact rfl)
        | ((with_reducible apply st_loadpel); exact rfl; exact rfl; omega; exact rfl; (intro u hu; refine ⟨_, rfl, ?_⟩; try simp only [Int.toNat_natCast] at hu))
        | ((with_reducible apply st_load); exact rfl; exact rfl; exact rfl; exact rfl; exact rfl)
        | ((with_reducible apply st_store); exact rfl; exact rfl; exact rfl; exact rfl; exact rfl; exact rfl)
        | ((with_reducible apply st_idx); exact rfl; exact rfl; exact rfl; exact rfl; exact rfl; omega)
        | ((with_reducible apply st_len RdT.ok); exact rfl; exact rfl; exact rfl; intro hlen)
        | ((with_reducible apply st_lennil RdT.ok); exact rfl; exact rfl; exact rfl)
        | ((with_reducible apply st_add); exact rfl; exact rfl; exact rfl; omega)
        | ((with_reducible apply st_q RdT.ok); exact rfl; exact rfl)
        | ((with_reducible apply c_condT); exact rfl)
        | ((with_reducible apply c_condF); exact rfl)
        | ((with_reducible apply c_cond); exact rfl; (first | exact Bp.not Bp.dec | exact Bp.dec | exact Bp.not Bp.bool | exact Bp.bool); all_goals intro hc))
    refine c_loop0 ?_
    repeat' (first
        | (with_reducible refine want_none ?_)
        | (with_reducible refine c_seq ?_)
        | (with_reducible refine c_region ?_)
        | (with_reducible refine c_block ?_)
        | (with_reducible refine aops_nil ?_)
        | (with_reducible refine k_normal ?_)
        | (with_reducible refine c_skip ?_)
        | (with_reducible refine c_exit ?_)
        | (with_reducible refine c_ret ?_)
        | (with_reducible refine k_ret ?_)
        | (with_reducible refine k_exit ?_)
        | (with_reducible refine kl_exit ?_)
        | (with_reducible refine kr_exit ?_)
        | (with_reducible refine kb_normal ?_)
        | (with_reducible refine kb_hit ?_)
        | ((with_reducible apply st_alloc); exact rfl; exact rfl; exact rfl; exact rfl)
        | ((with_reducible apply st_loadpel); exact rfl; exact rfl; omega; exact rfl; (intro u hu; refine ⟨_, rfl, ?_⟩; try simp only [Int.toNat_natCast] at hu))
        | ((with_reducible apply st_load); exact rfl; exact rfl; exact rfl; exact rfl; exact rfl)
        | ((with_reducible apply st_store); exact rfl; exact rfl; exact rfl; exact rfl; exact rfl; exact rfl)
        | ((with_reducible apply st_idx); exact rfl; exact rfl; exact rfl; exact rfl; exact rfl; omega)
        | ((with_reducible apply st_len RdT.ok); exact rfl; exact rfl; exact rfl; intro hlen)
        | ((with_reducible apply st_lennil RdT.ok); exact rfl; exact rfl; exact rfl)
        | ((with_reducible apply st_add); exact rfl; exact rfl; exact rfl; omega)
        | ((with_reducible apply st_q RdT.ok); exact rfl; exact rfl)
        | ((with_reducible apply c_condT); exact rfl)
        | ((with_reducible apply c_condF); exact rfl)
        | ((with_reducible apply c_cond); exact rfl; (first | exact Bp.not Bp.dec | exact Bp.dec | exact Bp.not Bp.bool | exact Bp.bool); all_goals intro hc))
    ((with_reducible apply r_one); exact rfl; exact .tmp rfl .nil; exact .s (.pv _); exact hS; refine ⟨rfl, _, rfl, ?_⟩)
    rfl
  | some l =>
    show awp _ _ _ _ _ (St L 25 [(0, row 4 (l.map encU))] S [])
    cases hmay : may (some l) with
    | false =>
      repeat' (first
          | (with_reducible refine want_none ?_)
          | (with_reducible refine c_seq ?_)
          | (with_reducible refine c_region ?_)
          | (with_reducible refine c_block ?_)
          | (with_reducible refine aops_nil ?_)
          | (with_reducible refine k_normal ?_)
          | (with_reducible refine c_skip ?_)
          | (with_reducible refine c_exit ?_)
          | (with_reducible refine c_ret ?_)
          | (with_reducible refine k_ret ?_)
          | (with_reducible refine k_exit ?_)
          | (with_reducible refine kl_exit ?_)
          | (with_reducible refine kr_exit ?_)
          | (with_reducible refine kb_normal ?_)
          | (with_reducible refine kb_hit ?_)
          | ((with_reducible apply st_callv); exact rfl; exact rfl; exact rfl; exact rfl; exact may_AC (some l); (rintro v rfl); rw [hmay])
          | ((with_reducible apply st_alloc); exact rfl; exact rfl; exact rfl; exact rfl)
          | ((with_reducible apply st_loadpel); exact rfl; exact rfl; omega; exact rfl; (intro u hu; refine ⟨_, rfl, ?_⟩; try simp only [Int.toNat_natCast] at hu))
          | ((with_reducible apply st_load); exact rfl; exact rfl; exact rfl; exact rfl; exact rfl)
          | ((with_reducible apply st_store); exact rfl; exact rfl; exact rfl; exact rfl; exact rfl; exact rfl)
          | ((with_reducible apply st_idx); exact rfl; exact rfl; exact rfl; exact rfl; exact rfl; omega)
          | ((with_reducible apply st_len RdT.ok); exact rfl; exact rfl; exact rfl; intro hlen)
          | ((with_reducible apply st_lennil RdT.ok); exact rfl; exact rfl; exact rfl)
          | ((with_reducible apply st_add); exact rfl; exact rfl; exact rfl; omega)
          | ((with_reducible apply st_q RdT.ok); exact rfl; exact rfl)
          | ((with_reducible apply c_condT); exact rfl)
          | ((with_reducible apply c_condF); exact rfl)
          | ((with_reducible apply c_cond); exact rfl; (first | exact Bp.not Bp.dec | exact Bp.dec | exact Bp.not Bp.bool | exact Bp.bool); all_goals intro hc))
      ((with_reducible apply r_one); exact rfl; exact .tmp rfl .nil; exact .s (.pv _); exact hS; refine ⟨rfl, _, rfl, ?_⟩)
      rw [commit, if_neg (by rw [hmay]; decide)]; rfl
    | true =>
      rw [commit, if_pos hmay]
      have hlen16 : (l.length : Int) ≤ 16 := by
        have := may1_length l 0 hmay
        omega
      show awp _ _ _ _ (retQ _ _ (exitVal fun r S' => S' = S ∧ ∃ v, r = .val v ∧ v = .a (uA (orNil (commit1 l))))) _
      repeat' (first
          | (with_reducible refine want_none ?_)
          | (with_reducible refine c_seq ?_)
          | (with_reducible refine c_region ?_)
          | (with_reducible refine c_block ?_)
          | (with_reducible refine aops_nil ?_)
          | (with_reducible refine k_normal ?_)
          | (with_reducible refine c_skip ?_)
          | (with_reducible refine c_exit ?_)
          | (with_reducible refine c_ret ?_)
          | (with_reducible refine k_ret ?_)
          | (with_reducible refine k_exit ?_)
          | (with_reducible refine kl_exit ?_)
          | (with_reducible refine kr_exit ?_)
          | (with_reducible refine kb_normal ?_)
          | (with_reducible refine kb_hit ?_)
          | ((with_reducible apply st_callv); exact rfl; exact rfl; exact rfl; exact rfl; exact may_AC (some l); (rintro v rfl); rw [hmay])
          | ((with_reducible apply st_alloc); exact rfl; exact rfl; exact rfl; exact rfl)
          | ((with_reducible apply st_loadpel); exact rfl; exact rfl; omega; exact rfl; (intro u hu; refine ⟨_, rfl, ?_⟩; try simp only [Int.toNat_natCast] at hu))
          | ((with_reducible apply st_load); exact rfl; exact rfl; exact rfl; exact rfl; exact rfl)
          | ((with_reducible apply st_store); exact rfl; exact rfl; exact rfl; exact rfl; exact rfl; exact rfl)
          | ((with_reducible apply st_idx); exact rfl; exact rfl; exact rfl; exact rfl; exact rfl; omega)
          | ((with_reducible apply st_len RdT.ok); exact rfl; exact rfl; exact rfl; intro hlen)
          | ((with_reducible apply st_lennil RdT.ok); exact rfl; exact rfl; exact rfl)
          | ((with_reducible apply st_add); exact rfl; exact rfl; exact rfl; omega)
          | ((with_reducible apply st_q RdT.ok); exact rfl; exact rfl)
          | ((with_reducible apply c_condT); exact rfl)
          | ((with_reducible apply c_condF); exact rfl)
          | ((with_reducible apply c_cond); exact rfl; (first | exact Bp.not Bp.dec | exact Bp.dec | exact Bp.not Bp.bool | exact Bp.bool); all_goals intro hc))
      refine c_loop (β := Nat × List U) (fun b => b.1 ≤ l.length ∧ b.2.length ≤ b.1 ∧ commit1 l = b.2 ++ commit1 (l.drop b.1)) (fun b => l.length - b.1)
        (fun b => [(3, match b.2 with | [] => nilS | out => .a (.s (.sl L 22 0 out.length))), (9, row 4 (l.map encU)), (10, int l.length), (11, int b.1)])
        (fun b => match b.2 with | [] => [] | out => [(22, .row 41 4 (out.map encU))]) (0, []) ⟨Nat.zero_le _, Nat.zero_le _, rfl⟩ ⟨rfl, rfl, rfl, rfl, trivial⟩ trivial rfl rfl ?_
      rintro ⟨k, out⟩ ⟨hk, ho, hm⟩
      dsimp only at hk ho hm ⊢
      cases out with
      | nil =>
        dsimp only
        repeat' (first
            | (with_reducible refine want_none ?_)
            | (with_reducible refine c_seq ?_)
            | (with_reducible refine c_region ?_)
            | (with_reducible refine c_block ?_)
            | (with_reducible refine aops_nil ?_)
            | (with_reducible refine k_normal ?_)
            | (with_reducible refine c_skip ?_)
            | (with_reducible refine c_exit ?_)
            | (with_reducible refine c_ret ?_)
            | (with_reducible refine k_ret ?_)
            | (with_reducible refine k_exit ?_)
            | (with_reducible refine kl_exit ?_)
            | (with_reducible refine kr_exit ?_)
            | (with_reducible refine kb_normal ?_)
            | (with_reducible refine kb_hit ?_)
            | ((with_reducible apply st_buildslice); exact rfl; exact rfl; exact rfl; exact rfl; exact rfl; exact rfl; exact rfl; exact rfl)
            | ((with_reducible apply st_append0); exact rfl; exact rfl; exact rfl; exact rfl; exact .own rfl rfl rfl; exact ⟨by show 1 * 32 ≤ 140737488355328; decide, by show 1 ≤ 9223372036854775807; decide⟩; exact rfl)
            | ((with_reducible apply st_alloc); exact rfl; exact rfl; exact rfl; exact rfl)
            | ((with_reducible apply st_loadpel); exact rfl; exact rfl; omega; exact rfl; (intro u hu; refine ⟨_, rfl, ?_⟩; try simp only [Int.toNat_natCast] at hu))
            | ((with_reducible apply st_load); exact rfl; exact rfl; exact rfl; exact rfl; exact rfl)
            | ((with_reducible apply st_store); exact rfl; exact rfl; exact rfl; exact rfl; exact rfl; exact rfl)
            | ((with_reducible apply st_idx); exact rfl; exact rfl; exact rfl; exact rfl; exact rfl; omega)
            | ((with_reducible apply st_len RdT.ok); exact rfl; exact rfl; exact rfl; intro hlen)
            | ((with_reducible apply st_lennil RdT.ok); exact rfl; exact rfl; exact rfl)
            | ((with_reducible apply st_add); exact rfl; exact rfl; exact rfl; omega)
            | ((with_reducible apply st_q RdT.ok); exact rfl; exact rfl)
            | ((with_reducible apply c_condT); exact rfl)
            | ((with_reducible apply c_condF); exact rfl)
            | ((with_reducible apply c_cond); exact rfl; (first | exact Bp.not Bp.dec | exact Bp.dec | exact Bp.not Bp.bool | exact Bp.bool); all_goals intro hc))
        · (with_reducible refine k_back (k + 1, [] ++ [{ u with old := true }]) ?_ ?_ ?_ ?_ ?_ ?_)
          · refine ⟨by dsimp only; omega, by first | (simp; done) | (simp at *; omega), ?_⟩
            rw [hm, drop_cons hu, commit1, if_pos hc]
            simp
          · dsimp only; omega
          · exact ⟨rfl, rfl, rfl, rfl, trivial⟩
          · exact ⟨rfl, trivial⟩
          · exact rfl
          · exact rfl
        · (with_reducible refine k_back (k + 1, []) ?_ ?_ ?_ ?_ ?_ ?_)
          · refine ⟨by dsimp only; omega, by first | (simp; done) | (simp at *; omega), ?_⟩
            rw [hm, drop_cons hu, commit1, if_neg hc]
          · dsimp only; omega
          · exact ⟨rfl, rfl, rfl, rfl, trivial⟩
          · exact trivial
          · exact rfl
          · exact rfl
        · (with_reducible apply r_one); exact rfl; exact .tmp rfl .nil; exact .s (.pv _); exact hS; refine ⟨rfl, _, rfl, ?_⟩
          rw [hm, List.drop_of_length_le (by omega)]
          rfl
      | cons x out =>
        dsimp only
        repeat' (first
            | (with_reducible refine want_none ?_)
            | (with_reducible refine c_seq ?_)
            | (with_reducible refine c_region ?_)
            | (with_reducible refine c_block ?_)
            | (with_reducible refine aops_nil ?_)
            | (with_reducible refine k_normal ?_)
            | (with_reducible refine c_skip ?_)
            | (with_reducible refine c_exit ?_)
            | (with_reducible refine c_ret ?_)
            | (with_reducible refine k_ret ?_)
            | (with_reducible refine k_exit ?_)
            | (with_reducible refine kl_exit ?_)
            | (with_reducible refine kr_exit ?_)
            | (with_reducible refine kb_normal ?_)
            | (with_reducible refine kb_hit ?_)
            | ((with_reducible apply st_buildslice); exact rfl; exact rfl; exact rfl; exact rfl; exact rfl; exact rfl; exact rfl; exact rfl)
            | ((with_reducible apply st_append1); exact rfl; exact rfl; exact rfl; exact rfl; exact (List.length_map _).symm; exact .own rfl rfl rfl; exact (List.map_append (l₂ := [{ u with old := true }])).symm; (rw [List.length_map, List.length_append]; refine ⟨?_, ?_⟩; (show _ * 32 ≤ _; simp at *; omega); (simp [maxLen] at *; omega)); exact rfl; exact rfl; exact rfl; exact rfl; exact rfl; exact rfl; exact rfl)
            | ((with_reducible apply st_alloc); exact rfl; exact rfl; exact rfl; exact rfl)
            | ((with_reducible apply st_loadpel); exact rfl; exact rfl; omega; exact rfl; (intro u hu; refine ⟨_, rfl, ?_⟩; try simp only [Int.toNat_natCast] at hu))
            | ((with_reducible apply st_load); exact rfl; exact rfl; exact rfl; exact rfl; exact rfl)
            | ((with_reducible apply st_store); exact rfl; exact rfl; exact rfl; exact rfl; exact rfl; exact rfl)
            | ((with_reducible apply st_idx); exact rfl; exact rfl; exact rfl; exact rfl; exact rfl; omega)
            | ((with_reducible apply st_len RdT.ok); exact rfl; exact rfl; exact rfl; intro hlen)
            | ((with_reducible apply st_lennil RdT.ok); exact rfl; exact rfl; exact rfl)
            | ((with_reducible apply st_add); exact rfl; exact rfl; exact rfl; omega)
            | ((with_reducible apply st_q RdT.ok); exact rfl; exact rfl)
            | ((with_reducible apply c_condT); exact rfl)
            | ((with_reducible apply c_condF); exact rfl)
            | ((with_reducible apply c_cond); exact rfl; (first | exact Bp.not Bp.dec | exact Bp.dec | exact Bp.not Bp.bool | exact Bp.bool); all_goals intro hc))
        · (with_reducible refine k_back (k + 1, x :: out ++ [{ u with old := true }]) ?_ ?_ ?_ ?_ ?_ ?_)
          · refine ⟨by dsimp only; omega, by first | (simp; done) | (simp at *; omega), ?_⟩
            rw [hm, drop_cons hu, commit1, if_pos hc]
            simp
          · dsimp only; omega
          · exact ⟨by show TV.a (.s (.sl L 22 0 (List.map encU _).length)) = _; rw [List.length_map]; rfl, rfl, rfl, rfl, trivial⟩
          · exact ⟨rfl, trivial⟩
          · exact rfl
          · exact rfl
        · (with_reducible refine k_back (k + 1, x :: out) ?_ ?_ ?_ ?_ ?_ ?_)
          · refine ⟨by dsimp only; omega, by first | (simp; done) | (simp at *; omega), ?_⟩
            rw [hm, drop_cons hu, commit1, if_neg hc]
          · dsimp only; omega
          · exact ⟨rfl, rfl, rfl, rfl, trivial⟩
          · exact ⟨rfl, trivial⟩
          · exact rfl
          · exact rfl
        · (with_reducible apply r_one); exact rfl; exact .tmp rfl .nil; exact .s (.sl rfl (List.length_map _).symm); exact hS; refine ⟨rfl, _, rfl, ?_⟩
          rw [hm, List.drop_of_length_le (by omega)]
          simp [commit1, orNil, slA, slP]
end Go.Proofs.Ytfdaioinghfjpaa
namespace Go.Proofs.Ytfdaioinghfjpaa
open Go.Rd Go.RowKit
set_option maxRecDepth 20000
theorem sup_upd {S : Store} {L l b : Nat} {o : Option AObj} (h : Sup S L) (hl : l < L) : Sup (upd S l b o) L := fun l' b' h' => by rw [upd_ne _ _ (by omega)]; exact h l' b' h'
theorem upd_upd (S : Store) (l b : Nat) (o o' : Option AObj) : upd (upd S l b o) l b o' = upd S l b o' := by
  funext l' b'
  simp only [upd]
  split <;> rfl
theorem delete_slc (l : List U) (j l0 b N L : Nat) (S : Store) (hj : j < l.length) (hN : l.length ≤ N) (hNm : N ≤ maxLen) (hl0 : l0 < L) (ho : S l0 b = some (.row 41 4 (l.map encU))) :
    AC Try.prog L 111 [.s (.slc l0 b 0 l.length N), .s (.pv (.lit (.int .i64 j))), .s (.pv (.lit (.int .i64 ((j : Int) + 1))))] S fun r S' =>
      ∃ es', S' = upd S l0 b (some (.row 41 4 es')) ∧ es'.take (l.length - 1) = (l.eraseIdx j).map encU ∧ l.length - 1 ≤ es'.length ∧ r = .val (.a (.s (.slc l0 b 0 (l.length - 1) N))) := by
  have hm : (N : Int) ≤ 9223372036854775807 := by have : maxLen = 9223372036854775807 := rfl; omega
  refine fn_St (n := 33) (rs := [.tmp 6]) hands_val RdT.ok RdT.mixed Try.func111 rfl (by kernel_rfl) rfl rfl rfl (by omega) ?_
  intro hS
  show awp _ _ _ _ _ (St L 33 [(0, .a (.s (.slc l0 b 0 l.length N))), (1, int j), (2, int ((j : Int) + 1))] S [])
  repeat' (first
      | (with_reducible refine want_none ?_)
      | (with_reducible refine c_seq ?_)
      | (with_reducible refine c_region ?_)
      | (with_reducible refine aops_nil ?_)
      | (with_reducible refine k_normal ?_)
      | (with_reducible refine c_skip ?_)
      | (with_reducible refine c_ret ?_)
      | ((with_reducible apply st_lenslc RdT.ok); exact rfl; exact rfl; exact rfl; intro hlen)
      | ((with_reducible apply st_slice3); exact rfl; exact rfl; exact rfl; exact rfl; exact rfl; exact rfl; omega)
      | (exfalso; omega)
      | ((with_reducible apply st_q RdT.ok); exact rfl; exact rfl)
      | ((with_reducible apply c_cond); exact rfl; (first | exact Bp.not Bp.dec | exact Bp.dec | exact Bp.not Bp.bool | exact Bp.bool); all_goals intro hc))
  refine c_regionA 8 rfl ?_
  (with_reducible apply d_take RdT.ok 0); exact rfl; exact rfl; exact rfl; exact rfl; kernel_rfl; kernel_rfl; kernel_rfl; exact rfl; exact rfl
  (with_reducible apply d_take RdT.ok 1); exact rfl; exact rfl; exact rfl; exact rfl; kernel_rfl; kernel_rfl; kernel_rfl; exact rfl; exact rfl
  (with_reducible apply d_take RdT.ok 3); exact rfl; exact rfl; exact rfl; exact rfl; kernel_rfl; kernel_rfl; kernel_rfl; exact rfl; exact rfl
  (with_reducible apply d_take RdT.ok 4); exact rfl; exact rfl; exact rfl; exact rfl; kernel_rfl; kernel_rfl; kernel_rfl; exact rfl; exact rfl
  have hnews : ((l.map encU).drop (j + 1)).take (l.length - j - 1) = (l.map encU).drop (j + 1) := List.take_of_length_le (by rw [List.length_drop, List.length_map]; omega)
  have hover : over (l.map encU) j ((l.map encU).drop (j + 1)) = (l.map encU).take j ++ ((l.map encU).drop (j + 1) ++ (l.map encU).drop (l.length - 1)) := by
    unfold over
    rw [List.length_drop, List.length_map, show j + (l.length - (j + 1)) = l.length - 1 by omega]
  have hes : ((l.map encU).take j ++ ((l.map encU).drop (j + 1) ++ (l.map encU).drop (l.length - 1))).length = l.length := by
    simp only [List.length_append, List.length_take, List.length_drop, List.length_map]
    omega
  (with_reducible apply d_two 2 5); kernel_rfl; exact rfl; exact rfl
  all_goals first | ((with_reducible apply st_slcE 0 j N); exact rfl; exact rfl; exact rfl; exact rfl; exact (mkO_low _ _ _ hl0).trans ho; exact rfl; omega; omega) | ((with_reducible apply st_slcE (j + 1) (l.length - j - 1) (N - j - 1)); exact rfl; exact rfl; exact rfl; exact rfl; exact (mkO_low _ _ _ hl0).trans ho; exact rfl; omega; omega)
  all_goals intro hb1
  all_goals first | (exfalso; omega) | refine aops_nil ?_
  all_goals first | ((with_reducible apply d_one 5); (decide +kernel); exact rfl) | ((with_reducible apply d_one 2); (decide +kernel); exact rfl)
  all_goals first | ((with_reducible apply st_slcE 0 j N); exact rfl; exact rfl; exact rfl; exact rfl; exact (mkO_low _ _ _ hl0).trans ho; exact rfl; omega; omega) | ((with_reducible apply st_slcE (j + 1) (l.length - j - 1) (N - j - 1)); exact rfl; exact rfl; exact rfl; exact rfl; exact (mkO_low _ _ _ hl0).trans ho; exact rfl; omega; omega)
  all_goals intro hb2
  all_goals first | (exfalso; omega) | refine aops_nil ?_
  all_goals ((with_reducible apply d_one 6); kernel_rfl; exact rfl)
  all_goals first
    | ((with_reducible apply st_appendIn (l.length - 1) ((l.map encU).take j ++ ((l.map encU).drop (j + 1) ++ (l.map encU).drop (l.length - 1)))); exact rfl; exact rfl; exact rfl; exact hl0; exact ho; exact rfl; exact rfl; exact rfl; exact SrcA.slc ((mkO_low _ _ _ hl0).trans ho) (by rw [List.length_map]; omega); (rw [List.length_map]; omega); (rw [hnews, List.length_drop, List.length_map]; omega); omega; omega; (rw [hnews]; exact hover))
    | ((with_reducible apply st_appendIn (l.length - 1) ((l.map encU).take j ++ ((l.map encU).drop (j + 1) ++ (l.map encU).drop (l.length - 1)))); exact rfl; exact rfl; exact rfl; exact hl0; exact ho; exact rfl; exact rfl; exact rfl; exact SrcA.row; (rw [List.length_map]; omega); (show j + 0 = _; omega); omega; omega; (rw [← hover, List.drop_of_length_le (by rw [List.length_map]; omega)]))
  all_goals refine aops_nil ?_
  all_goals ((with_reducible apply d_one 7); kernel_rfl; exact rfl)
  all_goals ((with_reducible apply st_q RdT.ok); exact rfl; exact rfl; refine aops_nil ?_; refine d_done (by decide +kernel) ?_)
  all_goals repeat' (first
                | (with_reducible refine want_none ?_)
                | (with_reducible refine c_seq ?_)
                | (with_reducible refine c_region ?_)
                | (with_reducible refine aops_nil ?_)
                | (with_reducible refine k_normal ?_)
                | (with_reducible refine c_skip ?_)
                | (with_reducible refine c_ret ?_)
                | ((with_reducible apply st_lenslc RdT.ok); exact rfl; exact rfl; exact rfl; intro hlen)
                | ((with_reducible apply st_slcE (l.length - 1) 1 (N - (l.length - 1))); exact rfl; exact rfl; exact rfl; exact rfl; exact (mkO_low _ _ _ hl0).trans (upd_same _ _ _ _); exact rfl; omega; omega; rotate_left; (intro hb4; exfalso; omega); intro hb3)
                | ((with_reducible apply st_clearL); exact rfl; exact rfl; exact rfl; exact hl0; exact upd_same _ _ _ _; (rw [hes]; refine ⟨by omega, by omega, by omega⟩); exact rfl)
                | ((with_reducible apply st_q RdT.ok); exact rfl; exact rfl)
                | ((with_reducible apply c_cond); exact rfl; (first | exact Bp.not Bp.dec | exact Bp.dec | exact Bp.not Bp.bool | exact Bp.bool); all_goals intro hc))
  all_goals
    (with_reducible apply r_one); exact rfl; exact .tmp rfl .nil; exact .s (.slcL hl0); exact sup_upd (sup_upd hS hl0) hl0
    refine ⟨_, upd_upd _ _ _ _ _, ?_, ?_, rfl⟩
    · have h1 : ((l.map encU).take j ++ ((l.map encU).drop (j + 1) ++ (l.map encU).drop (l.length - 1))).take (l.length - 1) = (l.map encU).take j ++ (l.map encU).drop (j + 1) := by
        rw [← List.append_assoc, List.take_append_of_le_length (by simp only [List.length_append, List.length_take, List.length_drop, List.length_map]; omega)]
        exact List.take_of_length_le (by simp only [List.length_append, List.length_take, List.length_drop, List.length_map]; omega)
      unfold over
      rw [h1, List.take_append_of_le_length (by simp only [List.length_append, List.length_take, List.length_drop, List.length_map]; omega),
        List.take_of_length_le (by simp only [List.length_append, List.length_take, List.length_drop, List.length_map]; omega), List.eraseIdx_eq_take_drop_succ, List.map_append, List.map_take, List.map_drop]
    · rw [over_length (by rw [hes]; omega), hes]
      omega
theorem delete_AC (l : List U) (j l0 b L : Nat) (S : Store) (hj : j < l.length) (hm : l.length ≤ maxLen) (hl0 : l0 < L) (ho : S l0 b = some (.row 41 4 (l.map encU))) :
    AC Try.prog L 111 [.s (.sl l0 b 0 l.length), .s (.pv (.lit (.int .i64 j))), .s (.pv (.lit (.int .i64 ((j : Int) + 1))))] S fun r S' =>
      ∃ es', S' = upd S l0 b (some (.row 41 4 es')) ∧ es'.take (l.length - 1) = (l.eraseIdx j).map encU ∧ l.length - 1 ≤ es'.length ∧ r = .val (.a (.s (.sl l0 b 0 (l.length - 1)))) := by
  refine AC_reveal (fun N h1 h2 => AC_slOut ((delete_slc l j l0 b N L S hj h1 h2 hl0 ho).mono ?_)) hm
  rintro r S' ⟨es', rfl, h3, h4, rfl⟩
  exact .inr ⟨l0, b, _, N, 41, 4, es', rfl, upd_same _ _ _ _, h4, es', rfl, h3, h4, rfl⟩
end Go.Proofs.Ytfdaioinghfjpaa
namespace Go.Proofs.Ytfdaioinghfjpaa
open Go.Rd Go.RowKit
set_option maxRecDepth 20000
def turn1 (l : List U) (j : Nat) (u : U) (by' : Int) : List U := if u.count + by' = 0 ∧ u.old = false then l.eraseIdx j else l.set j { u with count := u.count + by' }
inductive Turn (l : List U) (at' by' : Int) : TV → Prop
  | no (h : may (some l) = false ∨ countOf at' l = 0 ∨ countOf at' l + by' > 1000000) : Turn l at' by' (.tup [.s (.pv (.lit (.slice none 0 0))), .s (.pv (.lit (.bool false)))])
  | yes (j : Nat) (u : U) (hm : may (some l) = true) (hu : l[j]? = some u) (hp : u.pos = at') (hf : ∀ (i : Nat) (x : U), i < j → l[i]? = some x → x.pos ≠ at') (hc : u.count ≠ 0) (hb : u.count + by' ≤ 1000000) :
      Turn l at' by' (.tup [uA (some (turn1 l j u by')), .s (.pv (.lit (.bool true)))])
theorem may1_mem : ∀ (l : List U) (e : Int), may1 e l = true → ∀ u ∈ l, 1 ≤ u.len ∧ u.len ≤ 8 ∧ e ≤ u.pos ∧ u.pos ≤ 16 - u.len ∧ 0 ≤ u.count ∧ u.count ≤ 1000000 ∧ (u.old = true ∨ u.count ≠ 0)
  | [], _, _, u, hu => by cases hu
  | v :: r, e, h, u, hu => by
    obtain ⟨q1, q2, q3, q4, q5, q6, q7, q8⟩ := may1_cons h
    rcases List.mem_cons.1 hu with rfl | hu
    · exact ⟨q1, q2, q3, q4, q5, q6, q7⟩
    · obtain ⟨p1, p2, p3, p4, p5, p6, p7⟩ := may1_mem r _ q8 u hu
      exact ⟨p1, p2, by omega, p4, p5, p6, p7⟩
theorem turn_AC (l : List U) (at' by' : Int) (hby : by' = 1 ∨ by' = -1) : ACv Try.prog 80 [uA (some l), .s (.pv (.lit (.int .i64 at'))), .s (.pv (.lit (.int .i64 by')))] (Turn l at' by') := by
  intro L S hL
  refine fn_St (n := 69) (rs := [.tmp 6, .tmp 7]) hands_val RdT.ok RdT.mixed Try.func80 rfl (by kernel_rfl) rfl rfl rfl (by omega) ?_
  intro hS
  show awp _ _ _ _ _ (St L 69 [(0, row 4 (l.map encU)), (1, int at'), (2, int by')] S [])
  cases hmay : may (some l) with
  | false =>
    repeat' (first
        | (with_reducible refine want_none ?_)
        | (with_reducible refine c_seq ?_)
        | (with_reducible refine c_region ?_)
        | (with_reducible refine aops_nil ?_)
        | (with_reducible refine k_normal ?_)
        | (with_reducible refine c_skip ?_)
        | (with_reducible refine c_ret ?_)
        | (with_reducible refine k_ret ?_)
        | ((with_reducible apply want_run); exact rfl; exact rfl)
        | ((with_reducible apply want_skip); exact rfl; exact rfl; exact rfl)
        | ((with_reducible apply want_forkF); exact rfl; exact rfl; exact rfl; (first | exact Bp.not Bp.dec | exact Bp.dec | exact Bp.not Bp.bool | exact Bp.bool); all_goals intro hc)
        | ((with_reducible apply want_forkT); exact rfl; exact rfl; exact rfl; (first | exact Bp.not Bp.dec | exact Bp.dec | exact Bp.not Bp.bool | exact Bp.bool); all_goals intro hc)
        | ((with_reducible apply st_callv); exact rfl; exact rfl; exact rfl; exact rfl; exact find_AC (some l) _; (rintro v rfl))
        | ((with_reducible apply st_callv); exact rfl; exact rfl; exact rfl; exact rfl; exact may_AC (some l); (rintro v rfl); rw [hmay])
        | ((with_reducible apply st_loadpelK); exact rfl; exact rfl; assumption; exact rfl; exact rfl)
        | ((with_reducible apply st_idx); exact rfl; exact rfl; exact rfl; exact rfl; exact rfl; omega)
        | ((with_reducible apply st_add); exact rfl; exact rfl; exact rfl; omega)
        | ((with_reducible apply st_q RdT.ok); exact rfl; exact rfl)
        | ((with_reducible apply c_condT); exact rfl)
        | ((with_reducible apply c_condF); exact rfl)
        | ((with_reducible apply c_cond); exact rfl; (first | exact Bp.not Bp.dec | exact Bp.dec | exact Bp.not Bp.bool | exact Bp.bool); all_goals intro hc))
    (with_reducible apply r_tup); exact rfl; exact .tmp rfl (.tmp rfl .nil); exact rfl; exact .cons (.s (.pv _)) (.cons (.s (.pv _)) .nil); exact hS
    exact ⟨rfl, _, rfl, .no (.inl hmay)⟩
  | true =>
    have hlen16 : (l.length : Int) ≤ 16 := by
      have := may1_length l 0 hmay
      omega
    rcases find_spec l at' with ⟨h1, h2, _⟩ | ⟨j, u, h1, h2, h3, h4, h5⟩
    · repeat' (first
          | (with_reducible refine want_none ?_)
          | (with_reducible refine c_seq ?_)
          | (with_reducible refine c_region ?_)
          | (with_reducible refine aops_nil ?_)
          | (with_reducible refine k_normal ?_)
          | (with_reducible refine c_skip ?_)
          | (with_reducible refine c_ret ?_)
          | (with_reducible refine k_ret ?_)
          | ((with_reducible apply want_run); exact rfl; exact rfl)
          | ((with_reducible apply want_skip); exact rfl; exact rfl; exact rfl)
          | ((with_reducible apply want_forkF); exact rfl; exact rfl; exact rfl; (first | exact Bp.not Bp.dec | exact Bp.dec | exact Bp.not Bp.bool | exact Bp.bool); all_goals intro hc)
          | ((with_reducible apply want_forkT); exact rfl; exact rfl; exact rfl; (first | exact Bp.not Bp.dec | exact Bp.dec | exact Bp.not Bp.bool | exact Bp.bool); all_goals intro hc)
          | ((with_reducible apply st_callv); exact rfl; exact rfl; exact rfl; exact rfl; exact find_AC (some l) _; (rintro v rfl); rw [h1])
          | ((with_reducible apply st_callv); exact rfl; exact rfl; exact rfl; exact rfl; exact may_AC (some l); (rintro v rfl); rw [hmay])
          | ((with_reducible apply st_loadpelK); exact rfl; exact rfl; assumption; exact rfl; exact rfl)
          | ((with_reducible apply st_idx); exact rfl; exact rfl; exact rfl; exact rfl; exact rfl; omega)
          | ((with_reducible apply st_add); exact rfl; exact rfl; exact rfl; omega)
          | ((with_reducible apply st_q RdT.ok); exact rfl; exact rfl)
          | ((with_reducible apply c_condT); exact rfl)
          | ((with_reducible apply c_condF); exact rfl)
          | ((with_reducible apply c_cond); exact rfl; (first | exact Bp.not Bp.dec | exact Bp.dec | exact Bp.not Bp.bool | exact Bp.bool); all_goals intro hc))
      all_goals first
        | (exfalso; omega)
        | ((with_reducible apply r_tup); exact rfl; exact .tmp rfl (.tmp rfl .nil); exact rfl; exact .cons (.s (.pv _)) (.cons (.s (.pv _)) .nil); exact hS
           exact ⟨rfl, _, rfl, .no (.inr (.inl h2))⟩)
    · have hj : j < l.length := (List.getElem?_eq_some_iff.1 h2).1
      obtain ⟨_, _, _, _, q5, q6, _⟩ := may1_mem l 0 hmay u (List.mem_of_getElem? h2)
      repeat' (first
          | (with_reducible refine want_none ?_)
          | (with_reducible refine c_seq ?_)
          | (with_reducible refine c_region ?_)
          | (with_reducible refine aops_nil ?_)
          | (with_reducible refine k_normal ?_)
          | (with_reducible refine c_skip ?_)
          | (with_reducible refine c_ret ?_)
          | (with_reducible refine k_ret ?_)
          | ((with_reducible apply want_run); exact rfl; exact rfl)
          | ((with_reducible apply want_skip); exact rfl; exact rfl; exact rfl)
          | ((with_reducible apply want_forkF); exact rfl; exact rfl; exact rfl; (first | exact Bp.not Bp.dec | exact Bp.dec | exact Bp.not Bp.bool | exact Bp.bool); all_goals intro hc)
          | ((with_reducible apply want_forkT); exact rfl; exact rfl; exact rfl; (first | exact Bp.not Bp.dec | exact Bp.dec | exact Bp.not Bp.bool | exact Bp.bool); all_goals intro hc)
          | ((with_reducible apply st_callv); exact rfl; exact rfl; exact rfl; exact rfl; exact find_AC (some l) _; (rintro v rfl); rw [h1])
          | ((with_reducible apply st_callv); exact rfl; exact rfl; exact rfl; exact rfl; exact may_AC (some l); (rintro v rfl); rw [hmay])
          | ((with_reducible apply st_callo); exact rfl; exact rfl; exact rfl; exact rfl; exact clone_row l (by omega); (rintro es rfl; rw [List.length_map]))
          | ((with_reducible apply st_idxown); exact rfl; exact rfl; exact rfl; exact rfl; exact rfl; exact rfl; omega)
          | ((with_reducible apply st_loadpr); exact rfl; exact rfl; exact rfl; (first | omega | (simp only [List.length_set]; omega)); exact rfl; (intro w hw; (first | (rw [Int.toNat_natCast, h2] at hw) | (rw [Int.toNat_natCast, List.getElem?_set_self hj] at hw)); cases hw; refine ⟨_, rfl, ?_⟩))
          | ((with_reducible apply st_storeprU); exact rfl; exact rfl; exact rfl; exact rfl; exact rfl; exact rfl; omega; (intro w hw; rw [Int.toNat_natCast, h2] at hw; cases hw; refine ⟨{ u with count := u.count + by' }, _, rfl, rfl, rfl, ?_⟩))
          | ((with_reducible apply st_loadpelK); exact rfl; exact rfl; assumption; exact rfl; exact rfl)
          | ((with_reducible apply st_idx); exact rfl; exact rfl; exact rfl; exact rfl; exact rfl; omega)
          | ((with_reducible apply st_add); exact rfl; exact rfl; exact rfl; omega)
          | ((with_reducible apply st_q RdT.ok); exact rfl; exact rfl)
          | ((with_reducible apply c_condT); exact rfl)
          | ((with_reducible apply c_condF); exact rfl)
          | ((with_reducible apply c_cond); exact rfl; (first | exact Bp.not Bp.dec | exact Bp.dec | exact Bp.not Bp.bool | exact Bp.bool); all_goals intro hc))
      · (with_reducible apply r_tup); exact rfl; exact .tmp rfl (.tmp rfl .nil); exact rfl; exact .cons (.s (.pv _)) (.cons (.s (.pv _)) .nil); exact hS
        exact ⟨rfl, _, rfl, .no (.inr (.inl (by rw [h4]; exact hc)))⟩
      · (with_reducible apply r_tup); exact rfl; exact .tmp rfl (.tmp rfl .nil); exact rfl; exact .cons (.s (.pv _)) (.cons (.s (.pv _)) .nil); exact hS
        exact ⟨rfl, _, rfl, .no (.inr (.inr (by rw [h4]; omega)))⟩
      · have hset : (l.set j { u with count := u.count + by' }).length = l.length := List.length_set
        have hD := delete_AC (l.set j { u with count := u.count + by' }) j L 39 (L + 1) (mkO S L [(39, .row 41 4 ((l.set j { u with count := u.count + by' }).map encU))]) (by rw [hset]; exact hj) (by rw [hset]; simp only [maxLen]; omega) (by omega) (mkO_own _ _ _ _)
        rw [hset] at hD
        repeat' (first
            | (with_reducible refine want_none ?_)
            | (with_reducible refine c_seq ?_)
            | (with_reducible refine c_region ?_)
            | (with_reducible refine aops_nil ?_)
            | (with_reducible refine k_normal ?_)
            | (with_reducible refine c_skip ?_)
            | (with_reducible refine c_ret ?_)
            | (with_reducible refine k_ret ?_)
            | ((with_reducible apply want_run); exact rfl; exact rfl)
            | ((with_reducible apply want_skip); exact rfl; exact rfl; exact rfl)
            | ((with_reducible apply want_forkF); exact rfl; exact rfl; exact rfl; (first | exact Bp.not Bp.dec | exact Bp.dec | exact Bp.not Bp.bool | exact Bp.bool); all_goals intro hc)
            | ((with_reducible apply want_forkT); exact rfl; exact rfl; exact rfl; (first | exact Bp.not Bp.dec | exact Bp.dec | exact Bp.not Bp.bool | exact Bp.bool); all_goals intro hc)
            | ((with_reducible apply st_callN); exact rfl; exact rfl; exact rfl; exact rfl; exact hD; (rintro r S' ⟨es', rfl, h6, h7, rfl⟩; refine ⟨_, [(39, .row 41 4 es')], rfl, mkO_aset rfl, ?_⟩))
            | ((with_reducible apply st_loadpelK); exact rfl; exact rfl; assumption; exact rfl; exact rfl)
            | ((with_reducible apply st_idx); exact rfl; exact rfl; exact rfl; exact rfl; exact rfl; omega)
            | ((with_reducible apply st_add); exact rfl; exact rfl; exact rfl; omega)
            | ((with_reducible apply st_q RdT.ok); exact rfl; exact rfl)
            | ((with_reducible apply c_condT); exact rfl)
            | ((with_reducible apply c_condF); exact rfl)
            | ((with_reducible apply c_cond); exact rfl; (first | exact Bp.not Bp.dec | exact Bp.dec | exact Bp.not Bp.bool | exact Bp.bool); all_goals intro hc))
        (with_reducible apply r_tup); exact rfl; exact .tmp rfl (.tmp rfl .nil); exact rfl; exact .cons (.s (.slT rfl h6)) (.cons (.s (.pv _)) .nil); exact hS
        refine ⟨rfl, _, rfl, ?_⟩
        have := Turn.yes (l := l) (at' := at') (by' := by') j u hmay h2 h3 h5 (by assumption) (by omega)
        rw [turn1, if_pos (by simp_all)] at this
        rw [List.eraseIdx_set_eq]
        exact this
      all_goals
        (with_reducible apply r_tup); exact rfl; exact .tmp rfl (.tmp rfl .nil); exact rfl; exact .cons (.s (.sl rfl (by rw [List.length_map, List.length_set]))) (.cons (.s (.pv _)) .nil); exact hS
        refine ⟨rfl, _, rfl, ?_⟩
        have := Turn.yes (l := l) (at' := at') (by' := by') j u hmay h2 h3 h5 (by assumption) (by omega)
        rw [turn1, if_neg (by simp_all)] at this
        exact this
end Go.Proofs.Ytfdaioinghfjpaa
namespace Go.Proofs.Ytfdaioinghfjpaa
open Go.Rd Go.RowKit
set_option maxRecDepth 20000
theorem inc_AC (l : List U) (at' : Int) : ACv Try.prog 21 [uA (some l), .s (.pv (.lit (.int .i64 at')))] (Turn l at' 1) := by
  intro L S hL
  refine fn_St (n := 11) (rs := [.tmp 4, .tmp 5]) hands_val RdT.ok RdT.mixed Try.func21 rfl (by kernel_rfl) rfl rfl rfl (by omega) ?_
  intro hS
  show awp _ _ _ _ _ (St L 11 [(0, row 4 (l.map encU)), (1, int at')] S [])
  repeat' (first
      | (with_reducible refine want_none ?_)
      | (with_reducible refine c_seq ?_)
      | (with_reducible refine c_region ?_)
      | (with_reducible refine aops_nil ?_)
      | (with_reducible refine k_normal ?_)
      | (with_reducible refine c_ret ?_)
      | ((with_reducible apply st_callv); exact rfl; exact rfl; exact rfl; exact rfl; exact turn_AC l _ 1 (.inl rfl); (rintro v (⟨h⟩ | ⟨j, u, hm, hu, hp, hf, hc, hb⟩)))
      | ((with_reducible apply st_q RdT.ok); exact rfl; exact rfl))
  · (with_reducible apply r_tup); exact rfl; exact .tmp rfl (.tmp rfl .nil); exact rfl; exact .cons (.s (.pv _)) (.cons (.s (.pv _)) .nil); exact hS
    exact ⟨rfl, _, rfl, .no h⟩
  · (with_reducible apply r_tup); exact rfl; exact .tmp rfl (.tmp rfl .nil); exact rfl; exact .cons (.s (.pv _)) (.cons (.s (.pv _)) .nil); exact hS
    exact ⟨rfl, _, rfl, .yes j u hm hu hp hf hc hb⟩
theorem dec_AC (l : List U) (at' : Int) : ACv Try.prog 23 [uA (some l), .s (.pv (.lit (.int .i64 at')))] (Turn l at' (-1)) := by
  intro L S hL
  refine fn_St (n := 11) (rs := [.tmp 4, .tmp 5]) hands_val RdT.ok RdT.mixed Try.func23 rfl (by kernel_rfl) rfl rfl rfl (by omega) ?_
  intro hS
  show awp _ _ _ _ _ (St L 11 [(0, row 4 (l.map encU)), (1, int at')] S [])
  repeat' (first
      | (with_reducible refine want_none ?_)
      | (with_reducible refine c_seq ?_)
      | (with_reducible refine c_region ?_)
      | (with_reducible refine aops_nil ?_)
      | (with_reducible refine k_normal ?_)
      | (with_reducible refine c_ret ?_)
      | ((with_reducible apply st_callv); exact rfl; exact rfl; exact rfl; exact rfl; exact turn_AC l _ (-1) (.inr rfl); (rintro v (⟨h⟩ | ⟨j, u, hm, hu, hp, hf, hc, hb⟩)))
      | ((with_reducible apply st_q RdT.ok); exact rfl; exact rfl))
  · (with_reducible apply r_tup); exact rfl; exact .tmp rfl (.tmp rfl .nil); exact rfl; exact .cons (.s (.pv _)) (.cons (.s (.pv _)) .nil); exact hS
    exact ⟨rfl, _, rfl, .no h⟩
  · (with_reducible apply r_tup); exact rfl; exact .tmp rfl (.tmp rfl .nil); exact rfl; exact .cons (.s (.pv _)) (.cons (.s (.pv _)) .nil); exact hS
    exact ⟨rfl, _, rfl, .yes j u hm hu hp hf hc hb⟩
def noTurn : TV := .tup [.s (.pv (.lit (.slice none 0 0))), .s (.pv (.lit (.bool false)))]
theorem turn_nil (at' by' : Int) : ACv Try.prog 80 [uA none, .s (.pv (.lit (.int .i64 at'))), .s (.pv (.lit (.int .i64 by')))] fun v => v = noTurn := by
  intro L S hL
  refine fn_St (n := 69) (rs := [.tmp 6, .tmp 7]) hands_val RdT.ok RdT.mixed Try.func80 rfl (by kernel_rfl) rfl rfl rfl (by omega) ?_
  intro hS
  show awp _ _ _ _ _ (St L 69 [(0, nilS), (1, int at'), (2, int by')] S [])
  repeat' (first
      | (with_reducible refine want_none ?_)
      | (with_reducible refine c_seq ?_)
      | (with_reducible refine c_region ?_)
      | (with_reducible refine aops_nil ?_)
      | (with_reducible refine k_normal ?_)
      | (with_reducible refine c_ret ?_)
      | (with_reducible refine k_ret ?_)
      | ((with_reducible apply want_run); exact rfl; exact rfl)
      | ((with_reducible apply want_skip); exact rfl; exact rfl; exact rfl)
      | ((with_reducible apply st_callv); exact rfl; exact rfl; exact rfl; exact rfl; exact find_AC none _; (rintro v rfl); rw [show find none at' = -1 from rfl])
      | ((with_reducible apply st_callv); exact rfl; exact rfl; exact rfl; exact rfl; exact may_AC none; (rintro v rfl); rw [show may none = true from rfl])
      | ((with_reducible apply st_q RdT.ok); exact rfl; exact rfl)
      | ((with_reducible apply c_condT); exact rfl))
  all_goals first
    | ((with_reducible apply r_tup); exact rfl; exact .tmp rfl (.tmp rfl .nil); exact rfl; exact .cons (.s (.pv _)) (.cons (.s (.pv _)) .nil); exact hS
       exact ⟨rfl, _, rfl, rfl⟩)
    | (exfalso; omega)
theorem inc_nil (at' : Int) : ACv Try.prog 21 [uA none, .s (.pv (.lit (.int .i64 at')))] fun v => v = noTurn := by
  intro L S hL
  refine fn_St (n := 11) (rs := [.tmp 4, .tmp 5]) hands_val RdT.ok RdT.mixed Try.func21 rfl (by kernel_rfl) rfl rfl rfl (by omega) ?_
  intro hS
  show awp _ _ _ _ _ (St L 11 [(0, nilS), (1, int at')] S [])
  repeat' (first
      | (with_reducible refine want_none ?_)
      | (with_reducible refine c_seq ?_)
      | (with_reducible refine c_region ?_)
      | (with_reducible refine aops_nil ?_)
      | (with_reducible refine k_normal ?_)
      | (with_reducible refine c_ret ?_)
      | ((with_reducible apply st_callv); exact rfl; exact rfl; exact rfl; exact rfl; exact turn_nil _ 1; (rintro v rfl))
      | ((with_reducible apply st_q RdT.ok); exact rfl; exact rfl))
  all_goals first
    | ((with_reducible apply r_tup); exact rfl; exact .tmp rfl (.tmp rfl .nil); exact rfl; exact .cons (.s (.pv _)) (.cons (.s (.pv _)) .nil); exact hS
       exact ⟨rfl, _, rfl, rfl⟩)
    | (exfalso; omega)
theorem dec_nil (at' : Int) : ACv Try.prog 23 [uA none, .s (.pv (.lit (.int .i64 at')))] fun v => v = noTurn := by
  intro L S hL
  refine fn_St (n := 11) (rs := [.tmp 4, .tmp 5]) hands_val RdT.ok RdT.mixed Try.func23 rfl (by kernel_rfl) rfl rfl rfl (by omega) ?_
  intro hS
  show awp _ _ _ _ _ (St L 11 [(0, nilS), (1, int at')] S [])
  repeat' (first
      | (with_reducible refine want_none ?_)
      | (with_reducible refine c_seq ?_)
      | (with_reducible refine c_region ?_)
      | (with_reducible refine aops_nil ?_)
      | (with_reducible refine k_normal ?_)
      | (with_reducible refine c_ret ?_)
      | ((with_reducible apply st_callv); exact rfl; exact rfl; exact rfl; exact rfl; exact turn_nil _ (-1); (rintro v rfl))
      | ((with_reducible apply st_q RdT.ok); exact rfl; exact rfl))
  all_goals first
    | ((with_reducible apply r_tup); exact rfl; exact .tmp rfl (.tmp rfl .nil); exact rfl; exact .cons (.s (.pv _)) (.cons (.s (.pv _)) .nil); exact hS
       exact ⟨rfl, _, rfl, rfl⟩)
    | (exfalso; omega)
end Go.Proofs.Ytfdaioinghfjpaa
namespace Go.Proofs.Ytfdaioinghfjpaa
open Go.Rd Go.RowKit
set_option maxRecDepth 20000
theorem refCount_AC (o : Option (List U)) (at' : Int) : ACv Try.prog 31 [uA o, .s (.pv (.lit (.int .i64 at')))] fun v => v = Rd.int (count o at') := by
  intro L S hL
  refine fn_St (n := 24) (rs := [.tmp 4]) hands_val RdT.ok RdT.mixed Try.func31 rfl (by kernel_rfl) rfl rfl rfl (by omega) ?_
  intro hS
  cases o with
  | none =>
    show awp _ _ _ _ _ (St L 24 [(0, nilS), (1, int at')] S [])
    repeat' (first
        | (with_reducible refine want_none ?_)
        | (with_reducible refine c_seq ?_)
        | (with_reducible refine c_region ?_)
        | (with_reducible refine c_block ?_)
        | (with_reducible refine aops_nil ?_)
        | (with_reducible refine k_normal ?_)
        | (with_reducible refine c_skip ?_)
        | (with_reducible refine c_exit ?_)
        | (with_reducible refine c_ret ?_)
        | (with_reducible refine k_ret ?_)
        | (with_reducible refine k_exit ?_)
        | (with_reducible refine kl_exit ?_)
        | (with_reducible refine kr_ret ?_)
        | (with_reducible refine kr_exit ?_)
        | (with_reducible refine kb_normal ?_)
        | (with_reducible refine kb_ret ?_)
        | (with_reducible refine kb_hit ?_)
        | ((with_reducible apply st_loadpelK); exact rfl; exact rfl; assumption; exact rfl; exact rfl)
        | ((with_reducible apply st_loadpel); exact rfl; exact rfl; omega; exact rfl; (intro u hu; refine ⟨_, rfl, ?_⟩; try simp only [Int.toNat_natCast] at hu))
        | ((with_reducible apply st_idx); exact rfl; exact rfl; exact rfl; exact rfl; exact rfl; omega)
        | ((with_reducible apply st_len RdT.ok); exact rfl; exact rfl; exact rfl; intro hlen)
        | ((with_reducible apply st_lennil RdT.ok); exact rfl; exact rfl; exact rfl)
        | ((with_reducible apply st_add); exact rfl; exact rfl; exact rfl; omega)
        | ((with_reducible apply st_q RdT.ok); exact rfl; exact rfl)
        | ((with_reducible apply c_condF); exact rfl)
        | ((with_reducible apply c_cond); exact rfl; (first | exact Bp.not Bp.dec | exact Bp.dec | exact Bp.not Bp.bool | exact Bp.bool); all_goals intro hc))
    refine c_loop0 ?_
    repeat' (first
        | (with_reducible refine want_none ?_)
        | (with_reducible refine c_seq ?_)
        | (with_reducible refine c_region ?_)
        | (with_reducible refine c_block ?_)
        | (with_reducible refine aops_nil ?_)
        | (with_reducible refine k_normal ?_)
        | (with_reducible refine c_skip ?_)
        | (with_reducible refine c_exit ?_)
        | (with_reducible refine c_ret ?_)
        | (with_reducible refine k_ret ?_)
        | (with_reducible refine k_exit ?_)
        | (with_reducible refine kl_exit ?_)
        | (with_reducible refine kr_ret ?_)
        | (with_reducible refine kr_exit ?_)
        | (with_reducible refine kb_normal ?_)
        | (with_reducible refine kb_ret ?_)
        | (with_reducible refine kb_hit ?_)
        | ((with_reducible apply st_loadpelK); exact rfl; exact rfl; assumption; exact rfl; exact rfl)
        | ((with_reducible apply st_loadpel); exact rfl; exact rfl; omega; exact rfl; (intro u hu; refine ⟨_, rfl, ?_⟩; try simp only [Int.toNat_natCast] at hu))
        | ((with_reducible apply st_idx); exact rfl; exact rfl; exact rfl; exact rfl; exact rfl; omega)
        | ((with_reducible apply st_len RdT.ok); exact rfl; exact rfl; exact rfl; intro hlen)
        | ((with_reducible apply st_lennil RdT.ok); exact rfl; exact rfl; exact rfl)
        | ((with_reducible apply st_add); exact rfl; exact rfl; exact rfl; omega)
        | ((with_reducible apply st_q RdT.ok); exact rfl; exact rfl)
        | ((with_reducible apply c_condF); exact rfl)
        | ((with_reducible apply c_cond); exact rfl; (first | exact Bp.not Bp.dec | exact Bp.dec | exact Bp.not Bp.bool | exact Bp.bool); all_goals intro hc))
    ((with_reducible apply r_one); exact rfl; exact .tmp rfl .nil; exact .s (.pv _); exact hS; refine ⟨rfl, _, rfl, ?_⟩)
    rfl
  | some l =>
    show awp _ _ _ _ _ (St L 24 [(0, row 4 (l.map encU)), (1, int at')] S [])
    show awp _ _ _ _ (retQ _ _ (exitVal fun r S' => S' = S ∧ ∃ v, r = .val v ∧ v = Rd.int (countOf at' l))) _
    repeat' (first
        | (with_reducible refine want_none ?_)
        | (with_reducible refine c_seq ?_)
        | (with_reducible refine c_region ?_)
        | (with_reducible refine c_block ?_)
        | (with_reducible refine aops_nil ?_)
        | (with_reducible refine k_normal ?_)
        | (with_reducible refine c_skip ?_)
        | (with_reducible refine c_exit ?_)
        | (with_reducible refine c_ret ?_)
        | (with_reducible refine k_ret ?_)
        | (with_reducible refine k_exit ?_)
        | (with_reducible refine kl_exit ?_)
        | (with_reducible refine kr_ret ?_)
        | (with_reducible refine kr_exit ?_)
        | (with_reducible refine kb_normal ?_)
        | (with_reducible refine kb_ret ?_)
        | (with_reducible refine kb_hit ?_)
        | ((with_reducible apply st_loadpelK); exact rfl; exact rfl; assumption; exact rfl; exact rfl)
        | ((with_reducible apply st_loadpel); exact rfl; exact rfl; omega; exact rfl; (intro u hu; refine ⟨_, rfl, ?_⟩; try simp only [Int.toNat_natCast] at hu))
        | ((with_reducible apply st_idx); exact rfl; exact rfl; exact rfl; exact rfl; exact rfl; omega)
        | ((with_reducible apply st_len RdT.ok); exact rfl; exact rfl; exact rfl; intro hlen)
        | ((with_reducible apply st_lennil RdT.ok); exact rfl; exact rfl; exact rfl)
        | ((with_reducible apply st_add); exact rfl; exact rfl; exact rfl; omega)
        | ((with_reducible apply st_q RdT.ok); exact rfl; exact rfl)
        | ((with_reducible apply c_condF); exact rfl)
        | ((with_reducible apply c_cond); exact rfl; (first | exact Bp.not Bp.dec | exact Bp.dec | exact Bp.not Bp.bool | exact Bp.bool); all_goals intro hc))
    refine c_loop (β := Nat) (fun k => k ≤ l.length ∧ countOf at' l = countOf at' (l.drop k)) (fun k => l.length - k) (fun k => [(0, row 4 (l.map encU)), (1, int at'), (5, int k)]) (fun _ => []) 0 ⟨Nat.zero_le _, rfl⟩ ⟨rfl, rfl, rfl, trivial⟩ trivial rfl rfl ?_
    rintro k ⟨hk, hm⟩
    repeat' (first
        | (with_reducible refine want_none ?_)
        | (with_reducible refine c_seq ?_)
        | (with_reducible refine c_region ?_)
        | (with_reducible refine c_block ?_)
        | (with_reducible refine aops_nil ?_)
        | (with_reducible refine k_normal ?_)
        | (with_reducible refine c_skip ?_)
        | (with_reducible refine c_exit ?_)
        | (with_reducible refine c_ret ?_)
        | (with_reducible refine k_ret ?_)
        | (with_reducible refine k_exit ?_)
        | (with_reducible refine kl_exit ?_)
        | (with_reducible refine kr_ret ?_)
        | (with_reducible refine kr_exit ?_)
        | (with_reducible refine kb_normal ?_)
        | (with_reducible refine kb_ret ?_)
        | (with_reducible refine kb_hit ?_)
        | ((with_reducible apply st_loadpelK); exact rfl; exact rfl; assumption; exact rfl; exact rfl)
        | ((with_reducible apply st_loadpel); exact rfl; exact rfl; omega; exact rfl; (intro u hu; refine ⟨_, rfl, ?_⟩; try simp only [Int.toNat_natCast] at hu))
        | ((with_reducible apply st_idx); exact rfl; exact rfl; exact rfl; exact rfl; exact rfl; omega)
        | ((with_reducible apply st_len RdT.ok); exact rfl; exact rfl; exact rfl; intro hlen)
        | ((with_reducible apply st_lennil RdT.ok); exact rfl; exact rfl; exact rfl)
        | ((with_reducible apply st_add); exact rfl; exact rfl; exact rfl; omega)
        | ((with_reducible apply st_q RdT.ok); exact rfl; exact rfl)
        | ((with_reducible apply c_condF); exact rfl)
        | ((with_reducible apply c_cond); exact rfl; (first | exact Bp.not Bp.dec | exact Bp.dec | exact Bp.not Bp.bool | exact Bp.bool); all_goals intro hc))
    · ((with_reducible apply r_one); exact rfl; exact .tmp rfl .nil; exact .s (.pv _); exact hS; refine ⟨rfl, _, rfl, ?_⟩)
      rw [hm, drop_cons hu, countOf, if_pos (by assumption)]
    · (with_reducible refine k_back (k + 1) ?_ ?_ ?_ ?_ ?_ ?_)
      · refine ⟨by omega, ?_⟩
        rw [hm, drop_cons hu, countOf, if_neg (by assumption)]
      · omega
      · exact ⟨rfl, rfl, rfl, trivial⟩
      · trivial
      · exact rfl
      · exact rfl
    · ((with_reducible apply r_one); exact rfl; exact .tmp rfl .nil; exact .s (.pv _); exact hS; refine ⟨rfl, _, rfl, ?_⟩)
      rw [hm, List.drop_of_length_le (by omega)]; rfl
end Go.Proofs.Ytfdaioinghfjpaa
namespace Go.Proofs.Ytfdaioinghfjpaa
open Go.Rd Go.RowKit
set_option maxRecDepth 20000
def refCommit (o : Option (List U)) : List U := if may o = true then commit1 (o.getD []) else []
theorem refCommit_AC (o : Option (List U)) : ACv Try.prog 34 [uA o] (fun v => v = .a (uA (some (refCommit o)))) := by
  intro L S hL
  refine fn_St (n := 33) (rs := [.tmp 2]) hands_val RdT.ok RdT.mixed Try.func34 rfl (by kernel_rfl) rfl rfl rfl hL ?_
  intro hS
  cases o with
  | none =>
    show awp _ _ _ _ _ (St L 33 [(0, nilS)] S [])
    repeat' (first
        | (with_reducible refine want_none ?_)
        | (with_reducible refine c_seq ?_)
        | (with_reducible refine c_region ?_)
        | (with_reducible refine c_block ?_)
        | (with_reducible refine aops_nil ?_)
        | (with_reducible refine k_normal ?_)
        | (with_reducible refine c_skip ?_)
        | (with_reducible refine c_exit ?_)
        | (with_reducible refine c_ret ?_)
        | (with_reducible refine k_exit ?_)
        | (with_reducible refine kl_exit ?_)
        | (with_reducible refine kr_exit ?_)
        | (with_reducible refine kb_normal ?_)
        | (with_reducible refine kb_hit ?_)
        | ((with_reducible apply want_run); exact rfl; exact rfl)
        | ((with_reducible apply want_skip); exact rfl; exact rfl; exact rfl)
        | ((with_reducible apply want_forkT); exact rfl; exact rfl; exact rfl; (first | exact Bp.not Bp.dec | exact Bp.dec | exact Bp.not Bp.bool | exact Bp.bool); all_goals intro hc)
        | ((with_reducible apply st_buildslice); exact rfl; exact rfl; exact rfl; exact rfl; exact rfl; exact rfl; exact rfl; exact rfl)
        | ((with_reducible apply st_alloc); exact rfl; exact rfl; exact rfl; exact rfl)
        | ((with_reducible apply st_loadpelK); exact rfl; exact rfl; assumption; exact rfl; exact rfl)
        | ((with_reducible apply st_loadpel); exact rfl; exact rfl; omega; exact rfl; (intro u hu; refine ⟨_, rfl, ?_⟩; try simp only [Int.toNat_natCast] at hu))
        | ((with_reducible apply st_load); exact rfl; exact rfl; exact rfl; exact rfl; exact rfl)
        | ((with_reducible apply st_store); exact rfl; exact rfl; exact rfl; exact rfl; exact rfl; exact rfl)
        | ((with_reducible apply st_idx); exact rfl; exact rfl; exact rfl; exact rfl; exact rfl; omega)
        | ((with_reducible apply st_len RdT.ok); exact rfl; exact rfl; exact rfl; intro hlen)
        | ((with_reducible apply st_lennil RdT.ok); exact rfl; exact rfl; exact rfl)
        | ((with_reducible apply st_add); exact rfl; exact rfl; exact rfl; omega)
        | ((with_reducible apply st_q RdT.ok); exact rfl; exact rfl)
        | ((with_reducible apply c_condT); exact rfl)
        | ((with_reducible apply c_condF); exact rfl)
        | ((with_reducible apply c_cond); exact rfl; (first | exact Bp.not Bp.dec | exact Bp.dec | exact Bp.not Bp.bool | exact Bp.bool); all_goals intro hc))
    refine c_loop0 ?_
    repeat' (first
        | (with_reducible refine want_none ?_)
        | (with_reducible refine c_seq ?_)
        | (with_reducible refine c_region ?_)
        | (with_reducible refine c_block ?_)
        | (with_reducible refine aops_nil ?_)
        | (with_reducible refine k_normal ?_)
        | (with_reducible refine c_skip ?_)
        | (with_reducible refine c_exit ?_)
        | (with_reducible refine c_ret ?_)
        | (with_reducible refine k_exit ?_)
        | (with_reducible refine kl_exit ?_)
        | (with_reducible refine kr_exit ?_)
        | (with_reducible refine kb_normal ?_)
        | (with_reducible refine kb_hit ?_)
        | ((with_reducible apply want_run); exact rfl; exact rfl)
        | ((with_reducible apply want_skip); exact rfl; exact rfl; exact rfl)
        | ((with_reducible apply want_forkT); exact rfl; exact rfl; exact rfl; (first | exact Bp.not Bp.dec | exact Bp.dec | exact Bp.not Bp.bool | exact Bp.bool); all_goals intro hc)
        | ((with_reducible apply st_alloc); exact rfl; exact rfl; exact rfl; exact rfl)
        | ((with_reducible apply st_loadpelK); exact rfl; exact rfl; assumption; exact rfl; exact rfl)
        | ((with_reducible apply st_loadpel); exact rfl; exact rfl; omega; exact rfl; (intro u hu; refine ⟨_, rfl, ?_⟩; try simp only [Int.toNat_natCast] at hu))
        | ((with_reducible apply st_load); exact rfl; exact rfl; exact rfl; exact rfl; exact rfl)
        | ((with_reducible apply st_store); exact rfl; exact rfl; exact rfl; exact rfl; exact rfl; exact rfl)
        | ((with_reducible apply st_idx); exact rfl; exact rfl; exact rfl; exact rfl; exact rfl; omega)
        | ((with_reducible apply st_len RdT.ok); exact rfl; exact rfl; exact rfl; intro hlen)
        | ((with_reducible apply st_lennil RdT.ok); exact rfl; exact rfl; exact rfl)
        | ((with_reducible apply st_add); exact rfl; exact rfl; exact rfl; omega)
        | ((with_reducible apply st_q RdT.ok); exact rfl; exact rfl)
        | ((with_reducible apply c_condT); exact rfl)
        | ((with_reducible apply c_condF); exact rfl)
        | ((with_reducible apply c_cond); exact rfl; (first | exact Bp.not Bp.dec | exact Bp.dec | exact Bp.not Bp.bool | exact Bp.bool); all_goals intro hc))
    (with_reducible apply r_one); exact rfl; exact .tmp rfl .nil; exact .s (.sl rfl rfl); exact hS; refine ⟨rfl, _, rfl, ?_⟩
    rfl
  | some l =>
    show awp _ _ _ _ _ (St L 33 [(0, row 4 (l.map encU))] S [])
    repeat' (first
        | (with_reducible refine want_none ?_)
        | (with_reducible refine c_seq ?_)
        | (with_reducible refine c_region ?_)
        | (with_reducible refine c_block ?_)
        | (with_reducible refine aops_nil ?_)
        | (with_reducible refine k_normal ?_)
        | (with_reducible refine c_skip ?_)
        | (with_reducible refine c_exit ?_)
        | (with_reducible refine c_ret ?_)
        | (with_reducible refine k_exit ?_)
        | (with_reducible refine kl_exit ?_)
        | (with_reducible refine kr_exit ?_)
        | (with_reducible refine kb_normal ?_)
        | (with_reducible refine kb_hit ?_)
        | ((with_reducible apply want_run); exact rfl; exact rfl)
        | ((with_reducible apply want_skip); exact rfl; exact rfl; exact rfl)
        | ((with_reducible apply want_forkT); exact rfl; exact rfl; exact rfl; (first | exact Bp.not Bp.dec | exact Bp.dec | exact Bp.not Bp.bool | exact Bp.bool); all_goals intro hc)
        | ((with_reducible apply st_buildslice); exact rfl; exact rfl; exact rfl; exact rfl; exact rfl; exact rfl; exact rfl; exact rfl)
        | ((with_reducible apply st_alloc); exact rfl; exact rfl; exact rfl; exact rfl)
        | ((with_reducible apply st_loadpelK); exact rfl; exact rfl; assumption; exact rfl; exact rfl)
        | ((with_reducible apply st_loadpel); exact rfl; exact rfl; omega; exact rfl; (intro u hu; refine ⟨_, rfl, ?_⟩; try simp only [Int.toNat_natCast] at hu))
        | ((with_reducible apply st_load); exact rfl; exact rfl; exact rfl; exact rfl; exact rfl)
        | ((with_reducible apply st_store); exact rfl; exact rfl; exact rfl; exact rfl; exact rfl; exact rfl)
        | ((with_reducible apply st_idx); exact rfl; exact rfl; exact rfl; exact rfl; exact rfl; omega)
        | ((with_reducible apply st_len RdT.ok); exact rfl; exact rfl; exact rfl; intro hlen)
        | ((with_reducible apply st_lennil RdT.ok); exact rfl; exact rfl; exact rfl)
        | ((with_reducible apply st_add); exact rfl; exact rfl; exact rfl; omega)
        | ((with_reducible apply st_q RdT.ok); exact rfl; exact rfl)
        | ((with_reducible apply c_condT); exact rfl)
        | ((with_reducible apply c_condF); exact rfl)
        | ((with_reducible apply c_cond); exact rfl; (first | exact Bp.not Bp.dec | exact Bp.dec | exact Bp.not Bp.bool | exact Bp.bool); all_goals intro hc))
    cases hmay : may (some l) with
    | false =>
      refine c_loop0 ?_
      repeat' (first
          | (with_reducible refine want_none ?_)
          | (with_reducible refine c_seq ?_)
          | (with_reducible refine c_region ?_)
          | (with_reducible refine c_block ?_)
          | (with_reducible refine aops_nil ?_)
          | (with_reducible refine k_normal ?_)
          | (with_reducible refine c_skip ?_)
          | (with_reducible refine c_exit ?_)
          | (with_reducible refine c_ret ?_)
          | (with_reducible refine k_exit ?_)
          | (with_reducible refine kl_exit ?_)
          | (with_reducible refine kr_exit ?_)
          | (with_reducible refine kb_normal ?_)
          | (with_reducible refine kb_hit ?_)
          | ((with_reducible apply want_run); exact rfl; exact rfl)
          | ((with_reducible apply want_skip); exact rfl; exact rfl; exact rfl)
          | ((with_reducible apply want_forkT); exact rfl; exact rfl; exact rfl; (first | exact Bp.not Bp.dec | exact Bp.dec | exact Bp.not Bp.bool | exact Bp.bool); all_goals intro hc)
          | ((with_reducible apply st_callv); exact rfl; exact rfl; exact rfl; exact rfl; exact refMay_AC (some l); (rintro v rfl); rw [hmay])
          | ((with_reducible apply st_alloc); exact rfl; exact rfl; exact rfl; exact rfl)
          | ((with_reducible apply st_loadpelK); exact rfl; exact rfl; assumption; exact rfl; exact rfl)
          | ((with_reducible apply st_loadpel); exact rfl; exact rfl; omega; exact rfl; (intro u hu; refine ⟨_, rfl, ?_⟩; try simp only [Int.toNat_natCast] at hu))
          | ((with_reducible apply st_load); exact rfl; exact rfl; exact rfl; exact rfl; exact rfl)
          | ((with_reducible apply st_store); exact rfl; exact rfl; exact rfl; exact rfl; exact rfl; exact rfl)
          | ((with_reducible apply st_idx); exact rfl; exact rfl; exact rfl; exact rfl; exact rfl; omega)
          | ((with_reducible apply st_len RdT.ok); exact rfl; exact rfl; exact rfl; intro hlen)
          | ((with_reducible apply st_lennil RdT.ok); exact rfl; exact rfl; exact rfl)
          | ((with_reducible apply st_add); exact rfl; exact rfl; exact rfl; omega)
          | ((with_reducible apply st_q RdT.ok); exact rfl; exact rfl)
          | ((with_reducible apply c_condT); exact rfl)
          | ((with_reducible apply c_condF); exact rfl)
          | ((with_reducible apply c_cond); exact rfl; (first | exact Bp.not Bp.dec | exact Bp.dec | exact Bp.not Bp.bool | exact Bp.bool); all_goals intro hc))
      all_goals
        (with_reducible apply r_one); exact rfl; exact .tmp rfl .nil; exact .s (.sl rfl rfl); exact hS; refine ⟨rfl, _, rfl, ?_⟩
        rw [refCommit, if_neg (by rw [hmay]; decide)]; rfl
    | true =>
      have hlen16 : (l.length : Int) ≤ 16 := by
        have := may1_length l 0 hmay
        omega
      rw [refCommit, if_pos hmay]
      refine c_loop (β := Nat × List U) (fun b => b.1 ≤ l.length ∧ b.2.length ≤ b.1 ∧ commit1 l = b.2 ++ commit1 (l.drop b.1)) (fun b => l.length - b.1)
        (fun b => [(0, row 4 (l.map encU)), (3, .a (.s (.sl L 6 0 b.2.length))), (4, int b.1)])
        (fun b => [(6, .row 41 4 (b.2.map encU))]) (0, []) ⟨Nat.zero_le _, Nat.zero_le _, rfl⟩ ⟨rfl, rfl, rfl, trivial⟩ ⟨rfl, trivial⟩ rfl rfl ?_
      rintro ⟨k, out⟩ ⟨hk, ho, hm⟩
      dsimp only at hk ho hm ⊢
      repeat' (first
          | (with_reducible refine want_none ?_)
          | (with_reducible refine c_seq ?_)
          | (with_reducible refine c_region ?_)
          | (with_reducible refine c_block ?_)
          | (with_reducible refine aops_nil ?_)
          | (with_reducible refine k_normal ?_)
          | (with_reducible refine c_skip ?_)
          | (with_reducible refine c_exit ?_)
          | (with_reducible refine c_ret ?_)
          | (with_reducible refine k_exit ?_)
          | (with_reducible refine kl_exit ?_)
          | (with_reducible refine kr_exit ?_)
          | (with_reducible refine kb_normal ?_)
          | (with_reducible refine kb_hit ?_)
          | ((with_reducible apply want_run); exact rfl; exact rfl)
          | ((with_reducible apply want_skip); exact rfl; exact rfl; exact rfl)
          | ((with_reducible apply want_forkT); exact rfl; exact rfl; exact rfl; (first | exact Bp.not Bp.dec | exact Bp.dec | exact Bp.not Bp.bool | exact Bp.bool); all_goals intro hc)
          | ((with_reducible apply st_callv); exact rfl; exact rfl; exact rfl; exact rfl; exact refMay_AC (some l); (rintro v rfl); rw [hmay])
          | ((with_reducible apply st_buildslice); exact rfl; exact rfl; exact rfl; exact rfl; exact rfl; exact rfl; exact rfl; exact rfl)
          | ((with_reducible apply st_append1); exact rfl; exact rfl; exact rfl; exact rfl; exact (List.length_map _).symm; exact .own rfl rfl rfl; exact (List.map_append (l₂ := [{ u with old := true }])).symm; (rw [List.length_map, List.length_append]; refine ⟨?_, ?_⟩; (show _ * 32 ≤ _; simp at *; omega); (simp [maxLen] at *; omega)); exact rfl; exact rfl; exact rfl; exact rfl; exact rfl; exact rfl; exact rfl)
          | ((with_reducible apply st_alloc); exact rfl; exact rfl; exact rfl; exact rfl)
          | ((with_reducible apply st_loadpelK); exact rfl; exact rfl; assumption; exact rfl; exact rfl)
          | ((with_reducible apply st_loadpel); exact rfl; exact rfl; omega; exact rfl; (intro u hu; refine ⟨_, rfl, ?_⟩; try simp only [Int.toNat_natCast] at hu))
          | ((with_reducible apply st_load); exact rfl; exact rfl; exact rfl; exact rfl; exact rfl)
          | ((with_reducible apply st_store); exact rfl; exact rfl; exact rfl; exact rfl; exact rfl; exact rfl)
          | ((with_reducible apply st_idx); exact rfl; exact rfl; exact rfl; exact rfl; exact rfl; omega)
          | ((with_reducible apply st_len RdT.ok); exact rfl; exact rfl; exact rfl; intro hlen)
          | ((with_reducible apply st_lennil RdT.ok); exact rfl; exact rfl; exact rfl)
          | ((with_reducible apply st_add); exact rfl; exact rfl; exact rfl; omega)
          | ((with_reducible apply st_q RdT.ok); exact rfl; exact rfl)
          | ((with_reducible apply c_condT); exact rfl)
          | ((with_reducible apply c_condF); exact rfl)
          | ((with_reducible apply c_cond); exact rfl; (first | exact Bp.not Bp.dec | exact Bp.dec | exact Bp.not Bp.bool | exact Bp.bool); all_goals intro hc))
      · (with_reducible refine k_back (k + 1, out ++ [{ u with old := true }]) ?_ ?_ ?_ ?_ ?_ ?_)
        · refine ⟨by dsimp only; omega, by simp at *; omega, ?_⟩
          rw [hm, drop_cons hu, commit1, if_pos hc]
          simp
        · dsimp only; omega
        · exact ⟨rfl, by show TV.a (.s (.sl L 6 0 (List.map encU _).length)) = _; rw [List.length_map], rfl, trivial⟩
        · exact ⟨rfl, trivial⟩
        · exact rfl
        · exact rfl
      · (with_reducible refine k_back (k + 1, out) ?_ ?_ ?_ ?_ ?_ ?_)
        · refine ⟨by dsimp only; omega, by simp at *; omega, ?_⟩
          rw [hm, drop_cons hu, commit1, if_neg hc]
        · dsimp only; omega
        · exact ⟨rfl, rfl, rfl, trivial⟩
        · exact ⟨rfl, trivial⟩
        · exact rfl
        · exact rfl
      · (with_reducible apply r_one); exact rfl; exact .tmp rfl .nil; exact .s (.sl rfl (List.length_map _).symm); exact hS; refine ⟨rfl, _, rfl, ?_⟩
        show _ = TV.a (uA (some (commit1 l)))
        rw [hm, List.drop_of_length_le (by omega)]
        simp [commit1, slA, slP]
end Go.Proofs.Ytfdaioinghfjpaa
namespace Go.Proofs.Ytfdaioinghfjpaa
open Go.Rd Go.RowKit
set_option maxRecDepth 20000
set_option linter.unusedSimpArgs false
set_option linter.unusedVariables false
set_option maxHeartbeats 4000000
abbrev Tb := Option (List U)
def encC (t : Tb) : List PV := [slP 4 encU t]
abbrev cA : Option (List Tb) → AV := slA 1 encC
def idxG {α : Type} (p : α → Bool) (k : Nat) : List α → Int
  | [] => -1
  | u :: r => if p u = true then (k : Int) else idxG p (k + 1) r
theorem idxG_any {α : Type} (p : α → Bool) : ∀ (l : List α) (k : Nat), decide (0 ≤ idxG p k l) = l.any p
  | [], k => rfl
  | u :: r, k => by
    rw [idxG, List.any_cons]
    split
    · rename_i h
      rw [h]
      simp
    · rename_i h
      rw [idxG_any p r, Bool.eq_false_iff.2 h]
      rfl
theorem drop_consG {α : Type} {l : List α} {k : Nat} {u : α} (h : l[k]? = some u) : l.drop k = u :: l.drop (k + 1) := by
  obtain ⟨h1, h2⟩ := List.getElem?_eq_some_iff.1 h
  rw [List.drop_eq_getElem_cons h1, h2]
theorem may1c_AC (t : Tb) : ACv Try.prog 88 [uA t] fun v => v = Rd.bool (!may t) := by
  intro L S hL
  refine fn_St (n := 6) (rs := [.tmp 2]) hands_val RdT.ok RdT.mixed Try.func88 rfl (by kernel_rfl) rfl rfl rfl hL ?_
  intro hS
  show awp _ _ _ _ _ (St L 6 [(0, .a (uA t))] S [])
  repeat' (first
      | (with_reducible refine want_none ?_)
      | (with_reducible refine c_seq ?_)
      | (with_reducible refine c_region ?_)
      | (with_reducible refine aops_nil ?_)
      | (with_reducible refine k_normal ?_)
      | (with_reducible refine c_ret ?_)
      | ((with_reducible apply st_callv); exact rfl; exact rfl; exact rfl; exact rfl; exact may_AC t; (rintro v rfl))
      | ((with_reducible apply st_q RdT.ok); exact rfl; exact rfl))
  ((with_reducible apply r_one); exact rfl; exact .tmp rfl .nil; exact .s (.pv _); exact hS; refine ⟨rfl, _, rfl, ?_⟩)
  rfl
theorem indexC_AC (o : Option (List Tb)) : ACv Try.prog 121 [cA o, .s (.clo 88 [])] fun v => v = Rd.int (idxG (fun t => !may t) 0 (o.getD [])) := by
  intro L S hL
  refine fn_St (n := 19) (rs := [.tmp 4]) hands_val RdT.ok RdT.mixed Try.func121 rfl (by kernel_rfl) rfl rfl rfl hL ?_
  intro hS
  cases o with
  | none =>
    show awp _ _ _ _ _ (St L 19 [(0, nilS), (1, .a (.s (.clo 88 [])))] S [])
    repeat' (first
        | (with_reducible refine want_none ?_)
        | (with_reducible refine c_seq ?_)
        | (with_reducible refine c_region ?_)
        | (with_reducible refine c_block ?_)
        | (with_reducible refine aops_nil ?_)
        | (with_reducible refine k_normal ?_)
        | (with_reducible refine c_skip ?_)
        | (with_reducible refine c_exit ?_)
        | (with_reducible refine c_ret ?_)
        | (with_reducible refine k_ret ?_)
        | (with_reducible refine k_exit ?_)
        | (with_reducible refine kl_exit ?_)
        | (with_reducible refine kr_ret ?_)
        | (with_reducible refine kr_exit ?_)
        | (with_reducible refine kb_normal ?_)
        | (with_reducible refine kb_ret ?_)
        | (with_reducible refine kb_hit ?_)
        | ((with_reducible apply st_loadpel); exact rfl; exact rfl; omega; exact rfl; (intro u hu; refine ⟨_, rfl, ?_⟩; try simp only [Int.toNat_natCast] at hu))
        | ((with_reducible apply st_idx); exact rfl; exact rfl; exact rfl; exact rfl; exact rfl; omega)
        | ((with_reducible apply st_len RdT.ok); exact rfl; exact rfl; exact rfl; intro hlen)
        | ((with_reducible apply st_lennil RdT.ok); exact rfl; exact rfl; exact rfl)
        | ((with_reducible apply st_add); exact rfl; exact rfl; exact rfl; omega)
        | ((with_reducible apply st_q RdT.ok); exact rfl; exact rfl)
        | ((with_reducible apply c_condF); exact rfl)
        | ((with_reducible apply c_cond); exact rfl; (first | exact Bp.not Bp.dec | exact Bp.dec | exact Bp.not Bp.bool | exact Bp.bool); all_goals intro hc))
    refine c_loop0 ?_
    repeat' (first
        | (with_reducible refine want_none ?_)
        | (with_reducible refine c_seq ?_)
        | (with_reducible refine c_region ?_)
        | (with_reducible refine c_block ?_)
        | (with_reducible refine aops_nil ?_)
        | (with_reducible refine k_normal ?_)
        | (with_reducible refine c_skip ?_)
        | (with_reducible refine c_exit ?_)
        | (with_reducible refine c_ret ?_)
        | (with_reducible refine k_ret ?_)
        | (with_reducible refine k_exit ?_)
        | (with_reducible refine kl_exit ?_)
        | (with_reducible refine kr_ret ?_)
        | (with_reducible refine kr_exit ?_)
        | (with_reducible refine kb_normal ?_)
        | (with_reducible refine kb_ret ?_)
        | (with_reducible refine kb_hit ?_)
        | ((with_reducible apply st_loadpel); exact rfl; exact rfl; omega; exact rfl; (intro u hu; refine ⟨_, rfl, ?_⟩; try simp only [Int.toNat_natCast] at hu))
        | ((with_reducible apply st_idx); exact rfl; exact rfl; exact rfl; exact rfl; exact rfl; omega)
        | ((with_reducible apply st_len RdT.ok); exact rfl; exact rfl; exact rfl; intro hlen)
        | ((with_reducible apply st_lennil RdT.ok); exact rfl; exact rfl; exact rfl)
        | ((with_reducible apply st_add); exact rfl; exact rfl; exact rfl; omega)
        | ((with_reducible apply st_q RdT.ok); exact rfl; exact rfl)
        | ((with_reducible apply c_condF); exact rfl)
        | ((with_reducible apply c_cond); exact rfl; (first | exact Bp.not Bp.dec | exact Bp.dec | exact Bp.not Bp.bool | exact Bp.bool); all_goals intro hc))
    ((with_reducible apply r_one); exact rfl; exact .tmp rfl .nil; exact .s (.pv _); exact hS; refine ⟨rfl, _, rfl, ?_⟩)
    rfl
  | some l =>
    show awp _ _ _ _ _ (St L 19 [(0, row 1 (l.map encC)), (1, .a (.s (.clo 88 [])))] S [])
    repeat' (first
        | (with_reducible refine want_none ?_)
        | (with_reducible refine c_seq ?_)
        | (with_reducible refine c_region ?_)
        | (with_reducible refine c_block ?_)
        | (with_reducible refine aops_nil ?_)
        | (with_reducible refine k_normal ?_)
        | (with_reducible refine c_skip ?_)
        | (with_reducible refine c_exit ?_)
        | (with_reducible refine c_ret ?_)
        | (with_reducible refine k_ret ?_)
        | (with_reducible refine k_exit ?_)
        | (with_reducible refine kl_exit ?_)
        | (with_reducible refine kr_ret ?_)
        | (with_reducible refine kr_exit ?_)
        | (with_reducible refine kb_normal ?_)
        | (with_reducible refine kb_ret ?_)
        | (with_reducible refine kb_hit ?_)
        | ((with_reducible apply st_loadpel); exact rfl; exact rfl; omega; exact rfl; (intro u hu; refine ⟨_, rfl, ?_⟩; try simp only [Int.toNat_natCast] at hu))
        | ((with_reducible apply st_idx); exact rfl; exact rfl; exact rfl; exact rfl; exact rfl; omega)
        | ((with_reducible apply st_len RdT.ok); exact rfl; exact rfl; exact rfl; intro hlen)
        | ((with_reducible apply st_lennil RdT.ok); exact rfl; exact rfl; exact rfl)
        | ((with_reducible apply st_add); exact rfl; exact rfl; exact rfl; omega)
        | ((with_reducible apply st_q RdT.ok); exact rfl; exact rfl)
        | ((with_reducible apply c_condF); exact rfl)
        | ((with_reducible apply c_cond); exact rfl; (first | exact Bp.not Bp.dec | exact Bp.dec | exact Bp.not Bp.bool | exact Bp.bool); all_goals intro hc))
    refine c_loop (β := Nat) (fun k => k ≤ l.length ∧ idxG (fun t => !may t) 0 l = idxG (fun t => !may t) k (l.drop k)) (fun k => l.length - k) (fun k => [(0, row 1 (l.map encC)), (1, .a (.s (.clo 88 []))), (7, int l.length), (8, int k)]) (fun _ => []) 0 ⟨Nat.zero_le _, rfl⟩ ⟨rfl, rfl, rfl, rfl, trivial⟩ trivial rfl rfl ?_
    rintro k ⟨hk, hm⟩
    repeat' (first
        | (with_reducible refine want_none ?_)
        | (with_reducible refine c_seq ?_)
        | (with_reducible refine c_region ?_)
        | (with_reducible refine c_block ?_)
        | (with_reducible refine aops_nil ?_)
        | (with_reducible refine k_normal ?_)
        | (with_reducible refine c_skip ?_)
        | (with_reducible refine c_exit ?_)
        | (with_reducible refine c_ret ?_)
        | (with_reducible refine k_ret ?_)
        | (with_reducible refine k_exit ?_)
        | (with_reducible refine kl_exit ?_)
        | (with_reducible refine kr_ret ?_)
        | (with_reducible refine kr_exit ?_)
        | (with_reducible refine kb_normal ?_)
        | (with_reducible refine kb_ret ?_)
        | (with_reducible refine kb_hit ?_)
        | ((with_reducible apply st_callv); exact rfl; exact rfl; exact rfl; exact rfl; exact may1c_AC u; (rintro v rfl))
        | ((with_reducible apply st_loadpel); exact rfl; exact rfl; omega; exact rfl; (intro u hu; refine ⟨_, rfl, ?_⟩; try simp only [Int.toNat_natCast] at hu))
        | ((with_reducible apply st_idx); exact rfl; exact rfl; exact rfl; exact rfl; exact rfl; omega)
        | ((with_reducible apply st_len RdT.ok); exact rfl; exact rfl; exact rfl; intro hlen)
        | ((with_reducible apply st_lennil RdT.ok); exact rfl; exact rfl; exact rfl)
        | ((with_reducible apply st_add); exact rfl; exact rfl; exact rfl; omega)
        | ((with_reducible apply st_q RdT.ok); exact rfl; exact rfl)
        | ((with_reducible apply c_condF); exact rfl)
        | ((with_reducible apply c_cond); exact rfl; (first | exact Bp.not Bp.dec | exact Bp.dec | exact Bp.not Bp.bool | exact Bp.bool); all_goals intro hc))
    · ((with_reducible apply r_one); exact rfl; exact .tmp rfl .nil; exact .s (.pv _); exact hS; refine ⟨rfl, _, rfl, ?_⟩)
      rw [show (some l).getD [] = l from rfl, hm, drop_consG hu, idxG, if_pos (by simpa using hc)]
    · ((with_reducible refine k_back (k + 1) ?_ ?_ ?_ ?_ ?_ ?_); rotate_left; rotate_left; exact (by repeat' (first
                                                                                                         | exact trivial
                                                                                                         | (refine And.intro rfl ?_))); exact (by repeat' (first
                                                                                                                                                                                 | exact trivial
                                                                                                                                                                                 | (refine And.intro rfl ?_))); exact rfl; exact rfl)
      · refine ⟨by omega, ?_⟩
        rw [hm, drop_consG hu, idxG, if_neg (by simpa using hc)]
      · omega
    · ((with_reducible apply r_one); exact rfl; exact .tmp rfl .nil; exact .s (.pv _); exact hS; refine ⟨rfl, _, rfl, ?_⟩)
      rw [show (some l).getD [] = l from rfl, hm, List.drop_of_length_le (by omega)]
      rfl
theorem containsC_AC (o : Option (List Tb)) : ACv Try.prog 87 [cA o, .s (.clo 88 [])] fun v => v = Rd.bool ((o.getD []).any fun t => !may t) := by
  intro L S hL
  refine fn_St (n := 9) (rs := [.tmp 4]) hands_val RdT.ok RdT.mixed Try.func87 rfl (by kernel_rfl) rfl rfl rfl hL ?_
  intro hS
  show awp _ _ _ _ _ (St L 9 [(0, .a (cA o)), (1, .a (.s (.clo 88 [])))] S [])
  repeat' (first
      | (with_reducible refine want_none ?_)
      | (with_reducible refine c_seq ?_)
      | (with_reducible refine c_region ?_)
      | (with_reducible refine aops_nil ?_)
      | (with_reducible refine k_normal ?_)
      | (with_reducible refine c_ret ?_)
      | ((with_reducible apply st_callv); exact rfl; exact rfl; exact rfl; exact rfl; exact indexC_AC o; (rintro v rfl))
      | ((with_reducible apply st_q RdT.ok); exact rfl; exact rfl))
  ((with_reducible apply r_one); exact rfl; exact .tmp rfl .nil; exact .s (.pv _); exact hS; refine ⟨rfl, _, rfl, ?_⟩)
  exact congrArg Rd.bool (idxG_any _ _ _)
def mayC (o : Option (List Tb)) : Bool := decide (1 ≤ (o.getD []).length ∧ (o.getD []).length ≤ 1000) && (o.getD []).all may
theorem all_any {α : Type} (p : α → Bool) : ∀ l : List α, l.all p = !l.any fun t => !p t
  | [] => rfl
  | u :: r => by rw [List.all_cons, List.any_cons, all_any p r]; cases p u <;> simp
theorem mayC_AC (o : Option (List Tb)) : ACv Try.prog 45 [cA o] fun v => v = Rd.bool (mayC o) := by
  intro L S hL
  refine fn_St (n := 16) (rs := [.tmp 2]) hands_val RdT.ok RdT.mixed Try.func45 rfl (by kernel_rfl) rfl rfl rfl hL ?_
  intro hS
  have hall := all_any may (o.getD [])
  obtain ⟨b, hb⟩ : ∃ b, ((o.getD []).any fun t => !may t) = b := ⟨_, rfl⟩
  rw [hb] at hall
  cases o with
  | none =>
    show awp _ _ _ _ _ (St L 16 [(0, nilS)] S [])
    repeat' (first
        | (with_reducible refine want_none ?_)
        | (with_reducible refine c_seq ?_)
        | (with_reducible refine c_region ?_)
        | (with_reducible refine aops_nil ?_)
        | (with_reducible refine k_normal ?_)
        | (with_reducible refine c_ret ?_)
        | ((with_reducible apply want_run); exact rfl; exact rfl)
        | ((with_reducible apply want_skip); exact rfl; exact rfl; exact rfl)
        | ((with_reducible apply want_forkT); exact rfl; exact rfl; exact rfl; (first | exact Bp.not Bp.dec | exact Bp.dec | exact Bp.not Bp.bool | exact Bp.bool); all_goals intro hc)
        | ((with_reducible apply st_len RdT.ok); exact rfl; exact rfl; exact rfl; intro hlen)
        | ((with_reducible apply st_lennil RdT.ok); exact rfl; exact rfl; exact rfl)
        | ((with_reducible apply st_q RdT.ok); exact rfl; exact rfl))
    all_goals
      ((with_reducible apply r_one); exact rfl; exact .tmp rfl .nil; exact .s (.pv _); exact hS; refine ⟨rfl, _, rfl, ?_⟩)
      rfl
  | some l =>
    show awp _ _ _ _ _ (St L 16 [(0, row 1 (l.map encC))] S [])
    repeat' (first
        | (with_reducible refine want_none ?_)
        | (with_reducible refine c_seq ?_)
        | (with_reducible refine c_region ?_)
        | (with_reducible refine aops_nil ?_)
        | (with_reducible refine k_normal ?_)
        | (with_reducible refine c_ret ?_)
        | ((with_reducible apply want_run); exact rfl; exact rfl)
        | ((with_reducible apply want_skip); exact rfl; exact rfl; exact rfl)
        | ((with_reducible apply want_forkT); exact rfl; exact rfl; exact rfl; (first | exact Bp.not Bp.dec | exact Bp.dec | exact Bp.not Bp.bool | exact Bp.bool); all_goals intro hc)
        | ((with_reducible apply st_callv); exact rfl; exact rfl; exact rfl; exact rfl; exact containsC_AC (some l); (rintro v rfl); rw [hb])
        | ((with_reducible apply st_len RdT.ok); exact rfl; exact rfl; exact rfl; intro hlen)
        | ((with_reducible apply st_lennil RdT.ok); exact rfl; exact rfl; exact rfl)
        | ((with_reducible apply st_q RdT.ok); exact rfl; exact rfl))
    all_goals first
      | (exfalso; omega)
      | (((with_reducible apply r_one); exact rfl; exact .tmp rfl .nil; exact .s (.pv _); exact hS; refine ⟨rfl, _, rfl, ?_⟩)
         unfold mayC
         rw [hall]
         simp only [Option.getD_some]
         first
           | (rw [decide_eq_true (by omega), Bool.true_and]; done)
           | (rw [decide_eq_false (by omega), Bool.false_and]; done))
end Go.Proofs.Ytfdaioinghfjpaa
namespace Go.Proofs.Ytfdaioinghfjpaa
open Go.Rd Go.RowKit
theorem readsC : Reads Try.prog 22 1 encC fun o => ∀ u ∈ o.getD [], U.wf u := reads_slice (by kernel_rfl) (by kernel_rfl) readsU (by decide)
end Go.Proofs.Ytfdaioinghfjpaa
namespace Go.Rd
open Go.RowKit Go.Proofs
variable {P : Program} {T : TypeId → Option TI} {L n : Nat} {tm : List (Nat × TV)} {S : Store} {own : List (Nat × AObj)} {ops rest : List Oper} {Q : ASt → Prop} {d : Tmp} {ty : TypeId} {pos : String} {af : Array Edge} {g : Option (Nat × Bool)}
theorem st_quo {t t2 : TypeId} {x y : Operand} {a b : Int} (hx : evF tm x = some (int a)) (hy : evF tm y = some (int b)) (hd : Nat.blt d n = true) (h1 : 0 ≤ a ∧ a ≤ 9223372036854775807 ∧ 0 < b)
    (hk : aops P T ops rest Q (St L n ((d, int (a / b)) :: tm) S own)) : aop1 P T ops rest Q ⟨some d, .binOp .quo t x y t2, ty, pos, af, g⟩ (St L n tm S own) := by
  simp only [aop1, x1, evF_ok hx, evF_ok hy]
  left
  refine ⟨.inl rfl, by omega, ?_⟩
  show (St L n tm S own).put (some d) (lit (.int .i64 (IntKind.i64.wrap (a.tdiv b)))) _
  have h2 : a / b ≤ a := Int.ediv_le_self b h1.1
  have h3 : 0 ≤ a / b := Int.ediv_nonneg h1.1 (by omega)
  rw [Int.tdiv_eq_ediv_of_nonneg h1.1, wrap_id (by omega) (by omega)]
  exact put_some hd hk
theorem st_rem {t t2 : TypeId} {x y : Operand} {a b : Int} (hx : evF tm x = some (int a)) (hy : evF tm y = some (int b)) (hd : Nat.blt d n = true) (h1 : 0 ≤ a ∧ 0 < b)
    (hk : aops P T ops rest Q (St L n ((d, int (a % b)) :: tm) S own)) : aop1 P T ops rest Q ⟨some d, .binOp .rem t x y t2, ty, pos, af, g⟩ (St L n tm S own) := by
  simp only [aop1, x1, evF_ok hx, evF_ok hy]
  left
  refine ⟨.inl rfl, by omega, ?_⟩
  show (St L n tm S own).put (some d) (lit (.int .i64 (a.tmod b))) _
  rw [Int.tmod_eq_emod_of_nonneg h1.1]
  exact put_some hd hk
end Go.Rd
namespace Go.Proofs.Ytfdaioinghfjpaa
open Go.Rd Go.RowKit
set_option maxRecDepth 20000
set_option linter.unusedSimpArgs false
set_option linter.unusedVariables false
set_option maxHeartbeats 4000000
def secs (n : Int) : Int := if n ≤ 0 then 0 else (n + 31) / 32
theorem sectors_AC (n : Int) (hn : n ≤ 1000000) : ACv Try.prog 136 [.s (.pv (.lit (.int .i64 n)))] fun v => v = Rd.int (secs n) := by
  intro L S hL
  refine fn_St (n := 14) (rs := [.tmp 2]) hands_val RdT.ok RdT.mixed Try.func136 rfl (by kernel_rfl) rfl rfl rfl hL ?_
  intro hS
  show awp _ _ _ _ _ (St L 14 [(0, int n)] S [])
  repeat' (first
      | (with_reducible refine want_none ?_)
      | (with_reducible refine c_seq ?_)
      | (with_reducible refine c_region ?_)
      | (with_reducible refine aops_nil ?_)
      | (with_reducible refine k_normal ?_)
      | (with_reducible refine c_skip ?_)
      | (with_reducible refine c_ret ?_)
      | (with_reducible refine k_ret ?_)
      | ((with_reducible apply st_quo); exact rfl; exact rfl; exact rfl; omega)
      | ((with_reducible apply st_rem); exact rfl; exact rfl; exact rfl; omega)
      | ((with_reducible apply st_add); exact rfl; exact rfl; exact rfl; omega)
      | ((with_reducible apply st_q RdT.ok); exact rfl; exact rfl)
      | ((with_reducible apply c_cond); exact rfl; (first | exact Bp.not Bp.dec | exact Bp.dec | exact Bp.not Bp.bool | exact Bp.bool); all_goals intro hc))
  all_goals
    ((with_reducible apply r_one); exact rfl; exact .tmp rfl .nil; exact .s (.pv _); exact hS; refine ⟨rfl, _, rfl, ?_⟩)
    refine congrArg Rd.int ?_
    unfold secs
    split <;> omega
theorem refSectors_AC (n : Int) (hn : n ≤ 1000000) : ACv Try.prog 122 [.s (.pv (.lit (.int .i64 n)))] fun v => v = Rd.int (secs n) := by
  intro L S hL
  refine fn_St (n := 9) (rs := [.tmp 2]) hands_val RdT.ok RdT.mixed Try.func122 rfl (by kernel_rfl) rfl rfl rfl hL ?_
  intro hS
  show awp _ _ _ _ _ (St L 9 [(0, int n)] S [])
  repeat' (first
      | (with_reducible refine want_none ?_)
      | (with_reducible refine c_seq ?_)
      | (with_reducible refine c_region ?_)
      | (with_reducible refine aops_nil ?_)
      | (with_reducible refine k_normal ?_)
      | (with_reducible refine c_skip ?_)
      | (with_reducible refine c_ret ?_)
      | (with_reducible refine k_ret ?_)
      | ((with_reducible apply st_quo); exact rfl; exact rfl; exact rfl; omega)
      | ((with_reducible apply st_add); exact rfl; exact rfl; exact rfl; omega)
      | ((with_reducible apply st_sub); exact rfl; exact rfl; exact rfl; omega)
      | ((with_reducible apply st_q RdT.ok); exact rfl; exact rfl)
      | ((with_reducible apply c_cond); exact rfl; (first | exact Bp.not Bp.dec | exact Bp.dec | exact Bp.not Bp.bool | exact Bp.bool); all_goals intro hc))
  all_goals
    ((with_reducible apply r_one); exact rfl; exact .tmp rfl .nil; exact .s (.pv _); exact hS; refine ⟨rfl, _, rfl, ?_⟩)
    refine congrArg Rd.int ?_
    unfold secs
    split <;> omega
structure Rf where
  chunk : Int
  pos : Int
  size : Int
  packed : Bool
def encR (x : Rf) : List PV := [.lit (.int .i64 x.chunk), .lit (.int .i64 x.pos), .lit (.int .i64 x.size), .lit (.bool x.packed)]
abbrev rA (x : Rf) : AV := .agg ((encR x).map .pv)
def lenR (x : Rf) : Int := secs x.size
def mayR (x : Rf) : Bool := decide (0 ≤ x.chunk ∧ x.chunk < 1000 ∧ 1 ≤ x.size ∧ x.size ≤ 256 ∧ 0 ≤ x.pos) && (x.packed || decide (x.size = 256)) && decide (x.pos + lenR x ≤ 16)
theorem lenR_AC (x : Rf) (hn : x.size ≤ 1000000) : ACv Try.prog 120 [rA x] fun v => v = Rd.int (lenR x) := by
  intro L S hL
  refine fn_St (n := 6) (rs := [.tmp 2]) hands_val RdT.ok RdT.mixed Try.func120 rfl (by kernel_rfl) rfl rfl rfl hL ?_
  intro hS
  show awp _ _ _ _ _ (St L 6 [(0, .a (rA x))] S [])
  repeat' (first
      | (with_reducible refine want_none ?_)
      | (with_reducible refine c_seq ?_)
      | (with_reducible refine c_region ?_)
      | (with_reducible refine aops_nil ?_)
      | (with_reducible refine k_normal ?_)
      | (with_reducible refine c_ret ?_)
      | ((with_reducible apply st_callv); exact rfl; exact rfl; exact rfl; exact rfl; exact sectors_AC x.size hn; (rintro v rfl))
      | ((with_reducible apply st_box); exact rfl; exact rfl; exact rfl; exact rfl)
      | ((with_reducible apply st_load); exact rfl; exact rfl; exact rfl; exact rfl; exact rfl)
      | ((with_reducible apply st_q RdT.ok); exact rfl; exact rfl))
  ((with_reducible apply r_one); exact rfl; exact .tmp rfl .nil; exact .s (.pv _); exact hS; refine ⟨rfl, _, rfl, ?_⟩)
  rfl
theorem refLenR_AC (x : Rf) (hn : x.size ≤ 1000000) : ACv Try.prog 90 [rA x] fun v => v = Rd.int (lenR x) := by
  intro L S hL
  refine fn_St (n := 6) (rs := [.tmp 2]) hands_val RdT.ok RdT.mixed Try.func90 rfl (by kernel_rfl) rfl rfl rfl hL ?_
  intro hS
  show awp _ _ _ _ _ (St L 6 [(0, .a (rA x))] S [])
  repeat' (first
      | (with_reducible refine want_none ?_)
      | (with_reducible refine c_seq ?_)
      | (with_reducible refine c_region ?_)
      | (with_reducible refine aops_nil ?_)
      | (with_reducible refine k_normal ?_)
      | (with_reducible refine c_ret ?_)
      | ((with_reducible apply st_callv); exact rfl; exact rfl; exact rfl; exact rfl; exact refSectors_AC x.size hn; (rintro v rfl))
      | ((with_reducible apply st_box); exact rfl; exact rfl; exact rfl; exact rfl)
      | ((with_reducible apply st_load); exact rfl; exact rfl; exact rfl; exact rfl; exact rfl)
      | ((with_reducible apply st_q RdT.ok); exact rfl; exact rfl))
  ((with_reducible apply r_one); exact rfl; exact .tmp rfl .nil; exact .s (.pv _); exact hS; refine ⟨rfl, _, rfl, ?_⟩)
  rfl
theorem mayR_AC (x : Rf) : ACv Try.prog 117 [rA x] fun v => v = Rd.bool (mayR x) := by
  intro L S hL
  refine fn_St (n := 42) (rs := [.tmp 2]) hands_val RdT.ok RdT.mixed Try.func117 rfl (by kernel_rfl) rfl rfl rfl hL ?_
  intro hS
  have hl0 : 0 ≤ lenR x := by unfold lenR secs; split <;> omega
  have hl1 : x.size ≤ 256 → lenR x ≤ 8 := fun h => by unfold lenR secs; split <;> omega
  show awp _ _ _ _ _ (St L 42 [(0, .a (rA x))] S [])
  repeat' (first
      | (with_reducible refine want_none ?_)
      | (with_reducible refine c_seq ?_)
      | (with_reducible refine c_region ?_)
      | (with_reducible refine c_block ?_)
      | (with_reducible refine aops_nil ?_)
      | (with_reducible refine k_normal ?_)
      | (with_reducible refine c_skip ?_)
      | (with_reducible refine c_ret ?_)
      | (with_reducible refine k_ret ?_)
      | (with_reducible refine kb_normal ?_)
      | (with_reducible refine kb_ret ?_)
      | ((with_reducible apply want_run); exact rfl; exact rfl)
      | ((with_reducible apply want_skip); exact rfl; exact rfl; exact rfl)
      | ((with_reducible apply want_forkF); exact rfl; exact rfl; exact rfl; (first | exact Bp.not Bp.dec | exact Bp.dec | exact Bp.not Bp.bool | exact Bp.bool); all_goals intro hc)
      | ((with_reducible apply want_forkT); exact rfl; exact rfl; exact rfl; (first | exact Bp.not Bp.dec | exact Bp.dec | exact Bp.not Bp.bool | exact Bp.bool); all_goals intro hc)
      | (with_reducible refine q_nil ?_)
      | ((with_reducible apply q_one); exact rfl; exact rfl)
      | ((with_reducible refine c_regionQ ?_ ?_); (decide +kernel))
      | ((with_reducible apply q_call); exact rfl; (with_reducible apply acq); exact rfl; exact rfl; exact rfl; exact lenR_AC x (by omega); exact rfl; (refine put_some rfl ?_))
      | ((with_reducible apply st_box); exact rfl; exact rfl; exact rfl; exact rfl)
      | ((with_reducible apply st_load); exact rfl; exact rfl; exact rfl; exact rfl; exact rfl)
      | ((with_reducible apply st_sub); exact rfl; exact rfl; exact rfl; omega)
      | ((with_reducible apply st_q RdT.ok); exact rfl; exact rfl)
      | ((with_reducible apply c_condT); exact rfl)
      | ((with_reducible apply c_condF); exact rfl)
      | ((with_reducible apply c_cond); exact rfl; (first | exact Bp.not Bp.dec | exact Bp.dec | exact Bp.not Bp.bool | exact Bp.bool); all_goals intro hc))
  all_goals
    ((with_reducible apply r_one); exact rfl; exact .tmp rfl .nil; exact .s (.pv _); exact hS; refine ⟨rfl, _, rfl, ?_⟩)
    refine congrArg Rd.bool ?_
    clear hS
    unfold mayR
    first
      | (rw [decide_eq_false (by omega)]; rfl)
      | (rw [decide_eq_true (p := _ ∧ _) (by omega)]; simp_all; done)
      | (rw [decide_eq_true (p := _ ∧ _) (by omega)]; simp_all; omega)
theorem refMayR_AC (x : Rf) : ACv Try.prog 89 [rA x] fun v => v = Rd.bool (mayR x) := by
  intro L S hL
  refine fn_St (n := 46) (rs := [.tmp 2]) hands_val RdT.ok RdT.mixed Try.func89 rfl (by kernel_rfl) rfl rfl rfl hL ?_
  intro hS
  have hl0 : 0 ≤ lenR x := by unfold lenR secs; split <;> omega
  have hl1 : x.size ≤ 256 → lenR x ≤ 8 := fun h => by unfold lenR secs; split <;> omega
  show awp _ _ _ _ _ (St L 46 [(0, .a (rA x))] S [])
  repeat' (first
      | (with_reducible refine want_none ?_)
      | (with_reducible refine c_seq ?_)
      | (with_reducible refine c_region ?_)
      | (with_reducible refine aops_nil ?_)
      | (with_reducible refine k_normal ?_)
      | (with_reducible refine c_skip ?_)
      | (with_reducible refine c_ret ?_)
      | (with_reducible refine k_ret ?_)
      | ((with_reducible apply want_run); exact rfl; exact rfl)
      | ((with_reducible apply want_skip); exact rfl; exact rfl; exact rfl)
      | ((with_reducible apply want_forkF); exact rfl; exact rfl; exact rfl; (first | exact Bp.not Bp.dec | exact Bp.dec | exact Bp.not Bp.bool | exact Bp.bool); all_goals intro hc)
      | (with_reducible refine q_nil ?_)
      | ((with_reducible apply q_one); exact rfl; exact rfl)
      | ((with_reducible apply q_callS); exact rfl; exact rfl; exact rfl)
      | ((with_reducible refine c_regionQ ?_ ?_); (decide +kernel))
      | ((with_reducible apply q_callR); exact rfl; exact rfl; exact rfl; (with_reducible apply acq); exact rfl; exact rfl; exact rfl; exact refLenR_AC x (by omega); exact rfl; (refine put_some rfl ?_))
      | ((with_reducible apply st_box); exact rfl; exact rfl; exact rfl; exact rfl)
      | ((with_reducible apply st_load); exact rfl; exact rfl; exact rfl; exact rfl; exact rfl)
      | ((with_reducible apply st_add); exact rfl; exact rfl; exact rfl; omega)
      | ((with_reducible apply st_q RdT.ok); exact rfl; exact rfl)
      | ((with_reducible apply c_condT); exact rfl)
      | ((with_reducible apply c_cond); exact rfl; (first | exact Bp.not Bp.dec | exact Bp.dec | exact Bp.not Bp.bool | exact Bp.bool); all_goals intro hc))
  all_goals
    ((with_reducible apply r_one); exact rfl; exact .tmp rfl .nil; exact .s (.pv _); exact hS; refine ⟨rfl, _, rfl, ?_⟩)
    refine congrArg Rd.bool ?_
    clear hS
    unfold mayR
    first
      | (rw [decide_eq_false (by omega)]; rfl)
      | (rw [decide_eq_true (p := _ ∧ _) (by omega)]; simp_all; done)
      | (rw [decide_eq_true (p := _ ∧ _) (by omega)]; simp_all; omega)
end Go.Proofs.Ytfdaioinghfjpaa
namespace Go.Rd
open Go.RowKit Go.Proofs Go.ChangeShapes Go.WideShapes
theorem arg_agg {H : Type} {enc : TypeId × Value → H} {P : Program} {w : World} {held : Bool} {t : TypeId} {k : Nat} {α : Type} {el : α → List PV} {wf : α → Prop} {v : Value} {d : DataW H} {ps : List MemPlace} {r : Reach} {b0 : Nat} (hs : (structOf P t).isSome = true) (hR : Reads P t k el wf)
    (hval : Value.okWide P w r b0 t v) (h : DataW.Trod enc P w 0 (fun _ => true) held t v d ps) :
    ∃ u : α, wf u ∧ RepA w (Gd w (fun _ _ => 0) fun _ _ => none) (fun _ _ => 0) (fun _ _ => none) (.agg ((el u).map .pv)) v := by
  obtain ⟨fs, ht⟩ : ∃ fs, P.underlying t = some (.struct fs) := by
    unfold structOf at hs
    split at hs
    · exact ⟨_, by assumption⟩
    · cases hs
  obtain ⟨cs, rfl, hsz⟩ := okWide_struct ht hval
  obtain ⟨fuel, hf⟩ := h
  obtain ⟨hc, hR⟩ := hR
  obtain ⟨u, h1, h2, h3⟩ := hR H enc w 0 held fuel _ _ hf
  refine ⟨u, h1, cs, rfl, by rw [List.length_map, h2, hsz, hc], fun j y hy => ?_⟩
  rw [List.getElem?_map] at hy
  cases hx : (el u)[j]? with
  | none => simp [hx] at hy
  | some x =>
    simp only [hx, Option.map_some, Option.some.injEq] at hy
    subst hy
    obtain ⟨z, hz, hr⟩ := h3 j x hx
    exact ⟨z, by simpa [Value.cells] using hz, hr⟩
end Go.Rd
namespace Go.Proofs.Ytfdaioinghfjpaa
open Go.Rd Go.RowKit Go.ChangeShapes Go.WideShapes
theorem readsR : Reads Try.prog 53 4 encR fun _ => True := by
  refine ⟨by kernel_rfl, fun H enc w base held n cs y h => ?_⟩
  have hs : structOf Try.prog 53 = some [(0, 3), (1, 3), (2, 3), (3, 4)] := by kernel_rfl
  obtain ⟨n0, h0, w0⟩ := field_int hs h (i := 0) rfl (k := .i64) (by kernel_rfl) (by kernel_rfl)
  obtain ⟨n1, h1, w1⟩ := field_int hs h (i := 1) rfl (k := .i64) (by kernel_rfl) (by kernel_rfl)
  obtain ⟨n2, h2, w2⟩ := field_int hs h (i := 2) rfl (k := .i64) (by kernel_rfl) (by kernel_rfl)
  obtain ⟨n3, h3⟩ := field_bool hs h (i := 3) rfl (by kernel_rfl) (by kernel_rfl)
  refine ⟨⟨n0, n1, n2, n3⟩, trivial, rfl, fun j x hj => ?_⟩
  match j, hj with
  | 0, hj => cases hj; exact ⟨_, h0, .lit _ rfl⟩
  | 1, hj => cases hj; exact ⟨_, h1, .lit _ rfl⟩
  | 2, hj => cases hj; exact ⟨_, h2, .lit _ rfl⟩
  | 3, hj => cases hj; exact ⟨_, h3, .lit _ rfl⟩
end Go.Proofs.Ytfdaioinghfjpaa
namespace Go.Proofs.Ytfdaioinghfjpaa
open Go.Rd Go.RowKit
set_option maxRecDepth 20000
set_option linter.unusedSimpArgs false
set_option linter.unusedVariables false
set_option maxHeartbeats 4000000
theorem cloneP_AC (t : Tb) (hl : (t.getD []).length * 32 ≤ 140737488355328) : ACv Try.prog 78 [uA t] fun v => v = .a (uA t) := by
  cases t with
  | none => exact clone_nil
  | some l =>
    intro L S hL
    refine fn_St (n := 8) (rs := [.tmp 2]) hands_val RdT.ok RdT.mixed Try.func78 rfl (by kernel_rfl) rfl rfl rfl (by omega) ?_
    intro hS
    simp only [Option.getD_some] at hl
    show awp _ _ _ _ _ (St L 8 [(0, .a (.s (.pv (.row 4 (l.map encU)))))] S [])
    repeat' (first
        | (with_reducible refine want_none ?_)
        | (with_reducible refine c_seq ?_)
        | (with_reducible refine c_region ?_)
        | (with_reducible refine aops_nil ?_)
        | (with_reducible refine k_normal ?_)
        | (with_reducible refine c_skip ?_)
        | (with_reducible refine c_ret ?_)
        | ((with_reducible apply st_buildslice); exact rfl; exact rfl; exact rfl; exact rfl; exact rfl; exact rfl; exact rfl; exact rfl)
        | ((with_reducible apply st_append1); exact rfl; exact rfl; exact rfl; exact rfl; exact rfl; exact .row rfl; exact List.nil_append _; (rw [List.length_map]; exact ⟨hl, by simp only [maxLen]; omega⟩); exact rfl; exact rfl; exact rfl; exact rfl; exact rfl; exact rfl; exact rfl)
        | ((with_reducible apply st_q RdT.ok); exact rfl; exact rfl)
        | ((with_reducible apply c_condF); exact rfl))
    (with_reducible apply r_one); exact rfl; exact .tmp rfl .nil; exact .s (.sl rfl rfl); exact hS; exact ⟨rfl, _, rfl, rfl⟩
theorem cloneC_row (l : List Tb) (hl : l.length * 24 ≤ 140737488355328) : ACo Try.prog 116 [cA (some l)] 22 1 fun es => es = l.map encC := by
  intro L S hL
  refine fn_St (n := 8) (rs := [.tmp 2]) hands_own RdT.ok RdT.mixed Try.func116 rfl (by kernel_rfl) rfl rfl rfl (by omega) ?_
  intro hS
  show awp _ _ _ _ _ (St L 8 [(0, .a (.s (.pv (.row 1 (l.map encC)))))] S [])
  repeat' (first
      | (with_reducible refine want_none ?_)
      | (with_reducible refine c_seq ?_)
      | (with_reducible refine c_region ?_)
      | (with_reducible refine aops_nil ?_)
      | (with_reducible refine k_normal ?_)
      | (with_reducible refine c_skip ?_)
      | (with_reducible refine c_ret ?_)
      | ((with_reducible apply st_buildslice); exact rfl; exact rfl; exact rfl; exact rfl; exact rfl; exact rfl; exact rfl; exact rfl)
      | ((with_reducible apply st_append1); exact rfl; exact rfl; exact rfl; exact rfl; exact rfl; exact .row rfl; exact List.nil_append _; (rw [List.length_map]; exact ⟨hl, by simp only [maxLen]; omega⟩); exact rfl; exact rfl; exact rfl; exact rfl; exact rfl; exact rfl; exact rfl)
      | ((with_reducible apply st_q RdT.ok); exact rfl; exact rfl)
      | ((with_reducible apply c_condF); exact rfl))
  (with_reducible apply r_own); exact rfl; exact .tmp rfl .nil; exact rfl; exact rfl; exact hS; exact ⟨rfl, _, rfl, rfl⟩
theorem copied_row (l : List Tb) (hl : l.length * 24 ≤ 140737488355328) (hls : ∀ t ∈ l, (t.getD []).length * 32 ≤ 140737488355328) : ACo Try.prog 84 [cA (some l)] 22 1 fun es => es = l.map encC := by
  intro L S hL
  refine fn_St (n := 22) (rs := [.tmp 2]) hands_own RdT.ok RdT.mixed Try.func84 rfl (by kernel_rfl) rfl rfl rfl (by omega) ?_
  intro hS
  show awp _ _ _ _ _ (St L 22 [(0, row 1 (l.map encC))] S [])
  repeat' (first
      | (with_reducible refine want_none ?_)
      | (with_reducible refine c_seq ?_)
      | (with_reducible refine c_region ?_)
      | (with_reducible refine c_block ?_)
      | (with_reducible refine aops_nil ?_)
      | (with_reducible refine k_normal ?_)
      | (with_reducible refine c_skip ?_)
      | (with_reducible refine c_exit ?_)
      | (with_reducible refine c_ret ?_)
      | (with_reducible refine k_exit ?_)
      | (with_reducible refine kr_exit ?_)
      | (with_reducible refine kb_normal ?_)
      | (with_reducible refine kb_hit ?_)
      | ((with_reducible apply st_callo); exact rfl; exact rfl; exact rfl; exact rfl; exact cloneC_row l hl; (rintro es rfl))
      | ((with_reducible apply st_lenown RdT.ok); exact rfl; exact rfl; exact rfl; intro hlen)
      | ((with_reducible apply st_add); exact rfl; exact rfl; exact rfl; omega)
      | ((with_reducible apply st_q RdT.ok); exact rfl; exact rfl)
      | ((with_reducible apply c_cond); exact rfl; (first | exact Bp.not Bp.dec | exact Bp.dec | exact Bp.not Bp.bool | exact Bp.bool); all_goals intro hc))
  refine c_loop (β := Nat) (fun k => k ≤ l.length) (fun k => l.length - k) (fun k => [(3, .a (.s (.sl L 7 0 (l.map encC).length))), (8, .a (.s (.sl L 7 0 (l.map encC).length))), (9, int (l.map encC).length), (10, int k)]) (fun _ => [(7, .row 22 1 (l.map encC))]) 0 (Nat.zero_le _) ⟨rfl, rfl, rfl, rfl, trivial⟩ ⟨rfl, trivial⟩ rfl rfl ?_
  intro k hk
  have hlm : (l.map encC).length = l.length := List.length_map _
  repeat' (first
      | (with_reducible refine want_none ?_)
      | (with_reducible refine c_seq ?_)
      | (with_reducible refine c_region ?_)
      | (with_reducible refine c_block ?_)
      | (with_reducible refine aops_nil ?_)
      | (with_reducible refine k_normal ?_)
      | (with_reducible refine c_skip ?_)
      | (with_reducible refine c_exit ?_)
      | (with_reducible refine c_ret ?_)
      | (with_reducible refine k_exit ?_)
      | (with_reducible refine kr_exit ?_)
      | (with_reducible refine kb_normal ?_)
      | (with_reducible refine kb_hit ?_)
      | ((with_reducible apply st_idxown); exact rfl; exact rfl; exact rfl; exact rfl; exact rfl; exact rfl; omega)
      | ((with_reducible apply st_loadpr); exact rfl; exact rfl; exact rfl; omega; exact rfl; (intro u hu; refine ⟨_, rfl, ?_⟩; simp only [Int.toNat_natCast] at hu))
      | ((with_reducible apply st_callv); exact rfl; exact rfl; exact rfl; exact rfl; exact cloneP_AC u (hls u (List.mem_of_getElem? hu)); (rintro v rfl))
      | ((with_reducible apply st_storeprU); exact rfl; exact rfl; exact rfl; exact rfl; exact rfl; exact rfl; omega; (intro b hb; refine ⟨u, _, rfl, rfl, rfl, ?_⟩))
      | ((with_reducible apply st_add); exact rfl; exact rfl; exact rfl; omega)
      | ((with_reducible apply st_q RdT.ok); exact rfl; exact rfl)
      | ((with_reducible apply c_cond); exact rfl; (first | exact Bp.not Bp.dec | exact Bp.dec | exact Bp.not Bp.bool | exact Bp.bool); all_goals intro hc))
  · have hset : l.set (k : Int).toNat u = l := by
      obtain ⟨h1, h2⟩ := List.getElem?_eq_some_iff.1 hu
      rw [Int.toNat_natCast]
      subst h2
      exact List.set_getElem_self h1
    rw [hset]
    ((with_reducible refine k_back (k + 1) ?_ ?_ ?_ ?_ ?_ ?_); rotate_left; rotate_left; exact (by repeat' (first
                                                                                                       | exact trivial
                                                                                                       | (refine And.intro rfl ?_))); exact (by repeat' (first
                                                                                                                                                                               | exact trivial
                                                                                                                                                                               | (refine And.intro rfl ?_))); exact rfl; exact rfl)
    · omega
    · omega
  · (with_reducible apply r_own); exact rfl; exact .tmp rfl .nil; exact rfl; exact rfl; exact hS; exact ⟨rfl, _, rfl, rfl⟩
end Go.Proofs.Ytfdaioinghfjpaa
namespace Go.Proofs.Ytfdaioinghfjpaa
open Go.Rd Go.RowKit
set_option maxRecDepth 20000
attribute [local go_sem] Oper.semAt_some
def runs1 (k m : Nat) : List Bool → List (Int × Int)
  | [] => if 0 < m then [((k : Int) - m, (m : Int))] else []
  | b :: r => if b = false then runs1 (k + 1) (m + 1) r else if 0 < m then ((k : Int) - m, (m : Int)) :: runs1 (k + 1) 0 r else runs1 (k + 1) 0 r
def pairA (p : Int × Int) : List AV := [.s (.pv (.lit (.int .i64 p.1))), .s (.pv (.lit (.int .i64 p.2)))]
def pairV (p : Int × Int) : List Value := [.int .i64 p.1, .int .i64 p.2]
set_option maxRecDepth 100000 in
set_option maxHeartbeats 2000000 in
theorem all1_in (w : World) (G : Nat → Prop) (B blk off cap : Nat) (bs : List Bool) (hmax : bs.length ≤ cap) (_hcap : cap ≤ maxLen) (hsz : bs.length < 9223372036854775807) (hGB : G B) (hGb : bs ≠ [] → G blk) (_hG : ∀ k, G k → k < w.heap.size)
    (hB : w.cell? ⟨B, 0, none⟩ = some (.slice (some ⟨blk, off, none⟩) bs.length cap)) (hcl : ∀ (i : Nat) (b : Bool), bs[i]? = some b → w.cell? ⟨blk, off + i, none⟩ = some (.bool b))
    (l : Nat) (J : Nat → World → Prop) (Jx : World → Prop) (W : World) (hW : ∀ b, G b → W.heap[b]? = w.heap[b]?)
    (hY : ∀ (k : Nat) (y : List Value) (W1 : World), ((runs1 0 0 bs).map pairV)[k]? = some y → J k W1 → YieldAt Fence.wide 1 Try.prog l y.toArray W1 fun e W' =>
      (e = .returned (.bool true) ∧ J (k + 1) W' ∧ ∀ b, G b → W'.heap[b]? = W1.heap[b]?) ∨ (e = .returned (.bool false) ∧ Jx W')) (h0 : J 0 W) :
    CallsIn Fence.wide 2 Try.prog 134 #[.func (.yield l) #[] #[], .pointer (some ⟨B, 0, none⟩)] W fun e W' => (∃ v, e = .returned v) ∧ (J (runs1 0 0 bs).length W' ∨ Jx W') := by
  refine callsIn_of_wp Try.func134 rfl trivial ?_ rfl
  simp only [Try.ntmps134, List.size_toArray, List.length_cons, List.length_nil, Nat.reduceAdd, Nat.reduceSub, Array.replicate_succ, Array.replicate_zero, List.push_toArray, List.append_toArray, List.nil_append, List.cons_append]
  have hB1 : W.cell? ⟨B, 0, none⟩ = some (.slice (some ⟨blk, off, none⟩) bs.length cap) := (World.cell?_of_block (hW B hGB)).trans hB
  have HY := Lib.hid hY; clear hY
  have HW := Lib.hid hW; clear hW
  have HC := Lib.hid hcl; clear hcl
  have HB := Lib.hid hB; clear hB
  gi_wp2
  gi_loopw [3, 8] (fun n i wr => ∃ (k m : Nat) (done : List (Int × Int)), i = .int .i64 k ∧ n = .int .i64 m ∧ m ≤ k ∧ k ≤ bs.length + 1 ∧
      ((k ≤ bs.length ∧ runs1 0 0 bs = done ++ runs1 k m (bs.drop k)) ∨ (k = bs.length + 1 ∧ runs1 0 0 bs = done)) ∧ J done.length wr ∧ ∀ b, G b → wr.heap[b]? = w.heap[b]?)
    (fun _ i _ => bs.length + 1 - (intOf i).toNat)
  case atStart => exact ⟨0, 0, [], rfl, rfl, Nat.le_refl _, Nat.zero_le _, .inl ⟨Nat.zero_le _, rfl⟩, h0, HW.out⟩
  case round =>
    obtain ⟨k, m, dn, rfl, rfl, hmk, hk1, hcase, hJs, hfr⟩ := hrel
    have hBr : wr.cell? ⟨B, 0, none⟩ = some (.slice (some ⟨blk, off, none⟩) bs.length cap) := (World.cell?_of_block (hfr B hGB)).trans HB.out
    have hcr : ∀ (b : Bool), bs[k]? = some b → wr.cell? ⟨blk, off + k, none⟩ = some (.bool b) := fun b hb => by
      have hne : bs ≠ [] := by rintro rfl; simp at hb
      exact (World.cell?_of_block (hfr blk (hGb hne))).trans (HC.out k b hb)
    have HF := Lib.hid hfr; clear hfr
    -- what is owed where a round goes on, and where one says 'no more'
    by_cases hlt : k < bs.length
    · obtain ⟨b, hb⟩ : ∃ b, bs[k]? = some b := ⟨bs[k], List.getElem?_eq_getElem hlt⟩
      have hcell := hcr b hb
      clear hcr
      have hdr : bs.drop k = b :: bs.drop (k + 1) := drop_cons hb
      have Hcase := Lib.hid hcase; clear hcase
      have Hb := Lib.hid hb; clear hb
      have Hdr := Lib.hid hdr; clear hdr
      cases b with
      | false =>
        gi_wp2
        go_roundw
        case rel =>
          refine ⟨k + 1, m + 1, dn, by go_num, by go_num, by omega, by omega, .inl ⟨by omega, ?_⟩, hJs, HF.out⟩
          rcases Hcase.out with ⟨_, h⟩ | ⟨h, _⟩
          · rw [h, Hdr.out, runs1, if_pos rfl]
          · omega
        case measure => simp [intOf]; omega
      | true =>
        by_cases hm0 : 0 < m
        · have hlook : ((runs1 0 0 bs).map pairV)[dn.length]? = some (pairV ((k : Int) - m, (m : Int))) ∧ runs1 0 0 bs = (dn ++ [((k : Int) - m, (m : Int))]) ++ runs1 (k + 1) 0 (bs.drop (k + 1)) := by
            rcases Hcase.out with ⟨_, h⟩ | ⟨h, _⟩
            · rw [h, Hdr.out, runs1, if_neg (by decide), if_pos hm0]
              simp
            · omega
          obtain ⟨hl1, hl2⟩ := hlook
          obtain ⟨fn, tmps, assign, body, hy, hR⟩ := HY.out _ _ wr hl1 hJs
          have Hl1 := Lib.hid hl1; clear hl1
          have Hl2 := Lib.hid hl2; clear hl2
          dsimp only [pairV] at hy
          gi_wp2
          refine hR.mono ?_
          rintro e W3 (⟨rfl, hJ3, hk3⟩ | ⟨rfl, hJx3⟩)
          · have Hk3 := Lib.hid hk3; clear hk3
            gi_wp2
            go_roundw
            case rel =>
              refine ⟨k + 1, 0, dn ++ [((k : Int) - m, (m : Int))], by go_num, by go_num, by omega, by omega, .inl ⟨by omega, Hl2.out⟩, ?_, fun b hb => (Hk3.out b hb).trans (HF.out b hb)⟩
              rw [List.length_append]; exact hJ3
            case measure => simp [intOf]; omega
          · gi_wp2
            refine bodyPost_ret (results_none rfl _ _ _) rfl ?_
            exact ⟨⟨_, rfl⟩, .inr hJx3⟩
        · obtain rfl : m = 0 := by omega
          gi_wp2
          refine ⟨fun _ h => (by cases h), ?_⟩
          gi_wp2
          go_roundw
          case rel =>
            refine ⟨k + 1, 0, dn, by go_num, by go_num, by omega, by omega, .inl ⟨by omega, ?_⟩, hJs, HF.out⟩
            rcases Hcase.out with ⟨_, h⟩ | ⟨h, _⟩
            · rw [h, Hdr.out, runs1, if_neg (by decide), if_neg (by omega)]
            · omega
          case measure => simp [intOf]; omega
    · clear hcr
      rcases hcase with ⟨h1, h2⟩ | ⟨rfl, h2⟩
      · obtain rfl : k = bs.length := by omega
        rw [List.drop_length] at h2
        by_cases hm0 : 0 < m
        · have hlook : ((runs1 0 0 bs).map pairV)[dn.length]? = some (pairV ((bs.length : Int) - m, (m : Int))) ∧ runs1 0 0 bs = dn ++ [((bs.length : Int) - m, (m : Int))] := by
            rw [h2, runs1, if_pos hm0]
            simp
          clear h2
          obtain ⟨hl1, hl2⟩ := hlook
          obtain ⟨fn, tmps, assign, body, hy, hR⟩ := HY.out _ _ wr hl1 hJs
          have Hl1 := Lib.hid hl1; clear hl1
          have Hl2 := Lib.hid hl2; clear hl2
          dsimp only [pairV] at hy
          gi_wp2
          refine hR.mono ?_
          rintro e W3 (⟨rfl, hJ3, hk3⟩ | ⟨rfl, hJx3⟩)
          · have Hk3 := Lib.hid hk3; clear hk3
            gi_wp2
            go_roundw
            case rel =>
              refine ⟨bs.length + 1, 0, dn ++ [((bs.length : Int) - m, (m : Int))], by go_num, by go_num, by omega, by omega, .inr ⟨rfl, Hl2.out⟩, ?_, fun b hb => (Hk3.out b hb).trans (HF.out b hb)⟩
              rw [List.length_append]; exact hJ3
            case measure => simp [intOf]
          · gi_wp2
            refine bodyPost_ret (results_none rfl _ _ _) rfl ?_
            exact ⟨⟨_, rfl⟩, .inr hJx3⟩
        · obtain rfl : m = 0 := by omega
          have H2 := Lib.hid h2; clear h2
          gi_wp2
          refine ⟨fun _ h => (by cases h), ?_⟩
          gi_wp2
          go_roundw
          case rel =>
            refine ⟨bs.length + 1, 0, dn, by go_num, by go_num, by omega, by omega, .inr ⟨rfl, ?_⟩, hJs, HF.out⟩
            rw [H2.out, runs1, if_neg (by omega), List.append_nil]
          case measure => simp [intOf]
      · have H2 := Lib.hid h2; clear h2
        gi_wp2
        go_end0
        exact ⟨⟨_, rfl⟩, .inl (by rw [H2.out]; exact hJs)⟩
theorem all1_iter (bs : List Bool) (hsz : bs.length < 9223372036854775807) (hne : bs ≠ []) : Iter Try.prog 134 [[.row 1 (bs.map encB)]] ((runs1 0 0 bs).map pairA) := by
  refine ⟨enters_of Try.func134 (by kernel_rfl) rfl, fun w G vs hG hrep => ?_⟩
  cases hrep with
  | clo _ _ _ blk u hvl hv hc hr =>
  obtain ⟨v0, rfl⟩ := List.length_eq_one_iff.1 hvl
  obtain ⟨h1, h2⟩ := hv 0 _ rfl
  simp only [List.getElem?_cons_zero, Option.some.injEq] at h1
  subst h1
  have hc0 := hc 0 0 _ _ rfl rfl
  have hr0 := hr 0 0 _ _ rfl rfl
  obtain ⟨b1, off, sp, cap, hval, hsp, q1, q2, q3⟩ := RepP.row_inv hr0
  obtain rfl : sp = none := hsp.resolve_right (by have := List.length_pos_iff.2 hne; rw [List.length_map] at q1; omega)
  rw [hval] at hc0
  rw [List.length_map] at hc0 q1
  refine ⟨(runs1 0 0 bs).map pairV, by simp, fun k x y hx hy => ?_, fun l J Jx W hW _ _ hY h0 => ?_⟩
  · rw [List.getElem?_map] at hx hy
    cases hp : (runs1 0 0 bs)[k]? with
    | none => simp [hp] at hx
    | some p =>
      simp only [hp, Option.map_some, Option.some.injEq] at hx hy
      subst hx; subst hy
      refine ⟨rfl, fun j u v hu hv => ?_⟩
      match j, hu, hv with
      | 0, hu, hv => cases hu; cases hv; exact .lit _ rfl
      | 1, hu, hv => cases hu; cases hv; exact .lit _ rfl
  · have := all1_in w G (blk 0) b1 off cap bs q1 q2 hsz h2 (fun hne => q3.good (by simpa using hne)) hG hc0 (fun i b hb => ?_) l J Jx W (fun b hb => hW.block b (hG b hb)) hY h0
    · rw [List.length_map]
      exact callsIn_wide.1 this
    · obtain ⟨u, hu, hru⟩ := q3.cell i 0 [.lit (.bool b)] (.lit (.bool b)) (by rw [List.getElem?_map, hb]; rfl) rfl
      obtain ⟨rfl, _⟩ := RepP.lit_inv hru
      simpa using hu
theorem all_AC (bs : List Bool) : ACv Try.prog 108 [bA (some bs)] fun v => v = .a (.s (.pv (.clo 134 [[.row 1 (bs.map encB)]]))) := by
  intro L S hL
  refine fn_St (n := 4) (rs := [.tmp 2]) hands_val RdT.ok RdT.mixed Try.func108 rfl (by kernel_rfl) rfl rfl rfl (by omega) ?_
  intro hS
  show awp _ _ _ _ _ (St L 4 [(0, row 1 (bs.map encB))] S [])
  repeat' (first
      | (with_reducible refine want_none ?_)
      | (with_reducible refine c_seq ?_)
      | (with_reducible refine c_region ?_)
      | (with_reducible refine aops_nil ?_)
      | (with_reducible refine k_normal ?_)
      | (with_reducible refine c_ret ?_)
      | ((with_reducible apply st_box); exact rfl; exact rfl; exact rfl; exact rfl)
      | ((with_reducible apply st_q RdT.ok); exact rfl; exact rfl))
  (with_reducible apply r_one); exact rfl; exact .tmp rfl .nil; exact .s (.cloB 1 [] rfl rfl); exact hS; exact ⟨rfl, _, rfl, rfl⟩
end Go.Proofs.Ytfdaioinghfjpaa
namespace Go.Proofs.Ytfdaioinghfjpaa
open Go.Rd Go.RowKit
set_option maxRecDepth 20000
def firstOf (n : Int) : List (Int × Int) → Int
  | [] => -1
  | p :: r => if 1 ≤ n ∧ n ≤ p.2 then p.1 else firstOf n r
theorem pairA_get {xs : List (Int × Int)} {k : Nat} {x : List AV} (h : (xs.map pairA)[k]? = some x) : ∃ p, xs[k]? = some p ∧ x = pairA p := by
  rw [List.getElem?_map] at h
  cases hp : xs[k]? with
  | none => simp [hp] at h
  | some p => simp only [hp, Option.map_some, Option.some.injEq] at h; exact ⟨p, rfl, h.symm⟩
theorem pairA_len {xs : List (Int × Int)} : ∀ x ∈ xs.map pairA, x.length = 2 := by
  intro x hx
  obtain ⟨p, _, rfl⟩ := List.mem_map.1 hx
  rfl
theorem first_AC (bs : List Bool) (n : Int) (hsz : bs.length < 9223372036854775807) (hne : bs ≠ []) : ACv Try.prog 74 [bA (some bs), .s (.pv (.lit (.int .i64 n)))] fun v => v = Rd.int (firstOf n (runs1 0 0 bs)) := by
  intro L S hL
  refine fn_St (n := 19) (rs := [.cell 4 3]) hands_val RdT.ok RdT.mixed Try.func74 rfl (by kernel_rfl) rfl rfl rfl (by omega) ?_
  intro hS
  show awp _ _ _ _ _ (St L 19 [(0, row 1 (bs.map encB)), (1, int n)] S [])
  repeat' (first
      | (with_reducible refine want_none ?_)
      | (with_reducible refine c_seq ?_)
      | (with_reducible refine c_region ?_)
      | (with_reducible refine c_block ?_)
      | (with_reducible refine aops_nil ?_)
      | (with_reducible refine k_normal ?_)
      | (with_reducible refine c_skip ?_)
      | (with_reducible refine c_ret ?_)
      | (with_reducible refine k_ret ?_)
      | (with_reducible refine kb_normal ?_)
      | (with_reducible refine kb_ret ?_)
      | ((with_reducible apply want_run); exact rfl; exact rfl)
      | ((with_reducible apply want_skip); exact rfl; exact rfl; exact rfl)
      | ((with_reducible apply want_forkT); exact rfl; exact rfl; exact rfl; (first | exact Bp.not Bp.dec | exact Bp.dec | exact Bp.not Bp.bool | exact Bp.bool); all_goals intro hc)
      | ((with_reducible apply st_callv); exact rfl; exact rfl; exact rfl; exact rfl; exact all_AC bs; (rintro v rfl))
      | ((with_reducible apply st_alloc); exact rfl; exact rfl; exact rfl; exact rfl)
      | ((with_reducible apply st_box); exact rfl; exact rfl; exact rfl; exact rfl)
      | ((with_reducible apply st_load); exact rfl; exact rfl; exact rfl; exact rfl; exact rfl)
      | ((with_reducible apply st_store); exact rfl; exact rfl; exact rfl; exact rfl; exact rfl; exact rfl)
      | ((with_reducible apply st_q RdT.ok); exact rfl; exact rfl)
      | ((with_reducible apply c_condF); exact rfl)
      | ((with_reducible apply c_cond); exact rfl; (first | exact Bp.not Bp.dec | exact Bp.dec | exact Bp.not Bp.bool | exact Bp.bool); all_goals intro hc))
  refine c_range (β := Unit) (fun k _ => firstOf n (runs1 0 0 bs) = firstOf n ((runs1 0 0 bs).drop k)) [(3, .a (.s (.pb L 3 0))), (4, .a (.s (.pb L 4 0)))] (fun _ => [(3, .box 3 [.pv (.lit (.int .i64 n))]), (4, .box 3 [.pv (.lit (.int .i64 0))])]) () rfl (all1_iter bs hsz hne) rfl rfl rfl pairA_len rfl ⟨rfl, rfl, trivial⟩ ⟨rfl, rfl, trivial⟩ rfl rfl ?_ ?_
  · intro k x _ hx hI
    obtain ⟨p, hp, rfl⟩ := pairA_get hx
    show awp _ _ _ _ _ (St L 19 [(6, int p.2), (5, int p.1), (10, int p.2), (9, int p.1), (3, .a (.s (.pb L 3 0))), (4, .a (.s (.pb L 4 0)))] S [(3, .box 3 [.pv (.lit (.int .i64 n))]), (4, .box 3 [.pv (.lit (.int .i64 0))])])
    repeat' (first
        | (with_reducible refine want_none ?_)
        | (with_reducible refine c_seq ?_)
        | (with_reducible refine c_region ?_)
        | (with_reducible refine c_block ?_)
        | (with_reducible refine aops_nil ?_)
        | (with_reducible refine k_normal ?_)
        | (with_reducible refine c_skip ?_)
        | (with_reducible refine c_ret ?_)
        | (with_reducible refine k_ret ?_)
        | (with_reducible refine kb_normal ?_)
        | (with_reducible refine kb_ret ?_)
        | ((with_reducible apply want_run); exact rfl; exact rfl)
        | ((with_reducible apply want_skip); exact rfl; exact rfl; exact rfl)
        | ((with_reducible apply want_forkT); exact rfl; exact rfl; exact rfl; (first | exact Bp.not Bp.dec | exact Bp.dec | exact Bp.not Bp.bool | exact Bp.bool); all_goals intro hc)
        | ((with_reducible apply st_alloc); exact rfl; exact rfl; exact rfl; exact rfl)
        | ((with_reducible apply st_box); exact rfl; exact rfl; exact rfl; exact rfl)
        | ((with_reducible apply st_load); exact rfl; exact rfl; exact rfl; exact rfl; exact rfl)
        | ((with_reducible apply st_store); exact rfl; exact rfl; exact rfl; exact rfl; exact rfl; exact rfl)
        | ((with_reducible apply st_q RdT.ok); exact rfl; exact rfl)
        | ((with_reducible apply c_condF); exact rfl)
        | ((with_reducible apply c_cond); exact rfl; (first | exact Bp.not Bp.dec | exact Bp.dec | exact Bp.not Bp.bool | exact Bp.bool); all_goals intro hc))
    · ((with_reducible refine kF_ret [(3, .box 3 [.pv (.lit (.int .i64 n))]), (4, .box 3 [.pv (.lit (.int .i64 p.1))])] ?_ ?_ ?_ ?_ ?_ ?_); exact rfl; exact (by repeat' (first
                                                                                                                                                                     | exact trivial
                                                                                                                                                                     | (refine And.intro rfl ?_))); exact (by repeat' (first
                                                                                                                                                                                                                                             | exact trivial
                                                                                                                                                                                                                                             | (refine And.intro rfl ?_))); exact rfl; exact rfl)
      repeat' (first
          | (with_reducible refine want_none ?_)
          | (with_reducible refine c_seq ?_)
          | (with_reducible refine c_region ?_)
          | (with_reducible refine c_block ?_)
          | (with_reducible refine aops_nil ?_)
          | (with_reducible refine k_normal ?_)
          | (with_reducible refine c_skip ?_)
          | (with_reducible refine c_ret ?_)
          | (with_reducible refine k_ret ?_)
          | (with_reducible refine kb_normal ?_)
          | (with_reducible refine kb_ret ?_)
          | ((with_reducible apply want_run); exact rfl; exact rfl)
          | ((with_reducible apply want_skip); exact rfl; exact rfl; exact rfl)
          | ((with_reducible apply want_forkT); exact rfl; exact rfl; exact rfl; (first | exact Bp.not Bp.dec | exact Bp.dec | exact Bp.not Bp.bool | exact Bp.bool); all_goals intro hc)
          | ((with_reducible apply st_alloc); exact rfl; exact rfl; exact rfl; exact rfl)
          | ((with_reducible apply st_box); exact rfl; exact rfl; exact rfl; exact rfl)
          | ((with_reducible apply st_load); exact rfl; exact rfl; exact rfl; exact rfl; exact rfl)
          | ((with_reducible apply st_store); exact rfl; exact rfl; exact rfl; exact rfl; exact rfl; exact rfl)
          | ((with_reducible apply st_q RdT.ok); exact rfl; exact rfl)
          | ((with_reducible apply c_condF); exact rfl)
          | ((with_reducible apply c_cond); exact rfl; (first | exact Bp.not Bp.dec | exact Bp.dec | exact Bp.not Bp.bool | exact Bp.bool); all_goals intro hc))
      (with_reducible apply r_one); exact rfl; exact .cell rfl rfl rfl rfl .nil; exact .s (.pv _); exact hS; refine ⟨rfl, _, rfl, ?_⟩
      rw [hI, drop_cons hp, firstOf, if_pos ⟨by assumption, by assumption⟩]
    all_goals
      ((with_reducible refine kF_next () ?_ ?_ ?_ ?_ ?_ ?_); rotate_left; exact rfl; exact (by repeat' (first
                                                                                                   | exact trivial
                                                                                                   | (refine And.intro rfl ?_))); exact (by repeat' (first
                                                                                                                                                                           | exact trivial
                                                                                                                                                                           | (refine And.intro rfl ?_))); exact rfl; exact rfl)
      rw [hI, drop_cons hp, firstOf, if_neg (by omega)]
  · intro _ hI
    rw [List.length_map, List.drop_length] at hI
    repeat' (first
        | (with_reducible refine want_none ?_)
        | (with_reducible refine c_seq ?_)
        | (with_reducible refine c_region ?_)
        | (with_reducible refine c_block ?_)
        | (with_reducible refine aops_nil ?_)
        | (with_reducible refine k_normal ?_)
        | (with_reducible refine c_skip ?_)
        | (with_reducible refine c_ret ?_)
        | (with_reducible refine k_ret ?_)
        | (with_reducible refine kb_normal ?_)
        | (with_reducible refine kb_ret ?_)
        | ((with_reducible apply want_run); exact rfl; exact rfl)
        | ((with_reducible apply want_skip); exact rfl; exact rfl; exact rfl)
        | ((with_reducible apply want_forkT); exact rfl; exact rfl; exact rfl; (first | exact Bp.not Bp.dec | exact Bp.dec | exact Bp.not Bp.bool | exact Bp.bool); all_goals intro hc)
        | ((with_reducible apply st_alloc); exact rfl; exact rfl; exact rfl; exact rfl)
        | ((with_reducible apply st_box); exact rfl; exact rfl; exact rfl; exact rfl)
        | ((with_reducible apply st_load); exact rfl; exact rfl; exact rfl; exact rfl; exact rfl)
        | ((with_reducible apply st_store); exact rfl; exact rfl; exact rfl; exact rfl; exact rfl; exact rfl)
        | ((with_reducible apply st_q RdT.ok); exact rfl; exact rfl)
        | ((with_reducible apply c_condF); exact rfl)
        | ((with_reducible apply c_cond); exact rfl; (first | exact Bp.not Bp.dec | exact Bp.dec | exact Bp.not Bp.bool | exact Bp.bool); all_goals intro hc))
    (with_reducible apply r_one); exact rfl; exact .cell rfl rfl rfl rfl .nil; exact .s (.pv _); exact hS; refine ⟨rfl, _, rfl, ?_⟩
    rw [hI]; rfl
def longF (m : Int) : List (Int × Int) → Int
  | [] => m
  | p :: r => longF (if p.2 > m then p.2 else m) r
theorem longest_AC (bs : List Bool) (hsz : bs.length < 9223372036854775807) (hne : bs ≠ []) : ACv Try.prog 92 [bA (some bs)] fun v => v = Rd.int (longF 0 (runs1 0 0 bs)) := by
  intro L S hL
  refine fn_St (n := 14) (rs := [.tmp 2]) hands_val RdT.ok RdT.mixed Try.func92 rfl (by kernel_rfl) rfl rfl rfl (by omega) ?_
  intro hS
  show awp _ _ _ _ _ (St L 14 [(0, row 1 (bs.map encB))] S [])
  repeat' (first
      | (with_reducible refine want_none ?_)
      | (with_reducible refine c_seq ?_)
      | (with_reducible refine c_region ?_)
      | (with_reducible refine c_block ?_)
      | (with_reducible refine aops_nil ?_)
      | (with_reducible refine k_normal ?_)
      | (with_reducible refine c_ret ?_)
      | (with_reducible refine kb_normal ?_)
      | ((with_reducible apply st_callv); exact rfl; exact rfl; exact rfl; exact rfl; exact all_AC bs; (rintro v rfl))
      | ((with_reducible apply st_alloc); exact rfl; exact rfl; exact rfl; exact rfl)
      | ((with_reducible apply st_load); exact rfl; exact rfl; exact rfl; exact rfl; exact rfl)
      | ((with_reducible apply st_store); exact rfl; exact rfl; exact rfl; exact rfl; exact rfl; exact rfl)
      | ((with_reducible apply st_q RdT.ok); exact rfl; exact rfl))
  refine c_range (β := Int) (fun k m => longF 0 (runs1 0 0 bs) = longF m ((runs1 0 0 bs).drop k)) [(3, .a (.s (.pb L 3 0)))] (fun m => [(3, .box 3 [.pv (.lit (.int .i64 m))])]) 0 rfl (all1_iter bs hsz hne) rfl rfl rfl pairA_len rfl ⟨rfl, trivial⟩ ⟨rfl, trivial⟩ rfl rfl ?_ ?_
  · intro k x m hx hI
    obtain ⟨p, hp, rfl⟩ := pairA_get hx
    show awp _ _ _ _ _ (St L 14 [(5, int p.2), (9, int p.2), (8, int p.1), (3, .a (.s (.pb L 3 0)))] S [(3, .box 3 [.pv (.lit (.int .i64 m))])])
    repeat' (first
        | (with_reducible refine want_none ?_)
        | (with_reducible refine c_seq ?_)
        | (with_reducible refine c_region ?_)
        | (with_reducible refine c_block ?_)
        | (with_reducible refine aops_nil ?_)
        | (with_reducible refine k_normal ?_)
        | (with_reducible refine c_ret ?_)
        | (with_reducible refine kb_normal ?_)
        | ((with_reducible apply st_max); exact rfl; exact rfl; exact rfl)
        | ((with_reducible apply st_alloc); exact rfl; exact rfl; exact rfl; exact rfl)
        | ((with_reducible apply st_load); exact rfl; exact rfl; exact rfl; exact rfl; exact rfl)
        | ((with_reducible apply st_store); exact rfl; exact rfl; exact rfl; exact rfl; exact rfl; exact rfl)
        | ((with_reducible apply st_q RdT.ok); exact rfl; exact rfl))
    ((with_reducible refine kF_next (if p.2 > m then p.2 else m) ?_ ?_ ?_ ?_ ?_ ?_); rotate_left; exact rfl; exact (by repeat' (first
                                                                                                                           | exact trivial
                                                                                                                           | (refine And.intro rfl ?_))); exact (by repeat' (first
                                                                                                                                                                                                   | exact trivial
                                                                                                                                                                                                   | (refine And.intro rfl ?_))); exact rfl; exact rfl)
    rw [hI, drop_cons hp, longF]
  · intro m hI
    rw [List.length_map, List.drop_length] at hI
    repeat' (first
        | (with_reducible refine want_none ?_)
        | (with_reducible refine c_seq ?_)
        | (with_reducible refine c_region ?_)
        | (with_reducible refine c_block ?_)
        | (with_reducible refine aops_nil ?_)
        | (with_reducible refine k_normal ?_)
        | (with_reducible refine c_ret ?_)
        | (with_reducible refine kb_normal ?_)
        | ((with_reducible apply st_alloc); exact rfl; exact rfl; exact rfl; exact rfl)
        | ((with_reducible apply st_load); exact rfl; exact rfl; exact rfl; exact rfl; exact rfl)
        | ((with_reducible apply st_store); exact rfl; exact rfl; exact rfl; exact rfl; exact rfl; exact rfl)
        | ((with_reducible apply st_q RdT.ok); exact rfl; exact rfl))
    ((with_reducible apply r_one); exact rfl; exact .tmp rfl .nil; exact .s (.pv _); exact hS; refine ⟨rfl, _, rfl, ?_⟩)
    rw [hI]; rfl
def sumF : List (Int × Int) → Int
  | [] => 0
  | p :: r => p.2 + sumF r
theorem sumF_runs : ∀ (bs : List Bool) (k m : Nat), sumF (runs1 k m bs) = m + free bs
  | [], k, m => by
    unfold runs1
    split
    · simp [sumF, free]
    · have : m = 0 := by omega
      subst this
      simp [sumF, free]
  | b :: r, k, m => by
    unfold runs1
    cases b with
    | false =>
      rw [if_pos rfl, sumF_runs r, free, if_neg (by decide)]
      simp
      omega
    | true =>
      rw [if_neg (by decide), free, if_pos rfl]
      split
      · rw [sumF, sumF_runs r]; simp
      · have : m = 0 := by omega
        subst this
        rw [sumF_runs r]
        simp
theorem runs_pos : ∀ (bs : List Bool) (k m : Nat) (p : Int × Int), p ∈ runs1 k m bs → 0 < p.2
  | [], k, m, p, h => by
    unfold runs1 at h
    split at h
    · simp at h; subst h; simp; omega
    · cases h
  | b :: r, k, m, p, h => by
    unfold runs1 at h
    split at h
    · exact runs_pos r _ _ p h
    · split at h
      · rcases List.mem_cons.1 h with rfl | h
        · simp; omega
        · exact runs_pos r _ _ p h
      · exact runs_pos r _ _ p h
theorem sumF_nonneg : ∀ (l : List (Int × Int)), (∀ p ∈ l, 0 < p.2) → 0 ≤ sumF l
  | [], _ => Int.le_refl _
  | p :: r, h => by
    have h1 := h p (by simp)
    have h2 := sumF_nonneg r fun q hq => h q (by simp [hq])
    rw [sumF]
    omega
theorem sumF_le (bs : List Bool) : sumF (runs1 0 0 bs) ≤ bs.length := by
  rw [sumF_runs]
  have := free_le bs
  omega
theorem runsFree_AC (bs : List Bool) (hsz : bs.length < 9223372036854775807) (hne : bs ≠ []) : ACv Try.prog 85 [bA (some bs)] fun v => v = Rd.int (free bs) := by
  intro L S hL
  refine fn_St (n := 14) (rs := [.tmp 2]) hands_val RdT.ok RdT.mixed Try.func85 rfl (by kernel_rfl) rfl rfl rfl (by omega) ?_
  intro hS
  have hfree : sumF (runs1 0 0 bs) = free bs := by rw [sumF_runs]; simp
  have hle := sumF_le bs
  show awp _ _ _ _ _ (St L 14 [(0, row 1 (bs.map encB))] S [])
  repeat' (first
      | (with_reducible refine want_none ?_)
      | (with_reducible refine c_seq ?_)
      | (with_reducible refine c_region ?_)
      | (with_reducible refine c_block ?_)
      | (with_reducible refine aops_nil ?_)
      | (with_reducible refine k_normal ?_)
      | (with_reducible refine c_ret ?_)
      | (with_reducible refine kb_normal ?_)
      | ((with_reducible apply st_callv); exact rfl; exact rfl; exact rfl; exact rfl; exact all_AC bs; (rintro v rfl))
      | ((with_reducible apply st_alloc); exact rfl; exact rfl; exact rfl; exact rfl)
      | ((with_reducible apply st_load); exact rfl; exact rfl; exact rfl; exact rfl; exact rfl)
      | ((with_reducible apply st_store); exact rfl; exact rfl; exact rfl; exact rfl; exact rfl; exact rfl)
      | ((with_reducible apply st_add); exact rfl; exact rfl; exact rfl; omega)
      | ((with_reducible apply st_q RdT.ok); exact rfl; exact rfl))
  refine c_range (β := Int) (fun k m => 0 ≤ m ∧ sumF (runs1 0 0 bs) = m + sumF ((runs1 0 0 bs).drop k)) [(3, .a (.s (.pb L 3 0)))] (fun m => [(3, .box 3 [.pv (.lit (.int .i64 m))])]) 0 rfl (all1_iter bs hsz hne) rfl rfl rfl pairA_len ⟨Int.le_refl _, by rw [Int.zero_add]; rfl⟩ ⟨rfl, trivial⟩ ⟨rfl, trivial⟩ rfl rfl ?_ ?_
  · rintro k x m hx ⟨h0, hI⟩
    obtain ⟨p, hp, rfl⟩ := pairA_get hx
    have hpos : ∀ q ∈ (runs1 0 0 bs).drop k, 0 < q.2 := fun q hq => runs_pos bs 0 0 q (List.mem_of_mem_drop hq)
    rw [drop_cons hp] at hpos hI
    have hp2 := hpos p (by simp)
    have hr := sumF_nonneg ((runs1 0 0 bs).drop (k + 1)) fun q hq => hpos q (by simp [hq])
    rw [sumF] at hI
    show awp _ _ _ _ _ (St L 14 [(5, int p.2), (9, int p.2), (8, int p.1), (3, .a (.s (.pb L 3 0)))] S [(3, .box 3 [.pv (.lit (.int .i64 m))])])
    repeat' (first
        | (with_reducible refine want_none ?_)
        | (with_reducible refine c_seq ?_)
        | (with_reducible refine c_region ?_)
        | (with_reducible refine c_block ?_)
        | (with_reducible refine aops_nil ?_)
        | (with_reducible refine k_normal ?_)
        | (with_reducible refine c_ret ?_)
        | (with_reducible refine kb_normal ?_)
        | ((with_reducible apply st_alloc); exact rfl; exact rfl; exact rfl; exact rfl)
        | ((with_reducible apply st_load); exact rfl; exact rfl; exact rfl; exact rfl; exact rfl)
        | ((with_reducible apply st_store); exact rfl; exact rfl; exact rfl; exact rfl; exact rfl; exact rfl)
        | ((with_reducible apply st_add); exact rfl; exact rfl; exact rfl; omega)
        | ((with_reducible apply st_q RdT.ok); exact rfl; exact rfl))
    ((with_reducible refine kF_next (m + p.2) ?_ ?_ ?_ ?_ ?_ ?_); rotate_left; exact rfl; exact (by repeat' (first
                                                                                                        | exact trivial
                                                                                                        | (refine And.intro rfl ?_))); exact (by repeat' (first
                                                                                                                                                                                | exact trivial
                                                                                                                                                                                | (refine And.intro rfl ?_))); exact rfl; exact rfl)
    exact ⟨by omega, by rw [hI]; omega⟩
  · rintro m ⟨h0, hI⟩
    rw [List.length_map, List.drop_length] at hI
    repeat' (first
        | (with_reducible refine want_none ?_)
        | (with_reducible refine c_seq ?_)
        | (with_reducible refine c_region ?_)
        | (with_reducible refine c_block ?_)
        | (with_reducible refine aops_nil ?_)
        | (with_reducible refine k_normal ?_)
        | (with_reducible refine c_ret ?_)
        | (with_reducible refine kb_normal ?_)
        | ((with_reducible apply st_alloc); exact rfl; exact rfl; exact rfl; exact rfl)
        | ((with_reducible apply st_load); exact rfl; exact rfl; exact rfl; exact rfl; exact rfl)
        | ((with_reducible apply st_store); exact rfl; exact rfl; exact rfl; exact rfl; exact rfl; exact rfl)
        | ((with_reducible apply st_add); exact rfl; exact rfl; exact rfl; omega)
        | ((with_reducible apply st_q RdT.ok); exact rfl; exact rfl))
    ((with_reducible apply r_one); exact rfl; exact .tmp rfl .nil; exact .s (.pv _); exact hS; refine ⟨rfl, _, rfl, ?_⟩)
    rw [← hfree, hI]; simp [sumF]
end Go.Proofs.Ytfdaioinghfjpaa
