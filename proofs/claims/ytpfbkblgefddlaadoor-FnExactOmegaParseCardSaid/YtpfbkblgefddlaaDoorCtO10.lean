/- Lists of expressions: marks on all, is it as it was marked. -/
import Derived.Test.YtpfbkblgefddlaaDoorCtO9
namespace Go.Proofs.YtpfbkblgefddlaaDoor.Ct
set_option linter.unusedSimpArgs false
set_option linter.unusedVariables false
open Go Go.Proofs Go.Proofs.YtpfbkblgefddlaaDoor.Av

def szO : List OmegaD → Int
  | [] => 0
  | o :: r => 3 * o.stem.length + 3 * o.loop.length + szO r
def markO1 (k : Int) (o : OmegaD) : OmegaD := ⟨marksN k o.stem.length, marksN (k + 3 * o.stem.length) o.loop.length⟩
def markO : Int → List OmegaD → List OmegaD
  | _, [] => []
  | k, o :: r => markO1 k o :: markO (k + (3 * o.stem.length + 3 * o.loop.length)) r
@[simp] theorem length_markO : ∀ (k : Int) (l : List OmegaD), (markO k l).length = l.length
  | _, [] => rfl
  | k, o :: r => by simp [markO, length_markO]
theorem szO_nonneg : ∀ (l : List OmegaD), 0 ≤ szO l
  | [] => by simp [szO]
  | o :: r => by have := szO_nonneg r; simp only [szO]; omega
theorem szO_append : ∀ (a b : List OmegaD), szO (a ++ b) = szO a + szO b
  | [], b => by simp [szO]
  | o :: r, b => by simp only [List.cons_append, szO, szO_append r b]; omega
theorem markO_append : ∀ (k : Int) (a b : List OmegaD), markO k (a ++ b) = markO k a ++ markO (k + szO a) b
  | k, [], b => by simp [markO, szO]
  | k, o :: r, b => by
    simp only [List.cons_append, markO, szO, markO_append _ r b]
    rw [Int.add_assoc]
theorem szO_take {l : List OmegaD} {i : Nat} (hi : i < l.length) : szO (l.take (i + 1)) = szO (l.take i) + (3 * (l.getD i default).stem.length + 3 * (l.getD i default).loop.length) := by
  rw [take_succ_D hi, szO_append]
  simp [szO]
theorem szO_le (l : List OmegaD) (i : Nat) : szO (l.take i) ≤ szO l := by
  have := szO_append (l.take i) (l.drop i)
  rw [List.take_append_drop] at this
  have := szO_nonneg (l.drop i)
  omega
theorem markO_take {k : Int} {l : List OmegaD} {i : Nat} (hi : i < l.length) : markO k (l.take (i + 1)) = markO k (l.take i) ++ [markO1 (k + szO (l.take i)) (l.getD i default)] := by
  rw [take_succ_D hi, markO_append]
  simp [markO]
theorem markO_at {k : Int} {l : List OmegaD} {i : Nat} (hi : i < l.length) : (markO k l).getD i default = markO1 (k + szO (l.take i)) (l.getD i default) := by
  have e : l = l.take i ++ l.getD i default :: l.drop (i + 1) := by
    rw [List.getD_eq_getElem?_getD, List.getElem?_eq_getElem hi]
    simp
  have h2 : markO k l = markO k (l.take i) ++ markO (k + szO (l.take i)) (l.getD i default :: l.drop (i + 1)) := by
    rw [← markO_append, ← e]
  have h3 : (markO k (l.take i)).length = i := by rw [length_markO]; simp; omega
  rw [h2, List.getD_eq_getElem?_getD, List.getElem?_append_right (by omega), h3, Nat.sub_self]
  simp [markO]

def GMarkOmegaS : GFun := fun xs objs Q => ∃ (l : List OmegaD) (k : Int), xs = [.ref 0 0 l.length, .int .i64 k] ∧ objs = [.nst 2 (omOwns l)] ∧ l.length ≤ 1000000 ∧ szO l ≤ 1000000 ∧ 0 ≤ k ∧ k ≤ 1000000 ∧ Q (.int .i64 (k + szO l)) [some (.nst 2 (omOwns (markO k l)))]
theorem GMarkOmegaS_mk {l : List OmegaD} {k : Int} {Q : AV → List (Option AObj) → Prop} (h1 : l.length ≤ 1000000) (h2 : szO l ≤ 1000000) (h3 : 0 ≤ k) (h4 : k ≤ 1000000) (hq : Q (.int .i64 (k + szO l)) [some (.nst 2 (omOwns (markO k l)))]) :
    GMarkOmegaS [.ref 0 0 l.length, .int .i64 k] [.nst 2 (omOwns l)] Q := ⟨l, k, rfl, rfl, h1, h2, h3, h4, hq⟩

set_option maxHeartbeats 4000000 in
theorem s_markOmegaS : GenSound Tryd.prog 7 1 GMarkOmegaS := by
  have hR : Rely Tryd.prog (ctxOf [(15, .gen 1 GMarkNodeS)]) := rely_cons b_laws_markNodeS.has s_markNodeS (rely_nil mixed)
  refine gen_of_aw b_laws_markOmegaS ?_
  rintro xs objs Q - ⟨l, k, rfl, rfl, h1, h2, h3, h4, hq⟩ -
  refine ⟨by simp, vc2_sound hR _ _ _ _ _ ?_⟩
  conv => whnf
  repeat' ((first
    | contradiction
    | (refine And.intro (fun hb => ?_) (fun hb => ?_) <;> first | contradiction | ((try simp only [SB, reduceCtorEq] at hb); try (exfalso; first | contradiction | omega)))
    | refine And.intro rfl ?_
    | refine ⟨_, IntWalk.i64_in _ (by omega), ?_⟩
    | rw [ints_at (by omega)]
    | rw [ints_at0 (by omega)]
    | rw [ints_at' (by omega) (by omega)]
    | refine And.intro (lens_all rfl) ?_
    | refine And.intro (show _ ≤ _ ∧ (_ + 1) * _ ≤ _ ∧ _ + 1 ≤ _ by first | omega | (simp; omega)) ?_
    | refine And.intro (show 1 * _ ≤ _ ∧ 1 ≤ _ by omega) ?_
    | refine And.intro (by first | omega | (simp; omega) | (show _ ∧ _; simp; done)) ?_
    | fail) <;> conv => whnf)
  refine Lp.introT (α := Nat) (fun i => i ≤ l.length) (fun i => l.length - i) (fun i => [(0, .ref 0 0 l.length), (1, .int .i64 (k + szO (l.take i))), (5, .int .i64 i)]) (fun i => [some (.nst 2 ((markO k (l.take i) ++ l.drop i).map omOwn))]) ?_ ?_
  · refine ⟨0, by omega, [some 0], rfl, rfl, And.intro (And.intro rfl ?_) trivial, ?_⟩
    · simp [omOwns, markO]
    · repeat' (first
        | exact trivial
        | refine ⟨?_, ?_⟩
        | fail)
      all_goals first
        | with_reducible rfl
        | (conv => whnf
           try left
           conv => lhs; whnf
           first
             | rfl
             | exact congrArg (AV.int .i64) (by omega)
             | skip)
      exact congrArg (AV.int .i64) (by simp [szO])
  · intro i hi
    have hpl : (markO k (l.take i)).length = i := by rw [length_markO]; simp; omega
    have hlen := over_len (f := omOwn) hpl hi
    by_cases hlt : i < l.length
    · have hsum := szO_take hlt
      have hle := szO_le l (i + 1)
      have hn0 := szO_nonneg (l.take i)
      dsimp only
      generalize hkk : k + szO (l.take i) = kk
      refine Aw.turn (.lax 0 2 _ (.inr rfl) (.unfold 0 i 0 2 3 _ (omOwn (l.getD i default)) (nodeRows (l.getD i default).stem) rfl (over_at hpl hlt) rfl _ (length_nodeRows _)
        (.unfold 0 i 1 2 3 _ [.ref 1 0 (l.getD i default).stem.length, .own 3 (nodeRows (l.getD i default).loop)] (nodeRows (l.getD i default).loop) rfl (List.getElem?_set_self (by rw [hlen]; omega)) rfl _ (length_nodeRows _) (.refl _ _)))) (vc2_sound hR _ _ _ _ _ ?_)
      conv => whnf
      repeat' ((first
        | contradiction
        | (refine And.intro (fun hb => ?_) (fun hb => ?_) <;> first | contradiction | ((try simp only [SB, reduceCtorEq] at hb); try (exfalso; first | contradiction | omega)))
        | refine And.intro rfl ?_
        | refine ⟨_, IntWalk.i64_in _ (by omega), ?_⟩
        | rw [ints_at (by omega)]
        | rw [ints_at0 (by omega)]
        | rw [ints_at' (by omega) (by omega)]
        | refine And.intro (lens_all rfl) ?_
        | refine And.intro (show _ ≤ _ ∧ (_ + 1) * _ ≤ _ ∧ _ + 1 ≤ _ by first | omega | (simp; omega)) ?_
        | refine And.intro (show 1 * _ ≤ _ ∧ 1 ≤ _ by omega) ?_
        | refine And.intro (by first | omega | (simp; omega) | (show _ ∧ _; simp; done)) ?_
        | (rw [set_at0 (by (try simp only [List.length_set]); rw [hlen]; omega)])
        | refine ⟨GMarkNodeS_mk (by omega) (by omega) (by omega) ?_⟩
        | fail) <;> conv => whnf)
      refine ⟨_, _, .fold 0 1 i 0 2 3 _ [.ref 1 0 (l.getD i default).stem.length, .ref 2 0 (l.getD i default).loop.length] (nodeRows (markO1 kk (l.getD i default)).stem) rfl rfl (by decide) ?_ _ ((length_nodeRows _).trans (length_marksN _ _)) rfl
        (.fold 0 2 i 1 2 3 _ [.own 3 (nodeRows (markO1 kk (l.getD i default)).stem), .ref 2 0 (l.getD i default).loop.length] (nodeRows (markO1 kk (l.getD i default)).loop) rfl rfl (by decide) ?_ _ ((length_nodeRows _).trans (length_marksN _ _)) rfl
        (.clos 0 2 (((markO k (l.take i) ++ [markO1 kk (l.getD i default)]) ++ l.drop (i + 1)).map omOwn) (congrArg (fun r => some (AObj.arx 2 r)) ?_) (omOwns_sealed _) (.refl _ _))),
        i + 1, by omega, by omega, [some 0], rfl, rfl, And.intro (And.intro rfl ?_) trivial, ?_⟩
      · simp only [List.set_set]
        exact List.getElem?_set_self (by rw [hlen]; omega)
      · simp only [List.set_set]
        exact List.getElem?_set_self (by rw [hlen]; omega)
      · simp only [List.set_set]
        exact over_set (f := omOwn) (y := markO1 kk (l.getD i default)) hpl hlt
      · rw [markO_take hlt, hkk]
      · repeat' (first
          | exact trivial
          | refine ⟨?_, ?_⟩
          | fail)
        all_goals first
          | with_reducible rfl
          | (conv => whnf
             try left
             conv => lhs; whnf
             first
               | rfl
               | exact congrArg (AV.int .i64) (by omega)
               | skip)
    · refine vc2_sound hR _ _ _ _ _ ?_
      conv => whnf
      repeat' ((first
        | contradiction
        | (refine And.intro (fun hb => ?_) (fun hb => ?_) <;> first | contradiction | ((try simp only [SB, reduceCtorEq] at hb); try (exfalso; first | contradiction | omega)))
        | refine And.intro rfl ?_
        | refine ⟨_, IntWalk.i64_in _ (by omega), ?_⟩
        | rw [ints_at (by omega)]
        | rw [ints_at0 (by omega)]
        | rw [ints_at' (by omega) (by omega)]
        | refine And.intro (lens_all rfl) ?_
        | refine And.intro (show _ ≤ _ ∧ (_ + 1) * _ ≤ _ ∧ _ + 1 ≤ _ by first | omega | (simp; omega)) ?_
        | refine And.intro (show 1 * _ ≤ _ ∧ 1 ≤ _ by omega) ?_
        | refine And.intro (by first | omega | (simp; omega) | (show _ ∧ _; simp; done)) ?_
        | fail) <;> conv => whnf)
      have hil : i = l.length := by omega
      refine ⟨.inl rfl, ?_⟩
      conv => whnf
      subst hil
      refine ⟨[some 0], .int .i64 (k + szO l), [some (.nst 2 (omOwns (markO k l)))], ⟨rfl, And.intro (And.intro rfl ?_) trivial⟩, .inl ?_, rfl, hq⟩
      · simp [omOwns]
      · exact congrArg (AV.int .i64) (by rw [List.take_length])

def RHeldOmegaS (xs : List AV) (r : AV) (objs : List AObj) : Prop := ∃ (l : List OmegaD) (k : Int), xs = [.val (omRows (markO k l)), .int .i64 k] ∧ l.length ≤ 1000000 ∧ szO l ≤ 1000000 ∧ 0 ≤ k ∧ k ≤ 1000000 ∧ r = .int .i64 (k + szO l) ∧ objs = []
theorem RHeldOmegaS_eq {xs : List AV} {l : List OmegaD} {k : Int} (h : xs = [.val (omRows (markO k l)), .int .i64 k]) (h1 : l.length ≤ 1000000) (h2 : szO l ≤ 1000000) (h3 : 0 ≤ k) (h4 : k ≤ 1000000) : RHeldOmegaS xs (.int .i64 (k + szO l)) [] := ⟨l, k, h, h1, h2, h3, h4, rfl, rfl⟩

set_option maxHeartbeats 4000000 in
theorem s_heldOmegaS : PureSound Tryd.prog 8 RHeldOmegaS := by
  have hR : Rely Tryd.prog (ctxOf [(16, .pure RHeldNodeS)]) := rely_cons b_laws_heldNodeS.has s_heldNodeS (rely_nil mixed)
  refine pure_of_aw b_laws_heldOmegaS ?_
  rintro xs r objs ⟨l, k, rfl, h1, h2, h3, h4, rfl, rfl⟩ -
  have hle := (length_omRows (markO k l)).trans (length_markO k l)
  refine ⟨by simp, vc2_sound hR _ _ _ _ _ ?_⟩
  conv => whnf
  repeat' ((first
    | contradiction
    | (refine And.intro (fun hb => ?_) (fun hb => ?_) <;> first | contradiction | ((try simp only [SB, reduceCtorEq] at hb); try (exfalso; first | contradiction | omega)))
    | refine And.intro rfl ?_
    | refine ⟨_, IntWalk.i64_in _ (by omega), ?_⟩
    | rw [ints_at (by omega)]
    | rw [ints_at0 (by omega)]
    | rw [ints_at' (by omega) (by omega)]
    | refine And.intro (lens_all rfl) ?_
    | refine And.intro (show _ ≤ _ ∧ (_ + 1) * _ ≤ _ ∧ _ + 1 ≤ _ by first | omega | (simp; omega)) ?_
    | refine And.intro (show 1 * _ ≤ _ ∧ 1 ≤ _ by omega) ?_
    | refine And.intro (by first | omega | (simp; omega) | (show _ ∧ _; simp; done)) ?_
    | fail) <;> conv => whnf)
  refine Lp.intro (α := Nat) (fun i => i ≤ l.length) (fun i => l.length - i) (fun i => [(0, .val (omRows (markO k l))), (1, .int .i64 (k + szO (l.take i))), (5, .int .i64 i)]) (fun _ => []) ?_ ?_
  · refine ⟨0, by omega, [], rfl, rfl, trivial, ?_⟩
    repeat' (first
      | exact trivial
      | refine ⟨?_, ?_⟩
      | fail)
    all_goals first
      | with_reducible rfl
      | (conv => whnf
         try left
         conv => lhs; whnf
         first
           | rfl
           | exact congrArg (AV.int .i64) (by omega)
           | skip)
    exact congrArg (AV.int .i64) (by simp [szO])
  · intro i hi
    by_cases hlt : i < l.length
    · have hsum := szO_take hlt
      have hle2 := szO_le l (i + 1)
      have hn0 := szO_nonneg (l.take i)
      have hat : (omRows (markO k l))[((i : Nat) : Int).toNat]? = some (omRow (markO1 (k + szO (l.take i)) (l.getD i default))) := by
        rw [om_at (by rw [length_markO]; exact hlt), markO_at hlt]
      dsimp only
      generalize hkk : k + szO (l.take i) = kk at hat
      refine vc2_sound hR _ _ _ _ _ ?_
      conv => whnf
      repeat' ((first
        | contradiction
        | (refine And.intro (fun hb => ?_) (fun hb => ?_) <;> first | contradiction | ((try simp only [SB, reduceCtorEq] at hb); try (exfalso; first | contradiction | omega)))
        | refine And.intro rfl ?_
        | refine ⟨_, IntWalk.i64_in _ (by omega), ?_⟩
        | rw [ints_at (by omega)]
        | rw [ints_at0 (by omega)]
        | rw [ints_at' (by omega) (by omega)]
        | refine And.intro (lens_all rfl) ?_
        | refine And.intro (show _ ≤ _ ∧ (_ + 1) * _ ≤ _ ∧ _ + 1 ≤ _ by first | omega | (simp; omega)) ?_
        | refine And.intro (show 1 * _ ≤ _ ∧ 1 ≤ _ by omega) ?_
        | refine And.intro (by first | omega | (simp; omega) | (show _ ∧ _; simp; done)) ?_
        | rw [hat]
        | refine ⟨_, _, RHeldNodeS_mk (by omega) (by omega) (by omega), ?_⟩
        | fail) <;> conv => whnf)
      refine ⟨i + 1, by omega, by omega, [], rfl, rfl, trivial, ?_⟩
      repeat' (first
        | exact trivial
        | refine ⟨?_, ?_⟩
        | fail)
      all_goals first
        | with_reducible rfl
        | (conv => whnf
           try left
           conv => lhs; whnf
           first
             | rfl
             | exact congrArg (AV.int .i64) (by omega)
             | skip)
    · refine vc2_sound hR _ _ _ _ _ ?_
      conv => whnf
      repeat' ((first
        | contradiction
        | (refine And.intro (fun hb => ?_) (fun hb => ?_) <;> first | contradiction | ((try simp only [SB, reduceCtorEq] at hb); try (exfalso; first | contradiction | omega)))
        | refine And.intro rfl ?_
        | refine ⟨_, IntWalk.i64_in _ (by omega), ?_⟩
        | rw [ints_at (by omega)]
        | rw [ints_at0 (by omega)]
        | rw [ints_at' (by omega) (by omega)]
        | refine And.intro (lens_all rfl) ?_
        | refine And.intro (show _ ≤ _ ∧ (_ + 1) * _ ≤ _ ∧ _ + 1 ≤ _ by first | omega | (simp; omega)) ?_
        | refine And.intro (show 1 * _ ≤ _ ∧ 1 ≤ _ by omega) ?_
        | refine And.intro (by first | omega | (simp; omega) | (show _ ∧ _; simp; done)) ?_
        | fail) <;> conv => whnf)
      refine ⟨.inl rfl, ?_⟩
      conv => whnf
      refine ⟨[], ⟨rfl, trivial⟩, ?_, rfl, rfl⟩
      conv => whnf
      left
      conv => lhs; whnf
      exact congrArg (AV.int .i64) (by rw [show i = l.length by omega, List.take_length])

end Go.Proofs.YtpfbkblgefddlaaDoor.Ct
