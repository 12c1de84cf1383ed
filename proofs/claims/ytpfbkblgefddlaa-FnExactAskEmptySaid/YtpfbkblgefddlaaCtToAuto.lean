/- A copy of an automaton, its edges one's own. -/
import Derived.Test.YtpfbkblgefddlaaCtMarkE
namespace Go.Proofs.Ytpfbkblgefddlaa.Ct
set_option linter.unusedSimpArgs false
set_option linter.unusedVariables false
open Go Go.Proofs Go.Proofs.Ytpfbkblgefddlaa.Av

/-- the automaton whose edges are the object o -/
def autoRef (o : Nat) (a : AutoD) : List AV := [.int .i64 a.letters, .int .i64 a.states, .int .i64 a.start, .ref o 0 a.edges.length]

def RToAutoO (xs : List AV) (r : AV) (objs : List AObj) : Prop := ∃ x, xs = [.agg (autoRow x)] ∧ x.edges.length ≤ 1048576 ∧ r = .agg (autoRef 0 x) ∧ objs = [.arr 4 (edgeRows x.edges)]
theorem RToAutoO_mk {x : AutoD} (h : x.edges.length ≤ 1048576) : RToAutoO [.agg (autoRow x)] (.agg (autoRef 0 x)) [.arr 4 (edgeRows x.edges)] := ⟨x, rfl, h, rfl, rfl⟩

theorem o_laws_toAuto : PureSound Try.prog 48 RToAutoO := by
  have hR : Rely Try.prog (ctxOf [(113, .pure RToEdgeS)]) := rely_cons b_laws_toEdgeS.has s_laws_toEdgeS (rely_nil mixed)
  refine pure_of_aw b_laws_toAuto ?_
  rintro xs r objs ⟨x, rfl, hx, rfl, rfl⟩ -
  refine ⟨by simp, vc2_sound hR _ _ _ _ _ ?_⟩
  conv => whnf
  repeat' ((first
    | contradiction
    | (refine And.intro (fun hb => ?_) (fun hb => ?_) <;> first | contradiction | ((try simp only [SB, reduceCtorEq] at hb); try (exfalso; first | contradiction | omega)))
    | refine And.intro rfl ?_
    | refine ⟨_, IntWalk.i64_in _ (by omega), ?_⟩
    | rw [ints_at (by omega)]
    | rw [ints_at0 (by omega)]
    | rw [ints_at' (by omega) (by omega)]
    | refine And.intro (lens_all rfl) ?_
    | refine And.intro (show _ ≤ _ ∧ (_ + 1) * _ ≤ _ ∧ _ + 1 ≤ _ by first | omega | (simp; omega)) ?_
    | refine And.intro (show 1 * _ ≤ _ ∧ 1 ≤ _ by omega) ?_
    | refine And.intro (by first | omega | (simp; omega) | (show _ ∧ _; simp; done)) ?_
    | refine ⟨_, _, RToEdgeS_mk hx, ?_⟩
    | fail) <;> conv => whnf)
  refine ⟨.inl rfl, ?_⟩
  conv => whnf
  refine And.intro (Nat.le_of_ble_eq_true rfl) ?_
  conv => whnf
  refine ⟨[some 3], ⟨rfl, And.intro (And.intro rfl rfl) trivial⟩, ?_, rfl, by simp [AObj.nov, edgeRows_nov]⟩
  exact And.intro (.inl rfl) (And.intro (.inl rfl) (And.intro (.inl rfl) (And.intro rfl trivial)))

theorem snap_auto {h : Heap} {id : Nat} {a : AutoD} (ho : h id = some (.arr 4 (edgeRows a.edges))) : (AV.agg (autoRef id a)).snap h = .agg (autoRow a) :=
  snap_agg (cells_cons rfl (cells_cons rfl (cells_cons rfl (cells_cons (snap1_all ho (length_edgeRows _)) rfl))))
theorem snap_auto2 {h h2 : Heap} {id : Nat} {a : AutoD} (ho : h2 id = some (.arr 4 (edgeRows a.edges))) : (AV.agg ((autoRef id a).map (AV.snap1 h2))).snap h = .agg (autoRow a) :=
  snap_agg (cells_cons rfl (cells_cons rfl (cells_cons rfl (cells_cons (snap1_all2 ho (length_edgeRows _)) rfl))))

theorem REqAuto_eq {xs : List AV} {x y : AutoD} (h : xs = [.agg (autoRow x), .agg (autoRow y)]) : REqAuto xs (.bool (decide (x = y))) [] := ⟨x, y, h, rfl, rfl⟩

end Go.Proofs.Ytpfbkblgefddlaa.Ct
