/- AutoWord, the program's. -/
import Derived.Test.YtpfbkblgefddlaaCtAWord
import Derived.Test.YtpfbkblgefddlaaAvNv
namespace Go.Proofs.Ytpfbkblgefddlaa.Ct
set_option linter.unusedSimpArgs false
set_option linter.unusedVariables false
open Go Go.Proofs Go.Proofs.Ytpfbkblgefddlaa.Av Go.Proofs.Ytpfbkblgefddlaa.Pl

def c_impl_AutoWord : ICode := (.seq (.reg [⟨(some 1), (.box 4), [(.t 0)], none⟩, ⟨(some 2), (.alc [.snil, .snil]), [], none⟩, ⟨(some 3), .mv, [(.c (.bool false))], none⟩]) (.seq (.seq (.reg [⟨(some 12), (.ldn 4), [(.t 1)], none⟩, ⟨(some 13), (.call 73), [(.t 12)], none⟩, ⟨(some 14), .not, [(.t 13)], none⟩]) (.cond (.t 14) (.seq (.reg [⟨(some 15), (.bld [.snil, .snil] []), [], none⟩, ⟨none, (.st 2), [(.t 2), (.t 15)], none⟩, ⟨(some 3), .mv, [(.c (.bool false))], none⟩]) .ret) .skip)) (.seq (.reg [⟨(some 16), (.fadr 2), [(.t 1)], none⟩, ⟨(some 17), .ld1, [(.t 16)], none⟩, ⟨(some 18), (.call 114), [(.t 1), (.t 17)], none⟩, ⟨(some 19), (.call 115), [(.t 1)], none⟩, ⟨(some 20), (.call 116), [(.t 19)], none⟩, ⟨(some 4), .mv, [(.t 18)], none⟩, ⟨(some 5), .mv, [(.t 20)], none⟩]) (.seq (.seq (.reg [⟨(some 21), (.fadr 3), [(.t 1)], none⟩, ⟨(some 22), .ld1, [(.t 21)], none⟩, ⟨(some 23), .len, [(.t 22)], none⟩, ⟨(some 24), .mv, [(.c (.int .i64 0))], none⟩]) (.block 0 (.loop (.seq (.reg [⟨(some 25), (.bin .lss), [(.t 24), (.t 23)], none⟩]) (.seq (.cond (.t 25) .skip (.exit 0)) (.seq (.block 1 (.seq (.reg [⟨(some 26), (.iadr 4), [(.t 22), (.t 24)], none⟩, ⟨(some 27), (.ldn 4), [(.t 26)], none⟩, ⟨(some 7), (.alc [(.int .i64 0), (.int .i64 0), (.int .i64 0), (.bool false)]), [], none⟩, ⟨none, (.st 4), [(.t 7), (.t 27)], none⟩]) (.seq (.seq (.drw [⟨(some 28), (.fadr 3), [(.t 7)], none⟩, ⟨(some 29), .ld1, [(.t 28)], none⟩, ⟨(some 30), .not, [(.t 29)], none⟩, ⟨(some 31), .mv, [(.t 30)], none⟩, ⟨(some 32), .mv, [(.t 4)], (some (31, false))⟩, ⟨(some 33), (.fadr 0), [(.t 7)], (some (31, false))⟩, ⟨(some 34), .ld1, [(.t 33)], (some (31, false))⟩, ⟨(some 35), (.call 117), [(.t 32), (.t 34)], (some (31, false))⟩, ⟨(some 36), .not, [(.t 35)], (some (31, false))⟩, ⟨(some 37), .pick, [(.t 31), (.c (.bool true)), (.t 36)], none⟩, ⟨(some 38), .mv, [(.t 37)], none⟩, ⟨(some 39), .mv, [(.t 5)], (some (38, false))⟩, ⟨(some 40), (.fadr 0), [(.t 7)], (some (38, false))⟩, ⟨(some 41), .ld1, [(.t 40)], (some (38, false))⟩, ⟨(some 42), (.iadr 1), [(.t 39), (.t 41)], (some (38, false))⟩, ⟨(some 43), .ld1, [(.t 42)], (some (38, false))⟩, ⟨(some 44), .mv, [(.t 5)], (some (38, false))⟩, ⟨(some 45), (.fadr 2), [(.t 7)], (some (38, false))⟩, ⟨(some 46), .ld1, [(.t 45)], (some (38, false))⟩, ⟨(some 47), (.iadr 1), [(.t 44), (.t 46)], (some (38, false))⟩, ⟨(some 48), .ld1, [(.t 47)], (some (38, false))⟩, ⟨(some 49), (.bin .neq), [(.t 43), (.t 48)], (some (38, false))⟩, ⟨(some 50), .pick, [(.t 38), (.c (.bool true)), (.t 49)], none⟩] [[], [0], [0, 1], [0, 1, 2], [0, 1, 2, 3], [0, 1, 2, 3], [0, 1, 2, 3, 5], [0, 1, 2, 3, 4, 5, 6], [0, 1, 2, 3, 4, 5, 6, 7], [0, 1, 2, 3, 4, 5, 6, 7, 8], [0, 1, 2, 3, 4, 5, 6, 7, 8, 9], [0, 1, 2, 3, 4, 5, 6, 7, 8, 9, 10], [0, 1, 2, 3, 4, 5, 6, 7, 8, 9, 10], [0, 1, 2, 3, 4, 5, 6, 7, 8, 9, 10, 12], [0, 1, 2, 3, 4, 5, 6, 7, 8, 9, 10, 11, 12, 13], [0, 1, 2, 3, 4, 5, 6, 7, 8, 9, 10, 11, 12, 13, 14], [0, 1, 2, 3, 4, 5, 6, 7, 8, 9, 10], [0, 1, 2, 3, 4, 5, 6, 7, 8, 9, 10], [0, 1, 2, 3, 4, 5, 6, 7, 8, 9, 10, 17], [0, 1, 2, 3, 4, 5, 6, 7, 8, 9, 10, 16, 17, 18], [0, 1, 2, 3, 4, 5, 6, 7, 8, 9, 10, 16, 17, 18, 19], [0, 1, 2, 3, 4, 5, 6, 7, 8, 9, 10, 11, 12, 13, 14, 15, 16, 17, 18, 19, 20], [0, 1, 2, 3, 4, 5, 6, 7, 8, 9, 10, 11, 12, 13, 14, 15, 16, 17, 18, 19, 20, 21]] true true) (.cond (.t 50) (.exit 1) .skip)) (.seq (.reg [⟨(some 52), (.fadr 2), [(.t 1)], none⟩, ⟨(some 53), .ld1, [(.t 52)], none⟩, ⟨(some 54), (.fadr 0), [(.t 7)], none⟩, ⟨(some 55), .ld1, [(.t 54)], none⟩, ⟨(some 56), (.call 118), [(.t 1), (.t 53), (.t 55)], none⟩, ⟨(some 51), .mv, [(.t 56)], none⟩, ⟨(some 57), (.ext 0), [(.t 51)], none⟩, ⟨(some 58), (.ext 1), [(.t 51)], none⟩, ⟨(some 8), .mv, [(.t 57)], none⟩, ⟨(some 9), .mv, [(.t 58)], none⟩]) (.seq (.drw [⟨(some 60), (.fadr 2), [(.t 7)], none⟩, ⟨(some 61), .ld1, [(.t 60)], none⟩, ⟨(some 62), (.call 119), [(.t 61)], none⟩, ⟨(some 63), (.fadr 0), [(.t 7)], none⟩, ⟨(some 64), .ld1, [(.t 63)], none⟩, ⟨(some 65), (.call 118), [(.t 1), (.t 62), (.t 64)], none⟩, ⟨(some 59), .mv, [(.t 65)], none⟩, ⟨(some 66), (.ext 0), [(.t 59)], none⟩, ⟨(some 67), (.ext 1), [(.t 59)], none⟩, ⟨(some 10), .mv, [(.t 66)], none⟩, ⟨(some 11), .mv, [(.t 67)], none⟩] [[], [0], [0, 1], [], [3], [0, 1, 2, 3, 4], [0, 1, 2, 3, 4, 5], [0, 1, 2, 3, 4, 5, 6], [0, 1, 2, 3, 4, 5, 6], [0, 1, 2, 3, 4, 5, 6, 7], [0, 1, 2, 3, 4, 5, 6, 7, 8, 9]] true true) (.seq (.reg [⟨(some 68), .mv, [(.t 8)], none⟩, ⟨(some 69), (.fadr 1), [(.t 7)], none⟩, ⟨(some 70), .ld1, [(.t 69)], none⟩, ⟨(some 71), (.bsl 1), [(.t 70)], none⟩, ⟨(some 72), .mv, [(.t 10)], none⟩, ⟨(some 73), (.bsl 1), [(.t 71), (.t 72)], none⟩, ⟨(some 74), (.call 120), [(.t 73)], none⟩, ⟨(some 75), (.bld [.snil, .snil] [(0, 1), (1, 1)]), [(.t 68), (.t 74)], none⟩, ⟨none, (.st 2), [(.t 2), (.t 75)], none⟩, ⟨(some 3), .mv, [(.c (.bool true))], none⟩]) .ret)))))) (.reg [⟨(some 76), (.bin .add), [(.t 24), (.c (.int .i64 1))], none⟩, ⟨(some 24), .mv, [(.t 76)], none⟩]))))))) (.seq (.reg [⟨(some 77), (.bld [.snil, .snil] []), [], none⟩, ⟨none, (.st 2), [(.t 2), (.t 77)], none⟩, ⟨(some 3), .mv, [(.c (.bool false))], none⟩]) .ret)))))
theorem b_impl_AutoWord : Body Try.prog 49 78 c_impl_AutoWord [(.cn 2 2), (.t 3)] := body_mk Try.func49 (by kernel_rfl) (by decide)


theorem adj_autoE {a : AutoD} (h : AutoOk a) : Adj (autoG a) = EA a := by
  funext p q; exact propext (adj_auto h)
/-- in one ring: a way back -/
theorem ring_ok {a : AutoD} (ha : AutoOk a) {out : List Int} (ho : IsRings (Adj (autoG a)) (autoG a).length out) {e : EdgeD} (he : e ∈ a.edges) :
    out.getD e.src.toNat 0 = out.getD e.dst.toNat 0 ↔ (pathW a (2 ^ e.dst.toNat) e.src.toNat).2 = true := by
  have hl := ea_lt ha ⟨e, he, rfl, rfl⟩
  rw [show (autoG a).length = a.states.toNat from length_mkG _ _, adj_autoE ha] at ho
  rw [ho.2.2 _ _ hl.1 hl.2, path_ok ha hl.2 hl.1]
  exact ⟨fun h => h.2, fun h => ⟨Rel1.one ⟨e, he, rfl, rfl⟩, h⟩⟩

set_option maxHeartbeats 8000000 in
theorem s_impl_AutoWord : PureSound Try.prog 49 RAWord := by
  have hR : Rely Try.prog (ctxOf [(73, .pure RAutoOk), (114, .pure RReach), (115, .pure RAutoG), (116, .gen 0 GRings), (117, .pure RHas), (119, .pure RBit), (118, .pure RPath), (120, .pure RConcat)]) :=
    rely_cons b_impl_AutoOk.has s_impl_AutoOk (rely_cons b_impl_Auto_reach.has s_impl_reach (rely_cons b_impl_Auto_graph.has s_impl_graph (rely_cons b_impl_graph_rings.has s_impl_rings (rely_cons b_impl_has.has s_impl_has (rely_cons b_impl_only.has s_impl_onlyB (rely_cons b_impl_Auto_pathWord.has s_impl_pathWord (rely_cons b_slices_Concat_int_int.has s_slices_Concat (rely_nil mixed))))))))
  refine pure_of_aw b_impl_AutoWord ?_
  rintro xs r objs ⟨a, rfl, rfl, rfl⟩ -
  refine ⟨by simp, vcS_sound hR [16, 68] _ _ _ _ _ ?_⟩
  by_cases ha : AutoOk a
  · have hs := ha.1.2.1
    have hlet := ha.1.1
    have hst := ha.1.2.2
    have hsl := start_lt ha
    have es : a.start = ((a.start.toNat : Nat) : Int) := by omega
    rw [if_pos ha, if_pos ha]
    generalize hw : autoW a = w
    have hle := length_edgeRows a.edges
    have hl := ha.2.1
    have hgl : (autoG a).length = a.states.toNat := length_mkG _ _
    have hgk := gok_auto ha
    have hst1 := steps_autoG ha
    have hs31 := lt31 ha hsl
    conv => whnf
    repeat' ((first
      | contradiction
      | (refine And.intro (fun hb => ?_) (fun hb => ?_) <;> first | contradiction | ((try simp only [SB, reduceCtorEq] at hb); try (exfalso; first | contradiction | omega)))
      | refine And.intro rfl ?_
      | refine ⟨_, IntWalk.i64_in _ (by omega), ?_⟩
      | rw [ints_at (by omega)]
      | rw [ints_at0 (by omega)]
      | rw [ints_at' (by omega) (by omega)]
      | refine And.intro (lens_all rfl) ?_
      | refine And.intro (show _ ≤ _ ∧ (_ + 1) * _ ≤ _ ∧ _ + 1 ≤ _ by first | omega | (simp; omega)) ?_
      | refine And.intro (show 1 * _ ≤ _ ∧ 1 ≤ _ by omega) ?_
      | refine And.intro (by first | omega | (simp; omega) | (show _ ∧ _; simp; done)) ?_
      | refine ⟨_, _, RAutoOk_mk, ?_⟩
      | fail) <;> conv => whnf)
    refine Rg.split hR 4 ?_
    conv => whnf
    repeat' ((first
      | contradiction
      | (refine And.intro (fun hb => ?_) (fun hb => ?_) <;> first | contradiction | ((try simp only [SB, reduceCtorEq] at hb); try (exfalso; first | contradiction | omega)))
      | refine And.intro rfl ?_
      | refine ⟨_, IntWalk.i64_in _ (by omega), ?_⟩
      | rw [ints_at (by omega)]
      | rw [ints_at0 (by omega)]
      | rw [ints_at' (by omega) (by omega)]
      | refine And.intro (lens_all rfl) ?_
      | refine And.intro (show _ ≤ _ ∧ (_ + 1) * _ ≤ _ ∧ _ + 1 ≤ _ by first | omega | (simp; omega)) ?_
      | refine And.intro (show 1 * _ ≤ _ ∧ 1 ≤ _ by omega) ?_
      | refine And.intro (by first | omega | (simp; omega) | (show _ ∧ _; simp; done)) ?_
      | refine ⟨_, _, RReach_eq (congrArg (fun z => [AV.rptr (autoRow a) 0, AV.int .i64 z]) es) ha hs31, ?_⟩
      | refine ⟨_, _, RAutoG_eq rfl ha, ?_⟩
      | fail) <;> conv => whnf)
    refine ⟨[some 1], [(1, .rptr (autoRow a) 0), (2, .ptr 0 0 0), (18, .int .i64 ((autoR a a.start.toNat : Nat) : Int)), (19, .rptr [.val (gRows (autoG a))] 0)], [some (.box [.snil, .snil])], ⟨rfl, rfl, And.intro ⟨.inl rfl, .inl rfl, trivial⟩ trivial, ?_⟩, ?_⟩
    · exact ⟨.inr rfl, rfl, .inl rfl, .inr (snap_graph rfl rfl hgl.symm), trivial⟩
    conv => whnf
    repeat' ((first
      | contradiction
      | (refine And.intro (fun hb => ?_) (fun hb => ?_) <;> first | contradiction | ((try simp only [SB, reduceCtorEq] at hb); try (exfalso; first | contradiction | omega)))
      | refine And.intro rfl ?_
      | refine ⟨_, IntWalk.i64_in _ (by omega), ?_⟩
      | rw [ints_at (by omega)]
      | rw [ints_at0 (by omega)]
      | rw [ints_at' (by omega) (by omega)]
      | refine And.intro (lens_all rfl) ?_
      | refine And.intro (show _ ≤ _ ∧ (_ + 1) * _ ≤ _ ∧ _ + 1 ≤ _ by first | omega | (simp; omega)) ?_
      | refine And.intro (show 1 * _ ≤ _ ∧ 1 ≤ _ by omega) ?_
      | refine And.intro (by first | omega | (simp; omega) | (show _ ∧ _; simp; done)) ?_
      | refine ⟨GRings_mk hgk (by omega) hst1 (fun out hout => ?_)⟩
      | fail) <;> conv => whnf)
    have hol : out.length = a.states.toNat := hout.1.trans hgl
    have hil := (length_ints out).trans hol
    refine Lp.intro (α := Nat) (fun i => i ≤ a.edges.length ∧ ∀ j, j < i → ¬ goodE a j) (fun i => a.edges.length - i) (fun i => [(1, .rptr (autoRow a) 0), (2, .ptr 0 0 0), (4, .int .i64 ((autoR a a.start.toNat : Nat) : Int)), (5, .val (ints out)), (22, .val (edgeRows a.edges)), (23, .int .i64 a.edges.length), (24, .int .i64 i)]) (fun _ => [some (.box [.snil, .snil])]) ?_ ?_
    · refine ⟨0, ⟨Nat.zero_le _, fun j hj => by omega⟩, [some 0], rfl, rfl, And.intro ⟨.inl rfl, .inl rfl, trivial⟩ trivial, ?_⟩
      exact ⟨.inl rfl, rfl, .inl rfl, .inr (snap_all rfl (by omega)), .inl rfl, .inl (congrArg (fun x : Nat => AV.int .i64 x) hle), .inl rfl, trivial⟩
    rintro i ⟨hi, hno⟩
    refine vcS_sound hR [68] _ _ _ _ _ ?_
    by_cases hlt : i < a.edges.length
    · have he := edge_in ha hlt
      have hat := edge_at hlt
      unfold EdgeIn at he
      have hem : a.edges.getD i default ∈ a.edges := getD_mem' hlt
      generalize hee : a.edges.getD i default = e at *
      obtain ⟨k1, k2⟩ := edge_key hee hno hlt hw
      have es1 : e.src = ((e.src.toNat : Nat) : Int) := by omega
      have hb2 : 2 ^ e.dst.toNat < 2 ^ a.states.toNat := Nat.pow_lt_pow_right (by decide) (by omega)
      have hp1 := path_rows ha (X := 2 ^ e.dst.toNat) (t := e.src.toNat) (by omega)
      have hp2 := path_len ha (X := 2 ^ e.dst.toNat) (t := e.src.toNat) (by omega)
      have hring := ring_ok ha hout hem
      have hsr : (ints out)[e.src.toNat]? = some [.int .i64 (out.getD e.src.toNat 0)] := by
        have := ints_at (xs := out) (i := e.src.toNat) (by omega)
        rwa [Int.toNat_natCast] at this
      have hds : (ints out)[e.dst.toNat]? = some [.int .i64 (out.getD e.dst.toNat 0)] := by
        have := ints_at (xs := out) (i := e.dst.toNat) (by omega)
        rwa [Int.toNat_natCast] at this
      conv => whnf
      repeat' ((first
        | contradiction
        | (refine And.intro (fun hb => ?_) (fun hb => ?_) <;> first | contradiction | ((try simp only [SB, reduceCtorEq] at hb); try (exfalso; first | contradiction | omega)))
        | refine And.intro rfl ?_
        | refine ⟨_, IntWalk.i64_in _ (by omega), ?_⟩
        | rw [ints_at (by omega)]
        | rw [ints_at0 (by omega)]
        | rw [ints_at' (by omega) (by omega)]
        | refine And.intro (lens_all rfl) ?_
        | refine And.intro (show _ ≤ _ ∧ (_ + 1) * _ ≤ _ ∧ _ + 1 ≤ _ by first | omega | (simp; omega)) ?_
        | refine And.intro (show 1 * _ ≤ _ ∧ 1 ≤ _ by omega) ?_
        | refine And.intro (by first | omega | (simp; omega) | (show _ ∧ _; simp; done)) ?_
        | rw [hat]
        | rw [hsr]
        | rw [hds]
        | refine ⟨_, _, RHas_mk autoR_lt (by omega) (by omega), ?_⟩
        | refine ⟨_, _, RBit_mk (by omega) (by omega), ?_⟩
        | refine ⟨_, _, RPath_eq (arg3 es es1) ha hsl (by omega), ?_⟩
        | refine ⟨_, _, RPath_eq (arg3 rfl es1) ha hb2 (by omega), ?_⟩
        | rw [snap_res (length_natsI _).symm]
        | fail) <;> conv => whnf)
      all_goals first
        | (refine ⟨i + 1, ⟨hlt, k2 ?_⟩, by omega, [some 0], rfl, rfl, And.intro ⟨.inl rfl, .inl rfl, trivial⟩ trivial, ?_⟩
           · first
             | exact .inl (by assumption)
             | exact .inr (.inl (by assumption))
             | exact .inr (.inr (Bool.eq_false_iff.2 fun h => absurd (hring.2 h) (by assumption)))
           · exact ⟨.inl rfl, rfl, .inl rfl, .inl rfl, .inl rfl, .inl rfl, .inl rfl, trivial⟩)
        | skip
      all_goals
        have hbk := hring.1 (by assumption)
        obtain rfl := k1 (by assumption) (by assumption) hbk
        generalize hst2 : (pathW a a.start.toNat e.src.toNat).1 = st at *
        generalize hbk2 : (pathW a (2 ^ e.dst.toNat) e.src.toNat).1 = bk at *
        clear k1 k2
        refine Rg.split hR 5 ?_
      all_goals
        conv => whnf
        repeat' ((first
          | contradiction
          | (refine And.intro (fun hb => ?_) (fun hb => ?_) <;> first | contradiction | ((try simp only [SB, reduceCtorEq] at hb); try (exfalso; first | contradiction | omega)))
          | refine And.intro rfl ?_
          | refine ⟨_, IntWalk.i64_in _ (by omega), ?_⟩
          | rw [ints_at (by omega)]
          | rw [ints_at0 (by omega)]
          | rw [ints_at' (by omega) (by omega)]
          | refine And.intro (lens_all rfl) ?_
          | refine And.intro (show _ ≤ _ ∧ (_ + 1) * _ ≤ _ ∧ _ + 1 ≤ _ by first | omega | (simp; omega)) ?_
          | refine And.intro (show 1 * _ ≤ _ ∧ 1 ≤ _ by omega) ?_
          | refine And.intro (by first | omega | (simp; omega) | (show _ ∧ _; simp; done)) ?_
          | fail) <;> conv => whnf)
        refine ⟨[some 0, some 2], [(2, .ptr 0 0 0), (68, .ref 1 0 st.length), (71, .val (ints [e.letter])), (72, .val (ints (natsI bk)))], [some (.box [.snil, .snil]), some (.arr 1 (ints (natsI st)))], ⟨rfl, rfl, And.intro ⟨.inl rfl, .inl rfl, trivial⟩ (And.intro (And.intro rfl rfl) trivial), ?_⟩, ?_⟩
        · exact ⟨rfl, rfl, .inr (snap_all rfl rfl), .inl rfl, trivial⟩
        conv => whnf
        repeat' ((first
          | contradiction
          | (refine And.intro (fun hb => ?_) (fun hb => ?_) <;> first | contradiction | ((try simp only [SB, reduceCtorEq] at hb); try (exfalso; first | contradiction | omega)))
          | refine And.intro rfl ?_
          | refine ⟨_, IntWalk.i64_in _ (by omega), ?_⟩
          | rw [ints_at (by omega)]
          | rw [ints_at0 (by omega)]
          | rw [ints_at' (by omega) (by omega)]
          | refine And.intro (lens_all rfl) ?_
          | refine And.intro (show _ ≤ _ ∧ (_ + 1) * _ ≤ _ ∧ _ + 1 ≤ _ by first | omega | (simp; omega)) ?_
          | refine And.intro (show 1 * _ ≤ _ ∧ 1 ≤ _ by omega) ?_
          | refine And.intro (by first | omega | (simp; omega) | (show _ ∧ _; simp; done)) ?_
          | (refine ⟨_, _, RConcat_eq (Ls := [[e.letter], natsI bk]) (congrArg (fun v => [v]) (snap_all rfl rfl)) (by simp) (by simp) (by simp; omega), ?_⟩)
          | fail) <;> conv => whnf)
        refine ⟨.inl rfl, ?_⟩
        conv => whnf
        refine ⟨by simp, [some 1, some 3], ⟨rfl, And.intro (And.intro rfl rfl) (And.intro (And.intro rfl ?_) trivial)⟩, ⟨⟨congrArg (AV.ref 1 0) (length_natsI _).symm, congrArg (AV.ref 3 0) ?_, trivial⟩, .inl rfl, trivial⟩, rfl, ?_⟩
        · simp
        · simp
        · simp [wordO, AObj.nov, ints_nov]
    · conv => whnf
      repeat' ((first
        | contradiction
        | (refine And.intro (fun hb => ?_) (fun hb => ?_) <;> first | contradiction | ((try simp only [SB, reduceCtorEq] at hb); try (exfalso; first | contradiction | omega)))
        | refine And.intro rfl ?_
        | refine ⟨_, IntWalk.i64_in _ (by omega), ?_⟩
        | rw [ints_at (by omega)]
        | rw [ints_at0 (by omega)]
        | rw [ints_at' (by omega) (by omega)]
        | refine And.intro (lens_all rfl) ?_
        | refine And.intro (show _ ≤ _ ∧ (_ + 1) * _ ≤ _ ∧ _ + 1 ≤ _ by first | omega | (simp; omega)) ?_
        | refine And.intro (show 1 * _ ≤ _ ∧ 1 ≤ _ by omega) ?_
        | refine And.intro (by first | omega | (simp; omega) | (show _ ∧ _; simp; done)) ?_
        | fail) <;> conv => whnf)
      rw [autoW_none (fun j hj => hno j (by omega))] at hw
      subst hw
      refine ⟨.inl rfl, ?_⟩
      conv => whnf
      exact ⟨Nat.le_refl 2, [none, none], ⟨rfl, And.intro rfl (And.intro rfl trivial)⟩, ⟨⟨⟨rfl, rfl, rfl⟩, ⟨rfl, rfl, rfl⟩, trivial⟩, .inl rfl, trivial⟩, rfl, rfl⟩
  · rw [if_neg ha, if_neg ha]
    conv => whnf
    repeat' ((first
      | contradiction
      | (refine And.intro (fun hb => ?_) (fun hb => ?_) <;> first | contradiction | ((try simp only [SB, reduceCtorEq] at hb); try (exfalso; first | contradiction | omega)))
      | refine And.intro rfl ?_
      | refine ⟨_, IntWalk.i64_in _ (by omega), ?_⟩
      | rw [ints_at (by omega)]
      | rw [ints_at0 (by omega)]
      | rw [ints_at' (by omega) (by omega)]
      | refine And.intro (lens_all rfl) ?_
      | refine And.intro (show _ ≤ _ ∧ (_ + 1) * _ ≤ _ ∧ _ + 1 ≤ _ by first | omega | (simp; omega)) ?_
      | refine And.intro (show 1 * _ ≤ _ ∧ 1 ≤ _ by omega) ?_
      | refine And.intro (by first | omega | (simp; omega) | (show _ ∧ _; simp; done)) ?_
      | refine ⟨_, _, RAutoOk_mk, ?_⟩
      | fail) <;> conv => whnf)
    refine ⟨.inl rfl, ?_⟩
    conv => whnf
    exact ⟨Nat.le_refl 2, [none, none], ⟨rfl, And.intro rfl (And.intro rfl trivial)⟩, ⟨⟨⟨rfl, rfl, rfl⟩, ⟨rfl, rfl, rfl⟩, trivial⟩, .inl rfl, trivial⟩, rfl, rfl⟩

end Go.Proofs.Ytpfbkblgefddlaa.Ct
