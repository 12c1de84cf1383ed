/- Part 6 of the proof of FnDegenSaid: CtFar to CtPath1. Conditions: none. -/
import Derived.Test.YthanhknkoikbfaaT5
import Derived.Test.YthanhknkoikbfaaT1
import Derived.Test.YthanhknkoikbfaaT4
set_option linter.unusedSimpArgs false
set_option linter.unusedVariables false
namespace Go.Proofs.Ythanhknkoikbfaa.Ct
open Go Go.Proofs Go.Proofs.Ythanhknkoikbfaa.Av Go.Proofs.Ythanhknkoikbfaa.Pl
def c_impl_graph_far : ICode := (.seq (.reg [Ol 4 .mv [.c .snil]]) (.seq (.reg [O1 14 .mv 0, O1 15 .nck 14, O1 16 (.fadr 0) 15, O1 17 .ld1 16, O1 18 .len 17, O2 19 (.mks 1 8 [(.int .i64 0)]) 18 18, O1 5 .mv 19]) (.seq (.seq (.reg [O1 20 .mv 5, O1 21 .len 20, Ol 22 .mv [ci 0]]) (.block 0 (.loop (.seq (.reg [O2 23 (.bin .lss) 22 21]) (.seq (.cond (.t 23) .skip (.exit 0)) (.seq (.block 1 (.seq (.reg [O1 24 .mv 22, O1 6 .mv 24]) (.reg [O1 25 .mv 5, O1 26 .mv 6, O2 27 (.iadr 1) 25 26, Sl (.st 1) [.t 27, ci (-1)]]))) (.reg [Ol 28 (.bin .add) [.t 22, ci 1], O1 22 .mv 28]))))))) (.seq (.reg [Ol 7 .mv [.c .snil]]) (.seq (.seq (.reg [O1 29 .mv 1, O1 30 .len 29, Ol 31 .mv [ci 0]]) (.block 2 (.loop (.seq (.reg [O2 32 (.bin .lss) 31 30]) (.seq (.cond (.t 32) .skip (.exit 2)) (.seq (.block 3 (.seq (.reg [O2 33 (.iadr 1) 29 31, O1 34 .ld1 33, O1 9 .mv 34]) (.seq (.reg [O1 35 .mv 5, O1 36 .mv 9, O2 37 (.iadr 1) 35 36, O1 38 .ld1 37, Ol 39 (.bin .lss) [.t 38, ci 0]]) (.cond (.t 39) (.seq (.reg [O1 40 .mv 5, O1 41 .mv 9, O2 42 (.iadr 1) 40 41, Sl (.st 1) [.t 42, ci 0]]) (.reg [O1 43 .mv 7, O1 44 .mv 9, O1 45 (.bslv 1) 44, O2 46 (.app 1 8) 43 45, O1 7 .mv 46])) .skip)))) (.reg [Ol 47 (.bin .add) [.t 31, ci 1], O1 31 .mv 47]))))))) (.seq (.seq (.reg [Ol 10 .mv [ci 0]]) (.block 4 (.loop (.seq (.seq (.reg [O1 48 .mv 10, O1 49 .mv 7, O1 50 .len 49, O2 51 (.bin .lss) 48 50]) (.cond (.t 51) .skip (.exit 4))) (.seq (.block 5 (.seq (.reg [O1 54 .mv 7, O1 55 .mv 10, O2 56 (.iadr 1) 54 55, O1 57 .ld1 56, O1 11 .mv 57]) (.seq (.reg [O1 58 .mv 0, O1 59 .nck 58, O1 60 (.fadr 0) 59, O1 61 .ld1 60, O1 62 .mv 11, O2 63 (.iadr 1) 61 62, O1 64 .ld1 63, O1 65 .len 64, Ol 66 .mv [ci 0]]) (.block 6 (.loop (.seq (.reg [O2 67 (.bin .lss) 66 65]) (.seq (.cond (.t 67) .skip (.exit 6)) (.seq (.block 7 (.seq (.reg [O2 68 (.iadr 2) 64 66, O1 69 (.ldn 2) 68, O0 13 (.alc [(.int .i64 0), (.int .i64 0)]), S2 (.st 2) 13 69]) (.seq (.reg [O1 70 .mv 5, O1 71 (.fadr 0) 13, O1 72 .ld1 71, O2 73 (.iadr 1) 70 72, O1 74 .ld1 73, Ol 75 (.bin .lss) [.t 74, ci 0]]) (.cond (.t 75) (.seq (.drw [O1 76 .mv 5, O1 77 (.fadr 0) 13, O1 78 .ld1 77, O1 79 .mv 5, O1 80 .mv 11, O2 81 (.iadr 1) 79 80, O1 82 .ld1 81, Ol 83 (.bin .add) [.t 82, ci 1], O2 84 (.iadr 1) 76 78, S2 (.st 1) 84 83] (unB [0, 0, 2, 0, 0, 24, 56, 120, 255, 511] 0) true true) (.reg [O1 85 .mv 7, O1 86 (.fadr 0) 13, O1 87 .ld1 86, O1 88 (.bslv 1) 87, O2 89 (.app 1 8) 85 88, O1 7 .mv 89])) .skip)))) (.reg [Ol 90 (.bin .add) [.t 66, ci 1], O1 66 .mv 90]))))))))) (.reg [O1 52 .mv 10, Ol 53 (.bin .add) [.t 52, ci 1], O1 10 .mv 53])))))) (.seq (.reg [O1 91 .mv 5, O1 4 .mv 91]) .ret)))))))
theorem b_impl_graph_far : Body Try.prog 103 92 c_impl_graph_far [(.t 4)] := body_mk Try.func103 (by kernel_rfl) (by decide)
def natsI (l : List Nat) : List Int := l.map fun n : Nat => (n : Int)
@[simp] theorem length_natsI (l : List Nat) : (natsI l).length = l.length := by simp [natsI]
theorem natsI_at {l : List Nat} {i : Nat} (h : i < l.length) : (ints (natsI l))[((i : Nat) : Int).toNat]? = some [.int .i64 ((l.getD i 0 : Nat) : Int)] := by
  simp [ints, natsI, List.getElem?_map, List.getElem?_eq_getElem h, List.getD_eq_getElem?_getD]
theorem natsI_at0 {l : List Nat} {i : Nat} (h : i < l.length) : (ints (natsI l))[0 + ((i : Nat) : Int).toNat]? = some [.int .i64 ((l.getD i 0 : Nat) : Int)] := by
  rw [Nat.zero_add]; exact natsI_at h
theorem natsI_app {l : List Nat} {p : Nat} {k : Nat} (hk : k = l.length) : List.take k (ints (natsI l)) ++ [[.int .i64 ((p : Nat) : Int)]] = ints (natsI (l ++ [p])) := by
  subst hk
  rw [List.take_of_length_le (by simp [ints])]
  simp [ints, natsI]
theorem ints_set {d : List Int} {p : Nat} {v : Int} : (ints d).set (0 + ((p : Nat) : Int).toNat) [.int .i64 v] = ints (d.set p v) := by
  simp [ints, List.map_set]
theorem neg_set {n i : Nat} (h : i < n) : (ints (List.replicate i (-1) ++ List.replicate (n - i) 0)).set (0 + ((i : Nat) : Int).toNat) [.int .i64 (-1)] = ints (List.replicate (i + 1) (-1) ++ List.replicate (n - (i + 1)) 0) := by
  rw [ints_set]
  congr 1
  obtain ⟨m, hm⟩ : ∃ m, n - i = m + 1 := ⟨n - i - 1, by omega⟩
  rw [List.set_append_right _ _ (by simp), List.length_replicate, Nat.sub_self, hm, List.replicate_succ, List.set_cons_zero, show n - (i + 1) = m by omega, List.replicate_succ']
  simp
theorem neg_at {n i : Nat} (h : i < n) : (ints (List.replicate i (-1) ++ List.replicate (n - i) 0))[0 + ((i : Nat) : Int).toNat]? = some [.int .i64 0] := by
  unfold ints
  rw [Nat.zero_add, Int.toNat_natCast, List.map_append, List.getElem?_append_right (by simp)]
  simp [List.getElem?_replicate]
  omega
def RFar (xs : List AV) (r : AV) (objs : List AObj) : Prop := ∃ G src, xs = [.rptr [.val (gRows G)] 0, .val (ints (natsI src))] ∧ GOk G ∧ G.length ≤ 100000 ∧ steps G ≤ 1000000000 ∧ (∀ p ∈ src, p < G.length) ∧ src.length ≤ 100000 ∧
  r = .ref 0 0 G.length ∧ objs = [.arr 1 (ints (farL (Adj G) (· ∈ src) G.length))]
theorem RFar_eq {xs : List AV} {G : GraphD} {src : List Nat} (hx : xs = [.rptr [.val (gRows G)] 0, .val (ints (natsI src))]) (h : GOk G) (h1 : G.length ≤ 100000) (h4 : steps G ≤ 1000000000) (h2 : ∀ p ∈ src, p < G.length) (h3 : src.length ≤ 100000) :
    RFar xs (.ref 0 0 G.length) [.arr 1 (ints (farL (Adj G) (· ∈ src) G.length))] := ⟨G, src, hx, h, h1, h4, h2, h3, rfl, rfl⟩
set_option maxHeartbeats 8000000 in
theorem s_impl_far : PureSound Try.prog 103 RFar := by
  have hR : Rely Try.prog (ctxOf []) := rely_nil mixed
  refine pure_of_aw b_impl_graph_far ?_
  rintro xs r objs ⟨G, src, rfl, hG, hn, hst, hsrc, hsl, rfl, rfl⟩ -
  have hle := length_gRows G
  have hA : ∀ p r, p < G.length → Adj G p r → r < G.length := fun p r _ ha => (adj_lt hG ha).2
  have hAS : ∀ p, p ∈ src → p < G.length := hsrc
  refine ⟨by simp, vc2_sound hR _ _ _ _ _ ?_⟩
  conv => whnf
  repeat' ((first | contradiction | (refine And.intro (fun hb => ?_) (fun hb => ?_) <;> first | contradiction | ((try simp only [SB, reduceCtorEq] at hb); try (exfalso; first | contradiction | omega))) | refine G2 ?_ | rw [ints_at (by omega)] | rw [ints_at0 (by omega)] | rw [ints_at' (by omega) (by omega)] | refine G1 ?_ | rw [hle] | fail) <;> conv => whnf)
  -- all are untold
  refine Lp.intro (α := Nat) (fun i => i ≤ G.length) (fun i => G.length - i) (fun i => [(0, .rptr [.val (gRows G)] 0), (1, .val (ints (natsI src))), (5, .ref 0 0 G.length), (21, .int .i64 G.length), (22, .int .i64 i)]) (fun i => [some (.arr 1 (ints (List.replicate i (-1) ++ List.replicate (G.length - i) 0)))]) ?_ ?_
  · refine ⟨0, by omega, [some 0], rfl, rfl, And.intro (And.intro rfl ?_) trivial, ?_⟩
    · simp [ints]
    · repeat' (first
        | exact trivial
        | refine ⟨?_, ?_⟩
        | fail)
      all_goals first
        | with_reducible rfl
        | (conv => whnf
           try left
           conv => lhs; whnf
           first
             | rfl
             | exact congrArg (AV.int .i64) (by omega)
             | skip)
  intro i hi
  refine vc2_sound hR _ _ _ _ _ ?_
  by_cases hlt : i < G.length
  · conv => whnf
    repeat' ((first | contradiction | (refine And.intro (fun hb => ?_) (fun hb => ?_) <;> first | contradiction | ((try simp only [SB, reduceCtorEq] at hb); try (exfalso; first | contradiction | omega))) | refine G2 ?_ | rw [ints_at (by omega)] | rw [ints_at0 (by omega)] | rw [ints_at' (by omega) (by omega)] | refine G1 ?_ | rw [neg_at hlt] | fail) <;> conv => whnf)
    refine ⟨i + 1, by omega, by omega, [some 0], rfl, rfl, And.intro (And.intro rfl (neg_set hlt)) trivial, ?_⟩
    repeat' (first
      | exact trivial
      | refine ⟨?_, ?_⟩
      | fail)
    all_goals first
      | with_reducible rfl
      | (conv => whnf
         try left
         conv => lhs; whnf
         first
           | rfl
           | exact congrArg (AV.int .i64) (by omega)
           | skip)
  obtain rfl : i = G.length := by omega
  clear hi hlt
  conv => whnf
  repeat' ((first | contradiction | (refine And.intro (fun hb => ?_) (fun hb => ?_) <;> first | contradiction | ((try simp only [SB, reduceCtorEq] at hb); try (exfalso; first | contradiction | omega))) | refine G2 ?_ | rw [ints_at (by omega)] | rw [ints_at0 (by omega)] | rw [ints_at' (by omega) (by omega)] | refine G1 ?_ | rw [length_ints, length_natsI] | fail) <;> conv => whnf)
  -- the beginning
  refine Lp.intro (α := List Int × List Nat × Nat) (fun a => Ini G.length src a.1 a.2.1 a.2.2 ∧ a.2.2 ≤ src.length) (fun a => src.length - a.2.2)
    (fun a => [(0, .rptr [.val (gRows G)] 0), (5, .ref 0 0 G.length), (7, .ref 1 0 a.2.1.length), (29, .val (ints (natsI src))), (30, .int .i64 src.length), (31, .int .i64 a.2.2)]) (fun a => [some (.arr 1 (ints a.1)), some (.arr 1 (ints (natsI a.2.1)))]) ?_ ?_
  · refine ⟨(List.replicate G.length (-1), [], 0), ⟨ini_start _ _, Nat.zero_le _⟩, [some 0, none], rfl, rfl, And.intro (And.intro rfl ?_) (And.intro rfl trivial), ?_⟩
    · simp
    · refine ⟨.inl rfl, rfl, ⟨rfl, rfl, rfl⟩, .inl rfl, .inl rfl, .inl rfl, trivial⟩
  rintro ⟨d, q, i⟩ ⟨hI, hi⟩
  dsimp only at hI hi ⊢
  have hdl := hI.len
  have hql := hI.num
  have hdi := length_ints d
  have hqi := (length_ints (natsI q)).trans (length_natsI q)
  refine vc2_sound hR _ _ _ _ _ ?_
  by_cases hlt : i < src.length
  · have hp : src.getD i 0 < G.length := hsrc _ (by rw [List.getD_eq_getElem?_getD, List.getElem?_eq_getElem hlt]; exact List.getElem_mem hlt)
    conv => whnf
    repeat' ((first | contradiction | (refine And.intro (fun hb => ?_) (fun hb => ?_) <;> first | contradiction | ((try simp only [SB, reduceCtorEq] at hb); try (exfalso; first | contradiction | omega))) | refine G2 ?_ | rw [ints_at (by omega)] | rw [ints_at0 (by omega)] | rw [ints_at' (by omega) (by omega)] | refine G1 ?_ | rw [natsI_at hlt] | rw [ints_at0 (by omega)] | fail) <;> conv => whnf)
    · refine ⟨(d.set (src.getD i 0) 0, q ++ [src.getD i 0], i + 1), ⟨hI.put hlt rfl hp hb, hlt⟩, by dsimp only; omega, [some 0, some 2], rfl, rfl, And.intro (And.intro rfl ints_set) (And.intro (And.intro rfl (natsI_app rfl)) trivial), ?_⟩
      exact ⟨.inl rfl, rfl, congrArg (AV.ref 2 0) (by simp), .inl rfl, .inl rfl, .inl rfl, trivial⟩
    · refine ⟨(d, q, i + 1), ⟨hI.skip (fun _ => by omega), hlt⟩, by dsimp only; omega, [some 0, some 1], rfl, rfl, And.intro (And.intro rfl rfl) (And.intro (And.intro rfl rfl) trivial), ?_⟩
      exact ⟨.inl rfl, rfl, rfl, .inl rfl, .inl rfl, .inl rfl, trivial⟩
  have hB := hI.bfs (A := Adj G) (by omega)
  conv => whnf
  repeat' ((first | contradiction | (refine And.intro (fun hb => ?_) (fun hb => ?_) <;> first | contradiction | ((try simp only [SB, reduceCtorEq] at hb); try (exfalso; first | contradiction | omega))) | refine G2 ?_ | rw [ints_at (by omega)] | rw [ints_at0 (by omega)] | rw [ints_at' (by omega) (by omega)] | refine G1 ?_ | fail) <;> conv => whnf)
  clear hI hlt hi hql hdl hdi hqi
  -- the search
  refine Lp.intro (α := List Int × List Nat × Nat) (fun a => Bfs (Adj G) (· ∈ src) G.length a.1 a.2.1 a.2.2 (fun _ => False) ∧ a.2.2 ≤ a.2.1.length) (fun a => G.length - a.2.2)
    (fun a => [(0, .rptr [.val (gRows G)] 0), (5, .ref 0 0 G.length), (7, .ref 1 0 a.2.1.length), (10, .int .i64 a.2.2)]) (fun a => [some (.arr 1 (ints a.1)), some (.arr 1 (ints (natsI a.2.1)))]) ?_ ?_
  · refine ⟨(d, q, 0), ⟨hB, Nat.zero_le _⟩, [some 0, some 1], rfl, rfl, And.intro (And.intro rfl rfl) (And.intro (And.intro rfl rfl) trivial), ?_⟩
    exact ⟨.inl rfl, rfl, rfl, .inl rfl, trivial⟩
  clear hB hb d q i
  rintro ⟨d, q, i⟩ ⟨hB, hi⟩
  dsimp only at hB hi ⊢
  have hdl := hB.len
  have hql := hB.num
  have hdi := length_ints d
  have hqi := (length_ints (natsI q)).trans (length_natsI q)
  refine vc2_sound hR _ _ _ _ _ ?_
  by_cases hlt : i < q.length
  · have hp := hB.lt i hlt
    have hsl := length_stepRows (G.getD (q.getD i 0) [])
    have hLb := steps_le hp.1
    conv => whnf
    repeat' ((first | contradiction | (refine And.intro (fun hb => ?_) (fun hb => ?_) <;> first | contradiction | ((try simp only [SB, reduceCtorEq] at hb); try (exfalso; first | contradiction | omega))) | refine G2 ?_ | rw [ints_at (by omega)] | rw [ints_at0 (by omega)] | rw [ints_at' (by omega) (by omega)] | refine G1 ?_ | rw [natsI_at0 hlt] | rw [gRows_at (by omega)] | fail) <;> conv => whnf)
    -- the steps of one
    refine Lp.intro (α := List Int × List Nat × Nat) (fun a => Bfs (Adj G) (· ∈ src) G.length a.1 a.2.1 i (fun r => ∃ j, j < a.2.2 ∧ ((G.getD (q.getD i 0) []).getD j default).1 = r) ∧ i < a.2.1.length ∧ a.2.1.getD i 0 = q.getD i 0 ∧ a.2.2 ≤ (G.getD (q.getD i 0) []).length) (fun a => (G.getD (q.getD i 0) []).length - a.2.2)
      (fun a => [(0, .rptr [.val (gRows G)] 0), (5, .ref 0 0 G.length), (7, .ref 1 0 a.2.1.length), (10, .int .i64 i), (11, .int .i64 ((q.getD i 0 : Nat) : Int)), (64, .val (stepRows (G.getD (q.getD i 0) []))), (65, .int .i64 (G.getD (q.getD i 0) []).length), (66, .int .i64 a.2.2)]) (fun a => [some (.arr 1 (ints a.1)), some (.arr 1 (ints (natsI a.2.1)))]) ?_ ?_
    · refine ⟨(d, q, 0), ⟨hB.see (fun r _ _ _ hr => by obtain ⟨j, hj, _⟩ := hr; dsimp only at hj; omega), hlt, rfl, Nat.zero_le _⟩, [some 0, some 1], rfl, rfl, And.intro (And.intro rfl rfl) (And.intro (And.intro rfl rfl) trivial), ?_⟩
      exact ⟨.inl rfl, rfl, rfl, .inl rfl, .inl rfl, .inl rfl, .inl (congrArg (fun x : Nat => AV.int .i64 x) hsl), .inl rfl, trivial⟩
    generalize hpp : q.getD i 0 = p at *
    generalize hL : G.getD p [] = L at *
    clear hB hdl hql hdi hqi
    rintro ⟨d', q', j⟩ ⟨hC, hi', hqp, hj⟩
    dsimp only at hC hi' hqp hj ⊢
    have hdl := hC.len
    have hql := hC.num
    have hdi := length_ints d'
    have hd0 := (hC.lt i hi').2
    have hqi := (length_ints (natsI q')).trans (length_natsI q')
    have hbnd := hC.bnd i hi'
    rw [hqp] at hbnd hd0
    refine vc2_sound hR _ _ _ _ _ ?_
    by_cases hjl : j < L.length
    · have hs : (L.getD j default).1 < G.length := hG p _ (by rw [hL]; exact getD_mem' hjl)
      have hadj : Adj G (q'.getD i 0) (L.getD j default).1 := by
        rw [hqp]
        exact ⟨(L.getD j default).2, by rw [hL]; exact getD_mem' hjl⟩
      conv => whnf
      repeat' ((first | contradiction | (refine And.intro (fun hb => ?_) (fun hb => ?_) <;> first | contradiction | ((try simp only [SB, reduceCtorEq] at hb); try (exfalso; first | contradiction | omega))) | refine G2 ?_ | rw [ints_at (by omega)] | rw [ints_at0 (by omega)] | rw [ints_at' (by omega) (by omega)] | refine G1 ?_ | rw [step_at (by omega)] | rw [ints_at0 (by omega)] | fail) <;> conv => whnf)
      · have hpush := hC.push hA hAS hi' hs hadj hb
        rw [hqp] at hpush
        refine ⟨(d'.set (L.getD j default).1 (d'.getD p 0 + 1), q' ++ [(L.getD j default).1], j + 1), ⟨hpush.see (fun r hr _ _ hcr => ?_), by simp; omega, by rw [getD_app, if_pos hi']; exact hqp, hjl⟩, by dsimp only; omega, [some 0, some 3], rfl, rfl, And.intro (And.intro rfl ints_set) (And.intro (And.intro rfl (natsI_app rfl)) trivial), ?_⟩
        · obtain ⟨j', hj', rfl⟩ := hcr
          by_cases hjj : j' = j
          · subst hjj
            refine .inr ?_
            rw [Pl.getD_set, if_pos ⟨rfl, by omega⟩]
            omega
          · exact .inl ⟨j', by dsimp only at hj'; omega, rfl⟩
        · exact ⟨.inl rfl, rfl, congrArg (AV.ref 3 0) (by simp), .inl rfl, .inl rfl, .inl rfl, .inl rfl, .inl rfl, trivial⟩
      · refine ⟨(d', q', j + 1), ⟨hC.see (fun r hr _ _ hcr => ?_), hi', hqp, hjl⟩, by dsimp only; omega, [some 0, some 1], rfl, rfl, And.intro (And.intro rfl rfl) (And.intro (And.intro rfl rfl) trivial), ?_⟩
        · obtain ⟨j', hj', rfl⟩ := hcr
          by_cases hjj : j' = j
          · subst hjj; exact .inr (by omega)
          · exact .inl ⟨j', by dsimp only at hj'; omega, rfl⟩
        · exact ⟨.inl rfl, rfl, rfl, .inl rfl, .inl rfl, .inl rfl, .inl rfl, .inl rfl, trivial⟩
    · conv => whnf
      repeat' ((first | contradiction | (refine And.intro (fun hb => ?_) (fun hb => ?_) <;> first | contradiction | ((try simp only [SB, reduceCtorEq] at hb); try (exfalso; first | contradiction | omega))) | refine G2 ?_ | rw [ints_at (by omega)] | rw [ints_at0 (by omega)] | rw [ints_at' (by omega) (by omega)] | refine G1 ?_ | fail) <;> conv => whnf)
      refine ⟨(d', q', i + 1), ⟨hC.next (fun _ r hr ha => ?_), hi'⟩, by dsimp only; omega, [some 0, some 1], rfl, rfl, And.intro (And.intro rfl rfl) (And.intro (And.intro rfl rfl) trivial), ?_⟩
      · rw [hqp] at ha
        obtain ⟨m, hm⟩ := ha
        rw [hL] at hm
        obtain ⟨k, hk, he⟩ := List.getElem_of_mem hm
        refine ⟨k, by omega, ?_⟩
        rw [List.getD_eq_getElem?_getD, List.getElem?_eq_getElem hk]
        simp [he]
      · exact ⟨.inl rfl, rfl, rfl, .inl rfl, trivial⟩
  · have hfin := hB.fin hA hAS (by omega)
    conv => whnf
    repeat' ((first | contradiction | (refine And.intro (fun hb => ?_) (fun hb => ?_) <;> first | contradiction | ((try simp only [SB, reduceCtorEq] at hb); try (exfalso; first | contradiction | omega))) | refine G2 ?_ | rw [ints_at (by omega)] | rw [ints_at0 (by omega)] | rw [ints_at' (by omega) (by omega)] | refine G1 ?_ | fail) <;> conv => whnf)
    refine ⟨.inl rfl, ?_⟩
    conv => whnf
    subst hfin
    exact ⟨[some 0], ⟨rfl, And.intro (And.intro rfl rfl) trivial⟩, rfl, rfl, by simp [AObj.nov, ints_nov]⟩
def c_spec_l6Succ : ICode := (.seq (.reg [O1 2 (.box 5) 0, Ol 4 .mv [.c .snil]]) (.seq (.reg [O1 8 (.fadr 1) 2, O1 9 .ld1 8, Ol 10 (.bin .mul) [ci 8, .t 9], O2 11 (.mks 1 8 [(.int .i64 0)]) 10 10, O1 5 .mv 11]) (.seq (.seq (.reg [Ol 6 .mv [ci 0]]) (.block 0 (.loop (.seq (.seq (.reg [O1 12 .mv 6, O1 13 (.fadr 4) 2, O1 14 .ld1 13, O1 15 .len 14, O2 16 (.bin .lss) 12 15]) (.cond (.t 16) .skip (.exit 0))) (.seq (.block 1 (.seq (.reg [O1 19 (.fadr 4) 2, O1 20 .ld1 19, O1 21 .mv 6, O2 22 (.iadr 4) 20 21, O1 23 (.ldn 4) 22, O0 7 (.alc [(.int .i64 0), (.int .i64 0), (.int .i64 0), (.int .i64 0)]), S2 (.st 4) 7 23]) (.seq (.reg [O1 24 .mv 1]) (.cond (.t 24) (.drw [O1 25 .mv 5, O1 26 (.fadr 2) 7, O1 27 .ld1 26, Ol 28 (.bin .mul) [ci 8, .t 27], O1 29 (.fadr 1) 7, O1 30 .ld1 29, O2 31 (.bin .add) 28 30, O1 32 .mv 5, O1 33 (.fadr 2) 7, O1 34 .ld1 33, Ol 35 (.bin .mul) [ci 8, .t 34], O1 36 (.fadr 1) 7, O1 37 .ld1 36, O2 38 (.bin .add) 35 37, O2 39 (.iadr 1) 32 38, O1 40 .ld1 39, O1 41 (.fadr 0) 7, O1 42 .ld1 41, O1 43 (.call 123) 42, O2 44 (.bin .or) 40 43, O2 45 (.iadr 1) 25 31, S2 (.st 1) 45 44] (unB [0, 0, 2, 6, 0, 16, 62, 0, 0, 256, 768, 0, 2048, 7936, 16256, 32640, 0, 65536, 196608, 524160, 1048575, 2097151] 0) true true) (.drw [O1 46 .mv 5, O1 47 (.fadr 0) 7, O1 48 .ld1 47, Ol 49 (.bin .mul) [ci 8, .t 48], O1 50 (.fadr 1) 7, O1 51 .ld1 50, O2 52 (.bin .add) 49 51, O1 53 .mv 5, O1 54 (.fadr 0) 7, O1 55 .ld1 54, Ol 56 (.bin .mul) [ci 8, .t 55], O1 57 (.fadr 1) 7, O1 58 .ld1 57, O2 59 (.bin .add) 56 58, O2 60 (.iadr 1) 53 59, O1 61 .ld1 60, O1 62 (.fadr 2) 7, O1 63 .ld1 62, O1 64 (.call 123) 63, O2 65 (.bin .or) 61 64, O2 66 (.iadr 1) 46 52, S2 (.st 1) 66 65] (unB [0, 0, 2, 6, 0, 16, 62, 0, 0, 256, 768, 0, 2048, 7936, 16256, 32640, 0, 65536, 196608, 524160, 1048575, 2097151] 0) true true))))) (.reg [O1 17 .mv 6, Ol 18 (.bin .add) [.t 17, ci 1], O1 6 .mv 18])))))) (.seq (.reg [O1 67 .mv 5, O1 4 .mv 67]) .ret))))
theorem b_spec_l6Succ : Body Try.prog 170 68 c_spec_l6Succ [(.t 4)] := body_mk Try.func170 (by kernel_rfl) (by decide)
def keyE (back : Bool) (e : GEdgeD) : Nat := if back = true then 8 * e.dst.toNat + e.letter.toNat else 8 * e.src.toNat + e.letter.toNat
def valE (back : Bool) (e : GEdgeD) : Nat := if back = true then e.src.toNat else e.dst.toNat
def succI (g : GenD) (back : Bool) (k : Nat) : Nat → Nat
  | 0 => 0
  | i + 1 => if keyE back (g.edges.getD i default) = k then succI g back k i ||| 2 ^ valE back (g.edges.getD i default) else succI g back k i
def succL (g : GenD) (back : Bool) (i : Nat) : List Nat := (List.range (8 * g.states.toNat)).map fun k => succI g back k i
@[simp] theorem length_succL (g : GenD) (back : Bool) (i : Nat) : (succL g back i).length = 8 * g.states.toNat := by simp [succL]
theorem succL_at {g : GenD} {back : Bool} {i k : Nat} (h : k < 8 * g.states.toNat) : (succL g back i).getD k 0 = succI g back k i := by simp [succL, h]
theorem bit_succI {g : GenD} {back : Bool} {k q : Nat} : ∀ {i : Nat}, (succI g back k i).testBit q = true ↔ ∃ j, j < i ∧ keyE back (g.edges.getD j default) = k ∧ valE back (g.edges.getD j default) = q
  | 0 => by simp [succI]
  | i + 1 => by
    unfold succI
    split
    · rename_i h
      rw [testBit_ins, bit_succI (i := i)]
      constructor
      · rintro (⟨j, h1, h2⟩ | rfl)
        · exact ⟨j, by omega, h2⟩
        · exact ⟨i, by omega, h, rfl⟩
      · rintro ⟨j, h1, h2, h3⟩
        by_cases hj : j = i
        · subst hj; exact .inr h3.symm
        · exact .inl ⟨j, by omega, h2, h3⟩
    · rename_i h
      rw [bit_succI (i := i)]
      constructor
      · rintro ⟨j, h1, h2⟩; exact ⟨j, by omega, h2⟩
      · rintro ⟨j, h1, h2, h3⟩
        by_cases hj : j = i
        · subst hj; exact absurd h2 h
        · exact ⟨j, by omega, h2, h3⟩
theorem gin {g : GenD} (h : GenOk g) {j : Nat} (hj : j < g.edges.length) : GIn g (g.edges.getD j default) := (h.2.2.2 j hj).1
theorem val_lt {g : GenD} (h : GenOk g) {back : Bool} {j : Nat} (hj : j < g.edges.length) : valE back (g.edges.getD j default) < g.states.toNat := by
  have hi := gin h hj
  unfold GIn at hi
  unfold valE
  split <;> omega
theorem key_lt {g : GenD} (h : GenOk g) {back : Bool} {j : Nat} (hj : j < g.edges.length) : keyE back (g.edges.getD j default) < 8 * g.states.toNat := by
  have hi := gin h hj
  have hl := h.1.1
  unfold GIn at hi
  unfold keyE
  split <;> omega
theorem succI_lt {g : GenD} (h : GenOk g) {back : Bool} {k i : Nat} (hi : i ≤ g.edges.length) : succI g back k i < 2 ^ 31 :=
  Nat.lt_of_lt_of_le (lt_two_pow_of (n := g.states.toNat) fun q hq => by
    obtain ⟨j, h1, _, rfl⟩ := bit_succI.1 hq
    exact val_lt h (by omega)) (Nat.pow_le_pow_right (by decide) (by have := h.1.2.1; omega))
theorem succL_set {g : GenD} (h : GenOk g) {back : Bool} {i : Nat} (hi : i < g.edges.length) :
    (natsI (succL g back i)).set (keyE back (g.edges.getD i default)) ((succI g back (keyE back (g.edges.getD i default)) i ||| 2 ^ valE back (g.edges.getD i default) : Nat) : Int) = natsI (succL g back (i + 1)) := by
  refine List.ext_getElem (by simp) fun k h1 h2 => ?_
  have hk : k < 8 * g.states.toNat := by simpa using h2
  rw [List.getElem_set]
  simp only [natsI, succL, List.getElem_map, List.getElem_range, succI]
  split
  · rename_i hkk
    subst hkk
    rfl
  · rfl
def RSucc (xs : List AV) (r : AV) (objs : List AObj) : Prop := ∃ (g : GenD) (back : Bool), xs = [.agg (genRow g), .bool back] ∧ GenOk g ∧ r = .ref 0 0 (8 * g.states.toNat) ∧ objs = [.arr 1 (ints (natsI (succL g back g.edges.length)))]
theorem RSucc_eq {xs : List AV} {g : GenD} {back : Bool} (hx : xs = [.agg (genRow g), .bool back]) (h : GenOk g) : RSucc xs (.ref 0 0 (8 * g.states.toNat)) [.arr 1 (ints (natsI (succL g back g.edges.length)))] := ⟨g, back, hx, h, rfl, rfl⟩
set_option maxHeartbeats 8000000 in
theorem s_spec_l6Succ : PureSound Try.prog 170 RSucc := by
  have hR : Rely Try.prog (ctxOf [(123, .pure RBit)]) := rely_cons b_spec_l1Bit.has s_spec_l1Bit (rely_nil mixed)
  refine pure_of_aw b_spec_l6Succ ?_
  rintro xs r objs ⟨g, back, rfl, hg, rfl, rfl⟩ -
  have hs := hg.1.2.1
  have hlt := hg.1.1
  have hel := length_gedgeRows g.edges
  have hl := hg.2.2.1
  refine ⟨by simp, vc2_sound hR _ _ _ _ _ ?_⟩
  conv => whnf
  repeat' ((first | contradiction | (refine And.intro (fun hb => ?_) (fun hb => ?_) <;> first | contradiction | ((try simp only [SB, reduceCtorEq] at hb); try (exfalso; first | contradiction | omega))) | refine G2 ?_ | rw [ints_at (by omega)] | rw [ints_at0 (by omega)] | rw [ints_at' (by omega) (by omega)] | refine G1 ?_ | fail) <;> conv => whnf)
  refine Lp.intro (α := Nat) (fun i => i ≤ g.edges.length) (fun i => g.edges.length - i) (fun i => [(1, .bool back), (2, .rptr (genRow g) 0), (5, .ref 0 0 (8 * g.states.toNat)), (6, .int .i64 i)]) (fun i => [some (.arr 1 (ints (natsI (succL g back i))))]) ?_ ?_
  · refine ⟨0, Nat.zero_le _, [some 1], rfl, rfl, And.intro (And.intro rfl ?_) trivial, ?_⟩
    · rw [show (8 * g.states).toNat = 8 * g.states.toNat by omega]
      simp [natsI, succL, succI, ints, List.map_const']
    · exact ⟨.inl rfl, .inr rfl, congrArg (AV.ref 1 0) (by omega), .inl rfl, trivial⟩
  intro i hi
  have hqi := (length_ints (natsI (succL g back i))).trans ((length_natsI _).trans (length_succL g back i))
  refine vc2_sound hR _ _ _ _ _ ?_
  by_cases hil : i < g.edges.length
  · have he := gin hg hil
    have hat := gedge_at hil
    have hset := succL_set hg (back := back) hil
    have hkl := key_lt hg (back := back) hil
    have h31 := succI_lt hg (back := back) (k := keyE back (g.edges.getD i default)) hi
    have hnat := natsI_at0 (l := succL g back i) (i := keyE back (g.edges.getD i default)) (by rw [length_succL]; exact hkl)
    rw [succL_at hkl] at hnat
    unfold GIn at he
    rw [Int.toNat_natCast] at hnat
    generalize g.edges.getD i default = e at *
    cases back
    all_goals
      simp only [keyE, valE, if_true, Bool.false_eq_true, if_false] at hset hkl h31 hnat
    · rw [show 8 * e.src.toNat + e.letter.toNat = (8 * e.src + e.letter).toNat by omega] at hnat hset h31
      conv => whnf
      repeat' ((first | contradiction | (refine And.intro (fun hb => ?_) (fun hb => ?_) <;> first | contradiction | ((try simp only [SB, reduceCtorEq] at hb); try (exfalso; first | contradiction | omega))) | refine G2 ?_ | rw [ints_at (by omega)] | rw [ints_at0 (by omega)] | rw [ints_at' (by omega) (by omega)] | refine G1 ?_ | rw [hat] | refine ⟨_, _, RBit_mk (by omega) (by omega), ?_⟩ | rw [hnat] | fail) <;> conv => whnf)
      refine ⟨i + 1, hil, by omega, [some 0], rfl, rfl, And.intro (And.intro rfl ?_) trivial, ?_⟩
      · rw [← hset, ← ints_set, Int.toNat_natCast, or_bit h31 (by omega) (by omega)]
      · exact ⟨.inl rfl, .inl rfl, rfl, .inl rfl, trivial⟩
    · rw [show 8 * e.dst.toNat + e.letter.toNat = (8 * e.dst + e.letter).toNat by omega] at hnat hset h31
      conv => whnf
      repeat' ((first | contradiction | (refine And.intro (fun hb => ?_) (fun hb => ?_) <;> first | contradiction | ((try simp only [SB, reduceCtorEq] at hb); try (exfalso; first | contradiction | omega))) | refine G2 ?_ | rw [ints_at (by omega)] | rw [ints_at0 (by omega)] | rw [ints_at' (by omega) (by omega)] | refine G1 ?_ | rw [hat] | refine ⟨_, _, RBit_mk (by omega) (by omega), ?_⟩ | rw [hnat] | fail) <;> conv => whnf)
      refine ⟨i + 1, hil, by omega, [some 0], rfl, rfl, And.intro (And.intro rfl ?_) trivial, ?_⟩
      · rw [← hset, ← ints_set, Int.toNat_natCast, or_bit h31 (by omega) (by omega)]
      · exact ⟨.inl rfl, .inl rfl, rfl, .inl rfl, trivial⟩
  · obtain rfl : i = g.edges.length := by omega
    conv => whnf
    repeat' ((first | contradiction | (refine And.intro (fun hb => ?_) (fun hb => ?_) <;> first | contradiction | ((try simp only [SB, reduceCtorEq] at hb); try (exfalso; first | contradiction | omega))) | refine G2 ?_ | rw [ints_at (by omega)] | rw [ints_at0 (by omega)] | rw [ints_at' (by omega) (by omega)] | refine G1 ?_ | fail) <;> conv => whnf)
    refine ⟨.inl rfl, ?_⟩
    conv => whnf
    exact ⟨[some 0], ⟨rfl, And.intro (And.intro rfl rfl) trivial⟩, rfl, rfl, by simp [AObj.nov, ints_nov]⟩
def c_spec_l6Step : ICode := (.seq (.reg [Ol 6 .mv [ci 0]]) (.seq (.reg [Ol 7 .mv [ci 0]]) (.seq (.seq (.reg [Ol 8 .mv [ci 0]]) (.block 0 (.loop (.seq (.seq (.reg [O1 9 .mv 8, Ol 10 (.bin .mul) [ci 8, .t 9], O1 11 .mv 0, O1 12 .len 11, O2 13 (.bin .lss) 10 12]) (.cond (.t 13) .skip (.exit 0))) (.seq (.block 1 (.seq (.reg [O1 16 .mv 1, O1 17 .mv 8, O2 18 (.call 73) 16 17]) (.cond (.t 18) (.reg [O1 19 .mv 7, O1 20 .mv 0, O1 21 .mv 8, Ol 22 (.bin .mul) [ci 8, .t 21], O1 23 .mv 2, O2 24 (.bin .add) 22 23, O2 25 (.iadr 1) 20 24, O1 26 .ld1 25, O2 27 (.bin .or) 19 26, O1 7 .mv 27]) .skip))) (.reg [O1 14 .mv 8, Ol 15 (.bin .add) [.t 14, ci 1], O1 8 .mv 15])))))) (.seq (.reg [O1 28 .mv 7, O1 6 .mv 28]) .ret))))
theorem b_spec_l6Step : Body Try.prog 173 29 c_spec_l6Step [(.t 6)] := body_mk Try.func173 (by kernel_rfl) (by decide)
def stpI (g : GenD) (bk : Bool) (X x : Nat) : Nat → Nat
  | 0 => 0
  | s + 1 => if X.testBit s = true then stpI g bk X x s ||| succI g bk (8 * s + x) g.edges.length else stpI g bk X x s
def stepB (g : GenD) (bk : Bool) (X x : Nat) : Nat := stpI g bk X x g.states.toNat
abbrev stepG (g : GenD) (X x : Nat) : Nat := stepB g false X x
theorem bit_stpI {g : GenD} {bk : Bool} {X x q : Nat} : ∀ {s : Nat}, (stpI g bk X x s).testBit q = true ↔ ∃ p, p < s ∧ X.testBit p = true ∧ (succI g bk (8 * p + x) g.edges.length).testBit q = true
  | 0 => by simp [stpI]
  | s + 1 => by
    unfold stpI
    split
    · rename_i h
      rw [Nat.testBit_or, Bool.or_eq_true, bit_stpI (s := s)]
      constructor
      · rintro (⟨p, h1, h2⟩ | h1)
        · exact ⟨p, by omega, h2⟩
        · exact ⟨s, by omega, h, h1⟩
      · rintro ⟨p, h1, h2, h3⟩
        by_cases hp : p = s
        · subst hp; exact .inr h3
        · exact .inl ⟨p, by omega, h2, h3⟩
    · rename_i h
      rw [bit_stpI (s := s)]
      constructor
      · rintro ⟨p, h1, h2⟩; exact ⟨p, by omega, h2⟩
      · rintro ⟨p, h1, h2, h3⟩
        by_cases hp : p = s
        · subst hp; exact absurd h2 h
        · exact ⟨p, by omega, h2, h3⟩
theorem stpI_lt {g : GenD} (h : GenOk g) {bk : Bool} {X x s : Nat} : stpI g bk X x s < 2 ^ g.states.toNat := lt_two_pow_of fun q hq => by
  obtain ⟨p, _, _, h3⟩ := bit_stpI.1 hq
  obtain ⟨j, h4, _, rfl⟩ := bit_succI.1 h3
  exact val_lt h h4
theorem bit_stepG {g : GenD} (h : GenOk g) {X x q : Nat} (hx : x < 8) : (stepG g X x).testBit q = true ↔ ∃ e ∈ g.edges, e.letter = x ∧ X.testBit e.src.toNat = true ∧ e.dst.toNat = q := by
  unfold stepG stepB
  rw [bit_stpI]
  have hl := h.1.1
  constructor
  · rintro ⟨p, h1, h2, h3⟩
    obtain ⟨j, h4, h5, h6⟩ := bit_succI.1 h3
    have hi := gin h h4
    unfold GIn at hi
    simp only [keyE, valE, Bool.false_eq_true, if_false] at h5 h6
    refine ⟨g.edges.getD j default, getD_mem' h4, by omega, ?_, h6⟩
    rw [show (g.edges.getD j default).src.toNat = p by omega]
    exact h2
  · rintro ⟨e, he, h1, h2, h3⟩
    obtain ⟨j, hj, rfl⟩ : ∃ j, j < g.edges.length ∧ g.edges.getD j default = e := by
      obtain ⟨i, hi, rfl⟩ := List.getElem_of_mem he
      exact ⟨i, hi, by rw [List.getD_eq_getElem?_getD, List.getElem?_eq_getElem hi]; rfl⟩
    have hi := gin h hj
    unfold GIn at hi
    refine ⟨(g.edges.getD j default).src.toNat, by omega, h2, bit_succI.2 ⟨j, hj, ?_, ?_⟩⟩
    · simp only [keyE, Bool.false_eq_true, if_false]; omega
    · simp only [valE, Bool.false_eq_true, if_false]; exact h3
def RStepG (xs : List AV) (r : AV) (objs : List AObj) : Prop := ∃ (g : GenD) (bk : Bool) (X x : Nat), xs = [.val (ints (natsI (succL g bk g.edges.length))), .int .i64 ((X : Nat) : Int), .int .i64 ((x : Nat) : Int)] ∧ GenOk g ∧ X < 2 ^ 31 ∧ x < 8 ∧ r = .int .i64 ((stepB g bk X x : Nat) : Int) ∧ objs = []
theorem RStepG_eq {xs : List AV} {g : GenD} {bk : Bool} {X x : Nat} (hx : xs = [.val (ints (natsI (succL g bk g.edges.length))), .int .i64 ((X : Nat) : Int), .int .i64 ((x : Nat) : Int)]) (h : GenOk g) (h1 : X < 2 ^ 31) (h2 : x < 8) : RStepG xs (.int .i64 ((stepB g bk X x : Nat) : Int)) [] := ⟨g, bk, X, x, hx, h, h1, h2, rfl, rfl⟩
theorem natsI_getD {l : List Nat} {i : Nat} (h : i < l.length) : (natsI l).getD i 0 = ((l.getD i 0 : Nat) : Int) := by
  simp [natsI, List.getD_eq_getElem?_getD, h]
set_option maxHeartbeats 4000000 in
theorem s_spec_l6Step : PureSound Try.prog 173 RStepG := by
  have hR : Rely Try.prog (ctxOf [(73, .pure RHas)]) := rely_cons b_spec_l1Has.has s_spec_l1Has (rely_nil mixed)
  refine pure_of_aw b_spec_l6Step ?_
  rintro xs r objs ⟨g, bk, X, x, rfl, hg, hX, hx, rfl, rfl⟩ -
  have hs := hg.1.2.1
  have hqi := (length_ints (natsI (succL g bk g.edges.length))).trans ((length_natsI _).trans (length_succL g bk _))
  have hqn := (length_natsI (succL g bk g.edges.length)).trans (length_succL g bk _)
  refine ⟨by simp, vc2_sound hR _ _ _ _ _ ?_⟩
  conv => whnf
  repeat' ((first | contradiction | (refine And.intro (fun hb => ?_) (fun hb => ?_) <;> first | contradiction | ((try simp only [SB, reduceCtorEq] at hb); try (exfalso; first | contradiction | omega))) | refine G2 ?_ | rw [ints_at (by omega)] | rw [ints_at0 (by omega)] | rw [ints_at' (by omega) (by omega)] | refine G1 ?_ | fail) <;> conv => whnf)
  refine Lp.intro (α := Nat) (fun s => s ≤ g.states.toNat) (fun s => g.states.toNat - s) (fun s => [(0, .val (ints (natsI (succL g bk g.edges.length)))), (1, .int .i64 X), (2, .int .i64 x), (7, .int .i64 ((stpI g bk X x s : Nat) : Int)), (8, .int .i64 s)]) (fun _ => []) ?_ ?_
  · refine ⟨0, Nat.zero_le _, [], rfl, rfl, trivial, ?_⟩
    exact ⟨.inl rfl, .inl rfl, .inl rfl, .inl rfl, .inl rfl, trivial⟩
  intro s hsl
  refine vc2_sound hR _ _ _ _ _ ?_
  by_cases hlt : s < g.states.toNat
  · have hst := Nat.lt_of_lt_of_le (stpI_lt hg (bk := bk) (X := X) (x := x) (s := s)) (Nat.pow_le_pow_right (n := 2) (by decide) (show g.states.toNat ≤ 31 by omega))
    have h31 := succI_lt hg (back := bk) (k := 8 * s + x) (Nat.le_refl _)
    have hat := natsI_at (l := succL g bk g.edges.length) (i := 8 * s + x) (by rw [length_succL]; omega)
    rw [succL_at (by omega), Int.toNat_natCast, show 8 * s + x = (8 * ((s : Nat) : Int) + ((x : Nat) : Int)).toNat by omega] at hat
    rw [show 8 * s + x = (8 * ((s : Nat) : Int) + ((x : Nat) : Int)).toNat by omega] at h31
    have hyes : X.testBit s = true → IntKind.i64.wrap (BitVec.ofInt IntKind.i64.bits ((stpI g bk X x s : Nat) : Int) ||| BitVec.ofInt IntKind.i64.bits ((natsI (succL g bk g.edges.length)).getD (8 * ((s : Nat) : Int) + ((x : Nat) : Int)).toNat 0)).toNat = ((stpI g bk X x (s + 1) : Nat) : Int) := fun h => by
      rw [natsI_getD (by rw [length_succL]; omega), succL_at (by omega), or_val (by omega) (by omega), stpI, if_pos h, show 8 * s + x = (8 * ((s : Nat) : Int) + ((x : Nat) : Int)).toNat by omega]
    have hno : X.testBit s = false → stpI g bk X x (s + 1) = stpI g bk X x s := fun h => by rw [stpI, if_neg (by rw [h]; decide)]
    conv => whnf
    repeat' ((first | contradiction | (refine And.intro (fun hb => ?_) (fun hb => ?_) <;> first | contradiction | ((try simp only [SB, reduceCtorEq] at hb); try (exfalso; first | contradiction | omega))) | refine G2 ?_ | rw [ints_at (by omega)] | rw [ints_at0 (by omega)] | rw [ints_at' (by omega) (by omega)] | refine G1 ?_ | refine ⟨_, _, RHas_mk hX (by omega) (by omega), ?_⟩ | rw [hat] | fail) <;> conv => whnf)
    · have hfin := hyes (by assumption)
      refine ⟨s + 1, hlt, by omega, [], rfl, rfl, trivial, ?_⟩
      exact ⟨.inl rfl, .inl rfl, .inl rfl, .inl (congrArg (AV.int .i64) hfin), .inl rfl, trivial⟩
    · refine ⟨s + 1, hlt, by omega, [], rfl, rfl, trivial, ?_⟩
      exact ⟨.inl rfl, .inl rfl, .inl rfl, .inl (congrArg (fun x : Nat => AV.int .i64 x) (hno (by assumption)).symm), .inl rfl, trivial⟩
  · obtain rfl : s = g.states.toNat := by omega
    conv => whnf
    repeat' ((first | contradiction | (refine And.intro (fun hb => ?_) (fun hb => ?_) <;> first | contradiction | ((try simp only [SB, reduceCtorEq] at hb); try (exfalso; first | contradiction | omega))) | refine G2 ?_ | rw [ints_at (by omega)] | rw [ints_at0 (by omega)] | rw [ints_at' (by omega) (by omega)] | refine G1 ?_ | fail) <;> conv => whnf)
    refine ⟨.inl rfl, ?_⟩
    conv => whnf
    refine ⟨[], ⟨rfl, trivial⟩, ?_, rfl, rfl⟩
    conv => whnf
    left
    conv => lhs; whnf
    rfl
def c_spec_l6From : ICode := (.seq (.reg [O1 4 (.box 2) 1, Ol 6 .mv [.c .snil]]) (.seq (.reg [O0 12 .bsle, O1 13 .mv 2, O2 14 (.app 1 8) 12 13, O1 7 .mv 14]) (.seq (.reg [Ol 8 .mv [cb true]]) (.seq (.block 0 (.loop (.seq (.seq (.reg [O1 15 .mv 8]) (.cond (.t 15) .skip (.exit 0))) (.block 1 (.seq (.reg [Ol 8 .mv [cb false]]) (.seq (.reg [Ol 9 .mv [ci 0]]) (.block 2 (.loop (.seq (.seq (.reg [O1 16 .mv 9, O1 17 .mv 7, O1 18 .len 17, O2 19 (.bin .lss) 16 18]) (.cond (.t 19) .skip (.exit 2))) (.seq (.block 3 (.seq (.reg [O1 22 (.ldn 2) 4, O1 23 .mv 9, O2 24 (.call 92) 22 23, O1 10 .mv 24]) (.seq (.drw [O1 25 .mv 7, O1 26 .mv 10, O2 27 (.iadr 1) 25 26, O1 28 .ld1 27, O1 29 .mv 0, O1 30 .mv 7, O1 31 .mv 9, O2 32 (.iadr 1) 30 31, O1 33 .ld1 32, O1 34 (.ldn 2) 4, O1 35 .mv 9, O2 36 (.call 93) 34 35, O3 37 (.call 173) 29 33 36, O2 38 (.bin .or) 28 37, O1 11 .mv 38] (unB [0, 0, 3, 7, 0, 0, 0, 96, 224, 0, 0, 1536, 4080, 8191, 16383] 0) true true) (.seq (.reg [O1 39 .mv 11, O1 40 .mv 7, O1 41 .mv 10, O2 42 (.iadr 1) 40 41, O1 43 .ld1 42, O2 44 (.bin .neq) 39 43]) (.cond (.t 44) (.seq (.reg [O1 45 .mv 7, O1 46 .mv 10, O1 47 .mv 11, O2 48 (.iadr 1) 45 46, S2 (.st 1) 48 47]) (.reg [Ol 8 .mv [cb true]])) .skip))))) (.reg [O1 20 .mv 9, Ol 21 (.bin .add) [.t 20, ci 1], O1 9 .mv 21]))))))))))) (.seq (.reg [O1 49 .mv 7, O1 6 .mv 49]) .ret)))))
theorem b_spec_l6From : Body Try.prog 171 50 c_spec_l6From [(.t 6)] := body_mk Try.func171 (by kernel_rfl) (by decide)
inductive PtR (g : GenD) (s l : List Int) (S : List Nat) : Nat → Nat → Prop
  | base {p v : Nat} (h : (S.getD p 0).testBit v = true) : PtR g s l S p v
  | step {p u v : Nat} (h : PtR g s l S p u) (e : GEdgeD) (he : e ∈ g.edges) (h1 : e.letter = letN s l p) (h2 : e.src.toNat = u) (h3 : e.dst.toNat = v) : PtR g s l S (nextN s l p) v
noncomputable def fromL (g : GenD) (s l : List Int) (S : List Nat) : List Nat := (List.range (s.length + l.length)).map fun q => bitsOf (PtR g s l S q) 31
abbrev stP (g : GenD) (s l : List Int) (p X : Nat) : Nat := stepG g X (letN s l p).toNat
abbrev FrG (g : GenD) (s l : List Int) (S L : List Nat) : Prop := Fr (s.length + l.length) (nextN s l) (stP g s l) (PtR g s l S) S L
theorem arg3r {x : AV} {y z y' z' : Int} (h1 : y = y') (h2 : z = z') : [x, .int .i64 y, .int .i64 z] = [x, .int .i64 y', .int .i64 z'] := by rw [h1, h2]
def LetOk (s l : List Int) : Prop := ∀ p, p < s.length + l.length → 0 ≤ letN s l p ∧ letN s l p < 8
theorem stP_ptr {g : GenD} (hg : GenOk g) {s l : List Int} (hw : LetOk s l) {S L : List Nat} (h : FrG g s l S L) {p : Nat} (hp : p < s.length + l.length) : ∀ v, (stP g s l p (L.getD p 0)).testBit v = true → PtR g s l S (nextN s l p) v := by
  intro v hv
  have hl := hw p hp
  obtain ⟨e, he, h1, h2, h3⟩ := (bit_stepG hg (by omega)).1 hv
  exact .step (h.rch p hp _ h2) e he (by omega) rfl h3
theorem from_eq {g : GenD} (hg : GenOk g) {s l : List Int} (hw : LetOk s l) (hl0 : 0 < l.length) {S L : List Nat} (h : FrG g s l S L)
    (hc : ∀ p, p < s.length + l.length → ∀ v, (stP g s l p (L.getD p 0)).testBit v = true → (L.getD (nextN s l p) 0).testBit v = true) (hS : S.length = s.length + l.length) : L = fromL g s l S := by
  have key : ∀ p v, PtR g s l S p v → p < s.length + l.length ∧ (L.getD p 0).testBit v = true := by
    intro p v hv
    induction hv with
    | @base p v hb =>
      have hp : p < s.length + l.length := by
        rw [← hS]
        refine Classical.byContradiction fun hn => ?_
        rw [List.getD_eq_getElem?_getD, List.getElem?_eq_none (by omega)] at hb
        simp at hb
      exact ⟨hp, h.sub p hp v hb⟩
    | @step p u v _ e he h1 h2 h3 ih =>
      have hlp := hw p ih.1
      refine ⟨nextN_lt ih.1 hl0, hc p ih.1 v ((bit_stepG hg (by omega)).2 ⟨e, he, by omega, by rw [h2]; exact ih.2, h3⟩)⟩
  refine List.ext_getElem (by rw [h.len]; simp [fromL]) fun q h1 h2 => ?_
  have hq : q < s.length + l.length := by rw [h.len] at h1; exact h1
  have e1 : L[q] = L.getD q 0 := by rw [List.getD_eq_getElem?_getD, List.getElem?_eq_getElem h1]; rfl
  have e2 : (fromL g s l S)[q] = bitsOf (PtR g s l S q) 31 := by simp [fromL]
  rw [e1, e2]
  refine bits_ext fun v => ?_
  rw [testBit_bitsOf]
  exact ⟨fun hv => ⟨bit_lt (h.lt q hq) hv, h.rch q hq v hv⟩, fun hv => (key q v hv.2).2⟩
def RFromS (xs : List AV) (r : AV) (objs : List AObj) : Prop := ∃ (g : GenD) (s l : List Int) (S : List Nat), xs = [.val (ints (natsI (succL g false g.edges.length))), wordV s l, .val (ints (natsI S))] ∧ GenOk g ∧ LetOk s l ∧ s.length ≤ 100 ∧ l.length ≤ 100 ∧ 0 < l.length ∧ S.length = s.length + l.length ∧ (∀ p, S.getD p 0 < 2 ^ 31) ∧
  r = .ref 0 0 (s.length + l.length) ∧ objs = [.arr 1 (ints (natsI (fromL g s l S)))]
theorem natsI_set {L : List Nat} {q v : Nat} : (ints (natsI L)).set (0 + ((q : Nat) : Int).toNat) [.int .i64 ((v : Nat) : Int)] = ints (natsI (L.set q v)) := by
  rw [ints_set]; simp [natsI, List.map_set]
set_option maxHeartbeats 8000000 in
theorem s_spec_l6From : PureSound Try.prog 171 RFromS := by
  have hR : Rely Try.prog (ctxOf [(92, .pure RAfter), (93, .pure RL3At), (173, .pure RStepG)]) :=
    rely_cons b_spec_l6After.has s_spec_l6After (rely_cons b_spec_l3At.has s_spec_l3At (rely_cons b_spec_l6Step.has s_spec_l6Step (rely_nil mixed)))
  refine pure_of_aw b_spec_l6From ?_
  rintro xs r objs ⟨g, s, l, S, rfl, hg, hw, hs, hl, hl0, hS, hS31, rfl, rfl⟩ -
  have hSi := (length_ints (natsI S)).trans (length_natsI S)
  have hones : ∀ L : List Nat, ∀ r ∈ ints (natsI L), r.length = 1 := fun L r hr => by
    obtain ⟨x, _, rfl⟩ := List.mem_map.1 hr
    rfl
  refine ⟨by simp, vc2_sound hR _ _ _ _ _ ?_⟩
  conv => whnf
  repeat' ((first | contradiction | (refine And.intro (fun hb => ?_) (fun hb => ?_) <;> first | contradiction | ((try simp only [SB, reduceCtorEq] at hb); try (exfalso; first | contradiction | omega))) | refine G2 ?_ | rw [ints_at (by omega)] | rw [ints_at0 (by omega)] | rw [ints_at' (by omega) (by omega)] | refine G1 ?_ | refine And.intro (hones _) ?_ | fail) <;> conv => whnf)
  refine Lp.intro (α := Bool × List Nat) (fun c => FrG g s l S c.2 ∧ (c.1 = false → ∀ p, p < s.length + l.length → ∀ v, (stP g s l p (c.2.getD p 0)).testBit v = true → (c.2.getD (nextN s l p) 0).testBit v = true)) (fun c => if c.1 = true then 31 * (s.length + l.length) + 1 - tot c.2 else 0)
    (fun c => [(0, .val (ints (natsI (succL g false g.edges.length)))), (4, wordP s l), (7, .ref 0 0 (s.length + l.length)), (8, .bool c.1)]) (fun c => [some (.arr 1 (ints (natsI c.2)))]) ?_ ?_
  · refine ⟨(true, S), ⟨⟨hS, fun p _ => hS31 p, fun p _ v h => h, fun p _ v h => .base h⟩, fun h => by cases h⟩, [some 1], rfl, rfl, And.intro (And.intro rfl rfl) trivial, ?_⟩
    exact ⟨.inl rfl, .inr rfl, congrArg (AV.ref 1 0) (by omega), .inl rfl, trivial⟩
  rintro ⟨b, L⟩ ⟨hF, hcl⟩
  dsimp only at hF hcl ⊢
  have htl := tot_le L
  rw [hF.len] at htl
  refine vc2_sound hR _ _ _ _ _ ?_
  cases b
  · have hfin := from_eq hg hw hl0 hF (hcl rfl) hS
    conv => whnf
    repeat' ((first | contradiction | (refine And.intro (fun hb => ?_) (fun hb => ?_) <;> first | contradiction | ((try simp only [SB, reduceCtorEq] at hb); try (exfalso; first | contradiction | omega))) | refine G2 ?_ | rw [ints_at (by omega)] | rw [ints_at0 (by omega)] | rw [ints_at' (by omega) (by omega)] | refine G1 ?_ | fail) <;> conv => whnf)
    refine ⟨.inl rfl, ?_⟩
    conv => whnf
    rw [hfin]
    exact ⟨[some 0], ⟨rfl, And.intro (And.intro rfl rfl) trivial⟩, rfl, rfl, by simp [AObj.nov, ints_nov]⟩
  conv => whnf
  repeat' ((first | contradiction | (refine And.intro (fun hb => ?_) (fun hb => ?_) <;> first | contradiction | ((try simp only [SB, reduceCtorEq] at hb); try (exfalso; first | contradiction | omega))) | refine G2 ?_ | rw [ints_at (by omega)] | rw [ints_at0 (by omega)] | rw [ints_at' (by omega) (by omega)] | refine G1 ?_ | fail) <;> conv => whnf)
  clear hcl
  refine Lp.intro (α := Bool × List Nat × Nat) (fun c => FrR (s.length + l.length) (nextN s l) (stP g s l) L c.2.1 c.2.2 c.1 ∧ FrG g s l S c.2.1 ∧ c.2.2 ≤ s.length + l.length) (fun c => s.length + l.length - c.2.2)
    (fun c => [(0, .val (ints (natsI (succL g false g.edges.length)))), (4, wordP s l), (7, .ref 0 0 (s.length + l.length)), (8, .bool c.1), (9, .int .i64 c.2.2)]) (fun c => [some (.arr 1 (ints (natsI c.2.1)))]) ?_ ?_
  · refine ⟨(false, L, 0), ⟨frr_start L, hF, Nat.zero_le _⟩, [some 0], rfl, rfl, And.intro (And.intro rfl rfl) trivial, ?_⟩
    exact ⟨.inl rfl, .inl rfl, rfl, .inl rfl, .inl rfl, trivial⟩
  rintro ⟨b, M, i⟩ ⟨hI, hM, hi⟩
  dsimp only at hI hM hi ⊢
  have hml := hM.len
  have hmi := (length_ints (natsI M)).trans ((length_natsI M).trans hml)
  have hmn := (length_natsI M).trans hml
  refine vc2_sound hR _ _ _ _ _ ?_
  by_cases hlt : i < s.length + l.length
  · have hnx := nextN_lt hlt hl0
    have hlp := hw i hlt
    have hMi : (natsI M).getD i 0 = ((M.getD i 0 : Nat) : Int) := natsI_getD (by omega)
    have hMq : (natsI M).getD (nextN s l i) 0 = ((M.getD (nextN s l i) 0 : Nat) : Int) := natsI_getD (by omega)
    have hlx : letN s l i = (((letN s l i).toNat : Nat) : Int) := by omega
    have b1 := hM.lt i hlt
    have b2 := hM.lt _ hnx
    have b3 : stP g s l i (M.getD i 0) < 2 ^ 31 := Nat.lt_of_lt_of_le (stpI_lt hg) (Nat.pow_le_pow_right (by decide) (by have := hg.1.2.1; omega))
    have hor := or_val (X := M.getD (nextN s l i) 0) (Y := stP g s l i (M.getD i 0)) (by omega) (by omega)
    have hlt31 := Nat.or_lt_two_pow b2 b3
    conv => whnf
    repeat' ((first | contradiction | (refine And.intro (fun hb => ?_) (fun hb => ?_) <;> first | contradiction | ((try simp only [SB, reduceCtorEq] at hb); try (exfalso; first | contradiction | omega))) | refine G2 ?_ | rw [ints_at (by omega)] | rw [ints_at0 (by omega)] | rw [ints_at' (by omega) (by omega)] | refine G1 ?_ | refine ⟨_, _, RAfter_eq rfl (by omega) (by omega) hlt, ?_⟩ | refine ⟨_, _, RL3At_eq rfl (by omega) (by omega) hlt, ?_⟩ | refine ⟨_, _, RStepG_eq (arg3r hMi hlx) hg b1 (by omega), ?_⟩ | fail) <;> conv => whnf)
    · have hb0 := hb
      rw [← hMq] at hor
      rw [show stepB g false (M.getD i 0) (letN s l i).toNat = stP g s l i (M.getD i 0) from rfl, hor, hMq] at hb0
      have hne : (M.getD (nextN s l i) 0 ||| stP g s l i (M.getD i 0)) ≠ M.getD (nextN s l i) 0 := fun h => hb0 (by rw [h])
      refine ⟨(true, M.set (nextN s l i) (M.getD (nextN s l i) 0 ||| stP g s l i (M.getD i 0)), i + 1), ⟨hI.put (by omega) hlt31 hne, Fr.put hM hnx hlt hlt31 (stP_ptr hg hw hM hlt), hlt⟩, by dsimp only; omega, [some 0], rfl, rfl, And.intro (And.intro rfl ?_) trivial, ?_⟩
      · rw [← natsI_set]
        exact congrArg (fun z => (ints (natsI M)).set (0 + ((nextN s l i : Nat) : Int).toNat) [AV.int .i64 z]) hor
      · exact ⟨.inl rfl, .inl rfl, rfl, .inl rfl, .inl rfl, trivial⟩
    · have hb0 := hb
      rw [← hMq] at hor
      rw [show stepB g false (M.getD i 0) (letN s l i).toNat = stP g s l i (M.getD i 0) from rfl, hor, hMq] at hb0
      refine ⟨(b, M, i + 1), ⟨hI.keep (by omega), hM, hlt⟩, by dsimp only; omega, [some 0], rfl, rfl, And.intro (And.intro rfl rfl) trivial, ?_⟩
      exact ⟨.inl rfl, .inl rfl, rfl, .inl rfl, .inl rfl, trivial⟩
  · obtain rfl : i = s.length + l.length := by omega
    have htm := tot_le M
    rw [hml] at htm
    conv => whnf
    repeat' ((first | contradiction | (refine And.intro (fun hb => ?_) (fun hb => ?_) <;> first | contradiction | ((try simp only [SB, reduceCtorEq] at hb); try (exfalso; first | contradiction | omega))) | refine G2 ?_ | rw [ints_at (by omega)] | rw [ints_at0 (by omega)] | rw [ints_at' (by omega) (by omega)] | refine G1 ?_ | fail) <;> conv => whnf)
    refine ⟨(b, M), ⟨hM, fun hb2 => ?_⟩, ?_, [some 0], rfl, rfl, And.intro (And.intro rfl rfl) trivial, ?_⟩
    · obtain ⟨rfl, h2⟩ := hI.same hb2
      exact fun p hp => h2 p hp hp
    · cases b
      · simp; omega
      · have := hI.more rfl
        simp; omega
    · exact ⟨.inl rfl, .inl rfl, rfl, .inl rfl, trivial⟩
def PA (g : GenD) (s l : List Int) (x y : Nat) : Prop := x / g.states.toNat < s.length + l.length ∧ ∃ e ∈ g.edges, e.letter = letN s l (x / g.states.toNat) ∧ e.src.toNat = x % g.states.toNat ∧ y = nextN s l (x / g.states.toNat) * g.states.toNat + e.dst.toNat
theorem pt_div {n p v : Nat} (h : v < n) : (p * n + v) / n = p := by
  rw [Nat.mul_comm, Nat.mul_add_div (by omega), Nat.div_eq_of_lt h, Nat.add_zero]
theorem pt_mod {n p v : Nat} (h : v < n) : (p * n + v) % n = v := by
  rw [Nat.mul_comm, Nat.mul_add_mod, Nat.mod_eq_of_lt h]
theorem pt_eq {n x : Nat} : x / n * n + x % n = x := by rw [Nat.mul_comm]; exact Nat.div_add_mod x n
theorem pt_lt {n m p v : Nat} (hp : p < m) (hv : v < n) : p * n + v < m * n := by
  have := Nat.mul_le_mul_right n (show p + 1 ≤ m by omega)
  rw [Nat.add_mul, Nat.one_mul] at this
  omega
theorem gmem {g : GenD} (h : GenOk g) {e : GEdgeD} (he : e ∈ g.edges) : GIn g e := by
  obtain ⟨i, hi, rfl⟩ := List.getElem_of_mem he
  have := gin h hi
  rwa [List.getD_eq_getElem?_getD, List.getElem?_eq_getElem hi] at this
def AtS (g : GenD) (S : List Nat) (x : Nat) : Prop := (S.getD (x / g.states.toNat) 0).testBit (x % g.states.toNat) = true
theorem ptR_iff {g : GenD} (hg : GenOk g) {s l : List Int} {S : List Nat} (hS : S.length = s.length + l.length) (hl0 : 0 < l.length) (hb : ∀ p v, (S.getD p 0).testBit v = true → v < g.states.toNat) {p v : Nat} :
    PtR g s l S p v ↔ v < g.states.toNat ∧ p < s.length + l.length ∧ Rch (PA g s l) (fun x => x < (s.length + l.length) * g.states.toNat ∧ AtS g S x) (p * g.states.toNat + v) := by
  constructor
  · intro h
    induction h with
    | @base p v h =>
      have hv := hb p v h
      have hp : p < s.length + l.length := by
        rw [← hS]
        refine Classical.byContradiction fun hn => ?_
        rw [List.getD_eq_getElem?_getD, List.getElem?_eq_none (by omega)] at h
        simp at h
      refine ⟨hv, hp, .base ⟨pt_lt hp hv, ?_⟩⟩
      unfold AtS
      rw [pt_div hv, pt_mod hv]
      exact h
    | @step p u v _ e he h1 h2 h3 ih =>
      obtain ⟨i1, i2, i3⟩ := ih
      have hi := gmem hg he
      unfold GIn at hi
      refine ⟨by omega, nextN_lt i2 hl0, .step i3 ⟨by rw [pt_div i1]; exact i2, e, he, by rw [pt_div i1]; exact h1, by rw [pt_mod i1]; exact h2, by rw [pt_div i1, h3]⟩⟩
  · rintro ⟨hv, hp, h⟩
    have key : ∀ x, Rch (PA g s l) (fun x => x < (s.length + l.length) * g.states.toNat ∧ AtS g S x) x → PtR g s l S (x / g.states.toNat) (x % g.states.toNat) := by
      intro x hx
      induction hx with
      | base h => exact .base h.2
      | step h ha ih =>
        obtain ⟨h1, e, he, h2, h3, rfl⟩ := ha
        have hi := gmem hg he
        unfold GIn at hi
        rw [pt_div (by omega), pt_mod (by omega)]
        exact .step ih e he h2 h3 rfl
    have := key _ h
    rwa [pt_div hv, pt_mod hv] at this
theorem mem_ptAll {n : Nat} {s l : List Int} {es : List GEdgeD} {P x y : Nat} {m : Int} : (x, y, m) ∈ ptAll n s l es P ↔ ∃ p, p < P ∧ ∃ e ∈ es, e.letter = letN s l p ∧ x = p * n + e.src.toNat ∧ y = nextN s l p * n + e.dst.toNat ∧ m = e.marks := by
  simp only [ptAll, ptTrips, List.mem_flatMap, List.mem_range, List.mem_map, List.mem_filter, beq_iff_eq, ptTrip]
  constructor
  · rintro ⟨p, hp, e, ⟨he, h1⟩, h2⟩
    cases h2
    exact ⟨p, hp, e, he, h1, rfl, rfl, rfl⟩
  · rintro ⟨p, hp, e, he, h1, rfl, rfl, rfl⟩
    exact ⟨p, hp, e, ⟨he, h1⟩, rfl⟩
theorem step_pts {g : GenD} (hg : GenOk g) {s l : List Int} {x y : Nat} {m : Int} : (y, m) ∈ (ptsG g.states.toNat s l g.edges).getD x [] ↔ x / g.states.toNat < s.length + l.length ∧ ∃ e ∈ g.edges, e.letter = letN s l (x / g.states.toNat) ∧ e.src.toNat = x % g.states.toNat ∧ y = nextN s l (x / g.states.toNat) * g.states.toNat + e.dst.toNat ∧ m = e.marks := by
  unfold ptsG
  rw [mem_mkG, mem_ptAll]
  constructor
  · rintro ⟨_, p, hp, e, he, h1, rfl, rfl, rfl⟩
    have hi := gmem hg he
    unfold GIn at hi
    rw [pt_div (by omega), pt_mod (by omega)]
    exact ⟨hp, e, he, h1, rfl, rfl, rfl⟩
  · rintro ⟨hp, e, he, h1, h2, rfl, rfl⟩
    have hi := gmem hg he
    unfold GIn at hi
    have hx := pt_eq (n := g.states.toNat) (x := x)
    have hlt := pt_lt (n := g.states.toNat) (v := x % g.states.toNat) hp (by omega)
    rw [hx] at hlt
    exact ⟨hlt, _, hp, e, he, h1, by rw [h2, hx], rfl, rfl⟩
theorem adj_pts {g : GenD} (hg : GenOk g) {s l : List Int} : Adj (ptsG g.states.toNat s l g.edges) = PA g s l := by
  funext x y
  refine propext ?_
  unfold Adj PA
  constructor
  · rintro ⟨m, hm⟩
    obtain ⟨h1, e, he, h2, h3, h4, _⟩ := (step_pts hg).1 hm
    exact ⟨h1, e, he, h2, h3, h4⟩
  · rintro ⟨h1, e, he, h2, h3, h4⟩
    exact ⟨e.marks, (step_pts hg).2 ⟨h1, e, he, h2, h3, h4, rfl⟩⟩
def oneS (N p X : Nat) : List Nat := (List.replicate N 0).set p X
@[simp] theorem length_oneS (N p X : Nat) : (oneS N p X).length = N := by simp [oneS]
theorem oneS_at {N p X q : Nat} : (oneS N p X).getD q 0 = if q = p ∧ p < N then X else 0 := by
  unfold oneS
  rw [List.getD_eq_getElem?_getD, List.getElem?_set]
  by_cases h : p = q
  · subst h
    by_cases hl : p < N
    · simp [hl]
    · simp [hl]
  · rw [if_neg h, if_neg (fun hh => h hh.1.symm)]
    rw [List.getElem?_replicate]
    split <;> rfl
theorem bit_fromL {g : GenD} {s l : List Int} {S : List Nat} {q v : Nat} (hq : q < s.length + l.length) : ((fromL g s l S).getD q 0).testBit v = true ↔ v < 31 ∧ PtR g s l S q v := by
  have e : (fromL g s l S).getD q 0 = bitsOf (PtR g s l S q) 31 := by simp [fromL, List.getD_eq_getElem?_getD, hq]
  rw [e, testBit_bitsOf]
theorem from_one {g : GenD} (hg : GenOk g) {s l : List Int} (hl0 : 0 < l.length) {x y : Nat} (hx : x < (s.length + l.length) * g.states.toNat) (hy : y < (s.length + l.length) * g.states.toNat) :
    ((fromL g s l (oneS (s.length + l.length) (x / g.states.toNat) (2 ^ (x % g.states.toNat)))).getD (y / g.states.toNat) 0).testBit (y % g.states.toNat) = true ↔ Rel1 (PA g s l) x y := by
  have hn : 0 < g.states.toNat := by
    rcases Nat.eq_zero_or_pos g.states.toNat with h | h
    · rw [h, Nat.mul_zero] at hx; omega
    · exact h
  have hs := hg.1.2.1
  have hxd : x / g.states.toNat < s.length + l.length := Nat.div_lt_of_lt_mul (by rw [Nat.mul_comm]; exact hx)
  have hyd : y / g.states.toNat < s.length + l.length := Nat.div_lt_of_lt_mul (by rw [Nat.mul_comm]; exact hy)
  have hxm := Nat.mod_lt x hn
  have hym := Nat.mod_lt y hn
  rw [bit_fromL hyd, ptR_iff hg (by simp) hl0, pt_eq]
  · have key : ∀ z, (z < (s.length + l.length) * g.states.toNat ∧ AtS g (oneS (s.length + l.length) (x / g.states.toNat) (2 ^ (x % g.states.toNat))) z) ↔ z = x := fun z => by
      unfold AtS
      rw [oneS_at]
      constructor
      · rintro ⟨_, h⟩
        split at h
        · rename_i he
          rw [Nat.testBit_two_pow, decide_eq_true_eq] at h
          rw [← pt_eq (n := g.states.toNat) (x := z), ← pt_eq (n := g.states.toNat) (x := x), he.1, h]
        · simp at h
      · rintro rfl
        refine ⟨hx, ?_⟩
        rw [if_pos ⟨rfl, hxd⟩, Nat.testBit_two_pow]
        simp
    have e : (fun z => z < (s.length + l.length) * g.states.toNat ∧ AtS g (oneS (s.length + l.length) (x / g.states.toNat) (2 ^ (x % g.states.toNat))) z) = (fun z => z = x) := by funext z; exact propext (key z)
    rw [e]
    exact ⟨fun h => h.2.2.2, fun h => ⟨by omega, hym, hyd, h⟩⟩
  · intro p v h
    rw [oneS_at] at h
    split at h
    · rw [Nat.testBit_two_pow, decide_eq_true_eq] at h
      omega
    · simp at h
def c_spec_l6Comps : ICode := (.seq (.reg [O1 2 (.box 5) 0, O1 3 (.box 2) 1, Ol 4 .mv [.c .snil]]) (.seq (.reg [O1 15 (.ldn 5) 2, Ol 16 (.call 170) [.t 15, cb false], O1 5 .mv 16]) (.seq (.reg [O1 17 (.ldn 2) 3, O1 18 (.call 91) 17, O1 6 .mv 18]) (.seq (.reg [O1 19 .mv 6, O2 20 (.mks 1 8 [(.int .i64 0)]) 19 19, O1 7 .mv 20]) (.seq (.reg [O1 21 .mv 7, O1 22 (.fadr 2) 2, O1 23 .ld1 22, Ol 24 (.iadr 1) [.t 21, ci 0], S2 (.st 1) 24 23]) (.seq (.reg [O1 25 .mv 5, O1 26 (.ldn 2) 3, O1 27 .mv 7, O3 28 (.call 171) 25 26 27, O1 8 .mv 28]) (.seq (.reg [O0 29 .bsle, O1 9 .mv 29]) (.seq (.reg [O0 30 .bsle, O1 10 .mv 30]) (.seq (.seq (.reg [Ol 11 .mv [ci 0]]) (.block 0 (.loop (.seq (.seq (.reg [O1 31 .mv 11, O1 32 .mv 6, O1 33 (.fadr 1) 2, O1 34 .ld1 33, O2 35 (.bin .mul) 32 34, O2 36 (.bin .lss) 31 35]) (.cond (.t 36) .skip (.exit 0))) (.seq (.block 1 (.seq (.reg [O1 39 .mv 9, Ol 40 (.bslv 1) [ci (-1)], O2 41 (.app 1 8) 39 40, O1 9 .mv 41]) (.seq (.reg [O1 42 .mv 6, O2 43 (.mks 1 8 [(.int .i64 0)]) 42 42, O1 12 .mv 43]) (.seq (.seq (.drw [O1 44 .mv 8, O1 45 .mv 11, O1 46 (.fadr 1) 2, O1 47 .ld1 46, O2 48 (.bin .quo) 45 47, O2 49 (.iadr 1) 44 48, O1 50 .ld1 49, O1 51 .mv 11, O1 52 (.fadr 1) 2, O1 53 .ld1 52, O2 54 (.bin .rem) 51 53, O2 55 (.call 73) 50 54] (unB [0, 0, 0, 4, 14, 31, 63, 0, 0, 256, 896, 2047] 0) true true) (.cond (.t 55) (.seq (.drw [O1 56 .mv 12, O1 57 .mv 11, O1 58 (.fadr 1) 2, O1 59 .ld1 58, O2 60 (.bin .quo) 57 59, O1 61 .mv 11, O1 62 (.fadr 1) 2, O1 63 .ld1 62, O2 64 (.bin .rem) 61 63, O1 65 (.call 123) 64, O2 66 (.iadr 1) 56 60, S2 (.st 1) 66 65] (unB [0, 0, 0, 4, 14, 0, 0, 64, 224, 480, 1023, 2047] 0) true true) (.reg [O1 67 .mv 5, O1 68 (.ldn 2) 3, O1 69 .mv 12, O3 70 (.call 171) 67 68 69, O1 12 .mv 70])) .skip)) (.reg [O1 71 .mv 10, O1 72 .mv 12, O1 73 (.bslv 1) 72, O2 74 (.app 1 24) 71 73, O1 10 .mv 74]))))) (.reg [O1 37 .mv 11, Ol 38 (.bin .add) [.t 37, ci 1], O1 11 .mv 38])))))) (.seq (.seq (.reg [Ol 13 .mv [ci 0]]) (.block 2 (.loop (.seq (.seq (.reg [O1 75 .mv 13, O1 76 .mv 9, O1 77 .len 76, O2 78 (.bin .lss) 75 77]) (.cond (.t 78) .skip (.exit 2))) (.seq (.block 3 (.seq (.seq (.drw [O1 81 .mv 9, O1 82 .mv 13, O2 83 (.iadr 1) 81 82, O1 84 .ld1 83, Ol 85 (.bin .geq) [.t 84, ci 0], O1 86 .mv 85, Og 87 .mv [.t 8] 86 false, Og 88 .mv [.t 13] 86 false, Og 89 (.fadr 1) [.t 2] 86 false, Og 90 .ld1 [.t 89] 86 false, Og 91 (.bin .quo) [.t 88, .t 90] 86 false, Og 92 (.iadr 1) [.t 87, .t 91] 86 false, Og 93 .ld1 [.t 92] 86 false, Og 94 .mv [.t 13] 86 false, Og 95 (.fadr 1) [.t 2] 86 false, Og 96 .ld1 [.t 95] 86 false, Og 97 (.bin .rem) [.t 94, .t 96] 86 false, Og 98 (.call 73) [.t 93, .t 97] 86 false, Og 99 .not [.t 98] 86 false, Ol 100 .pick [.t 86, cb true, .t 99]] (unB [0, 0, 3, 7, 15, 31, 63, 63, 63, 319, 959, 2047, 4095, 63, 63, 16447, 57407, 131071, 262143, 524287] 0) true true) (.cond (.t 100) (.exit 3) .skip)) (.seq (.reg [O1 101 .mv 13, O1 14 .mv 101]) (.block 4 (.loop (.seq (.seq (.reg [O1 102 .mv 14, O1 103 .mv 9, O1 104 .len 103, O2 105 (.bin .lss) 102 104]) (.cond (.t 105) .skip (.exit 4))) (.seq (.block 5 (.seq (.drw [O1 108 .mv 10, O1 109 .mv 13, O2 110 (.iadr 1) 108 109, O1 111 .ld1 110, O1 112 .mv 14, O1 113 (.fadr 1) 2, O1 114 .ld1 113, O2 115 (.bin .quo) 112 114, O2 116 (.iadr 1) 111 115, O1 117 .ld1 116, O1 118 .mv 14, O1 119 (.fadr 1) 2, O1 120 .ld1 119, O2 121 (.bin .rem) 118 120, O2 122 (.call 73) 117 121, O1 123 .mv 122, Og 124 .mv [.t 10] 123 true, Og 125 .mv [.t 14] 123 true, Og 126 (.iadr 1) [.t 124, .t 125] 123 true, Og 127 .ld1 [.t 126] 123 true, Og 128 .mv [.t 13] 123 true, Og 129 (.fadr 1) [.t 2] 123 true, Og 130 .ld1 [.t 129] 123 true, Og 131 (.bin .quo) [.t 128, .t 130] 123 true, Og 132 (.iadr 1) [.t 127, .t 131] 123 true, Og 133 .ld1 [.t 132] 123 true, Og 134 .mv [.t 13] 123 true, Og 135 (.fadr 1) [.t 2] 123 true, Og 136 .ld1 [.t 135] 123 true, Og 137 (.bin .rem) [.t 134, .t 136] 123 true, Og 138 (.call 73) [.t 133, .t 137] 123 true, Ol 139 .pick [.t 123, .t 138, cb false]] (unB [0, 0, 3, 7, 0, 0, 32, 112, 255, 511, 0, 0, 2048, 7168, 16383, 32767, 65535, 65535, 262143, 524287, 65535, 65535, 2162687, 7405567, 16777215, 33554431, 65535, 65535, 134283263, 469827583, 1073741823, 2147483647] 0) true true) (.cond (.t 139) (.reg [O1 140 .mv 9, O1 141 .mv 14, O1 142 .mv 13, O2 143 (.iadr 1) 140 141, S2 (.st 1) 143 142]) .skip))) (.reg [O1 106 .mv 14, Ol 107 (.bin .add) [.t 106, ci 1], O1 14 .mv 107])))))))) (.reg [O1 79 .mv 13, Ol 80 (.bin .add) [.t 79, ci 1], O1 13 .mv 80])))))) (.seq (.reg [O1 144 .mv 9, O1 4 .mv 144]) .ret)))))))))))
theorem b_spec_l6Comps : Body Try.prog 99 145 c_spec_l6Comps [(.t 4)] := body_mk Try.func99 (by kernel_rfl) (by decide)
noncomputable def begL (g : GenD) (s l : List Int) : List Nat := fromL g s l (oneS (s.length + l.length) 0 g.start.toNat)
def Beg (g : GenD) (s l : List Int) (x : Nat) : Prop := AtS g (begL g s l) x
noncomputable def inR (g : GenD) (s l : List Int) (x : Nat) : List Nat := open Classical in if Beg g s l x then fromL g s l (oneS (s.length + l.length) (x / g.states.toNat) (2 ^ (x % g.states.toNat))) else List.replicate (s.length + l.length) 0
noncomputable def inOwns (g : GenD) (s l : List Int) (x : Nat) : List (List AV) := (List.range x).map fun x => [.own 1 (ints (natsI (inR g s l x)))]
noncomputable def inRows (g : GenD) (s l : List Int) (x : Nat) : List (List AV) := (List.range x).map fun x => [.val (ints (natsI (inR g s l x)))]
@[simp] theorem length_fromL (g : GenD) (s l : List Int) (S : List Nat) : (fromL g s l S).length = s.length + l.length := by simp [fromL]
@[simp] theorem length_inR (g : GenD) (s l : List Int) (x : Nat) : (inR g s l x).length = s.length + l.length := by unfold inR; split <;> simp
@[simp] theorem length_inOwns (g : GenD) (s l : List Int) (x : Nat) : (inOwns g s l x).length = x := by simp [inOwns]
@[simp] theorem length_inRows (g : GenD) (s l : List Int) (x : Nat) : (inRows g s l x).length = x := by simp [inRows]
theorem thaw_in (g : GenD) (s l : List Int) (x : Nat) : (inOwns g s l x).map (List.map AV.thaw) = inRows g s l x := by simp [inOwns, inRows, AV.thaw]
theorem inRows_at {g : GenD} {s l : List Int} {x i : Nat} (h : i < x) : (inRows g s l x)[((i : Nat) : Int).toNat]? = some [.val (ints (natsI (inR g s l i)))] := by
  simp [inRows, h]
theorem snap_in {h : Heap} {id : Nat} {g : GenD} {s l : List Int} {x : Nat} (ho : h id = some (.nst 1 (inOwns g s l x))) : (AV.ref id 0 x).snap h = .val (inRows g s l x) := by
  have e : sub (inOwns g s l x) 0 x = inOwns g s l x := by
    unfold sub
    rw [List.drop_zero, List.take_of_length_le (by simp)]
  simp only [AV.snap, AV.snap1, ho, Nat.zero_add, length_inOwns, Nat.le_refl, if_true, e, thaw_in]
theorem inOwns_succ {g : GenD} {s l : List Int} {x : Nat} : inOwns g s l (x + 1) = inOwns g s l x ++ [[.own 1 (ints (natsI (inR g s l x)))]] := by simp [inOwns, List.range_succ]
theorem inOwns_sealed (g : GenD) (s l : List Int) (x : Nat) : ∀ row ∈ inOwns g s l x, ∀ c ∈ row, c.sealed = true := by
  intro row hr c hc
  obtain ⟨y, _, rfl⟩ := List.mem_map.1 hr
  simp at hc
  subst hc; rfl
theorem fromL_lt {g : GenD} {s l : List Int} {S : List Nat} (p : Nat) : (fromL g s l S).getD p 0 < 2 ^ 31 := by
  by_cases hp : p < s.length + l.length
  · have e : (fromL g s l S).getD p 0 = bitsOf (PtR g s l S p) 31 := by simp [fromL, List.getD_eq_getElem?_getD, hp]
    rw [e]; exact bitsOf_lt
  · rw [List.getD_eq_getElem?_getD, List.getElem?_eq_none (by simp; omega)]
    exact Nat.two_pow_pos 31
theorem inR_lt {g : GenD} {s l : List Int} {x : Nat} (p : Nat) : (inR g s l x).getD p 0 < 2 ^ 31 := by
  unfold inR; split
  · exact fromL_lt p
  · rw [List.getD_eq_getElem?_getD, List.getElem?_replicate]; split <;> exact Nat.two_pow_pos 31
theorem rep_get {α : Type} {n i : Nat} {z : α} (h : i < n) : (List.replicate n z)[i]? = some z := by simp [h]
theorem snap_is {h : Heap} {id len z : Nat} {rows rows' : List (List AV)} (ho : h id = some (.arr z rows)) (hr : rows = rows') (hl : rows'.length = len) : (AV.ref id 0 len).snap h = .val rows' := by
  subst hr; exact snap_all ho hl
theorem one_rows {N i p X : Nat} {v : Int} (hi : i = p) (hv : v = ((X : Nat) : Int)) : (List.replicate ((N : Nat) : Int).toNat [AV.int .i64 0]).set i [.int .i64 v] = ints (natsI (oneS N p X)) := by
  subst hi; subst hv; simp [ints, natsI, oneS, List.map_set]
theorem quo_nat {x : Nat} {b : Int} (hb : 0 ≤ b) (hx : x ≤ 100000000) : IntKind.i64.wrap (Int.tdiv ((x : Nat) : Int) b) = ((x / b.toNat : Nat) : Int) := by
  obtain ⟨n, rfl⟩ := Int.eq_ofNat_of_zero_le hb
  have h1 : Int.tdiv ((x : Nat) : Int) ((n : Nat) : Int) = ((x / n : Nat) : Int) := rfl
  have h2 := Nat.div_le_self x n
  have h3 : (0 : Int) ≤ ((x / n : Nat) : Int) := Int.natCast_nonneg _
  rw [h1, Int.toNat_natCast, IntWalk.i64_in _ (by omega)]
theorem rem_nat {x : Nat} {b : Int} (hb : 0 ≤ b) : Int.tmod ((x : Nat) : Int) b = ((x % b.toNat : Nat) : Int) := by
  obtain ⟨n, rfl⟩ := Int.eq_ofNat_of_zero_le hb
  rfl
theorem in_last {l : List (List AV)} {x : Nat} {r : List AV} (h : l.length = x) : (List.take x l ++ [r])[x]? = some r := by
  subst h; simp
theorem oneS_lt {N p X : Nat} (h : X < 2 ^ 31) (q : Nat) : (oneS N p X).getD q 0 < 2 ^ 31 := by
  rw [oneS_at]; split
  · exact h
  · exact Nat.two_pow_pos 31
theorem in_done {g : GenD} {s l : List Int} {x : Nat} {c : AV} {rs : List (List AV)} (h : rs = ints (natsI (inR g s l x))) : ((List.take x (inOwns g s l x) ++ [[c]]).set x ([c].set 0 (.own 1 rs))) = inOwns g s l (x + 1) := by
  subst h
  rw [inOwns_succ, List.take_of_length_le (by simp)]
  simp [List.set_append]
theorem neg_more {x : Nat} : List.take x (ints (List.replicate x (-1))) ++ [[AV.int .i64 (-1)]] = ints (List.replicate (x + 1) (-1)) := by
  rw [List.take_of_length_le (by simp [ints])]
  simp [ints, List.replicate_succ']
theorem zero_rows {N : Nat} : List.replicate ((N : Nat) : Int).toNat [AV.int .i64 0] = ints (natsI (List.replicate N 0)) := by simp [ints, natsI]
theorem RFromS_eq {xs : List AV} {g : GenD} {s l : List Int} {S : List Nat} (hx : xs = [.val (ints (natsI (succL g false g.edges.length))), wordV s l, .val (ints (natsI S))]) (hg : GenOk g) (hw : LetOk s l) (h1 : s.length ≤ 100) (h2 : l.length ≤ 100) (h3 : 0 < l.length) (h4 : S.length = s.length + l.length) (h5 : ∀ p, S.getD p 0 < 2 ^ 31) :
  RFromS xs (.ref 0 0 (s.length + l.length)) [.arr 1 (ints (natsI (fromL g s l S)))] := ⟨g, s, l, S, hx, hg, hw, h1, h2, h3, h4, h5, rfl, rfl⟩
theorem pa_lt {g : GenD} (hg : GenOk g) {s l : List Int} (hl0 : 0 < l.length) {x y : Nat} (h : PA g s l x y) : y < (s.length + l.length) * g.states.toNat := by
  obtain ⟨h1, e, he, _, _, rfl⟩ := h
  have hi := gmem hg he
  unfold GIn at hi
  exact pt_lt (nextN_lt h1 hl0) (by omega)
theorem beg_iff {g : GenD} (hg : GenOk g) {s l : List Int} (hl0 : 0 < l.length) {x : Nat} : Beg g s l x ↔ Rch (PA g s l) (fun x => x < (s.length + l.length) * g.states.toNat ∧ AtS g (oneS (s.length + l.length) 0 g.start.toNat) x) x := by
  have hb : ∀ p v, ((oneS (s.length + l.length) 0 g.start.toNat).getD p 0).testBit v = true → v < g.states.toNat := fun p v h => by
    have hh := hg.1.2.2
    rw [oneS_at] at h
    split at h
    · have : g.start.toNat < 2 ^ g.states.toNat := by
        rw [show g.start = ((g.start.toNat : Nat) : Int) by omega] at hh
        exact Int.ofNat_lt.1 (by rw [Int.natCast_pow]; exact hh.2.2)
      exact bit_lt this h
    · simp at h
  have key := fun p v => ptR_iff hg (s := s) (l := l) (S := oneS (s.length + l.length) 0 g.start.toNat) (by simp) hl0 hb (p := p) (v := v)
  constructor
  · intro h
    unfold Beg AtS begL at h
    by_cases hd : x / g.states.toNat < s.length + l.length
    · rw [bit_fromL hd, key, pt_eq] at h
      exact h.2.2.2
    · rw [List.getD_eq_getElem?_getD, List.getElem?_eq_none (by simp; omega)] at h
      simp at h
  · intro h
    have hx : x < (s.length + l.length) * g.states.toNat := by
      cases h with
      | base h => exact h.1
      | step _ ha => exact pa_lt hg hl0 ha
    have hn : 0 < g.states.toNat := by
      rcases Nat.eq_zero_or_pos g.states.toNat with h | h
      · rw [h, Nat.mul_zero] at hx; omega
      · exact h
    have hd : x / g.states.toNat < s.length + l.length := Nat.div_lt_of_lt_mul (by rw [Nat.mul_comm]; exact hx)
    have hm := Nat.mod_lt x hn
    have hs := hg.1.2.1
    unfold Beg AtS begL
    rw [bit_fromL hd, key, pt_eq]
    exact ⟨by omega, hm, hd, h⟩
theorem beg_mut {g : GenD} (hg : GenOk g) {s l : List Int} (hl0 : 0 < l.length) (p q : Nat) (h : Beg g s l p) (hm : Rel1 (PA g s l) p q) : Beg g s l q := by
  rw [beg_iff hg hl0] at h ⊢
  exact hm.mono fun x hx => hx ▸ h
def RComps (xs : List AV) (r : AV) (objs : List AObj) : Prop := ∃ (g : GenD) (s l : List Int), xs = [.agg (genRow g), wordV s l] ∧ GenOk g ∧ 0 < g.states ∧ LetOk s l ∧ s.length ≤ 100 ∧ l.length ≤ 100 ∧ 0 < l.length ∧
  r = .ref 0 0 ((s.length + l.length) * g.states.toNat) ∧ objs = [.arr 1 (ints (compsL (PA g s l) (Beg g s l) ((s.length + l.length) * g.states.toNat)))]
set_option maxHeartbeats 8000000 in
theorem s_spec_l6Comps : PureSound Try.prog 99 RComps := by
  have hR : Rely Try.prog (ctxOf [(170, .pure RSucc), (91, .pure RPlacesS), (171, .pure RFromS), (73, .pure RHas), (123, .pure RBit)]) :=
    rely_cons b_spec_l6Succ.has s_spec_l6Succ (rely_cons b_spec_l6Places.has s_spec_l6Places (rely_cons b_spec_l6From.has s_spec_l6From (rely_cons b_spec_l1Has.has s_spec_l1Has (rely_cons b_spec_l1Bit.has s_spec_l1Bit (rely_nil mixed)))))
  refine pure_of_aw b_spec_l6Comps ?_
  rintro xs r objs ⟨g, s, l, rfl, hg, hs0, hw, hs, hl, hl0, rfl, rfl⟩ -
  have hst := hg.1.2.1
  have hstart := hg.1.2.2
  have hsl := (length_ints (natsI (succL g false g.edges.length))).trans ((length_natsI _).trans (length_succL g false _))
  have hon : (ints (List.set (natsI (List.replicate (s.length + l.length) 0)) 0 g.start)).length = s.length + l.length := by simp [ints]
  have hone : (ints (natsI (oneS (s.length + l.length) 0 g.start.toNat))).length = s.length + l.length := by simp [ints]
  refine ⟨by simp, vc2_sound hR _ _ _ _ _ ?_⟩
  have hN : ((s.length + l.length : Nat) : Int) * g.states = (((s.length + l.length) * g.states.toNat : Nat) : Int) := by
    rw [Int.natCast_mul, Int.toNat_of_nonneg hst.1]
  have hNN : (s.length + l.length) * g.states.toNat ≤ 200 * 31 := Nat.mul_le_mul (by omega) (by omega)
  have hlt30 := oneS_lt (N := s.length + l.length) (p := 0) (X := g.start.toNat) (by omega)
  have hdiv : ∀ x, x < (s.length + l.length) * g.states.toNat → x / g.states.toNat < s.length + l.length := fun x hx => Nat.div_lt_of_lt_mul (by rw [Nat.mul_comm]; exact hx)
  have hmod : ∀ x, x % g.states.toNat < g.states.toNat := fun x => Nat.mod_lt x (by omega)
  have hone2 := fun x y => from_one (s := s) (x := x) (y := y) hg hl0
  generalize hM : (s.length + l.length) * g.states.toNat = M at *
  conv => whnf
  repeat' ((first | contradiction | (refine And.intro (fun hb => ?_) (fun hb => ?_) <;> first | contradiction | ((try simp only [SB, reduceCtorEq] at hb); try (exfalso; first | contradiction | omega))) | refine G2 ?_ | rw [ints_at (by omega)] | rw [ints_at0 (by omega)] | rw [ints_at' (by omega) (by omega)] | refine G1 ?_ | refine ⟨_, _, RSucc_eq rfl hg, ?_⟩ | refine ⟨_, _, RPlacesS_eq rfl (by omega) (by omega), ?_⟩ | rw [rep_get (by omega)] | refine ⟨_, _, RFromS_eq (S := oneS (s.length + l.length) 0 g.start.toNat) (args_cons (snap_all rfl hsl) (args_cons rfl (args_cons (snap_is rfl (one_rows rfl (by omega)) hone) rfl))) hg hw hs hl hl0 (by simp) hlt30, ?_⟩ | fail) <;> conv => whnf)
  have hBl : (ints (natsI (begL g s l))).length = s.length + l.length := by simp [ints, begL]
  have hBb : (ints (natsI (begL g s l))) = ints (natsI (fromL g s l (oneS (s.length + l.length) 0 g.start.toNat))) := rfl
  rw [← hBb]
  have hBat : ∀ x, x < M → (ints (natsI (begL g s l)))[((x / g.states.toNat : Nat) : Int).toNat]? = some [.int .i64 (((begL g s l).getD (x / g.states.toNat) 0 : Nat) : Int)] := fun x hx => natsI_at (by simpa [begL] using hdiv x hx)
  have hB31 : ∀ p, (begL g s l).getD p 0 < 2 ^ 31 := fun p => fromL_lt p
  refine Lp.introT (α := Nat) (fun x => x ≤ M) (fun x => M - x)
    (fun x => [(2, .rptr (genRow g) 0), (3, wordP s l), (5, .val (ints (natsI (succL g false g.edges.length)))), (6, .int .i64 ((s.length + l.length : Nat) : Int)), (8, .val (ints (natsI (begL g s l)))), (9, .ref 0 0 x), (10, .ref 1 0 x), (11, .int .i64 x)])
    (fun x => [some (.arr 1 (ints (List.replicate x (-1)))), some (.nst 1 (inOwns g s l x))]) ?_ ?_
  · refine ⟨0, Nat.zero_le _, [none, none], rfl, rfl, And.intro rfl (And.intro rfl trivial), ?_⟩
    exact ⟨.inr rfl, .inr rfl, .inr (snap_all rfl hsl), .inl rfl, .inr (snap_all rfl hBl), ⟨rfl, rfl, rfl⟩, ⟨rfl, rfl, rfl⟩, .inl rfl, trivial⟩
  · intro x hx
    have hrl : (ints (List.replicate x (-1))).length = x := by simp [ints]
    have hil := length_inOwns g s l x
    by_cases hlt : x < M
    · refine Aw.turn (.lax 1 1 _ (.inr rfl) (.refl _ _)) (vc2_sound hR _ _ _ _ _ ?_)
      have hq := quo_nat (x := x) hst.1 (by omega)
      have hr := rem_nat (x := x) hst.1
      have hxm := hmod x
      have hxd := hdiv x hlt
      have hat := hBat x hlt
      obtain ⟨p, hp⟩ : ∃ p, x / g.states.toNat = p := ⟨_, rfl⟩
      obtain ⟨v, hv⟩ : ∃ v, x % g.states.toNat = v := ⟨_, rfl⟩
      have hbg : Beg g s l x ↔ ((begL g s l).getD p 0).testBit v = true := by unfold Beg AtS; rw [hp, hv]
      have hi1 : Beg g s l x → inR g s l x = fromL g s l (oneS (s.length + l.length) p (2 ^ v)) := fun h => by unfold inR; rw [if_pos h, hp, hv]
      have hi2 : ¬ Beg g s l x → inR g s l x = List.replicate (s.length + l.length) 0 := fun h => by unfold inR; rw [if_neg h]
      rw [hp] at hq hxd hat
      rw [hv] at hr hxm
      have hone1 := oneS_lt (N := s.length + l.length) (p := p) (X := 2 ^ v) (Nat.pow_lt_pow_right (by decide) (by omega))
      have hone' : (ints (natsI (oneS (s.length + l.length) p (2 ^ v)))).length = s.length + l.length := by simp [ints]
      conv => whnf
      repeat' ((first | contradiction | (refine And.intro (fun hb => ?_) (fun hb => ?_) <;> first | contradiction | ((try simp only [SB, reduceCtorEq] at hb); try (exfalso; first | contradiction | omega))) | refine G2 ?_ | rw [ints_at (by omega)] | rw [ints_at0 (by omega)] | rw [ints_at' (by omega) (by omega)] | refine G1 ?_ | rw [hN] | refine ⟨_, hq, ?_⟩ | rw [hr] | rw [hat] | refine ⟨_, _, RHas_mk (hB31 _) (by omega) (by omega), ?_⟩ | refine ⟨_, _, RBit_mk (by omega) (by omega), ?_⟩ | rw [rep_get (by omega)] | refine ⟨_, _, RFromS_eq (S := oneS (s.length + l.length) p (2 ^ v)) (args_cons rfl (args_cons rfl (args_cons (snap_is rfl (one_rows (by omega) (by simp)) hone') rfl))) hg hw hs hl hl0 (by simp) hone1, ?_⟩ | fail) <;> conv => whnf)
      · have hin := hi1 (hbg.2 (by assumption))
        refine ⟨_, _, .fold 5 4 x 0 1 1 (List.take x (inOwns g s l x) ++ [[.ref 4 0 (s.length + l.length)]]) [.ref 4 0 (s.length + l.length)] (ints (natsI (fromL g s l (oneS (s.length + l.length) p (2 ^ v))))) rfl rfl (by decide) (in_last hil) _ (by simp [ints]) rfl
          (.clos 5 1 (inOwns g s l (x + 1)) (congrArg (fun r => some (AObj.arx 1 r)) (in_done (by rw [hin]))) (inOwns_sealed _ _ _ _) (.refl _ _)), x + 1, hlt, by omega, [some 2, some 5], rfl, rfl, And.intro (And.intro rfl neg_more) (And.intro (And.intro rfl rfl) trivial), ?_⟩
        exact ⟨.inl rfl, .inl rfl, .inl rfl, .inl rfl, .inl rfl, rfl, rfl, .inl rfl, trivial⟩
      · have hin := hi2 (fun h => absurd (hbg.1 h) (by simp_all))
        refine ⟨_, _, .fold 4 3 x 0 1 1 (List.take x (inOwns g s l x) ++ [[.ref 3 0 (s.length + l.length)]]) [.ref 3 0 (s.length + l.length)] (List.replicate ((s.length + l.length : Nat) : Int).toNat [AV.int .i64 0]) rfl rfl (by decide) (in_last hil) _ (by rw [List.length_replicate]; rfl) rfl
          (.clos 4 1 (inOwns g s l (x + 1)) (congrArg (fun r => some (AObj.arx 1 r)) (in_done (by rw [hin, zero_rows]))) (inOwns_sealed _ _ _ _) (.refl _ _)), x + 1, hlt, by omega, [some 2, some 4], rfl, rfl, And.intro (And.intro rfl neg_more) (And.intro (And.intro rfl rfl) trivial), ?_⟩
        exact ⟨.inl rfl, .inl rfl, .inl rfl, .inl rfl, .inl rfl, rfl, rfl, .inl rfl, trivial⟩
    · obtain rfl : M = x := by omega
      refine vc2_sound hR _ _ _ _ _ ?_
      conv => whnf
      repeat' ((first | contradiction | (refine And.intro (fun hb => ?_) (fun hb => ?_) <;> first | contradiction | ((try simp only [SB, reduceCtorEq] at hb); try (exfalso; first | contradiction | omega))) | refine G2 ?_ | rw [ints_at (by omega)] | rw [ints_at0 (by omega)] | rw [ints_at' (by omega) (by omega)] | refine G1 ?_ | rw [hN] | fail) <;> conv => whnf)
      have hBm := fun p q (h : Beg g s l p) (hm : Mut (PA g s l) p q) => beg_mut hg hl0 p q h hm.1
      have hbeg : ∀ x, x < M → (Beg g s l x ↔ ((begL g s l).getD (x / g.states.toNat) 0).testBit (x % g.states.toNat) = true) := fun x _ => Iff.rfl
      have hin : ∀ x y, x < M → y < M → Beg g s l x → (((inR g s l x).getD (y / g.states.toNat) 0).testBit (y % g.states.toNat) = true ↔ Rel1 (PA g s l) x y) := fun x y hx hy h => by
        unfold inR
        rw [if_pos h]
        exact hone2 x y hx hy
      refine Lp.intro (α := Nat × List Int) (fun c => CpI (PA g s l) (Beg g s l) M c.1 0 c.2 ∧ c.1 ≤ M) (fun c => M - c.1)
        (fun c => [(2, .rptr (genRow g) 0), (8, .val (ints (natsI (begL g s l)))), (9, .ref 0 0 M), (10, .val (inRows g s l M)), (13, .int .i64 c.1)]) (fun c => [some (.arr 1 (ints c.2))]) ?_ ?_
      · refine ⟨(0, List.replicate M (-1)), ⟨cp_start _ _ _, Nat.zero_le _⟩, [some 0], rfl, rfl, And.intro (And.intro rfl rfl) trivial, ?_⟩
        exact ⟨.inl rfl, .inl rfl, rfl, .inr (snap_in rfl), .inl rfl, trivial⟩
      rintro ⟨x, C⟩ ⟨hI, hx⟩
      dsimp only at hI hx ⊢
      have hCl := hI.len
      have hCi := (length_ints C).trans hCl
      refine vc2_sound hR _ _ _ _ _ ?_
      by_cases hlt : x < M
      · have hq := quo_nat (x := x) hst.1 (by omega)
        have hr := rem_nat (x := x) hst.1
        have hxm := hmod x
        have hat := hBat x hlt
        have hbx := hbeg x hlt
        have hinx := fun y hy h => hin x y hlt hy h
        have hiny := fun y hy h => hin y x hy hlt h
        have hxd := hdiv x hlt
        have hrx := inRows_at (g := g) (s := s) (l := l) hlt
        generalize x / g.states.toNat = p at *
        generalize x % g.states.toNat = v at *
        conv => whnf
        repeat' ((first | contradiction | (refine And.intro (fun hb => ?_) (fun hb => ?_) <;> first | contradiction | ((try simp only [SB, reduceCtorEq] at hb); try (exfalso; first | contradiction | omega))) | refine G2 ?_ | rw [ints_at (by omega)] | rw [ints_at0 (by omega)] | rw [ints_at' (by omega) (by omega)] | refine G1 ?_ | refine ⟨_, hq, ?_⟩ | rw [hr] | rw [hat] | refine ⟨_, _, RHas_mk (hB31 _) (by omega) (by omega), ?_⟩ | fail) <;> conv => whnf)
        · refine ⟨(x + 1, C), ⟨hI.skip hlt (.inl (by assumption)), hlt⟩, by dsimp only; omega, [some 0], rfl, rfl, And.intro (And.intro rfl rfl) trivial, ?_⟩
          exact ⟨.inl rfl, .inl rfl, rfl, .inl rfl, .inl rfl, trivial⟩
        · have hb2 : Beg g s l x := hbx.2 (by assumption)
          have hfr := (hI.at0 hlt).fresh (by omega)
          refine Lp.intro (α := Nat × List Int) (fun c => CpI (PA g s l) (Beg g s l) M x c.1 c.2 ∧ c.1 ≤ M) (fun c => M - c.1)
            (fun c => [(2, .rptr (genRow g) 0), (8, .val (ints (natsI (begL g s l)))), (9, .ref 0 0 M), (10, .val (inRows g s l M)), (13, .int .i64 x), (14, .int .i64 c.1)]) (fun c => [some (.arr 1 (ints c.2))]) ?_ ?_
          · refine ⟨(x, C), ⟨hI.enter hBm, hx⟩, [some 0], rfl, rfl, And.intro (And.intro rfl rfl) trivial, ?_⟩
            exact ⟨.inl rfl, .inl rfl, rfl, .inl rfl, .inl rfl, .inl rfl, trivial⟩
          rintro ⟨y, D⟩ ⟨hJ, hy⟩
          dsimp only at hJ hy ⊢
          have hDl := hJ.len
          have hDi := (length_ints D).trans hDl
          refine vc2_sound hR _ _ _ _ _ ?_
          by_cases hyl : y < M
          · have hqy := quo_nat (x := y) hst.1 (by omega)
            have hry := rem_nat (x := y) hst.1
            have hym := hmod y
            have hyd := hdiv y hyl
            have hixy := hinx y hyl hb2
            have hiyx := hiny y hyl
            have hrr := inRows_at (g := g) (s := s) (l := l) hyl
            generalize y / g.states.toNat = py at *
            generalize y % g.states.toNat = vy at *
            have hax := natsI_at (l := inR g s l x) (i := py) (by simpa using hyd)
            have hay := natsI_at (l := inR g s l y) (i := p) (by simpa using hxd)
            conv => whnf
            repeat' ((first | contradiction | (refine And.intro (fun hb => ?_) (fun hb => ?_) <;> first | contradiction | ((try simp only [SB, reduceCtorEq] at hb); try (exfalso; first | contradiction | omega))) | refine G2 ?_ | rw [ints_at (by omega)] | rw [ints_at0 (by omega)] | rw [ints_at' (by omega) (by omega)] | refine G1 ?_ | refine ⟨_, hq, ?_⟩ | refine ⟨_, hqy, ?_⟩ | rw [hr] | rw [hry] | rw [hrx] | rw [hrr] | rw [hax] | rw [hay] | refine ⟨_, _, RHas_mk (inR_lt _) (by omega) (by omega), ?_⟩ | fail) <;> conv => whnf)
            · have h1 := hixy.1 (by assumption)
              have h2 := (hiyx (beg_mut hg hl0 x y hb2 h1)).1 (by assumption)
              refine ⟨(y + 1, D.set y (x : Int)), ⟨hJ.yes hyl hfr hb2 ⟨h1, h2⟩, hyl⟩, by dsimp only; omega, [some 0], rfl, rfl, And.intro (And.intro rfl (ints_set)) trivial, ?_⟩
              exact ⟨.inl rfl, .inl rfl, rfl, .inl rfl, .inl rfl, .inl rfl, trivial⟩
            · have h1 := hixy.1 (by assumption)
              have h2 : ¬ Rel1 (PA g s l) y x := fun h => by
                have := (hiyx (beg_mut hg hl0 x y hb2 h1)).2 h
                simp_all
              refine ⟨(y + 1, D), ⟨hJ.no hyl (fun h => h2 h.2), hyl⟩, by dsimp only; omega, [some 0], rfl, rfl, And.intro (And.intro rfl rfl) trivial, ?_⟩
              exact ⟨.inl rfl, .inl rfl, rfl, .inl rfl, .inl rfl, .inl rfl, trivial⟩
            · have h1 : ¬ Rel1 (PA g s l) x y := fun h => by
                have := hixy.2 h
                simp_all
              refine ⟨(y + 1, D), ⟨hJ.no hyl (fun h => h1 h.1), hyl⟩, by dsimp only; omega, [some 0], rfl, rfl, And.intro (And.intro rfl rfl) trivial, ?_⟩
              exact ⟨.inl rfl, .inl rfl, rfl, .inl rfl, .inl rfl, .inl rfl, trivial⟩
          · conv => whnf
            repeat' ((first | contradiction | (refine And.intro (fun hb => ?_) (fun hb => ?_) <;> first | contradiction | ((try simp only [SB, reduceCtorEq] at hb); try (exfalso; first | contradiction | omega))) | refine G2 ?_ | rw [ints_at (by omega)] | rw [ints_at0 (by omega)] | rw [ints_at' (by omega) (by omega)] | refine G1 ?_ | fail) <;> conv => whnf)
            refine ⟨(x + 1, D), ⟨hJ.next (by omega), hlt⟩, by dsimp only; omega, [some 0], rfl, rfl, And.intro (And.intro rfl rfl) trivial, ?_⟩
            exact ⟨.inl rfl, .inl rfl, rfl, .inl rfl, .inl rfl, trivial⟩
        · refine ⟨(x + 1, C), ⟨hI.skip hlt (.inr (fun h => by have := hbx.1 h; simp_all)), hlt⟩, by dsimp only; omega, [some 0], rfl, rfl, And.intro (And.intro rfl rfl) trivial, ?_⟩
          exact ⟨.inl rfl, .inl rfl, rfl, .inl rfl, .inl rfl, trivial⟩
      · have hfin := (hI.fin (by omega) hBm).uniq (isComps_L _ _ _)
        conv => whnf
        repeat' ((first | contradiction | (refine And.intro (fun hb => ?_) (fun hb => ?_) <;> first | contradiction | ((try simp only [SB, reduceCtorEq] at hb); try (exfalso; first | contradiction | omega))) | refine G2 ?_ | rw [ints_at (by omega)] | rw [ints_at0 (by omega)] | rw [ints_at' (by omega) (by omega)] | refine G1 ?_ | fail) <;> conv => whnf)
        refine ⟨.inl rfl, ?_⟩
        conv => whnf
        rw [← hfin]
        exact ⟨[some 0], ⟨rfl, And.intro (And.intro rfl rfl) trivial⟩, rfl, rfl, by simp [AObj.nov, ints_nov]⟩
end Go.Proofs.Ythanhknkoikbfaa.Ct
namespace Go.Proofs.Ythanhknkoikbfaa.Ct
open Go Go.Proofs Go.Proofs.Ythanhknkoikbfaa.Av
def markE (k : Int) (i : Nat) : EdgeD := ⟨k + 4 * i, k + 4 * i + 1, k + 4 * i + 2, (k + 4 * i + 3).tmod 3 == 0⟩
def marksE (k : Int) (n : Nat) : List EdgeD := (List.range n).map (markE k)
@[simp] theorem length_marksE (k : Int) (n : Nat) : (marksE k n).length = n := by simp [marksE]
def autoRef (o : Nat) (a : AutoD) : List AV := [.int .i64 a.letters, .int .i64 a.states, .int .i64 a.start, .ref o 0 a.edges.length]
theorem snap_auto {h : Heap} {id : Nat} {a : AutoD} (ho : h id = some (.arr 4 (edgeRows a.edges))) : (AV.agg (autoRef id a)).snap h = .agg (autoRow a) :=
  snap_agg (cells_cons rfl (cells_cons rfl (cells_cons rfl (cells_cons (snap1_all ho (length_edgeRows _)) rfl))))
def c_spec_l1Max : ICode := (.seq (.reg [Ol 4 .mv [ci 0]]) (.seq (.seq (.reg [O1 5 .mv 0, O1 6 .mv 1, O2 7 (.bin .gtr) 5 6]) (.cond (.t 7) (.seq (.reg [O1 8 .mv 0, O1 4 .mv 8]) .ret) .skip)) (.seq (.reg [O1 9 .mv 1, O1 4 .mv 9]) .ret)))
theorem b_spec_l1Max : Body Try.prog 153 10 c_spec_l1Max [(.t 4)] := body_mk Try.func153 (by kernel_rfl) (by decide)
def c_spec_AutoMake : ICode := (.seq (.reg [O0 8 (.alc [(.int .i64 0), (.int .i64 0), (.int .i64 0), .snil]), Ol 9 .mv [cb false]]) (.seq (.reg [O1 17 .mv 0, O1 18 .mv 1, O1 19 .mv 2, O3 20 (.bld [(.int .i64 0), (.int .i64 0), (.int .i64 0), .snil] [(0, 1), (1, 1), (2, 1)]) 17 18 19, O0 10 (.alc [(.int .i64 0), (.int .i64 0), (.int .i64 0), .snil]), S2 (.st 4) 10 20]) (.seq (.seq (.reg [O1 21 (.ldn 4) 10, O1 22 (.call 38) 21, O1 23 .not 22, O1 24 .mv 23, Og 25 .mv [.t 3] 24 false, Og 26 .len [.t 25] 24 false, Og 27 (.bin .gtr) [.t 26, ci 2000] 24 false, Ol 28 .pick [.t 24, cb true, .t 27]]) (.cond (.t 28) (.seq (.reg [O0 29 (.bld [(.int .i64 0), (.int .i64 0), (.int .i64 0), .snil] []), S2 (.st 4) 8 29, Ol 9 .mv [cb false]]) .ret) .skip)) (.seq (.reg [O1 30 .mv 1, O1 31 .mv 0, O2 32 (.bin .mul) 30 31, O1 33 .mv 1, O2 34 (.bin .mul) 32 33, O2 35 (.mks 1 8 [(.int .i64 0)]) 34 34, O1 11 .mv 35]) (.seq (.seq (.reg [Ol 12 .mv [ci 0]]) (.block 0 (.loop (.seq (.seq (.reg [O1 36 .mv 12, O1 37 .mv 3, O1 38 .len 37, O2 39 (.bin .lss) 36 38]) (.cond (.t 39) .skip (.exit 0))) (.seq (.block 1 (.seq (.reg [O1 42 .mv 3, O1 43 .mv 12, O2 44 (.iadr 4) 42 43, O1 45 (.ldn 4) 44, O0 13 (.alc [(.int .i64 0), (.int .i64 0), (.int .i64 0), (.bool false)]), S2 (.st 4) 13 45]) (.seq (.seq (.reg [O1 46 (.fadr 0) 13, O1 47 .ld1 46, O1 48 .mv 1, O2 49 (.call 116) 47 48, O1 50 .not 49, O1 51 .mv 50, Og 52 (.fadr 2) [.t 13] 51 false, Og 53 .ld1 [.t 52] 51 false, Og 54 .mv [.t 1] 51 false, Og 55 (.call 116) [.t 53, .t 54] 51 false, Og 56 .not [.t 55] 51 false, Ol 57 .pick [.t 51, cb true, .t 56], O1 58 .mv 57, Og 59 (.fadr 1) [.t 13] 58 false, Og 60 .ld1 [.t 59] 58 false, Og 61 .mv [.t 0] 58 false, Og 62 (.bin .sub) [.t 61, ci 1] 58 false, Og 63 (.call 114) [.t 60, ci 0, .t 62] 58 false, Og 64 .not [.t 63] 58 false, Ol 65 .pick [.t 58, cb true, .t 64]]) (.cond (.t 65) (.seq (.reg [O0 66 (.bld [(.int .i64 0), (.int .i64 0), (.int .i64 0), .snil] []), S2 (.st 4) 8 66, Ol 9 .mv [cb false]]) .ret) .skip)) (.seq (.reg [O1 67 (.fadr 0) 13, O1 68 .ld1 67, O1 69 .mv 0, O2 70 (.bin .mul) 68 69, O1 71 (.fadr 1) 13, O1 72 .ld1 71, O2 73 (.bin .add) 70 72, O1 74 .mv 1, O2 75 (.bin .mul) 73 74, O1 76 (.fadr 2) 13, O1 77 .ld1 76, O2 78 (.bin .add) 75 77, O1 14 .mv 78]) (.seq (.reg [Ol 15 .mv [ci 1]]) (.seq (.seq (.reg [O1 79 (.fadr 3) 13, O1 80 .ld1 79]) (.cond (.t 80) (.reg [Ol 15 .mv [ci 2]]) .skip)) (.reg [O1 81 .mv 11, O1 82 .mv 14, O1 83 .mv 11, O1 84 .mv 14, O2 85 (.iadr 1) 83 84, O1 86 .ld1 85, O1 87 .mv 15, O2 88 (.call 153) 86 87, O2 89 (.iadr 1) 81 82, S2 (.st 1) 89 88]))))))) (.reg [O1 40 .mv 12, Ol 41 (.bin .add) [.t 40, ci 1], O1 12 .mv 41])))))) (.seq (.seq (.reg [Ol 16 .mv [ci 0]]) (.block 2 (.loop (.seq (.seq (.reg [O1 90 .mv 16, O1 91 .mv 11, O1 92 .len 91, O2 93 (.bin .lss) 90 92]) (.cond (.t 93) .skip (.exit 2))) (.seq (.block 3 (.seq (.reg [O1 96 .mv 11, O1 97 .mv 16, O2 98 (.iadr 1) 96 97, O1 99 .ld1 98, Ol 100 (.bin .gtr) [.t 99, ci 0]]) (.cond (.t 100) (.drw [O1 101 (.fadr 3) 10, O1 102 .ld1 101, O1 103 .mv 16, O1 104 .mv 1, O2 105 (.bin .quo) 103 104, O1 106 .mv 0, O2 107 (.bin .quo) 105 106, O1 108 .mv 16, O1 109 .mv 1, O2 110 (.bin .quo) 108 109, O1 111 .mv 0, O2 112 (.bin .rem) 110 111, O1 113 .mv 16, O1 114 .mv 1, O2 115 (.bin .rem) 113 114, O1 116 .mv 11, O1 117 .mv 16, O2 118 (.iadr 1) 116 117, O1 119 .ld1 118, Ol 120 (.bin .eql) [.t 119, ci 2], Ol 121 (.bld [(.int .i64 0), (.int .i64 0), (.int .i64 0), (.bool false)] [(0, 1), (1, 1), (2, 1), (3, 1)]) [.t 107, .t 112, .t 115, .t 120], O1 122 (.bslv 4) 121, O2 123 (.app 4 32) 102 122, O1 124 (.fadr 3) 10, S2 (.st 1) 124 123] (unB [0, 1, 0, 0, 12, 0, 60, 0, 0, 384, 0, 1920, 0, 0, 12288, 0, 0, 98304, 229376, 491520, 1048572, 2097148, 4194303, 8388607, 16777215] 0) true true) .skip))) (.reg [O1 94 .mv 16, Ol 95 (.bin .add) [.t 94, ci 1], O1 16 .mv 95])))))) (.seq (.reg [O1 125 (.ldn 4) 10, S2 (.st 4) 8 125, Ol 9 .mv [cb true]]) .ret)))))))
theorem b_spec_AutoMake : Body Try.prog 154 126 c_spec_AutoMake [(.cn 8 4), (.t 9)] := body_mk Try.func154 (by kernel_rfl) (by decide)
def RMax (xs : List AV) (r : AV) (objs : List AObj) : Prop := ∃ a b, xs = [.int .i64 a, .int .i64 b] ∧ r = .int .i64 (if a > b then a else b) ∧ objs = []
theorem RMax_mk {a b : Int} : RMax [.int .i64 a, .int .i64 b] (.int .i64 (if a > b then a else b)) [] := ⟨a, b, rfl, rfl, rfl⟩
theorem s_spec_l1Max : PureSound Try.prog 153 RMax := by
  have hR : Rely Try.prog (ctxOf []) := rely_nil mixed
  refine pure_of_aw b_spec_l1Max ?_
  rintro xs r objs ⟨a, b, rfl, rfl, rfl⟩ -
  refine ⟨by simp, vc2_sound hR _ _ _ _ _ ?_⟩
  conv => whnf
  repeat' ((first | contradiction | (refine And.intro (fun hb => ?_) (fun hb => ?_) <;> first | contradiction | ((try simp only [SB, reduceCtorEq] at hb); try (exfalso; first | contradiction | omega))) | refine G2 ?_ | rw [ints_at (by omega)] | rw [ints_at0 (by omega)] | rw [ints_at' (by omega) (by omega)] | refine G1 ?_ | fail) <;> conv => whnf)
  all_goals
    refine ⟨.inl rfl, ?_⟩
    conv => whnf
    refine ⟨[], ⟨rfl, trivial⟩, ?_, rfl, rfl⟩
    conv => whnf
    left
    conv => lhs; whnf
    exact congrArg (AV.int .i64) (by split <;> omega)
def EdgeH (l n : Int) (e : EdgeD) : Prop := (0 ≤ e.src ∧ e.src ≤ n - 1) ∧ (0 ≤ e.dst ∧ e.dst ≤ n - 1) ∧ (0 ≤ e.letter ∧ e.letter ≤ l - 1)
instance (l n : Int) (e : EdgeD) : Decidable (EdgeH l n e) := by unfold EdgeH; infer_instance
def MakeOk (l n st : Int) (es : List EdgeD) : Prop := HeadOk l n st ∧ es.length ≤ 2000 ∧ ∀ i, i < es.length → EdgeH l n (es.getD i default)
def zeroAuto : AutoD := ⟨0, 0, 0, []⟩
open Classical in
noncomputable def makeD (l n st : Int) (es : List EdgeD) : AutoD × Bool := if MakeOk l n st es then (⟨l, n, st, mkAll l.toNat n.toNat es⟩, true) else (zeroAuto, false)
def makeR (d : AutoD × Bool) : AV := .tup [.agg (autoRef 0 d.1), .bool d.2]
def RMake (xs : List AV) (r : AV) (objs : List AObj) : Prop := ∃ l n st es, xs = [.int .i64 l, .int .i64 n, .int .i64 st, .val (edgeRows es)] ∧ es.length ≤ 1048576 ∧ r = makeR (makeD l n st es) ∧ objs = [.arr 4 (edgeRows (makeD l n st es).1.edges)]
def marksL (l n : Nat) (es : List EdgeD) : List Int := (List.range (n * l * n)).map fun j => ((markN l n es j : Nat) : Int)
@[simp] theorem length_marksL (l n : Nat) (es : List EdgeD) : (marksL l n es).length = n * l * n := by simp [marksL]
theorem marksL_at {l n : Nat} {es : List EdgeD} {j : Nat} (h : j < n * l * n) : (marksL l n es).getD j 0 = ((markN l n es j : Nat) : Int) := by simp [marksL, List.getD_eq_getElem?_getD, h]
theorem marksL_nil (l n : Nat) : marksL l n [] = List.replicate (n * l * n) 0 := by
  unfold marksL
  have : (fun j => ((markN l n [] j : Nat) : Int)) = fun _ => 0 := by funext j; simp [markN]
  rw [this, List.map_const', List.length_range]
theorem markN_snoc {l n : Nat} {es : List EdgeD} {e : EdgeD} {j : Nat} : markN l n (es ++ [e]) j = if ixE l n e = j then Nat.max (markN l n es j) (if e.mark = true then 2 else 1) else markN l n es j := by
  unfold markN
  simp only [List.any_append, List.any_cons, List.any_nil, Bool.or_false, Bool.or_eq_true]
  by_cases h : ixE l n e = j
  · simp only [h, beq_self_eq_true, Bool.true_and, if_true]
    cases e.mark <;> simp <;> split <;> simp_all
    all_goals (try split) <;> decide
  · simp [h]
theorem marks_step {l n : Nat} {es : List EdgeD} {e : EdgeD} {x : Int} (hx : x = (((if (markN l n es (ixE l n e) : Int) > (if e.mark = true then 2 else 1) then (markN l n es (ixE l n e) : Int) else (if e.mark = true then 2 else 1) : Int)))) (h : ixE l n e < n * l * n) :
    (marksL l n es).set (ixE l n e) x = marksL l n (es ++ [e]) := by
  refine List.ext_getElem? fun j => ?_
  rw [List.getElem?_set]
  by_cases hj : ixE l n e = j
  · subst hj
    rw [if_pos rfl, length_marksL, if_pos h]
    simp only [marksL, List.getElem?_map, List.getElem?_range h, Option.map_some, markN_snoc, if_true]
    rw [hx]
    congr 1
    show _ = ((max (markN l n es (ixE l n e)) (if e.mark = true then 2 else 1) : Nat) : Int)
    cases e.mark <;> simp <;> omega
  · rw [if_neg hj]
    by_cases hl : j < n * l * n
    · simp only [marksL, List.getElem?_map, List.getElem?_range hl, Option.map_some, markN_snoc, if_neg hj]
    · simp [marksL, hl]
theorem ints_setM {xs : List Int} {j : Nat} {v : Int} : (ints xs).set j [.int .i64 v] = ints (xs.set j v) := by simp [ints, List.map_set]
theorem cell_le {l n : Nat} {es : List EdgeD} {i : Nat} : (cellE l n es i).length ≤ 1 := by unfold cellE; split <;> simp
theorem mkEs_le {l n : Nat} {es : List EdgeD} : ∀ k, (mkEs l n es k).length ≤ k
  | 0 => by simp [mkEs]
  | k + 1 => by
    have := mkEs_le (l := l) (n := n) (es := es) k
    have := cell_le (l := l) (n := n) (es := es) (i := k)
    rw [mkEs_succ, List.length_append]; omega
theorem make_app {M : List EdgeD} {l n k : Nat} {b : Bool} : List.take M.length (edgeRows M) ++ [[.int .i64 ((k / n / l : Nat) : Int), .int .i64 ((k / n % l : Nat) : Int), .int .i64 ((k % n : Nat) : Int), .bool b]] = edgeRows (M ++ [ofIx l n k b]) := by
  rw [List.take_of_length_le (by rw [length_edgeRows]; exact Nat.le_refl _)]
  simp [edgeRows, edgeRow, ofIx]
theorem take_succ_E {es : List EdgeD} {i : Nat} (h : i < es.length) : es.take i ++ [es.getD i default] = es.take (i + 1) := by
  rw [List.take_add_one, List.getElem?_eq_getElem h, List.getD_eq_getElem?_getD, List.getElem?_eq_getElem h]; rfl
theorem ixE_int {l n : Int} {e : EdgeD} (hl : 0 ≤ l) (hn : 0 ≤ n) (h : EdgeH l n e) : (e.src * l + e.letter) * n + e.dst = ((ixE l.toNat n.toNat e : Nat) : Int) := by
  unfold EdgeH at h
  unfold ixE
  rw [Int.natCast_add, Int.natCast_mul, Int.natCast_add, Int.natCast_mul, Int.toNat_of_nonneg hl, Int.toNat_of_nonneg hn, Int.toNat_of_nonneg h.1.1, Int.toNat_of_nonneg h.2.2.1, Int.toNat_of_nonneg h.2.1.1]
theorem head_auto {l n st : Int} : AutoOk ⟨l, n, st, []⟩ ↔ HeadOk l n st := ⟨fun h => h.1, fun h => ⟨h, by simp, fun i hi => by simp at hi⟩⟩
theorem RAutoOk_H {xs : List AV} {l n st : Int} {b : Bool} (hx : xs = [.agg (autoRow ⟨l, n, st, []⟩)]) (h : decide (HeadOk l n st) = b) : RAutoOk xs (.bool b) [] := ⟨_, hx, by subst h; exact congrArg AV.bool (by simp only [head_auto]), rfl⟩
set_option maxHeartbeats 4000000 in
theorem s_spec_AutoMake : PureSound Try.prog 154 RMake := by
  have hR : Rely Try.prog (ctxOf [(38, .pure RAutoOk), (116, .pure RState), (114, .pure RIn), (153, .pure RMax)]) :=
    rely_cons b_spec_AutoOk.has s_spec_AutoOk (rely_cons b_spec_l4State.has s_spec_l4State (rely_cons b_spec_l1In.has s_spec_l1In (rely_cons b_spec_l1Max.has s_spec_l1Max (rely_nil mixed))))
  refine pure_of_aw b_spec_AutoMake ?_
  rintro xs r objs ⟨l, n, st, es, rfl, hel, rfl, rfl⟩ -
  have hle := length_edgeRows es
  refine ⟨by simp, vc2_sound hR _ _ _ _ _ ?_⟩
  by_cases hh : HeadOk l n st
  rotate_left
  · have hh' : decide (HeadOk l n st) = false := decide_eq_false hh
    rw [show makeD l n st es = (zeroAuto, false) from if_neg (fun h => hh h.1)]
    conv => whnf
    repeat' ((first | contradiction | (refine And.intro (fun hb => ?_) (fun hb => ?_) <;> first | contradiction | ((try simp only [SB, reduceCtorEq] at hb); try (exfalso; first | contradiction | omega))) | refine G2 ?_ | rw [ints_at (by omega)] | rw [ints_at0 (by omega)] | rw [ints_at' (by omega) (by omega)] | refine G1 ?_ | refine ⟨_, _, RAutoOk_H rfl hh', ?_⟩ | fail) <;> conv => whnf)
    refine ⟨.inl rfl, ?_⟩
    conv => whnf
    exact ⟨Nat.le_refl 4, [none], ⟨rfl, And.intro rfl trivial⟩, ⟨⟨.inl rfl, .inl rfl, .inl rfl, ⟨rfl, rfl, rfl⟩, trivial⟩, .inl rfl, trivial⟩, rfl, rfl⟩
  have hh' : decide (HeadOk l n st) = true := decide_eq_true hh
  have hH := hh
  obtain ⟨hl, hn, hs⟩ := hh
  have p1 : 0 ≤ n * l ∧ n * l ≤ 31 * 8 := ⟨Int.mul_nonneg (by omega) (by omega), Int.mul_le_mul (by omega) (by omega) (by omega) (by omega)⟩
  have p2 : 0 ≤ n * l * n ∧ n * l * n ≤ 31 * 8 * 31 := ⟨Int.mul_nonneg (by omega) (by omega), Int.mul_le_mul (by omega) (by omega) (by omega) (by omega)⟩
  have p3 : n * l * n = ((n.toNat * l.toNat * n.toNat : Nat) : Int) := by rw [Int.natCast_mul, Int.natCast_mul, Int.toNat_of_nonneg (by omega), Int.toNat_of_nonneg (by omega)]
  conv => whnf
  repeat' ((first | contradiction | (refine And.intro (fun hb => ?_) (fun hb => ?_) <;> first | contradiction | ((try simp only [SB, reduceCtorEq] at hb); try (exfalso; first | contradiction | omega))) | refine G2 ?_ | rw [ints_at (by omega)] | rw [ints_at0 (by omega)] | rw [ints_at' (by omega) (by omega)] | refine G1 ?_ | refine ⟨_, _, RAutoOk_H rfl hh', ?_⟩ | fail) <;> conv => whnf)
  · rw [show makeD l n st es = (zeroAuto, false) from if_neg (fun h => by have := h.2.1; omega)]
    refine ⟨.inl rfl, ?_⟩
    conv => whnf
    exact ⟨Nat.le_refl 4, [none], ⟨rfl, And.intro rfl trivial⟩, ⟨⟨.inl rfl, .inl rfl, .inl rfl, ⟨rfl, rfl, rfl⟩, trivial⟩, .inl rfl, trivial⟩, rfl, rfl⟩
  have he2 : es.length ≤ 2000 := by omega
  refine Lp.intro (α := Nat) (fun i => i ≤ es.length ∧ ∀ j, j < i → EdgeH l n (es.getD j default)) (fun i => es.length - i) (fun i => [(0, .int .i64 l), (1, .int .i64 n), (3, .val (edgeRows es)), (8, .ptr 0 0 0), (9, .bool false), (10, .ptr 1 0 0), (11, .ref 2 0 (n.toNat * l.toNat * n.toNat)), (12, .int .i64 i)])
    (fun i => [some (.box [.int .i64 0, .int .i64 0, .int .i64 0, .snil]), some (.box [.int .i64 l, .int .i64 n, .int .i64 st, .snil]), some (.arr 1 (ints (marksL l.toNat n.toNat (es.take i))))]) ?_ ?_
  · refine ⟨0, ⟨Nat.zero_le _, fun j hj => by omega⟩, [some 0, some 1, some 2], rfl, rfl, And.intro ⟨.inl rfl, .inl rfl, .inl rfl, .inl rfl, trivial⟩ (And.intro ⟨.inl rfl, .inl rfl, .inl rfl, .inl rfl, trivial⟩ (And.intro ⟨rfl, ?_⟩ trivial)), ?_⟩
    · show List.replicate (n * l * n).toNat [AV.int .i64 0] = _
      rw [List.take_zero, marksL_nil, p3, Int.toNat_natCast]
      simp [ints]
    · repeat' (first
        | exact trivial
        | refine ⟨?_, ?_⟩
        | fail)
      all_goals first
        | with_reducible rfl
        | (conv => whnf
           try left
           conv => lhs; whnf
           first
             | rfl
             | exact congrArg (AV.int .i64) (by omega)
             | skip)
      rw [p3, Int.toNat_natCast]
  intro i hi
  obtain ⟨hi, hpre⟩ := hi
  have hml := length_ints (marksL l.toNat n.toNat (es.take i))
  rw [length_marksL] at hml
  refine vc2_sound hR _ _ _ _ _ ?_
  by_cases hlt : i < es.length
  · have hat := edge_at hlt
    have hts := take_succ_E hlt
    by_cases hE : EdgeH l n (es.getD i default)
    · have hix := ixE_int (by omega) (by omega) hE
      have hlt2 : ixE l.toNat n.toNat (es.getD i default) < n.toNat * l.toNat * n.toNat := ixE_lt (by unfold EdgeH at hE; omega) (by unfold EdgeH at hE; omega) (by unfold EdgeH at hE; omega)
      have hpre' : ∀ j, j < i + 1 → EdgeH l n (es.getD j default) := fun j hj => by
        rcases Nat.lt_or_ge j i with g | g
        · exact hpre j g
        · obtain rfl : j = i := by omega
          exact hE
      have hst := fun x => marks_step (l := l.toNat) (n := n.toNat) (es := es.take i) (e := es.getD i default) (x := x)
      have hma := marksL_at (es := es.take i) hlt2
      have q1 : 0 ≤ (es.getD i default).src * l ∧ (es.getD i default).src * l ≤ 31 * 8 := ⟨Int.mul_nonneg hE.1.1 (by omega), Int.mul_le_mul (by have := hE.1.2; omega) (by omega) (by omega) (by omega)⟩
      have q2 : 0 ≤ ((es.getD i default).src * l + (es.getD i default).letter) * n ∧ ((es.getD i default).src * l + (es.getD i default).letter) * n ≤ 256 * 31 := ⟨Int.mul_nonneg (by have := hE.2.2.1; omega) (by omega), Int.mul_le_mul (by have := hE.2.2.2; omega) (by omega) (by omega) (by omega)⟩
      rw [hts] at hst
      generalize es.getD i default = e at *
      unfold EdgeH at hE
      generalize hk : ixE l.toNat n.toNat e = k at *
      obtain ⟨e1, e2, e3, e4⟩ := e
      dsimp only at *
      have hcell : (ints (marksL l.toNat n.toNat (es.take i)))[0 + ((e1 * l + e2) * n + e3).toNat]? = some [.int .i64 (markN l.toNat n.toNat (es.take i) k)] := by
        rw [hix, ints_at0 (by rw [length_marksL]; exact hlt2), hma]
      have hat' : (edgeRows es)[((i : Nat) : Int).toNat]? = some [.int .i64 e1, .int .i64 e2, .int .i64 e3, .bool e4] := hat
      clear hat
      cases e4
      all_goals
        conv => whnf
        repeat' ((first | contradiction | (refine And.intro (fun hb => ?_) (fun hb => ?_) <;> first | contradiction | ((try simp only [SB, reduceCtorEq] at hb); try (exfalso; first | contradiction | omega))) | rw [hat'] | rw [hcell] | refine G2 ?_ | rw [ints_at (by omega)] | rw [ints_at0 (by omega)] | rw [ints_at' (by omega) (by omega)] | refine G1 ?_ | refine ⟨_, _, RState_mk (by omega) (by omega), ?_⟩ | refine ⟨_, _, RIn_mk, ?_⟩ | refine ⟨_, _, RMax_mk, ?_⟩ | fail) <;> conv => whnf)
        refine ⟨i + 1, ⟨hlt, hpre'⟩, by omega, [some 0, some 1, some 2], rfl, rfl, And.intro ⟨.inl rfl, .inl rfl, .inl rfl, .inl rfl, trivial⟩ (And.intro ⟨.inl rfl, .inl rfl, .inl rfl, .inl rfl, trivial⟩ (And.intro ⟨rfl, ?_⟩ trivial)), ?_⟩
        · refine Eq.trans ?_ (congrArg ints (hst _ rfl hlt2))
          rw [← ints_setM]
          show List.set _ (0 + ((e1 * l + e2) * n + e3).toNat) _ = _
          rw [hix, Nat.zero_add, Int.toNat_natCast]
          rfl
        · repeat' (first
            | exact trivial
            | refine ⟨?_, ?_⟩
            | fail)
          all_goals first
            | with_reducible rfl
            | (conv => whnf
               try left
               conv => lhs; whnf
               first
                 | rfl
                 | exact congrArg (AV.int .i64) (by omega)
                 | skip)
    · rw [show makeD l n st es = (zeroAuto, false) from if_neg (fun h => hE (h.2.2 i hlt))]
      generalize es.getD i default = e at *
      unfold EdgeH at hE
      conv => whnf
      repeat' ((first | contradiction | (refine And.intro (fun hb => ?_) (fun hb => ?_) <;> first | contradiction | ((try simp only [SB, reduceCtorEq] at hb); try (exfalso; first | contradiction | omega))) | rw [hat] | refine G2 ?_ | rw [ints_at (by omega)] | rw [ints_at0 (by omega)] | rw [ints_at' (by omega) (by omega)] | refine G1 ?_ | refine ⟨_, _, RState_mk (by omega) (by omega), ?_⟩ | refine ⟨_, _, RIn_mk, ?_⟩ | fail) <;> conv => whnf)
      all_goals
        refine ⟨.inl rfl, ?_⟩
        conv => whnf
        exact ⟨Nat.le_refl 4, [none], ⟨rfl, And.intro rfl trivial⟩, ⟨⟨.inl rfl, .inl rfl, .inl rfl, ⟨rfl, rfl, rfl⟩, trivial⟩, .inl rfl, trivial⟩, rfl, rfl⟩
  · obtain rfl : i = es.length := by omega
    rw [show makeD l n st es = (⟨l, n, st, mkAll l.toNat n.toNat es⟩, true) from if_pos ⟨hH, he2, hpre⟩]
    rw [List.take_length] at *
    conv => whnf
    repeat' ((first | contradiction | (refine And.intro (fun hb => ?_) (fun hb => ?_) <;> first | contradiction | ((try simp only [SB, reduceCtorEq] at hb); try (exfalso; first | contradiction | omega))) | refine G2 ?_ | rw [ints_at (by omega)] | rw [ints_at0 (by omega)] | rw [ints_at' (by omega) (by omega)] | refine G1 ?_ | fail) <;> conv => whnf)
    refine Lp.intro (α := Nat) (fun k => k ≤ n.toNat * l.toNat * n.toNat) (fun k => n.toNat * l.toNat * n.toNat - k) (fun k => [(0, .int .i64 l), (1, .int .i64 n), (8, .ptr 0 0 0), (9, .bool false), (10, .ptr 1 0 0), (11, .ref 2 0 (n.toNat * l.toNat * n.toNat)), (16, .int .i64 k)])
      (fun k => [some (.box [.int .i64 0, .int .i64 0, .int .i64 0, .snil]), some (.box [.int .i64 l, .int .i64 n, .int .i64 st, .ref 3 0 (mkEs l.toNat n.toNat es k).length]), some (.arr 1 (ints (marksL l.toNat n.toNat es))), some (.arr 4 (edgeRows (mkEs l.toNat n.toNat es k)))]) ?_ ?_
    · refine ⟨0, Nat.zero_le _, [some 0, some 1, some 2, none], rfl, rfl, And.intro ⟨.inl rfl, .inl rfl, .inl rfl, .inl rfl, trivial⟩ (And.intro ⟨.inl rfl, .inl rfl, .inl rfl, ⟨rfl, rfl, rfl⟩, trivial⟩ (And.intro ⟨rfl, rfl⟩ (And.intro rfl trivial))), ?_⟩
      repeat' (first
        | exact trivial
        | refine ⟨?_, ?_⟩
        | fail)
      all_goals first
        | with_reducible rfl
        | (conv => whnf
           try left
           conv => lhs; whnf
           first
             | rfl
             | exact congrArg (AV.int .i64) (by omega)
             | skip)
    intro k hk
    have hml := length_ints (marksL l.toNat n.toNat es)
    rw [length_marksL] at hml
    refine vc2_sound hR _ _ _ _ _ ?_
    by_cases hlt : k < n.toNat * l.toNat * n.toNat
    · have hma := marksL_at (es := es) hlt
      have hcell : (ints (marksL l.toNat n.toNat es))[0 + ((k : Nat) : Int).toNat]? = some [.int .i64 (markN l.toNat n.toNat es k)] := by
        rw [ints_at0 (by rw [length_marksL]; exact hlt), hma]
      by_cases h0 : 0 < markN l.toNat n.toNat es k
      · have hn0 : n ≠ 0 := by
          intro h
          rw [h] at hlt
          simp at hlt
        have hl0 : l ≠ 0 := by omega
        have hkn : k / n.toNat ≤ 100000000 := by have := Nat.div_le_self k n.toNat; omega
        have hml := mkEs_le (l := l.toNat) (n := n.toNat) (es := es) k
        have hmr := length_edgeRows (mkEs l.toNat n.toNat es k)
        conv => whnf
        repeat' ((first | contradiction | (refine And.intro (fun hb => ?_) (fun hb => ?_) <;> first | contradiction | ((try simp only [SB, reduceCtorEq] at hb); try (exfalso; first | contradiction | omega))) | rw [hcell] | rw [quo_nat (by omega) (by omega)] | rw [rem_nat (by omega)] | refine G2 ?_ | rw [ints_at (by omega)] | rw [ints_at0 (by omega)] | rw [ints_at' (by omega) (by omega)] | refine G1 ?_ | refine And.intro hn0 ?_ | refine And.intro hl0 ?_ | refine ⟨_, rfl, ?_⟩ | fail) <;> conv => whnf)
        · have hm2 : (markN l.toNat n.toNat es k == 2) = true := by
            simp only [beq_iff_eq, beq_eq_false_iff_ne]; omega
          have hc : cellE l.toNat n.toNat es k = [ofIx l.toNat n.toNat k true] := by unfold cellE; rw [if_pos h0, hm2]
          refine ⟨k + 1, by omega, by omega, [some 0, some 1, some 2, some 4], rfl, rfl, And.intro ⟨.inl rfl, .inl rfl, .inl rfl, .inl rfl, trivial⟩ (And.intro ⟨.inl rfl, .inl rfl, .inl rfl, ?_, trivial⟩ (And.intro ⟨rfl, rfl⟩ (And.intro ⟨rfl, ?_⟩ trivial))), ?_⟩
          · rw [mkEs_succ, hc, List.length_append]; exact rfl
          · rw [mkEs_succ, hc]
            exact make_app
          · repeat' (first
              | exact trivial
              | refine ⟨?_, ?_⟩
              | fail)
            all_goals first
              | with_reducible rfl
              | (conv => whnf
                 try left
                 conv => lhs; whnf
                 first
                   | rfl
                   | exact congrArg (AV.int .i64) (by omega)
                   | skip)
        · have hm2 : (markN l.toNat n.toNat es k == 2) = false := by
            simp only [beq_iff_eq, beq_eq_false_iff_ne]; omega
          have hc : cellE l.toNat n.toNat es k = [ofIx l.toNat n.toNat k false] := by unfold cellE; rw [if_pos h0, hm2]
          refine ⟨k + 1, by omega, by omega, [some 0, some 1, some 2, some 4], rfl, rfl, And.intro ⟨.inl rfl, .inl rfl, .inl rfl, .inl rfl, trivial⟩ (And.intro ⟨.inl rfl, .inl rfl, .inl rfl, ?_, trivial⟩ (And.intro ⟨rfl, rfl⟩ (And.intro ⟨rfl, ?_⟩ trivial))), ?_⟩
          · rw [mkEs_succ, hc, List.length_append]; exact rfl
          · rw [mkEs_succ, hc]
            exact make_app
          · repeat' (first
              | exact trivial
              | refine ⟨?_, ?_⟩
              | fail)
            all_goals first
              | with_reducible rfl
              | (conv => whnf
                 try left
                 conv => lhs; whnf
                 first
                   | rfl
                   | exact congrArg (AV.int .i64) (by omega)
                   | skip)
      · conv => whnf
        repeat' ((first | contradiction | (refine And.intro (fun hb => ?_) (fun hb => ?_) <;> first | contradiction | ((try simp only [SB, reduceCtorEq] at hb); try (exfalso; first | contradiction | omega))) | rw [hcell] | refine G2 ?_ | rw [ints_at (by omega)] | rw [ints_at0 (by omega)] | rw [ints_at' (by omega) (by omega)] | refine G1 ?_ | fail) <;> conv => whnf)
        have hc : cellE l.toNat n.toNat es k = [] := if_neg h0
        refine ⟨k + 1, by omega, by omega, [some 0, some 1, some 2, some 3], rfl, rfl, And.intro ⟨.inl rfl, .inl rfl, .inl rfl, .inl rfl, trivial⟩ (And.intro ⟨.inl rfl, .inl rfl, .inl rfl, ?_, trivial⟩ (And.intro ⟨rfl, rfl⟩ (And.intro ⟨rfl, ?_⟩ trivial))), ?_⟩
        · rw [mkEs_succ, hc, List.append_nil]; exact rfl
        · rw [mkEs_succ, hc, List.append_nil]
        · repeat' (first
            | exact trivial
            | refine ⟨?_, ?_⟩
            | fail)
          all_goals first
            | with_reducible rfl
            | (conv => whnf
               try left
               conv => lhs; whnf
               first
                 | rfl
                 | exact congrArg (AV.int .i64) (by omega)
                 | skip)
    · obtain rfl : k = n.toNat * l.toNat * n.toNat := by omega
      conv => whnf
      repeat' ((first | contradiction | (refine And.intro (fun hb => ?_) (fun hb => ?_) <;> first | contradiction | ((try simp only [SB, reduceCtorEq] at hb); try (exfalso; first | contradiction | omega))) | refine G2 ?_ | rw [ints_at (by omega)] | rw [ints_at0 (by omega)] | rw [ints_at' (by omega) (by omega)] | refine G1 ?_ | fail) <;> conv => whnf)
      refine ⟨.inl rfl, ?_⟩
      conv => whnf
      exact ⟨Nat.le_refl 4, [some 3], ⟨rfl, And.intro ⟨rfl, rfl⟩ trivial⟩, ⟨⟨.inl rfl, .inl rfl, .inl rfl, rfl, trivial⟩, .inl rfl, trivial⟩, rfl, by simp [AObj.nov, edgeRows_nov]⟩
def c_spec_l4DrawEdges : ICode := (.seq (.reg [Ol 8 .mv [.c .snil]]) (.seq (.reg [O0 11 .bsle, O1 9 .mv 11]) (.seq (.seq (.reg [Ol 10 .mv [ci 0]]) (.block 0 (.loop (.seq (.seq (.reg [O1 12 .mv 10, O1 13 .mv 3, O2 14 (.bin .lss) 12 13]) (.cond (.t 14) .skip (.exit 0))) (.seq (.block 1 (.reg [O1 17 .mv 9, O1 18 .mv 0, O1 19 .mv 2, O2 20 (.call 137) 18 19, O1 21 .mv 0, O1 22 .mv 1, O2 23 (.call 137) 21 22, O1 24 .mv 0, O1 25 .mv 2, O2 26 (.call 137) 24 25, O1 27 .mv 0, Ol 28 (.call 139) [.t 27, ci 3], Ol 29 (.bld [(.int .i64 0), (.int .i64 0), (.int .i64 0), (.bool false)] [(0, 1), (1, 1), (2, 1), (3, 1)]) [.t 20, .t 23, .t 26, .t 28], O1 30 (.bslv 4) 29, O2 31 (.app 4 32) 17 30, O1 9 .mv 31])) (.reg [O1 15 .mv 10, Ol 16 (.bin .add) [.t 15, ci 1], O1 10 .mv 16])))))) (.seq (.reg [O1 32 .mv 9, O1 8 .mv 32]) .ret))))
theorem b_spec_l4DrawEdges : Body Try.prog 205 33 c_spec_l4DrawEdges [(.t 8)] := body_mk Try.func205 (by kernel_rfl) (by decide)
def c_spec_l4DrawRight : ICode := (.seq (.reg [O0 6 (.alc [(.int .i64 0), (.int .i64 0), (.int .i64 0), .snil])]) (.seq (.reg [O1 10 .mv 0, O1 11 .mv 2, O2 12 (.call 137) 10 11, Ol 13 (.bin .add) [ci 1, .t 12], O1 7 .mv 13]) (.seq (.reg [O1 15 .mv 1, O1 16 .mv 7, O1 17 .mv 0, O1 18 .mv 7, Ol 19 (.bin .shl) [ci 1, .t 18], O2 20 (.call 137) 17 19, Ol 21 (.bin .or) [ci 1, .t 20], O1 22 .mv 0, O1 23 .mv 1, O1 24 .mv 7, O1 25 .mv 0, O1 26 .mv 7, Ol 27 (.bin .mul) [ci 2, .t 26], O1 28 .mv 1, O2 29 (.bin .mul) 27 28, O2 30 (.call 137) 25 29, Ol 31 (.bin .add) [ci 1, .t 30], Ol 32 (.call 205) [.t 22, .t 23, .t 24, .t 31], Ol 33 (.call 154) [.t 15, .t 16, .t 21, .t 32], O1 14 .mv 33, O1 34 (.ext 0) 14, O1 35 (.ext 1) 14, O0 8 (.alc [(.int .i64 0), (.int .i64 0), (.int .i64 0), .snil]), S2 (.st 4) 8 34, O1 9 .mv 35]) (.seq (.reg [O1 36 (.ldn 4) 8, S2 (.st 4) 6 36]) .ret))))
theorem b_spec_l4DrawRight : Body Try.prog 187 37 c_spec_l4DrawRight [(.cn 6 4)] := body_mk Try.func187 (by kernel_rfl) (by decide)
theorem GOnce_nv (xs : List AV) (objs : List AObj) (Q : AV → List (Option AObj) → Prop) (h : GOnce xs objs Q) : ∃ r out, Q r out := by
  obtain ⟨code, i, h, n, _, _, _, _, _, hq⟩ := h
  exact ⟨_, _, hq false 0 0 (Nat.zero_le _)⟩
def GEdges : GFun := fun xs objs Q => ∃ (code : List UInt8) (i : Nat) (h l n m : Int), xs = [.ptr 0 0 0, .int .i64 l, .int .i64 n, .int .i64 m] ∧ objs = [curO code i h] ∧ i ≤ code.length ∧ code.length ≤ 1048576 ∧ 0 ≤ m ∧ m ≤ 2000 ∧ l ≤ 1073741824 ∧ n ≤ 1073741824 ∧
  ∀ (es : List EdgeD) (i' : Nat) (h' : Int), es.length ≤ m → i' ≤ code.length → Q (.ref 1 0 es.length) [some (curO code i' h'), some (.arr 4 (edgeRows es))]
theorem GEdges_mk {code : List UInt8} {i : Nat} {h l n m : Int} {Q : AV → List (Option AObj) → Prop} (h1 : i ≤ code.length) (h2 : code.length ≤ 1048576) (h3 : 0 ≤ m ∧ m ≤ 2000) (h4 : l ≤ 1073741824) (h5 : n ≤ 1073741824)
    (hq : ∀ (es : List EdgeD) (i' : Nat) (h' : Int), es.length ≤ m → i' ≤ code.length → Q (.ref 1 0 es.length) [some (curO code i' h'), some (.arr 4 (edgeRows es))]) : GEdges [.ptr 0 0 0, .int .i64 l, .int .i64 n, .int .i64 m] [curO code i h] Q :=
  ⟨code, i, h, l, n, m, rfl, rfl, h1, h2, h3.1, h3.2, h4, h5, hq⟩
theorem app_edge (M : List EdgeD) (a b c : Int) (d : Bool) : List.take M.length (edgeRows M) ++ [[.int .i64 a, .int .i64 b, .int .i64 c, .bool d]] = edgeRows (M ++ [⟨a, b, c, d⟩]) := by
  rw [List.take_of_length_le (by rw [length_edgeRows]; exact Nat.le_refl _)]
  simp [edgeRows, edgeRow]
theorem s_spec_l4DrawEdges : GenSound Try.prog 205 1 GEdges := by
  have hR : Rely Try.prog (ctxOf [(137, .gen 1 GBelow), (139, .gen 1 GOnce)]) := rely_cons b_spec_l1Below.has s_spec_l1Below (rely_cons b_spec_l1Once.has s_spec_l1Once (rely_nil mixed))
  refine gen_of_aw b_spec_l4DrawEdges ?_
  rintro xs objs Q - ⟨code, i, h, l, n, m, rfl, rfl, h1, h2, h3, h3', h4, h5, hq⟩ -
  refine ⟨by simp, vc2_sound hR _ _ _ _ _ ?_⟩
  conv => whnf
  repeat' ((first | (refine And.intro (fun hb => ?_) (fun hb => ?_) <;> ((try simp only [SB, reduceCtorEq] at hb); try (exfalso; omega))) | refine G2 ?_ | rw [ints_at (by omega)] | rw [ints_at0 (by omega)] | rw [ints_at' (by omega) (by omega)] | refine G1 ?_ | fail) <;> conv => whnf)
  refine Lp.intro (α := List EdgeD × Nat × Int) (fun a => (a.1.length : Int) ≤ m ∧ a.2.1 ≤ code.length) (fun a => m.toNat - a.1.length) (fun a => [(0, .ptr 0 0 0), (1, .int .i64 l), (2, .int .i64 n), (3, .int .i64 m), (9, .ref 1 0 a.1.length), (10, .int .i64 a.1.length)])
    (fun a => [some (curO code a.2.1 a.2.2), some (.arr 4 (edgeRows a.1))]) ?_ ?_
  · refine ⟨([], i, h), ⟨h3, h1⟩, [some 0, none], rfl, rfl, ?_, ?_⟩
    · exact And.intro (And.intro (.inl rfl) (And.intro (.inl rfl) (And.intro (.inl rfl) trivial))) (And.intro rfl trivial)
    · repeat' (first
        | exact trivial
        | refine ⟨?_, ?_⟩
        | fail)
      all_goals first
        | with_reducible rfl
        | (conv => whnf
           try left
           conv => lhs; whnf
           first
             | rfl
             | exact congrArg (AV.int .i64) (by omega)
             | skip)
  · rintro ⟨es, i2, h2'⟩ ⟨hl, hi2⟩
    dsimp only at hl hi2 ⊢
    have hil := length_edgeRows es
    refine vc2_sound hR _ _ _ _ _ ?_
    conv => whnf
    repeat' ((first | (refine And.intro (fun hb => ?_) (fun hb => ?_) <;> ((try simp only [SB, reduceCtorEq] at hb); try (exfalso; omega))) | refine G2 ?_ | rw [ints_at (by omega)] | rw [ints_at0 (by omega)] | rw [ints_at' (by omega) (by omega)] | refine G1 ?_ | refine ⟨GBelow_mk (by omega) (by omega) (by omega) (fun y i' h' hx0 hx1 hi' => ?_)⟩ | refine ⟨GOnce_mk (by omega) (by omega) (by omega) (fun b i' h' hi' => ?_)⟩ | fail) <;> conv => whnf)
    · obtain rfl : b = true := by simpa using hb
      rename_i y1 a1 a2 a3 a4 a5 y2 b1 b2 b3 b4 b5 c1 c2 c3
      refine ⟨(es ++ [⟨y1, y2, y, true⟩], i', h'), ⟨by simp; omega, hi'⟩, by simp; omega, [some 0, some 2], rfl, rfl, ?_, ?_⟩
      · exact And.intro (And.intro (.inl rfl) (And.intro (.inl rfl) (And.intro (.inl rfl) trivial))) (And.intro (And.intro rfl (app_edge es _ _ _ _)) trivial)
      · repeat' (first
          | exact trivial
          | refine ⟨?_, ?_⟩
          | fail)
        all_goals first
          | with_reducible rfl
          | (conv => whnf
             try left
             conv => lhs; whnf
             first
               | rfl
               | exact congrArg (AV.int .i64) (by omega)
               | skip)
        all_goals simp
    · obtain rfl : b = false := by simpa using hb
      rename_i y1 a1 a2 a3 a4 a5 y2 b1 b2 b3 b4 b5 c1 c2 c3
      refine ⟨(es ++ [⟨y1, y2, y, false⟩], i', h'), ⟨by simp; omega, hi'⟩, by simp; omega, [some 0, some 2], rfl, rfl, ?_, ?_⟩
      · exact And.intro (And.intro (.inl rfl) (And.intro (.inl rfl) (And.intro (.inl rfl) trivial))) (And.intro (And.intro rfl (app_edge es _ _ _ _)) trivial)
      · repeat' (first
          | exact trivial
          | refine ⟨?_, ?_⟩
          | fail)
        all_goals first
          | with_reducible rfl
          | (conv => whnf
             try left
             conv => lhs; whnf
             first
               | rfl
               | exact congrArg (AV.int .i64) (by omega)
               | skip)
        all_goals simp
    · refine ⟨.inl rfl, ?_⟩
      conv => whnf
      refine ⟨[some 0, some 1], .ref 1 0 es.length, [some (curO code i2 h2'), some (.arr 4 (edgeRows es))], ⟨rfl, And.intro (And.intro (.inl rfl) (And.intro (.inl rfl) (And.intro (.inl rfl) trivial))) (And.intro (And.intro rfl rfl) trivial)⟩, rfl, rfl, hq es i2 h2' (by omega) hi2⟩
theorem makeD_small {l n st : Int} {es : List EdgeD} : (makeD l n st es).1.edges.length ≤ 7688 := by
  unfold makeD
  split
  · rename_i h
    have h1 := h.1
    unfold HeadOk at h1
    have h2 := mkEs_le (l := l.toNat) (n := n.toNat) (es := es) (n.toNat * l.toNat * n.toNat)
    have h3 : n.toNat * l.toNat ≤ 31 * 8 := Nat.mul_le_mul (by omega) (by omega)
    have h4 : n.toNat * l.toNat * n.toNat ≤ 31 * 8 * 31 := Nat.mul_le_mul h3 (by omega)
    show (mkEs l.toNat n.toNat es (n.toNat * l.toNat * n.toNat)).length ≤ 7688
    omega
  · simp [zeroAuto]
theorem RMake_eq {xs : List AV} {l n st : Int} {es : List EdgeD} (hx : xs = [.int .i64 l, .int .i64 n, .int .i64 st, .val (edgeRows es)]) (h : es.length ≤ 1048576) : RMake xs (makeR (makeD l n st es)) [.arr 4 (edgeRows (makeD l n st es).1.edges)] := ⟨l, n, st, es, hx, h, rfl, rfl⟩
def GAuto (B : Nat) (G : Int → Int → Prop) : GFun := fun xs objs Q => ∃ (code : List UInt8) (i : Nat) (h l n : Int), xs = [.ptr 0 0 0, .int .i64 l, .int .i64 n] ∧ objs = [curO code i h] ∧ i ≤ code.length ∧ code.length ≤ 1048576 ∧ G l n ∧
  ∀ (a : AutoD) (i' : Nat) (h' : Int), a.edges.length ≤ B → i' ≤ code.length → Q (.agg (autoRef 1 a)) [some (curO code i' h'), some (.arr 4 (edgeRows a.edges))]
abbrev GDrawRightA : GFun := GAuto 7688 fun l n => (1 ≤ l ∧ l ≤ 8) ∧ 1 ≤ n ∧ n ≤ 30
theorem GDrawRightA_mk {code : List UInt8} {i : Nat} {h l n : Int} {Q : AV → List (Option AObj) → Prop} (h1 : i ≤ code.length) (h2 : code.length ≤ 1048576) (h3 : 1 ≤ l ∧ l ≤ 8) (h4 : 1 ≤ n ∧ n ≤ 30)
    (hq : ∀ (a : AutoD) (i' : Nat) (h' : Int), a.edges.length ≤ 7688 → i' ≤ code.length → Q (.agg (autoRef 1 a)) [some (curO code i' h'), some (.arr 4 (edgeRows a.edges))]) : GDrawRightA [.ptr 0 0 0, .int .i64 l, .int .i64 n] [curO code i h] Q :=
  ⟨code, i, h, l, n, rfl, rfl, h1, h2, ⟨h3, h4⟩, hq⟩
theorem shl_small {s : Int} (h0 : 0 ≤ s) (h1 : s ≤ 30) : IntKind.i64.wrap (1 * 2 ^ (Nat.min s.toNat IntKind.i64.bits)) ≤ 1073741824 := by
  rw [shl_one h0 (by omega)]
  have h : (((2 : Nat) ^ s.toNat : Nat) : Int) ≤ ((2 ^ 30 : Nat) : Int) := Int.ofNat_le.2 (Nat.pow_le_pow_right (by decide) (by omega))
  rw [Int.natCast_pow] at h
  exact h
set_option maxHeartbeats 2000000 in
theorem s_spec_l4DrawRight : GenSound Try.prog 187 1 GDrawRightA := by
  have hR : Rely Try.prog (ctxOf [(137, .gen 1 GBelow), (154, .pure RMake), (205, .gen 1 GEdges)]) := rely_cons b_spec_l1Below.has s_spec_l1Below (rely_cons b_spec_AutoMake.has s_spec_AutoMake (rely_cons b_spec_l4DrawEdges.has s_spec_l4DrawEdges (rely_nil mixed)))
  refine gen_of_aw b_spec_l4DrawRight ?_
  rintro xs objs Q - ⟨code, i, h, l, n, rfl, rfl, h1, h2, ⟨h3, h4⟩, hq⟩ -
  refine ⟨by simp, vc2_sound hR _ _ _ _ _ ?_⟩
  conv => whnf
  repeat' ((first | (refine And.intro (fun hb => ?_) (fun hb => ?_) <;> ((try simp only [SB, reduceCtorEq] at hb); try (exfalso; omega))) | refine G2 ?_ | rw [ints_at (by omega)] | rw [ints_at0 (by omega)] | rw [ints_at' (by omega) (by omega)] | refine G1 ?_ | refine ⟨GBelow_mk (by omega) (by omega) (by omega) (fun y i' h' hx0 hx1 hi' => ?_)⟩ | fail) <;> conv => whnf)
  have hm : 0 ≤ 2 * (1 + y) * l ∧ 2 * (1 + y) * l ≤ 60 * 8 := ⟨Int.mul_nonneg (by omega) (by omega), Int.mul_le_mul (by omega) (by omega) (by omega) (by omega)⟩
  conv => whnf
  repeat' ((first | (refine And.intro (fun hb => ?_) (fun hb => ?_) <;> ((try simp only [SB, reduceCtorEq] at hb); try (exfalso; omega))) | refine G2 ?_ | rw [ints_at (by omega)] | rw [ints_at0 (by omega)] | rw [ints_at' (by omega) (by omega)] | refine G1 ?_ | refine ⟨GBelow_mk (by omega) (by omega) (by omega) (fun x i' h' hx0 hx1 hi' => ?_)⟩ | refine ⟨GBelow_mk (by omega) (by omega) (shl_small (by omega) (by omega)) (fun x i' h' hx0 hx1 hi' => ?_)⟩ | refine ⟨GEdges_mk (by omega) (by omega) (by omega) (by omega) (by omega) (fun es i' h' he hi' => ?_)⟩ | refine ⟨_, _, RMake_eq (args_cons rfl (args_cons rfl (args_cons rfl (args_cons (snap_all rfl (length_edgeRows _)) rfl)))) (by omega), ?_⟩ | fail) <;> conv => whnf)
  all_goals
    refine ⟨.inl rfl, ?_⟩
    conv => whnf
    refine And.intro (Nat.le_of_ble_eq_true rfl) ?_
    conv => whnf
    exact ⟨[some 0, some 3], .agg (autoRef 1 (makeD _ _ _ _).1), [some (curO code i' h'), some (.arr 4 (edgeRows (makeD _ _ _ _).1.edges))], ⟨rfl, And.intro (And.intro (.inl rfl) (And.intro (.inl rfl) (And.intro (.inl rfl) trivial))) (And.intro (And.intro rfl rfl) trivial)⟩, And.intro (.inl rfl) (And.intro (.inl rfl) (And.intro (.inl rfl) (And.intro rfl trivial))), rfl, hq _ i' h' makeD_small hi'⟩

end Go.Proofs.Ythanhknkoikbfaa.Ct
namespace Go.Proofs.Ythanhknkoikbfaa.Ct
open Go Go.Proofs Go.Proofs.Ythanhknkoikbfaa.Av Go.Proofs.Ythanhknkoikbfaa.Pl
def c_impl_graph_finished : ICode := (.seq (.reg [Ol 2 .mv [.c .snil]]) (.seq (.reg [Ol 3 .mv [.c .snil]]) (.seq (.reg [O1 9 .mv 0, O1 10 .nck 9, O1 11 (.fadr 0) 10, O1 12 .ld1 11, O1 13 .len 12, O2 14 (.mks 1 1 [(.bool false)]) 13 13, O1 4 .mv 14]) (.seq (.seq (.reg [O1 15 .mv 0, O1 16 .nck 15, O1 17 (.fadr 0) 16, O1 18 .ld1 17, O1 19 .len 18, Ol 20 .mv [ci 0]]) (.block 0 (.loop (.seq (.reg [O2 21 (.bin .lss) 20 19]) (.seq (.cond (.t 21) .skip (.exit 0)) (.seq (.block 1 (.seq (.reg [O1 22 .mv 20, O1 5 .mv 22]) (.seq (.seq (.reg [O1 23 .mv 4, O1 24 .mv 5, O2 25 (.iadr 1) 23 24, O1 26 .ld1 25]) (.cond (.t 26) (.exit 1) .skip)) (.seq (.reg [O1 27 .mv 4, O1 28 .mv 5, O2 29 (.iadr 1) 27 28, Sl (.st 1) [.t 29, cb true]]) (.seq (.reg [O1 30 .mv 5, O1 31 (.bld [(.int .i64 0), (.int .i64 0)] [(0, 1)]) 30, O1 32 (.bsl 2) 31, O1 6 .mv 32]) (.block 2 (.loop (.seq (.seq (.reg [O1 33 .mv 6, O1 34 .len 33, Ol 35 (.bin .gtr) [.t 34, ci 0]]) (.cond (.t 35) .skip (.exit 2))) (.block 3 (.seq (.reg [O1 36 .mv 6, O1 37 .mv 6, O1 38 .len 37, Ol 39 (.bin .sub) [.t 38, ci 1], O2 40 (.iadr 2) 36 39, O1 7 .mv 40]) (.seq (.seq (.drw [O1 41 .mv 7, O1 42 .nck 41, O1 43 (.fadr 1) 42, O1 44 .ld1 43, O1 45 .mv 0, O1 46 .nck 45, O1 47 (.fadr 0) 46, O1 48 .ld1 47, O1 49 .mv 7, O1 50 .nck 49, O1 51 (.fadr 0) 50, O1 52 .ld1 51, O2 53 (.iadr 1) 48 52, O1 54 .ld1 53, O1 55 .len 54, O2 56 (.bin .eql) 44 55] (unB [0, 1, 3, 7, 0, 16, 48, 112, 0, 256, 768, 1792, 4080, 8176, 16368, 32767] 0) true true) (.cond (.t 56) (.seq (.reg [O1 57 .mv 3, O1 58 .mv 7, O1 59 .nck 58, O1 60 (.fadr 0) 59, O1 61 .ld1 60, O1 62 (.bslv 1) 61, O2 63 (.app 1 8) 57 62, O1 3 .mv 63]) (.seq (.reg [O1 64 .mv 6, O1 65 .mv 6, O1 66 .len 65, Ol 67 (.bin .sub) [.t 66, ci 1], O2 68 (.slc 2 false true) 64 67, O1 6 .mv 68]) (.exit 3))) .skip)) (.seq (.drw [O1 69 .mv 0, O1 70 .nck 69, O1 71 (.fadr 0) 70, O1 72 .ld1 71, O1 73 .mv 7, O1 74 .nck 73, O1 75 (.fadr 0) 74, O1 76 .ld1 75, O2 77 (.iadr 1) 72 76, O1 78 .ld1 77, O1 79 .mv 7, O1 80 .nck 79, O1 81 (.fadr 1) 80, O1 82 .ld1 81, O2 83 (.iadr 2) 78 82, O1 84 (.fadr 0) 83, O1 85 .ld1 84, O1 8 .mv 85] (unB [0, 1, 3, 7, 0, 16, 48, 112, 255, 511, 0, 1024, 3072, 7168, 16383, 32767, 65535, 131071] 0) true true) (.seq (.reg [O1 86 .mv 7, O1 87 .nck 86, O1 88 (.fadr 1) 87, O1 89 .ld1 88, Ol 90 (.bin .add) [.t 89, ci 1], O1 91 .nck 86, O1 92 (.fadr 1) 91, S2 (.st 1) 92 90]) (.seq (.reg [O1 93 .mv 4, O1 94 .mv 8, O2 95 (.iadr 1) 93 94, O1 96 .ld1 95, O1 97 .not 96]) (.cond (.t 97) (.seq (.reg [O1 98 .mv 4, O1 99 .mv 8, O2 100 (.iadr 1) 98 99, Sl (.st 1) [.t 100, cb true]]) (.reg [O1 101 .mv 6, O1 102 .mv 8, O1 103 (.bld [(.int .i64 0), (.int .i64 0)] [(0, 1)]) 102, O1 104 (.bslv 2) 103, O2 105 (.app 2 16) 101 104, O1 6 .mv 105])) .skip))))))))))))))) (.reg [Ol 106 (.bin .add) [.t 20, ci 1], O1 20 .mv 106]))))))) (.seq (.reg [O1 107 .mv 3, O1 2 .mv 107]) .ret)))))
theorem b_impl_graph_finished : Body Try.prog 176 108 c_impl_graph_finished [(.t 2)] := body_mk Try.func176 (by kernel_rfl) (by decide)
def nb (G : GraphD) (p : Nat) : List Nat := (G.getD p []).map (·.1)
theorem nb_adj {G : GraphD} {p r : Nat} : Nb (nb G) p r ↔ Adj G p r := by
  simp [Nb, nb, Adj]
theorem nb_eq (G : GraphD) : Nb (nb G) = Adj G := by
  funext p r; exact propext nb_adj
theorem nb_len (G : GraphD) (p : Nat) : (nb G p).length = (G.getD p []).length := by simp [nb]
theorem nb_at {G : GraphD} {p k : Nat} (h : k < (G.getD p []).length) : (nb G p).getD k 0 = ((G.getD p []).getD k default).1 := by
  have h2 : k < (nb G p).length := by rw [nb_len]; exact h
  rw [List.getD_eq_getElem?_getD, List.getD_eq_getElem?_getD (l := G.getD p []), List.getElem?_eq_getElem h, List.getElem?_eq_getElem h2]
  simp [nb]
def bools (l : List Bool) : List (List AV) := l.map fun b => [.bool b]
@[simp] theorem length_bools (l : List Bool) : (bools l).length = l.length := by simp [bools]
theorem bools_at0 {l : List Bool} {i : Nat} (h : i < l.length) : (bools l)[0 + ((i : Nat) : Int).toNat]? = some [.bool (l.getD i false)] := by
  rw [Nat.zero_add]
  simp [bools, List.getElem?_map, List.getElem?_eq_getElem h, List.getD_eq_getElem?_getD]
theorem bools_set {l : List Bool} {i : Nat} {v : Bool} : (bools l).set (0 + ((i : Nat) : Int).toNat) [.bool v] = bools (l.set i v) := by
  simp [bools, List.map_set]
def placeRow (p : Nat × Nat) : List AV := [.int .i64 ((p.1 : Nat) : Int), .int .i64 ((p.2 : Nat) : Int)]
def placeRows (l : List (Nat × Nat)) : List (List AV) := l.map placeRow
@[simp] theorem length_placeRows (l : List (Nat × Nat)) : (placeRows l).length = l.length := by simp [placeRows]
theorem top_ix {α : Type} {x : α} {l : List α} : 0 + ((((x :: l).length : Nat) : Int) - 1).toNat = l.length := by simp
theorem top_at {x k : Nat} {l J : List (Nat × Nat)} : (placeRows (((x, k) :: l).reverse ++ J))[0 + (((((x, k) :: l).length : Nat) : Int) - 1).toNat]? = some [.int .i64 ((x : Nat) : Int), .int .i64 ((k : Nat) : Int)] := by
  rw [top_ix]
  simp [placeRows, placeRow]
theorem top_set {x : Nat × Nat} {l J : List (Nat × Nat)} {y : Nat × Nat} : (placeRows ((x :: l).reverse ++ J)).set (0 + ((((x :: l).length : Nat) : Int) - 1).toNat) (placeRow y) = placeRows ((y :: l).reverse ++ J) := by
  rw [top_ix]
  simp [placeRows]
theorem top_set1 {x k : Nat} {l J : List (Nat × Nat)} : (placeRows (((x, k) :: l).reverse ++ J)).set (0 + (((((x, k) :: l).length : Nat) : Int) - 1).toNat) [.int .i64 ((x : Nat) : Int), .int .i64 (((k : Nat) : Int) + 1)] = placeRows (((x, k + 1) :: l).reverse ++ J) :=
  top_set (y := (x, k + 1))
theorem cut_top {α : Type} {x : α} {l : List α} {m : Nat} : AV.ref m (0 + (0 : Int).toNat) (((((x :: l).length : Nat) : Int) - 1) - 0).toNat = AV.ref m 0 l.length := by simp
theorem top_app {x y : Nat × Nat} {l J : List (Nat × Nat)} : List.take (x :: l).length (placeRows ((x :: l).reverse ++ J)) ++ [placeRow y] = placeRows ((y :: x :: l).reverse ++ []) := by
  have e : (x :: l).length = (placeRows (x :: l).reverse).length := by simp
  have e2 : placeRows ((x :: l).reverse ++ J) = placeRows (x :: l).reverse ++ placeRows J := by simp [placeRows]
  rw [e, e2, List.take_left]
  simp [placeRows]
def GFin : GFun := fun xs objs Q => ∃ (G : GraphD), xs = [.rptr [.val (gRows G)] 0] ∧ objs = [] ∧ GOk G ∧ G.length ≤ 100000 ∧ steps G ≤ 1000000000 ∧ ∀ ord, Order (nb G) G.length ord → Q (.ref 0 0 ord.length) [some (.arr 1 (ints (natsI ord)))]
theorem GFin_mk {G : GraphD} {Q : AV → List (Option AObj) → Prop} (h : GOk G) (h1 : G.length ≤ 100000) (h2 : steps G ≤ 1000000000) (hq : ∀ ord, Order (nb G) G.length ord → Q (.ref 0 0 ord.length) [some (.arr 1 (ints (natsI ord)))]) :
    GFin [.rptr [.val (gRows G)] 0] [] Q := ⟨G, rfl, rfl, h, h1, h2, hq⟩
set_option maxHeartbeats 8000000 in
theorem s_impl_finished : GenSound Try.prog 176 0 GFin := by
  have hR : Rely Try.prog (ctxOf []) := rely_nil mixed
  refine gen_of_aw b_impl_graph_finished ?_
  rintro xs objs Q - ⟨G, rfl, rfl, hG, hn, hst, hq⟩ -
  have hle := length_gRows G
  have hN : ∀ p, p < G.length → ∀ r ∈ nb G p, r < G.length := fun p _ r hr => (adj_lt hG (nb_adj.1 hr)).2
  refine ⟨by simp, vc2_sound hR _ _ _ _ _ ?_⟩
  conv => whnf
  repeat' ((first | contradiction | (refine And.intro (fun hb => ?_) (fun hb => ?_) <;> first | contradiction | ((try simp only [SB, reduceCtorEq] at hb); try (exfalso; first | contradiction | omega))) | refine G2 ?_ | rw [ints_at (by omega)] | rw [ints_at0 (by omega)] | rw [ints_at' (by omega) (by omega)] | refine G1 ?_ | rw [hle] | fail) <;> conv => whnf)
  refine Lp.intro (α := List Nat × List Bool × Nat) (fun a => Dfs (nb G) G.length a.1 a.2.1 [] ∧ a.2.2 ≤ G.length ∧ ∀ j, j < a.2.2 → a.2.1.getD j false = true) (fun a => G.length - a.2.2)
    (fun a => [(0, .rptr [.val (gRows G)] 0), (3, .ref 1 0 a.1.length), (4, .ref 0 0 G.length), (18, .val (gRows G)), (19, .int .i64 G.length), (20, .int .i64 a.2.2)]) (fun a => [some (.arr 1 (bools a.2.1)), some (.arr 1 (ints (natsI a.1)))]) ?_ ?_
  · refine ⟨([], List.replicate G.length false, 0), ⟨dfs_start _ _, Nat.zero_le _, fun j hj => absurd hj (Nat.not_lt_zero _)⟩, [some 0, none], rfl, rfl, And.intro (And.intro rfl ?_) (And.intro rfl trivial), ?_⟩
    · simp [bools]
    · exact ⟨.inl rfl, ⟨rfl, rfl, rfl⟩, rfl, .inl rfl, .inl rfl, .inl rfl, trivial⟩
  rintro ⟨ord, seen, i⟩ ⟨hD, hi, hall⟩
  dsimp only at hD hi hall ⊢
  have hsl := hD.len
  have hbl := length_bools seen
  refine vc2_sound hR _ _ _ _ _ ?_
  by_cases hlt : i < G.length
  · conv => whnf
    repeat' ((first | contradiction | (refine And.intro (fun hb => ?_) (fun hb => ?_) <;> first | contradiction | ((try simp only [SB, reduceCtorEq] at hb); try (exfalso; first | contradiction | omega))) | refine G2 ?_ | rw [ints_at (by omega)] | rw [ints_at0 (by omega)] | rw [ints_at' (by omega) (by omega)] | refine G1 ?_ | rw [bools_at0 (by omega)] | fail) <;> conv => whnf)
    · refine ⟨(ord, seen, i + 1), ⟨hD, hlt, fun j hj => ?_⟩, by dsimp only; omega, [some 0, some 1], rfl, rfl, And.intro (And.intro rfl rfl) (And.intro (And.intro rfl rfl) trivial), ?_⟩
      · by_cases hji : j = i
        · subst hji; exact hb
        · exact hall j (by dsimp only at hj; omega)
      · exact ⟨.inl rfl, rfl, rfl, .inl rfl, .inl rfl, .inl rfl, trivial⟩
    have hpush := hD.push hlt hb (by simp)
    have hset : ∀ j, (seen.set i true).getD j false = true ↔ i = j ∨ seen.getD j false = true := fun j => by
      rw [getD_setB]
      by_cases hij : i = j
      · rw [if_pos ⟨hij, by omega⟩]; simp [hij]
      · rw [if_neg (fun hh => hij hh.1)]; simp [hij]
    refine Lp.intro (α := List Nat × List Bool × List (Nat × Nat) × List (Nat × Nat)) (fun a => Dfs (nb G) G.length a.1 a.2.1 a.2.2.1 ∧ ∀ j, j < i + 1 → a.2.1.getD j false = true) (fun a => us (nb G) a.2.1 0 + ds (nb G) a.2.2.1)
      (fun a => [(0, .rptr [.val (gRows G)] 0), (3, .ref 1 0 a.1.length), (4, .ref 0 0 G.length), (6, .ref 2 0 a.2.2.1.length), (18, .val (gRows G)), (19, .int .i64 G.length), (20, .int .i64 i)]) (fun a => [some (.arr 1 (bools a.2.1)), some (.arr 1 (ints (natsI a.1))), some (.arr 2 (placeRows (a.2.2.1.reverse ++ a.2.2.2)))]) ?_ ?_
    · refine ⟨(ord, seen.set i true, [(i, 0)], []), ⟨hpush, fun j hj => (hset j).2 ?_⟩, [some 0, some 1, some 2], rfl, rfl, And.intro (And.intro rfl bools_set) (And.intro (And.intro rfl rfl) (And.intro (And.intro rfl rfl) trivial)), ?_⟩
      · by_cases hji : i = j
        · exact .inl hji
        · exact .inr (hall j (by omega))
      · exact ⟨.inl rfl, rfl, rfl, rfl, .inl rfl, .inl rfl, .inl rfl, trivial⟩
    clear hpush hset hb hD hall hsl hbl ord seen
    rintro ⟨ord, seen, st, J⟩ ⟨hD, hall⟩
    dsimp only at hD hall ⊢
    have hsl := hD.len
    have hbl := length_bools seen
    have hlen := hD.length_le
    have hol := (length_ints (natsI ord)).trans (length_natsI ord)
    refine vc2_sound hR _ _ _ _ _ ?_
    match st, hD, hlen with
    | [], hD, hlen =>
      conv => whnf
      repeat' ((first | contradiction | (refine And.intro (fun hb => ?_) (fun hb => ?_) <;> first | contradiction | ((try simp only [SB, reduceCtorEq] at hb); try (exfalso; first | contradiction | omega))) | refine G2 ?_ | rw [ints_at (by omega)] | rw [ints_at0 (by omega)] | rw [ints_at' (by omega) (by omega)] | refine G1 ?_ | fail) <;> conv => whnf)
      refine ⟨(ord, seen, i + 1), ⟨hD, hlt, hall⟩, by dsimp only; omega, [some 0, some 1], rfl, rfl, And.intro (And.intro rfl rfl) (And.intro (And.intro rfl rfl) trivial), ?_⟩
      exact ⟨.inl rfl, rfl, rfl, .inl rfl, .inl rfl, .inl rfl, trivial⟩
    | (x, k) :: rest, hD, hlen =>
      have hxn : x < G.length := hD.lt x (by simp)
      have hk := (hD.gone (x, k) (by simp)).1
      have hnl := nb_len G x
      rw [nb_len] at hk
      dsimp only at hk
      have hLb := steps_le hxn
      have hrl := length_stepRows (G.getD x [])
      have hpl : (placeRows (((x, k) :: rest).reverse ++ J)).length = rest.length + 1 + J.length := by simp; omega
      have hcl : ((x, k) :: rest).length = rest.length + 1 := rfl
      by_cases hkd : k = (G.getD x []).length
      · conv => whnf
        repeat' ((first | contradiction | (refine And.intro (fun hb => ?_) (fun hb => ?_) <;> first | contradiction | ((try simp only [SB, reduceCtorEq] at hb); try (exfalso; first | contradiction | omega))) | refine G2 ?_ | rw [ints_at (by omega)] | rw [ints_at0 (by omega)] | rw [ints_at' (by omega) (by omega)] | refine G1 ?_ | rw [top_at] | rw [gRows_at (by omega)] | fail) <;> conv => whnf)
        · refine ⟨(ord ++ [x], seen, rest, (x, k) :: J), ⟨hD.pop hN (by omega), hall⟩, by simp only [ds]; omega, [some 0, some 3, some 2], rfl, rfl, And.intro (And.intro rfl rfl) (And.intro (And.intro rfl (natsI_app rfl)) (And.intro (And.intro rfl ?_) trivial)), ?_⟩
          · simp
          · exact ⟨.inl rfl, congrArg (AV.ref 3 0) (by simp), rfl, cut_top, .inl rfl, .inl rfl, .inl rfl, trivial⟩
      · have hto : ((G.getD x []).getD k default).1 < G.length := hG x _ (getD_mem' (by omega))
        have hna := nb_at (G := G) (p := x) (k := k) (by omega)
        conv => whnf
        repeat' ((first | contradiction | (refine And.intro (fun hb => ?_) (fun hb => ?_) <;> first | contradiction | ((try simp only [SB, reduceCtorEq] at hb); try (exfalso; first | contradiction | omega))) | refine G2 ?_ | rw [ints_at (by omega)] | rw [ints_at0 (by omega)] | rw [ints_at' (by omega) (by omega)] | refine G1 ?_ | rw [top_at] | rw [gRows_at (by omega)] | rw [step_at (by omega)] | rw [bools_at0 (by omega)] | fail) <;> conv => whnf)
        · refine ⟨(ord, seen, (x, k + 1) :: rest, J), ⟨hD.pass (by omega) (by rw [hna]; exact hb), hall⟩, by simp only [ds]; omega, [some 0, some 1, some 2], rfl, rfl, And.intro (And.intro rfl rfl) (And.intro (And.intro rfl rfl) (And.intro (And.intro rfl top_set1) trivial)), ?_⟩
          exact ⟨.inl rfl, rfl, rfl, rfl, .inl rfl, .inl rfl, .inl rfl, trivial⟩
        · have hus := us_set (nb G) seen 0 _ (by omega) hb
          rw [Nat.zero_add, nb_len] at hus
          refine ⟨(ord, seen.set ((G.getD x []).getD k default).1 true, (((G.getD x []).getD k default).1, 0) :: (x, k + 1) :: rest, []), ⟨hD.down (by omega) hna hto hb, fun j hj => ?_⟩, ?_, [some 0, some 1, some 3], rfl, rfl, And.intro (And.intro rfl bools_set) (And.intro (And.intro rfl rfl) (And.intro (And.intro rfl ?_) trivial)), ?_⟩
          · rw [getD_setB]
            split
            · rfl
            · exact hall j hj
          · simp only [ds, nb_len]; omega
          · rw [top_set1]
            exact top_app (x := (x, k + 1)) (y := (((G.getD x []).getD k default).1, 0))
          · exact ⟨.inl rfl, rfl, rfl, congrArg (AV.ref 3 0) (by simp), .inl rfl, .inl rfl, .inl rfl, trivial⟩
  · conv => whnf
    repeat' ((first | contradiction | (refine And.intro (fun hb => ?_) (fun hb => ?_) <;> first | contradiction | ((try simp only [SB, reduceCtorEq] at hb); try (exfalso; first | contradiction | omega))) | refine G2 ?_ | rw [ints_at (by omega)] | rw [ints_at0 (by omega)] | rw [ints_at' (by omega) (by omega)] | refine G1 ?_ | fail) <;> conv => whnf)
    refine ⟨.inl rfl, ?_⟩
    conv => whnf
    refine ⟨[some 1], .ref 0 0 ord.length, [some (.arr 1 (ints (natsI ord)))], ⟨rfl, And.intro (And.intro rfl rfl) trivial⟩, rfl, rfl, hq ord (hD.order fun p hp => hall p (by omega))⟩
def c_slices_Reverse_int_int : ICode := (.seq (.reg [O1 4 .mv 0, O1 5 .len 4, Ol 6 (.bin .sub) [.t 5, ci 1], Ol 2 .mv [ci 0], O1 3 .mv 6]) (.block 0 (.loop (.seq (.seq (.reg [O1 7 .mv 2, O1 8 .mv 3, O2 9 (.bin .lss) 7 8]) (.cond (.t 9) .skip (.exit 0))) (.seq (.block 1 (.drw [O1 14 .mv 0, O1 15 .mv 2, O1 16 .mv 0, O1 17 .mv 3, O1 18 .mv 0, O1 19 .mv 3, O2 20 (.iadr 1) 18 19, O1 21 .ld1 20, O1 22 .mv 0, O1 23 .mv 2, O2 24 (.iadr 1) 22 23, O1 25 .ld1 24, O2 26 (.iadr 1) 14 15, S2 (.st 1) 26 21, O2 27 (.iadr 1) 16 17, S2 (.st 1) 27 25] (unB [0, 0, 0, 0, 0, 0, 48, 112, 0, 0, 768, 1792, 4083, 8179, 16383, 32767] 0) true true)) (.reg [O1 10 .mv 2, Ol 11 (.bin .add) [.t 10, ci 1], O1 12 .mv 3, Ol 13 (.bin .sub) [.t 12, ci 1], O1 2 .mv 11, O1 3 .mv 13]))))))
theorem b_slices_Reverse_int_int : Body Try.prog 178 28 c_slices_Reverse_int_int [] := body_mk Try.func178 (by kernel_rfl) (by decide)
def c_impl_graph_rings : ICode := (.seq (.reg [Ol 2 .mv [.c .snil]]) (.seq (.reg [O1 13 .mv 0, O1 14 (.call 176) 13, O1 3 .mv 14]) (.seq (.reg [O1 15 .mv 0, O1 16 (.call 177) 15, O1 4 .mv 16]) (.seq (.reg [O1 17 .mv 0, O1 18 .nck 17, O1 19 (.fadr 0) 18, O1 20 .ld1 19, O1 21 .len 20, O2 22 (.mks 1 8 [(.int .i64 0)]) 21 21, O1 5 .mv 22]) (.seq (.seq (.reg [O1 23 .mv 5, O1 24 .len 23, Ol 25 .mv [ci 0]]) (.block 0 (.loop (.seq (.reg [O2 26 (.bin .lss) 25 24]) (.seq (.cond (.t 26) .skip (.exit 0)) (.seq (.block 1 (.seq (.reg [O1 27 .mv 25, O1 6 .mv 27]) (.reg [O1 28 .mv 5, O1 29 .mv 6, O2 30 (.iadr 1) 28 29, Sl (.st 1) [.t 30, ci (-1)]]))) (.reg [Ol 31 (.bin .add) [.t 25, ci 1], O1 25 .mv 31]))))))) (.seq (.reg [O1 32 .mv 3, O1 33 (.call 178) 32]) (.seq (.seq (.reg [O1 34 .mv 3, O1 35 .len 34, Ol 36 .mv [ci 0]]) (.block 2 (.loop (.seq (.reg [O2 37 (.bin .lss) 36 35]) (.seq (.cond (.t 37) .skip (.exit 2)) (.seq (.block 3 (.seq (.reg [O1 38 .mv 36, O2 39 (.iadr 1) 34 36, O1 40 .ld1 39, O1 7 .mv 38, O1 8 .mv 40]) (.seq (.seq (.reg [O1 41 .mv 5, O1 42 .mv 8, O2 43 (.iadr 1) 41 42, O1 44 .ld1 43, Ol 45 (.bin .geq) [.t 44, ci 0]]) (.cond (.t 45) (.exit 3) .skip)) (.seq (.reg [O1 46 .mv 5, O1 47 .mv 8, O1 48 .mv 7, O2 49 (.iadr 1) 46 47, S2 (.st 1) 49 48]) (.seq (.reg [O1 50 .mv 8, O1 51 (.bsl 1) 50, O1 9 .mv 51]) (.block 4 (.loop (.seq (.seq (.reg [O1 52 .mv 9, O1 53 .len 52, Ol 54 (.bin .gtr) [.t 53, ci 0]]) (.cond (.t 54) .skip (.exit 4))) (.block 5 (.seq (.reg [O1 55 .mv 9, O1 56 .mv 9, O1 57 .len 56, Ol 58 (.bin .sub) [.t 57, ci 1], O2 59 (.iadr 1) 55 58, O1 60 .ld1 59, O1 10 .mv 60]) (.seq (.reg [O1 61 .mv 9, O1 62 .mv 9, O1 63 .len 62, Ol 64 (.bin .sub) [.t 63, ci 1], O2 65 (.slc 1 false true) 61 64, O1 9 .mv 65]) (.seq (.reg [O1 66 .mv 4, O1 67 .nck 66, O1 68 (.fadr 0) 67, O1 69 .ld1 68, O1 70 .mv 10, O2 71 (.iadr 1) 69 70, O1 72 .ld1 71, O1 73 .len 72, Ol 74 .mv [ci 0]]) (.block 6 (.loop (.seq (.reg [O2 75 (.bin .lss) 74 73]) (.seq (.cond (.t 75) .skip (.exit 6)) (.seq (.block 7 (.seq (.reg [O2 76 (.iadr 2) 72 74, O1 77 (.ldn 2) 76, O0 12 (.alc [(.int .i64 0), (.int .i64 0)]), S2 (.st 2) 12 77]) (.seq (.reg [O1 78 .mv 5, O1 79 (.fadr 0) 12, O1 80 .ld1 79, O2 81 (.iadr 1) 78 80, O1 82 .ld1 81, Ol 83 (.bin .lss) [.t 82, ci 0]]) (.cond (.t 83) (.seq (.reg [O1 84 .mv 5, O1 85 (.fadr 0) 12, O1 86 .ld1 85, O1 87 .mv 7, O2 88 (.iadr 1) 84 86, S2 (.st 1) 88 87]) (.reg [O1 89 .mv 9, O1 90 (.fadr 0) 12, O1 91 .ld1 90, O1 92 (.bslv 1) 91, O2 93 (.app 1 8) 89 92, O1 9 .mv 93])) .skip)))) (.reg [Ol 94 (.bin .add) [.t 74, ci 1], O1 74 .mv 94])))))))))))))))))) (.reg [Ol 95 (.bin .add) [.t 36, ci 1], O1 36 .mv 95]))))))) (.seq (.reg [O1 96 .mv 5, O1 2 .mv 96]) .ret))))))))
theorem b_impl_graph_rings : Body Try.prog 104 97 c_impl_graph_rings [(.t 2)] := body_mk Try.func104 (by kernel_rfl) (by decide)
def GReverse : GFun := fun xs objs Q => ∃ l n, xs = [.ref 0 0 n] ∧ objs = [.arr 1 (ints l)] ∧ l.length = n ∧ n ≤ 1000000 ∧ Q (.tup []) [some (.arr 1 (ints l.reverse))]
theorem GReverse_mk {l : List Int} {n : Nat} {Q : AV → List (Option AObj) → Prop} (h : l.length = n) (h1 : n ≤ 1000000) (hq : Q (.tup []) [some (.arr 1 (ints l.reverse))]) : GReverse [.ref 0 0 n] [.arr 1 (ints l)] Q := ⟨l, n, rfl, rfl, h, h1, hq⟩
theorem ints_setI {d : List Int} {i : Int} {v : Int} : (ints d).set (0 + i.toNat) [.int .i64 v] = ints (d.set i.toNat v) := by
  rw [Nat.zero_add]
  simp [ints, List.map_set]
theorem ints_atI {xs : List Int} {i : Int} (h0 : 0 ≤ i) (h : i < xs.length) : (ints xs)[0 + i.toNat]? = some [.int .i64 (xs.getD i.toNat 0)] := by
  rw [Nat.zero_add]
  exact ints_at' h0 h
set_option maxHeartbeats 4000000 in
theorem s_slices_Reverse : GenSound Try.prog 178 1 GReverse := by
  have hR : Rely Try.prog (ctxOf []) := rely_nil mixed
  refine gen_of_aw b_slices_Reverse_int_int ?_
  rintro xs objs Q - ⟨l, n, rfl, rfl, rfl, hn, hq⟩ -
  refine ⟨by simp, vc2_sound hR _ _ _ _ _ ?_⟩
  conv => whnf
  repeat' ((first | contradiction | (refine And.intro (fun hb => ?_) (fun hb => ?_) <;> first | contradiction | ((try simp only [SB, reduceCtorEq] at hb); try (exfalso; first | contradiction | omega))) | refine G2 ?_ | rw [ints_at (by omega)] | rw [ints_at0 (by omega)] | rw [ints_at' (by omega) (by omega)] | refine G1 ?_ | fail) <;> conv => whnf)
  refine Lp.intro (α := Nat) (fun i => 2 * i ≤ l.length + 1) (fun i => l.length + 2 - i) (fun i => [(0, .ref 0 0 l.length), (2, .int .i64 i), (3, .int .i64 ((l.length : Int) - 1 - i))]) (fun i => [some (.arr 1 (ints (revI l i)))]) ?_ ?_
  · refine ⟨0, by omega, [some 0], rfl, rfl, And.intro (And.intro rfl ?_) trivial, ?_⟩
    · rw [revI_zero]
    · repeat' (first
        | exact trivial
        | refine ⟨?_, ?_⟩
        | fail)
      all_goals first
        | with_reducible rfl
        | (conv => whnf
           try left
           conv => lhs; whnf
           first
             | rfl
             | exact congrArg (AV.int .i64) (by omega)
             | skip)
  · intro i hi
    have hrl := length_revI (l := l) (i := i)
    have hil := length_ints (revI l i)
    refine vc2_sound hR _ _ _ _ _ ?_
    by_cases hlt : 2 * i + 1 < l.length
    · conv => whnf
      repeat' ((first | contradiction | (refine And.intro (fun hb => ?_) (fun hb => ?_) <;> first | contradiction | ((try simp only [SB, reduceCtorEq] at hb); try (exfalso; first | contradiction | omega))) | refine G2 ?_ | rw [ints_at (by omega)] | rw [ints_at0 (by omega)] | rw [ints_at' (by omega) (by omega)] | refine G1 ?_ | (rw [ints_atI (by omega) (by (try simp only [List.length_set]); omega)]) | rw [ints_setI] | fail) <;> conv => whnf)
      refine ⟨i + 1, by omega, by omega, [some 0], rfl, rfl, And.intro (And.intro rfl ?_) trivial, ?_⟩
      · rw [← revI_step hlt rfl]
        have e : ((l.length : Int) - 1 - (i : Int)).toNat = l.length - 1 - i := by omega
        rw [e]
        rfl
      · exact ⟨rfl, .inl rfl, .inl (congrArg (AV.int .i64) (by omega)), trivial⟩
    · conv => whnf
      repeat' ((first | contradiction | (refine And.intro (fun hb => ?_) (fun hb => ?_) <;> first | contradiction | ((try simp only [SB, reduceCtorEq] at hb); try (exfalso; first | contradiction | omega))) | refine G2 ?_ | rw [ints_at (by omega)] | rw [ints_at0 (by omega)] | rw [ints_at' (by omega) (by omega)] | refine G1 ?_ | fail) <;> conv => whnf)
      refine ⟨.inr rfl, ?_⟩
      conv => whnf
      refine ⟨[some 0], .tup [], [some (.arr 1 (ints l.reverse))], ⟨rfl, And.intro (And.intro rfl ?_) trivial⟩, trivial, rfl, hq⟩
      rw [revI_end (by omega)]
/-! ### rings -/
def GRings : GFun := fun xs objs Q => ∃ (G : GraphD), xs = [.rptr [.val (gRows G)] 0] ∧ objs = [] ∧ GOk G ∧ G.length ≤ 100000 ∧ steps G ≤ 1000000000 ∧ ∀ out, IsRings (Adj G) G.length out → Q (.ref 0 0 G.length) [some (.arr 1 (ints out))]
theorem GRings_mk {G : GraphD} {Q : AV → List (Option AObj) → Prop} (h : GOk G) (h1 : G.length ≤ 100000) (h2 : steps G ≤ 1000000000) (hq : ∀ out, IsRings (Adj G) G.length out → Q (.ref 0 0 G.length) [some (.arr 1 (ints out))]) :
    GRings [.rptr [.val (gRows G)] 0] [] Q := ⟨G, rfl, rfl, h, h1, h2, hq⟩
theorem len_mkG (l : List Trip) (n : Nat) : ∀ k, k ≤ n → (allWays (mkG n l) k).length = (l.filter fun e => decide (e.1 < k)).length := by
  intro k
  induction k with
  | zero =>
    intro _
    have e : (l.filter fun e => decide (e.1 < 0)) = [] := List.filter_eq_nil_iff.2 (by simp)
    rw [e]; simp [allWays]
  | succ k ih =>
    intro hk
    rw [allWays_succ, List.length_append, ih (by omega), ways_len, mkG_at (by omega), List.length_map, ← List.countP_eq_length_filter, ← List.countP_eq_length_filter, ← List.countP_eq_length_filter]
    clear ih hk
    induction l with
    | nil => rfl
    | cons e r ihr =>
      simp only [List.countP_cons]
      by_cases h1 : e.1 < k
      · have h2 : ¬ e.1 = k := by omega
        have h3 : e.1 < k + 1 := by omega
        simp [h1, h2, h3]; omega
      · by_cases h2 : e.1 = k
        · have h3 : e.1 < k + 1 := by omega
          simp [h1, h2]; omega
        · have h3 : ¬ e.1 < k + 1 := by omega
          simp [h1, h2, h3]; omega
theorem steps_mkG {n : Nat} {l : List Trip} : steps (mkG n l) ≤ l.length := by
  unfold steps
  rw [length_mkG, len_mkG l n n (Nat.le_refl _)]
  exact List.length_filter_le _ _
theorem steps_back {G : GraphD} (h : GOk G) : steps (backG G) = steps G := by
  unfold steps
  have e : (backG G).length = G.length := length_mkG _ _
  rw [e]
  unfold backG
  rw [len_mkG _ _ _ (Nat.le_refl _), List.filter_eq_self.2]
  rintro ⟨x, t, m⟩ he
  simpa using h t _ (mem_allWays.1 he).2
theorem last_ix {α : Type} {x : α} {l : List α} : 0 + ((((l ++ [x]).length : Nat) : Int) - 1).toNat = l.length := by simp
theorem last_at {p : Nat} {l J : List Nat} : (ints (natsI ((l ++ [p]) ++ J)))[0 + ((((l ++ [p]).length : Nat) : Int) - 1).toNat]? = some [.int .i64 ((p : Nat) : Int)] := by
  rw [last_ix]
  simp [ints, natsI]
theorem cut_last {α : Type} {x : α} {l : List α} {m : Nat} : AV.ref m (0 + (0 : Int).toNat) (((((l ++ [x]).length : Nat) : Int) - 1) - 0).toNat = AV.ref m 0 l.length := by simp
theorem natsI_app2 {l J : List Nat} {p : Nat} : List.take l.length (ints (natsI (l ++ J))) ++ [[.int .i64 ((p : Nat) : Int)]] = ints (natsI ((l ++ [p]) ++ [])) := by
  have e : ints (natsI (l ++ J)) = ints (natsI l) ++ ints (natsI J) := by simp [ints, natsI]
  rw [e, List.take_append_of_le_length (by simp [ints]), List.take_of_length_le (by simp [ints])]
  simp [ints, natsI]
set_option maxHeartbeats 8000000 in
theorem s_impl_rings : GenSound Try.prog 104 0 GRings := by
  have hR : Rely Try.prog (ctxOf [(176, .gen 0 GFin), (177, .pure RBack), (178, .gen 1 GReverse)]) :=
    rely_cons b_impl_graph_finished.has s_impl_finished (rely_cons b_impl_graph_back.has s_impl_back (rely_cons b_slices_Reverse_int_int.has s_slices_Reverse (rely_nil mixed)))
  refine gen_of_aw b_impl_graph_rings ?_
  rintro xs objs Q - ⟨G, rfl, rfl, hG, hn, hst, hq⟩ -
  have hle := length_gRows G
  have hbk := gok_back hG
  have hN : ∀ p, p < G.length → ∀ r ∈ nb G p, r < G.length := fun p _ r hr => (adj_lt hG (nb_adj.1 hr)).2
  have hbl : (backG G).length = G.length := length_mkG _ _
  have hst2 := steps_back hG
  refine ⟨by simp, vc2_sound hR _ _ _ _ _ ?_⟩
  conv => whnf
  repeat' ((first | contradiction | (refine And.intro (fun hb => ?_) (fun hb => ?_) <;> first | contradiction | ((try simp only [SB, reduceCtorEq] at hb); try (exfalso; first | contradiction | omega))) | refine G2 ?_ | rw [ints_at (by omega)] | rw [ints_at0 (by omega)] | rw [ints_at' (by omega) (by omega)] | refine G1 ?_ | rw [hle] | refine ⟨GFin_mk hG hn hst (fun ord hord => ?_)⟩ | refine ⟨_, _, RBack_eq rfl hG hn hst, ?_⟩ | fail) <;> conv => whnf)
  have hol := hord.length
  refine Lp.intro (α := Nat) (fun i => i ≤ G.length) (fun i => G.length - i) (fun i => [(3, .ref 1 0 ord.length), (4, .rptr [.val (gRows (backG G))] 0), (5, .ref 0 0 G.length), (24, .int .i64 G.length), (25, .int .i64 i)]) (fun i => [some (.arr 1 (ints (List.replicate i (-1) ++ List.replicate (G.length - i) 0))), some (.arr 1 (ints (natsI ord)))]) ?_ ?_
  · refine ⟨0, by omega, [some 3, some 0], rfl, rfl, And.intro (And.intro rfl ?_) (And.intro (And.intro rfl rfl) trivial), ?_⟩
    · simp [ints]
    · exact ⟨rfl, .inr (snap_graph rfl rfl hbl.symm), rfl, .inl rfl, .inl rfl, trivial⟩
  intro i hi
  refine vc2_sound hR _ _ _ _ _ ?_
  by_cases hlt : i < G.length
  · conv => whnf
    repeat' ((first | contradiction | (refine And.intro (fun hb => ?_) (fun hb => ?_) <;> first | contradiction | ((try simp only [SB, reduceCtorEq] at hb); try (exfalso; first | contradiction | omega))) | refine G2 ?_ | rw [ints_at (by omega)] | rw [ints_at0 (by omega)] | rw [ints_at' (by omega) (by omega)] | refine G1 ?_ | rw [neg_at hlt] | fail) <;> conv => whnf)
    refine ⟨i + 1, by omega, by omega, [some 0, some 1], rfl, rfl, And.intro (And.intro rfl (neg_set hlt)) (And.intro (And.intro rfl rfl) trivial), ?_⟩
    repeat' (first
      | exact trivial
      | refine ⟨?_, ?_⟩
      | fail)
    all_goals first
      | with_reducible rfl
      | (conv => whnf
         try left
         conv => lhs; whnf
         first
           | rfl
           | exact congrArg (AV.int .i64) (by omega)
           | skip)
  obtain rfl : i = G.length := by omega
  have hnl := length_natsI ord
  have hrev : (natsI ord).reverse = natsI ord.reverse := by simp [natsI]
  have hrl : ord.reverse.length = ord.length := by simp
  conv => whnf
  repeat' ((first | contradiction | (refine And.intro (fun hb => ?_) (fun hb => ?_) <;> first | contradiction | ((try simp only [SB, reduceCtorEq] at hb); try (exfalso; first | contradiction | omega))) | refine G2 ?_ | rw [ints_at (by omega)] | rw [ints_at0 (by omega)] | rw [ints_at' (by omega) (by omega)] | refine G1 ?_ | refine ⟨GReverse_mk hnl (by omega) ?_⟩ | rw [hrev] | fail) <;> conv => whnf)
  clear hi hlt hb
  refine Lp.intro (α := List Int × Nat) (fun a => Rings (Nb (nb G)) G.length ord.reverse a.2 a.1 ∧ a.2 ≤ ord.length) (fun a => ord.length - a.2)
    (fun a => [(4, .rptr [.val (gRows (backG G))] 0), (5, .ref 0 0 G.length), (34, .ref 1 0 ord.length), (35, .int .i64 ord.length), (36, .int .i64 a.2)]) (fun a => [some (.arr 1 (ints a.1)), some (.arr 1 (ints (natsI ord.reverse)))]) ?_ ?_
  · refine ⟨(List.replicate G.length (-1), 0), ⟨rings_start _ _ _, Nat.zero_le _⟩, [some 0, some 1], rfl, rfl, And.intro (And.intro rfl ?_) (And.intro (And.intro rfl rfl) trivial), ?_⟩
    · simp
    · exact ⟨.inl rfl, rfl, rfl, .inl rfl, .inl rfl, trivial⟩
  rintro ⟨out, k⟩ ⟨hT, hk⟩
  dsimp only at hT hk ⊢
  have hotl := hT.len
  have hil := length_ints out
  refine vc2_sound hR _ _ _ _ _ ?_
  by_cases hlt : k < ord.length
  · have hroot : ord.reverse.getD k 0 < G.length := by
      refine hord.lt _ ?_
      rw [List.getD_eq_getElem?_getD, List.getElem?_eq_getElem (by omega)]
      exact List.mem_reverse.1 (List.getElem_mem _)
    have h0k : ∀ q, q < G.length → out.getD q 0 < (k : Int) := fun p hp => by
      rcases hT.told p hp with h1 | ⟨j, h1, _, h2, _⟩ <;> omega
    generalize hrt : ord.reverse.getD k 0 = root at hroot
    conv => whnf
    repeat' ((first | contradiction | (refine And.intro (fun hb => ?_) (fun hb => ?_) <;> first | contradiction | ((try simp only [SB, reduceCtorEq] at hb); try (exfalso; first | contradiction | omega))) | refine G2 ?_ | rw [ints_at (by omega)] | rw [ints_at0 (by omega)] | rw [ints_at' (by omega) (by omega)] | refine G1 ?_ | rw [natsI_at0 (by omega)] | rw [hrt] | rw [ints_at0 (by omega)] | fail) <;> conv => whnf)
    · rw [hrt] at hb
      refine ⟨(out, k + 1), ⟨hT.skip (fun _ => by rw [hrt]; exact hb), hlt⟩, by dsimp only; omega, [some 0, some 1], rfl, rfl, And.intro (And.intro rfl rfl) (And.intro (And.intro rfl rfl) trivial), ?_⟩
      exact ⟨.inl rfl, rfl, rfl, .inl rfl, .inl rfl, trivial⟩
    rw [hrt] at hb
    have hb0 := hb
    have hS := ring_start (A := Nb (nb G)) (k := k) hotl hroot hb
    have hls := left_set (v := (k : Int)) (by omega : root < out.length) hb (by omega)
    have hlo : left out ≤ out.length := List.countP_le_length
    refine Lp.intro (α := List Int × List Nat × List Nat) (fun a => Ring (Nb (nb G)) G.length k root out a.1 a.2.1 none (fun _ => False) ∧ 2 * left a.1 + a.2.1.length ≤ 2 * G.length) (fun a => 2 * left a.1 + a.2.1.length)
      (fun a => [(4, .rptr [.val (gRows (backG G))] 0), (5, .ref 0 0 G.length), (7, .int .i64 k), (9, .ref 2 0 a.2.1.length), (34, .ref 1 0 ord.length), (35, .int .i64 ord.length), (36, .int .i64 k)]) (fun a => [some (.arr 1 (ints a.1)), some (.arr 1 (ints (natsI ord.reverse))), some (.arr 1 (ints (natsI (a.2.1 ++ a.2.2))))]) ?_ ?_
    · refine ⟨(out.set root k, [root], []), ⟨hS, by simp only [List.length_singleton]; omega⟩, [some 0, some 1, some 2], rfl, rfl, And.intro (And.intro rfl ints_set) (And.intro (And.intro rfl rfl) (And.intro (And.intro rfl rfl) trivial)), ?_⟩
      exact ⟨.inl rfl, rfl, .inl rfl, rfl, rfl, .inl rfl, .inl rfl, trivial⟩
    clear hS hls hlo
    rintro ⟨out', st, J⟩ ⟨hC, hM⟩
    dsimp only at hC hM ⊢
    have hsp : st = [] ∨ ∃ l p, st = l ++ [p] := by
      rcases List.eq_nil_or_concat st with h | ⟨l, p, h⟩
      · exact .inl h
      · exact .inr ⟨l, p, by rw [h, List.concat_eq_append]⟩
    have hotl' := hC.len
    have hil' := length_ints out'
    refine vc2_sound hR _ _ _ _ _ ?_
    rcases hsp with rfl | ⟨l, p, rfl⟩
    · conv => whnf
      repeat' ((first | contradiction | (refine And.intro (fun hb => ?_) (fun hb => ?_) <;> first | contradiction | ((try simp only [SB, reduceCtorEq] at hb); try (exfalso; first | contradiction | omega))) | refine G2 ?_ | rw [ints_at (by omega)] | rw [ints_at0 (by omega)] | rw [ints_at' (by omega) (by omega)] | refine G1 ?_ | fail) <;> conv => whnf)
      refine ⟨(out', k + 1), ⟨hC.fin rfl hN hord hlt hrt.symm hT hb0, hlt⟩, by dsimp only; omega, [some 0, some 1], rfl, rfl, And.intro (And.intro rfl rfl) (And.intro (And.intro rfl rfl) trivial), ?_⟩
      exact ⟨.inl rfl, rfl, rfl, .inl rfl, .inl rfl, trivial⟩
    have hD := hC.take h0k
    have hp := (hC.wait p (by simp)).1
    have hLb := steps_le (G := backG G) (i := p) (by omega)
    have hsl := length_stepRows ((backG G).getD p [])
    have hll : (l ++ [p]).length = l.length + 1 := by simp
    have hjl : (ints (natsI (l ++ [p] ++ J))).length = l.length + 1 + J.length := by rw [length_ints, length_natsI]; simp; omega
    conv => whnf
    repeat' ((first | contradiction | (refine And.intro (fun hb => ?_) (fun hb => ?_) <;> first | contradiction | ((try simp only [SB, reduceCtorEq] at hb); try (exfalso; first | contradiction | omega))) | refine G2 ?_ | rw [ints_at (by omega)] | rw [ints_at0 (by omega)] | rw [ints_at' (by omega) (by omega)] | refine G1 ?_ | rw [last_at] | rw [gRows_at (by omega)] | fail) <;> conv => whnf)
    generalize hL : (backG G).getD p [] = L at hLb hsl
    refine Lp.intro (α := List Int × List Nat × List Nat × Nat) (fun a => Ring (Nb (nb G)) G.length k root out a.1 a.2.1 (some p) (fun r => ∃ j, j < a.2.2.2 ∧ (L.getD j default).1 = r) ∧ a.2.2.2 ≤ L.length ∧ 2 * left a.1 + a.2.1.length ≤ 2 * left out' + l.length) (fun a => L.length - a.2.2.2)
      (fun a => [(4, .rptr [.val (gRows (backG G))] 0), (5, .ref 0 0 G.length), (7, .int .i64 k), (9, .ref 2 0 a.2.1.length), (34, .ref 1 0 ord.length), (35, .int .i64 ord.length), (36, .int .i64 k), (72, .val (stepRows L)), (73, .int .i64 L.length), (74, .int .i64 a.2.2.2)]) (fun a => [some (.arr 1 (ints a.1)), some (.arr 1 (ints (natsI ord.reverse))), some (.arr 1 (ints (natsI (a.2.1 ++ a.2.2.1))))]) ?_ ?_
    · refine ⟨(out', l, p :: J, 0), ⟨hD.see (fun q hq r _ _ hr => by obtain ⟨j, hj, _⟩ := hr; dsimp only at hj; omega), Nat.zero_le _, Nat.le_refl _⟩, [some 0, some 1, some 2], rfl, rfl, And.intro (And.intro rfl rfl) (And.intro (And.intro rfl rfl) (And.intro (And.intro rfl ?_) trivial)), ?_⟩
      · simp
      · subst hL
        exact ⟨.inl rfl, rfl, .inl rfl, cut_last, rfl, .inl rfl, .inl rfl, .inl rfl, .inl (congrArg (fun x : Nat => AV.int .i64 x) hsl), .inl rfl, trivial⟩
    clear hD hC hotl' hil' hjl
    rintro ⟨out2, st2, J2, j⟩ ⟨hE, hj, hm⟩
    dsimp only at hE hj hm ⊢
    have hotl' := hE.len
    have hil' := length_ints out2
    refine vc2_sound hR _ _ _ _ _ ?_
    by_cases hjl : j < L.length
    · have hmem : L.getD j default ∈ (backG G).getD p [] := by rw [hL]; exact getD_mem' hjl
      have hs : (L.getD j default).1 < G.length := by
        have := hbk p _ hmem
        omega
      have hadj : Nb (nb G) (L.getD j default).1 p := nb_adj.2 ((adj_back hG).1 ⟨(L.getD j default).2, hmem⟩)
      have hsee : ∀ {o : List Int}, 0 ≤ o.getD (L.getD j default).1 0 → ∀ q, some p = some q → ∀ r, r < G.length → Nb (nb G) r q → (∃ j', j' < j + 1 ∧ (L.getD j' default).1 = r) → (∃ j', j' < j ∧ (L.getD j' default).1 = r) ∨ 0 ≤ o.getD r 0 := by
        rintro o ho q _ r _ _ ⟨j', hj', rfl⟩
        by_cases hjj : j' = j
        · subst hjj; exact .inr ho
        · exact .inl ⟨j', by omega, rfl⟩
      have hj2 : st2.length ≤ (ints (natsI (st2 ++ J2))).length := by rw [length_ints, length_natsI]; simp
      have hst2l : st2.length ≤ 200000 := by omega
      conv => whnf
      repeat' ((first | contradiction | (refine And.intro (fun hb => ?_) (fun hb => ?_) <;> first | contradiction | ((try simp only [SB, reduceCtorEq] at hb); try (exfalso; first | contradiction | omega))) | refine G2 ?_ | rw [ints_at (by omega)] | rw [ints_at0 (by omega)] | rw [ints_at' (by omega) (by omega)] | refine G1 ?_ | rw [step_at (by omega)] | rw [ints_at0 (by omega)] | fail) <;> conv => whnf)
      · have hpush := hE.push hs hadj hb
        have hls := left_set (v := (k : Int)) (by omega : (L.getD j default).1 < out2.length) hb (by omega)
        refine ⟨(out2.set (L.getD j default).1 k, st2 ++ [(L.getD j default).1], [], j + 1), ⟨hpush.see (hsee (by rw [Pl.getD_set, if_pos ⟨rfl, by omega⟩]; omega)), hjl, by simp only [List.length_append, List.length_singleton]; omega⟩, by dsimp only; omega, [some 0, some 1, some 4], rfl, rfl, And.intro (And.intro rfl ints_set) (And.intro (And.intro rfl rfl) (And.intro (And.intro rfl natsI_app2) trivial)), ?_⟩
        exact ⟨.inl rfl, rfl, .inl rfl, congrArg (AV.ref 4 0) (by simp), rfl, .inl rfl, .inl rfl, .inl rfl, .inl rfl, .inl rfl, trivial⟩
      · refine ⟨(out2, st2, J2, j + 1), ⟨hE.see (hsee (by omega)), hjl, hm⟩, by dsimp only; omega, [some 0, some 1, some 2], rfl, rfl, And.intro (And.intro rfl rfl) (And.intro (And.intro rfl rfl) (And.intro (And.intro rfl rfl) trivial)), ?_⟩
        exact ⟨.inl rfl, rfl, .inl rfl, rfl, rfl, .inl rfl, .inl rfl, .inl rfl, .inl rfl, .inl rfl, trivial⟩
    · conv => whnf
      repeat' ((first | contradiction | (refine And.intro (fun hb => ?_) (fun hb => ?_) <;> first | contradiction | ((try simp only [SB, reduceCtorEq] at hb); try (exfalso; first | contradiction | omega))) | refine G2 ?_ | rw [ints_at (by omega)] | rw [ints_at0 (by omega)] | rw [ints_at' (by omega) (by omega)] | refine G1 ?_ | fail) <;> conv => whnf)
      refine ⟨(out2, st2, J2), ⟨hE.done (fun q hq r hr ha => ?_), by dsimp only; omega⟩, by dsimp only; omega, [some 0, some 1, some 2], rfl, rfl, And.intro (And.intro rfl rfl) (And.intro (And.intro rfl rfl) (And.intro (And.intro rfl rfl) trivial)), ?_⟩
      · cases hq
        obtain ⟨m, hm⟩ := (adj_back hG).2 (nb_adj.1 ha)
        rw [hL] at hm
        obtain ⟨j', hj', he⟩ := List.getElem_of_mem hm
        refine ⟨j', by omega, ?_⟩
        rw [List.getD_eq_getElem?_getD, List.getElem?_eq_getElem hj']
        simp [he]
      · exact ⟨.inl rfl, rfl, .inl rfl, rfl, rfl, .inl rfl, .inl rfl, trivial⟩
  · conv => whnf
    repeat' ((first | contradiction | (refine And.intro (fun hb => ?_) (fun hb => ?_) <;> first | contradiction | ((try simp only [SB, reduceCtorEq] at hb); try (exfalso; first | contradiction | omega))) | refine G2 ?_ | rw [ints_at (by omega)] | rw [ints_at0 (by omega)] | rw [ints_at' (by omega) (by omega)] | refine G1 ?_ | fail) <;> conv => whnf)
    refine ⟨.inl rfl, ?_⟩
    conv => whnf
    have hf := hT.fin hord (by omega)
    rw [nb_eq] at hf
    exact ⟨[some 0], .ref 0 0 G.length, [some (.arr 1 (ints out))], ⟨rfl, And.intro (And.intro rfl rfl) trivial⟩, rfl, rfl, hq out hf⟩
def c_impl_isIn : ICode := (.seq (.reg [Ol 4 .mv [cb false]]) (.seq (.reg [O1 5 .mv 0, O1 6 .mv 1, O2 7 (.bin .andNot) 5 6, Ol 8 (.bin .eql) [.t 7, ci 0], O1 4 .mv 8]) .ret))
theorem b_impl_isIn : Body Try.prog 181 9 c_impl_isIn [(.t 4)] := body_mk Try.func181 (by kernel_rfl) (by decide)
def c_impl_graph_lives : ICode := (.seq (.reg [Ol 6 .mv [cb false]]) (.seq (.reg [O1 16 .mv 0, O1 17 .mv 1, O2 18 (.call 103) 16 17, O1 19 .mv 0, O1 20 (.call 104) 19, O1 7 .mv 18, O1 8 .mv 20]) (.seq (.reg [O0 21 (.mkm false), O1 9 .mv 21]) (.seq (.reg [O0 22 (.mkm false), O1 10 .mv 22]) (.seq (.seq (.reg [O1 23 .mv 0, O1 24 .nck 23, O1 25 (.fadr 0) 24, O1 26 .ld1 25, O1 27 .len 26, Ol 28 .mv [ci 0]]) (.block 0 (.loop (.seq (.reg [O2 29 (.bin .lss) 28 27]) (.seq (.cond (.t 29) .skip (.exit 0)) (.seq (.block 1 (.seq (.reg [O1 30 .mv 28, O2 31 (.iadr 1) 26 28, O1 32 .ld1 31, O1 11 .mv 30, O1 12 .mv 32]) (.seq (.reg [O1 33 .mv 12, O1 34 .len 33, Ol 35 .mv [ci 0]]) (.block 2 (.loop (.seq (.reg [O2 36 (.bin .lss) 35 34]) (.seq (.cond (.t 36) .skip (.exit 2)) (.seq (.block 3 (.seq (.reg [O2 37 (.iadr 2) 33 35, O1 38 (.ldn 2) 37, O0 14 (.alc [(.int .i64 0), (.int .i64 0)]), S2 (.st 2) 14 38]) (.seq (.drw [O1 39 .mv 7, O1 40 .mv 11, O2 41 (.iadr 1) 39 40, O1 42 .ld1 41, Ol 43 (.bin .geq) [.t 42, ci 0], O1 44 .mv 43, Og 45 .mv [.t 8] 44 true, Og 46 .mv [.t 11] 44 true, Og 47 (.iadr 1) [.t 45, .t 46] 44 true, Og 48 .ld1 [.t 47] 44 true, Og 49 .mv [.t 8] 44 true, Og 50 (.fadr 0) [.t 14] 44 true, Og 51 .ld1 [.t 50] 44 true, Og 52 (.iadr 1) [.t 49, .t 51] 44 true, Og 53 .ld1 [.t 52] 44 true, Og 54 (.bin .eql) [.t 48, .t 53] 44 true, Ol 55 .pick [.t 44, .t 54, cb false]] (unB [0, 0, 3, 7, 15, 31, 63, 63, 255, 511, 63, 63, 2111, 7231, 15423, 32767, 65535] 0) true true) (.cond (.t 55) (.seq (.drw [O1 56 .mv 9, O1 57 .mv 8, O1 58 .mv 11, O2 59 (.iadr 1) 57 58, O1 60 .ld1 59, O2 61 (.mlk false) 56 60, O1 62 (.fadr 1) 14, O1 63 .ld1 62, O2 64 (.bin .or) 61 63, Sl (.mup false) [.t 56, .t 60, .t 64]] (unB [0, 0, 0, 6, 14, 31, 0, 64, 255, 511] 0) true true) (.reg [O1 65 .mv 10, O1 66 .mv 8, O1 67 .mv 11, O2 68 (.iadr 1) 66 67, O1 69 .ld1 68, Sl (.mup false) [.t 65, .t 69, ci 1]])) .skip)))) (.reg [Ol 70 (.bin .add) [.t 35, ci 1], O1 35 .mv 70]))))))))) (.reg [Ol 71 (.bin .add) [.t 28, ci 1], O1 28 .mv 71]))))))) (.seq (.seq (.reg [O1 72 .mv 10, O1 73 (.rng false) 72]) (.block 4 (.loop (.seq (.reg [O1 74 .nxt 73, O1 75 (.ext 0) 74]) (.seq (.cond (.t 75) .skip (.exit 4)) (.block 5 (.seq (.reg [O1 76 .ent 73, O1 77 (.ext 0) 76, O1 15 .mv 77]) (.seq (.reg [O1 78 .mv 2, O1 79 .mv 9, O1 80 .mv 15, O2 81 (.mlk false) 79 80, O2 82 (.call 181) 78 81]) (.cond (.t 82) (.seq (.reg [Ol 6 .mv [cb true]]) .ret) .skip))))))))) (.seq (.reg [Ol 6 .mv [cb false]]) .ret)))))))
theorem b_impl_graph_lives : Body Try.prog 118 83 c_impl_graph_lives [(.t 6)] := body_mk Try.func118 (by kernel_rfl) (by decide)
/-! ### maps, plainly -/
theorem mget_set {es : List MEnt} {k k' : List Sc} {v : Int} : mget (mset es k v) k' = if k' = k then v else mget es k' := by
  unfold mset
  cases hh : mhas es k with
  | true =>
    rw [if_pos rfl]
    unfold mget
    have hm : mhas es k = true := hh
    unfold mhas at hm
    clear hh
    induction es with
    | nil => simp at hm
    | cons e r ih =>
      rw [List.map_cons, List.find?_cons, List.find?_cons]
      by_cases hek : e.1 = k
      · rw [if_pos hek]
        by_cases hk : k' = k
        · subst hk; simp
        · have h2 : ¬ e.1 = k' := fun h => hk (h.symm.trans hek)
          have h3 : ¬ k = k' := fun h => hk h.symm
          simp only [h2, h3, decide_false, hk, if_false]
          cases hr : r.any fun e => decide (e.1 = k) with
          | true => have := ih hr; simpa [hk] using this
          | false =>
            have hno : ∀ x ∈ r, ¬ x.1 = k := fun x hx => by have := (List.any_eq_false.1 hr) x hx; simpa using this
            have e1 : (r.map fun e => if e.1 = k then (k, v) else e) = r := by
              conv => rhs; rw [← List.map_id r]
              refine List.map_congr_left fun x hx => ?_
              rw [if_neg (hno x hx)]; rfl
            rw [e1]
      · rw [if_neg hek]
        have hr : (r.any fun e => decide (e.1 = k)) = true := by simpa [hek] using hm
        by_cases h2 : e.1 = k'
        · have h3 : ¬ k' = k := fun h => hek (h2.trans h)
          simp [h2, h3]
        · simp only [h2, decide_false]
          exact ih hr
  | false =>
    rw [if_neg (by simp)]
    unfold mhas at hh
    rw [List.any_eq_false] at hh
    unfold mget
    rw [List.find?_append]
    by_cases hk : k' = k
    · subst hk
      rw [List.find?_eq_none.2 (fun x hx => by simpa using hh x hx)]
      simp
    · have h3 : ¬ k = k' := fun h => hk h.symm
      simp only [hk, if_false, List.find?_cons, h3, decide_false, List.find?_nil, Option.or_none]
theorem mhas_set {es : List MEnt} {k k' : List Sc} {v : Int} : mhas (mset es k v) k' = true ↔ k' = k ∨ mhas es k' = true := by
  unfold mset
  cases hh : mhas es k with
  | true =>
    rw [if_pos rfl]
    unfold mhas at hh ⊢
    simp only [List.any_map, List.any_eq_true, Function.comp, decide_eq_true_eq] at hh ⊢
    constructor
    · rintro ⟨e, he, h⟩
      split at h
      · exact .inl h.symm
      · exact .inr ⟨e, he, h⟩
    · rintro (rfl | ⟨e, he, h⟩)
      · obtain ⟨e, he, h⟩ := hh
        exact ⟨e, he, by rw [if_pos h]⟩
      · refine ⟨e, he, ?_⟩
        split
        · rename_i h2; rw [← h2, h]
        · exact h
  | false =>
    rw [if_neg (by simp)]
    unfold mhas
    simp only [List.any_append, List.any_cons, List.any_nil, Bool.or_false, Bool.or_eq_true, decide_eq_true_eq]
    constructor
    · rintro (h | h)
      · exact .inr h
      · exact .inl h.symm
    · rintro (h | h)
      · exact .inr h.symm
      · exact .inl h
/-! ### sets in sets -/
theorem sub_iff {X Y : Nat} : ((X &&& Y) == X) = true ↔ ∀ b, X.testBit b = true → Y.testBit b = true := by
  rw [beq_iff_eq]
  constructor
  · intro h b hb
    rw [← h, Nat.testBit_and, Bool.and_eq_true] at hb
    exact hb.2
  · intro h
    refine bits_ext fun b => ?_
    rw [Nat.testBit_and, Bool.and_eq_true]
    exact ⟨fun h => h.1, fun hb => ⟨hb, h b hb⟩⟩
theorem andNot_bits {X Y i : Nat} (hX : X < 2 ^ 62) (hY : Y < 2 ^ 62) : (BitVec.ofInt IntKind.i64.bits ((X : Nat) : Int) &&& ~~~BitVec.ofInt IntKind.i64.bits ((Y : Nat) : Int)).toNat.testBit i = true ↔ X.testBit i = true ∧ ¬ Y.testBit i = true := by
  have hb : IntKind.i64.bits = 64 := rfl
  rw [hb, BitVec.toNat_and, BitVec.toNat_not, toNat_ofInt64 (by omega) (by omega), toNat_ofInt64 (by omega) (by omega), Int.toNat_natCast, Int.toNat_natCast, Nat.testBit_and, Bool.and_eq_true,
    show 2 ^ 64 - 1 - Y = 2 ^ 64 - (Y + 1) by omega, Nat.testBit_two_pow_sub_succ (by omega), Bool.and_eq_true]
  constructor
  · rintro ⟨h1, _, h2⟩; exact ⟨h1, by simpa using h2⟩
  · rintro ⟨h1, h2⟩; exact ⟨h1, by simpa using bit_lt (show X < 2 ^ 64 by omega) h1, by simpa using h2⟩
theorem andNot_zero {X Y : Nat} (hX : X < 2 ^ 62) (hY : Y < 2 ^ 62) : IntKind.i64.wrap (BitVec.ofInt IntKind.i64.bits ((X : Nat) : Int) &&& ~~~BitVec.ofInt IntKind.i64.bits ((Y : Nat) : Int)).toNat = 0 ↔ ((X &&& Y) == X) = true := by
  have hle : (BitVec.ofInt IntKind.i64.bits ((X : Nat) : Int) &&& ~~~BitVec.ofInt IntKind.i64.bits ((Y : Nat) : Int)).toNat ≤ X := sub_le fun i h => ((andNot_bits hX hY).1 h).1
  rw [IntWalk.i64_in _ (by omega), sub_iff]
  constructor
  · intro h b hb
    refine Classical.byContradiction fun hn => ?_
    have := (andNot_bits (X := X) (Y := Y) hX hY).2 ⟨hb, hn⟩
    rw [show (BitVec.ofInt IntKind.i64.bits ((X : Nat) : Int) &&& ~~~BitVec.ofInt IntKind.i64.bits ((Y : Nat) : Int)).toNat = 0 by omega, Nat.zero_testBit] at this
    cases this
  · intro h
    have : (BitVec.ofInt IntKind.i64.bits ((X : Nat) : Int) &&& ~~~BitVec.ofInt IntKind.i64.bits ((Y : Nat) : Int)).toNat = 0 := bits_ext fun i => by
      rw [andNot_bits hX hY, Nat.zero_testBit]
      exact ⟨fun hh => absurd (h i hh.1) hh.2, fun hh => by cases hh⟩
    rw [this]; rfl
def RIsIn (xs : List AV) (r : AV) (objs : List AObj) : Prop := ∃ X Y : Nat, xs = [.int .i64 ((X : Nat) : Int), .int .i64 ((Y : Nat) : Int)] ∧ X < 2 ^ 62 ∧ Y < 2 ^ 62 ∧ r = .bool ((X &&& Y) == X) ∧ objs = []
theorem RIsIn_eq {xs : List AV} {X Y : Nat} (hx : xs = [.int .i64 ((X : Nat) : Int), .int .i64 ((Y : Nat) : Int)]) (h : X < 2 ^ 62) (h1 : Y < 2 ^ 62) : RIsIn xs (.bool ((X &&& Y) == X)) [] := ⟨X, Y, hx, h, h1, rfl, rfl⟩
theorem s_impl_isIn : PureSound Try.prog 181 RIsIn := by
  have hR : Rely Try.prog (ctxOf []) := rely_nil mixed
  refine pure_of_aw b_impl_isIn ?_
  rintro xs r objs ⟨X, Y, rfl, hX, hY, rfl, rfl⟩ -
  have h0 := andNot_zero hX hY
  refine ⟨by simp, vc2_sound hR _ _ _ _ _ ?_⟩
  conv => whnf
  repeat' ((first | contradiction | (refine And.intro (fun hb => ?_) (fun hb => ?_) <;> first | contradiction | ((try simp only [SB, reduceCtorEq] at hb); try (exfalso; first | contradiction | omega))) | refine G2 ?_ | rw [ints_at (by omega)] | rw [ints_at0 (by omega)] | rw [ints_at' (by omega) (by omega)] | refine G1 ?_ | fail) <;> conv => whnf)
  all_goals
    refine ⟨.inl rfl, ?_⟩
    conv => whnf
    refine ⟨[], ⟨rfl, trivial⟩, ?_, rfl, rfl⟩
    conv => whnf
    left
    conv => lhs; whnf
    refine congrArg AV.bool ?_
    symm
    first
    | exact h0.1 (by assumption)
    | exact Bool.eq_false_iff.2 fun h => absurd (h0.2 h) (by assumption)
/-! ### rings that live -/
def Lives (G : GraphD) (src : List Nat) (all : Nat) : Prop := ∃ p, p < G.length ∧ Rch (Adj G) (· ∈ src) p ∧ (∃ s ∈ G.getD p [], Mut (Adj G) p s.1) ∧
  ∀ b, all.testBit b = true → ∃ q, ∃ s ∈ G.getD q [], Mut (Adj G) p q ∧ Mut (Adj G) p s.1 ∧ s.2.toNat.testBit b = true
def Inn (G : GraphD) (F out : List Int) (r : Int) (q i : Nat) : Prop := q < G.length ∧ i < (G.getD q []).length ∧ 0 ≤ F.getD q 0 ∧ out.getD q 0 = r ∧ out.getD ((G.getD q []).getD i default).1 0 = r
def Bef (p j q i : Nat) : Prop := q < p ∨ (q = p ∧ i < j)
structure LvI (G : GraphD) (F out : List Int) (p j : Nat) (ms rs : List MEnt) : Prop where
  pos : ∀ r, 0 ≤ mget ms [.i r] ∧ mget ms [.i r] < 2 ^ 31
  mrk : ∀ r b, (mget ms [.i r]).toNat.testBit b = true ↔ ∃ q i, Bef p j q i ∧ Inn G F out r q i ∧ ((G.getD q []).getD i default).2.toNat.testBit b = true
  rg : ∀ r, mhas rs [.i r] = true ↔ ∃ q i, Bef p j q i ∧ Inn G F out r q i
  shape : ∀ e ∈ rs, ∃ r, e.1 = [.i r]
theorem lv_start (G : GraphD) (F out : List Int) : LvI G F out 0 0 [] [] := by
  refine ⟨fun r => ⟨Int.le_refl _, show (0 : Int) < 2 ^ 31 by decide⟩, fun r b => ?_, fun r => ?_, fun e h => by cases h⟩
  · constructor
    · intro h; simp [mget] at h
    · rintro ⟨q, i, h, _⟩; rcases h with h | ⟨_, h⟩ <;> omega
  · constructor
    · intro h; simp [mhas] at h
    · rintro ⟨q, i, h, _⟩; rcases h with h | ⟨_, h⟩ <;> omega
section
variable {G : GraphD} {F out : List Int} {p j : Nat} {ms rs : List MEnt}
theorem LvI.next (h : LvI G F out p j ms rs) (hj : (G.getD p []).length ≤ j) : LvI G F out (p + 1) 0 ms rs := by
  have key : ∀ q i r, Inn G F out r q i → (Bef p j q i ↔ Bef (p + 1) 0 q i) := by
    rintro q i r ⟨_, h2, _⟩
    unfold Bef
    by_cases hq : q = p
    · subst hq; constructor <;> intro <;> omega
    · constructor <;> intro <;> omega
  refine ⟨h.pos, fun r b => (h.mrk r b).trans ?_, fun r => (h.rg r).trans ?_, h.shape⟩
  · exact ⟨fun ⟨q, i, h1, h2, h3⟩ => ⟨q, i, (key q i r h2).1 h1, h2, h3⟩, fun ⟨q, i, h1, h2, h3⟩ => ⟨q, i, (key q i r h2).2 h1, h2, h3⟩⟩
  · exact ⟨fun ⟨q, i, h1, h2⟩ => ⟨q, i, (key q i r h2).1 h1, h2⟩, fun ⟨q, i, h1, h2⟩ => ⟨q, i, (key q i r h2).2 h1, h2⟩⟩
theorem bef_succ {q i : Nat} : Bef p (j + 1) q i ↔ Bef p j q i ∨ (q = p ∧ i = j) := by unfold Bef; omega
theorem LvI.skip (h : LvI G F out p j ms rs) (hn : ∀ r, ¬ Inn G F out r p j) : LvI G F out p (j + 1) ms rs := by
  refine ⟨h.pos, fun r b => (h.mrk r b).trans ?_, fun r => (h.rg r).trans ?_, h.shape⟩
  · refine ⟨fun ⟨q, i, h1, h2⟩ => ⟨q, i, bef_succ.2 (.inl h1), h2⟩, fun ⟨q, i, h1, h2, h3⟩ => ⟨q, i, ?_, h2, h3⟩⟩
    rcases bef_succ.1 h1 with h1 | ⟨rfl, rfl⟩
    · exact h1
    · exact absurd h2 (hn r)
  · refine ⟨fun ⟨q, i, h1, h2⟩ => ⟨q, i, bef_succ.2 (.inl h1), h2⟩, fun ⟨q, i, h1, h2⟩ => ⟨q, i, ?_, h2⟩⟩
    rcases bef_succ.1 h1 with h1 | ⟨rfl, rfl⟩
    · exact h1
    · exact absurd h2 (hn r)
theorem LvI.put (h : LvI G F out p j ms rs) {r0 : Int} (hin : Inn G F out r0 p j) {m : Nat} (hm : ((G.getD p []).getD j default).2.toNat = m) (hml : m < 2 ^ 31) :
    LvI G F out p (j + 1) (mset ms [.i r0] (((mget ms [.i r0]).toNat ||| m : Nat) : Int)) (mset rs [.i r0] 1) := by
  have hp := h.pos r0
  have hlt : (mget ms [.i r0]).toNat ||| m < 2 ^ 31 := Nat.or_lt_two_pow (by omega) hml
  have hr : ∀ r, Inn G F out r p j → r = r0 := fun r ⟨_, _, _, h1, _⟩ => by rw [← h1]; exact hin.2.2.2.1
  refine ⟨fun r => ?_, fun r b => ?_, fun r => ?_, fun e he => ?_⟩
  · rw [mget_set]
    split
    · omega
    · exact h.pos r
  · rw [mget_set]
    by_cases hrr : r = r0
    · subst hrr
      rw [if_pos rfl, Int.toNat_natCast, Nat.testBit_or, Bool.or_eq_true, h.mrk]
      constructor
      · rintro (⟨q, i, h1, h2⟩ | h1)
        · exact ⟨q, i, bef_succ.2 (.inl h1), h2⟩
        · exact ⟨p, j, bef_succ.2 (.inr ⟨rfl, rfl⟩), hin, by rw [hm]; exact h1⟩
      · rintro ⟨q, i, h1, h2, h3⟩
        rcases bef_succ.1 h1 with h1 | ⟨rfl, rfl⟩
        · exact .inl ⟨q, i, h1, h2, h3⟩
        · exact .inr (by rw [← hm]; exact h3)
    · rw [if_neg (by simpa using hrr), h.mrk]
      refine ⟨fun ⟨q, i, h1, h2⟩ => ⟨q, i, bef_succ.2 (.inl h1), h2⟩, fun ⟨q, i, h1, h2, h3⟩ => ⟨q, i, ?_, h2, h3⟩⟩
      rcases bef_succ.1 h1 with h1 | ⟨rfl, rfl⟩
      · exact h1
      · exact absurd (hr r h2) hrr
  · rw [mhas_set, h.rg]
    constructor
    · rintro (h1 | ⟨q, i, h1, h2⟩)
      · have : r = r0 := by simpa using h1
        subst this
        exact ⟨p, j, bef_succ.2 (.inr ⟨rfl, rfl⟩), hin⟩
      · exact ⟨q, i, bef_succ.2 (.inl h1), h2⟩
    · rintro ⟨q, i, h1, h2⟩
      rcases bef_succ.1 h1 with h1 | ⟨rfl, rfl⟩
      · exact .inr ⟨q, i, h1, h2⟩
      · exact .inl (by rw [hr r h2])
  · unfold mset at he
    split at he
    · obtain ⟨e0, h0, rfl⟩ := List.mem_map.1 he
      split
      · exact ⟨r0, rfl⟩
      · exact h.shape e0 h0
    · rcases List.mem_append.1 he with he | he
      · exact h.shape e he
      · simp at he; subst he; exact ⟨r0, rfl⟩
end
theorem far_rch {G : GraphD} {src : List Nat} {q : Nat} (hq : q < G.length) : 0 ≤ (farL (Adj G) (· ∈ src) G.length).getD q 0 ↔ Rch (Adj G) (· ∈ src) q := by
  rw [farL_at hq]
  constructor
  · intro h
    rcases dist_cases (Adj G) (· ∈ src) q with c | c
    · omega
    · exact walk_rch c.2.1
  · intro h
    obtain ⟨k, hk⟩ := rch_walk h
    rcases dist_cases (Adj G) (· ∈ src) q with c | c
    · exact absurd hk (c.2 k)
    · exact c.1
theorem lives_of {G : GraphD} {src : List Nat} {all : Nat} {out : List Int} (hG : GOk G) (ho : IsRings (Adj G) G.length out) {ms rs : List MEnt} (h : LvI G (farL (Adj G) (· ∈ src) G.length) out G.length 0 ms rs) :
    Lives G src all ↔ ∃ r, mhas rs [.i r] = true ∧ ∀ b, all.testBit b = true → (mget ms [.i r]).toNat.testBit b = true := by
  have hmem : ∀ q i, i < (G.getD q []).length → (G.getD q []).getD i default ∈ G.getD q [] := fun q i hi => getD_mem' hi
  constructor
  · rintro ⟨p, hp, hr, ⟨s, hs, hm⟩, hall⟩
    refine ⟨out.getD p 0, ?_, fun b hb => ?_⟩
    · rw [h.rg]
      obtain ⟨i, hi, he⟩ := List.getElem_of_mem hs
      have hse : (G.getD p []).getD i default = s := by rw [List.getD_eq_getElem?_getD (l := _) (i := i), List.getElem?_eq_getElem hi]; exact he
      exact ⟨p, i, .inl hp, hp, hi, (far_rch hp).2 hr, rfl, by rw [hse]; exact ((ho.2.2 p s.1 hp (hG p s hs)).2 hm).symm⟩
    · rw [h.mrk]
      obtain ⟨q, s, hs, hpq, hps, hb2⟩ := hall b hb
      obtain ⟨i, hi, he⟩ := List.getElem_of_mem hs
      have hse : (G.getD q []).getD i default = s := by rw [List.getD_eq_getElem?_getD (l := _) (i := i), List.getElem?_eq_getElem hi]; exact he
      have hq : q < G.length := (adj_lt hG ⟨s.2, hs⟩).1
      refine ⟨q, i, .inl hq, ⟨hq, hi, (far_rch hq).2 ?_, ((ho.2.2 p q hp hq).2 hpq).symm, ?_⟩, by rw [hse]; exact hb2⟩
      · exact hpq.1.mono fun x hx => hx ▸ hr
      · rw [hse]; exact ((ho.2.2 p s.1 hp (hG q s hs)).2 hps).symm
  · rintro ⟨r, hr, hall⟩
    obtain ⟨p, i, _, hp, hi, hf, h1, h2⟩ := (h.rg r).1 hr
    have hsl := hG p _ (hmem p i hi)
    refine ⟨p, hp, (far_rch hp).1 hf, ⟨_, hmem p i hi, (ho.2.2 _ _ hp hsl).1 (h1.trans h2.symm)⟩, fun b hb => ?_⟩
    obtain ⟨q, k, _, ⟨hq, hk, _, g1, g2⟩, g3⟩ := (h.mrk r b).1 (hall b hb)
    have hkl := hG q _ (hmem q k hk)
    exact ⟨q, _, hmem q k hk, (ho.2.2 _ _ hp hq).1 (h1.trans g1.symm), (ho.2.2 _ _ hp hkl).1 (h1.trans g2.symm), g3⟩
def MarksOk (G : GraphD) : Prop := ∀ p, ∀ s ∈ G.getD p [], 0 ≤ s.2 ∧ s.2 < 2 ^ 31
def RLives (xs : List AV) (r : AV) (objs : List AObj) : Prop := ∃ (G : GraphD) (src : List Nat) (all : Nat) (b : Bool), xs = [.rptr [.val (gRows G)] 0, .val (ints (natsI src)), .int .i64 ((all : Nat) : Int)] ∧ GOk G ∧ MarksOk G ∧ G.length ≤ 100000 ∧ steps G ≤ 1000000000 ∧
  (∀ p ∈ src, p < G.length) ∧ src.length ≤ 100000 ∧ all < 2 ^ 31 ∧ (b = true ↔ Lives G src all) ∧ r = .bool b ∧ objs = []
set_option maxHeartbeats 8000000 in
theorem s_impl_lives : PureSound Try.prog 118 RLives := by
  have hR : Rely Try.prog (ctxOf [(103, .pure RFar), (104, .gen 0 GRings), (181, .pure RIsIn)]) :=
    rely_cons b_impl_graph_far.has s_impl_far (rely_cons b_impl_graph_rings.has s_impl_rings (rely_cons b_impl_isIn.has s_impl_isIn (rely_nil mixed)))
  refine pure_of_aw b_impl_graph_lives ?_
  rintro xs r objs ⟨G, src, all, bb, rfl, hG, hM, hn, hst, hsrc, hsl, hall, hbb, rfl, rfl⟩ -
  have hle := length_gRows G
  refine ⟨by simp, vc2_sound hR _ _ _ _ _ ?_⟩
  conv => whnf
  repeat' ((first | contradiction | (refine And.intro (fun hb => ?_) (fun hb => ?_) <;> first | contradiction | ((try simp only [SB, reduceCtorEq] at hb); try (exfalso; first | contradiction | omega))) | refine G2 ?_ | rw [ints_at (by omega)] | rw [ints_at0 (by omega)] | rw [ints_at' (by omega) (by omega)] | refine G1 ?_ | rw [hle] | refine ⟨_, _, RFar_eq (G := G) (src := src) rfl hG hn hst hsrc hsl, ?_⟩ | refine ⟨GRings_mk hG hn hst (fun out hout => ?_)⟩ | fail) <;> conv => whnf)
  have hfl : (farL (Adj G) (· ∈ src) G.length).length = G.length := length_farL
  have hlv := fun ms rs h => lives_of (src := src) (all := all) hG hout (ms := ms) (rs := rs) h
  have hpo : ∀ p, p < G.length → 0 ≤ out.getD p 0 ∧ out.getD p 0 < G.length := hout.2.1
  have hol : out.length = G.length := hout.1
  generalize hF : farL (Adj G) (· ∈ src) G.length = F at *
  have hFi := (length_ints F).trans hfl
  have hoi := (length_ints out).trans hol
  refine Lp.intro (α := Nat × List MEnt × List MEnt) (fun c => LvI G F out c.1 0 c.2.1 c.2.2 ∧ c.1 ≤ G.length) (fun c => G.length - c.1)
    (fun c => [(2, .int .i64 all), (7, .val (ints F)), (8, .val (ints out)), (9, .mp 0), (10, .mp 1), (26, .val (gRows G)), (27, .int .i64 G.length), (28, .int .i64 c.1)]) (fun c => [some (.map false c.2.1), some (.map false c.2.2)]) ?_ ?_
  · refine ⟨(0, [], []), ⟨lv_start G F out, Nat.zero_le _⟩, [some 2, some 3], rfl, rfl, And.intro ⟨rfl, rfl⟩ (And.intro ⟨rfl, rfl⟩ trivial), ?_⟩
    exact ⟨.inl rfl, .inr (snap_all rfl hFi), .inr (snap_all rfl hoi), rfl, rfl, .inl rfl, .inl rfl, .inl rfl, trivial⟩
  rintro ⟨p, ms, rs⟩ ⟨hI, hp⟩
  dsimp only at hI hp ⊢
  refine vc2_sound hR _ _ _ _ _ ?_
  by_cases hlt : p < G.length
  · have hsl2 := length_stepRows (G.getD p [])
    have hLb := steps_le hlt
    conv => whnf
    repeat' ((first | contradiction | (refine And.intro (fun hb => ?_) (fun hb => ?_) <;> first | contradiction | ((try simp only [SB, reduceCtorEq] at hb); try (exfalso; first | contradiction | omega))) | refine G2 ?_ | rw [ints_at (by omega)] | rw [ints_at0 (by omega)] | rw [ints_at' (by omega) (by omega)] | refine G1 ?_ | rw [gRows_at hlt] | fail) <;> conv => whnf)
    refine Lp.intro (α := Nat × List MEnt × List MEnt) (fun c => LvI G F out p c.1 c.2.1 c.2.2 ∧ c.1 ≤ (G.getD p []).length) (fun c => (G.getD p []).length - c.1)
      (fun c => [(2, .int .i64 all), (7, .val (ints F)), (8, .val (ints out)), (9, .mp 0), (10, .mp 1), (11, .int .i64 p), (26, .val (gRows G)), (27, .int .i64 G.length), (28, .int .i64 p), (33, .val (stepRows (G.getD p []))), (34, .int .i64 (G.getD p []).length), (35, .int .i64 c.1)]) (fun c => [some (.map false c.2.1), some (.map false c.2.2)]) ?_ ?_
    · refine ⟨(0, ms, rs), ⟨hI, Nat.zero_le _⟩, [some 0, some 1], rfl, rfl, And.intro ⟨rfl, rfl⟩ (And.intro ⟨rfl, rfl⟩ trivial), ?_⟩
      exact ⟨.inl rfl, .inl rfl, .inl rfl, rfl, rfl, .inl rfl, .inl rfl, .inl rfl, .inl rfl, .inl rfl, .inl (congrArg (fun x : Nat => AV.int .i64 x) hsl2), .inl rfl, trivial⟩
    clear hI ms rs
    rintro ⟨j, ms, rs⟩ ⟨hI, hj⟩
    dsimp only at hI hj ⊢
    refine vc2_sound hR _ _ _ _ _ ?_
    by_cases hjl : j < (G.getD p []).length
    · have hs : ((G.getD p []).getD j default).1 < G.length := hG p _ (getD_mem' hjl)
      have hm := hM p _ (getD_mem' hjl)
      have hFp : (ints F)[((p : Nat) : Int).toNat]? = some [.int .i64 (F.getD p 0)] := by rw [ints_at (by omega)]
      have hop : (ints out)[((p : Nat) : Int).toNat]? = some [.int .i64 (out.getD p 0)] := by rw [ints_at (by omega)]
      have hos : (ints out)[((((G.getD p []).getD j default).1 : Nat) : Int).toNat]? = some [.int .i64 (out.getD ((G.getD p []).getD j default).1 0)] := by rw [ints_at (by omega)]
      conv => whnf
      repeat' ((first | contradiction | (refine And.intro (fun hb => ?_) (fun hb => ?_) <;> first | contradiction | ((try simp only [SB, reduceCtorEq] at hb); try (exfalso; first | contradiction | omega))) | refine G2 ?_ | rw [ints_at (by omega)] | rw [ints_at0 (by omega)] | rw [ints_at' (by omega) (by omega)] | refine G1 ?_ | rw [step_at hjl] | rw [hFp] | rw [hop] | rw [hos] | fail) <;> conv => whnf)
      · have hpos := hI.pos (out.getD p 0)
        have hor := or_val (X := (mget ms [.i (out.getD p 0)]).toNat) (Y := ((G.getD p []).getD j default).2.toNat) (by omega) (by omega)
        rw [Int.toNat_of_nonneg hpos.1, Int.toNat_of_nonneg hm.1] at hor
        have hput := hI.put (r0 := out.getD p 0) ⟨hlt, hjl, by assumption, rfl, by symm; assumption⟩ rfl (by omega)
        refine ⟨(j + 1, _, _), ⟨hput, hjl⟩, by dsimp only; omega, [some 0, some 1], rfl, rfl, And.intro ⟨rfl, congrArg (mset ms [Sc.i (out.getD p 0)]) hor⟩ (And.intro ⟨rfl, rfl⟩ trivial), ?_⟩
        exact ⟨.inl rfl, .inl rfl, .inl rfl, rfl, rfl, .inl rfl, .inl rfl, .inl rfl, .inl rfl, .inl rfl, .inl rfl, .inl rfl, trivial⟩
      all_goals
        refine ⟨(j + 1, ms, rs), ⟨hI.skip (fun r hr => ?_), hjl⟩, by dsimp only; omega, [some 0, some 1], rfl, rfl, And.intro ⟨rfl, rfl⟩ (And.intro ⟨rfl, rfl⟩ trivial), ?_⟩
        · obtain ⟨_, _, h1, h2, h3⟩ := hr
          omega
        · exact ⟨.inl rfl, .inl rfl, .inl rfl, rfl, rfl, .inl rfl, .inl rfl, .inl rfl, .inl rfl, .inl rfl, .inl rfl, .inl rfl, trivial⟩
    · conv => whnf
      repeat' ((first | contradiction | (refine And.intro (fun hb => ?_) (fun hb => ?_) <;> first | contradiction | ((try simp only [SB, reduceCtorEq] at hb); try (exfalso; first | contradiction | omega))) | refine G2 ?_ | rw [ints_at (by omega)] | rw [ints_at0 (by omega)] | rw [ints_at' (by omega) (by omega)] | refine G1 ?_ | fail) <;> conv => whnf)
      refine ⟨(p + 1, ms, rs), ⟨hI.next (by omega), hlt⟩, by dsimp only; omega, [some 0, some 1], rfl, rfl, And.intro ⟨rfl, rfl⟩ (And.intro ⟨rfl, rfl⟩ trivial), ?_⟩
      exact ⟨.inl rfl, .inl rfl, .inl rfl, rfl, rfl, .inl rfl, .inl rfl, .inl rfl, trivial⟩
  · obtain rfl : p = G.length := by omega
    conv => whnf
    repeat' ((first | contradiction | (refine And.intro (fun hb => ?_) (fun hb => ?_) <;> first | contradiction | ((try simp only [SB, reduceCtorEq] at hb); try (exfalso; first | contradiction | omega))) | refine G2 ?_ | rw [ints_at (by omega)] | rw [ints_at0 (by omega)] | rw [ints_at' (by omega) (by omega)] | refine G1 ?_ | fail) <;> conv => whnf)
    have hlv := hlv ms rs hI
    refine Lp.intro (α := Option MEnt × List MEnt) (fun c => (∀ e ∈ c.2, e ∈ rs) ∧ ∀ e ∈ rs, e ∈ c.2 ∨ ¬ ∀ b, all.testBit b = true → (mget ms e.1).toNat.testBit b = true) (fun c => c.2.length)
      (fun c => [(2, .int .i64 all), (9, .mp 0), (73, .ptr 1 0 0)]) (fun c => [some (.map false ms), some (.itr false c.1 c.2)]) ?_ ?_
    · refine ⟨(none, rs), ⟨fun e h => h, fun e h => .inl h⟩, [some 0, some 2], rfl, rfl, And.intro ⟨rfl, rfl⟩ (And.intro ⟨rfl, rfl, rfl⟩ trivial), ?_⟩
      exact ⟨.inl rfl, rfl, rfl, trivial⟩
    rintro ⟨cur, left⟩ ⟨h1, h2⟩
    dsimp only at h1 h2 ⊢
    refine vc2_sound hR _ _ _ _ _ ?_
    conv => whnf
    repeat' ((first | contradiction | (refine And.intro (fun hb => ?_) (fun hb => ?_) <;> first | contradiction | ((try simp only [SB, reduceCtorEq] at hb); try (exfalso; first | contradiction | omega))) | refine G2 ?_ | rw [ints_at (by omega)] | rw [ints_at0 (by omega)] | rw [ints_at' (by omega) (by omega)] | refine G1 ?_ | fail) <;> conv => whnf)
    · have hl : left = [] := by assumption
      subst hl
      refine ⟨.inl rfl, ?_⟩
      conv => whnf
      refine ⟨[], ⟨rfl, trivial⟩, ?_, rfl, rfl⟩
      conv => whnf
      left
      conv => lhs; whnf
      refine congrArg AV.bool (Eq.symm (Bool.eq_false_iff.2 fun ht => ?_))
      obtain ⟨r, g1, g2⟩ := hlv.1 (hbb.1 ht)
      unfold mhas at g1
      obtain ⟨e, he, hk⟩ := List.any_eq_true.1 g1
      have hk : e.1 = [Sc.i r] := by simpa using hk
      rcases h2 e he with h | h
      · cases h
      · exact h (by rw [hk]; exact g2)
    · revert hb
      intro pre e post hsp
      have hel : e ∈ left := by rw [hsp]; simp
      obtain ⟨r, hr⟩ := hI.shape e (h1 e hel)
      obtain ⟨k, v⟩ := e
      dsimp only at hr
      subst hr
      have hpos := hI.pos r
      conv => whnf
      repeat' ((first | contradiction | (refine And.intro (fun hb => ?_) (fun hb => ?_) <;> first | contradiction | ((try simp only [SB, reduceCtorEq] at hb); try (exfalso; first | contradiction | omega))) | refine G2 ?_ | rw [ints_at (by omega)] | rw [ints_at0 (by omega)] | rw [ints_at' (by omega) (by omega)] | refine G1 ?_ | refine ⟨_, _, RIsIn_eq (X := all) (Y := (mget ms [.i r]).toNat) (congrArg (fun z => [AV.int .i64 ((all : Nat) : Int), AV.int .i64 z]) (Int.toNat_of_nonneg hpos.1).symm) (by omega) (by omega), ?_⟩ | fail) <;> conv => whnf)
      · have hsub := sub_iff.1 (beq_iff_eq.2 hb)
        refine ⟨.inl rfl, ?_⟩
        conv => whnf
        refine ⟨[], ⟨rfl, trivial⟩, ?_, rfl, rfl⟩
        conv => whnf
        left
        conv => lhs; whnf
        refine congrArg AV.bool (Eq.symm (hbb.2 (hlv.2 ⟨r, ?_, hsub⟩)))
        unfold mhas
        rw [List.any_eq_true]
        exact ⟨_, h1 _ hel, by simp⟩
      · have hsub : ¬ ∀ b, all.testBit b = true → (mget ms [.i r]).toNat.testBit b = true := fun h => hb (beq_iff_eq.1 (sub_iff.2 h))
        refine ⟨(some ([.i r], v), pre ++ post), ⟨fun e he => h1 e ?_, fun e he => ?_⟩, ?_, [some 0, some 1], rfl, rfl, And.intro ⟨rfl, rfl⟩ (And.intro ⟨rfl, rfl, rfl⟩ trivial), ?_⟩
        · rw [hsp]
          rcases List.mem_append.1 he with he | he
          · exact List.mem_append_left _ he
          · exact List.mem_append_right _ (List.mem_cons_of_mem _ he)
        · rcases h2 e he with h | h
          · rw [hsp] at h
            rcases List.mem_append.1 h with h | h
            · exact .inl (List.mem_append_left _ h)
            · rcases List.mem_cons.1 h with rfl | h
              · exact .inr hsub
              · exact .inl (List.mem_append_right _ h)
          · exact .inr h
        · rw [hsp]; simp
        · exact ⟨.inl rfl, rfl, rfl, trivial⟩
def EA (a : AutoD) (p q : Nat) : Prop := ∃ e ∈ a.edges, e.src.toNat = p ∧ e.dst.toNat = q
theorem mem_at {a : AutoD} {e : EdgeD} (he : e ∈ a.edges) : ∃ i, i < a.edges.length ∧ a.edges.getD i default = e := by
  obtain ⟨i, hi, rfl⟩ := List.getElem_of_mem he
  exact ⟨i, hi, by rw [List.getD_eq_getElem?_getD, List.getElem?_eq_getElem hi]; rfl⟩
theorem ea_lt {a : AutoD} (h : AutoOk a) {p q : Nat} (ha : EA a p q) : p < a.states.toNat ∧ q < a.states.toNat := by
  obtain ⟨e, he, rfl, rfl⟩ := ha
  obtain ⟨i, hi, rfl⟩ := mem_at he
  have := edge_in h hi
  unfold EdgeIn at this
  omega
abbrev BitP (X : Nat) : Nat → Prop := fun i => X.testBit i = true
abbrev SubB (X Y : Nat) : Prop := ∀ p, BitP X p → BitP Y p
structure Rnd (a : AutoD) (S X Y i : Nat) : Prop where
  lt : Y < 2 ^ 31
  sub : SubB X Y
  rch : ∀ p, BitP Y p → Rch (EA a) (BitP S) p
  got : ∀ j, j < i → j < a.edges.length → BitP X (a.edges.getD j default).src.toNat → BitP Y (a.edges.getD j default).dst.toNat
  cls : (∀ p q, BitP X p → EA a p q → BitP X q) → Y = X
theorem Rnd.no {a : AutoD} {S X Y i : Nat} (h : Rnd a S X Y i) (hb : i < a.edges.length → Y.testBit (a.edges.getD i default).src.toNat = false) : Rnd a S X Y (i + 1) := by
  refine ⟨h.lt, h.sub, h.rch, fun j hj hjl hx => ?_, h.cls⟩
  by_cases hji : j = i
  · subst hji
    have := h.sub _ hx
    rw [show BitP Y (a.edges.getD j default).src.toNat ↔ Y.testBit (a.edges.getD j default).src.toNat = true from Iff.rfl, hb hjl] at this
    cases this
  · exact h.got j (by omega) hjl hx
theorem Rnd.yes {a : AutoD} (ha : AutoOk a) {S X Y i : Nat} (h : Rnd a S X Y i) (hi : i < a.edges.length) (hb : Y.testBit (a.edges.getD i default).src.toNat = true) : Rnd a S X (Y ||| 2 ^ (a.edges.getD i default).dst.toNat) (i + 1) := by
  have he : EA a (a.edges.getD i default).src.toNat (a.edges.getD i default).dst.toNat := ⟨_, getD_mem' hi, rfl, rfl⟩
  have hlt := ea_lt ha he
  have hs := ha.1.2.1
  refine ⟨ins_lt h.lt (by omega), fun p hp => testBit_ins.2 (.inl (h.sub p hp)), fun p hp => ?_, fun j hj hjl hx => ?_, fun hc => ?_⟩
  · rcases testBit_ins.1 hp with h1 | rfl
    · exact h.rch p h1
    · exact .step (h.rch _ hb) he
  · refine testBit_ins.2 ?_
    by_cases hji : j = i
    · subst hji; exact .inr rfl
    · exact .inl (h.got j (by omega) hjl hx)
  · have e := h.cls hc
    subst e
    refine bits_ext fun p => ⟨fun hp => ?_, fun hp => testBit_ins.2 (.inl hp)⟩
    rcases testBit_ins.1 hp with h1 | rfl
    · exact h1
    · exact hc _ _ hb he
theorem Rnd.closed {a : AutoD} {S X i : Nat} (h : Rnd a S X X i) (hi : a.edges.length ≤ i) : ∀ p q, BitP X p → EA a p q → BitP X q := by
  rintro p q hp ⟨e, he, rfl, rfl⟩
  obtain ⟨j, hj, rfl⟩ := mem_at he
  exact h.got j (by omega) hj hp
theorem pow_le31 {n : Nat} (h : n ≤ 31) : 2 ^ n ≤ 2 ^ 31 := Nat.pow_le_pow_right (by decide) h
def c_impl_SetList : ICode := (.seq (.reg [Ol 2 .mv [.c .snil]]) (.seq (.seq (.reg [O1 5 .mv 0, O1 6 (.call 119) 5, O1 7 .not 6]) (.cond (.t 7) (.seq (.reg [Ol 2 .mv [.c .snil]]) .ret) .skip)) (.seq (.reg [Ol 3 .mv [.c .snil]]) (.seq (.seq (.reg [Ol 8 .mv [ci 0]]) (.block 0 (.loop (.seq (.reg [Ol 9 (.bin .lss) [.t 8, ci 31]]) (.seq (.cond (.t 9) .skip (.exit 0)) (.seq (.block 1 (.seq (.reg [O1 10 .mv 8, O1 4 .mv 10]) (.seq (.reg [O1 11 .mv 0, O1 12 .mv 4, O2 13 (.call 125) 11 12]) (.cond (.t 13) (.reg [O1 14 .mv 3, O1 15 .mv 4, O1 16 (.bslv 1) 15, O2 17 (.app 1 8) 14 16, O1 3 .mv 17]) .skip)))) (.reg [Ol 18 (.bin .add) [.t 8, ci 1], O1 8 .mv 18]))))))) (.seq (.reg [O1 19 .mv 3, O1 2 .mv 19]) .ret)))))
theorem b_impl_SetList : Body Try.prog 80 20 c_impl_SetList [(.t 2)] := body_mk Try.func80 (by kernel_rfl) (by decide)
def stepI (a : AutoD) (X : Nat) (x : Int) : Nat → Nat
  | 0 => 0
  | i + 1 => if (a.edges.getD i default).letter = x ∧ X.testBit (a.edges.getD i default).src.toNat = true then stepI a X x i ||| 2 ^ (a.edges.getD i default).dst.toNat else stepI a X x i
def stepU (a : AutoD) (X : Nat) (x : Int) : Nat := stepI a X x a.edges.length
theorem bit_stepI {a : AutoD} {X q : Nat} {x : Int} : ∀ {i : Nat}, (stepI a X x i).testBit q = true ↔ ∃ j, j < i ∧ (a.edges.getD j default).letter = x ∧ X.testBit (a.edges.getD j default).src.toNat = true ∧ (a.edges.getD j default).dst.toNat = q
  | 0 => by simp [stepI]
  | i + 1 => by
    unfold stepI
    split
    · rename_i h
      rw [testBit_ins, bit_stepI (i := i)]
      constructor
      · rintro (⟨j, h1, h2⟩ | rfl)
        · exact ⟨j, by omega, h2⟩
        · exact ⟨i, by omega, h.1, h.2, rfl⟩
      · rintro ⟨j, h1, h2, h3, h4⟩
        by_cases hj : j = i
        · subst hj; exact .inr h4.symm
        · exact .inl ⟨j, by omega, h2, h3, h4⟩
    · rename_i h
      rw [bit_stepI (i := i)]
      constructor
      · rintro ⟨j, h1, h2⟩; exact ⟨j, by omega, h2⟩
      · rintro ⟨j, h1, h2, h3, h4⟩
        by_cases hj : j = i
        · subst hj; exact absurd ⟨h2, h3⟩ h
        · exact ⟨j, by omega, h2, h3, h4⟩
/-! ### those that are so near -/
/-! ### the members of a set, as a list -/
def RSetList (xs : List AV) (r : AV) (objs : List AObj) : Prop := ∃ X : Nat, xs = [.int .i64 ((X : Nat) : Int)] ∧ X < 2 ^ 31 ∧ r = .ref 0 0 (bitL X 31).length ∧ objs = [.arr 1 (ints (natsI (bitL X 31)))]
theorem bitL_yes {X i : Nat} (h : X.testBit i = true) : bitL X (i + 1) = bitL X i ++ [i] := by rw [bitL_succ, if_pos h]
theorem bitL_no {X i : Nat} (h : X.testBit i = false) : bitL X (i + 1) = bitL X i := by rw [bitL_succ, if_neg (by rw [h]; decide), List.append_nil]
theorem s_impl_SetList : PureSound Try.prog 80 RSetList := by
  have hR : Rely Try.prog (ctxOf [(125, .pure RHas), (119, .pure RSetOk)]) := rely_cons b_impl_has.has s_impl_has (rely_cons b_impl_SetOk.has s_impl_SetOk (rely_nil mixed))
  refine pure_of_aw b_impl_SetList ?_
  rintro xs r objs ⟨X, rfl, hX, rfl, rfl⟩ -
  refine ⟨by simp, vc2_sound hR _ _ _ _ _ ?_⟩
  conv => whnf
  repeat' ((first | contradiction | (refine And.intro (fun hb => ?_) (fun hb => ?_) <;> first | contradiction | ((try simp only [SB, reduceCtorEq] at hb); try (exfalso; first | contradiction | omega))) | refine G2 ?_ | rw [ints_at (by omega)] | rw [ints_at0 (by omega)] | rw [ints_at' (by omega) (by omega)] | refine G1 ?_ | refine ⟨_, _, RSetOk_mk, ?_⟩ | fail) <;> conv => whnf)
  refine Lp.intro (α := Nat) (fun i => i ≤ 31) (fun i => 31 - i) (fun i => [(0, .int .i64 X), (3, .ref 0 0 (bitL X i).length), (8, .int .i64 i)]) (fun i => [some (.arr 1 (ints (natsI (bitL X i))))]) ?_ ?_
  · refine ⟨0, by omega, [none], rfl, rfl, And.intro rfl trivial, ?_⟩
    exact ⟨.inl rfl, ⟨rfl, rfl, rfl⟩, .inl rfl, trivial⟩
  intro i hi
  have hn := bitL_len (X := X) (n := i)
  have hqi := (length_ints (natsI (bitL X i))).trans (length_natsI _)
  refine vc2_sound hR _ _ _ _ _ ?_
  by_cases hlt : i < 31
  · conv => whnf
    repeat' ((first | contradiction | (refine And.intro (fun hb => ?_) (fun hb => ?_) <;> first | contradiction | ((try simp only [SB, reduceCtorEq] at hb); try (exfalso; first | contradiction | omega))) | refine G2 ?_ | rw [ints_at (by omega)] | rw [ints_at0 (by omega)] | rw [ints_at' (by omega) (by omega)] | refine G1 ?_ | refine ⟨_, _, RHas_mk hX (by omega) (by omega), ?_⟩ | fail) <;> conv => whnf)
    · refine ⟨i + 1, by omega, by omega, [some 1], rfl, rfl, And.intro (And.intro rfl ?_) trivial, ?_⟩
      · rw [bitL_yes (by assumption)]; exact natsI_app rfl
      · exact ⟨.inl rfl, congrArg (AV.ref 1 0) (by rw [bitL_yes (by assumption)]; simp), .inl rfl, trivial⟩
    · have e := bitL_no (X := X) (i := i) (by assumption)
      refine ⟨i + 1, by omega, by omega, [some 0], rfl, rfl, And.intro (And.intro rfl ?_) trivial, ?_⟩
      · rw [e]
      · exact ⟨.inl rfl, congrArg (AV.ref 0 0) (by rw [e]), .inl rfl, trivial⟩
  · obtain rfl : i = 31 := by omega
    conv => whnf
    repeat' ((first | contradiction | (refine And.intro (fun hb => ?_) (fun hb => ?_) <;> first | contradiction | ((try simp only [SB, reduceCtorEq] at hb); try (exfalso; first | contradiction | omega))) | refine G2 ?_ | rw [ints_at (by omega)] | rw [ints_at0 (by omega)] | rw [ints_at' (by omega) (by omega)] | refine G1 ?_ | fail) <;> conv => whnf)
    refine ⟨.inl rfl, ?_⟩
    conv => whnf
    exact ⟨[some 0], ⟨rfl, And.intro (And.intro rfl rfl) trivial⟩, rfl, rfl, by simp [AObj.nov, ints_nov]⟩
/-! ### the nearest of a set -/
end Go.Proofs.Ythanhknkoikbfaa.Ct
