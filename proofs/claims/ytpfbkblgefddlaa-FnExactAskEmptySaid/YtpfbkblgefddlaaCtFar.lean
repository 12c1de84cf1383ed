/- How far points are: the program's search. -/
import Derived.Test.YtpfbkblgefddlaaCtGraph2
namespace Go.Proofs.Ytpfbkblgefddlaa.Ct
set_option linter.unusedSimpArgs false
set_option linter.unusedVariables false
open Go Go.Proofs Go.Proofs.Ytpfbkblgefddlaa.Av Go.Proofs.Ytpfbkblgefddlaa.Pl

def c_impl_graph_far : ICode := (.seq (.reg [⟨(some 4), .mv, [(.c .snil)], none⟩]) (.seq (.reg [⟨(some 14), .mv, [(.t 0)], none⟩, ⟨(some 15), .nck, [(.t 14)], none⟩, ⟨(some 16), (.fadr 0), [(.t 15)], none⟩, ⟨(some 17), .ld1, [(.t 16)], none⟩, ⟨(some 18), .len, [(.t 17)], none⟩, ⟨(some 19), (.mks 1 8 [(.int .i64 0)]), [(.t 18), (.t 18)], none⟩, ⟨(some 5), .mv, [(.t 19)], none⟩]) (.seq (.seq (.reg [⟨(some 20), .mv, [(.t 5)], none⟩, ⟨(some 21), .len, [(.t 20)], none⟩, ⟨(some 22), .mv, [(.c (.int .i64 0))], none⟩]) (.block 0 (.loop (.seq (.reg [⟨(some 23), (.bin .lss), [(.t 22), (.t 21)], none⟩]) (.seq (.cond (.t 23) .skip (.exit 0)) (.seq (.block 1 (.seq (.reg [⟨(some 24), .mv, [(.t 22)], none⟩, ⟨(some 6), .mv, [(.t 24)], none⟩]) (.reg [⟨(some 25), .mv, [(.t 5)], none⟩, ⟨(some 26), .mv, [(.t 6)], none⟩, ⟨(some 27), (.iadr 1), [(.t 25), (.t 26)], none⟩, ⟨none, (.st 1), [(.t 27), (.c (.int .i64 (-1)))], none⟩]))) (.reg [⟨(some 28), (.bin .add), [(.t 22), (.c (.int .i64 1))], none⟩, ⟨(some 22), .mv, [(.t 28)], none⟩]))))))) (.seq (.reg [⟨(some 7), .mv, [(.c .snil)], none⟩]) (.seq (.seq (.reg [⟨(some 29), .mv, [(.t 1)], none⟩, ⟨(some 30), .len, [(.t 29)], none⟩, ⟨(some 31), .mv, [(.c (.int .i64 0))], none⟩]) (.block 2 (.loop (.seq (.reg [⟨(some 32), (.bin .lss), [(.t 31), (.t 30)], none⟩]) (.seq (.cond (.t 32) .skip (.exit 2)) (.seq (.block 3 (.seq (.reg [⟨(some 33), (.iadr 1), [(.t 29), (.t 31)], none⟩, ⟨(some 34), .ld1, [(.t 33)], none⟩, ⟨(some 9), .mv, [(.t 34)], none⟩]) (.seq (.reg [⟨(some 35), .mv, [(.t 5)], none⟩, ⟨(some 36), .mv, [(.t 9)], none⟩, ⟨(some 37), (.iadr 1), [(.t 35), (.t 36)], none⟩, ⟨(some 38), .ld1, [(.t 37)], none⟩, ⟨(some 39), (.bin .lss), [(.t 38), (.c (.int .i64 0))], none⟩]) (.cond (.t 39) (.seq (.reg [⟨(some 40), .mv, [(.t 5)], none⟩, ⟨(some 41), .mv, [(.t 9)], none⟩, ⟨(some 42), (.iadr 1), [(.t 40), (.t 41)], none⟩, ⟨none, (.st 1), [(.t 42), (.c (.int .i64 0))], none⟩]) (.reg [⟨(some 43), .mv, [(.t 7)], none⟩, ⟨(some 44), .mv, [(.t 9)], none⟩, ⟨(some 45), (.bslv 1), [(.t 44)], none⟩, ⟨(some 46), (.app 1 8), [(.t 43), (.t 45)], none⟩, ⟨(some 7), .mv, [(.t 46)], none⟩])) .skip)))) (.reg [⟨(some 47), (.bin .add), [(.t 31), (.c (.int .i64 1))], none⟩, ⟨(some 31), .mv, [(.t 47)], none⟩]))))))) (.seq (.seq (.reg [⟨(some 10), .mv, [(.c (.int .i64 0))], none⟩]) (.block 4 (.loop (.seq (.seq (.reg [⟨(some 48), .mv, [(.t 10)], none⟩, ⟨(some 49), .mv, [(.t 7)], none⟩, ⟨(some 50), .len, [(.t 49)], none⟩, ⟨(some 51), (.bin .lss), [(.t 48), (.t 50)], none⟩]) (.cond (.t 51) .skip (.exit 4))) (.seq (.block 5 (.seq (.reg [⟨(some 54), .mv, [(.t 7)], none⟩, ⟨(some 55), .mv, [(.t 10)], none⟩, ⟨(some 56), (.iadr 1), [(.t 54), (.t 55)], none⟩, ⟨(some 57), .ld1, [(.t 56)], none⟩, ⟨(some 11), .mv, [(.t 57)], none⟩]) (.seq (.reg [⟨(some 58), .mv, [(.t 0)], none⟩, ⟨(some 59), .nck, [(.t 58)], none⟩, ⟨(some 60), (.fadr 0), [(.t 59)], none⟩, ⟨(some 61), .ld1, [(.t 60)], none⟩, ⟨(some 62), .mv, [(.t 11)], none⟩, ⟨(some 63), (.iadr 1), [(.t 61), (.t 62)], none⟩, ⟨(some 64), .ld1, [(.t 63)], none⟩, ⟨(some 65), .len, [(.t 64)], none⟩, ⟨(some 66), .mv, [(.c (.int .i64 0))], none⟩]) (.block 6 (.loop (.seq (.reg [⟨(some 67), (.bin .lss), [(.t 66), (.t 65)], none⟩]) (.seq (.cond (.t 67) .skip (.exit 6)) (.seq (.block 7 (.seq (.reg [⟨(some 68), (.iadr 2), [(.t 64), (.t 66)], none⟩, ⟨(some 69), (.ldn 2), [(.t 68)], none⟩, ⟨(some 13), (.alc [(.int .i64 0), (.int .i64 0)]), [], none⟩, ⟨none, (.st 2), [(.t 13), (.t 69)], none⟩]) (.seq (.reg [⟨(some 70), .mv, [(.t 5)], none⟩, ⟨(some 71), (.fadr 0), [(.t 13)], none⟩, ⟨(some 72), .ld1, [(.t 71)], none⟩, ⟨(some 73), (.iadr 1), [(.t 70), (.t 72)], none⟩, ⟨(some 74), .ld1, [(.t 73)], none⟩, ⟨(some 75), (.bin .lss), [(.t 74), (.c (.int .i64 0))], none⟩]) (.cond (.t 75) (.seq (.drw [⟨(some 76), .mv, [(.t 5)], none⟩, ⟨(some 77), (.fadr 0), [(.t 13)], none⟩, ⟨(some 78), .ld1, [(.t 77)], none⟩, ⟨(some 79), .mv, [(.t 5)], none⟩, ⟨(some 80), .mv, [(.t 11)], none⟩, ⟨(some 81), (.iadr 1), [(.t 79), (.t 80)], none⟩, ⟨(some 82), .ld1, [(.t 81)], none⟩, ⟨(some 83), (.bin .add), [(.t 82), (.c (.int .i64 1))], none⟩, ⟨(some 84), (.iadr 1), [(.t 76), (.t 78)], none⟩, ⟨none, (.st 1), [(.t 84), (.t 83)], none⟩] [[], [], [1], [], [], [3, 4], [3, 4, 5], [3, 4, 5, 6], [0, 1, 2, 3, 4, 5, 6, 7], [0, 1, 2, 3, 4, 5, 6, 7, 8]] true true) (.reg [⟨(some 85), .mv, [(.t 7)], none⟩, ⟨(some 86), (.fadr 0), [(.t 13)], none⟩, ⟨(some 87), .ld1, [(.t 86)], none⟩, ⟨(some 88), (.bslv 1), [(.t 87)], none⟩, ⟨(some 89), (.app 1 8), [(.t 85), (.t 88)], none⟩, ⟨(some 7), .mv, [(.t 89)], none⟩])) .skip)))) (.reg [⟨(some 90), (.bin .add), [(.t 66), (.c (.int .i64 1))], none⟩, ⟨(some 66), .mv, [(.t 90)], none⟩]))))))))) (.reg [⟨(some 52), .mv, [(.t 10)], none⟩, ⟨(some 53), (.bin .add), [(.t 52), (.c (.int .i64 1))], none⟩, ⟨(some 10), .mv, [(.t 53)], none⟩])))))) (.seq (.reg [⟨(some 91), .mv, [(.t 5)], none⟩, ⟨(some 4), .mv, [(.t 91)], none⟩]) .ret)))))))
theorem b_impl_graph_far : Body Try.prog 164 92 c_impl_graph_far [(.t 4)] := body_mk Try.func164 (by kernel_rfl) (by decide)


def natsI (l : List Nat) : List Int := l.map fun n : Nat => (n : Int)
@[simp] theorem length_natsI (l : List Nat) : (natsI l).length = l.length := by simp [natsI]
theorem natsI_at {l : List Nat} {i : Nat} (h : i < l.length) : (ints (natsI l))[((i : Nat) : Int).toNat]? = some [.int .i64 ((l.getD i 0 : Nat) : Int)] := by
  simp [ints, natsI, List.getElem?_map, List.getElem?_eq_getElem h, List.getD_eq_getElem?_getD]
theorem natsI_at0 {l : List Nat} {i : Nat} (h : i < l.length) : (ints (natsI l))[0 + ((i : Nat) : Int).toNat]? = some [.int .i64 ((l.getD i 0 : Nat) : Int)] := by
  rw [Nat.zero_add]; exact natsI_at h
theorem natsI_app {l : List Nat} {p : Nat} {k : Nat} (hk : k = l.length) : List.take k (ints (natsI l)) ++ [[.int .i64 ((p : Nat) : Int)]] = ints (natsI (l ++ [p])) := by
  subst hk
  rw [List.take_of_length_le (by simp [ints])]
  simp [ints, natsI]
theorem ints_set {d : List Int} {p : Nat} {v : Int} : (ints d).set (0 + ((p : Nat) : Int).toNat) [.int .i64 v] = ints (d.set p v) := by
  simp [ints, List.map_set]
theorem neg_set {n i : Nat} (h : i < n) : (ints (List.replicate i (-1) ++ List.replicate (n - i) 0)).set (0 + ((i : Nat) : Int).toNat) [.int .i64 (-1)] = ints (List.replicate (i + 1) (-1) ++ List.replicate (n - (i + 1)) 0) := by
  rw [ints_set]
  congr 1
  obtain ⟨m, hm⟩ : ∃ m, n - i = m + 1 := ⟨n - i - 1, by omega⟩
  rw [List.set_append_right _ _ (by simp), List.length_replicate, Nat.sub_self, hm, List.replicate_succ, List.set_cons_zero, show n - (i + 1) = m by omega, List.replicate_succ']
  simp
theorem neg_at {n i : Nat} (h : i < n) : (ints (List.replicate i (-1) ++ List.replicate (n - i) 0))[0 + ((i : Nat) : Int).toNat]? = some [.int .i64 0] := by
  unfold ints
  rw [Nat.zero_add, Int.toNat_natCast, List.map_append, List.getElem?_append_right (by simp)]
  simp [List.getElem?_replicate]
  omega
theorem ints_rep {n : Nat} {z : Int} : List.replicate n [AV.int .i64 z] = ints (List.replicate n z) := by simp [ints]

def RFar (xs : List AV) (r : AV) (objs : List AObj) : Prop := ∃ G src, xs = [.rptr [.val (gRows G)] 0, .val (ints (natsI src))] ∧ GOk G ∧ G.length ≤ 100000 ∧ steps G ≤ 1000000000 ∧ (∀ p ∈ src, p < G.length) ∧ src.length ≤ 100000 ∧
  r = .ref 0 0 G.length ∧ objs = [.arr 1 (ints (farL (Adj G) (· ∈ src) G.length))]
theorem RFar_eq {xs : List AV} {G : GraphD} {src : List Nat} (hx : xs = [.rptr [.val (gRows G)] 0, .val (ints (natsI src))]) (h : GOk G) (h1 : G.length ≤ 100000) (h4 : steps G ≤ 1000000000) (h2 : ∀ p ∈ src, p < G.length) (h3 : src.length ≤ 100000) :
    RFar xs (.ref 0 0 G.length) [.arr 1 (ints (farL (Adj G) (· ∈ src) G.length))] := ⟨G, src, hx, h, h1, h4, h2, h3, rfl, rfl⟩

set_option maxHeartbeats 8000000 in
theorem s_impl_far : PureSound Try.prog 164 RFar := by
  have hR : Rely Try.prog (ctxOf []) := rely_nil mixed
  refine pure_of_aw b_impl_graph_far ?_
  rintro xs r objs ⟨G, src, rfl, hG, hn, hst, hsrc, hsl, rfl, rfl⟩ -
  have hle := length_gRows G
  have hA : ∀ p r, p < G.length → Adj G p r → r < G.length := fun p r _ ha => (adj_lt hG ha).2
  have hAS : ∀ p, p ∈ src → p < G.length := hsrc
  refine ⟨by simp, vc2_sound hR _ _ _ _ _ ?_⟩
  conv => whnf
  repeat' ((first
    | contradiction
    | (refine And.intro (fun hb => ?_) (fun hb => ?_) <;> first | contradiction | ((try simp only [SB, reduceCtorEq] at hb); try (exfalso; first | contradiction | omega)))
    | refine And.intro rfl ?_
    | refine ⟨_, IntWalk.i64_in _ (by omega), ?_⟩
    | rw [ints_at (by omega)]
    | rw [ints_at0 (by omega)]
    | rw [ints_at' (by omega) (by omega)]
    | refine And.intro (lens_all rfl) ?_
    | refine And.intro (show _ ≤ _ ∧ (_ + 1) * _ ≤ _ ∧ _ + 1 ≤ _ by first | omega | (simp; omega)) ?_
    | refine And.intro (show 1 * _ ≤ _ ∧ 1 ≤ _ by omega) ?_
    | refine And.intro (by first | omega | (simp; omega) | (show _ ∧ _; simp; done)) ?_
    | rw [hle]
    | fail) <;> conv => whnf)
  -- all are untold
  refine Lp.intro (α := Nat) (fun i => i ≤ G.length) (fun i => G.length - i) (fun i => [(0, .rptr [.val (gRows G)] 0), (1, .val (ints (natsI src))), (5, .ref 0 0 G.length), (21, .int .i64 G.length), (22, .int .i64 i)]) (fun i => [some (.arr 1 (ints (List.replicate i (-1) ++ List.replicate (G.length - i) 0)))]) ?_ ?_
  · refine ⟨0, by omega, [some 0], rfl, rfl, And.intro (And.intro rfl ?_) trivial, ?_⟩
    · simp [ints]
    · repeat' (first
        | exact trivial
        | refine ⟨?_, ?_⟩
        | fail)
      all_goals first
        | with_reducible rfl
        | (conv => whnf
           try left
           conv => lhs; whnf
           first
             | rfl
             | exact congrArg (AV.int .i64) (by omega)
             | skip)
  intro i hi
  refine vc2_sound hR _ _ _ _ _ ?_
  by_cases hlt : i < G.length
  · conv => whnf
    repeat' ((first
      | contradiction
      | (refine And.intro (fun hb => ?_) (fun hb => ?_) <;> first | contradiction | ((try simp only [SB, reduceCtorEq] at hb); try (exfalso; first | contradiction | omega)))
      | refine And.intro rfl ?_
      | refine ⟨_, IntWalk.i64_in _ (by omega), ?_⟩
      | rw [ints_at (by omega)]
      | rw [ints_at0 (by omega)]
      | rw [ints_at' (by omega) (by omega)]
      | refine And.intro (lens_all rfl) ?_
      | refine And.intro (show _ ≤ _ ∧ (_ + 1) * _ ≤ _ ∧ _ + 1 ≤ _ by first | omega | (simp; omega)) ?_
      | refine And.intro (show 1 * _ ≤ _ ∧ 1 ≤ _ by omega) ?_
      | refine And.intro (by first | omega | (simp; omega) | (show _ ∧ _; simp; done)) ?_
      | rw [neg_at hlt]
      | fail) <;> conv => whnf)
    refine ⟨i + 1, by omega, by omega, [some 0], rfl, rfl, And.intro (And.intro rfl (neg_set hlt)) trivial, ?_⟩
    repeat' (first
      | exact trivial
      | refine ⟨?_, ?_⟩
      | fail)
    all_goals first
      | with_reducible rfl
      | (conv => whnf
         try left
         conv => lhs; whnf
         first
           | rfl
           | exact congrArg (AV.int .i64) (by omega)
           | skip)
  obtain rfl : i = G.length := by omega
  clear hi hlt
  conv => whnf
  repeat' ((first
    | contradiction
    | (refine And.intro (fun hb => ?_) (fun hb => ?_) <;> first | contradiction | ((try simp only [SB, reduceCtorEq] at hb); try (exfalso; first | contradiction | omega)))
    | refine And.intro rfl ?_
    | refine ⟨_, IntWalk.i64_in _ (by omega), ?_⟩
    | rw [ints_at (by omega)]
    | rw [ints_at0 (by omega)]
    | rw [ints_at' (by omega) (by omega)]
    | refine And.intro (lens_all rfl) ?_
    | refine And.intro (show _ ≤ _ ∧ (_ + 1) * _ ≤ _ ∧ _ + 1 ≤ _ by first | omega | (simp; omega)) ?_
    | refine And.intro (show 1 * _ ≤ _ ∧ 1 ≤ _ by omega) ?_
    | refine And.intro (by first | omega | (simp; omega) | (show _ ∧ _; simp; done)) ?_
    | rw [length_ints, length_natsI]
    | fail) <;> conv => whnf)
  -- the beginning
  refine Lp.intro (α := List Int × List Nat × Nat) (fun a => Ini G.length src a.1 a.2.1 a.2.2 ∧ a.2.2 ≤ src.length) (fun a => src.length - a.2.2)
    (fun a => [(0, .rptr [.val (gRows G)] 0), (5, .ref 0 0 G.length), (7, .ref 1 0 a.2.1.length), (29, .val (ints (natsI src))), (30, .int .i64 src.length), (31, .int .i64 a.2.2)]) (fun a => [some (.arr 1 (ints a.1)), some (.arr 1 (ints (natsI a.2.1)))]) ?_ ?_
  · refine ⟨(List.replicate G.length (-1), [], 0), ⟨ini_start _ _, Nat.zero_le _⟩, [some 0, none], rfl, rfl, And.intro (And.intro rfl ?_) (And.intro rfl trivial), ?_⟩
    · simp
    · refine ⟨.inl rfl, rfl, ⟨rfl, rfl, rfl⟩, .inl rfl, .inl rfl, .inl rfl, trivial⟩
  rintro ⟨d, q, i⟩ ⟨hI, hi⟩
  dsimp only at hI hi ⊢
  have hdl := hI.len
  have hql := hI.num
  have hdi := length_ints d
  have hqi := (length_ints (natsI q)).trans (length_natsI q)
  refine vc2_sound hR _ _ _ _ _ ?_
  by_cases hlt : i < src.length
  · have hp : src.getD i 0 < G.length := hsrc _ (by rw [List.getD_eq_getElem?_getD, List.getElem?_eq_getElem hlt]; exact List.getElem_mem hlt)
    conv => whnf
    repeat' ((first
      | contradiction
      | (refine And.intro (fun hb => ?_) (fun hb => ?_) <;> first | contradiction | ((try simp only [SB, reduceCtorEq] at hb); try (exfalso; first | contradiction | omega)))
      | refine And.intro rfl ?_
      | refine ⟨_, IntWalk.i64_in _ (by omega), ?_⟩
      | rw [ints_at (by omega)]
      | rw [ints_at0 (by omega)]
      | rw [ints_at' (by omega) (by omega)]
      | refine And.intro (lens_all rfl) ?_
      | refine And.intro (show _ ≤ _ ∧ (_ + 1) * _ ≤ _ ∧ _ + 1 ≤ _ by first | omega | (simp; omega)) ?_
      | refine And.intro (show 1 * _ ≤ _ ∧ 1 ≤ _ by omega) ?_
      | refine And.intro (by first | omega | (simp; omega) | (show _ ∧ _; simp; done)) ?_
      | rw [natsI_at hlt]
      | rw [ints_at0 (by omega)]
      | fail) <;> conv => whnf)
    · refine ⟨(d.set (src.getD i 0) 0, q ++ [src.getD i 0], i + 1), ⟨hI.put hlt rfl hp hb, hlt⟩, by dsimp only; omega, [some 0, some 2], rfl, rfl, And.intro (And.intro rfl ints_set) (And.intro (And.intro rfl (natsI_app rfl)) trivial), ?_⟩
      exact ⟨.inl rfl, rfl, congrArg (AV.ref 2 0) (by simp), .inl rfl, .inl rfl, .inl rfl, trivial⟩
    · refine ⟨(d, q, i + 1), ⟨hI.skip (fun _ => by omega), hlt⟩, by dsimp only; omega, [some 0, some 1], rfl, rfl, And.intro (And.intro rfl rfl) (And.intro (And.intro rfl rfl) trivial), ?_⟩
      exact ⟨.inl rfl, rfl, rfl, .inl rfl, .inl rfl, .inl rfl, trivial⟩
  have hB := hI.bfs (A := Adj G) (by omega)
  conv => whnf
  repeat' ((first
    | contradiction
    | (refine And.intro (fun hb => ?_) (fun hb => ?_) <;> first | contradiction | ((try simp only [SB, reduceCtorEq] at hb); try (exfalso; first | contradiction | omega)))
    | refine And.intro rfl ?_
    | refine ⟨_, IntWalk.i64_in _ (by omega), ?_⟩
    | rw [ints_at (by omega)]
    | rw [ints_at0 (by omega)]
    | rw [ints_at' (by omega) (by omega)]
    | refine And.intro (lens_all rfl) ?_
    | refine And.intro (show _ ≤ _ ∧ (_ + 1) * _ ≤ _ ∧ _ + 1 ≤ _ by first | omega | (simp; omega)) ?_
    | refine And.intro (show 1 * _ ≤ _ ∧ 1 ≤ _ by omega) ?_
    | refine And.intro (by first | omega | (simp; omega) | (show _ ∧ _; simp; done)) ?_
    | fail) <;> conv => whnf)
  clear hI hlt hi hql hdl hdi hqi
  -- the search
  refine Lp.intro (α := List Int × List Nat × Nat) (fun a => Bfs (Adj G) (· ∈ src) G.length a.1 a.2.1 a.2.2 (fun _ => False) ∧ a.2.2 ≤ a.2.1.length) (fun a => G.length - a.2.2)
    (fun a => [(0, .rptr [.val (gRows G)] 0), (5, .ref 0 0 G.length), (7, .ref 1 0 a.2.1.length), (10, .int .i64 a.2.2)]) (fun a => [some (.arr 1 (ints a.1)), some (.arr 1 (ints (natsI a.2.1)))]) ?_ ?_
  · refine ⟨(d, q, 0), ⟨hB, Nat.zero_le _⟩, [some 0, some 1], rfl, rfl, And.intro (And.intro rfl rfl) (And.intro (And.intro rfl rfl) trivial), ?_⟩
    exact ⟨.inl rfl, rfl, rfl, .inl rfl, trivial⟩
  clear hB hb d q i
  rintro ⟨d, q, i⟩ ⟨hB, hi⟩
  dsimp only at hB hi ⊢
  have hdl := hB.len
  have hql := hB.num
  have hdi := length_ints d
  have hqi := (length_ints (natsI q)).trans (length_natsI q)
  refine vc2_sound hR _ _ _ _ _ ?_
  by_cases hlt : i < q.length
  · have hp := hB.lt i hlt
    have hsl := length_stepRows (G.getD (q.getD i 0) [])
    have hLb := steps_le hp.1
    conv => whnf
    repeat' ((first
      | contradiction
      | (refine And.intro (fun hb => ?_) (fun hb => ?_) <;> first | contradiction | ((try simp only [SB, reduceCtorEq] at hb); try (exfalso; first | contradiction | omega)))
      | refine And.intro rfl ?_
      | refine ⟨_, IntWalk.i64_in _ (by omega), ?_⟩
      | rw [ints_at (by omega)]
      | rw [ints_at0 (by omega)]
      | rw [ints_at' (by omega) (by omega)]
      | refine And.intro (lens_all rfl) ?_
      | refine And.intro (show _ ≤ _ ∧ (_ + 1) * _ ≤ _ ∧ _ + 1 ≤ _ by first | omega | (simp; omega)) ?_
      | refine And.intro (show 1 * _ ≤ _ ∧ 1 ≤ _ by omega) ?_
      | refine And.intro (by first | omega | (simp; omega) | (show _ ∧ _; simp; done)) ?_
      | rw [natsI_at0 hlt]
      | rw [gRows_at (by omega)]
      | fail) <;> conv => whnf)
    -- the steps of one
    refine Lp.intro (α := List Int × List Nat × Nat) (fun a => Bfs (Adj G) (· ∈ src) G.length a.1 a.2.1 i (fun r => ∃ j, j < a.2.2 ∧ ((G.getD (q.getD i 0) []).getD j default).1 = r) ∧ i < a.2.1.length ∧ a.2.1.getD i 0 = q.getD i 0 ∧ a.2.2 ≤ (G.getD (q.getD i 0) []).length) (fun a => (G.getD (q.getD i 0) []).length - a.2.2)
      (fun a => [(0, .rptr [.val (gRows G)] 0), (5, .ref 0 0 G.length), (7, .ref 1 0 a.2.1.length), (10, .int .i64 i), (11, .int .i64 ((q.getD i 0 : Nat) : Int)), (64, .val (stepRows (G.getD (q.getD i 0) []))), (65, .int .i64 (G.getD (q.getD i 0) []).length), (66, .int .i64 a.2.2)]) (fun a => [some (.arr 1 (ints a.1)), some (.arr 1 (ints (natsI a.2.1)))]) ?_ ?_
    · refine ⟨(d, q, 0), ⟨hB.see (fun r _ _ _ hr => by obtain ⟨j, hj, _⟩ := hr; dsimp only at hj; omega), hlt, rfl, Nat.zero_le _⟩, [some 0, some 1], rfl, rfl, And.intro (And.intro rfl rfl) (And.intro (And.intro rfl rfl) trivial), ?_⟩
      exact ⟨.inl rfl, rfl, rfl, .inl rfl, .inl rfl, .inl rfl, .inl (congrArg (fun x : Nat => AV.int .i64 x) hsl), .inl rfl, trivial⟩
    generalize hpp : q.getD i 0 = p at *
    generalize hL : G.getD p [] = L at *
    clear hB hdl hql hdi hqi
    rintro ⟨d', q', j⟩ ⟨hC, hi', hqp, hj⟩
    dsimp only at hC hi' hqp hj ⊢
    have hdl := hC.len
    have hql := hC.num
    have hdi := length_ints d'
    have hd0 := (hC.lt i hi').2
    have hqi := (length_ints (natsI q')).trans (length_natsI q')
    have hbnd := hC.bnd i hi'
    rw [hqp] at hbnd hd0
    refine vc2_sound hR _ _ _ _ _ ?_
    by_cases hjl : j < L.length
    · have hs : (L.getD j default).1 < G.length := hG p _ (by rw [hL]; exact getD_mem' hjl)
      have hadj : Adj G (q'.getD i 0) (L.getD j default).1 := by
        rw [hqp]
        exact ⟨(L.getD j default).2, by rw [hL]; exact getD_mem' hjl⟩
      conv => whnf
      repeat' ((first
        | contradiction
        | (refine And.intro (fun hb => ?_) (fun hb => ?_) <;> first | contradiction | ((try simp only [SB, reduceCtorEq] at hb); try (exfalso; first | contradiction | omega)))
        | refine And.intro rfl ?_
        | refine ⟨_, IntWalk.i64_in _ (by omega), ?_⟩
        | rw [ints_at (by omega)]
        | rw [ints_at0 (by omega)]
        | rw [ints_at' (by omega) (by omega)]
        | refine And.intro (lens_all rfl) ?_
        | refine And.intro (show _ ≤ _ ∧ (_ + 1) * _ ≤ _ ∧ _ + 1 ≤ _ by first | omega | (simp; omega)) ?_
        | refine And.intro (show 1 * _ ≤ _ ∧ 1 ≤ _ by omega) ?_
        | refine And.intro (by first | omega | (simp; omega) | (show _ ∧ _; simp; done)) ?_
        | rw [step_at (by omega)]
        | rw [ints_at0 (by omega)]
        | fail) <;> conv => whnf)
      · have hpush := hC.push hA hAS hi' hs hadj hb
        rw [hqp] at hpush
        refine ⟨(d'.set (L.getD j default).1 (d'.getD p 0 + 1), q' ++ [(L.getD j default).1], j + 1), ⟨hpush.see (fun r hr _ _ hcr => ?_), by simp; omega, by rw [getD_app, if_pos hi']; exact hqp, hjl⟩, by dsimp only; omega, [some 0, some 3], rfl, rfl, And.intro (And.intro rfl ints_set) (And.intro (And.intro rfl (natsI_app rfl)) trivial), ?_⟩
        · obtain ⟨j', hj', rfl⟩ := hcr
          by_cases hjj : j' = j
          · subst hjj
            refine .inr ?_
            rw [Pl.getD_set, if_pos ⟨rfl, by omega⟩]
            omega
          · exact .inl ⟨j', by dsimp only at hj'; omega, rfl⟩
        · exact ⟨.inl rfl, rfl, congrArg (AV.ref 3 0) (by simp), .inl rfl, .inl rfl, .inl rfl, .inl rfl, .inl rfl, trivial⟩
      · refine ⟨(d', q', j + 1), ⟨hC.see (fun r hr _ _ hcr => ?_), hi', hqp, hjl⟩, by dsimp only; omega, [some 0, some 1], rfl, rfl, And.intro (And.intro rfl rfl) (And.intro (And.intro rfl rfl) trivial), ?_⟩
        · obtain ⟨j', hj', rfl⟩ := hcr
          by_cases hjj : j' = j
          · subst hjj; exact .inr (by omega)
          · exact .inl ⟨j', by dsimp only at hj'; omega, rfl⟩
        · exact ⟨.inl rfl, rfl, rfl, .inl rfl, .inl rfl, .inl rfl, .inl rfl, .inl rfl, trivial⟩
    · conv => whnf
      repeat' ((first
        | contradiction
        | (refine And.intro (fun hb => ?_) (fun hb => ?_) <;> first | contradiction | ((try simp only [SB, reduceCtorEq] at hb); try (exfalso; first | contradiction | omega)))
        | refine And.intro rfl ?_
        | refine ⟨_, IntWalk.i64_in _ (by omega), ?_⟩
        | rw [ints_at (by omega)]
        | rw [ints_at0 (by omega)]
        | rw [ints_at' (by omega) (by omega)]
        | refine And.intro (lens_all rfl) ?_
        | refine And.intro (show _ ≤ _ ∧ (_ + 1) * _ ≤ _ ∧ _ + 1 ≤ _ by first | omega | (simp; omega)) ?_
        | refine And.intro (show 1 * _ ≤ _ ∧ 1 ≤ _ by omega) ?_
        | refine And.intro (by first | omega | (simp; omega) | (show _ ∧ _; simp; done)) ?_
        | fail) <;> conv => whnf)
      refine ⟨(d', q', i + 1), ⟨hC.next (fun _ r hr ha => ?_), hi'⟩, by dsimp only; omega, [some 0, some 1], rfl, rfl, And.intro (And.intro rfl rfl) (And.intro (And.intro rfl rfl) trivial), ?_⟩
      · rw [hqp] at ha
        obtain ⟨m, hm⟩ := ha
        rw [hL] at hm
        obtain ⟨k, hk, he⟩ := List.getElem_of_mem hm
        refine ⟨k, by omega, ?_⟩
        rw [List.getD_eq_getElem?_getD, List.getElem?_eq_getElem hk]
        simp [he]
      · exact ⟨.inl rfl, rfl, rfl, .inl rfl, trivial⟩
  · have hfin := hB.fin hA hAS (by omega)
    conv => whnf
    repeat' ((first
      | contradiction
      | (refine And.intro (fun hb => ?_) (fun hb => ?_) <;> first | contradiction | ((try simp only [SB, reduceCtorEq] at hb); try (exfalso; first | contradiction | omega)))
      | refine And.intro rfl ?_
      | refine ⟨_, IntWalk.i64_in _ (by omega), ?_⟩
      | rw [ints_at (by omega)]
      | rw [ints_at0 (by omega)]
      | rw [ints_at' (by omega) (by omega)]
      | refine And.intro (lens_all rfl) ?_
      | refine And.intro (show _ ≤ _ ∧ (_ + 1) * _ ≤ _ ∧ _ + 1 ≤ _ by first | omega | (simp; omega)) ?_
      | refine And.intro (show 1 * _ ≤ _ ∧ 1 ≤ _ by omega) ?_
      | refine And.intro (by first | omega | (simp; omega) | (show _ ∧ _; simp; done)) ?_
      | fail) <;> conv => whnf)
    refine ⟨.inl rfl, ?_⟩
    conv => whnf
    subst hfin
    exact ⟨[some 0], ⟨rfl, And.intro (And.intro rfl rfl) trivial⟩, rfl, rfl, by simp [AObj.nov, ints_nov]⟩

end Go.Proofs.Ytpfbkblgefddlaa.Ct
