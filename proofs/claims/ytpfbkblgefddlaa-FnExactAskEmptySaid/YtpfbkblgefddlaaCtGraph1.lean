/- Graphs: how they lie; graphOf, add. -/
import Derived.Test.YtpfbkblgefddlaaCtSet
import Derived.Test.YtpfbkblgefddlaaAvNv
import Derived.Test.YtpfbkblgefddlaaAvTurn
import Derived.Test.YtpfbkblgefddlaaPlRings
namespace Go.Proofs.Ytpfbkblgefddlaa.Ct
set_option linter.unusedSimpArgs false
set_option linter.unusedVariables false
open Go Go.Proofs Go.Proofs.Ytpfbkblgefddlaa.Av Go.Proofs.Ytpfbkblgefddlaa.Pl

def c_impl_graphOf : ICode := (.seq (.reg [⟨(some 2), .mv, [(.c .pnil)], none⟩]) (.seq (.reg [⟨(some 3), .mv, [(.t 0)], none⟩, ⟨(some 4), (.mks 1 24 [.snil]), [(.t 3), (.t 3)], none⟩, ⟨(some 5), (.bld [.snil] [(0, 1)]), [(.t 4)], none⟩, ⟨(some 6), (.box 1), [(.t 5)], none⟩, ⟨(some 2), .mv, [(.t 6)], none⟩]) .ret))
theorem b_impl_graphOf : Body Try.prog 159 7 c_impl_graphOf [(.t 2)] := body_mk Try.func159 (by kernel_rfl) (by decide)

def c_impl_graph_add : ICode := (.drw [⟨(some 8), .mv, [(.t 0)], none⟩, ⟨(some 9), .nck, [(.t 8)], none⟩, ⟨(some 10), (.fadr 0), [(.t 9)], none⟩, ⟨(some 11), .ld1, [(.t 10)], none⟩, ⟨(some 12), .mv, [(.t 1)], none⟩, ⟨(some 13), .mv, [(.t 0)], none⟩, ⟨(some 14), .nck, [(.t 13)], none⟩, ⟨(some 15), (.fadr 0), [(.t 14)], none⟩, ⟨(some 16), .ld1, [(.t 15)], none⟩, ⟨(some 17), .mv, [(.t 1)], none⟩, ⟨(some 18), (.iadr 1), [(.t 16), (.t 17)], none⟩, ⟨(some 19), .ld1, [(.t 18)], none⟩, ⟨(some 20), .mv, [(.t 2)], none⟩, ⟨(some 21), .mv, [(.t 3)], none⟩, ⟨(some 22), (.bld [(.int .i64 0), (.int .i64 0)] [(0, 1), (1, 1)]), [(.t 20), (.t 21)], none⟩, ⟨(some 23), (.bslv 2), [(.t 22)], none⟩, ⟨(some 24), (.app 2 16), [(.t 19), (.t 23)], none⟩, ⟨(some 25), (.iadr 1), [(.t 11), (.t 12)], none⟩, ⟨none, (.st 1), [(.t 25), (.t 24)], none⟩] [[], [0], [0, 1], [0, 1, 2], [], [], [5], [5, 6], [5, 6, 7], [], [5, 6, 7, 8, 9], [5, 6, 7, 8, 9, 10], [], [], [12, 13], [12, 13, 14], [5, 6, 7, 8, 9, 10, 11, 12, 13, 14, 15], [0, 1, 2, 3, 4, 5, 6, 7, 8, 9, 10, 11, 12, 13, 14, 15, 16], [0, 1, 2, 3, 4, 5, 6, 7, 8, 9, 10, 11, 12, 13, 14, 15, 16, 17]] false true)
theorem b_impl_graph_add : Body Try.prog 160 26 c_impl_graph_add [] := body_mk Try.func160 (by kernel_rfl) (by decide)


/-- a step: where to, its marks -/
abbrev StepD := Nat × Int
def stepRow (s : StepD) : List AV := [.int .i64 ((s.1 : Nat) : Int), .int .i64 s.2]
def stepRows (l : List StepD) : List (List AV) := l.map stepRow
@[simp] theorem length_stepRows (l : List StepD) : (stepRows l).length = l.length := by simp [stepRows]
/-- a graph: for each point its steps -/
abbrev GraphD := List (List StepD)
def gRow (l : List StepD) : List AV := [.val (stepRows l)]
def gRows (G : GraphD) : List (List AV) := G.map gRow
@[simp] theorem length_gRows (G : GraphD) : (gRows G).length = G.length := by simp [gRows]
def gOwn (l : List StepD) : List AV := [.own 2 (stepRows l)]
def gOwns (G : GraphD) : List (List AV) := G.map gOwn
@[simp] theorem length_gOwns (G : GraphD) : (gOwns G).length = G.length := by simp [gOwns]
theorem thaw_g (G : GraphD) : (gOwns G).map (List.map AV.thaw) = gRows G := by simp [gOwns, gRows, gOwn, gRow, AV.thaw]
theorem stepRows_nov (l : List StepD) : AV.novss (stepRows l) = true := by
  induction l with
  | nil => rfl
  | cons x r ih => simpa [stepRows, AV.novss, stepRow, AV.novs, AV.nov] using ih
theorem gOwns_nov (G : GraphD) : (gOwns G).all AV.novs = true := by simp [gOwns, gOwn, AV.novs, AV.nov, stepRows_nov]
theorem gOwns_sealed (G : GraphD) : ∀ row ∈ G.map gOwn, ∀ c ∈ row, c.sealed = true := by
  intro row hr
  obtain ⟨x, _, rfl⟩ := List.mem_map.1 hr
  simp [gOwn, AV.sealed]

/-- a graph of the walk's own: its objects -/
abbrev gBox (j n : Nat) : AObj := .box [.ref j 0 n]
abbrev gNst (G : GraphD) : AObj := .nst 1 (gOwns G)

theorem snap_graph {h : Heap} {b j n : Nat} {G : GraphD} (hb : h b = some (gBox j n)) (hj : h j = some (gNst G)) (hn : n = G.length) : (AV.ptr b 0 0).snap h = .rptr [.val (gRows G)] 0 := by
  subst hn
  have e : sub (gOwns G) 0 G.length = gOwns G := by
    unfold sub
    rw [List.drop_zero, List.take_of_length_le (by simp)]
  simp only [AV.snap, hb, if_true, List.map_cons, List.map_nil, AV.snap1, hj, Nat.zero_add, length_gOwns, Nat.le_refl, e, thaw_g]

theorem heap_set_set {h : Heap} {k : Nat} {a b : AObj} : (h.set k a).set k b = h.set k b := by
  funext j; simp only [Heap.set]; split <;> rfl
theorem heap_set_same {h : Heap} {k : Nat} {a : AObj} (hk : h k = some a) : h.set k a = h := by
  funext j; simp only [Heap.set]; split
  · rename_i e; rw [e, hk]
  · rfl

/-- rows that are nil, one by one -/
theorem turn_nils {h : Heap} {k N n y : Nat} (ho : h k = some (.arx 1 (List.replicate n [.snil]))) : ∀ m, m ≤ n → Turn h N (h.set k (.arx 1 (List.replicate m [.own y []] ++ List.replicate (n - m) [.snil]))) N
  | 0, _ => by
    have e : h.set k (.arx 1 (List.replicate 0 [.own y []] ++ List.replicate (n - 0) [.snil])) = h := heap_set_same (by simpa using ho)
    rw [e]; exact .refl _ _
  | m + 1, hm => by
    refine (turn_nils (y := y) ho m (by omega)).trans ?_
    refine .nil k m 0 1 y _ [.snil] (show Heap.set h k _ k = _ from if_pos rfl) ?_ rfl ?_
    · rw [List.getElem?_append_right (by simp), List.length_replicate, Nat.sub_self, List.getElem?_replicate, if_pos (by omega)]
    · rw [heap_set_set]
      have e : (List.replicate m [AV.own y []] ++ List.replicate (n - m) [AV.snil]).set m ([AV.snil].set 0 (.own y [])) = List.replicate (m + 1) [AV.own y []] ++ List.replicate (n - (m + 1)) [AV.snil] := by
        obtain ⟨d, hd⟩ : ∃ d, n - m = d + 1 := ⟨n - m - 1, by omega⟩
        rw [List.set_append_right _ _ (by simp), List.length_replicate, Nat.sub_self, hd, List.replicate_succ, List.set_cons_zero, show n - (m + 1) = d by omega, List.replicate_succ']
        simp
      rw [e]
      exact .refl _ _

def RGraphOf (xs : List AV) (r : AV) (objs : List AObj) : Prop := ∃ n : Nat, xs = [.int .i64 ((n : Nat) : Int)] ∧ n ≤ 100000 ∧ r = .ptr 0 0 0 ∧ objs = [gBox 1 n, gNst (List.replicate n [])]
theorem RGraphOf_mk {n : Nat} (h : n ≤ 100000) : RGraphOf [.int .i64 ((n : Nat) : Int)] (.ptr 0 0 0) [gBox 1 n, gNst (List.replicate n [])] := ⟨n, rfl, h, rfl, rfl⟩

theorem s_impl_graphOf : PureSound Try.prog 159 RGraphOf := by
  have hR : Rely Try.prog (ctxOf []) := rely_nil mixed
  refine pure_of_aw b_impl_graphOf ?_
  rintro xs r objs ⟨n, rfl, hn, rfl, rfl⟩ -
  refine ⟨by simp, Aw.unturn (vc2_sound hR _ _ _ _ _ ?_)⟩
  conv => whnf
  repeat' ((first
    | contradiction
    | (refine And.intro (fun hb => ?_) (fun hb => ?_) <;> first | contradiction | ((try simp only [SB, reduceCtorEq] at hb); try (exfalso; first | contradiction | omega)))
    | refine And.intro rfl ?_
    | refine ⟨_, IntWalk.i64_in _ (by omega), ?_⟩
    | rw [ints_at (by omega)]
    | rw [ints_at0 (by omega)]
    | rw [ints_at' (by omega) (by omega)]
    | refine And.intro (lens_all rfl) ?_
    | refine And.intro (show _ ≤ _ ∧ (_ + 1) * _ ≤ _ ∧ _ + 1 ≤ _ by first | omega | (simp; omega)) ?_
    | refine And.intro (show 1 * _ ≤ _ ∧ 1 ≤ _ by omega) ?_
    | refine And.intro (by first | omega | (simp; omega) | (show _ ∧ _; simp; done)) ?_
    | fail) <;> conv => whnf)
  refine ⟨_, _, .lax 0 1 (List.replicate n [.snil]) (.inl rfl) ((turn_nils (y := 2) (if_pos rfl) n (Nat.le_refl _)).trans (.clos 0 1 (gOwns (List.replicate n [])) ?_ (gOwns_sealed _) (.refl _ _))), .inl rfl, ?_⟩
  · refine (if_pos rfl).trans (congrArg (fun r => some (AObj.arx 1 r)) ?_)
    simp [gOwns, gOwn, stepRows]
  · conv => whnf
    refine ⟨[some 1, some 0], ⟨rfl, And.intro (And.intro rfl trivial) (And.intro ⟨rfl, rfl⟩ trivial)⟩, rfl, rfl, ?_⟩
    simp [AObj.nov, gOwns_nov, AV.novs, AV.nov]

def gAdd (G : GraphD) (f t : Nat) (m : Int) : GraphD := G.set f (G.getD f [] ++ [(t, m)])
@[simp] theorem length_gAdd (G : GraphD) (f t : Nat) (m : Int) : (gAdd G f t m).length = G.length := by simp [gAdd]

def GAdd : GFun := fun xs objs Q => ∃ (G : GraphD) (n : Nat) (f t m : Int), xs = [.ptr 0 0 0, .int .i64 f, .int .i64 t, .int .i64 m] ∧ objs = [gBox 1 n, gNst G] ∧ G.length = n ∧ 0 ≤ f ∧ f < n ∧ 0 ≤ t ∧ (G.getD f.toNat []).length ≤ 1000000000 ∧
  Q (.tup []) [some (gBox 1 n), some (gNst (gAdd G f.toNat t.toNat m))]
theorem GAdd_mk {G : GraphD} {n : Nat} {f t m : Int} {Q : AV → List (Option AObj) → Prop} (hn : G.length = n) (h0 : 0 ≤ f) (h1 : f < n) (h3 : 0 ≤ t) (h2 : (G.getD f.toNat []).length ≤ 1000000000) (hq : Q (.tup []) [some (gBox 1 n), some (gNst (gAdd G f.toNat t.toNat m))]) :
    GAdd [.ptr 0 0 0, .int .i64 f, .int .i64 t, .int .i64 m] [gBox 1 n, gNst G] Q := ⟨G, n, f, t, m, rfl, rfl, hn, h0, h1, h3, h2, hq⟩

theorem gOwns_at {G : GraphD} {f : Nat} (h : f < G.length) : (gOwns G)[f]? = some (gOwn (G.getD f [])) := by
  simp [gOwns, List.getElem?_map, List.getElem?_eq_getElem h, List.getD_eq_getElem?_getD]
theorem set_atI {rows : List (List AV)} {f : Nat} {r : List AV} (h : f < rows.length) : (rows.set f r)[0 + ((f : Nat) : Int).toNat]? = some r := by
  rw [Nat.zero_add, Int.toNat_natCast]
  exact List.getElem?_set_self h

theorem step_app {l : List StepD} {t : Nat} {m : Int} : List.take l.length (stepRows l) ++ [[.int .i64 ((t : Nat) : Int), .int .i64 m]] = stepRows (l ++ [(t, m)]) := by
  rw [List.take_of_length_le (by simp)]
  simp [stepRows, stepRow]
theorem gOwns_set {G : GraphD} {f : Nat} {l : List StepD} : (gOwns G).set f (gOwn l) = gOwns (G.set f l) := by simp [gOwns, List.map_set]

set_option maxHeartbeats 1000000 in
theorem s_impl_add : GenSound Try.prog 160 2 GAdd := by
  have hR : Rely Try.prog (ctxOf []) := rely_nil mixed
  refine gen_of_aw b_impl_graph_add ?_
  rintro xs objs Q - ⟨G, _, f, t, m, rfl, rfl, rfl, h0, h1, h4, h2, hq⟩ -
  obtain ⟨f, rfl⟩ := Int.eq_ofNat_of_zero_le h0
  obtain ⟨t, rfl⟩ := Int.eq_ofNat_of_zero_le h4
  simp only [Int.toNat_natCast] at h2 hq
  have h1 : f < G.length := by omega
  have h3 := length_stepRows (G.getD f [])
  refine ⟨by simp, Aw.turn (.lax 1 1 _ (.inr rfl) (.unfold 1 f 0 1 2 _ (gOwn (G.getD f [])) (stepRows (G.getD f [])) rfl (gOwns_at h1) rfl _ (length_stepRows _) (.refl _ _))) (Aw.unturn (vc3_sound hR nvNil _ _ _ _ _ ?_))⟩
  conv => whnf
  repeat' ((first
    | contradiction
    | (refine And.intro (fun hb => ?_) (fun hb => ?_) <;> first | contradiction | ((try simp only [SB, reduceCtorEq] at hb); try (exfalso; first | contradiction | omega)))
    | refine And.intro rfl ?_
    | refine ⟨_, IntWalk.i64_in _ (by omega), ?_⟩
    | rw [ints_at (by omega)]
    | rw [ints_at0 (by omega)]
    | rw [ints_at' (by omega) (by omega)]
    | refine And.intro (lens_all rfl) ?_
    | refine And.intro (show _ ≤ _ ∧ (_ + 1) * _ ≤ _ ∧ _ + 1 ≤ _ by first | omega | (simp; omega)) ?_
    | refine And.intro (show 1 * _ ≤ _ ∧ 1 ≤ _ by omega) ?_
    | refine And.intro (by first | omega | (simp; omega) | (show _ ∧ _; simp; done)) ?_
    | rw [set_atI (by simpa using h1)]
    | fail) <;> conv => whnf)
  refine ⟨_, _, .fold 1 3 f 0 1 2 _ [.ref 3 0 ((G.getD f []).length + 1)] (stepRows (G.getD f [] ++ [(t, m)])) rfl (congrArg (fun r => some (AObj.arr 2 r)) step_app) (by decide) ?_ _ (by simp) rfl (.clos 1 1 (gOwns (gAdd G f t m)) (congrArg (fun r => some (AObj.arx 1 r)) ?_) (gOwns_sealed _) (.refl _ _)), .inr rfl, ?_⟩
  · rw [Nat.zero_add, Int.toNat_natCast]
    exact List.getElem?_set_self (by simpa using h1)
  · rw [Nat.zero_add, Int.toNat_natCast, List.set_set, List.set_set]
    exact gOwns_set
  · conv => whnf
    exact ⟨[some 0, some 1], .tup [], [some (gBox 1 G.length), some (gNst (gAdd G f t m))], ⟨rfl, And.intro (And.intro rfl trivial) (And.intro ⟨rfl, rfl⟩ trivial)⟩, trivial, rfl, hq⟩

end Go.Proofs.Ytpfbkblgefddlaa.Ct
