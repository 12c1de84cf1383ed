/- Regions whose order is open, with calls that write: operations that are not ordered must not touch the same objects. -/
import Derived.Test.YtpfbkblgefddlaaAvDraw2
namespace Go.Proofs.Ytpfbkblgefddlaa.Av
set_option linter.unusedSimpArgs false
set_option linter.unusedVariables false
open Go

def Tag.isCall : Tag → Bool
  | .call _ => true
  | .dyn => true
  | _ => false

/-- it makes or writes objects, or calls -/
def IOper.wr (o : IOper) : Bool := o.tag.isCall || o.tag.kind == 2
def IOper.rd (o : IOper) : Bool := !o.wr && o.tag.kind == 1

/-- what an operation has touched: a reader the objects that it was told of, a writer the heap ahead of it and behind it -/
structure DRec where
  i : Nat
  w : Bool
  ids : List Nat
  hb : Heap
  ha : Heap

def okPair (a b : DRec) : Prop := (a.w = false → b.w = true → ∀ id ∈ a.ids, b.ha id = b.hb id) ∧ (a.w = true → b.w = false → ∀ id ∈ b.ids, a.ha id = a.hb id)

def recOf (i : Nat) (o : IOper) (e : Env) (h h' : Heap) : DRec :=
  ⟨i, o.wr, if o.rd = true then AV.idsL (o.args.map (Opd.ev e)) else [], if o.wr = true then h else Heap.none, if o.wr = true then h' else Heap.none⟩

abbrev UF := Nat → Nat → Bool

def pairK (U : UF) (acc : List DRec) (r : DRec) : Prop := ∀ a ∈ acc, U a.i r.i = true ∨ U r.i a.i = true → okPair a r

def gd (o : IOper) (e : Env) : Option Bool := match o.g with
  | none => some true
  | some (t, b) => match e t with
    | .bool c => some (c == b)
    | .undef => some false
    | _ => none

theorem guardK_iff {o : IOper} {e : Env} {yes no : Prop} : guardK o e yes no ↔ (gd o e = some true ∧ yes) ∨ (gd o e = some false ∧ no) := by
  unfold guardK gd
  cases o.g with
  | none => simp
  | some g =>
    obtain ⟨t, b⟩ := g
    simp only []
    generalize e t = x
    cases x <;> simp
    rename_i c
    cases c <;> cases b <;> simp

theorem gd_env {o : IOper} {e e2 : Env} (h : ∀ n ∈ o.reads, e n = e2 n) : gd o e = gd o e2 := by
  unfold gd
  cases hg : o.g with
  | none => rfl
  | some g =>
    obtain ⟨t, b⟩ := g
    have := h t (by simp [IOper.reads, hg])
    simp only [this]

theorem args_env {o : IOper} {e e2 : Env} (h : ∀ n ∈ o.reads, e n = e2 n) : o.args.map (Opd.ev e) = o.args.map (Opd.ev e2) :=
  ev_congr _ (fun n hn => h n (by
    simp only [IOper.reads, List.mem_append, List.mem_filterMap]
    exact .inl ⟨.t n, hn, rfl⟩))

theorem opX_env {C : CallF} {o : IOper} {e e2 : Env} (h : ∀ n ∈ o.reads, e n = e2 n) (hh : Heap) (n : Nat) (K : Kont) : opX C o e hh n K = opX C o e2 hh n K := by
  unfold opX; rw [args_env h]

theorem recOf_env {i : Nat} {o : IOper} {e e2 : Env} (h : ∀ n ∈ o.reads, e n = e2 n) (a b : Heap) : recOf i o e a b = recOf i o e2 a b := by
  unfold recOf; rw [args_env h]

/-- a meaning of calls that may be weakened, and has an outcome -/
structure CallGood (C : CallF) : Prop where
  mono : ∀ f xs h n (K K' : Kont), (∀ v h' n', K v h' n' → K' v h' n') → C f xs h n K → C f xs h n K'
  nv : ∀ f xs h n (K : Kont), C f xs h n K → ∃ v h' n', K v h' n'

theorem sem_mono {tag : Tag} {vs : List AV} {h : Heap} {n : Nat} {K K' : Kont} (hk : ∀ v h' n', K v h' n' → K' v h' n') (hs : sem tag vs h n K) : sem tag vs h n K' := by
  rw [sem_ang] at hs ⊢
  obtain ⟨v, h', n', h1, h2⟩ := hs
  exact ⟨v, h', n', h1, hk _ _ _ h2⟩

section
variable {C : CallF} (hC : CallGood C)
include hC

theorem opX_mono {o : IOper} {e : Env} {h : Heap} {n : Nat} {K K' : Kont} (hk : ∀ v h' n', K v h' n' → K' v h' n') (hs : opX C o e h n K) : opX C o e h n K' := by
  unfold opX at hs ⊢
  split at hs
  · exact hC.mono _ _ _ _ _ _ hk hs
  · split at hs
    · exact hC.mono _ _ _ _ _ _ hk hs
    · exact hs.elim
  · exact sem_mono hk hs

theorem opX_nv {o : IOper} {e : Env} {h : Heap} {n : Nat} {K : Kont} (hs : opX C o e h n K) : ∃ v h' n', K v h' n' := by
  unfold opX at hs
  split at hs
  · exact hC.nv _ _ _ _ _ hs
  · split at hs
    · exact hC.nv _ _ _ _ _ hs
    · exact hs.elim
  · rw [sem_ang] at hs
    obtain ⟨v, h', n', _, h2⟩ := hs
    exact ⟨v, h', n', h2⟩

end

/-- an operation that is no writer -/
theorem opX_quiet {C : CallF} {o : IOper} (hq : o.wr = false) (e : Env) (h : Heap) (n : Nat) (K : Kont) : opX C o e h n K ↔ sem o.tag (o.args.map (Opd.ev e)) h n K := by
  unfold opX
  unfold IOper.wr at hq
  simp only [Bool.or_eq_false_iff] at hq
  split
  · rename_i f ht; rw [ht] at hq; simp [Tag.isCall] at hq
  · rename_i ht; rw [ht] at hq; simp [Tag.isCall] at hq
  · rfl

theorem kind_quiet {o : IOper} (hq : o.wr = false) : o.tag.kind ≤ 1 := by
  unfold IOper.wr at hq
  simp only [Bool.or_eq_false_iff, beq_eq_false_iff_ne, ne_eq] at hq
  have : o.tag.kind ≤ 2 := by cases o.tag <;> simp [Tag.kind]
  omega

theorem mem_idsL : ∀ {vs : List AV} {v : AV}, v ∈ vs → ∀ id ∈ v.ids, id ∈ AV.idsL vs
  | [], _, hv, _, _ => by cases hv
  | x :: r, v, hv, id, hid => by
    simp only [AV.idsL, List.mem_append]
    rcases List.mem_cons.1 hv with rfl | hv
    · exact .inl hid
    · exact .inr (mem_idsL hv id hid)

theorem ids_cell {v c : AV} (hc : c ∈ v.cells) : ∀ id ∈ c.ids, id ∈ v.ids := by
  intro id hid
  cases v <;> simp only [AV.cells, List.mem_singleton] at hc <;> first | (subst hc; exact hid) | skip
  simp only [AV.ids]
  exact mem_idsL hc id hid

theorem okc_frame {h h2 : Heap} {c : AV} (hf : ∀ id ∈ c.ids, h2 id = h id) (hc : c.okc h) : c.okc h2 := by
  cases c <;> simp_all [AV.okc, AV.ids]

theorem rowsOf_frame {h h2 : Heap} {x : AV} (hf : ∀ id ∈ x.ids, h2 id = h id) : rowsOf h2 x = rowsOf h x := by
  cases x <;> simp only [rowsOf] <;> try rfl
  rename_i id off len
  rw [hf id (by simp [AV.ids])]

/-- what reads gives the same where the objects that it is told of are the same -/
theorem sem_frame {tag : Tag} (hq : tag.kind ≤ 1) {vs : List AV} {h h2 : Heap} {n n2 : Nat} {v : AV} (hf : tag.kind = 1 → ∀ id ∈ AV.idsL vs, h2 id = h id) (hs : sem tag vs h n (eqK v h n)) : sem tag vs h2 n2 (eqK v h2 n2) := by
  by_cases hk : tag.kind = 0
  · exact sem_pure hk hs
  have hg := hf (by omega)
  clear hf
  unfold sem at hs ⊢
  split at hs
  all_goals try exact absurd rfl hk
  all_goals try (simp only [Tag.kind] at hk hq; omega)
  all_goals try simp only [AV.idsL, AV.ids, List.append_nil, List.cons_append, List.nil_append, List.mem_singleton, List.mem_cons, forall_eq, forall_eq_or_imp] at hg
  case h_21 =>
    refine ⟨fun v' hv c hc => okc_frame (fun id hid => hg id (mem_idsL hv id (ids_cell hc id hid))) (hs.1 v' hv c hc), ?_⟩
    have h3 := hs.2
    split at h3
    · exact ⟨h3.1, rfl, rfl⟩
    · exact h3.elim
  case h_41 =>
    obtain ⟨bs, h3, h4⟩ := hs
    exact ⟨bs, by rw [rowsOf_frame hg]; exact h3, h4.1, rfl, rfl⟩
  all_goals try rw [hg.1]
  all_goals (repeat' split at hs)
  all_goals simp_all [eqK]
  all_goals exact hs.2 ▸ hs.1

theorem semInt_det {op : BinOp} {k : IntKind} {a b : Int} {v u : AV} (h1 : semInt op k a b (· = v)) (h2 : semInt op k a b (· = u)) : v = u := by
  unfold semInt at h1 h2; cases op <;> simp_all
theorem semShift_det {op : BinOp} {k : IntKind} {a b : Int} {v u : AV} (h1 : semShift op k a b (· = v)) (h2 : semShift op k a b (· = u)) : v = u := by
  unfold semShift at h1 h2; cases op <;> simp_all
theorem semStr_det {op : BinOp} {a b : List UInt8} {v u : AV} (h1 : semStr op a b (· = v)) (h2 : semStr op a b (· = u)) : v = u := by
  unfold semStr at h1 h2; cases op <;> simp_all
theorem semBin_det {op : BinOp} {x y : AV} {v u : AV} (h1 : semBin op x y (· = v)) (h2 : semBin op x y (· = u)) : v = u := by
  unfold semBin at h1 h2
  split at h1
  · split at h1
    · rename_i hs; simp only [hs, if_true] at h2; exact semShift_det h1 h2
    · rename_i hs; simp only [hs, if_false] at h2; exact semInt_det h1.2 h2.2
  · exact semStr_det h1 h2
  · exact h1.elim

theorem byteRow_inj : ∀ {a b : List UInt8}, a.map byteRow = b.map byteRow → a = b
  | [], [], _ => rfl
  | [], _ :: _, h => by simp at h
  | _ :: _, [], h => by simp at h
  | x :: a, y :: b, h => by
    simp only [List.map_cons, List.cons.injEq] at h
    obtain ⟨h1, h2⟩ := h
    have hx : x = y := by
      simp only [byteRow, List.cons.injEq, AV.int.injEq, true_and, and_true] at h1
      exact UInt8.toNat_inj.1 (by omega)
    rw [byteRow_inj h2, hx]

theorem sem_det {tag : Tag} (hq : tag.kind ≤ 1) {vs : List AV} {h : Heap} {n : Nat} {v u : AV} (h1 : sem tag vs h n (eqK v h n)) (h2 : sem tag vs h n (eqK u h n)) : v = u := by
  unfold sem at h1
  split at h1
  case h_2 c a b =>
    cases c
    · exact (h1.2 rfl).1.symm.trans ((show (_ → _) ∧ (_ → _) from h2).2 rfl).1
    · exact (h1.1 rfl).1.symm.trans ((show (_ → _) ∧ (_ → _) from h2).1 rfl).1
  case h_3 op x y =>
    have h2' : semBin op x y (fun v => eqK u h n v h n) := h2
    rw [semBin_ang] at h1 h2'
    obtain ⟨v', g1, g2, _, _⟩ := h1
    obtain ⟨u', k1, k2, _, _⟩ := h2'
    rw [← g2, ← k2]
    exact semBin_det g1 k1
  all_goals try (simp only [Tag.kind] at hq; omega)
  all_goals simp only [sem] at h2
  all_goals (repeat' split at h1)
  all_goals simp_all [eqK]
  obtain ⟨bs, e1, rfl⟩ := h1
  obtain ⟨bs', e2, rfl⟩ := h2
  rw [e1] at e2
  rw [byteRow_inj (Option.some.inj e2)]

/-- two operations of which the order is open -/
def sapB (i j : IOper) : Bool :=
  (match i.dst with
   | some d => !(j.reads.contains d) && j.dst != some d
   | none => true) &&
  (match j.dst with
   | some d => !(i.reads.contains d)
   | none => true) && !(i.wr && j.wr)

abbrev KA := List DRec → Env → Heap → Nat → Prop

/-- one operation, and what it must not have touched -/
def stepT (C : CallF) (U : UF) (i : Nat) (o : IOper) (acc : List DRec) (e : Env) (h : Heap) (n : Nat) (KK : KA) : Prop :=
  guardK o e (opX C o e h n fun v h' n' => pairK U acc (recOf i o e h h') ∧ KK (recOf i o e h h' :: acc) (e.updo o.dst v) h' n') (KK acc (e.updo o.dst .undef) h n)

def drdK (C : CallF) (U : UF) (ios : List IOper) : List Nat → List DRec → Env → Heap → Nat → (Env → Heap → Nat → Prop) → Prop
  | [], _, e, h, n, K => K e h n
  | i :: r, acc, e, h, n, K => match ios[i]? with
    | some o => stepT C U i o acc e h n fun acc e h n => drdK C U ios r acc e h n K
    | none => False

theorem pairK_sub {U : UF} {a b : List DRec} {r : DRec} (hs : ∀ z ∈ b, z ∈ a) (h : pairK U a r) : pairK U b r := fun z hz hu => h z (hs z hz) hu

theorem recOf_quiet {i : Nat} {o : IOper} (hq : o.wr = false) (e : Env) (a b c d : Heap) : recOf i o e a b = recOf i o e c d := by simp [recOf, hq]

section
variable {C : CallF} (hC : CallGood C)
include hC

theorem stepT_mono {U : UF} {i : Nat} {o : IOper} {a b : List DRec} {e : Env} {h : Heap} {n : Nat} {KK KK' : KA} (hs : ∀ z ∈ b, z ∈ a)
    (hk : ∀ a' b' e h n, (∀ z ∈ b', z ∈ a') → KK a' e h n → KK' b' e h n) (hT : stepT C U i o a e h n KK) : stepT C U i o b e h n KK' := by
  unfold stepT at hT ⊢
  rw [guardK_iff] at hT ⊢
  rcases hT with ⟨h1, h2⟩ | ⟨h1, h2⟩
  · refine .inl ⟨h1, opX_mono hC (fun v h' n' hv => ⟨pairK_sub hs hv.1, hk _ _ _ _ _ ?_ hv.2⟩) h2⟩
    intro z hz
    rcases List.mem_cons.1 hz with rfl | hz
    · simp
    · simp [hs z hz]
  · exact .inr ⟨h1, hk _ _ _ _ _ hs h2⟩

theorem drdK_sub {U : UF} {ios : List IOper} {K : Env → Heap → Nat → Prop} : ∀ (l : List Nat) (a b : List DRec) (e : Env) (h : Heap) (n : Nat), (∀ z ∈ b, z ∈ a) → drdK C U ios l a e h n K → drdK C U ios l b e h n K
  | [], _, _, _, _, _, _, hk => hk
  | i :: r, a, b, e, h, n, hs, hk => by
    simp only [drdK] at hk ⊢
    split at hk
    · exact stepT_mono hC hs (fun a' b' e h n hs' hk' => drdK_sub r a' b' e h n hs' hk') hk
    · exact hk.elim

/-- Two operations change places. -/
theorem stepT_swap {U : UF} {i j : Nat} {x o : IOper} (hap : sapB x o = true) (hU : U i j = true) {acc : List DRec} {e : Env} {h : Heap} {n : Nat} {KK : KA}
    (hKK : ∀ a b e h n, (∀ z ∈ b, z ∈ a) → KK a e h n → KK b e h n) (hT : stepT C U i x acc e h n fun a e h n => stepT C U j o a e h n KK) :
    stepT C U j o acc e h n fun a e h n => stepT C U i x a e h n KK := by
  simp only [sapB, Bool.and_eq_true, Bool.not_eq_true', Bool.and_eq_false_iff] at hap
  obtain ⟨⟨a1, a2⟩, a3⟩ := hap
  have b1 : ∀ d, x.dst = some d → d ∉ o.reads ∧ o.dst ≠ some d := by
    intro d hd; rw [hd] at a1; simpa using a1
  have b2 : ∀ d, o.dst = some d → d ∉ x.reads := by
    intro d hd; rw [hd] at a2; simpa using a2
  have eo : ∀ (v : AV) (e : Env), ∀ t ∈ o.reads, (e.updo x.dst v) t = e t := fun v e t ht => updo_ne e x.dst v t (fun d hd he => (b1 d hd).1 (he ▸ ht))
  have ex : ∀ (v : AV) (e : Env), ∀ t ∈ x.reads, (e.updo o.dst v) t = e t := fun v e t ht => updo_ne e o.dst v t (fun d hd he => b2 d hd (he ▸ ht))
  have ecomm : ∀ (v u : AV) (e : Env), (e.updo x.dst v).updo o.dst u = (e.updo o.dst u).updo x.dst v := fun v u e => updo_comm e x.dst o.dst v u (fun d hd => (b1 d hd).2)
  have sub2 : ∀ (p q : DRec) (a : List DRec), ∀ z ∈ (p :: q :: a), z ∈ (q :: p :: a) := by
    intro p q a z hz
    simp only [List.mem_cons] at hz ⊢
    rcases hz with h | h | h <;> simp [h]
  unfold stepT at hT ⊢
  rw [guardK_iff] at hT ⊢
  rcases hT with ⟨g1, hx⟩ | ⟨g1, hx⟩
  · -- x is taken
    obtain ⟨v0, h0, n0, p0, ho0⟩ := opX_nv hC hx
    rw [guardK_iff] at ho0
    have go : ∀ v, gd o (e.updo x.dst v) = gd o e := fun v => gd_env (eo v e)
    have gx : ∀ u, gd x (e.updo o.dst u) = gd x e := fun u => gd_env (ex u e)
    rcases ho0 with ⟨g2, ho0⟩ | ⟨g2, ho0⟩
    · -- o is taken
      rw [go] at g2
      refine .inl ⟨g2, ?_⟩
      have hin : ∀ v h1 n1, guardK o (e.updo x.dst v) (opX C o (e.updo x.dst v) h1 n1 fun u h2 n2 => pairK U (recOf i x e h h1 :: acc) (recOf j o (e.updo x.dst v) h1 h2) ∧ KK (recOf j o (e.updo x.dst v) h1 h2 :: recOf i x e h h1 :: acc) ((e.updo x.dst v).updo o.dst u) h2 n2)
            (KK (recOf i x e h h1 :: acc) ((e.updo x.dst v).updo o.dst .undef) h1 n1) →
          opX C o e h1 n1 fun u h2 n2 => pairK U (recOf i x e h h1 :: acc) (recOf j o e h1 h2) ∧ KK (recOf j o e h1 h2 :: recOf i x e h h1 :: acc) ((e.updo o.dst u).updo x.dst v) h2 n2 := by
        intro v h1 n1 hg
        rw [guardK_iff] at hg
        rcases hg with ⟨_, hg⟩ | ⟨k1, _⟩
        · rw [opX_env (eo v e)] at hg
          refine opX_mono hC (fun u h2 n2 hu => ?_) hg
          rw [recOf_env (eo v e), ecomm] at hu
          exact hu
        · rw [go, g2] at k1; cases k1
      have hx' := opX_mono hC (K' := fun v h1 n1 => pairK U acc (recOf i x e h h1) ∧ opX C o e h1 n1 fun u h2 n2 => pairK U (recOf i x e h h1 :: acc) (recOf j o e h1 h2) ∧ KK (recOf j o e h1 h2 :: recOf i x e h h1 :: acc) ((e.updo o.dst u).updo x.dst v) h2 n2)
        (fun v h1 n1 hv => ⟨hv.1, hin v h1 n1 hv.2⟩) hx
      clear hx hin ho0
      by_cases hwo : o.wr = true
      · -- o writes: x does not
        have hwx : x.wr = false := by rcases a3 with h | h <;> simp_all
        have hk1 := kind_quiet hwx
        rw [opX_quiet hwx, sem_ang] at hx'
        obtain ⟨v, h1, n1, hsx, hpx, hox⟩ := hx'
        obtain ⟨rfl, rfl⟩ := sem_quiet hk1 hsx
        refine opX_mono hC (fun u h2 n2 hu => ⟨pairK_sub (by intro z hz; simp [hz]) hu.1, ?_⟩) hox
        have hpo := hu.1 (recOf i x e h1 h1) (by simp) (.inl hU)
        dsimp only
        rw [guardK_iff]
        refine .inl ⟨by rw [gx]; exact g1, ?_⟩
        rw [opX_env (ex u e), opX_quiet hwx, sem_ang]
        have hfr : x.tag.kind = 1 → ∀ id ∈ AV.idsL (x.args.map (Opd.ev e)), h2 id = h1 id := by
          intro hk id hid
          have := hpo.1 (by simp [recOf, hwx]) (by simp [recOf, hwo]) id (by simp [recOf, IOper.rd, hwx, hk]; exact hid)
          simpa [recOf, hwo] using this
        refine ⟨v, h2, n2, sem_frame hk1 hfr hsx, ?_, ?_⟩
        · intro z hz hzu
          rw [recOf_env (ex u e)]
          rw [recOf_env (ex u e)] at hzu
          rcases List.mem_cons.1 hz with rfl | hz
          · refine ⟨fun hf => by simp [recOf, hwo] at hf, fun _ _ id hid => ?_⟩
            refine hpo.1 (by simp [recOf, hwx]) (by simp [recOf, hwo]) id ?_
            rw [recOf_quiet hwx e h1 h1 h2 h2]
            exact hid
          · have := hpx z hz (by rw [recOf_quiet hwx e h1 h1 h2 h2]; exact hzu)
            rwa [recOf_quiet hwx e h1 h1 h2 h2] at this
        · refine hKK _ _ _ _ _ ?_ hu.2
          rw [recOf_env (ex u e), recOf_quiet hwx e h2 h2 h1 h1]
          exact sub2 _ _ _
      · -- o does not write
        have hwo : o.wr = false := by simpa using hwo
        have hk1 := kind_quiet hwo
        have rq : ∀ a b, recOf j o e a b = recOf j o e h h := fun a b => recOf_quiet hwo e a b h h
        -- what o gives behind an outcome of x
        have key : ∀ v h1 n1, pairK U acc (recOf i x e h h1) → (opX C o e h1 n1 fun u h2 n2 => pairK U (recOf i x e h h1 :: acc) (recOf j o e h1 h2) ∧ KK (recOf j o e h1 h2 :: recOf i x e h h1 :: acc) ((e.updo o.dst u).updo x.dst v) h2 n2) → (x.wr = false → h1 = h) →
            ∃ u, sem o.tag (o.args.map (Opd.ev e)) h n (eqK u h n) ∧ pairK U (recOf i x e h h1 :: acc) (recOf j o e h h) ∧ KK (recOf j o e h h :: recOf i x e h h1 :: acc) ((e.updo o.dst u).updo x.dst v) h1 n1 := by
          intro v h1 n1 _ ho hqx
          rw [opX_quiet hwo, sem_ang] at ho
          obtain ⟨u, h2, n2, hs, hp, hkk⟩ := ho
          obtain ⟨rfl, rfl⟩ := sem_quiet hk1 hs
          rw [rq] at hp hkk
          refine ⟨u, ?_, hp, hkk⟩
          by_cases hwx : x.wr = true
          · have hpo := hp (recOf i x e h h2) (by simp) (.inl hU)
            refine sem_frame hk1 ?_ hs
            intro hk id hid
            have := hpo.2 (by simp [recOf, hwx]) (by simp [recOf, hwo]) id (by simp [recOf, IOper.rd, hwo, hk]; exact hid)
            simpa [recOf, hwx] using this.symm
          · have := hqx (by simpa using hwx)
            subst this
            exact sem_frame hk1 (fun _ _ _ => rfl) hs
        have hqx : x.wr = false → ∀ (K : Kont), opX C x e h n K → opX C x e h n fun v h1 n1 => h1 = h ∧ K v h1 n1 := by
          intro hwx K hK
          rw [opX_quiet hwx, sem_ang] at hK ⊢
          obtain ⟨v, h1, n1, hs, hk⟩ := hK
          exact ⟨v, h1, n1, hs, (sem_quiet (kind_quiet hwx) hs).1, hk⟩
        have hx2 : opX C x e h n fun v h1 n1 => (x.wr = false → h1 = h) ∧ pairK U acc (recOf i x e h h1) ∧ opX C o e h1 n1 fun u h2 n2 => pairK U (recOf i x e h h1 :: acc) (recOf j o e h1 h2) ∧ KK (recOf j o e h1 h2 :: recOf i x e h h1 :: acc) ((e.updo o.dst u).updo x.dst v) h2 n2 := by
          by_cases hwx : x.wr = true
          · exact opX_mono hC (fun v h1 n1 hv => ⟨fun hf => absurd (hwx.symm.trans hf) (by decide), hv⟩) hx'
          · exact opX_mono hC (fun v h1 n1 hv => ⟨fun _ => hv.1, hv.2⟩) (hqx (by simpa using hwx) _ hx')
        obtain ⟨v1, h1', n1', q1, q2, q3⟩ := opX_nv hC hx2
        obtain ⟨u, hsu, hpu, _⟩ := key v1 h1' n1' q2 q3 q1
        rw [opX_quiet hwo, sem_ang]
        refine ⟨u, h, n, hsu, ?_⟩
        dsimp only
        refine ⟨pairK_sub (a := recOf i x e h h1' :: acc) (fun z hz => List.mem_cons_of_mem _ hz) hpu, ?_⟩
        rw [guardK_iff]
        refine .inl ⟨by rw [gx]; exact g1, ?_⟩
        rw [opX_env (ex u e)]
        refine opX_mono hC (fun v h1 n1 hv => ?_) hx2
        obtain ⟨r1, r2, r3⟩ := hv
        obtain ⟨u', hsu', hpu', hkk⟩ := key v h1 n1 r2 r3 r1
        have hdet := sem_det hk1 hsu' hsu
        subst hdet
        rw [recOf_env (ex u' e)]
        refine ⟨?_, hKK _ _ _ _ _ (sub2 _ _ _) hkk⟩
        intro z hz hzu
        rcases List.mem_cons.1 hz with rfl | hz
        · have hpo := hpu' (recOf i x e h h1) (by simp) (.inl hU)
          exact ⟨fun hf1 hf2 => hpo.2 hf2 hf1, fun hf1 hf2 => hpo.1 hf2 hf1⟩
        · exact r2 z hz hzu
    · -- o is not taken
      rw [go] at g2
      refine .inr ⟨g2, ?_⟩
      dsimp only
      rw [guardK_iff]
      refine .inl ⟨by rw [gx]; exact g1, ?_⟩
      rw [opX_env (ex .undef e)]
      refine opX_mono hC (fun v h1 n1 hv => ?_) hx
      obtain ⟨r1, r2⟩ := hv
      rw [guardK_iff] at r2
      rcases r2 with ⟨k1, _⟩ | ⟨_, r2⟩
      · rw [go, g2] at k1; cases k1
      · rw [recOf_env (ex .undef e), ← ecomm]
        exact ⟨r1, r2⟩
  · -- x is not taken
    have go : gd o (e.updo x.dst .undef) = gd o e := gd_env (eo _ e)
    rw [guardK_iff, go] at hx
    have gx : ∀ u, gd x (e.updo o.dst u) = gd x e := fun u => gd_env (ex u e)
    rcases hx with ⟨g2, hx⟩ | ⟨g2, hx⟩
    · refine .inl ⟨g2, ?_⟩
      rw [opX_env (eo .undef e)] at hx
      refine opX_mono hC (fun u h2 n2 hu => ?_) hx
      rw [recOf_env (eo .undef e), ecomm] at hu
      refine ⟨hu.1, ?_⟩
      dsimp only
      rw [guardK_iff]
      exact .inr ⟨by rw [gx]; exact g1, hu.2⟩
    · refine .inr ⟨g2, ?_⟩
      dsimp only
      rw [guardK_iff]
      rw [ecomm] at hx
      exact .inr ⟨by rw [gx]; exact g1, hx⟩

/-- An operation that is not ordered behind those ahead of it may come first. -/
theorem drd_first {U : UF} {ios : List IOper} {K : Env → Heap → Nat → Prop} {j : Nat} {o : IOper} (ho : ios[j]? = some o) {r : List Nat} : ∀ (l : List Nat) (acc : List DRec) (e : Env) (h : Heap) (n : Nat),
    (∀ i ∈ l, U i j = true ∧ ∃ x, ios[i]? = some x ∧ sapB x o = true) → drdK C U ios (l ++ j :: r) acc e h n K → drdK C U ios (j :: (l ++ r)) acc e h n K
  | [], acc, e, h, n, _, hk => hk
  | i :: l, acc, e, h, n, hap, hk => by
    obtain ⟨hU, x, hx, hs⟩ := hap i (by simp)
    simp only [List.cons_append, drdK, hx] at hk
    have hk2 := stepT_mono hC (fun z hz => hz) (KK' := fun a e h n => drdK C U ios (j :: (l ++ r)) a e h n K) (fun a' b' e h n hs' hk' => drd_first ho l b' e h n (fun y hy => hap y (by simp [hy])) (drdK_sub hC _ _ _ _ _ _ hs' hk')) hk
    simp only [drdK, ho] at hk2
    have := stepT_swap hC hs hU (KK := fun acc e h n => drdK C U ios (l ++ r) acc e h n K) (fun a b e h n hs' hk' => drdK_sub hC (l ++ r) a b e h n hs' hk') hk2
    simp only [drdK, ho, List.cons_append, hx]
    exact this

end

end Go.Proofs.Ytpfbkblgefddlaa.Av
