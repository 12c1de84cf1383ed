/- Regions whose order is open: operations that do not disturb each other may be taken in the order of the text. -/
import Derived.Test.YtpfbkblgefddlaaAvReg
namespace Go.Proofs.Ytpfbkblgefddlaa.Av
set_option linter.unusedSimpArgs false
set_option linter.unusedVariables false
open Go

theorem semInt_ang {op : BinOp} {k : IntKind} {a b : Int} {K : AV → Prop} : semInt op k a b K ↔ ∃ v, semInt op k a b (· = v) ∧ K v := by
  unfold semInt; cases op <;> simp [and_assoc]
theorem semShift_ang {op : BinOp} {k : IntKind} {a b : Int} {K : AV → Prop} : semShift op k a b K ↔ ∃ v, semShift op k a b (· = v) ∧ K v := by
  unfold semShift; cases op <;> simp [and_assoc]
theorem semStr_ang {op : BinOp} {a b : List UInt8} {K : AV → Prop} : semStr op a b K ↔ ∃ v, semStr op a b (· = v) ∧ K v := by
  unfold semStr; cases op <;> simp [and_assoc]
theorem semBin_ang {op : BinOp} {x y : AV} {K : AV → Prop} : semBin op x y K ↔ ∃ v, semBin op x y (· = v) ∧ K v := by
  unfold semBin
  split
  · split
    · exact semShift_ang
    · rw [semInt_ang]; simp [and_assoc]
  · exact semStr_ang
  · simp

def eqK (v : AV) (h : Heap) (n : Nat) : Kont := fun v' h' n' => v' = v ∧ h' = h ∧ n' = n

theorem sem_ang (tag : Tag) (vs : List AV) (h : Heap) (n : Nat) (K : Kont) : sem tag vs h n K ↔ ∃ v h' n', sem tag vs h n (eqK v h' n') ∧ K v h' n' := by
  unfold sem
  split
  case h_2 c a b =>
    cases c <;> simp [eqK, and_assoc]
  case h_3 =>
    rw [semBin_ang]
    constructor
    · rintro ⟨v, h1, h2⟩
      exact ⟨v, h, n, by rw [semBin_ang]; exact ⟨v, h1, rfl, rfl, rfl⟩, h2⟩
    · rintro ⟨v, h', n', h1, h2⟩
      rw [semBin_ang] at h1
      obtain ⟨v', g1, rfl, rfl, rfl⟩ := h1
      exact ⟨v', g1, h2⟩
  all_goals (repeat' split)
  all_goals simp [eqK, and_assoc]
  constructor
  · rintro ⟨bs, h1, h2⟩; exact ⟨_, _, _, ⟨bs, h1, rfl, rfl, rfl⟩, h2⟩
  · rintro ⟨v, h', n', ⟨bs, h1, rfl, rfl, rfl⟩, h2⟩; exact ⟨bs, h1, h2⟩

/-- 0: touches no object; 1: reads objects; 2: makes or writes them -/
def Tag.kind : Tag → Nat
  | .mv | .pick | .bin _ | .not | .neg | .cvt _ | .idx | .fld1 _ | .fldn _ _ | .sls _ _ | .max | .min | .ext _ | .lens | .mkf _ | .s2b | .aidx _ | .beq _ | .aeq _ _ | .bslv _ | .bsle | .cap | .fadr _ | .len | .nck | .no => 0
  | .ld1 | .ldn _ | .iadr _ | .bld _ _ | .slc _ _ _ | .call _ | .dyn | .b2s | .slc3 _ | .bnil _ => 1
  | .box _ | .alc _ | .st _ | .bsl _ | .mks _ _ _ | .app _ _ | .apz _ _ _ => 2

theorem sem_quiet {tag : Tag} (hq : tag.kind ≤ 1) {vs : List AV} {h h' : Heap} {n n' : Nat} {v : AV} (hs : sem tag vs h n (eqK v h' n')) : h' = h ∧ n' = n := by
  unfold sem at hs
  split at hs
  case h_2 c a b =>
    cases c
    · exact ⟨(hs.2 rfl).2.1.symm, (hs.2 rfl).2.2.symm⟩
    · exact ⟨(hs.1 rfl).2.1.symm, (hs.1 rfl).2.2.symm⟩
  case h_3 =>
    rw [semBin_ang] at hs
    obtain ⟨v', _, _, rfl, rfl⟩ := hs
    exact ⟨rfl, rfl⟩
  all_goals simp only [Tag.kind] at hq
  all_goals (repeat' split at hs)
  all_goals simp [eqK] at hs
  all_goals first | (obtain ⟨_, rfl, rfl⟩ := hs; exact ⟨rfl, rfl⟩) | (obtain ⟨_, _, rfl, rfl⟩ := hs; exact ⟨rfl, rfl⟩) | (obtain ⟨_, _, _, rfl, rfl⟩ := hs; exact ⟨rfl, rfl⟩) | (obtain ⟨_, _, _, _, rfl, rfl⟩ := hs; exact ⟨rfl, rfl⟩) | (obtain ⟨_, _, _, _, _, rfl, rfl⟩ := hs; exact ⟨rfl, rfl⟩) | (obtain ⟨_, _, _, _, _, _, rfl, rfl⟩ := hs; exact ⟨rfl, rfl⟩) | omega

theorem sem_n {tag : Tag} (hq : tag.kind ≤ 1) {vs : List AV} {h : Heap} {n n2 : Nat} {v : AV} (hs : sem tag vs h n (eqK v h n)) : sem tag vs h n2 (eqK v h n2) := by
  unfold sem at hs ⊢
  split at hs
  case h_2 c a b =>
    exact ⟨fun hc => ⟨(hs.1 hc).1, rfl, rfl⟩, fun hc => ⟨(hs.2 hc).1, rfl, rfl⟩⟩
  case h_3 =>
    rw [semBin_ang] at hs ⊢
    obtain ⟨v', h1, h2, _, _⟩ := hs
    exact ⟨v', h1, h2, rfl, rfl⟩
  all_goals simp only [Tag.kind] at hq
  all_goals (repeat' split at hs)
  all_goals simp_all [eqK]
  all_goals first | (rw [if_neg (by omega)]; exact hs) | exact hs.1 | (exact hs.2 ▸ hs.1) | exact hs.2.2.1 | exact fun v hv => (hs.1 v hv).2

theorem sem_pure {tag : Tag} (hq : tag.kind = 0) {vs : List AV} {h h2 : Heap} {n n2 : Nat} {v : AV} (hs : sem tag vs h n (eqK v h n)) : sem tag vs h2 n2 (eqK v h2 n2) := by
  unfold sem at hs ⊢
  split at hs
  case h_2 c a b =>
    exact ⟨fun hc => ⟨(hs.1 hc).1, rfl, rfl⟩, fun hc => ⟨(hs.2 hc).1, rfl, rfl⟩⟩
  case h_3 =>
    rw [semBin_ang] at hs ⊢
    obtain ⟨v', h1, h2, _, _⟩ := hs
    exact ⟨v', h1, h2, rfl, rfl⟩
  all_goals simp only [Tag.kind] at hq
  all_goals (repeat' split at hs)
  all_goals simp_all [eqK]
  all_goals first | (rw [if_neg (by omega)]; exact hs) | exact hs.1 | (exact hs.2 ▸ hs.1) | exact hs.2.2.1 | exact fun v hv => (hs.1 v hv).2


def AV.snapT (h : Heap) : AV → AV
  | .tup vs => .tup (vs.map (AV.snap h))
  | v => v.snap h

/-- a call whose results are no more than read -/
def callD (R : List AV → AV → List AObj → Prop) (args : List AV) (h : Heap) (n : Nat) (K : Kont) : Prop :=
  ∃ r objs, R (args.map (AV.snap h)) r objs ∧ K (r.snapT (objsH objs)) h n

def CD (Γ : Ctx) : CallF := fun f xs h n K => match Γ f with
  | some (.pure R) => callD R xs h n K
  | some (.loose R) => xs.all AV.freeA = true ∧ callD R xs h n K
  | _ => False

def opD (Γ : Ctx) (o : IOper) (e : Env) (h : Heap) (n : Nat) (K : Kont) : Prop := opX (CD Γ) o e h n K

def drwK (Γ : Ctx) : List IOper → Env → Heap → Nat → (Env → Heap → Nat → Prop) → Prop
  | [], e, h, n, K => K e h n
  | o :: r, e, h, n, K => guardK o e (opD Γ o e h n fun v h' n' => drwK Γ r (e.updo o.dst v) h' n' K) (drwK Γ r (e.updo o.dst .undef) h n K)

def IOper.reads (o : IOper) : List Nat := (o.args.filterMap fun x => match x with | .t n => some n | .c _ => none) ++ (match o.g with | some (t, _) => [t] | none => [])

def apartB (i j : IOper) : Bool :=
  (match i.dst with
   | some d => !(j.reads.contains d) && j.dst != some d
   | none => true) &&
  (match j.dst with
   | some d => !(i.reads.contains d)
   | none => true) &&
  (i.tag.kind == 0 || j.tag.kind == 0 || (decide (i.tag.kind ≤ 1) && decide (j.tag.kind ≤ 1)))

theorem CD_ang (Γ : Ctx) (f : Nat) (xs : List AV) (h : Heap) (n : Nat) (K : Kont) : CD Γ f xs h n K ↔ ∃ v h' n', CD Γ f xs h n (eqK v h' n') ∧ K v h' n' := by
  unfold CD
  split
  · simp only [callD, eqK]
    constructor
    · rintro ⟨r, objs, h1, h2⟩; exact ⟨_, _, _, ⟨r, objs, h1, rfl, rfl, rfl⟩, h2⟩
    · rintro ⟨v, h', n', ⟨r, objs, h1, rfl, rfl, rfl⟩, h2⟩; exact ⟨r, objs, h1, h2⟩
  · simp only [callD, eqK]
    constructor
    · rintro ⟨h0, r, objs, h1, h2⟩; exact ⟨_, _, _, ⟨h0, r, objs, h1, rfl, rfl, rfl⟩, h2⟩
    · rintro ⟨v, h', n', ⟨h0, r, objs, h1, rfl, rfl, rfl⟩, h2⟩; exact ⟨h0, r, objs, h1, h2⟩
  · simp

theorem CD_quiet {Γ : Ctx} {f : Nat} {xs : List AV} {h h' : Heap} {n n' : Nat} {v : AV} (hs : CD Γ f xs h n (eqK v h' n')) : (h' = h ∧ n' = n) ∧ ∀ n2, CD Γ f xs h n2 (eqK v h n2) := by
  unfold CD at hs ⊢
  split at hs
  · obtain ⟨r, objs, h1, h2, rfl, rfl⟩ := hs; exact ⟨⟨rfl, rfl⟩, fun n2 => ⟨r, objs, h1, h2, rfl, rfl⟩⟩
  · obtain ⟨h0, r, objs, h1, h2, rfl, rfl⟩ := hs; exact ⟨⟨rfl, rfl⟩, fun n2 => ⟨h0, r, objs, h1, h2, rfl, rfl⟩⟩
  · exact hs.elim

theorem opD_ang (Γ : Ctx) (o : IOper) (e : Env) (h : Heap) (n : Nat) (K : Kont) : opD Γ o e h n K ↔ ∃ v h' n', opD Γ o e h n (eqK v h' n') ∧ K v h' n' := by
  unfold opD opX
  split
  · exact CD_ang _ _ _ _ _ _
  · split
    · exact CD_ang _ _ _ _ _ _
    · simp
  · exact sem_ang _ _ _ _ _

theorem opD_quiet {Γ : Ctx} {o : IOper} (hq : o.tag.kind ≤ 1) {e : Env} {h h' : Heap} {n n' : Nat} {v : AV} (hs : opD Γ o e h n (eqK v h' n')) : h' = h ∧ n' = n := by
  unfold opD opX at hs
  split at hs
  · exact (CD_quiet hs).1
  · split at hs
    · exact (CD_quiet hs).1
    · exact hs.elim
  · exact sem_quiet hq hs

theorem opD_n {Γ : Ctx} {o : IOper} (hq : o.tag.kind ≤ 1) {e : Env} {h : Heap} {n n2 : Nat} {v : AV} (hs : opD Γ o e h n (eqK v h n)) : opD Γ o e h n2 (eqK v h n2) := by
  unfold opD opX at hs ⊢
  split at hs
  · exact (CD_quiet hs).2 n2
  · split at hs
    · exact (CD_quiet hs).2 n2
    · exact hs.elim
  · exact sem_n hq hs

theorem opD_pure {Γ : Ctx} {o : IOper} (hq : o.tag.kind = 0) {e : Env} {h h2 : Heap} {n n2 : Nat} {v : AV} (hs : opD Γ o e h n (eqK v h n)) : opD Γ o e h2 n2 (eqK v h2 n2) := by
  unfold opD opX at hs ⊢
  split at hs
  · rename_i ht; rw [ht] at hq; cases hq
  · rename_i ht; rw [ht] at hq; cases hq
  · exact sem_pure hq hs

/-- One operation with its guard, as a relation. -/
def stepR (Γ : Ctx) (o : IOper) (e : Env) (h : Heap) (n : Nat) (v : AV) (h' : Heap) (n' : Nat) : Prop :=
  guardK o e (opD Γ o e h n (eqK v h' n')) (v = .undef ∧ h' = h ∧ n' = n)

theorem guardK_ang {o : IOper} {e : Env} {α : Type} (A : α → Prop) (B : α → Prop) (K : α → Prop) (yes no : Prop) (hy : yes ↔ ∃ x, A x ∧ K x) (hn : no ↔ ∃ x, B x ∧ K x) :
    guardK o e yes no ↔ ∃ x, guardK o e (A x) (B x) ∧ K x := by
  unfold guardK
  split
  · exact hy
  · split
    · rename_i b _ _ c _
      by_cases hcb : c = b
      · simp only [hcb, true_implies, ne_eq, not_true, false_implies, and_true]; exact hy
      · simp only [hcb, false_implies, ne_eq, not_false_iff, true_implies, true_and]; exact hn
    · exact hn
    · simp

theorem drwK_cons (Γ : Ctx) (o : IOper) (r : List IOper) (e : Env) (h : Heap) (n : Nat) (K : Env → Heap → Nat → Prop) :
    drwK Γ (o :: r) e h n K ↔ ∃ v h' n', stepR Γ o e h n v h' n' ∧ drwK Γ r (e.updo o.dst v) h' n' K := by
  simp only [drwK, stepR]
  have := guardK_ang (o := o) (e := e) (α := AV × Heap × Nat) (fun x => opD Γ o e h n (eqK x.1 x.2.1 x.2.2)) (fun x => x.1 = .undef ∧ x.2.1 = h ∧ x.2.2 = n) (fun x => drwK Γ r (e.updo o.dst x.1) x.2.1 x.2.2 K)
    (opD Γ o e h n fun v h' n' => drwK Γ r (e.updo o.dst v) h' n' K) (drwK Γ r (e.updo o.dst .undef) h n K)
    (by rw [opD_ang]; constructor
        · rintro ⟨v, h', n', h1, h2⟩; exact ⟨(v, h', n'), h1, h2⟩
        · rintro ⟨⟨v, h', n'⟩, h1, h2⟩; exact ⟨v, h', n', h1, h2⟩)
    (by constructor
        · intro h1; exact ⟨(.undef, h, n), ⟨rfl, rfl, rfl⟩, h1⟩
        · rintro ⟨⟨v, h', n'⟩, ⟨rfl, rfl, rfl⟩, h2⟩; exact h2)
  rw [this]
  constructor
  · rintro ⟨⟨v, h', n'⟩, h1, h2⟩; exact ⟨v, h', n', h1, h2⟩
  · rintro ⟨v, h', n', h1, h2⟩; exact ⟨(v, h', n'), h1, h2⟩

theorem stepR_quiet {Γ : Ctx} {o : IOper} (hq : o.tag.kind ≤ 1) {e : Env} {h h' : Heap} {n n' : Nat} {v : AV} (hs : stepR Γ o e h n v h' n') : h' = h ∧ n' = n := by
  unfold stepR guardK at hs
  split at hs
  · exact opD_quiet hq hs
  · split at hs
    · rename_i b _ _ c _
      by_cases hcb : c = b
      · exact opD_quiet hq (hs.1 hcb)
      · exact (hs.2 hcb).2
    · exact hs.2
    · exact hs.elim

theorem stepR_map {Γ : Ctx} {o : IOper} {e : Env} {h h2 : Heap} {n n2 : Nat} {v : AV} (ho : opD Γ o e h n (eqK v h n) → opD Γ o e h2 n2 (eqK v h2 n2)) (hs : stepR Γ o e h n v h n) : stepR Γ o e h2 n2 v h2 n2 := by
  unfold stepR guardK at hs ⊢
  split at hs
  · exact ho hs
  · split at hs
    · exact ⟨fun hc => ho (hs.1 hc), fun hc => ⟨(hs.2 hc).1, rfl, rfl⟩⟩
    · exact ⟨hs.1, rfl, rfl⟩
    · exact hs.elim

theorem ev_congr {e e2 : Env} : ∀ (l : List Opd), (∀ n, .t n ∈ l → e n = e2 n) → l.map (Opd.ev e) = l.map (Opd.ev e2)
  | [], _ => rfl
  | x :: r, h => by
    simp only [List.map_cons]
    rw [ev_congr r (fun n hn => h n (by simp [hn]))]
    congr 1
    cases x with
    | t n => exact h n (by simp)
    | c v => rfl

theorem stepR_env {Γ : Ctx} {o : IOper} {e e2 : Env} (he : ∀ n ∈ o.reads, e n = e2 n) {h h' : Heap} {n n' : Nat} {v : AV} (hs : stepR Γ o e h n v h' n') : stepR Γ o e2 h n v h' n' := by
  have h1 : o.args.map (Opd.ev e) = o.args.map (Opd.ev e2) := ev_congr _ (fun n hn => he n (by
    simp only [IOper.reads, List.mem_append, List.mem_filterMap]
    exact .inl ⟨.t n, hn, rfl⟩))
  have h2 : opD Γ o e h n (eqK v h' n') = opD Γ o e2 h n (eqK v h' n') := by unfold opD opX; simp only [h1]
  unfold stepR guardK at hs ⊢
  rw [← h2]
  split at hs
  · exact hs
  · rename_i t b hg
    rw [← he t (by simp [IOper.reads, hg])]
    exact hs

theorem updo_comm (e : Env) (i j : Option Nat) (v u : AV) (h : ∀ d, i = some d → j ≠ some d) : (e.updo i v).updo j u = (e.updo j u).updo i v := by
  cases i with
  | none => rfl
  | some d =>
    cases j with
    | none => rfl
    | some d' =>
      have hne : d ≠ d' := fun e => h d rfl (by rw [e])
      funext s
      simp only [Env.updo, Env.upd]
      by_cases h1 : s = d
      · subst h1; simp [hne]
      · by_cases h2 : s = d'
        · subst h2; simp [Ne.symm hne]
        · simp [h1, h2]

theorem updo_ne (e : Env) (i : Option Nat) (v : AV) (t : Nat) (h : ∀ d, i = some d → d ≠ t) : (e.updo i v) t = e t := by
  cases i with
  | none => rfl
  | some d => simp only [Env.updo, Env.upd]; rw [if_neg (Ne.symm (h d rfl))]

/-- Two operations that are apart change places. -/
theorem swap {Γ : Ctx} {i j : IOper} (hap : apartB i j = true) {e : Env} {h : Heap} {n : Nat} {K : Env → Heap → Nat → Prop}
    (hk : ∃ v h1 n1, stepR Γ i e h n v h1 n1 ∧ ∃ u h2 n2, stepR Γ j (e.updo i.dst v) h1 n1 u h2 n2 ∧ K ((e.updo i.dst v).updo j.dst u) h2 n2) :
    ∃ u h1 n1, stepR Γ j e h n u h1 n1 ∧ ∃ v h2 n2, stepR Γ i (e.updo j.dst u) h1 n1 v h2 n2 ∧ K ((e.updo j.dst u).updo i.dst v) h2 n2 := by
  obtain ⟨v, h1, n1, hi, u, h2, n2, hj, hK⟩ := hk
  simp only [apartB, Bool.and_eq_true, Bool.or_eq_true, beq_iff_eq, decide_eq_true_eq] at hap
  obtain ⟨⟨a1, a2⟩, a3⟩ := hap
  have b1 : ∀ d, i.dst = some d → d ∉ j.reads ∧ j.dst ≠ some d := by
    intro d hd; rw [hd] at a1; simpa using a1
  have b2 : ∀ d, j.dst = some d → d ∉ i.reads := by
    intro d hd; rw [hd] at a2; simpa using a2
  have hj' : stepR Γ j e h1 n1 u h2 n2 := stepR_env (fun t ht => updo_ne e i.dst v t (fun d hd e => (b1 d hd).1 (e ▸ ht))) hj
  have hi' : stepR Γ i (e.updo j.dst u) h n v h1 n1 := stepR_env (fun t ht => (updo_ne e j.dst u t (fun d hd e => b2 d hd (e ▸ ht))).symm) hi
  rw [updo_comm e i.dst j.dst v u (fun d hd => (b1 d hd).2)] at hK
  rcases a3 with (k0 | k0) | ⟨k1, k2⟩
  · obtain ⟨rfl, rfl⟩ := stepR_quiet (by omega) hi
    exact ⟨u, h2, n2, hj', v, h2, n2, stepR_map (fun q => opD_pure k0 q) hi', hK⟩
  · obtain ⟨rfl, rfl⟩ := stepR_quiet (by omega) hj
    exact ⟨u, h, n, stepR_map (fun q => opD_pure k0 q) hj', v, h2, n2, hi', hK⟩
  · obtain ⟨rfl, rfl⟩ := stepR_quiet k1 hi
    obtain ⟨rfl, rfl⟩ := stepR_quiet k2 hj
    exact ⟨u, h2, n2, hj', v, h2, n2, hi', hK⟩

/-- An operation that is apart from all ahead of it may come first. -/
theorem drw_first {Γ : Ctx} {o : IOper} {r : List IOper} {K : Env → Heap → Nat → Prop} : ∀ (l : List IOper) (e : Env) (h : Heap) (n : Nat), (∀ x ∈ l, apartB x o = true) → drwK Γ (l ++ o :: r) e h n K → drwK Γ (o :: (l ++ r)) e h n K
  | [], e, h, n, _, hk => hk
  | x :: l, e, h, n, hap, hk => by
    rw [List.cons_append, drwK_cons] at hk
    obtain ⟨v, h1, n1, hx, hk⟩ := hk
    have := drw_first l _ _ _ (fun y hy => hap y (by simp [hy])) hk
    rw [drwK_cons] at this
    obtain ⟨u, h2, n2, ho, hk⟩ := this
    obtain ⟨u', h1', n1', g1, v', h2', n2', g2, g3⟩ := swap (hap x (by simp)) (K := fun e h n => drwK Γ (l ++ r) e h n K) ⟨v, h1, n1, hx, u, h2, n2, ho, hk⟩
    rw [drwK_cons]
    refine ⟨u', h1', n1', g1, ?_⟩
    rw [List.cons_append, drwK_cons]
    exact ⟨v', h2', n2', g2, g3⟩

end Go.Proofs.Ytpfbkblgefddlaa.Av
