/- Regions of open order with calls that write: soundness. -/
import Derived.Test.YtpfbkblgefddlaaAvDrd
namespace Go.Proofs.Ytpfbkblgefddlaa.Av
set_option linter.unusedSimpArgs false
set_option linter.unusedVariables false
open Go

def sapFrom (ios : List IOper) (io : IOper) (bs : List Nat) : Nat → Bool
  | 0 => true
  | i + 1 => sapFrom ios io bs i && (bs.contains i || match ios[i]? with
    | some x => sapB x io
    | none => false)

def drdOkG (ios : List IOper) (bs : List (List Nat)) : List Oper → Nat → Bool
  | [], _ => true
  | o :: r, j => (direct o).all (· < j) && (match ios[j]? with
    | some io => sapFrom ios io (bs.getD j []) j
    | none => false) && drdOkG ios bs r (j + 1)

def drdOk (ops : Array Oper) (ios : List IOper) : Bool := drdOkG ios (befG ops.toList []) ops.toList 0

/-- the pairs of which the order is open -/
def uOf (us : List (List Nat)) : UF := fun i j => decide (i < j) && !((us.getD j []).contains i)

theorem sapFrom_spec {ios : List IOper} {io : IOper} {bs : List Nat} : ∀ (m : Nat), sapFrom ios io bs m = true → ∀ i, i < m → i ∈ bs ∨ ∃ x, ios[i]? = some x ∧ sapB x io = true
  | 0, _, i, hi => by omega
  | m + 1, h, i, hi => by
    simp only [sapFrom, Bool.and_eq_true, Bool.or_eq_true] at h
    by_cases him : i = m
    · subst him
      rcases h.2 with h2 | h2
      · exact .inl (by simpa using h2)
      · split at h2
        · rename_i x hx; exact .inr ⟨x, hx, h2⟩
        · cases h2
    · exact sapFrom_spec m h.1 i (by omega)

theorem drdOkG_spec {ios : List IOper} {bs : List (List Nat)} : ∀ (l : List Oper) (j0 : Nat), drdOkG ios bs l j0 = true → ∀ i o, l[i]? = some o →
    (∀ d ∈ direct o, d < j0 + i) ∧ ∃ io, ios[j0 + i]? = some io ∧ ∀ k, k < j0 + i → k ∈ bs.getD (j0 + i) [] ∨ ∃ x, ios[k]? = some x ∧ sapB x io = true
  | [], _, _, i, o, h => by simp at h
  | o' :: r, j0, hh, 0, o, h => by
    simp only [drdOkG, Bool.and_eq_true, List.all_eq_true, decide_eq_true_eq] at hh
    simp at h; subst h
    refine ⟨hh.1.1, ?_⟩
    obtain ⟨⟨_, h2⟩, _⟩ := hh
    split at h2
    · rename_i io hio; exact ⟨io, hio, sapFrom_spec _ h2⟩
    · cases h2
  | o' :: r, j0, hh, i + 1, o, h => by
    simp only [drdOkG, Bool.and_eq_true] at hh
    have := drdOkG_spec r (j0 + 1) hh.2 i o (by simpa using h)
    have e : j0 + 1 + i = j0 + (i + 1) := by omega
    rwa [e] at this

/-- calls whose effect may be told weaker -/
def CU (Γ : Ctx) : CallF := fun f xs h n K => ∃ K0 : Kont, CK Γ f xs h n K0 ∧ ∀ v h' n', K0 v h' n' → K v h' n'

/-- contracts that have an outcome -/
def CtxNV (Γ : Ctx) : Prop := ∀ f k G, Γ f = some (.gen k G) → ∀ xs objs Q, G xs objs Q → ∃ r out, Q r out

theorem callGood_U {Γ : Ctx} (hV : CtxNV Γ) : CallGood (CU Γ) := by
  refine ⟨fun f xs h n K K' hk ⟨K0, h1, h2⟩ => ⟨K0, h1, fun v h' n' h3 => hk _ _ _ (h2 _ _ _ h3)⟩, fun f xs h n K ⟨K0, h1, h2⟩ => ?_⟩
  unfold CK at h1
  cases hS : Γ f with
  | none => simp [hS] at h1
  | some S =>
    simp only [hS] at h1
    cases S with
    | pure R =>
      obtain ⟨r, objs, _, h3⟩ := h1
      exact ⟨_, _, _, h2 _ _ _ h3⟩
    | loose R =>
      obtain ⟨_, r, objs, _, h3⟩ := h1
      exact ⟨_, _, _, h2 _ _ _ h3⟩
    | gen k G =>
      obtain ⟨_, _, h3⟩ := h1
      obtain ⟨r, out, h4⟩ := hV f k G hS _ _ _ h3
      exact ⟨_, _, _, h2 _ _ _ h4⟩

section
variable {P : Program} {w0 : World} {pass own0 : Nat → Prop} {A : Anch} {π : Pl} {e : Env} {h : Heap} {n : Nat} {a : Act} {w : World}

theorem callOk_U {Γ : Ctx} (hΓ : CtxSound P Γ) (hB : CtxBody P Γ) : CallOk P (CU Γ) := by
  intro f hf
  have hK := callOk_K hΓ hB f (by obtain ⟨xs, h, n, K, K0, h1, _⟩ := hf; exact ⟨xs, h, n, K0, h1⟩)
  refine ⟨hK.1, fun w0 pass own0 π e h n a w xs vs K s hr ⟨K0, h1, h2⟩ => ?_⟩
  refine (hK.2 w0 pass own0 π e h n a w xs vs K0 s hr h1).mono ?_
  rintro e' w' ⟨v, π', x, h', n', g1, g2, g3, g4⟩
  exact ⟨v, π', x, h', n', g1, g2, g3, h2 _ _ _ g4⟩

theorem any_soundD {C : CallF} (hC : CallOk P C) (hG : CallGood C) {ops : Array Oper} {ios : List IOper} {N : Nat} {Q : Exit → Act → World → Prop} {K : Env → Heap → Nat → Prop}
    (hc : ∀ (i : Nat) io, ios[i]? = some io → ∃ o, ops[i]? = some o ∧ cOper P ops o = some io ∧ ∀ t, io.dst = some t → t < N) (hok : drdOk ops ios = true)
    (hQ : ∀ e' h' n' a' w', K e' h' n' → St w0 pass own0 A N e' h' n' a' w' → Q .normal a' w') :
    ∀ (fuel : Nat) (listed : Array Bool) (acc : List DRec) (e : Env) (h : Heap) (n : Nat) (a : Act) (w : World), listed.size = ops.size → (unlisted listed ops.size).length = fuel →
      Closed ops (fun k => listed.getD k false = true) → St w0 pass own0 A N e h n a w → drdK C (uOf (befG ops.toList [])) ios (unlisted listed ops.size) acc e h n K →
      wpAny P .any ops Q fuel listed a w := by
  have hbs : ∀ (j : Nat) o, ops[j]? = some o → (∀ d ∈ direct o, d < j) ∧ ∃ io, ios[j]? = some io ∧ ∀ k, k < j → k ∈ (befG ops.toList []).getD j [] ∨ ∃ x, ios[k]? = some x ∧ sapB x io = true := by
    intro j o ho
    have := drdOkG_spec _ _ hok j o (by simpa using ho)
    rwa [Nat.zero_add] at this
  have hDF : ∀ (listed : Array Bool) (i : Nat), i < listed.size → (listed.getD i true = false ↔ ¬ listed.getD i false = true) := by
    intro listed i hi
    simp [Array.getD_eq_getD_getElem?, hi]
  have rdy : ∀ (listed : Array Bool), listed.size = ops.size → Closed ops (fun k => listed.getD k false = true) → Region.ready .any ops listed = [] → unlisted listed ops.size = [] := by
    intro listed hs hcl hr
    cases hu : unlisted listed ops.size with
    | nil => rfl
    | cons i r =>
      exfalso
      have hi := (mem_unlisted (listed := listed) (m := ops.size) (i := i)).1 (by rw [hu]; simp)
      have hir : i ∈ Region.ready .any ops listed := by
        rw [mem_ready]
        refine ⟨hi.2, ops[i], Array.getElem?_eq_getElem hi.1, fun ed he hb => ?_⟩
        have hd : ed.on ∈ direct ops[i] := by
          simp only [direct, List.mem_map, List.mem_filter]
          exact ⟨ed, ⟨by simpa using he, hb⟩, rfl⟩
        have hlt := (hbs i _ (Array.getElem?_eq_getElem hi.1)).1 _ hd
        by_cases hn : listed.getD ed.on false = true
        · exact hn
        · exfalso
          have hm : ed.on ∈ unlisted listed ops.size := mem_unlisted.2 ⟨by omega, (hDF listed ed.on (by omega)).2 hn⟩
          obtain ⟨l, r', h1, _, h3⟩ := unlisted_split (m := ops.size) (i := i) hi.1 hi.2
          rw [hu] at h1
          have hsorted : (unlisted listed ops.size).Pairwise (· < ·) := List.Pairwise.filter _ List.pairwise_lt_range
          rw [hu] at hsorted hm
          rw [List.pairwise_cons] at hsorted
          rcases List.mem_cons.1 hm with h | h
          · omega
          · have := hsorted.1 _ h; omega
      rw [hr] at hir
      simp at hir
  intro fuel
  induction fuel with
  | zero =>
    intro listed acc e h n a w hs hf hcl st hk
    have hnil : unlisted listed ops.size = [] := List.eq_nil_of_length_eq_zero hf
    rw [hnil] at hk
    refine ⟨?_, hQ _ _ _ _ _ hk st⟩
    cases hr : Region.ready .any ops listed with
    | nil => rfl
    | cons i r =>
      have := (mem_ready (md := .any) (ops := ops) (listed := listed) (j := i)).1 (by rw [hr]; simp)
      obtain ⟨h1, o, h2, _⟩ := this
      have : i ∈ unlisted listed ops.size := mem_unlisted.2 ⟨(Array.getElem?_eq_some_iff.1 h2).1, h1⟩
      rw [hnil] at this; simp at this
  | succ fuel ih =>
    intro listed acc e h n a w hs hf hcl st hk
    refine ⟨fun hr => ?_, fun i hi => ?_⟩
    · have := rdy listed hs hcl hr
      rw [this] at hf; simp at hf
    · rw [mem_ready] at hi
      obtain ⟨hl, o, ho, hed⟩ := hi
      have him : i < ops.size := (Array.getElem?_eq_some_iff.1 ho).1
      obtain ⟨l, r, h1, h2, h3⟩ := unlisted_split (m := ops.size) him hl
      have hdir : ∀ d ∈ direct o, listed.getD d false = true := by
        intro d hd
        simp only [direct, List.mem_map, List.mem_filter] at hd
        obtain ⟨ed, ⟨g1, g2⟩, rfl⟩ := hd
        exact hed ed (by simpa using g1) g2
      obtain ⟨_, io, g1, hsap⟩ := hbs i o ho
      obtain ⟨o', ho', hco, hdst⟩ := hc i io g1
      rw [ho] at ho'; cases ho'
      have hgood := befG_good hcl ops.toList [] (fun i o h => by simpa using h) (fun j l o hj => by simp at hj)
      have hap : ∀ x ∈ l, uOf (befG ops.toList []) x i = true ∧ ∃ xo, ios[x]? = some xo ∧ sapB xo io = true := by
        intro x hx
        obtain ⟨m1, m2⟩ := h3 x hx
        have hnb : x ∉ (befG ops.toList []).getD i [] := by
          intro b2
          have : (befG ops.toList [])[i]? = some ((befG ops.toList []).getD i []) := by
            rw [List.getD_eq_getElem?_getD] at b2 ⊢
            cases hh : (befG ops.toList [])[i]? with
            | none => rw [hh] at b2; simp at b2
            | some z => rfl
          have hLL := hgood i _ o this ho hdir _ b2
          exact ((hDF listed _ (by omega)).1 m2) hLL
        have hcf : ((befG ops.toList []).getD i []).contains x = false := by
          rw [Bool.eq_false_iff]
          intro hc
          exact hnb (List.contains_iff_mem.1 hc)
        refine ⟨by unfold uOf; rw [hcf]; simp [m1], ?_⟩
        rcases hsap x m1 with b2 | b2
        · exact absurd b2 hnb
        · exact b2
      rw [h1] at hk hf
      have hk' := drd_first hG g1 l acc e h n hap hk
      unfold wpOp
      simp only [ho]
      simp only [drdK, g1, stepT] at hk'
      refine oper_sound (P := P) hC hco hdst st (K := fun e' h' n' => ∃ acc', drdK C (uOf (befG ops.toList [])) ios (l ++ r) acc' e' h' n' K) ?_ ?_
      · rw [guardK_iff] at hk' ⊢
        rcases hk' with ⟨k1, k2⟩ | ⟨k1, k2⟩
        · exact .inl ⟨k1, opX_mono hG (fun v h' n' hv => ⟨_, hv.2⟩) k2⟩
        · exact .inr ⟨k1, _, k2⟩
      rintro e' h' n' a' w' ⟨acc', hk''⟩ st'
      refine ih (listed.setIfInBounds i true) acc' e' h' n' a' w' (by simpa using hs) ?_ ?_ st' (by rw [h2]; exact hk'')
      · rw [h2]; simp at hf ⊢; omega
      · intro j oj hoj hj d hd
        have hgd : ∀ k, listed.getD k false = true → (listed.setIfInBounds i true).getD k false = true := by
          intro k hk
          by_cases hik : i = k
          · subst hik; simp [Array.getD_eq_getD_getElem?, hs, him]
          · rw [getD_set _ hik]; exact hk
        by_cases hij : i = j
        · subst hij
          rw [ho] at hoj; cases hoj
          exact hgd d (hdir d hd)
        · rw [getD_set _ hij] at hj
          exact hgd d (hcl j oj hoj hj d hd)

theorem drd_sound {C : CallF} (hC : CallOk P C) (hG : CallGood C) {ops : Array Oper} {ios : List IOper} {N : Nat} {Q : Exit → Act → World → Prop} {K : Env → Heap → Nat → Prop}
    (hc : ∀ (i : Nat) io, ios[i]? = some io → ∃ o, ops[i]? = some o ∧ cOper P ops o = some io ∧ ∀ t, io.dst = some t → t < N) (hok : drdOk ops ios = true)
    (hQ : ∀ e' h' n' a' w', K e' h' n' → St w0 pass own0 A N e' h' n' a' w' → Q .normal a' w') (st : St w0 pass own0 A N e h n a w) (hk : drdK C (uOf (befG ops.toList [])) ios (List.range ops.size) [] e h n K) :
    wpAny P .any ops Q ops.size (Array.replicate ops.size false) a w := by
  have hu : unlisted (Array.replicate ops.size false) ops.size = List.range ops.size := by
    unfold unlisted
    rw [List.filter_eq_self]
    intro i hi
    simp at hi
    simp [Array.getD_eq_getD_getElem?, hi]
  refine any_soundD (P := P) hC hG hc hok hQ ops.size _ [] e h n a w (by simp) (by rw [hu]; simp) ?_ st (by rw [hu]; exact hk)
  intro j o hj hl
  exfalso
  have := (Array.getElem?_eq_some_iff.1 hj).1
  simp [Array.getD_eq_getD_getElem?, this] at hl

end
end Go.Proofs.Ytpfbkblgefddlaa.Av
