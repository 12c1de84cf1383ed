/- A whole function: from the rules for its body to a contract. -/
import Derived.Test.YtpfbkblgefddlaaAvCov
import Derived.Laws.Sem
namespace Go.Proofs.Ytpfbkblgefddlaa.Av
set_option linter.unusedSimpArgs false
set_option linter.unusedVariables false
open Go

inductive RRes where
  | t (t : Nat)
  | c1 (t : Nat)
  | cn (t s : Nat)

def cRes (P : Program) : ResultVar → Option RRes
  | .tmp t => some (.t t)
  | .cell a ty => match cAgg P ty, cSize P ty with
    | some true, some (s + 1) => some (.cn a (s + 1))
    | some false, some _ => some (.c1 a)
    | _, _ => none

/-- a pointer to cells that own nothing: these -/
def rowOfP (h : Heap) : AV → Option (List AV × Nat)
  | .ptr id i off => match h id with
    | some o => match o.plain with
      | true => (o.rowAt i).map fun r => (r, off)
      | false => none
    | none => none
  | .rptr row off => some (row, off)
  | _ => none

/-- the results, as the function leaves them -/
def resK (e : Env) (h : Heap) : List RRes → (List AV → Prop) → Prop
  | [], K => K []
  | .t t :: r, K => resK e h r fun vs => K (e t :: vs)
  | .c1 a :: r, K => match rowOfP h (e a) with
    | some (row, off) => (match row[off]? with
      | some c => resK e h r fun vs => K (c :: vs)
      | none => False)
    | none => False
  | .cn a s :: r, K => match rowOfP h (e a) with
    | some (row, off) => off + s ≤ row.length ∧ resK e h r fun vs => K (.agg (sub row off s) :: vs)
    | none => False

/-- one result is itself, several are a tuple -/
def tupOf : List AV → AV
  | [v] => v
  | vs => .tup vs

def envA (xs : List AV) : Env := fun t => xs.getD t .top

mutual
/-- without memory that somebody else may see -/
def AV.nov : AV → Bool
  | .val rows => rows.isEmpty
  | .rptr _ _ => false
  | .agg vs => AV.novs vs
  | .tup vs => AV.novs vs
  | .fn _ vs => AV.novs vs
  | .own _ rows => AV.novss rows
  | .tmp _ => false
  | _ => true
def AV.novs : List AV → Bool
  | [] => true
  | v :: r => v.nov && AV.novs r
def AV.novss : List (List AV) → Bool
  | [] => true
  | v :: r => AV.novs v && AV.novss r
end

def AObj.nov : AObj → Bool
  | .box row => AV.novs row
  | .arr _ rows => rows.all AV.novs
  | .nst _ rows => rows.all AV.novs
  | .arx _ rows => rows.all AV.novs

theorem novss_get : ∀ (vs : List (List AV)), AV.novss vs = true → ∀ (i : Nat) x, vs[i]? = some x → AV.novs x = true
  | [], _, i, x, h => by simp at h
  | v :: r, hn, i, x, h => by
    simp only [AV.novss, Bool.and_eq_true] at hn
    cases i with
    | zero => simp at h; subst h; exact hn.1
    | succ i => exact novss_get r hn.2 i x (by simpa using h)

theorem novs_get : ∀ (vs : List AV), AV.novs vs = true → ∀ (i : Nat) x, vs[i]? = some x → x.nov = true
  | [], _, i, x, h => by simp at h
  | v :: r, hn, i, x, h => by
    simp only [AV.novs, Bool.and_eq_true] at hn
    cases i with
    | zero => simp at h; subst h; exact hn.1
    | succ i => exact novs_get r hn.2 i x (by simpa using h)

theorem Rel.nov {w : World} {own own' : Nat → Prop} {π : PlF} {n : Nat} {x : AV} {v : Value} (h : Rel w own π n x v) (hn : x.nov = true) : Rel w own' π n x v := by
  induction h with
  | top v => exact .top v
  | undef => exact .undef
  | int k n => exact .int k n
  | bool b => exact .bool b
  | str s => exact .str s
  | agg vs cs hl _ ih => exact .agg vs cs hl (fun i x u h1 h2 => ih i x u h1 h2 (novs_get vs (by simpa [AV.nov] using hn) i x h1))
  | tup vs cs hl _ ih => exact .tup vs cs hl (fun i x u h1 h2 => ih i x u h1 h2 (novs_get vs (by simpa [AV.nov] using hn) i x h1))
  | refLive id off len b cap p hpp hb h1 h2 => exact .refLive id off len b cap p hpp hb h1 h2
  | refEnd id off o b p hpp hb => exact .refEnd id off o b p hpp hb
  | refNil id a p hpp hb => exact .refNil id a p hpp hb
  | refDead id off len v cap hpp hlt => exact .refDead id off len v cap hpp hlt
  | snil a => exact .snil a
  | valNil a cap => exact .valNil a cap
  | val rows g off cap s us hg hgs hc hm hs hf hu _ ih =>
    have : rows = [] := by simpa [AV.nov] using hn
    subst this
    exact .valNil _ _
  | tmp => simp [AV.nov] at hn
  | ptrLive id i off b p hpp hb => exact .ptrLive id i off b p hpp hb
  | ptrDead id i off v hpp hlt => exact .ptrDead id i off v hpp hlt
  | rptr row off g o us hg hgs hf hu _ ih => simp [AV.nov] at hn
  | pnil => exact .pnil
  | fn f caps cs hl _ ih => exact .fn f caps cs hl (fun i x u h1 h2 => ih i x u h1 h2 (novs_get caps (by simpa [AV.nov] using hn) i x h1))
  | fnil => exact .fnil
  | maybe c d b h1 h2 => exact .maybe c d b h1 h2

theorem ArrAt.nov {w : World} {own own' : Nat → Prop} {π : PlF} {n : Nat} {p : Place} {s : Nat} {rows : List (List AV)} (h : ArrAt w own π n p s rows) (hn : ∀ (i : Nat) row, rows[i]? = some row → AV.novs row = true) : ArrAt w own' π n p s rows := by
  obtain ⟨h0, h1, h2⟩ := h
  refine ⟨h0, h1, ?_⟩
  cases hb : p.blk with
  | none => simpa [hb] using h2
  | some b =>
    simp only [hb] at h2
    obtain ⟨cur, e, g1, g2, g3, g4, g5⟩ := h2
    exact ⟨cur, e, g1, g2, g3, g4, fun i j row x u a1 a2 a3 => (g5 i j row x u a1 a2 a3).nov (novs_get row (hn i row a1) j x a2)⟩

theorem NstAt.nov {w : World} {own own' : Nat → Prop} {π : Pl} {n id : Nat} {p : Place} {s : Nat} {rows : List (List AV)} (h : NstAt w own π n id p s rows) (hn : ∀ (i : Nat) row, rows[i]? = some row → AV.novs row = true) : NstAt w own' π n id p s rows := by
  obtain ⟨h0, h1, h2⟩ := h
  refine ⟨h0, h1, ?_⟩
  cases hb : p.blk with
  | none => simpa [hb] using h2
  | some b =>
    simp only [hb] at h2
    obtain ⟨cur, e, g1, g2, g3, g4, g5⟩ := h2
    refine ⟨cur, e, g1, g2, g3, g4, fun i j row x u a1 a2 a3 => ?_⟩
    have hc := g5 i j row x u a1 a2 a3
    have hx := novs_get row (hn i row a1) j x a2
    by_cases hl : x.lone = true
    · exact (cellAt_lone hl).2 (((cellAt_lone hl).1 hc).nov hx)
    · cases x <;> simp [AV.lone] at hl
      rcases hc with hc | ⟨q, b', cap, k1, k2, k3, k4, k5, k6⟩
      · exact .inl hc
      · exact .inr ⟨q, b', cap, k1, k2, k3, k4, k5, k6.nov (fun i row hr => novss_get _ (by simpa [AV.nov] using hx) i row hr)⟩

theorem ObjAt.nov {w : World} {own own' : Nat → Prop} {π : Pl} {n id : Nat} {p : Place} {o : AObj} (h : ObjAt w own π n id p o) (hn : o.nov = true) : ObjAt w own' π n id p o := by
  have key : ∀ rows : List (List AV), rows.all AV.novs = true → ∀ (i : Nat) row, rows[i]? = some row → AV.novs row = true := fun rows h i row hr => (List.all_eq_true.1 h) row (List.mem_of_getElem? hr)
  cases o with
  | box row =>
    obtain ⟨b, cur, e, h1, h2, h3, h4⟩ := h
    exact ⟨b, cur, e, h1, h2, h3, fun j x u hx hu => (h4 j x u hx hu).nov (novs_get row hn j x hx)⟩
  | arr s rows => exact ArrAt.nov h (key rows hn)
  | nst s rows => exact ⟨NstAt.nov h.1 (key rows hn), h.2⟩
  | arx s rows => exact NstAt.nov h (key rows hn)

section
variable {P : Program} {w0 : World} {pass own0 : Nat → Prop} {π : Pl} {e : Env} {h : Heap} {n : Nat} {a : Act} {w : World}

theorem run_loadVar_of {t : TypeId} {ad : Addr} {u : Value} {w : World} (h : (Instr.loadAt t (.pointer (some ad))).run P w = .ok u w) : (do loadVar t (← asAddr (.pointer (some ad)))).run P w = .ok u w := by
  simpa [Instr.loadAt, Instr.sureAddr, asAddr] using h

theorem rowOfP_spec {h : Heap} {x : AV} {row : List AV} {off : Nat} (hw : rowOfP h x = some (row, off)) : rowOf h x = some (row, off) ∧ ∀ c, okRow h x c := by
  cases x <;> simp only [rowOfP] at hw <;> first | cases hw | skip
  · rename_i id i off'
    simp only [rowOf, okRow]
    split at hw
    · rename_i o ho
      split at hw
      · rename_i hp
        simp only [ho]
        exact ⟨hw, fun c => .inl hp⟩
      · cases hw
    · cases hw
  · exact ⟨rfl, fun c => trivial⟩

theorem val_ld1 (s : Sim w0 pass own0 π e h n a w) {t : TypeId} (ha : cAgg P t = some false) {x c : AV} {v : Value} (hr : Rel w (ownOf own0 π) π n x v) {row : List AV} {off : Nat} (hw : rowOfP h x = some (row, off))
    (hc : row[off]? = some c) : ∃ u, (do loadVar t (← asAddr v)).run P w = .ok u w ∧ Rel w (ownOf own0 π) π n c u := by
  obtain ⟨hw, hok⟩ := rowOfP_spec hw
  obtain ⟨ad, rfl, hsp, hcells⟩ := cells_of_ptr s.hs hr hw (List.getElem?_eq_some_iff.1 hc).1
  obtain ⟨u, h1, h2⟩ := hcells 0 c (by simpa using hc) (hok _)
  refine ⟨u, run_loadVar_of (run_ld1 ha (u := u) ?_), h2⟩
  rw [← h1]; cases ad; simp at hsp; subst hsp; rfl

theorem val_ldn (s : Sim w0 pass own0 π e h n a w) {t : TypeId} (ha : cAgg P t = some true) {z : Nat} (hz : cSize P t = some z) {x : AV} {v : Value} (hr : Rel w (ownOf own0 π) π n x v) {row : List AV} {off : Nat} (hw : rowOfP h x = some (row, off))
    (hc : off + z ≤ row.length) (hz0 : 0 < z) : ∃ u, (do loadVar t (← asAddr v)).run P w = .ok u w ∧ Rel w (ownOf own0 π) π n (.agg (sub row off z)) u := by
  obtain ⟨hw, hok⟩ := rowOfP_spec hw
  obtain ⟨ad, rfl, hsp, hcells⟩ := cells_of_ptr s.hs hr hw (by omega)
  have hex : ∀ j : Nat, ∃ u, j < z → w.cell? ⟨ad.block, ad.off + j, none⟩ = some u ∧ ∀ c, row[off + j]? = some c → Rel w (ownOf own0 π) π n c u := by
    intro j
    by_cases hj : j < z
    · obtain ⟨u, h1, h2⟩ := hcells j row[off + j] (List.getElem?_eq_getElem (by omega)) (hok _)
      exact ⟨u, fun _ => ⟨h1, fun c hc => by rw [List.getElem?_eq_getElem (by omega)] at hc; cases hc; exact h2⟩⟩
    · exact ⟨Go.undef, fun h => absurd h hj⟩
  obtain ⟨f, hf⟩ := Classical.axiomOfChoice hex
  have hcs : ∀ (j : Nat) u, ((List.range z).map f)[j]? = some u → j < z ∧ u = f j := by
    intro j u hj
    simp only [List.getElem?_map, Option.map_eq_some_iff] at hj
    obtain ⟨k, hk, rfl⟩ := hj
    obtain ⟨h1, h2⟩ := List.getElem?_eq_some_iff.1 hk
    simp at h1 h2; subst h2; exact ⟨h1, rfl⟩
  refine ⟨_, run_loadVar_of (run_ldn ha hz (cs := (List.range z).map f) (by simp) ?_), ?_⟩
  · intro j u hj
    obtain ⟨h1, rfl⟩ := hcs j u hj
    rw [add_eq ad hsp]
    exact (hf j h1).1
  · refine .agg _ _ (by simp [length_sub _ _ _ hc]) (fun j c u h1 h2 => ?_)
    obtain ⟨h3, rfl⟩ := hcs j u (by simpa using h2)
    rw [getElem?_sub, if_pos h3] at h1
    exact (hf j h3).2 c h1

def resSem (tmps : Array Value) : ResultVar → Sem Value
  | .tmp t => pure (tmps.getD t undef)
  | .cell a t => do loadVar t (← asAddr (tmps.getD a undef))

theorem rels_cons {own : Nat → Prop} {N : Nat} {x : AV} {v : Value} {xs : List AV} {vs : List Value} (h : Rel w own π N x v) (hs : Rels w own π N xs vs) : Rels w own π N (x :: xs) (v :: vs) := by
  refine ⟨by simp [hs.1], fun i y u h1 h2 => ?_⟩
  cases i with
  | zero => simp at h1 h2; subst h1; subst h2; exact h
  | succ i => exact hs.2 i y u (by simpa using h1) (by simpa using h2)

theorem res_sound (s : Sim w0 pass own0 π e h n a w) : ∀ (rvs : List ResultVar) (rs : List RRes) (K : List AV → Prop), rvs.map (cRes P) = rs.map some → resK e h rs K →
    ∃ vs us, (rvs.mapM (resSem a.tmps)).run P w = .ok us w ∧ Rels w (ownOf own0 π) π n vs us ∧ K vs
  | [], rs, K, hm, hk => by
    have : rs = [] := by cases rs <;> simp_all
    subst this
    exact ⟨[], [], by simp, ⟨rfl, by simp⟩, hk⟩
  | rv :: rvs, [], K, hm, _ => by simp at hm
  | rv :: rvs, r :: rs, K, hm, hk => by
    simp only [List.map_cons, List.cons.injEq] at hm
    obtain ⟨h1, h2⟩ := hm
    have fin : ∀ (c : AV) u, (resSem a.tmps rv).run P w = .ok u w → Rel w (ownOf own0 π) π n c u → resK e h rs (fun vs => K (c :: vs)) →
        ∃ vs us, ((rv :: rvs).mapM (resSem a.tmps)).run P w = .ok us w ∧ Rels w (ownOf own0 π) π n vs us ∧ K vs := by
      intro c u hu hr hk
      obtain ⟨vs, us, g1, g2, g3⟩ := res_sound s rvs rs _ h2 hk
      exact ⟨c :: vs, u :: us, by simp [List.mapM_cons, hu, g1], rels_cons hr g2, g3⟩
    cases rv with
    | tmp t =>
      simp only [cRes, Option.some.injEq] at h1
      subst h1
      exact fin _ _ (by simp [resSem]) (s.env t) hk
    | cell ad ty =>
      simp only [cRes] at h1
      split at h1
      · rename_i z hag hsz
        cases h1
        simp only [resK] at hk
        split at hk
        · rename_i row off hro
          obtain ⟨u, g1, g2⟩ := val_ldn s hag hsz (s.env ad) hro hk.1 (by omega)
          exact fin _ u g1 g2 hk.2
        · exact hk.elim
      · rename_i z hag hsz
        cases h1
        simp only [resK] at hk
        split at hk
        · rename_i row off hro
          split at hk
          · rename_i c hc
            obtain ⟨u, g1, g2⟩ := val_ld1 s hag (s.env ad) hro hc
            exact fin _ u g1 g2 hk
          · exact hk.elim
        · exact hk.elim
      · cases h1

theorem results_sound (s : Sim w0 pass own0 π e h n a w) {fn : Func} {rs : List RRes} (hm : fn.results.toList.map (cRes P) = rs.map some) {K : List AV → Prop} (hk : resK e h rs K) :
    ∃ vs v, (results fn a.tmps).run P w = .ok v w ∧ Rel w (ownOf own0 π) π n (tupOf vs) v ∧ K vs := by
  obtain ⟨vs, us, g1, g2, g3⟩ := res_sound s _ rs K hm hk
  refine ⟨vs, if h : us.toArray.size = 1 then us.toArray[0] else .tuple us.toArray, ?_, ?_, g3⟩
  · have e1 : results fn a.tmps = (do
        let vs ← fn.results.mapM (resSem a.tmps)
        pure (if h : vs.size = 1 then vs[0] else .tuple vs)) := by
      unfold results
      congr 2
    rw [e1, Array.mapM_eq_mapM_toList]
    simp [g1]
  · match vs, us, g2 with
    | [x], [u], g2 => simpa [tupOf] using g2.2 0 x u rfl rfl
    | [], [], g2 => simpa [tupOf] using Rel.tup [] #[] rfl (by simp)
    | x :: y :: r, u :: v :: q, g2 =>
      simp only [tupOf]
      rw [dif_neg (by simp)]
      exact .tup _ _ (by simpa using g2.1.symm) (fun i x u h1 h2 => g2.2 i x u h1 (by simpa using h2))
    | [], _ :: _, g2 => exact absurd g2.1 (by simp)
    | _ :: _, [], g2 => exact absurd g2.1 (by simp)
    | [_], _ :: _ :: _, g2 => exact absurd g2.1 (by simp)
    | _ :: _ :: _, [_], g2 => exact absurd g2.1 (by simp)

/-- what the loaded function is, as a contract's proof needs it -/
structure Body (P : Program) (f : Nat) (N : Nat) (ic : ICode) (rs : List RRes) : Prop where
  body : ∃ fn c, P.funcs[f]? = some fn ∧ fn.body = some c ∧ fn.ntmps = N ∧ comp P N c = some ic ∧ fn.results.toList.map (cRes P) = rs.map some ∧ fn.name ≠ "runtime.NumGoroutine"

theorem Body.has {f N : Nat} {ic : ICode} {rs : List RRes} (b : Body P f N ic rs) : HasBody P f := by
  obtain ⟨fn, c, h1, h2, _, _, _, h3⟩ := b.body
  exact ⟨fn, h1, by simp [h2], h3⟩

theorem body_mk {f N : Nat} {ic : ICode} {rs : List RRes} {fn : Func} (hf : P.funcs[f]? = some fn)
    (h : (fn.body.map fun c => (comp P fn.ntmps c, fn.ntmps, fn.results.toList.map (cRes P))) = some (some ic, N, rs.map some)) (hn : fn.name ≠ "runtime.NumGoroutine") : Body P f N ic rs := by
  obtain ⟨c, h1, h2⟩ := Option.map_eq_some_iff.1 h
  simp only [Prod.mk.injEq] at h2
  obtain ⟨h3, rfl, h5⟩ := h2
  exact ⟨fn, c, hf, h1, rfl, h3, h5, hn⟩

theorem envA_rel {own : Nat → Prop} {N : Nat} {xs : List AV} {vs : Array Value} (hr : Rels w own π N xs vs.toList) (m : Nat) (t : Nat) : Rel w own π N (envA xs t) ((vs ++ Array.replicate m undef).getD t Go.undef) := by
  simp only [envA, List.getD_eq_getElem?_getD]
  cases hx : xs[t]? with
  | none => exact .top _
  | some x =>
    have hlt := (List.getElem?_eq_some_iff.1 hx).1
    have hlv : t < vs.size := by have := hr.1; simp at this; omega
    have : (vs ++ Array.replicate m undef).getD t Go.undef = vs[t] := by
      simp [Array.getD_eq_getD_getElem?, Array.getElem?_append, hlv]
    rw [this]
    exact hr.2 t x _ hx (by simp [hlv])

theorem pure_of_aw {f N : Nat} {ic : ICode} {rs : List RRes} (b : Body P f N ic rs) {R : List AV → AV → List AObj → Prop}
    (H : ∀ xs r objs, R xs r objs → (∃ w own vs, Rels w own noPl 0 xs vs) → xs.length ≤ N ∧
      Aw P N 0 ic (fun x e h n => (x = .ret ∨ x = .normal) ∧ resK e h rs fun vs => ∃ σ, CovS σ h (objs.map some) ∧ covV σ h (tupOf vs) r ∧ r.nov = true ∧ objs.all AObj.nov = true) (envA xs) Heap.none 0) : PureSound P f R := by
  intro w own xs vs r objs hr hR
  obtain ⟨fn, c, hf, hb, rfl, hc, hres, _⟩ := b.body
  obtain ⟨hlen, haw⟩ := H xs r objs hR ⟨w, own, _, hr⟩
  have hvs : vs.size ≤ fn.ntmps := by have := hr.1; simp at this; omega
  let own1 : Nat → Prop := fun b => own b ∧ b < w.heap.size
  have st : St w (fun _ => False) own1 ⟨0, noPl⟩ fn.ntmps (envA xs) Heap.none 0 { tmps := vs ++ Array.replicate (fn.ntmps - vs.size) undef, defers := [] } w := by
    refine ⟨rfl, by simp; omega, noPl, ⟨Nat.le_refl _, fun id hid => by simp at hid⟩, ⟨⟨fun _ _ => rfl, fun id o ho => by simp [Heap.none] at ho, fun _ _ _ _ _ h => by simp [noPl] at h, fun _ _ _ h => by simp [noPl] at h, fun b hb => hb.2, fun _ _ h => by simp [noPl] at h⟩,
      ⟨rfl, rfl, rfl, Nat.le_refl _, fun _ _ _ => rfl, fun _ _ _ h => by simp [noPl] at h, fun _ _ h => by simp [noPl] at h⟩, fun t => ?_⟩⟩
    refine envA_rel (w := w) (π := noPl) ⟨hr.1, fun i x v h1 h2 => (hr.2 i x v h1 h2).ofNo ?_⟩ _ t
    rintro b ((hb | hb) | ⟨_, _, h, _⟩)
    · exact hb.1
    · simp [noPl] at hb
    · simp [noPl] at h
  have hwp := haw c hc w (fun _ => False) own1 ⟨0, noPl⟩ rfl _ w st
  refine calls_of_wp hf hb (wp_mono hwp ?_)
  rintro x a' w' ⟨e', h', n', ⟨hx, hk⟩, hdef, _, π', _, s⟩
  obtain ⟨ws, v, g1, g2, σ, hcov, hcv, hn1, hn2⟩ := results_sound s hres hk
  have hs := hs_cov s.hs hcov
  have hf := fr_cov s.fr hcov
  have hrel := rel_cov s.hs hcov r _ v hcv g2
  have hO : objsO (objs.map some) = objsH objs := by
    funext j
    simp only [objsO, objsH, List.getElem?_map]
    cases objs[j]? <;> rfl
  have hnew : ∀ id p b, covPl σ (objs.map some) π' id = some p → p.blk = some b → w.heap.size ≤ b := fun id p b h1 h2 => (hf.blk id p b h1 h2).resolve_right (fun h => h)
  have fin : a'.defers = [] ∧ ∃ v, (results fn a'.tmps).run P w' = .ok v w' ∧ ∃ v1 π1, Ending.returned v = .returned v1 ∧ Ext w w' (fun _ => False) ∧ HSim (· < w.heap.size) π1 (objsH objs) objs.length w' ∧ Rel w' (ownOf (· < w.heap.size) π1) π1 objs.length r v1 := by
    refine ⟨hdef, v, g1, v, covPl σ (objs.map some) π', rfl, ⟨s.fr.os, s.fr.tape, s.fr.output, s.fr.size, s.fr.kept⟩, ?_, ?_⟩
    · rw [hO, List.length_map] at hs
      refine ⟨hs.dom, fun id o ho => ?_, hs.inj, fun id p b h1 h2 hlt => ?_, fun b hb => Nat.lt_of_lt_of_le hb s.fr.size, fun b k hb => ?_⟩
      · obtain ⟨k1, p, k2, k3⟩ := hs.obj id o ho
        exact ⟨k1, p, k2, k3.nov ((List.all_eq_true.1 hn2) o (List.mem_of_getElem? ho))⟩
      · have := hnew id p b h1 h2; omega
      · obtain ⟨g1, g2, g3, g4⟩ := hs.hid b k hb
        exact ⟨fun hlt => by have := (hf.hid b k hb).resolve_right (fun h => h); omega, g2, g3, g4⟩
    · rw [List.length_map] at hrel
      exact hrel.nov hn1
  rcases hx with rfl | rfl <;> exact fin

theorem loose_of_aw {f N : Nat} {ic : ICode} {rs : List RRes} (b : Body P f N ic rs) {R : List AV → AV → List AObj → Prop}
    (H : ∀ xs r objs, R xs r objs → (∃ w own vs, Rels w own noPl 0 xs vs) → xs.length ≤ N ∧
      Aw P N 0 ic (fun x e h n => (x = .ret ∨ x = .normal) ∧ resK e h rs fun vs => ∃ σ, CovS σ h (objs.map some) ∧ covV σ h (tupOf vs) r) (envA xs) Heap.none 0) : LooseSound P f R := by
  intro w own xs vs r objs hown hr hR
  obtain ⟨fn, c, hf, hb, rfl, hc, hres, _⟩ := b.body
  obtain ⟨hlen, haw⟩ := H xs r objs hR ⟨w, own, _, hr⟩
  have hvs : vs.size ≤ fn.ntmps := by have := hr.1; simp at this; omega
  have st : St w (fun _ => False) own ⟨0, noPl⟩ fn.ntmps (envA xs) Heap.none 0 { tmps := vs ++ Array.replicate (fn.ntmps - vs.size) undef, defers := [] } w := by
    refine ⟨rfl, by simp; omega, noPl, ⟨Nat.le_refl _, fun id hid => by simp at hid⟩, ⟨⟨fun _ _ => rfl, fun id o ho => by simp [Heap.none] at ho, fun _ _ _ _ _ h => by simp [noPl] at h, fun _ _ _ h => by simp [noPl] at h, hown, fun _ _ h => by simp [noPl] at h⟩,
      ⟨rfl, rfl, rfl, Nat.le_refl _, fun _ _ _ => rfl, fun _ _ _ h => by simp [noPl] at h, fun _ _ h => by simp [noPl] at h⟩, fun t => ?_⟩⟩
    refine envA_rel (w := w) (π := noPl) ⟨hr.1, fun i x v h1 h2 => (hr.2 i x v h1 h2).ofNo ?_⟩ _ t
    rintro b ((hb | hb) | ⟨_, _, h, _⟩)
    · exact hb
    · simp [noPl] at hb
    · simp [noPl] at h
  have hwp := haw c hc w (fun _ => False) own ⟨0, noPl⟩ rfl _ w st
  refine calls_of_wp hf hb (wp_mono hwp ?_)
  rintro x a' w' ⟨e', h', n', ⟨hx, hk⟩, hdef, _, π', _, s⟩
  obtain ⟨ws, v, g1, g2, σ, hcov, hcv⟩ := results_sound s hres hk
  have hs := hs_cov s.hs hcov
  have hf := fr_cov s.fr hcov
  have hrel := rel_cov s.hs hcov r _ v hcv g2
  have hO : objsO (objs.map some) = objsH objs := by
    funext j
    simp only [objsO, objsH, List.getElem?_map]
    cases objs[j]? <;> rfl
  have hnew : ∀ id p b, covPl σ (objs.map some) π' id = some p → p.blk = some b → w.heap.size ≤ b := fun id p b h1 h2 => (hf.blk id p b h1 h2).resolve_right (fun h => h)
  have fin : a'.defers = [] ∧ ∃ v, (results fn a'.tmps).run P w' = .ok v w' ∧ ∃ v1 π1, Ending.returned v = .returned v1 ∧ Ext w w' (fun _ => False) ∧ HSim own π1 (objsH objs) objs.length w' ∧ (∀ b, π1.has b → w.heap.size ≤ b) ∧ Rel w' (ownOf own π1) π1 objs.length r v1 := by
    rw [hO, List.length_map] at hs
    rw [List.length_map] at hrel
    refine ⟨hdef, v, g1, v, covPl σ (objs.map some) π', rfl, ⟨s.fr.os, s.fr.tape, s.fr.output, s.fr.size, s.fr.kept⟩, hs, fun b hb => ?_, hrel⟩
    rcases hb with ⟨id, p, h1, h2⟩ | hb
    · exact hnew id p b h1 h2
    · obtain ⟨k, hk⟩ := Option.isSome_iff_exists.1 hb
      exact (hf.hid b k hk).resolve_right (fun h => h)
  rcases hx with rfl | rfl <;> exact fin

theorem gen_of_aw {f N k : Nat} {ic : ICode} {rs : List RRes} (b : Body P f N ic rs) {G : GFun}
    (H : ∀ xs objs Q, objs.length = k → G xs objs Q → (∃ w own0 π vs, HSim own0 π (objsH objs) k w ∧ Rels w (ownOf own0 π) π k xs vs) → xs.length ≤ N ∧
      Aw P N k ic (fun x e h n => (x = .ret ∨ x = .normal) ∧ resK e h rs fun vs => ∃ σ r out, CovS σ h out ∧ covV σ h (tupOf vs) r ∧ ancB σ out k = true ∧ Q r out) (envA xs) (objsH objs) k) : GenSound P f k G := by
  intro w own0 π objs xs vs Q hl hs0 hr hG
  obtain ⟨fn, c, hf, hb, rfl, hc, hres, _⟩ := b.body
  obtain ⟨hlen, haw⟩ := H xs objs Q hl hG ⟨w, own0, π, _, hs0, hr⟩
  have hvs : vs.size ≤ fn.ntmps := by have := hr.1; simp at this; omega
  let pass : Nat → Prop := π.has
  have st : St w pass own0 ⟨k, π⟩ fn.ntmps (envA xs) (objsH objs) k { tmps := vs ++ Array.replicate (fn.ntmps - vs.size) undef, defers := [] } w := by
    refine ⟨rfl, by simp; omega, π, ⟨Nat.le_refl _, fun id _ => .inl rfl⟩, ⟨hs0, ⟨rfl, rfl, rfl, Nat.le_refl _, fun _ _ _ => rfl, fun id p b h1 h2 => .inr (.inl ⟨id, p, h1, h2⟩), fun b k hb => .inr (.inr (by rw [hb]; rfl))⟩, fun t => envA_rel hr _ t⟩⟩
  have hwp := haw c hc w pass own0 ⟨k, π⟩ rfl _ w st
  refine calls_of_wp hf hb (wp_mono hwp ?_)
  rintro x a' w' ⟨e', h', n', ⟨hx, hk⟩, hdef, _, π', hA, s⟩
  obtain ⟨ws, v, g1, g2, σ, r, out, hcov, hcv, hanc, hQ⟩ := results_sound s hres hk
  have hs := hs_cov s.hs hcov
  have hfr := fr_cov s.fr hcov
  have hrel := rel_cov s.hs hcov r _ v hcv g2
  have hA2 := anc_cov (A := ⟨k, π⟩) hcov hanc hA
  have fin : a'.defers = [] ∧ ∃ v, (results fn a'.tmps).run P w' = .ok v w' ∧ ∃ v1 π1 r out, Ending.returned v = .returned v1 ∧ Q r out ∧ k ≤ out.length ∧ Ext w w' π.has ∧
      (∀ id p, π id = some p → π1 id = some p ∨ π1 id = none) ∧ (∀ b, π1.has b → w.heap.size ≤ b ∨ π.has b) ∧
      HSim own0 π1 (objsO out) out.length w' ∧ Rel w' (ownOf own0 π1) π1 out.length r v1 := by
    refine ⟨hdef, v, g1, v, covPl σ out π', r, out, rfl, hQ, hA2.1, ⟨s.fr.os, s.fr.tape, s.fr.output, s.fr.size, s.fr.kept⟩, fun id p hp => ?_, fun b hb => ?_, hs, hrel⟩
    · rcases hA2.2 id (hs0.lt hp).1 with h1 | h1
      · exact .inl (by rw [h1]; exact hp)
      · exact .inr h1
    · rcases hb with ⟨id, p, h1, h2⟩ | hb
      · exact hfr.blk id p b h1 h2
      · obtain ⟨k, hk⟩ := Option.isSome_iff_exists.1 hb
        exact hfr.hid b k hk
  rcases hx with rfl | rfl <;> exact fin

end
end Go.Proofs.Ytpfbkblgefddlaa.Av
