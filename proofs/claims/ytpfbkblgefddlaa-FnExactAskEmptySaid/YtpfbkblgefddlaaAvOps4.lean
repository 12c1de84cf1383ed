/- All operations but calls, in one. -/
import Derived.Test.YtpfbkblgefddlaaAvOps3
namespace Go.Proofs.Ytpfbkblgefddlaa.Av
set_option linter.unusedSimpArgs false
set_option linter.unusedVariables false
open Go

section
variable {P : Program} {w0 : World} {pass own0 : Nat → Prop} {π : Pl} {e : Env} {h : Heap} {n : Nat} {a : Act} {w : World}

def OpDone (P : Program) (w0 : World) (pass own0 : Nat → Prop) (π : Pl) (n : Nat) (w : World) (m : Sem Next) (K : Kont) : Prop :=
  ∃ nx v w' π' x h' n', m.run P w = .ok nx w' ∧ nextVal nx = some v ∧ Go1 w0 pass own0 π n w π' h' n' w' ∧ Rel w' (ownOf own0 π') π' n' x v ∧ K x h' n'

theorem opDone_value {m : Sem Value} {K : Kont} (hd : Done P w0 pass own0 π n w m K) : OpDone P w0 pass own0 π n w (do pure (.value (← m))) K := by
  obtain ⟨v, w', π', x, h', n', h1, h2, h3, h4⟩ := hd
  exact ⟨.value v, v, w', π', x, h', n', by simp [h1], rfl, h2, h3, h4⟩

theorem opDone_pure (s : Sim w0 pass own0 π e h n a w) {K : Kont} {v : Value} {x : AV} (hx : Rel w (ownOf own0 π) π n x v) (hk : K x h n) : OpDone P w0 pass own0 π n w (pure (.value v)) K :=
  ⟨.value v, v, w, π, x, h, n, by simp, rfl, s.stay, hx, hk⟩

theorem free_cVals : ∀ (vs : List Value) (xs : List AV), cVals vs = some xs → ∀ x ∈ xs, x.free = true
  | [], xs, hc => by cases hc; simp
  | v :: r, xs, hc => by
    unfold cVals at hc
    split at hc
    · rename_i x y h1 h2
      cases hc
      intro z hz
      rcases List.mem_cons.1 hz with rfl | hz
      · unfold cVal1 at h1
        split at h1 <;> first | cases h1; rfl | cases h1
      · exact free_cVals r y h2 z hz
    · cases hc

theorem free_zero {t : TypeId} {z : List AV} (hz : cZero P t = some z) : ∀ x ∈ z, x.free = true := by
  obtain ⟨_, _, _, _, h⟩ := cZero_spec hz
  exact free_cVals _ _ h

theorem map_some {α β : Type} {f : α → β} {o : Option α} {b : β} (h : o.map f = some b) : ∃ x, o = some x ∧ f x = b := Option.map_eq_some_iff.1 h

theorem op_done (s : Sim w0 pass own0 π e h n a w) {o : Oper} {tag : Tag} {args : List Opd} (hc : cOp P o.op = some (tag, args)) {K : Kont} (hk : sem tag (args.map (Opd.ev e)) h n K) :
    OpDone P w0 pass own0 π n w (execOp a.eval o) K := by
  unfold execOp
  cases hop : o.op <;> simp only [hop, cOp] at hc ⊢ <;> first | (cases hc; done) | skip
  case move x =>
    obtain ⟨l, h1, h2⟩ := map_some hc
    cases h2
    obtain ⟨y, rfl, hy⟩ := cOpds1 h1
    simp only [List.map_cons, List.map_nil, sem] at hk
    exact opDone_pure s (rel_opd s hy) hk
  case assign x =>
    obtain ⟨l, h1, h2⟩ := map_some hc
    cases h2
    obtain ⟨y, rfl, hy⟩ := cOpds1 h1
    simp only [List.map_cons, List.map_nil, sem] at hk
    exact opDone_pure s (rel_opd s hy) hk
  case pick c x y =>
    obtain ⟨l, h1, h2⟩ := map_some hc
    cases h2
    obtain ⟨c', x', y', rfl, hc', hx', hy'⟩ := cOpds3 h1
    have r1 := rel_opd s hc'
    have r2 := rel_opd s hx'
    have r3 := rel_opd s hy'
    simp only [List.map_cons, List.map_nil] at hk
    generalize Opd.ev e c' = cc at r1 hk
    generalize a.eval c = cv at r1 ⊢
    cases cc <;> simp only [sem] at hk <;> first | exact hk.elim | skip
    rename_i b
    cases r1
    cases b with
    | true => exact ⟨.value (a.eval x), _, w, π, _, h, n, by simp [asBool], rfl, s.stay, r2, hk.1 rfl⟩
    | false => exact ⟨.value (a.eval y), _, w, π, _, h, n, by simp [asBool], rfl, s.stay, r3, hk.2 rfl⟩
  case alloc t =>
    obtain ⟨z, h1, h2⟩ := map_some hc
    cases h2
    obtain ⟨inf, zv, hi, hzv, hcv⟩ := cZero_spec h1
    simp only [List.map_nil, sem] at hk
    obtain ⟨g1, g2⟩ := rel_zero (w := w) (own := ownOf own0 π) (π := π) (n := n) hcv
    have := snd_var (P := P) s t (K := K) g1 g2 hk
    refine opDone_value ?_
    obtain ⟨v, w', π', x, h', n', q1, q2⟩ := this
    refine ⟨v, w', π', x, h', n', ?_, q2⟩
    simpa [Instr.alloc, zeroValue, typeInfo, hi, hzv] using q1
  case box t x =>
    split at hc
    · rename_i z hz
      obtain ⟨l, h1, h2⟩ := map_some hc
      cases h2
      obtain ⟨y, rfl, hy⟩ := cOpds1 h1
      simp only [List.map_cons, List.map_nil, sem] at hk
      obtain ⟨hl, hok, hk⟩ := hk
      obtain ⟨c1, c2, _⟩ := rel_cells (rel_opd s hy) hok
      refine opDone_value ?_
      simpa [Instr.box] using snd_var (P := P) s t (K := K) c1 c2 hk
    · cases hc
  case build t parts =>
    refine opDone_value ?_
    split at hc
    · rename_i fs z hu hz
      split at hc
      · rename_i all hall
        split at hc
        · rename_i ps hps
          obtain ⟨l, h1, h2⟩ := map_some hc
          cases h2
          refine snd_bld s hz hps h1 ?_ hk
          intro zv ps' cells hzv hf
          unfold Program.built
          cases hi : P.info? t with
          | none => simp [hi] at hzv
          | some inf =>
            simp only [hi, Option.bind_some] at hzv
            unfold cFields at hall
            simp only [hu, hzv, hall]
            simpa using hf
        · cases hc
      · cases hc
    · rename_i m el z hu hz
      split at hc
      · rename_i sz hsz
        split at hc
        · rename_i ps hps
          obtain ⟨l, h1, h2⟩ := map_some hc
          cases h2
          refine snd_bld s hz hps h1 ?_ hk
          intro zv ps' cells hzv hf
          unfold Program.built
          unfold cSize at hsz
          obtain ⟨ie, hie, rfl⟩ := map_some hsz
          cases hi : P.info? t with
          | none => simp [hi] at hzv
          | some inf =>
            simp only [hi, Option.bind_some] at hzv
            simp only [hu, hzv, hie]
            exact hf
        · cases hc
      · cases hc
    · cases hc
  case buildSlice t len parts =>
    refine opDone_value ?_
    split at hc
    · rename_i el hel
      split at hc
      · rename_i z hz
        split at hc
        · rename_i hcond
          obtain ⟨l, h1, h2⟩ := map_some hc
          cases h2
          exact snd_bsl s hel hz hcond.1 hcond.2.1 hcond.2.2.1 hcond.2.2.2 h1 hk
        · cases hc
      · cases hc
    · cases hc
  case load t x =>
    refine opDone_value ?_
    split at hc
    · rename_i z ha hz
      obtain ⟨l, h1, h2⟩ := map_some hc
      cases h2
      obtain ⟨y, rfl, hy⟩ := cOpds1 h1
      have r1 := rel_opd s hy
      simp only [List.map_cons, List.map_nil] at hk
      generalize Opd.ev e y = yy at r1 hk
      cases yy <;> simp only [sem] at hk <;> first | exact hk.elim | skip
      · rename_i id i off
        split at hk
        · rename_i row ho
          obtain ⟨rfl, hl, hk⟩ := hk
          exact snd_ldn s ha hz r1 (row := row) (off := off) (by simp [rowOf, ho, AObj.rowAt]) hl (by omega) (fun c hc => by simp [okRow, ho, AObj.plain]) hk
        · rename_i q rows ho
          split at hk
          · rename_i row hr
            exact snd_ldn s ha hz r1 (row := row) (off := off) (by simp [rowOf, ho, AObj.rowAt, hr]) hk.1 (by omega) (fun c hc => by simp [okRow, ho, AObj.plain]) hk.2
          · exact hk.elim
        · rename_i q rows ho
          split at hk
          · rename_i row hr
            refine snd_ldn s ha hz r1 (row := row) (off := off) (by simp [rowOf, ho, AObj.rowAt, hr]) hk.1 (by omega) (fun c hc => ?_) hk.2.2
            have hf := hk.2.1 c hc
            simp only [okRow, ho]
            exact .inr (by cases c <;> first | rfl | (simp [AV.free] at hf))
          · exact hk.elim
        · rename_i q rows ho
          split at hk
          · rename_i row hr
            exact snd_ldn s ha hz r1 (row := row) (off := off) (by simp [rowOf, ho, AObj.rowAt, hr]) hk.1 (by omega) (fun c hc => by simp only [okRow, ho]; exact .inr (hk.2.1 c hc)) hk.2.2
          · exact hk.elim
        · exact hk.elim
      · exact snd_ldn s ha hz r1 rfl hk.1 (by omega) (fun c hc => trivial) hk.2
    · rename_i z ha hz
      obtain ⟨l, h1, h2⟩ := map_some hc
      cases h2
      obtain ⟨y, rfl, hy⟩ := cOpds1 h1
      have r1 := rel_opd s hy
      simp only [List.map_cons, List.map_nil] at hk
      generalize Opd.ev e y = yy at r1 hk
      cases yy <;> simp only [sem] at hk <;> first | exact hk.elim | skip
      · rename_i id i off
        split at hk
        · rename_i row ho
          obtain ⟨rfl, hk⟩ := hk
          split at hk
          · rename_i c hcc
            exact snd_ld1 s ha r1 (row := row) (off := off) (by simp [rowOf, ho, AObj.rowAt]) hcc (by simp [okRow, ho, AObj.plain]) hk
          · exact hk.elim
        · rename_i q rows ho
          split at hk
          · rename_i row hr
            split at hk
            · rename_i c hcc
              exact snd_ld1 s ha r1 (row := row) (off := off) (by simp [rowOf, ho, AObj.rowAt, hr]) hcc (by simp [okRow, ho, AObj.plain]) hk
            · exact hk.elim
          · exact hk.elim
        · rename_i q rows ho
          split at hk
          · rename_i row hr
            split at hk
            · rename_i c hcc
              have hf := hk.1
              exact snd_ld1 s ha r1 (row := row) (off := off) (by simp [rowOf, ho, AObj.rowAt, hr]) hcc (by simp only [okRow, ho]; exact .inr (by cases c <;> first | rfl | (simp [AV.free] at hf))) hk.2
            · exact hk.elim
          · exact hk.elim
        · rename_i q rows ho
          split at hk
          · rename_i row hr
            split at hk
            · rename_i c hcc
              exact snd_ld1 s ha r1 (row := row) (off := off) (by simp [rowOf, ho, AObj.rowAt, hr]) hcc (by simp only [okRow, ho]; exact .inr hk.1) hk.2
            · exact hk.elim
          · exact hk.elim
        · exact hk.elim
      · split at hk
        · rename_i c hcc
          exact snd_ld1 s ha r1 rfl hcc trivial hk
        · exact hk.elim
    · cases hc
  case store t x v =>
    split at hc
    · rename_i z hz
      obtain ⟨l, h1, h2⟩ := map_some hc
      cases h2
      obtain ⟨y, y', rfl, hy, hy'⟩ := cOpds2 h1
      have r1 := rel_opd s hy
      have r2 := rel_opd s hy'
      simp only [List.map_cons, List.map_nil] at hk
      generalize Opd.ev e y = yy at r1 hk
      generalize Opd.ev e y' = yv at r2 hk
      cases yy <;> simp only [sem] at hk <;> first | exact hk.elim | skip
      rename_i id i off
      obtain ⟨hl, hok, hk⟩ := hk
      split at hk
      · rename_i row ho
        obtain ⟨rfl, hlen, hk⟩ := hk
        obtain ⟨w', q1, q2⟩ := snd_st s hz r1 r2 hl (by omega) hok ho (row := row) (by simp [AObj.rowAt]) hlen _ rfl trivial
        exact ⟨.skip, Go.undef, w', π, .undef, _, n, by simp [q1], rfl, q2, .undef, hk⟩
      · rename_i q rows ho
        split at hk
        · rename_i row hr
          obtain ⟨hlen, hfree, hk⟩ := hk
          obtain ⟨w', q1, q2⟩ := snd_st s hz r1 r2 hl (by omega) hok ho (row := row) hr hlen _ rfl hfree
          exact ⟨.skip, Go.undef, w', π, .undef, _, n, by simp [q1], rfl, q2, .undef, hk⟩
        · exact hk.elim
      · rename_i q rows ho
        split at hk
        · rename_i row hr
          obtain ⟨hlen, hfree, hk⟩ := hk
          obtain ⟨w', q1, q2⟩ := snd_st s hz r1 r2 hl (by omega) hok ho (row := row) hr hlen _ rfl hfree
          exact ⟨.skip, Go.undef, w', π, .undef, _, n, by simp [q1], rfl, q2, .undef, hk⟩
        · exact hk.elim
      · rename_i q rows ho
        split at hk
        · rename_i row hr
          obtain ⟨hlen, hk⟩ := hk
          obtain ⟨w', q1, q2⟩ := snd_st s hz r1 r2 hl (by omega) hok ho (row := row) hr hlen _ rfl trivial
          exact ⟨.skip, Go.undef, w', π, .undef, _, n, by simp [q1], rfl, q2, .undef, hk⟩
        · exact hk.elim
      · exact hk.elim
    · cases hc
  case nilCheck x =>
    obtain ⟨l, h1, h2⟩ := map_some hc
    cases h2
    obtain ⟨y, rfl, hy⟩ := cOpds1 h1
    have r1 := rel_opd s hy
    simp only [List.map_cons, List.map_nil] at hk
    generalize Opd.ev e y = yy at r1 hk
    generalize a.eval x = v at r1 ⊢
    cases yy <;> simp only [sem] at hk <;> first | exact hk.elim | skip
    · rename_i id i off
      cases r1 with
      | ptrLive _ _ _ b p' hp' hb => exact opDone_pure s (.ptrLive _ _ _ _ _ hp' hb) hk
      | ptrDead _ _ _ ad hd hn => exact opDone_pure s (.ptrDead _ _ _ ad hd hn) hk
    · cases r1 with
      | rptr row off g o us ho hg hf hu hh => exact opDone_pure s (.rptr _ _ g o us ho hg hf hu hh) hk
    · cases r1 with
      | fn f caps cs hl hh => exact opDone_pure s (.fn _ _ cs hl hh) hk
  case binOp op t x y t' =>
    split at hc
    · cases hc
    split at hc
    · cases hc
    split at hc
    · cases hc
    obtain ⟨l, h1, h2⟩ := map_some hc
    cases h2
    obtain ⟨x', y', rfl, hx', hy'⟩ := cOpds2 h1
    have r1 := rel_opd s hx'
    have r2 := rel_opd s hy'
    simp only [List.map_cons, List.map_nil, sem] at hk
    obtain ⟨r, z, q1, q2, q3⟩ := snd_bin (P := P) op r1 r2 hk t
    have hg : ∀ u v : Value, (∃ r, (binOp op t u v).run P w = .ok r w) → Rel w (ownOf own0 π) π n (x'.ev e) u → Rel w (ownOf own0 π) π n (y'.ev e) v → (eqGuard op t x y u v).run P w = .ok () w := by
      intro u v _ ru rv
      unfold semBin at hk
      split at hk
      · rename_i e1 e2
        rw [e1] at ru; rw [e2] at rv
        cases ru; cases rv
        cases op <;> simp [eqGuard]
      · rename_i e1 e2
        rw [e1] at ru; rw [e2] at rv
        cases ru; cases rv
        cases op <;> simp [eqGuard]
      · exact hk.elim
    refine opDone_value (done_same s (v := r) (x := z) ?_ (q2 _ _ _) q3)
    simp [hg _ _ ⟨r, q1⟩ r1 r2, q1]
  case unOp op t x =>
    refine opDone_value ?_
    cases op <;> simp only [] at hc <;> first | (cases hc; done) | skip
    all_goals
      obtain ⟨l, h1, h2⟩ := map_some hc
      cases h2
      obtain ⟨y, rfl, hy⟩ := cOpds1 h1
      have r1 := rel_opd s hy
      simp only [List.map_cons, List.map_nil] at hk
      generalize Opd.ev e y = yy at r1 hk
      generalize a.eval x = v at r1 ⊢
      cases yy <;> simp only [sem] at hk <;> first | exact hk.elim | skip
      cases r1
      first
        | (obtain ⟨_, rfl, hk⟩ := hk; exact done_same s (by simp [Op.unary, Op.intArith]) (.int _ _) hk)
        | exact done_same s (by simp [Op.unary]) (.bool _) hk
  case convert t t' x =>
    refine opDone_value ?_
    split at hc
    · rename_i k k' hu1 hu2
      obtain ⟨l, h1, h2⟩ := map_some hc
      cases h2
      obtain ⟨y, rfl, hy⟩ := cOpds1 h1
      have r1 := rel_opd s hy
      simp only [List.map_cons, List.map_nil] at hk
      generalize Opd.ev e y = yy at r1 hk
      generalize a.eval x = v at r1 ⊢
      cases yy <;> simp only [sem] at hk <;> first | exact hk.elim | skip
      cases r1
      obtain ⟨_, rfl, hk⟩ := hk
      exact done_same s (by simp [convert, run_underlying hu1, run_underlying hu2, Conv.intToInt]) (.int _ _) hk
    · cases hc
  case makeSlice t x y =>
    refine opDone_value ?_
    split at hc
    · rename_i el hel
      split at hc
      · rename_i z b zero hz hb hzero
        split at hc
        · rename_i hcond
          obtain ⟨l, h1, h2⟩ := map_some hc
          cases h2
          obtain ⟨x', y', rfl, hx', hy'⟩ := cOpds2 h1
          exact snd_mks s hel hz hb hzero hcond.1 hcond.2 (free_zero hzero) (rel_opd s hx') (rel_opd s hy') (by simpa using hk)
        · cases hc
      · cases hc
    · cases hc
  case slice t x lo hi mx =>
    refine opDone_value ?_
    cases mx with
    | some m =>
      cases lo with
      | some _ => cases hc
      | none => cases hi with
        | none => cases hc
        | some b =>
          simp only [] at hc
          split at hc
          · rename_i el hel
            split at hc
            · rename_i z hz
              obtain ⟨l, h1, h2⟩ := map_some hc
              cases h2
              simp only [cOpds] at h1
              cases hx : cOpd x with
              | none => simp [hx] at h1
              | some x' =>
                cases hb : cOpd b with
                | none => simp [hx, hb] at h1
                | some b' =>
                  cases hm : cOpd m with
                  | none => simp [hx, hb, hm] at h1
                  | some m' =>
                    simp [hx, hb, hm] at h1
                    subst h1
                    exact snd_slc3 s hel hz (rel_opd s hx) (rel_opd s hb) (rel_opd s hm) (by simpa using hk)
            · cases hc
          · cases hc
    | none =>
      simp only [] at hc
      split at hc
      · rename_i el hel
        split at hc
        · rename_i z hz
          obtain ⟨l, h1, h2⟩ := map_some hc
          cases h2
          simp only [cOpds] at h1
          cases hx : cOpd x with
          | none => simp [hx] at h1
          | some x' =>
            cases hr : cOpds (oList lo ++ oList hi) with
            | none => simp [hx, hr] at h1
            | some l' =>
              simp [hx, hr] at h1
              subst h1
              exact snd_slc s hel hz (rel_opd s hx) hr hk
        · cases hc
      · rename_i hel
        obtain ⟨l, h1, h2⟩ := map_some hc
        cases h2
        simp only [cOpds] at h1
        cases hx : cOpd x with
        | none => simp [hx] at h1
        | some x' =>
          cases hr : cOpds (oList lo ++ oList hi) with
          | none => simp [hx, hr] at h1
          | some l' =>
            simp [hx, hr] at h1
            subst h1
            exact snd_sls s hel (rel_opd s hx) hr hk
      · cases hc
  case fieldAddr t x i =>
    refine opDone_value ?_
    split at hc
    · rename_i fs hfs
      split at hc
      · rename_i f hf
        split at hc
        · rename_i m hm
          obtain ⟨l, h1, h2⟩ := map_some hc
          cases h2
          obtain ⟨y, rfl, hy⟩ := cOpds1 h1
          exact snd_fadr s hfs hf hm (rel_opd s hy) hk
        · cases hc
      · cases hc
    · cases hc
  case field t x i =>
    refine opDone_value ?_
    split at hc
    · rename_i fs hfs
      split at hc
      · rename_i f hf
        split at hc
        · rename_i z ha hz
          obtain ⟨l, h1, h2⟩ := map_some hc
          cases h2
          obtain ⟨y, rfl, hy⟩ := cOpds1 h1
          exact snd_fldn s hfs hf ha hz (rel_opd s hy) hk
        · rename_i z ha hz
          obtain ⟨l, h1, h2⟩ := map_some hc
          cases h2
          obtain ⟨y, rfl, hy⟩ := cOpds1 h1
          exact snd_fld1 s hfs hf ha (rel_opd s hy) hk
        · cases hc
      · cases hc
    · cases hc
  case indexAddr t x i =>
    refine opDone_value ?_
    split at hc
    · rename_i el hel
      split at hc
      · rename_i z hz
        obtain ⟨l, h1, h2⟩ := map_some hc
        cases h2
        obtain ⟨x', y', rfl, hx', hy'⟩ := cOpds2 h1
        exact snd_iadr s hel hz (rel_opd s hx') (rel_opd s hy') hk
      · cases hc
    · cases hc
  case index t x i =>
    refine opDone_value ?_
    split at hc
    · rename_i ht
      obtain ⟨l, h1, h2⟩ := map_some hc
      cases h2
      obtain ⟨x', y', rfl, hx', hy'⟩ := cOpds2 h1
      exact snd_idx s ht (rel_opd s hx') (rel_opd s hy') hk
    · cases hc
  case extract x i =>
    refine opDone_value ?_
    obtain ⟨l, h1, h2⟩ := map_some hc
    cases h2
    obtain ⟨y, rfl, hy⟩ := cOpds1 h1
    exact snd_ext s i (rel_opd s hy) hk
  case makeFunc fn first captured =>
    cases fn <;> simp only [] at hc <;> first | (cases hc; done) | skip
    rename_i f
    split at hc
    · rename_i hfirst
      obtain ⟨l, h1, h2⟩ := map_some hc
      cases h2
      obtain ⟨r1, r2⟩ := rel_opds s _ _ h1
      have he : first = #[] := by simpa using hfirst
      subst he
      have hk' : K (.fn f (args.map (Opd.ev e))) h n := by cases args <;> simpa [sem] using hk
      refine ⟨.value (.func (.func f) #[] (captured.map a.eval)), _, w, π, .fn f (args.map (Opd.ev e)), h, n, by simp [Instr.makeFunc], rfl, s.stay, ?_, hk'⟩
      exact .fn _ _ _ (by simpa using r1.symm) (fun i x u h1 h2 => r2 i x u h1 (by simpa using h2))
    · cases hc
  case call c =>
    obtain ⟨callee, cargs, ctys⟩ := c
    cases callee with
    | value f =>
      cases f <;> simp only [] at hc <;> first | (cases hc; done) | skip
      · obtain ⟨l, h1, h2⟩ := map_some hc
        cases h2
        cases l <;> simp [sem] at hk
      · obtain ⟨l, h1, h2⟩ := map_some hc
        cases h2
        cases args <;> simp [sem] at hk
    | invoke r m => cases hc
    | builtin b =>
      cases b <;> simp only [] at hc <;> first | (cases hc; done) | skip
      case append =>
        split at hc
        · rename_i t u x y ht hargs
          split at hc
          · rename_i htu
            subst htu
            split at hc
            · rename_i el hel
              split at hc
              · rename_i z b zero hz hb hzero
                split at hc
                · rename_i hcond
                  obtain ⟨l, h1, h2⟩ := map_some hc
                  cases h2
                  obtain ⟨x', y', rfl, hx', hy'⟩ := cOpds2 h1
                  have := snd_app (P := P) (ty := o.type) s hel hz hb hzero hcond.1 hcond.2 (rel_opd s hx') (rel_opd s hy') (K := K) (by simpa using hk)
                  have := opDone_value this
                  have e1 : ctys = #[t, t] := Array.toList_inj.1 (by simpa using ht)
                  have e2 : cargs = #[x, y] := Array.toList_inj.1 (by simpa using hargs)
                  subst e1; subst e2
                  simpa [resolve, invoke, builtin] using this
                · cases hc
              · cases hc
            · cases hc
          · cases hc
        · cases hc
      case len =>
        split at hc
        · rename_i t x ht hargs
          have e1 : ctys = #[t] := Array.toList_inj.1 (by simpa using ht)
          have e2 : cargs = #[x] := Array.toList_inj.1 (by simpa using hargs)
          subst e1; subst e2
          split at hc
          · rename_i hu
            obtain ⟨l, h1, h2⟩ := map_some hc
            cases h2
            obtain ⟨y, rfl, hy⟩ := cOpds1 h1
            have := opDone_value (snd_lens (P := P) s hu o.type (rel_opd s hy) (K := K) (by simpa using hk))
            simpa [resolve, invoke, builtin] using this
          · rename_i el hu
            obtain ⟨l, h1, h2⟩ := map_some hc
            cases h2
            obtain ⟨y, rfl, hy⟩ := cOpds1 h1
            have := opDone_value (snd_len (P := P) s hu o.type (rel_opd s hy) (K := K) (by simpa using hk))
            simpa [resolve, invoke, builtin] using this
          · cases hc
        · cases hc
      case max =>
        split at hc
        · rename_i x y hargs
          have e2 : cargs = #[x, y] := Array.toList_inj.1 (by simpa using hargs)
          subst e2
          obtain ⟨l, h1, h2⟩ := map_some hc
          cases h2
          obtain ⟨x', y', rfl, hx', hy'⟩ := cOpds2 h1
          have := opDone_value (snd_max (P := P) s ctys o.type (rel_opd s hx') (rel_opd s hy') (K := K) (by simpa using hk))
          simpa [resolve, invoke, builtin] using this
        · cases hc
      case min =>
        split at hc
        · rename_i x y hargs
          have e2 : cargs = #[x, y] := Array.toList_inj.1 (by simpa using hargs)
          subst e2
          obtain ⟨l, h1, h2⟩ := map_some hc
          cases h2
          obtain ⟨x', y', rfl, hx', hy'⟩ := cOpds2 h1
          have := opDone_value (snd_min (P := P) s ctys o.type (rel_opd s hx') (rel_opd s hy') (K := K) (by simpa using hk))
          simpa [resolve, invoke, builtin] using this
        · cases hc

end
end Go.Proofs.Ytpfbkblgefddlaa.Av
