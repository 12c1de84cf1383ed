/- Calls that are handed own objects. -/
import Derived.Test.YtpfbkblgefddlaaAvCall
namespace Go.Proofs.Ytpfbkblgefddlaa.Av
set_option linter.unusedSimpArgs false
set_option linter.unusedVariables false
open Go

theorem place_get : ∀ {l : List Nat} {id j : Nat}, place l id = some j → l[j]? = some id
  | [], id, j, h => by simp [place] at h
  | a :: r, id, j, h => by
    simp only [place] at h
    split at h
    · rename_i he; cases h; simp [he]
    · obtain ⟨k, hk, rfl⟩ := Option.map_eq_some_iff.1 h
      simpa using place_get hk

theorem place_mem : ∀ {l : List Nat} {id : Nat}, id ∈ l → ∃ j, place l id = some j
  | [], id, h => by cases h
  | a :: r, id, h => by
    simp only [place]
    split
    · exact ⟨0, rfl⟩
    · rename_i hne
      rcases List.mem_cons.1 h with rfl | h
      · exact absurd rfl hne
      · obtain ⟨j, hj⟩ := place_mem h; exact ⟨j + 1, by simp [hj]⟩

theorem place_none {l : List Nat} {id : Nat} (h : place l id = none) : id ∉ l := fun hm => by
  obtain ⟨j, hj⟩ := place_mem hm; rw [h] at hj; cases hj

theorem place_at : ∀ {l : List Nat}, l.Nodup → ∀ {i id : Nat}, l[i]? = some id → place l id = some i
  | [], _, i, id, h => by simp at h
  | a :: r, hn, 0, id, h => by simp at h; subst h; simp [place]
  | a :: r, hn, i + 1, id, h => by
    have h' : r[i]? = some id := by simpa using h
    obtain ⟨h1, h2⟩ := List.nodup_cons.1 hn
    simp only [place]
    rw [if_neg (fun he : a = id => h1 (by rw [he]; exact List.mem_of_getElem? h')), place_at h2 h']
    rfl

theorem unplace_lt : ∀ (l : List Nat) (n i : Nat), i < l.length → unplace l n i = l[i]?
  | [], n, i, h => by simp at h
  | a :: r, n, 0, _ => by simp [unplace]
  | a :: r, n, i + 1, h => by simp [unplace, unplace_lt r n i (by simpa using h)]

theorem unplace_ge : ∀ (l : List Nat) (n i : Nat), l.length ≤ i → unplace l n i = some (n + (i - l.length))
  | [], n, i, _ => by simp [unplace]
  | a :: r, n, 0, h => by simp at h
  | a :: r, n, i + 1, h => by simp [unplace, unplace_ge r n i (by simpa using h)]

theorem nodup_once : ∀ l : List Nat, (once l).Nodup
  | [] => by simp [once]
  | a :: r => by
    exact List.nodup_cons.2 ⟨fun hm => by simp [List.mem_filter] at hm, (nodup_once r).filter _⟩

theorem setObjs_nil : ∀ (out : List (Option AObj)) (h : Heap) (n j : Nat), setObjs h n [] out j = if n ≤ j ∧ j < n + out.length then ((out[j - n]?).join).or (h j) else h j
  | [], h, n, j => by simp [setObjs]
  | o :: r, h, n, j => by
    have key : ∀ h' : Heap, (∀ k, k ≠ n → h' k = h k) → h' n = o.or (h n) → setObjs h' (n + 1) [] r j = if n ≤ j ∧ j < n + (o :: r).length then (((o :: r)[j - n]?).join).or (h j) else h j := by
      intro h' h1 h2
      rw [setObjs_nil r h' (n + 1) j]
      simp only [List.length_cons]
      by_cases hj : j = n
      · subst hj; rw [if_neg (by omega), if_pos (by omega), h2]; simp
      · by_cases hc : n + 1 ≤ j ∧ j < n + 1 + r.length
        · rw [if_pos hc, if_pos (by omega), h1 j hj]
          have : j - n = (j - (n + 1)) + 1 := by omega
          rw [this, List.getElem?_cons_succ]
        · rw [if_neg hc, if_neg (by omega), h1 j hj]
    cases o with
    | none => simp only [setObjs]; exact key h (fun _ _ => rfl) (by simp)
    | some o => simp only [setObjs]; exact key (h.set n o) (fun k hk => by simp [Heap.set, hk]) (by simp [Heap.set])

theorem setObjs_eq : ∀ (l : List Nat) (out : List (Option AObj)) (h : Heap) (n j : Nat), l.Nodup → (∀ id ∈ l, id < n) → l.length ≤ out.length →
    setObjs h n l out j = match place l j with
      | some i => (out[i]?).join
      | none => if n ≤ j ∧ j < n + (out.length - l.length) then ((out[l.length + (j - n)]?).join).or (h j) else h j
  | [], out, h, n, j, _, _, _ => by rw [setObjs_nil]; simp [place]
  | a :: l, [], h, n, j, _, _, hl => by simp at hl
  | a :: l, o :: r, h, n, j, hn, hlt, hl => by
    obtain ⟨h1, h2⟩ := List.nodup_cons.1 hn
    have ha : a < n := hlt a (by simp)
    have key : ∀ h' : Heap, (∀ k, k ≠ a → h' k = h k) → h' a = o → setObjs h' n l r j = match place (a :: l) j with
      | some i => ((o :: r)[i]?).join
      | none => if n ≤ j ∧ j < n + ((o :: r).length - (a :: l).length) then (((o :: r)[(a :: l).length + (j - n)]?).join).or (h j) else h j := by
      intro h' k1 k2
      rw [setObjs_eq l r h' n j h2 (fun id hid => hlt id (by simp [hid])) (by simpa using hl)]
      simp only [place]
      by_cases hj : a = j
      · subst hj
        have hp : place l a = none := by
          cases hp : place l a with
          | none => rfl
          | some i => exact absurd (List.mem_of_getElem? (place_get hp)) h1
        rw [hp, if_pos rfl, if_neg (by omega), k2]; simp
      · rw [if_neg hj]
        cases hp : place l j with
        | some i => simp
        | none =>
          simp only [Option.map_none, List.length_cons, k1 j (Ne.symm hj)]
          have e1 : r.length + 1 - (l.length + 1) = r.length - l.length := by omega
          have e2 : l.length + 1 + (j - n) = (l.length + (j - n)) + 1 := by omega
          rw [e1, e2, List.getElem?_cons_succ]
    cases o with
    | none => simp only [setObjs]; exact key (h.del a) (fun k hk => by simp [Heap.del, hk]) (by simp [Heap.del])
    | some o => simp only [setObjs]; exact key (h.set a o) (fun k hk => by simp [Heap.set, hk]) (by simp [Heap.set])

section
variable {P : Program} {w0 : World} {pass own0 : Nat → Prop} {π : Pl} {e : Env} {h : Heap} {n : Nat} {a : Act} {w : World}

theorem unplace_some (l : List Nat) (n i : Nat) : ∃ j, unplace l n i = some j := by
  by_cases h : i < l.length
  · exact ⟨l[i], by rw [unplace_lt l n i h, List.getElem?_eq_getElem h]⟩
  · exact ⟨_, unplace_ge l n i (by omega)⟩

theorem call_gen (s : Sim w0 pass own0 π e h n a w) {f k : Nat} {G : GFun} (hf : GenSound P f k G) {xs : List AV} {vs : Array Value} (hr : Rels w (ownOf own0 π) π n xs vs.toList) {K : Kont}
    (hk : callGen k G xs h n K) : CallDone P w0 pass own0 π n w f vs K := by
  obtain ⟨hlen, halive, hG⟩ := hk
  generalize hL : reach h xs = L at hlen halive hG
  have hnd : L.Nodup := by rw [← hL]; exact nodup_once _
  subst hlen
  have hπlt : ∀ {id p}, π id = some p → id < n := fun hp => (s.hs.lt hp).1
  have hlive : ∀ id ∈ L, ∃ o p, h id = some o ∧ π id = some p ∧ ObjAt w (ownOf own0 π) π n id p o := fun id hid => live_some s.hs (halive id hid)
  have hLlt : ∀ id ∈ L, id < n := fun id hid => by obtain ⟨_, p, _, hp, _⟩ := hlive id hid; exact hπlt hp
  -- the callee's view
  let own1 : Nat → Prop := fun b => own0 b ∨ (∃ id p, id ∉ L ∧ π id = some p ∧ p.blk = some b) ∨ ∃ k, π.hid b = some k ∧ k.1 ∉ L
  let π1 : Pl := ⟨fun i => (L[i]?).bind π, fun b => (π.hid b).bind fun k => (place L k.1).map fun i => (i, k.2)⟩
  have hat1 : ∀ i, π1 i = (L[i]?).bind π := fun _ => rfl
  have hhid1 : ∀ {b k}, π1.hid b = some k → ∃ k0, π.hid b = some k0 ∧ place L k0.1 = some k.1 ∧ k.2 = k0.2 := by
    intro b k hb
    have hb : ((π.hid b).bind fun (k : Nat × Nat × Nat) => (place L k.1).map fun i => (i, k.2)) = some k := hb
    obtain ⟨k0, h1, h2⟩ := Option.bind_eq_some_iff.1 hb
    obtain ⟨i, h3, h4⟩ := Option.map_eq_some_iff.1 h2
    subst h4
    exact ⟨k0, h1, h3, rfl⟩
  have hhid1' : ∀ {b i c d j}, π.hid b = some (j, c, d) → place L j = some i → π1.hid b = some (i, c, d) := by
    intro b i c d j h1 h2
    show ((π.hid b).bind fun (k : Nat × Nat × Nat) => (place L k.1).map fun i => (i, k.2)) = _
    rw [h1, Option.bind_some]
    dsimp only
    rw [h2]; rfl
  have hhas1 : ∀ {b}, π1.has b → (∃ id p, id ∈ L ∧ π id = some p ∧ p.blk = some b) ∨ ∃ k, π.hid b = some k ∧ k.1 ∈ L := by
    rintro b (⟨i, p, h1, h2⟩ | hb)
    · rw [hat1, Option.bind_eq_some_iff] at h1
      obtain ⟨id, hi, h1⟩ := h1
      exact .inl ⟨id, p, List.mem_of_getElem? hi, h1, h2⟩
    · obtain ⟨k, hk⟩ := Option.isSome_iff_exists.1 hb
      obtain ⟨k0, h1, h2, _⟩ := hhid1 hk
      exact .inr ⟨k0, h1, List.mem_of_getElem? (place_get h2)⟩
  have hhas1o : ∀ {b}, π1.has b → ownOf own0 π b := by
    intro b hb
    rcases hhas1 hb with ⟨id, p, _, h1, h2⟩ | ⟨k, h1, _⟩
    · exact .inr ⟨id, p, h1, h2⟩
    · exact .inl (.inr (by rw [h1]; rfl))
  have hown1o : ∀ {b}, own1 b → ownOf own0 π b := by
    rintro b (h1 | ⟨id, p, _, h1, h2⟩ | ⟨k, h1, _⟩)
    · exact .inl (.inl h1)
    · exact .inr ⟨id, p, h1, h2⟩
    · exact .inl (.inr (by rw [h1]; rfl))
  have hown1 : ∀ b, ownOf own1 π1 b → ownOf own0 π b := by
    rintro b ((h1 | h1) | ⟨i, p, h1, h2⟩)
    · exact hown1o h1
    · exact hhas1o (.inr h1)
    · exact hhas1o (.inl ⟨i, p, h1, h2⟩)
  have hp1 : ∀ id j p, place L id = some j → π id = some p → π1 j = some p := by
    intro id j p h1 h2
    rw [hat1, place_get h1, Option.bind_some]; exact h2
  have hd1 : ∀ id j, place L id = some j → π id = none → id < n → π1 j = none ∧ j < L.length := by
    intro id j h1 h2 _
    obtain ⟨_, p, _, hp, _⟩ := hlive id (List.mem_of_getElem? (place_get h1))
    rw [h2] at hp; cases hp
  have H1 : HSim own1 π1 (objsH (L.map fun id => ((h id).getD default).mapId (place L))) L.length w := by
    refine ⟨?_, ?_, ?_, ?_, ?_, ?_⟩
    · intro i hi
      simp only [objsH, List.getElem?_map, Option.map_eq_none_iff] at hi
      rw [hat1, hi, Option.bind_none]
    · intro i o hi
      simp only [objsH, List.getElem?_map, Option.map_eq_some_iff] at hi
      obtain ⟨id, hid, rfl⟩ := hi
      obtain ⟨o, p, ho, hp, hq⟩ := hlive id (List.mem_of_getElem? hid)
      refine ⟨(List.getElem?_eq_some_iff.1 hid).1, p, by rw [hat1, hid, Option.bind_some]; exact hp, ?_⟩
      rw [ho]
      exact hq.mapId hown1 hp1 hd1 (fun b c d hb => hhid1' hb (place_at hnd hid))
    · intro i j p p' b h1 h2 h3 h4
      rw [hat1, Option.bind_eq_some_iff] at h1 h2
      obtain ⟨id, hi, h1⟩ := h1
      obtain ⟨id', hj, h2⟩ := h2
      have := s.hs.inj id id' p p' b h1 h2 h3 h4
      subst this
      have e1 := place_at hnd hi
      have e2 := place_at hnd hj
      rw [e1] at e2; cases e2; rfl
    · intro i p b h1 h2
      rw [hat1, Option.bind_eq_some_iff] at h1
      obtain ⟨id, hi, h1⟩ := h1
      rintro (h3 | ⟨id', p', h3, h4, h5⟩ | ⟨k, h3, _⟩)
      · exact s.hs.sep id p b h1 h2 h3
      · have := s.hs.inj id id' p p' b h1 h4 h2 h5
        subst this
        exact h3 (List.mem_of_getElem? hi)
      · exact (s.hs.hid b k h3).2.2.2 id p h1 h2
    · intro b hb
      exact own_lt s.hs (hown1o hb)
    · intro b k hb
      obtain ⟨k0, h1, h2, h3⟩ := hhid1 hb
      obtain ⟨g1, g2, g3, g4⟩ := s.hs.hid b k0 h1
      have hmem := List.mem_of_getElem? (place_get h2)
      refine ⟨?_, g2, (List.getElem?_eq_some_iff.1 (place_get h2)).1, fun i p hp hpb => ?_⟩
      · rintro (h4 | ⟨id', p', _, h4, h5⟩ | ⟨k', h4, h5⟩)
        · exact g1 h4
        · exact g4 id' p' h4 h5
        · rw [h1] at h4; cases h4; exact h5 hmem
      · rw [hat1, Option.bind_eq_some_iff] at hp
        obtain ⟨id, _, hp⟩ := hp
        exact g4 id p hp hpb
  have hargs : Rels w (ownOf own1 π1) π1 L.length (xs.map (AV.mapId (place L))) vs.toList := by
    refine ⟨by simpa using hr.1, fun i x v h1 h2 => ?_⟩
    simp only [List.getElem?_map, Option.map_eq_some_iff] at h1
    obtain ⟨y, hy, rfl⟩ := h1
    exact (hr.2 i y v hy h2).mapId hown1 hp1 hd1
  refine (hf w own1 π1 _ _ vs _ (by simp) H1 hargs hG).mono ?_
  rintro e' w' ⟨v, π2, r, out, rfl, hQ, hko, E, hsurv, hblk, H2, hrel⟩
  -- back to the caller
  let π' : Pl := ⟨fun j => match place L j with
    | some i => π2 i
    | none => if j < n then π j else π2 (L.length + (j - n)), fun b => match π2.hid b with
    | some k => (unplace L n k.1).map fun j => (j, k.2)
    | none => match π.hid b with
      | some k => if k.1 ∈ L then none else some k
      | none => none⟩
  have hat : ∀ j, π' j = match place L j with
    | some i => π2 i
    | none => if j < n then π j else π2 (L.length + (j - n)) := fun _ => rfl
  have hhe : ∀ b, π'.hid b = match π2.hid b with
    | some k => (unplace L n k.1).map fun j => (j, k.2)
    | none => match π.hid b with
      | some k => if k.1 ∈ L then none else some k
      | none => none := fun _ => rfl
  have hhid : ∀ {b k}, π'.hid b = some k → (∃ k2, π2.hid b = some k2 ∧ unplace L n k2.1 = some k.1 ∧ k.2 = k2.2) ∨ (π2.hid b = none ∧ π.hid b = some k ∧ k.1 ∉ L) := by
    intro b k hb
    rw [hhe] at hb
    split at hb
    · rename_i k2 hk2
      obtain ⟨j, h1, h2⟩ := Option.map_eq_some_iff.1 hb
      subst h2
      exact .inl ⟨k2, hk2, h1, rfl⟩
    · rename_i hk2
      split at hb
      · rename_i k' hk'
        split at hb
        · cases hb
        · rename_i hnm
          cases hb
          exact .inr ⟨hk2, hk', hnm⟩
      · cases hb
  have hhid2 : ∀ {b i j c d}, π2.hid b = some (i, c, d) → unplace L n i = some j → π'.hid b = some (j, c, d) := by
    intro b i j c d h1 h2
    rw [hhe, h1]
    dsimp only
    rw [h2]; rfl
  have hhid3 : ∀ {b k}, π.hid b = some k → k.1 ∉ L → π'.hid b = some k := by
    intro b k h1 h2
    have hno : π2.hid b = none := by
      cases h3 : π2.hid b with
      | none => rfl
      | some k2 => exact absurd (.inr (.inr ⟨k, h1, h2⟩)) (H2.hid b k2 h3).1
    rw [hhe, hno, h1]
    dsimp only
    rw [if_neg h2]
  have h2lt : ∀ {i p}, π2 i = some p → i < out.length := fun hp => (H2.lt hp).1
  -- where blocks of π2 lie
  have hb2 : ∀ {b}, π2.has b → w.heap.size ≤ b ∨ (∃ id q, id ∈ L ∧ π id = some q ∧ q.blk = some b) ∨ ∃ k, π.hid b = some k ∧ k.1 ∈ L := by
    intro b hb
    rcases hblk b hb with h | h
    · exact .inl h
    · exact .inr (hhas1 h)
  have hkept : ∀ b, b < w.heap.size → (∀ id p, id ∈ L → π id = some p → p.blk ≠ some b) → (∀ k, π.hid b = some k → k.1 ∉ L) → w'.heap[b]? = w.heap[b]? := by
    intro b hb hno hno2
    refine E.kept b hb (fun hh => ?_)
    rcases hhas1 hh with ⟨id, p, h1, h2, h3⟩ | ⟨k, h1, h2⟩
    · exact hno id p h1 h2 h3
    · exact hno2 k h1 h2
  have hown2 : ∀ b, ownOf own0 π' b → ownOf own1 π2 b := by
    rintro b ((h1 | h1) | ⟨j, p, h1, h2⟩)
    · exact .inl (.inl (.inl h1))
    · obtain ⟨k, hk⟩ := Option.isSome_iff_exists.1 h1
      rcases hhid hk with ⟨k2, h2, _, _⟩ | ⟨_, h2, h3⟩
      · exact .inl (.inr (by rw [h2]; rfl))
      · exact .inl (.inl (.inr (.inr ⟨k, h2, h3⟩)))
    · rw [hat] at h1
      split at h1
      · exact .inr ⟨_, p, h1, h2⟩
      · rename_i hpl
        split at h1
        · exact .inl (.inl (.inr (.inl ⟨j, p, place_none hpl, h1, h2⟩)))
        · exact .inr ⟨_, p, h1, h2⟩
  have hun : ∀ i j, unplace L n i = some j → π' j = π2 i ∧ (i < out.length → j < n + (out.length - L.length)) := by
    intro i j h1
    by_cases hi : i < L.length
    · rw [unplace_lt L n i hi] at h1
      have hj := hLlt j (List.mem_of_getElem? h1)
      refine ⟨by rw [hat, place_at hnd h1], fun _ => by omega⟩
    · rw [unplace_ge L n i (by omega)] at h1
      cases h1
      have hpl : place L (n + (i - L.length)) = none := by
        cases hp : place L (n + (i - L.length)) with
        | none => rfl
        | some q => have := hLlt _ (List.mem_of_getElem? (place_get hp)); omega
      refine ⟨?_, fun h => by omega⟩
      rw [hat, hpl]
      dsimp only
      rw [if_neg (by omega)]
      congr 1; omega
  have hp2 : ∀ i j p, unplace L n i = some j → π2 i = some p → π' j = some p := fun i j p h1 h2 => (hun i j h1).1.trans h2
  have hd2 : ∀ i j, unplace L n i = some j → π2 i = none → i < out.length → π' j = none ∧ j < n + (out.length - L.length) := fun i j h1 h2 h3 => ⟨(hun i j h1).1.trans h2, (hun i j h1).2 h3⟩
  have hback : ∀ {b}, π2.has b → b < w.heap.size → ownOf own0 π b := by
    intro b h1 h2
    rcases hb2 h1 with h | ⟨id, q, _, h4, h5⟩ | ⟨k, h4, _⟩
    · omega
    · exact .inr ⟨id, q, h4, h5⟩
    · exact .inl (.inr (by rw [h4]; rfl))
  have M : Mono own0 π π' n (n + (out.length - L.length)) w w' := by
    refine ⟨E.size, fun b hb ho => ⟨hkept b hb (fun id p _ h1 h2 => ho (.inr ⟨id, p, h1, h2⟩)) (fun k hk _ => ho (.inl (.inr (by rw [hk]; rfl)))), ?_⟩, fun id p hp => ⟨?_, hπlt hp⟩, fun id hp hn => ?_, Nat.le_add_right _ _, E.os, E.tape, E.output⟩
    · intro h1
      rcases hown2 b h1 with (h2 | h2) | ⟨i, p, h2, h3⟩
      · exact ho (hown1o h2)
      · exact ho (hback (.inr h2) hb)
      · exact ho (hback (.inl ⟨i, p, h2, h3⟩) hb)
    · rw [hat]
      split
      · rename_i i hi
        exact hsurv i p (hp1 id i p hi hp)
      · rw [if_pos (hπlt hp)]; exact .inl hp
    · rw [hat]
      split
      · rename_i i hi
        exact absurd hp (by obtain ⟨_, p, _, hp', _⟩ := hlive id (List.mem_of_getElem? (place_get hi)); rw [hp']; simp)
      · rw [if_pos hn]; exact hp
  have hset : ∀ j, setObjs h n L (out.map fun o => o.map (AObj.mapId (unplace L n))) j = match place L j with
      | some i => ((objsO out) i).map (AObj.mapId (unplace L n))
      | none => if n ≤ j ∧ j < n + (out.length - L.length) then (((objsO out) (L.length + (j - n))).map (AObj.mapId (unplace L n))).or (h j) else h j := by
    intro j
    have hjoin : ∀ i : Nat, ((out.map fun o => o.map (AObj.mapId (unplace L n)))[i]?).join = ((objsO out) i).map (AObj.mapId (unplace L n)) := by
      intro i
      simp only [List.getElem?_map, objsO]
      cases out[i]? with
      | none => rfl
      | some o => rfl
    rw [setObjs_eq L _ h n j hnd hLlt (by simpa using hko)]
    simp only [hjoin, List.length_map]
  have hge : ∀ j, n ≤ j → h j = none := by
    intro j hj
    cases ho : h j with
    | none => rfl
    | some o => have := (s.hs.obj j o ho).1; omega
  have HS : HSim own0 π' (setObjs h n L (out.map fun o => o.map (AObj.mapId (unplace L n)))) (n + (out.length - L.length)) w' := by
    have cls : ∀ j p, π' j = some p → (∃ i, unplace L n i = some j ∧ π2 i = some p) ∨ (place L j = none ∧ j < n ∧ π j = some p) := by
      intro j p h1
      rw [hat] at h1
      split at h1
      · rename_i i hi
        have := place_get hi
        exact .inl ⟨i, by rw [unplace_lt L n i (List.getElem?_eq_some_iff.1 this).1]; exact this, h1⟩
      · rename_i hpl
        split at h1
        · rename_i hlt; exact .inr ⟨hpl, hlt, h1⟩
        · exact .inl ⟨_, by rw [unplace_ge L n _ (by omega)]; congr 1; omega, h1⟩
    refine ⟨?_, ?_, ?_, ?_, fun b hb => Nat.lt_of_lt_of_le (s.hs.old b hb) E.size, ?_⟩
    · intro j hj
      rw [hset] at hj
      rw [hat]
      split at hj
      · rename_i i hi
        try simp only [hi]
        exact H2.dom i (by simpa using hj)
      · rename_i hpl
        try simp only [hpl]
        split at hj
        · rename_i hc
          rw [if_neg (by omega)]
          refine H2.dom _ ?_
          cases hx : objsO out (L.length + (j - n)) with
          | none => rfl
          | some o => rw [hx] at hj; simp at hj
        · split
          · exact s.hs.dom j hj
          · cases hp : π2 (L.length + (j - n)) with
            | none => rfl
            | some p => have := h2lt hp; omega
    · intro j o hj
      rw [hset] at hj
      rw [hat]
      split at hj
      · rename_i i hi
        try simp only [hi]
        obtain ⟨o', ho', rfl⟩ := Option.map_eq_some_iff.1 hj
        obtain ⟨h1, p, h2, h3⟩ := H2.obj i o' ho'
        have hg := place_get hi
        have := hLlt j (List.mem_of_getElem? hg)
        exact ⟨by omega, p, h2, h3.mapId hown2 hp2 hd2 (fun b c d hb => hhid2 hb (by rw [unplace_lt L n i (List.getElem?_eq_some_iff.1 hg).1]; exact hg))⟩
      · rename_i hpl
        try simp only [hpl]
        split at hj
        · rename_i hc
          rw [hge j hc.1] at hj
          simp only [Option.or_none] at hj
          obtain ⟨o', ho', rfl⟩ := Option.map_eq_some_iff.1 hj
          obtain ⟨h1, p, h2, h3⟩ := H2.obj _ o' ho'
          refine ⟨by omega, p, ?_, h3.mapId hown2 hp2 hd2 (fun b c d hb => hhid2 hb (by rw [unplace_ge L n _ (by omega)]; congr 1; omega))⟩
          rw [if_neg (by omega)]; exact h2
        · obtain ⟨h1, p, h2, h3⟩ := s.hs.obj j o hj
          refine ⟨by omega, p, by rw [if_pos h1]; exact h2, h3.mono M (fun b hb => hkept b (s.hs.blk_lt h2 hb) (fun id q hid h4 h5 => ?_) (fun k hk _ => (s.hs.hid b k hk).2.2.2 j p h2 hb)) (fun b c d hb => ⟨hkept b (s.hs.hid b _ hb).2.1 (fun id q _ h4 h5 => (s.hs.hid b _ hb).2.2.2 id q h4 h5) (fun k hk => by rw [hb] at hk; cases hk; exact place_none hpl), hhid3 hb (place_none hpl)⟩)⟩
          have := s.hs.inj id j q p b h4 h2 h5 hb
          subst this
          exact place_none hpl hid
    · intro i j p p' b h1 h2 h3 h4
      have mixed : ∀ i j p p', unplace L n i = some j → π2 i = some p → p.blk = some b → ∀ j', place L j' = none → π j' = some p' → p'.blk = some b → False := by
        intro i j p p' _ k2 k3 j' k4 k5 k6
        rcases hb2 (.inl ⟨i, p, k2, k3⟩) with h | ⟨id, q, k7, k8, k9⟩ | ⟨k, k7, _⟩
        · have := s.hs.blk_lt k5 k6; omega
        · have := s.hs.inj id j' q p' b k8 k5 k9 k6
          subst this; exact place_none k4 k7
        · exact (s.hs.hid b k k7).2.2.2 j' p' k5 k6
      rcases cls i p h1 with ⟨i1, a1, a2⟩ | ⟨a1, a2, a3⟩ <;> rcases cls j p' h2 with ⟨i2, b1, b2⟩ | ⟨b1, b2, b3⟩
      · have := H2.inj i1 i2 p p' b a2 b2 h3 h4
        subst this; rw [a1] at b1; cases b1; rfl
      · exact (mixed i1 i p p' a1 a2 h3 j b1 b3 h4).elim
      · exact (mixed i2 j p' p b1 b2 h4 i a1 a3 h3).elim
      · exact s.hs.inj i j p p' b a3 b3 h3 h4
    · intro j p b h1 h2 h0
      rcases cls j p h1 with ⟨i, a1, a2⟩ | ⟨a1, a2, a3⟩
      · exact H2.sep i p b a2 h2 (.inl h0)
      · exact s.hs.sep j p b a3 h2 h0
    · intro b k hb
      rcases hhid hb with ⟨k2, g1, g2, g3⟩ | ⟨g1, g2, g3⟩
      · obtain ⟨c1, c2, c3, c4⟩ := H2.hid b k2 g1
        refine ⟨fun h0 => c1 (.inl h0), c2, (hun _ _ g2).2 c3, fun j p hp hpb => ?_⟩
        rcases cls j p hp with ⟨i, a1, a2⟩ | ⟨a1, a2, a3⟩
        · exact c4 i p a2 hpb
        · exact c1 (.inr (.inl ⟨j, p, place_none a1, a3, hpb⟩))
      · obtain ⟨c1, c2, c3, c4⟩ := s.hs.hid b k g2
        refine ⟨c1, Nat.lt_of_lt_of_le c2 E.size, by omega, fun j p hp hpb => ?_⟩
        rcases cls j p hp with ⟨i, a1, a2⟩ | ⟨a1, a2, a3⟩
        · exact H2.sep i p b a2 hpb (.inr (.inr ⟨k, g2, g3⟩))
        · exact c4 j p a3 hpb
  refine ⟨v, π', _, _, _, rfl, ⟨M, HS, ?_⟩, hrel.mapId hown2 hp2 hd2, hQ⟩
  have old : ∀ {b}, π2.has b → w0.heap.size ≤ b ∨ pass b := by
    intro b hb
    rcases hb2 hb with h | ⟨id, q, _, h3, h4⟩ | ⟨k, h3, _⟩
    · exact .inl (Nat.le_trans s.fr.size h)
    · exact s.fr.blk id q b h3 h4
    · exact s.fr.hid b k h3
  refine ⟨E.os.trans s.fr.os, E.tape.trans s.fr.tape, E.output.trans s.fr.output, Nat.le_trans s.fr.size E.size, fun b hb hp => ?_, fun j p b h1 h2 => ?_, fun b k hb => ?_⟩
  · refine (hkept b (Nat.lt_of_lt_of_le hb s.fr.size) (fun id p _ h1 h2 => ?_) (fun k hk _ => ?_)).trans (s.fr.kept b hb hp)
    · rcases s.fr.blk id p b h1 h2 with h | h
      · omega
      · exact hp h
    · rcases s.fr.hid b k hk with h | h
      · omega
      · exact hp h
  · rw [hat] at h1
    split at h1
    · exact old (.inl ⟨_, p, h1, h2⟩)
    · split at h1
      · exact s.fr.blk j p b h1 h2
      · exact old (.inl ⟨_, p, h1, h2⟩)
  · rcases hhid hb with ⟨k2, g1, _, _⟩ | ⟨_, g2, _⟩
    · exact old (.inr (by rw [g1]; rfl))
    · exact s.fr.hid b k g2

end
end Go.Proofs.Ytpfbkblgefddlaa.Av
