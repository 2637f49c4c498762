/- The evaluator is sound: all operations. No condition. -/
import Derived.Test.YtieaamjikcjbeaaA11
namespace Go.AH
set_option linter.unusedSimpArgs false
set_option linter.unusedVariables false
open Go
section
variable {P : Program} {F : Nat → Prop} {β : Nat → Nat} {w : World} {h : Heap}

theorem relL_map {c : Ctx} {ρ : Operand → AV} {ρ' : Operand → Value} (hρ : ∀ x, Rel c (ρ x) (ρ' x)) : ∀ (l : List Operand), RelL c (l.map ρ) (l.map ρ')
  | [] => rfl
  | x :: l => ⟨_, _, rfl, hρ x, relL_map hρ l⟩

theorem relP_map {c : Ctx} {ρ : Operand → AV} {ρ' : Operand → Value} (hρ : ∀ x, Rel c (ρ x) (ρ' x)) : ∀ (l : List (Nat × Operand)), RelP c (l.map fun p => (p.1, ρ p.2)) (l.map fun p => (p.1, ρ' p.2))
  | [] => rfl
  | (_, x) :: l => ⟨_, _, rfl, hρ x, relP_map hρ l⟩

theorem relO_map {c : Ctx} {ρ : Operand → AV} {ρ' : Operand → Value} (hρ : ∀ x, Rel c (ρ x) (ρ' x)) : ∀ (x : Option Operand), RelO c (x.map ρ) (x.map ρ')
  | none => rfl
  | some x => ⟨_, rfl, hρ x⟩

theorem EvOk.of {r : Result Next} {v : AV} {h' : Heap} {m : Sem Value} (hm : VOk F β w h (m.run P w) v h') (hr : r = (m.run P w).andThen fun v' w' => .ok (.value v') w') : EvOk F β w h r v h' := by
  obtain ⟨v', w', β', h1, h2, h3⟩ := hm
  exact ⟨.value v', v', w', β', by rw [hr, h1]; rfl, .inl rfl, h2, h3⟩

theorem builtin_sound (s : St F β w h) {b : Builtin} {ts : Array TypeId} {ty : TypeId} {cs : Array Bool} {xs : List AV} {us : Array Value} {v : AV} {h' : Heap} (he : aBuiltin P h b ts xs = some (v, h')) (r : RelL (ctx F β w h) xs us.toList) :
    EvOk F β w h ((builtin b ts ty cs us).run P w) v h' := by
  have us_of : ∀ l, us.toList = l → us = l.toArray := fun l hl => by apply Array.ext'; simpa using hl
  cases b <;> simp only [aBuiltin, reduceCtorEq] at he
  case len =>
    split at he <;> try (cases he; done)
    rename_i t x xs' ht
    rw [Option.map_eq_some_iff] at he
    obtain ⟨v', hv, e⟩ := he
    simp only [Prod.mk.injEq] at e
    obtain ⟨rfl, rfl⟩ := e
    obtain ⟨y, ys, e1, ry, _⟩ := r
    have hus : us[0]? = some y := by rw [us_of _ e1]; rfl
    exact EvOk.of (m := Builtin.len_ ts ty us) (VOk.same s (run_aLen ht hus hv ry w)) (by simp [builtin])
  case min =>
    rw [Option.map_eq_some_iff] at he
    obtain ⟨v', hv, e⟩ := he
    simp only [Prod.mk.injEq] at e
    obtain ⟨rfl, rfl⟩ := e
    have := run_aMin (P := P) hv r ts ty w
    rw [← us_of _ rfl] at this
    exact EvOk.of (m := Builtin.min_ ts ty us) (VOk.same s this) (by simp [builtin])
  case max =>
    rw [Option.map_eq_some_iff] at he
    obtain ⟨v', hv, e⟩ := he
    simp only [Prod.mk.injEq] at e
    obtain ⟨rfl, rfl⟩ := e
    have := run_aMax (P := P) hv r ts ty w
    rw [← us_of _ rfl] at this
    exact EvOk.of (m := Builtin.max_ ts ty us) (VOk.same s this) (by simp [builtin])
  case append =>
    split at he <;> try (cases he; done)
    rename_i t t' x y ht ht'
    obtain ⟨u, us1, e1, ru, q, us2, e2, rq, e3⟩ := r
    subst e2
    have e3' : us2 = [] := e3
    subst e3'
    rw [us_of _ e1]
    have hts : ∃ rest, ts = #[t, t'] ++ rest := by
      obtain ⟨l⟩ := ts
      cases l with
      | nil => simp at ht
      | cons a l => cases l with
        | nil => simp at ht'
        | cons b l => simp at ht ht'; subst ht ht'; exact ⟨l.toArray, by apply Array.ext'; simp⟩
    have hA : Builtin.append_ ts ty [u, q].toArray = Builtin.append_ #[t, t'] ty #[u, q] := by
      simp only [Builtin.append_, ht, ht']
      rfl
    exact EvOk.of (m := Builtin.append_ ts ty [u, q].toArray) (by rw [hA]; exact run_aAppend s he ru rq) (by simp [builtin])
  case clear =>
    split at he <;> try (cases he; done)
    rename_i t x ht
    rw [Option.map_eq_some_iff] at he
    obtain ⟨h2, hh, e⟩ := he
    simp only [Prod.mk.injEq] at e
    obtain ⟨rfl, rfl⟩ := e
    obtain ⟨u, us1, e1, ru, e3⟩ := r
    have e3' : us1 = [] := e3
    subst e3'
    rw [us_of _ e1]
    exact EvOk.of (m := Builtin.clear_ ts ty [u].toArray) (run_aClear s ht hh ru) (by simp [builtin])
  case copy =>
    split at he <;> try (cases he; done)
    rename_i t x y ht
    obtain ⟨u, us1, e1, ru, q, us2, e2, rq, e3⟩ := r
    subst e2
    have e3' : us2 = [] := e3
    subst e3'
    rw [us_of _ e1]
    exact EvOk.of (m := Builtin.copy_ ts ty [u, q].toArray) (run_aCopy s ht he ru rq) (by simp [builtin])

theorem ev_sound (s : St F β w h) {ρ : Operand → AV} {ρ' : Operand → Value} (hρ : ∀ x, Rel (ctx F β w h) (ρ x) (ρ' x)) {o : Oper} {v : AV} {h' : Heap} (he : ev P ρ o.op h = some (v, h')) :
    EvOk F β w h ((execOp ρ' o).run P w) v h' := by
  have pureOk : ∀ (m : Sem Value), (execOp ρ' o).run P w = (m.run P w).andThen (fun v' w' => .ok (.value v') w') → h = h' → (∃ v', m.run P w = .ok v' w ∧ Rel (ctx F β w h) v v') → EvOk F β w h ((execOp ρ' o).run P w) v h' := by
    rintro m hr rfl hm
    exact EvOk.of (VOk.same s hm) hr
  have mp : ∀ {x : Option AV}, x.map (·, h) = some (v, h') → x = some v ∧ h = h' := by
    intro x hx
    rw [Option.map_eq_some_iff] at hx
    obtain ⟨y, hy, e⟩ := hx
    simp only [Prod.mk.injEq] at e
    exact ⟨by rw [hy, e.1], e.2⟩
  cases hop : o.op <;> rw [hop] at he <;> simp only [ev, reduceCtorEq] at he
  case move x =>
    simp only [Option.some.injEq, Prod.mk.injEq] at he
    exact pureOk (pure (ρ' x)) (by simp [execOp, hop]) he.2 ⟨_, rfl, he.1 ▸ hρ x⟩
  case assign x =>
    simp only [Option.some.injEq, Prod.mk.injEq] at he
    exact pureOk (pure (ρ' x)) (by simp [execOp, hop]) he.2 ⟨_, rfl, he.1 ▸ hρ x⟩
  case pick cc a b =>
    split at he <;> simp only [Option.some.injEq, Prod.mk.injEq, reduceCtorEq] at he
    rename_i t ht
    have hc := hρ cc
    rw [ht] at hc
    simp only [Rel] at hc
    refine pureOk (pure (if t then ρ' a else ρ' b)) (by simp [execOp, hop, hc, asBool]) he.2 ⟨_, rfl, ?_⟩
    rw [← he.1]
    cases t
    · exact hρ b
    · exact hρ a
  case alloc t =>
    rw [Option.map_eq_some_iff] at he
    obtain ⟨z, hz, e⟩ := he
    simp only [Prod.mk.injEq] at e
    obtain ⟨rfl, rfl⟩ := e
    exact EvOk.of (run_aAlloc s hz) (by simp [execOp, hop])
  case box t x =>
    rw [Option.map_eq_some_iff] at he
    obtain ⟨z, hz, e⟩ := he
    simp only [Prod.mk.injEq] at e
    obtain ⟨rfl, rfl⟩ := e
    exact EvOk.of (run_aBox (P := P) s hz (hρ x)) (by simp [execOp, hop])
  case build t parts =>
    obtain ⟨h1, h2⟩ := mp he
    exact pureOk (Instr.build t (parts.map fun (i, x) => (i, ρ' x))) (by simp [execOp, hop]) h2 (run_aBuild h1 (by simpa using relP_map hρ parts.toList) w)
  case buildSlice t len parts =>
    exact EvOk.of (m := Instr.buildSlice t len (parts.map fun (i, x) => (i, ρ' x))) (run_aBuildSlice s he (by simpa using relP_map hρ parts.toList)) (by simp [execOp, hop])
  case load t x =>
    obtain ⟨h1, h2⟩ := mp he
    exact pureOk (Instr.loadAt t (ρ' x)) (by simp [execOp, hop]) h2 (run_aLoad s h1 (hρ x))
  case store t a x =>
    rw [Option.map_eq_some_iff] at he
    obtain ⟨h2, hh, e⟩ := he
    simp only [Prod.mk.injEq] at e
    obtain ⟨rfl, rfl⟩ := e
    obtain ⟨w', h1, h3⟩ := run_aStore s hh (hρ a) (hρ x)
    exact ⟨.skip, undef, w', β, by simp [execOp, hop, h1], .inr ⟨rfl, rfl⟩, h3, ⟨#[], rfl, rfl⟩⟩
  case nilCheck x =>
    obtain ⟨h1, h2⟩ := mp he
    have hx := hρ x
    refine pureOk (pure (ρ' x)) ?_ h2 ⟨_, rfl, ?_⟩
    · cases hv : ρ x <;> rw [hv] at h1 hx <;> simp only [aNilCheck, reduceCtorEq] at h1 <;> simp only [Rel] at hx
      · simp [execOp, hop, hx.2]
      · obtain ⟨b, o', e, _⟩ := hx; simp [execOp, hop, e]
      · rename_i f caps
        obtain ⟨vs, e, _⟩ := hx
        cases f <;> simp at h1
        simp [execOp, hop, e]
    · cases hv : ρ x <;> rw [hv] at h1 hx <;> simp only [aNilCheck, reduceCtorEq, Option.some.injEq] at h1
      · subst h1; exact hx
      · subst h1; exact hx
      · rename_i f caps; cases f <;> simp at h1; subst h1; exact hx
  case binOp op t x y ty =>
    obtain ⟨h1, h2⟩ := mp he
    have hb := run_aBin (a := x) (b := y) h1 (hρ x) (hρ y) w
    obtain ⟨z', hz, rz⟩ := hb
    refine pureOk (eqGuard op t x y (ρ' x) (ρ' y) >>= fun _ => binOp op t (ρ' x) (ρ' y)) ?_ h2 ⟨z', hz, rz⟩
    have e : execOp ρ' o = (do pure (.value (← (eqGuard op t x y (ρ' x) (ρ' y) >>= fun _ => binOp op t (ρ' x) (ρ' y))))) := by simp [execOp, hop]
    rw [e, Sem.run_bind]
    rfl
  case unOp op t x =>
    obtain ⟨h1, h2⟩ := mp he
    exact pureOk (Op.unary op (ρ' x)) (by simp [execOp, hop]) h2 (run_aUn h1 (hρ x) w)
  case convert src dst x => exact EvOk.of (run_aConvert s he (hρ x)) (by simp [execOp, hop])
  case makeInterface t x =>
    obtain ⟨h1, h2⟩ := mp he
    exact pureOk (Instr.makeInterface t (ρ' x)) (by simp [execOp, hop]) h2 (run_aMakeIface h1 (hρ x) w)
  case makeFunc fn first caps =>
    split at he <;> simp only [Option.some.injEq, Prod.mk.injEq, reduceCtorEq] at he
    rename_i hf
    have hf' : first = #[] := by apply Array.ext'; simpa using hf
    refine pureOk (pure (.func fn #[] (caps.map ρ'))) (by simp [execOp, hop, Instr.makeFunc, hf']) he.2 ⟨_, rfl, ?_⟩
    rw [← he.1]
    exact ⟨_, rfl, by simpa using relL_map hρ caps.toList⟩
  case slice t x lo hi mx =>
    obtain ⟨h1, h2⟩ := mp he
    exact pureOk (Instr.sliceAt t (ρ' x) (lo.map ρ') (hi.map ρ') (mx.map ρ')) (by simp [execOp, hop]) h2 (run_aSlice h1 (hρ x) (relO_map hρ lo) (relO_map hρ hi) (relO_map hρ mx) w)
  case fieldAddr t x f =>
    obtain ⟨h1, h2⟩ := mp he
    exact pureOk (Instr.fieldAt t (ρ' x) f) (by simp [execOp, hop]) h2 (run_aFieldAddr h1 (hρ x) w)
  case field t x f =>
    obtain ⟨h1, h2⟩ := mp he
    exact pureOk (Instr.field t (ρ' x) f) (by simp [execOp, hop]) h2 (run_aField h1 (hρ x) w)
  case indexAddr t x i =>
    obtain ⟨h1, h2⟩ := mp he
    exact pureOk (Instr.indexAt t (ρ' x) (ρ' i)) (by simp [execOp, hop]) h2 (run_aIndexAddr h1 (hρ x) (hρ i) w)
  case index t x i =>
    obtain ⟨h1, h2⟩ := mp he
    exact pureOk (Instr.index t (ρ' x) (ρ' i)) (by simp [execOp, hop]) h2 (run_aIndex h1 (hρ x) (hρ i) w)
  case extract x i =>
    obtain ⟨h1, h2⟩ := mp he
    exact pureOk (Instr.extract (ρ' x) i) (by simp [execOp, hop]) h2 (run_aExtract h1 (hρ x) w)
  case call cc =>
    split at he <;> try (cases he; done)
    rename_i b hb
    have e : ∀ (cs : Array Bool), resolve ρ' cc o.type = (pure { target := .builtin b cc.argTypes o.type cs, args := cc.args.map ρ' } : Sem Deferred) → (execOp ρ' o).run P w = (builtin b cc.argTypes o.type cs (cc.args.map ρ')).run P w := by
      intro cs hcs
      simp only [execOp, hop, hcs, Sem.run_bind, Sem.run_pure, Result.andThen_ok, invoke]
    rw [e _ (by unfold resolve; rw [hb])]
    exact builtin_sound s he (by simpa using relL_map hρ cc.args.toList)

end
end Go.AH
