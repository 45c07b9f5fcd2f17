/- The closing of a law that answers true: its arguments' readings opened, its contract applied, its post. -/
import Derived.Test.YtilfjbbfabcdlaaGreatDoorAm29
set_option linter.unusedVariables false
set_option linter.unusedSimpArgs false
namespace Go.Am
open Go.RowKit Go.ChangeShapes

def isAggT (P : Program) (t : TypeId) : Bool := match P.underlying t with
  | some (.struct _) => true
  | some (.array _ _) => true
  | _ => false
def argOf (P : Program) (t : TypeId) (acs : List AVal) : AVal := if isAggT P t then .agg acs else acs.headD .nilp

theorem arg_ok {P : Program} {W : World} {base : Nat} {t : TypeId} {v : Value} {ro : Nat → Prop} {μ : Mu} {acs : List AVal} (h : Value.okWide P W .any base t v) (hv : VRs P W ro μ acs v.cells.toList) : VR P W ro μ (argOf P t acs) v := by
  unfold argOf
  by_cases ha : isAggT P t
  · rw [if_pos ha]
    have : ∃ cs, v = .agg cs := by
      unfold isAggT at ha
      unfold Value.okWide at h
      split at ha
      · rename_i hu; rw [hu] at h; obtain ⟨cs, hc, _⟩ := h; exact ⟨cs, hc⟩
      · rename_i hu; rw [hu] at h; obtain ⟨cs, hc, _⟩ := h; exact ⟨cs, hc⟩
      · cases ha
    obtain ⟨cs, rfl⟩ := this
    exact ⟨cs, rfl, hv⟩
  · rw [if_neg ha]
    have hne : ∀ cs, v ≠ .agg cs := by
      rintro cs rfl
      unfold isAggT at ha
      unfold Value.okWide at h
      split at ha
      · exact ha rfl
      · exact ha rfl
      · rename_i h1 h2
        split at h
        · rename_i hu; exact h1 _ hu
        · rename_i hu; exact h2 _ _ hu
        · unfold Cell.okWide at h
          split at h <;> first | (cases ‹Value.agg _ = _›; done) | skip
          all_goals (try (unfold Cell.ok at h; split at h <;> first | (exact h) | skip))
          all_goals simp_all
    have hc : v.cells = #[v] := by
      cases v <;> first | rfl | (exact absurd rfl (hne _))
    rw [hc] at hv
    cases acs with
    | nil => simp [VRs] at hv
    | cons x r => obtain ⟨u, r', he, hx, _⟩ := hv; injection he with he _; subst he; exact hx

def OpensAll (P : Program) : List TypeId → List (List AVal → Prop) → Prop
  | [], [] => True
  | t :: ts, p :: ps => Opens P t p ∧ OpensAll P ts ps
  | _, _ => False
/-- The arguments that a law may be handed. -/
def ArgsOf (P : Program) : List TypeId → List (List AVal → Prop) → List AVal → Prop
  | [], [], as => as = []
  | t :: ts, p :: ps, as => ∃ acs r, as = argOf P t acs :: r ∧ p acs ∧ ArgsOf P ts ps r
  | _, _, _ => False

theorem opens_args {H : Type} {enc : TypeId × Value → H} {P : Program} {W : World} {base : Nat} {us : List TypeId} {gs : List (DataW H)} : ∀ (ts : List TypeId) (ps : List (List AVal → Prop)) (vs : List Value) (ds : List (DataW H)) (q : List MemPlace), OpensAll P ts ps →
    DataW.TrodAll enc P W 0 (fun _ => true) true ts vs ds q → (∀ (j : Nat) t v, ts[j]? = some t → vs[j]? = some v → Value.okWide P W .any base t v) → (DataW.weightsEach P (ts ++ us) (ds ++ gs)).all (· ≤ reachBytes) = true →
    ∃ as, VRs P W (fun b => b < W.heap.size) (fun _ => none) as vs ∧ ArgsOf P ts ps as
  | [], ps, vs, ds, q, ho, ht, hk, hs => by
    cases ps with
    | nil =>
      cases vs with
      | nil => exact ⟨[], rfl, rfl⟩
      | cons v vs => cases ds <;> exact ht.elim
    | cons p ps => exact ho.elim
  | t :: ts, ps, vs, ds, q, ho, ht, hk, hs => by
    cases ps with
    | nil => exact ho.elim
    | cons p ps =>
      obtain ⟨v, vs', d, ds', p1, q1, rfl, rfl, rfl, ⟨fuel, hd⟩, hr⟩ := trodAll_cons ht
      simp only [List.cons_append, DataW.weightsEach, List.all_append, Bool.and_eq_true] at hs
      obtain ⟨acs, hv, hp⟩ := ho.1 enc W fuel _ d p1 hd hs.1
      obtain ⟨as, hvs, has⟩ := opens_args ts ps vs' ds' q1 ho.2 hr (fun j t v h1 h2 => hk (j + 1) t v (by simpa using h1) (by simpa using h2)) hs.2
      exact ⟨argOf P t acs :: as, ⟨v, vs', rfl, arg_ok (hk 0 t v rfl rfl) hv, hvs⟩, acs, as, rfl, hp, has⟩

theorem trodAll_carry {H : Type} {enc : TypeId × Value → H} {P : Program} {W W' : World} (hl : laidOutB P = true) (hb : Below W.heap.size W W') : ∀ (ts : List TypeId) (vs : List Value) (ds : List (DataW H)) (q : List MemPlace),
    ts.all (fun t => P.readableRec t && decide (t < P.types.size)) = true → DataW.TrodAll enc P W 0 (fun _ => true) true ts vs ds q → DataW.TrodAll enc P W' 0 (fun b => decide (b < W.heap.size)) true ts vs ds q
  | [], vs, ds, q, _, ht => by
    cases vs <;> cases ds <;> first | exact ht | exact ht.elim
  | t :: ts, vs, ds, q, ha, ht => by
    obtain ⟨v, vs', d, ds', p1, q1, rfl, rfl, rfl, hd, hr⟩ := trodAll_cons ht
    simp only [List.all_cons, Bool.and_eq_true, decide_eq_true_eq] at ha
    have hlt : ∀ x ∈ p1, x.block < W.heap.size := by
      obtain ⟨m, hm⟩ := hd
      exact DataW.trod_lt m _ _ _ hm
    exact ⟨p1, q1, Below.trod hl ha.1.1 ha.1.2 hd hb hlt, trodAll_carry hl hb ts vs' ds' q1 ha.2 hr, rfl⟩

theorem trodAll_length {H : Type} {enc : TypeId × Value → H} {P : Program} {W : World} {base : Nat} {sp : Nat → Bool} {hd : Bool} : ∀ (ts : List TypeId) (vs : List Value) (ds : List (DataW H)) (q : List MemPlace), DataW.TrodAll enc P W base sp hd ts vs ds q → ds.length = ts.length
  | [], vs, ds, q, ht => by cases vs <;> cases ds <;> first | rfl | exact ht.elim
  | t :: ts, vs, ds, q, ht => by
    obtain ⟨v, vs', d, ds', p1, q1, rfl, rfl, rfl, hd, hr⟩ := trodAll_cons ht
    simp [trodAll_length ts vs' ds' q1 hr]

theorem below_of_out {W W' : World} {ro ro' : Nat → Prop} {μ μ' : Mu} {H' : AHeap} (h : Out W ro μ AHeap.empty W' ro' μ' H') : Below W.heap.size W W' :=
  ⟨h.keep.os, h.keep.tape, h.keep.output, h.keep.size, fun k hk => h.keep.same k hk (fun ⟨id, b, base, hg, _⟩ => by simp [AHeap.get, AHeap.empty] at hg)⟩

theorem good_empty (P : Program) (W : World) (hgl : Glob P W (fun b => b < W.heap.size)) : Good P W (fun b => b < W.heap.size) (fun _ => none) AHeap.empty :=
  ⟨fun id k b base h => (by simp [AHeap.get, AHeap.empty] at h), fun id b base h => (by cases h), fun id k b base h => (by simp [AHeap.get, AHeap.empty] at h),
   fun i j ki kj b oi oj h => (by simp [AHeap.get, AHeap.empty] at h), fun _ _ => rfl, fun _ h => h, hgl⟩

/-- A law that answers true, whatever it is handed. -/
theorem law_true {H : Type} {enc : TypeId × Value → H} {C : Checked} {os : Os} {f : FuncId} {fn : Func} {s : ChangeSpec} {conds : List PathCond} {rt : TypeId} {ps : List (List AVal → Prop)}
    (own : ownKnob C.prog.godebug = none) (laid : laidOutB C.prog = true) (started : os.Started) (noInit : C.prog.inits.idxOf? f = none) (hfn : C.prog.funcs[f]? = some fn)
    (witness : ∃ (w : World) (tape : Tape) (i : Input), w.os = os ∧ (w.forCall tape i).Shaped C.prog ∧ i.vars = [] ∧ Input.okWide C.prog (w.forCall tape i) .any w.heap.size f i ∧
      s.pre6 enc C.prog fn conds false (w.forCall tape i).memory i.args ∧ ({} : Assume).holds C.prog (lone (Frame.enter C.prog f i.args .normal) [] (w.forCall tape i)))
    (hread : fn.params.toList.all (fun t => C.prog.readableRec t && decide (t < C.prog.types.size)) = true) (hres : fn.resultTypes.toList = [rt]) (hrt : C.prog.underlying rt = some .bool) (hvars : s.vars = [])
    (hs : ∀ ds : List (DataW H), ds.length = fn.params.toList.length → s.fn H ds = { results := [.lit (.bool true)], args := ds })
    (hop : OpensAll C.prog fn.params.toList ps) (hglob : ∀ W : World, Glob C.prog W (fun b => b < W.heap.size))
    (hlaw : ∀ as, ArgsOf C.prog fn.params.toList ps as → CallEv C.prog f as AHeap.empty fun r _ => r = .bool true) :
    ReturnsInHanded {} C os f .any (s.pre6 enc C.prog fn conds false) (s.post enc C.prog fn false true false false) := by
  refine returnsInHanded_of_change_sized own started noInit hfn witness ?_
  intro W base args ds gs before hval hW hcnd hsz _
  have hW' := hW
  obtain ⟨p, q, hA, hV, rfl, hfz, hnd⟩ := hW
  rw [hvars] at hV
  obtain ⟨rfl, rfl⟩ := trodVars_none hV
  obtain ⟨as, hvs, has⟩ := opens_args fn.params.toList ps args.toList ds p hop hA (fun j t v h1 h2 => hval j t v (by simpa using h1) (by simpa using h2)) hsz
  refine (hlaw as has W (fun b => b < W.heap.size) (fun _ => none) args (good_empty _ _ (hglob W)) hvs).mono fun e W' ⟨v', r, H', ro', μ', he, hr, hv, _, ho⟩ => ?_
  subst he; subst hr
  simp only [VR] at hv; subst hv
  have hb := below_of_out ho
  have hfn1 : s.fn H (ds ++ []) = { results := [.lit (.bool true)], args := ds } := by rw [List.append_nil]; exact hs ds (trodAll_length _ _ _ _ hA)
  have hsize : fn.resultTypes.size = 1 := by rw [← Array.length_toList, hres]; rfl
  refine ⟨_, rfl, ds, [], _, [], p, [], hW', ?_, ?_, ?_, hb.frame _, fun h => by cases h⟩
  · rw [hfn1, hres, hsize]
    exact trodAll_mk1 (shut_bool hrt _)
  · rw [hfn1]
    exact trodAll_carry laid hb _ _ _ _ hread hA
  · rw [hfn1, hvars]
    exact rfl

end Go.Am
