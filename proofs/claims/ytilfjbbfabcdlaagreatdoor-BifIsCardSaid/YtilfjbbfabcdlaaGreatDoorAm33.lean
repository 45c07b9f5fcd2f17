/- A reading of plain data, told outright: its cells as values that are looked at only. -/
import Derived.Test.YtilfjbbfabcdlaaGreatDoorAm32
set_option linter.unusedVariables false
set_option linter.unusedSimpArgs false
namespace Go.Am
open Go.RowKit

def flatFs (P : Program) : Nat → List Field → Bool
  | _, [] => true
  | o, f :: fs => decide (f.offset = o) && flatFs P (o + P.cellsOf f.type) fs

mutual
def dcells {H : Type} (P : Program) (t : TypeId) : DataW H → Option (List AVal)
  | .lit (.bool b) => some [.bool b]
  | .lit (.int k n) => some [.int k n]
  | .lit (.float k n) => some [.flt k n]
  | .lit (.string bs) => some [.str ⟨bs.toArray⟩]
  | .lit _ => none
  | .nil => match P.underlying t with
    | some (.pointer _) => some [.nilp]
    | some (.slice _) => some [.nils]
    | some (.map _ _) => some [.nilm]
    | some (.func _ _ _) => some [.nilf]
    | some (.interface _) => some [.nili]
    | _ => none
  | .ptr d => match P.underlying t with
    | some (.pointer e) => (dcells P e d).map fun cs => [.rop cs]
    | _ => none
  | .slice es _ => match P.underlying t with
    | some (.slice e) => (dcellsAll P e es).map fun cs => [.ros cs es.length]
    | _ => none
  | .agg ds => match P.underlying t with
    | some (.struct fs) => if (flatFs P 0 fs.toList && decide (endsAt P 0 fs.toList = P.cellsOf t)) = true then dcellsEach P (fs.toList.map (·.type)) ds else none
    | some (.array n e) => if P.cellsOf t = n * P.cellsOf e then dcellsAll P e ds else none
    | _ => none
  | _ => none
def dcellsAll {H : Type} (P : Program) (e : TypeId) : List (DataW H) → Option (List AVal)
  | [] => some []
  | d :: r => match dcells P e d, dcellsAll P e r with
    | some a, some b => some (a ++ b)
    | _, _ => none
def dcellsEach {H : Type} (P : Program) : List TypeId → List (DataW H) → Option (List AVal)
  | [], [] => some []
  | t :: ts, d :: r => match dcells P t d, dcellsEach P ts r with
    | some a, some b => some (a ++ b)
    | _, _ => none
  | _, _ => none
end

theorem dcellsAll_rows {H : Type} {P : Program} {e : TypeId} : ∀ (ds : List (DataW H)) (acs : List AVal), dcellsAll P e ds = some acs → ∃ rs : List (List AVal), rs.length = ds.length ∧ acs = rs.flatten ∧ ∀ (i : Nat) (d : DataW H), ds[i]? = some d → ∃ r, rs[i]? = some r ∧ dcells P e d = some r
  | [], acs, h => by simp [dcellsAll] at h; subst h; exact ⟨[], rfl, rfl, fun i d hi => by simp at hi⟩
  | d :: ds, acs, h => by
    simp only [dcellsAll] at h
    split at h
    · rename_i a b ha hb
      injection h with h; subst h
      obtain ⟨rs, h1, rfl, h3⟩ := dcellsAll_rows ds b hb
      refine ⟨a :: rs, by simp [h1], by simp, fun i x hi => ?_⟩
      cases i with
      | zero => simp at hi; subst hi; exact ⟨a, rfl, ha⟩
      | succ i => obtain ⟨r, hr, hd⟩ := h3 i x (by simpa using hi); exact ⟨r, by simpa using hr, hd⟩
    · cases h

theorem rows_cat {P : Program} {w : World} {ro : Nat → Prop} {μ : Mu} {cs : List Value} {c : Nat} : ∀ (rs : List (List AVal)) (k : Nat), (∀ (i : Nat) (r : List AVal), rs[i]? = some r → VRs P w ro μ r ((cs.drop ((k + i) * c)).take c)) → VRs P w ro μ rs.flatten ((cs.drop (k * c)).take (rs.length * c))
  | [], k, _ => by simp [VRs]
  | r :: rs, k, h => by
    rw [List.flatten_cons]
    have e : (cs.drop (k * c)).take ((r :: rs).length * c) = (cs.drop (k * c)).take c ++ (cs.drop ((k + 1) * c)).take (rs.length * c) := by
      have e1 : (r :: rs).length * c = c + rs.length * c := by rw [List.length_cons, Nat.succ_mul]; omega
      have e2 : (k + 1) * c = k * c + c := by rw [Nat.succ_mul]
      rw [e1, List.take_add, List.drop_drop, e2]
    rw [e]
    refine VRs.append (by simpa using h 0 r rfl) (rows_cat rs (k + 1) fun i r' hi => ?_)
    have := h (i + 1) r' (by simpa using hi)
    rwa [show k + (i + 1) = k + 1 + i by omega] at this

theorem each_fields {H : Type} {enc : TypeId × Value → H} {P : Program} {w : World} {μ : Mu} {held : Bool} {fuel : Nat} {cs : List Value} (ih : ∀ (t : TypeId) (cs : List Value) (d : DataW H) (ps : List MemPlace), DataW.trod enc P w 0 (fun _ => true) held fuel t cs = some (d, ps) → ∀ acs, dcells P t d = some acs → VRs P w (fun b => b < w.heap.size) μ acs cs) :
    ∀ (fs : List Field) (o : Nat) (xs : List (DataW H × List MemPlace)) (acs : List AVal), flatFs P o fs = true → endsAt P o fs = cs.length →
    fs.mapM (fun f => DataW.trod enc P w 0 (fun _ => true) held fuel f.type ((cs.drop f.offset).take (P.cellsOf f.type))) = some xs → dcellsEach P (fs.map (·.type)) (xs.map (·.1)) = some acs → VRs P w (fun b => b < w.heap.size) μ acs (cs.drop o)
  | [], o, xs, acs, hf, he, hm, hd => by
    simp at hm; subst hm
    simp [dcellsEach] at hd; subst hd
    simp only [endsAt] at he
    simp only [VRs]
    rw [List.drop_eq_nil_iff]; omega
  | f :: fs, o, xs, acs, hf, he, hm, hd => by
    simp only [flatFs, Bool.and_eq_true, decide_eq_true_eq] at hf
    simp only [List.mapM_cons, Option.pure_def, Option.bind_eq_bind, Option.bind_eq_some_iff] at hm
    obtain ⟨x, hx, xs', hxs, hxe⟩ := hm
    injection hxe with hxe; subst hxe
    simp only [List.map_cons, dcellsEach] at hd
    simp only [endsAt] at he
    split at hd
    · rename_i a b ha hb
      injection hd with hd; subst hd
      have h1 := ih _ _ x.1 x.2 hx a ha
      have h2 := each_fields ih fs (o + P.cellsOf f.type) xs' b hf.2 he hxs hb
      have : cs.drop o = (cs.drop f.offset).take (P.cellsOf f.type) ++ cs.drop (o + P.cellsOf f.type) := by
        rw [hf.1, ← List.drop_drop, List.take_append_drop]
      rw [this]
      exact h1.append h2
    · cases hd

theorem ro_of_cells {P : Program} {w : World} {ro : Nat → Prop} {μ : Mu} {a : Addr} {n base : Nat} {vs : List Value} {as : List AVal} (h : w.cells? base a n = some vs) (hv : VRs P w ro μ as vs) (hne : as ≠ []) : a.block < w.heap.size ∧ a.spot = none := by
  have hl := VRs.at_ h hv
  have hpos : 0 < as.length := List.length_pos_iff.2 hne
  have hc := (cells_of h).2 0 (by omega)
  rw [List.getElem?_eq_getElem (by rw [(cells_of h).1]; omega)] at hc
  have h0 : a.add 0 = a := by simp [Addr.add]
  rw [h0] at hc
  have := cell_lt hc
  exact ⟨this.2, this.1⟩

theorem dcells_sound {H : Type} {enc : TypeId × Value → H} {P : Program} {w : World} {μ : Mu} {held : Bool} : ∀ (fuel : Nat) (t : TypeId) (cs : List Value) (d : DataW H) (ps : List MemPlace), DataW.trod enc P w 0 (fun _ => true) held fuel t cs = some (d, ps) →
    ∀ acs, dcells P t d = some acs → VRs P w (fun b => b < w.heap.size) μ acs cs
  | 0, t, cs, d, ps, h => by simp [DataW.trod] at h
  | fuel + 1, t, cs, d, ps, h => by
    intro acs hd
    have ih := dcells_sound (enc := enc) (P := P) (w := w) (μ := μ) (held := held) fuel
    unfold DataW.trod at h
    split at h
    · -- bool
      injection h with h; injection h with h _; subst h
      simp only [dcells] at hd; injection hd with hd; subst hd
      exact ⟨_, _, rfl, rfl, rfl⟩
    · -- int
      split at h
      case isFalse => cases h
      rename_i hk
      obtain ⟨rfl, _⟩ := hk
      injection h with h; injection h with h _; subst h
      simp only [dcells] at hd; injection hd with hd; subst hd
      exact ⟨_, _, rfl, rfl, rfl⟩
    · -- float
      split at h
      case isFalse => cases h
      rename_i hk
      obtain ⟨rfl, _⟩ := hk
      injection h with h; injection h with h _; subst h
      simp only [dcells] at hd; injection hd with hd; subst hd
      exact ⟨_, _, rfl, rfl, rfl⟩
    · -- string
      split at h
      case isFalse => cases h
      injection h with h; injection h with h _; subst h
      simp only [dcells] at hd; injection hd with hd; subst hd
      exact ⟨_, _, rfl, by simp [VR], rfl⟩
    · -- a pointer to nothing
      rename_i hu
      injection h with h; injection h with h _; subst h
      simp only [dcells, hu] at hd; injection hd with hd; subst hd
      exact ⟨_, _, rfl, rfl, rfl⟩
    · -- a pointer
      rename_i e a hu
      simp only [Option.map_eq_some_iff, Option.bind_eq_some_iff] at h
      obtain ⟨x, ⟨vs, hvs, hx⟩, he⟩ := h
      injection he with he _; subst he
      simp only [dcells, hu, Option.map_eq_some_iff] at hd
      obtain ⟨rs, hrs, rfl⟩ := hd
      have hv := ih _ _ x.1 x.2 hx rs hrs
      exact ⟨_, _, rfl, ⟨a.block, a.off, a.spot, rfl, fun hne => ro_of_cells hvs hv hne, VRat.of_cells hvs hv⟩, rfl⟩
    · -- a slice of nothing
      rename_i hu
      injection h with h; injection h with h _; subst h
      simp only [dcells, hu] at hd; injection hd with hd; subst hd
      exact ⟨_, _, rfl, rfl, rfl⟩
    · -- a slice
      rename_i e a len cap hu
      simp only at h
      split at h
      case isFalse => cases h
      rename_i hc
      simp only [Option.bind_eq_some_iff, Option.map_eq_some_iff] at h
      obtain ⟨elems, hel, rest, _, he⟩ := h
      injection he with he _; subst he
      simp only [dcells, hu, Option.map_eq_some_iff, List.length_map] at hd
      obtain ⟨rs0, hrs, rfl⟩ := hd
      obtain ⟨hlen, hget⟩ := mapM_get _ _ _ hel
      simp only [List.length_range] at hlen
      obtain ⟨rs, hrl, rfl, hrow⟩ := dcellsAll_rows _ _ hrs
      simp only [List.length_map] at hrl
      have hone : ∀ (i : Nat) (r : List AVal), rs[i]? = some r → ∃ vs, w.cells? 0 (a.add (i * P.cellsOf e)) (P.cellsOf e) = some vs ∧ VRs P w (fun b => b < w.heap.size) μ r vs := by
        intro i r hi
        have hil : i < len := by rw [← hlen, ← hrl]; exact (List.getElem?_eq_some_iff.1 hi).1
        obtain ⟨x, hx, hf⟩ := hget i i (by simp [hil])
        simp only [Option.bind_eq_some_iff] at hf
        obtain ⟨vs, hvs, hd⟩ := hf
        obtain ⟨r', hr', hdr⟩ := hrow i x.1 (by rw [List.getElem?_map, hx]; rfl)
        rw [hi] at hr'; injection hr' with hr'; subst hr'
        exact ⟨vs, hvs, ih _ _ x.1 x.2 hd r hdr⟩
      have hrows : ∀ (i : Nat) (r : List AVal), rs[i]? = some r → r.length = P.cellsOf e ∧ VRat P w (fun b => b < w.heap.size) μ r a.block (a.off + i * P.cellsOf e) := by
        intro i r hi
        obtain ⟨vs, hvs, hv⟩ := hone i r hi
        have hat := VRat.of_cells hvs hv
        obtain ⟨b, o, sp⟩ := a
        obtain ⟨sp', he1, _⟩ := add_ex b o sp (i * P.cellsOf e)
        rw [he1] at hat
        exact ⟨VRs.at_ hvs hv, hat⟩
      refine ⟨_, _, rfl, ⟨a.block, a.off, cap, a.spot, by rw [hlen], by rw [hlen]; exact hc.2.1, fun hne => ?_, VRat.rows (c := P.cellsOf e) rs a.off hrows⟩, rfl⟩
      have : ∃ r ∈ rs, r ≠ [] := by
        rw [← Classical.not_not (a := ∃ r ∈ rs, r ≠ [])]
        intro hno
        refine hne (List.flatten_eq_nil_iff.2 fun l hl => ?_)
        rw [← Classical.not_not (a := l = [])]
        exact fun e => hno ⟨l, hl, e⟩
      obtain ⟨r, hr, hrne⟩ := this
      have hcp : 0 < P.cellsOf e := by
        obtain ⟨i, hi, rfl⟩ := List.getElem_of_mem hr
        rw [← (hrows i _ (List.getElem?_eq_getElem hi)).1]
        exact List.length_pos_iff.2 hrne
      have hlp : 0 < rs.length := List.length_pos_of_mem hr
      obtain ⟨vs, hvs, hv⟩ := hone 0 _ (List.getElem?_eq_getElem hlp)
      have h4 : a.add (0 * P.cellsOf e) = a := by simp [Addr.add]
      rw [h4] at hvs
      exact ro_of_cells hvs hv (List.length_pos_iff.1 (by rw [(hrows 0 _ (List.getElem?_eq_getElem hlp)).1]; exact hcp))
    · -- a struct
      rename_i cs _ _ fs hu
      split at h
      case isFalse => cases h
      rename_i hl
      simp only [Option.map_eq_some_iff] at h
      obtain ⟨xs, hxs, hx⟩ := h
      injection hx with h1 _; subst h1
      simp only [dcells, hu] at hd
      split at hd
      case isFalse => cases hd
      rename_i hok
      simp only [Bool.and_eq_true, decide_eq_true_eq] at hok
      have := each_fields ih fs.toList 0 xs acs hok.1 (hok.2.trans hl.symm) hxs hd
      simpa using this
    · -- an array
      rename_i cs _ _ n e hu
      split at h
      case isFalse => cases h
      rename_i hl
      simp only [Option.map_eq_some_iff] at h
      obtain ⟨xs, hxs, hx⟩ := h
      injection hx with h1 _; subst h1
      simp only [dcells, hu] at hd
      split at hd
      case isFalse => cases hd
      rename_i hok
      obtain ⟨hlen, hget⟩ := mapM_get _ _ _ hxs
      simp only [List.length_range] at hlen
      obtain ⟨rs, hrl, rfl, hrow⟩ := dcellsAll_rows _ _ hd
      simp only [List.length_map] at hrl
      have := rows_cat (P := P) (w := w) (ro := fun b => b < w.heap.size) (μ := μ) (cs := cs) (c := P.cellsOf e) rs 0 (fun i r hi => by
        have hil : i < n := by rw [← hlen, ← hrl]; exact (List.getElem?_eq_some_iff.1 hi).1
        obtain ⟨x, hx, hf⟩ := hget i i (by simp [hil])
        obtain ⟨r', hr', hdr⟩ := hrow i x.1 (by rw [List.getElem?_map, hx]; rfl)
        rw [hi] at hr'; injection hr' with hr'; subst hr'
        rw [Nat.zero_add]
        exact ih _ _ x.1 x.2 hf r hdr)
      rw [Nat.zero_mul, List.drop_zero, hrl, hlen, ← hok, ← hl, List.take_length] at this
      exact this
    · -- an interface's nil
      rename_i hu
      injection h with h; injection h with h _; subst h
      simp only [dcells, hu] at hd; injection hd with hd; subst hd
      exact ⟨_, _, rfl, rfl, rfl⟩
    · -- an interface
      rename_i hu
      split at h
      · injection h with h; injection h with h _; subst h
        simp [dcells] at hd
      · simp only [Option.map_eq_some_iff] at h
        obtain ⟨x, _, hx⟩ := h
        injection hx with h1 _; subst h1
        simp [dcells] at hd
      · cases h
    · -- a map of nothing
      rename_i hu
      injection h with h; injection h with h _; subst h
      simp only [dcells, hu] at hd; injection hd with hd; subst hd
      exact ⟨_, _, rfl, rfl, rfl⟩
    · -- a map
      split at h
      · split at h
        · simp only [Option.bind_eq_some_iff] at h
          obtain ⟨es, _, h⟩ := h
          split at h
          · injection h with h; injection h with h _; subst h
            simp [dcells] at hd
          · cases h
        · cases h
      · cases h
    · rename_i hu
      injection h with h; injection h with h _; subst h
      simp only [dcells, hu] at hd; injection hd with hd; subst hd
      exact ⟨_, _, rfl, rfl, rfl⟩
    · rename_i hu
      injection h with h; injection h with h _; subst h
      simp only [dcells, hu] at hd; cases hd
    · rename_i hu
      injection h with h; injection h with h _; subst h
      simp only [dcells, hu] at hd; cases hd
    all_goals first
      | (cases h; done)
      | (split at h
         · injection h with h; injection h with h _; subst h
           simp [dcells] at hd
         · cases h)

/-- A laid variable's block. -/
theorem glob_of {H : Type} {enc : TypeId × Value → H} {P : Program} {w : World} {held : Bool} {fuel g : Nat} {t : TypeId} {cs : Array Value} {d : DataW H} {ps : List MemPlace} {acs : List AVal} (hc : ∀ i, w.cell? ⟨g, i, none⟩ = cs[i]?) (h : DataW.trod enc P w 0 (fun _ => true) held fuel t cs.toList = some (d, ps)) (hd : dcells P t d = some acs) (hne : acs ≠ []) :
    g < w.heap.size ∧ ∀ μ, VRat P w (fun b => b < w.heap.size) μ acs g 0 := by
  have key : ∀ μ, VRs P w (fun b => b < w.heap.size) μ acs cs.toList := fun μ => dcells_sound (μ := μ) fuel t cs.toList d ps h acs hd
  refine ⟨?_, fun μ => ?_⟩
  · have hl := (key (fun _ => none)).len
    have hpos : 0 < acs.length := List.length_pos_iff.2 hne
    have h0 := hc 0
    have hs : 0 < cs.size := by simp at hl; omega
    rw [Array.getElem?_eq_getElem hs] at h0
    exact (cell_lt h0).2
  · rw [VRat_iff]
    intro i a hi
    have hv := (VRs_iff _ _).1 (key μ)
    have hil : i < cs.size := by have := hv.1; simp at this; rw [← this]; exact (List.getElem?_eq_some_iff.1 hi).1
    refine ⟨cs[i], ?_, hv.2 i a _ hi (by simp [hil])⟩
    rw [Nat.zero_add, hc, Array.getElem?_eq_getElem hil]
end Go.Am
