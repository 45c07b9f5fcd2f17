/- Parts: B28, B29, B30, B31, B32. -/
import Derived.Test.YtcmaphhbecjbjaaGreatDoorB7
import Derived.Test.YtcmaphhbecjbjaaGreatDoorAmS
import Derived.Test.YtcmaphhbecjbjaaGreatDoorBM
set_option linter.unusedVariables false
set_option linter.unusedSimpArgs false
set_option maxRecDepth 20000
/- A right term's own fields: what the document's 'fields' asks. -/
namespace Go.Am.Rl
open Go.Proofs

/-- Is a float finite, as the document asks it? -/
def fin64 (f : Nat) : Bool := match FloatKind.f64.format.sub f f with
  | some r => FloatKind.f64.format.order r 0 == some .eq
  | none => false
theorem g163x (f : Nat) (H : AHeap) : DCall Tryz.prog 167 [.flt .f64 f] H fun r H' => r = .bool (fin64 f) ∧ H' = H := by
  have h : ∃ v, abin .sub (.flt .f64 f) (.flt .f64 f) = some v ∧ abin .eql v (.flt .f64 0) = some (.bool (fin64 f)) := by
    unfold fin64
    cases h : FloatKind.f64.format.sub f f with
    | none => exact ⟨.nan .f64, by simp [abin, h, flOr], rfl⟩
    | some r => exact ⟨.flt .f64 r, by simp [abin, h, flOr], by simp [abin]⟩
  obtain ⟨v, hv, hb⟩ := h
  refine DCall.of_body (fn := Tryz.f167) (by kernel_rfl) c167 (by kernel_rfl) (by simp [f167]) ?_
  unfold f167
  simp only []
  refine DR.go rfl ?_
  simp -dsimp only [SZ, EZ, astep, aun, AVal.cells, seval]
  refine DR.go rfl ?_
  simp -dsimp only [SZ, EZ, astep, aun, AVal.cells, seval, hv, hb]
  refine DR.nm rfl ?_
  exact DR.ret ⟨_, by simp [aresult, ares, Env.get] <;> rfl, ⟨rfl, rfl⟩⟩
def known163 : GKnown := fun f xs H F => match xs with
  | [.flt .f64 x] => match Nat.beq f 167 with
    | true => some ((fin64 x = true → F (.ret (.bool true)) H) ∧ (fin64 x = false → F (.ret (.bool false)) H))
    | false => none
  | _ => none
theorem known163_ok : known163.Ok Tryz.prog := by
  intro f xs H F p hp h
  unfold known163 at hp
  split at hp
  · rename_i x
    split at hp
    · rename_i e
      obtain rfl := Nat.eq_of_beq_eq_true e
      injection hp with hp
      subst hp
      refine (DCall.x (g163x x H)).mono fun o H' ⟨r, ho, hr, hH⟩ => ?_
      subst hr; subst hH; subst ho
      cases hb : fin64 x with
      | true => exact h.1 hb
      | false => exact h.2 hb
    · cases hp
  · cases hp
/-- A row of conditions, each with what it must be. -/
abbrev Cond := BinOp × AVal × AVal × Bool
def Cond.met (c : Cond) : Prop := abin c.1 c.2.1 c.2.2.1 = some (.bool c.2.2.2)
def chainP : List Cond → Prop → Prop → Prop
  | [], good, _ => good
  | (c, u, v, true) :: r, good, bad => isCmp c u v = true ∧ (abin c u v = some (.bool true) → chainP r good bad) ∧ (abin c u v = some (.bool false) → bad)
  | (c, u, v, false) :: r, good, bad => isCmp c u v = true ∧ (abin c u v = some (.bool true) → bad) ∧ (abin c u v = some (.bool false) → chainP r good bad)
theorem chainP_of : ∀ {l : List Cond} {good bad : Prop}, (∀ c ∈ l, isCmp c.1 c.2.1 c.2.2.1 = true) → ((∀ c ∈ l, c.met) → good) → bad → chainP l good bad
  | [], good, bad, _, h, _ => h fun c hc => by cases hc
  | (c, u, v, true) :: r, good, bad, hc, h, hb => ⟨hc _ (List.mem_cons_self ..), fun ht => chainP_of (fun c h => hc c (List.mem_cons_of_mem _ h)) (fun hr => h fun c hm => by
      rcases List.mem_cons.mp hm with rfl | hm
      · exact ht
      · exact hr c hm) hb, fun _ => hb⟩
  | (c, u, v, false) :: r, good, bad, hc, h, hb => ⟨hc _ (List.mem_cons_self ..), fun _ => hb, fun ht => chainP_of (fun c h => hc c (List.mem_cons_of_mem _ h)) (fun hr => h fun c hm => by
      rcases List.mem_cons.mp hm with rfl | hm
      · exact ht
      · exact hr c hm) hb⟩
/-- What 'fields' tells: if true, then that. -/
def Tru (p : Prop) (o : AOut) (H : AHeap) : Prop := ∃ b, o = .ret (.bool b) ∧ (b = true → p)
def symF : FuncId → List Nat := fun f => if f = 101 then [15, 19, 30, 37, 41, 46, 57, 63, 67, 72, 84, 88] else if f = 143 then [5, 10, 17, 21, 34] else if f = 144 then [5] else []
def run86 (xs : List AVal) (p : Prop) : Prop := hcall tabR known163 symF 1000 4 101 xs AHeap.empty (Tru p)
theorem run86_sound {xs : List AVal} {p : Prop} (h : run86 xs p) : DCallX Tryz.prog 101 xs AHeap.empty (Tru p) := hcall_sound mixed tabR_ok known163_ok 4 101 xs AHeap.empty (Tru p) h
abbrev yes (p : Prop) : Prop := ∃ b, AOut.ret (.bool true) = .ret (.bool b) ∧ (b = true → p)
abbrev no (p : Prop) : Prop := ∃ b, AOut.ret (.bool false) = .ret (.bool b) ∧ (b = true → p)
abbrev i64 (n : Int) : AVal := .int .i64 n
abbrev cS (s : ByteArray) : Cond := (.eql, .str s, .str ⟨#[]⟩, true)
abbrev cF (f : Nat) : Cond := (.eql, .int .u64 f, .int .u64 0, true)
theorem f86a1 (n : Int) (f : Nat) (s : ByteArray) (p : Prop) : chainP [(.neq, .str s, .str ⟨#[]⟩, false), (.neq, i64 (0 : Nat), i64 0, false), (.geq, i64 n, i64 (-576460752303423488), true), (.leq, i64 n, i64 576460752303423487, true), cF f] (yes p) (no p) = run86 (T5 (Int.ofNat 1) n f s .nils) p := by kernel_rfl
theorem f86b1 (n : Int) (f : Nat) (s : ByteArray) (cs : List AVal) (m : Nat) (p : Prop) : chainP [(.neq, .str s, .str ⟨#[]⟩, false), (.neq, i64 m, i64 0, false), (.geq, i64 n, i64 (-576460752303423488), true), (.leq, i64 n, i64 576460752303423487, true), cF f] (yes p) (no p) = run86 (T5 (Int.ofNat 1) n f s (.ros cs m)) p := by kernel_rfl
theorem f86a2 (n : Int) (f : Nat) (s : ByteArray) (p : Prop) : chainP [(.neq, .str s, .str ⟨#[]⟩, false), (.neq, i64 (0 : Nat), i64 0, false), (.eql, i64 n, i64 0, true)] ((fin64 f = true → yes p) ∧ (fin64 f = false → no p)) (no p) = run86 (T5 (Int.ofNat 2) n f s .nils) p := by kernel_rfl
theorem f86b2 (n : Int) (f : Nat) (s : ByteArray) (cs : List AVal) (m : Nat) (p : Prop) : chainP [(.neq, .str s, .str ⟨#[]⟩, false), (.neq, i64 m, i64 0, false), (.eql, i64 n, i64 0, true)] ((fin64 f = true → yes p) ∧ (fin64 f = false → no p)) (no p) = run86 (T5 (Int.ofNat 2) n f s (.ros cs m)) p := by kernel_rfl
theorem f86a3 (n : Int) (f : Nat) (s : ByteArray) (p : Prop) : chainP [(.leq, i64 s.size, i64 64, true), (.eql, i64 n, i64 0, true), cF f, (.eql, i64 (0 : Nat), i64 0, true)] (yes p) (no p) = run86 (T5 (Int.ofNat 3) n f s .nils) p := by kernel_rfl
theorem f86b3 (n : Int) (f : Nat) (s : ByteArray) (cs : List AVal) (m : Nat) (p : Prop) : chainP [(.leq, i64 s.size, i64 64, true), (.eql, i64 n, i64 0, true), cF f, (.eql, i64 m, i64 0, true)] (yes p) (no p) = run86 (T5 (Int.ofNat 3) n f s (.ros cs m)) p := by kernel_rfl
theorem f86a4 (n : Int) (f : Nat) (s : ByteArray) (p : Prop) : chainP [(.geq, i64 n, i64 0, true), (.leq, i64 n, i64 1099511627776, true), cS s, cF f, (.eql, i64 (0 : Nat), i64 0, true)] (yes p) (no p) = run86 (T5 (Int.ofNat 4) n f s .nils) p := by kernel_rfl
theorem f86b4 (n : Int) (f : Nat) (s : ByteArray) (cs : List AVal) (m : Nat) (p : Prop) : chainP [(.geq, i64 n, i64 0, true), (.leq, i64 n, i64 1099511627776, true), cS s, cF f, (.eql, i64 m, i64 0, true)] (yes p) (no p) = run86 (T5 (Int.ofNat 4) n f s (.ros cs m)) p := by kernel_rfl
theorem f86a5 (n : Int) (f : Nat) (s : ByteArray) (p : Prop) : chainP [(.geq, i64 n, i64 0, true), (.leq, i64 n, i64 16384, true), cS s, cF f] (yes p) (no p) = run86 (T5 (Int.ofNat 5) n f s .nils) p := by kernel_rfl
theorem f86b5 (n : Int) (f : Nat) (s : ByteArray) (cs : List AVal) (m : Nat) (p : Prop) : chainP [(.geq, i64 n, i64 0, true), (.leq, i64 n, i64 16384, true), cS s, cF f] (yes p) (no p) = run86 (T5 (Int.ofNat 5) n f s (.ros cs m)) p := by kernel_rfl
theorem f86a6 (n : Int) (f : Nat) (s : ByteArray) (p : Prop) : chainP [(.geq, i64 n, i64 0, true), (.leq, i64 n, i64 1099511627776, true), cS s, cF f, (.eql, i64 (0 : Nat), i64 0, true)] (yes p) (no p) = run86 (T5 (Int.ofNat 6) n f s .nils) p := by kernel_rfl
theorem f86b6 (n : Int) (f : Nat) (s : ByteArray) (cs : List AVal) (m : Nat) (p : Prop) : chainP [(.geq, i64 n, i64 0, true), (.leq, i64 n, i64 1099511627776, true), cS s, cF f, (.eql, i64 m, i64 0, true)] (yes p) (no p) = run86 (T5 (Int.ofNat 6) n f s (.ros cs m)) p := by kernel_rfl
theorem f86a7 (n : Int) (f : Nat) (s : ByteArray) (p : Prop) : chainP [(.eql, i64 n, i64 0, true), cS s, cF f] (yes p) (no p) = run86 (T5 (Int.ofNat 7) n f s .nils) p := by kernel_rfl
theorem f86b7 (n : Int) (f : Nat) (s : ByteArray) (cs : List AVal) (m : Nat) (p : Prop) : chainP [(.eql, i64 n, i64 0, true), cS s, cF f] (yes p) (no p) = run86 (T5 (Int.ofNat 7) n f s (.ros cs m)) p := by kernel_rfl
theorem f86a8 (n : Int) (f : Nat) (s : ByteArray) (p : Prop) : chainP [(.eql, i64 n, i64 0, true), cS s, cF f] (yes p) (no p) = run86 (T5 (Int.ofNat 8) n f s .nils) p := by kernel_rfl
theorem f86b8 (n : Int) (f : Nat) (s : ByteArray) (cs : List AVal) (m : Nat) (p : Prop) : chainP [(.eql, i64 n, i64 0, true), cS s, cF f] (yes p) (no p) = run86 (T5 (Int.ofNat 8) n f s (.ros cs m)) p := by kernel_rfl
theorem f86ax0 (n : Int) (f : Nat) (s : ByteArray) (p : Prop) : no p = run86 (T5 (Int.ofNat 0) n f s .nils) p := by kernel_rfl
theorem f86bx0 (n : Int) (f : Nat) (s : ByteArray) (cs : List AVal) (m : Nat) (p : Prop) : no p = run86 (T5 (Int.ofNat 0) n f s (.ros cs m)) p := by kernel_rfl
theorem f86ax1 (m0 : Nat) (n : Int) (f : Nat) (s : ByteArray) (p : Prop) : no p = run86 (T5 (Int.ofNat (m0 + 9)) n f s .nils) p := by kernel_rfl
theorem f86bx1 (m0 : Nat) (n : Int) (f : Nat) (s : ByteArray) (cs : List AVal) (m : Nat) (p : Prop) : no p = run86 (T5 (Int.ofNat (m0 + 9)) n f s (.ros cs m)) p := by kernel_rfl
theorem f86ax2 (m0 : Nat) (n : Int) (f : Nat) (s : ByteArray) (p : Prop) : no p = run86 (T5 (Int.negSucc m0) n f s .nils) p := by kernel_rfl
theorem f86bx2 (m0 : Nat) (n : Int) (f : Nat) (s : ByteArray) (cs : List AVal) (m : Nat) (p : Prop) : no p = run86 (T5 (Int.negSucc m0) n f s (.ros cs m)) p := by kernel_rfl
end Go.Am.Rl

/- A right term's own fields, as a proposition. -/
namespace Go.Am.Rl
open Go.Proofs

/-- As its kind must be. -/
def TM.pl (t : TM) : Prop :=
  (t.k = 1 ∧ t.s = ⟨#[]⟩ ∧ t.l = [] ∧ (-576460752303423488 ≤ t.n ∧ t.n ≤ 576460752303423487) ∧ t.f = 0) ∨
  (t.k = 2 ∧ t.s = ⟨#[]⟩ ∧ t.l = [] ∧ t.n = 0 ∧ fin64 t.f = true) ∨
  (t.k = 3 ∧ t.s.size ≤ 64 ∧ t.n = 0 ∧ t.f = 0 ∧ t.l = []) ∨
  ((t.k = 4 ∨ t.k = 6) ∧ (0 ≤ t.n ∧ t.n ≤ 1099511627776) ∧ t.s = ⟨#[]⟩ ∧ t.f = 0 ∧ t.l = []) ∨
  (t.k = 5 ∧ (0 ≤ t.n ∧ t.n ≤ 16384) ∧ t.s = ⟨#[]⟩ ∧ t.f = 0) ∨
  ((t.k = 7 ∨ t.k = 8) ∧ t.n = 0 ∧ t.s = ⟨#[]⟩ ∧ t.f = 0)
theorem met_eq {k : IntKind} {n m : Int} (h : Cond.met (.eql, .int k n, .int k m, true)) : n = m := by simpa [Cond.met, abin] using h
theorem met_ne {k : IntKind} {n m : Int} (h : Cond.met (.neq, .int k n, .int k m, false)) : n = m := by simpa [Cond.met, abin] using h
theorem met_ge {k : IntKind} {n m : Int} (h : Cond.met (.geq, .int k n, .int k m, true)) : m ≤ n := by simpa [Cond.met, abin] using h
theorem met_le {k : IntKind} {n m : Int} (h : Cond.met (.leq, .int k n, .int k m, true)) : n ≤ m := by simpa [Cond.met, abin] using h
theorem met_s {s u : ByteArray} (h : Cond.met (.eql, .str s, .str u, true)) : s = u := by
  have h : (s.toList == u.toList) = true := by simpa [Cond.met, abin] using h
  exact bytes_eq (by rw [beq_toListBytes]; exact h)
theorem met_ns {s u : ByteArray} (h : Cond.met (.neq, .str s, .str u, false)) : s = u := by
  have h : (s.toList == u.toList) = true := by simpa [Cond.met, abin] using h
  exact bytes_eq (by rw [beq_toListBytes]; exact h)
theorem met_f {f : Nat} (h : Cond.met (cF f)) : f = 0 := by have := met_eq h; omega
theorem len0 {l : List TM} (h : ((l.length : Nat) : Int) = 0) : l = [] := List.length_eq_zero_iff.mp (by omega)
theorem via {l : List Cond} {p : Prop} {xs : List AVal} (e : chainP l (yes p) (no p) = run86 xs p) (hc : ∀ c ∈ l, isCmp c.1 c.2.1 c.2.2.1 = true) (hp : (∀ c ∈ l, c.met) → p) : DCallX Tryz.prog 101 xs AHeap.empty (Tru p) :=
  run86_sound (e.mp (chainP_of hc (fun h => ⟨true, rfl, fun _ => hp h⟩) ⟨false, rfl, fun h => nomatch h⟩))
theorem vian {p : Prop} {xs : List AVal} (e : no p = run86 xs p) : DCallX Tryz.prog 101 xs AHeap.empty (Tru p) := run86_sound (e.mp ⟨false, rfl, fun h => nomatch h⟩)
theorem via2 {l : List Cond} {p : Prop} {xs : List AVal} {f : Nat} (e : chainP l ((fin64 f = true → yes p) ∧ (fin64 f = false → no p)) (no p) = run86 xs p) (hc : ∀ c ∈ l, isCmp c.1 c.2.1 c.2.2.1 = true) (hp : (∀ c ∈ l, c.met) → fin64 f = true → p) : DCallX Tryz.prog 101 xs AHeap.empty (Tru p) :=
  run86_sound (e.mp (chainP_of hc (fun h => ⟨fun hf => ⟨true, rfl, fun _ => hp h hf⟩, fun _ => ⟨false, rfl, fun h => nomatch h⟩⟩) ⟨false, rfl, fun h => nomatch h⟩))
theorem DCallX.toPlain {P : Program} {f : FuncId} {xs : List AVal} {H : AHeap} {p : Prop} (h : DCallX P f xs H (Tru p)) : DCall P f xs H fun r _ => ∃ b, r = .bool b ∧ (b = true → p) := by
  obtain ⟨o, H', ⟨b, rfl, hb⟩, d⟩ := h
  exact ⟨.bool b, H', ⟨b, rfl, hb⟩, d.det⟩
theorem g86x (t : TM) (ok : t.ok) (H : AHeap) : DCall Tryz.prog 101 [t.agg] H fun r H' => (∃ b, r = .bool b ∧ (b = true → TM.pl t)) ∧ H' = H := by
  refine DCall.bools (TM.pures1 t) (DCallX.toPlain ?_) H
  cases t with
  | mk k n f s nl l =>
    cases nl with
    | true =>
      obtain rfl : l = [] := ok.2.2.2.2.2.1 rfl
      clear ok
      match k with
      | .ofNat 0 => exact vian (f86ax0 n f s _)
      | .ofNat 1 =>
        exact via (f86a1 n f s _) (by simp [isCmp, cmpOp]) fun h => by
          simp only [List.forall_mem_cons] at h
          obtain ⟨h1, h2, h3, h4, h5, _⟩ := h
          exact .inl ⟨rfl, met_ns h1, rfl, ⟨met_ge h3, met_le h4⟩, met_f h5⟩
      | .ofNat 2 =>
        exact via2 (f86a2 n f s _) (by simp [isCmp, cmpOp]) fun h hf => by
          simp only [List.forall_mem_cons] at h
          obtain ⟨h1, h2, h3, _⟩ := h
          exact .inr (.inl ⟨rfl, met_ns h1, rfl, met_eq h3, hf⟩)
      | .ofNat 3 =>
        exact via (f86a3 n f s _) (by simp [isCmp, cmpOp]) fun h => by
          simp only [List.forall_mem_cons] at h
          obtain ⟨h1, h2, h3, h4, _⟩ := h
          exact .inr (.inr (.inl ⟨rfl, (by have := met_le h1; show s.size ≤ 64; omega), met_eq h2, met_f h3, rfl⟩))
      | .ofNat 4 =>
        exact via (f86a4 n f s _) (by simp [isCmp, cmpOp]) fun h => by
          simp only [List.forall_mem_cons] at h
          obtain ⟨h1, h2, h3, h4, h5, _⟩ := h
          exact .inr (.inr (.inr (.inl ⟨.inl rfl, ⟨met_ge h1, met_le h2⟩, met_s h3, met_f h4, rfl⟩)))
      | .ofNat 5 =>
        exact via (f86a5 n f s _) (by simp [isCmp, cmpOp]) fun h => by
          simp only [List.forall_mem_cons] at h
          obtain ⟨h1, h2, h3, h4, _⟩ := h
          exact .inr (.inr (.inr (.inr (.inl ⟨rfl, ⟨met_ge h1, met_le h2⟩, met_s h3, met_f h4⟩))))
      | .ofNat 6 =>
        exact via (f86a6 n f s _) (by simp [isCmp, cmpOp]) fun h => by
          simp only [List.forall_mem_cons] at h
          obtain ⟨h1, h2, h3, h4, h5, _⟩ := h
          exact .inr (.inr (.inr (.inl ⟨.inr rfl, ⟨met_ge h1, met_le h2⟩, met_s h3, met_f h4, rfl⟩)))
      | .ofNat 7 =>
        exact via (f86a7 n f s _) (by simp [isCmp, cmpOp]) fun h => by
          simp only [List.forall_mem_cons] at h
          obtain ⟨h1, h2, h3, _⟩ := h
          exact .inr (.inr (.inr (.inr (.inr ⟨.inl rfl, met_eq h1, met_s h2, met_f h3⟩))))
      | .ofNat 8 =>
        exact via (f86a8 n f s _) (by simp [isCmp, cmpOp]) fun h => by
          simp only [List.forall_mem_cons] at h
          obtain ⟨h1, h2, h3, _⟩ := h
          exact .inr (.inr (.inr (.inr (.inr ⟨.inr rfl, met_eq h1, met_s h2, met_f h3⟩))))
      | .ofNat (m0 + 9) => exact vian (f86ax1 m0 n f s _)
      | .negSucc m0 => exact vian (f86ax2 m0 n f s _)
    | false =>
      clear ok
      match k with
      | .ofNat 0 => exact vian (f86bx0 n f s (TM.flat l) l.length _)
      | .ofNat 1 =>
        exact via (f86b1 n f s (TM.flat l) l.length _) (by simp [isCmp, cmpOp]) fun h => by
          simp only [List.forall_mem_cons] at h
          obtain ⟨h1, h2, h3, h4, h5, _⟩ := h
          exact .inl ⟨rfl, met_ns h1, len0 (met_ne h2), ⟨met_ge h3, met_le h4⟩, met_f h5⟩
      | .ofNat 2 =>
        exact via2 (f86b2 n f s (TM.flat l) l.length _) (by simp [isCmp, cmpOp]) fun h hf => by
          simp only [List.forall_mem_cons] at h
          obtain ⟨h1, h2, h3, _⟩ := h
          exact .inr (.inl ⟨rfl, met_ns h1, len0 (met_ne h2), met_eq h3, hf⟩)
      | .ofNat 3 =>
        exact via (f86b3 n f s (TM.flat l) l.length _) (by simp [isCmp, cmpOp]) fun h => by
          simp only [List.forall_mem_cons] at h
          obtain ⟨h1, h2, h3, h4, _⟩ := h
          exact .inr (.inr (.inl ⟨rfl, (by have := met_le h1; show s.size ≤ 64; omega), met_eq h2, met_f h3, len0 (met_eq h4)⟩))
      | .ofNat 4 =>
        exact via (f86b4 n f s (TM.flat l) l.length _) (by simp [isCmp, cmpOp]) fun h => by
          simp only [List.forall_mem_cons] at h
          obtain ⟨h1, h2, h3, h4, h5, _⟩ := h
          exact .inr (.inr (.inr (.inl ⟨.inl rfl, ⟨met_ge h1, met_le h2⟩, met_s h3, met_f h4, len0 (met_eq h5)⟩)))
      | .ofNat 5 =>
        exact via (f86b5 n f s (TM.flat l) l.length _) (by simp [isCmp, cmpOp]) fun h => by
          simp only [List.forall_mem_cons] at h
          obtain ⟨h1, h2, h3, h4, _⟩ := h
          exact .inr (.inr (.inr (.inr (.inl ⟨rfl, ⟨met_ge h1, met_le h2⟩, met_s h3, met_f h4⟩))))
      | .ofNat 6 =>
        exact via (f86b6 n f s (TM.flat l) l.length _) (by simp [isCmp, cmpOp]) fun h => by
          simp only [List.forall_mem_cons] at h
          obtain ⟨h1, h2, h3, h4, h5, _⟩ := h
          exact .inr (.inr (.inr (.inl ⟨.inr rfl, ⟨met_ge h1, met_le h2⟩, met_s h3, met_f h4, len0 (met_eq h5)⟩)))
      | .ofNat 7 =>
        exact via (f86b7 n f s (TM.flat l) l.length _) (by simp [isCmp, cmpOp]) fun h => by
          simp only [List.forall_mem_cons] at h
          obtain ⟨h1, h2, h3, _⟩ := h
          exact .inr (.inr (.inr (.inr (.inr ⟨.inl rfl, met_eq h1, met_s h2, met_f h3⟩))))
      | .ofNat 8 =>
        exact via (f86b8 n f s (TM.flat l) l.length _) (by simp [isCmp, cmpOp]) fun h => by
          simp only [List.forall_mem_cons] at h
          obtain ⟨h1, h2, h3, _⟩ := h
          exact .inr (.inr (.inr (.inr (.inr ⟨.inr rfl, met_eq h1, met_s h2, met_f h3⟩))))
      | .ofNat (m0 + 9) => exact vian (f86bx1 m0 n f s (TM.flat l) l.length _)
      | .negSucc m0 => exact vian (f86bx2 m0 n f s (TM.flat l) l.length _)
end Go.Am.Rl

/- A term's own words. -/
namespace Go.Am.Rl
open Go.Proofs

/-- A term's own words. -/
def own : Int → Nat → Nat
  | .ofNat 1, _ => 0
  | .ofNat 2, _ => 2
  | .ofNat 3, _ => 0
  | .ofNat 4, _ => 2
  | .ofNat 5, m => 2 + m
  | .ofNat 6, _ => 0
  | .ofNat 8, m => 2 * m
  | _, m => 1 + m
theorem own_le (k : Int) (m : Nat) : own k m ≤ 2 * m + 2 := by unfold own; split <;> omega
def Is (x : Int) (o : AOut) (H : AHeap) : Prop := o = .ret (.int .i64 x)
def tabOf (f : FuncId) : Tab := match Nat.beq f 100 with
  | true => tabR
  | false => tabP
theorem tabOf_ok (f : FuncId) : (tabOf f).Ok Tryz.prog := by
  unfold tabOf
  cases Nat.beq f 100 with
  | true => exact tabR_ok
  | false => exact tabP_ok
def runO (f : FuncId) (xs : List AVal) (x : Int) : Prop := hcall (tabOf f) GKnown.none (fun _ => []) 1000 4 f xs AHeap.empty (Is x)
theorem runO_sound {f : FuncId} {xs : List AVal} {x : Int} (h : runO f xs x) : DCall Tryz.prog f xs AHeap.empty fun r _ => ∃ n, r = .int .i64 n ∧ n = x := by
  obtain ⟨o, H', rfl, d⟩ := hcall_sound mixed (tabOf_ok f) (GKnown.none_ok _) 4 f xs AHeap.empty (Is x) h
  exact ⟨_, H', ⟨x, rfl, rfl⟩, d.det⟩
theorem w8 {m : Nat} (h : m ≤ 2 ^ 41) : IntKind.i64.wrap (2 * (m : Int)) = ((2 * m : Nat) : Int) := by rw [show 2 * (m : Int) = ((2 * m : Nat) : Int) by omega]; exact wrap64 (by omega)
theorem w5 {m : Nat} (h : m ≤ 2 ^ 41) : IntKind.i64.wrap (2 + (m : Int)) = ((2 + m : Nat) : Int) := by rw [show 2 + (m : Int) = ((2 + m : Nat) : Int) by omega]; exact wrap64 (by omega)
theorem w1 {m : Nat} (h : m ≤ 2 ^ 41) : IntKind.i64.wrap (1 + (m : Int)) = ((1 + m : Nat) : Int) := by rw [show 1 + (m : Int) = ((1 + m : Nat) : Int) by omega]; exact wrap64 (by omega)
theorem viaO {f : FuncId} {xs : List AVal} {a x : Int} (e : ∀ x, (AOut.ret (.int .i64 a) = .ret (.int .i64 x)) = runO f xs x) (h : a = x) : runO f xs x := (e x).mp (by rw [h])
theorem o85a0 (n : Int) (f : Nat) (s : ByteArray) (x : Int) : (AOut.ret (.int .i64 (IntKind.i64.wrap (1 + ((0 : Nat) : Int)))) = .ret (.int .i64 x)) = runO 100 (T5 (Int.ofNat 0) n f s .nils) x := by kernel_rfl
theorem o85b0 (n : Int) (f : Nat) (s : ByteArray) (cs : List AVal) (m : Nat) (x : Int) : (AOut.ret (.int .i64 (IntKind.i64.wrap (1 + (m : Int)))) = .ret (.int .i64 x)) = runO 100 (T5 (Int.ofNat 0) n f s (.ros cs m)) x := by kernel_rfl
theorem o85a1 (n : Int) (f : Nat) (s : ByteArray) (x : Int) : (AOut.ret (.int .i64 (0)) = .ret (.int .i64 x)) = runO 100 (T5 (Int.ofNat 1) n f s .nils) x := by kernel_rfl
theorem o85b1 (n : Int) (f : Nat) (s : ByteArray) (cs : List AVal) (m : Nat) (x : Int) : (AOut.ret (.int .i64 (0)) = .ret (.int .i64 x)) = runO 100 (T5 (Int.ofNat 1) n f s (.ros cs m)) x := by kernel_rfl
theorem o85a2 (n : Int) (f : Nat) (s : ByteArray) (x : Int) : (AOut.ret (.int .i64 (2)) = .ret (.int .i64 x)) = runO 100 (T5 (Int.ofNat 2) n f s .nils) x := by kernel_rfl
theorem o85b2 (n : Int) (f : Nat) (s : ByteArray) (cs : List AVal) (m : Nat) (x : Int) : (AOut.ret (.int .i64 (2)) = .ret (.int .i64 x)) = runO 100 (T5 (Int.ofNat 2) n f s (.ros cs m)) x := by kernel_rfl
theorem o85a3 (n : Int) (f : Nat) (s : ByteArray) (x : Int) : (AOut.ret (.int .i64 (0)) = .ret (.int .i64 x)) = runO 100 (T5 (Int.ofNat 3) n f s .nils) x := by kernel_rfl
theorem o85b3 (n : Int) (f : Nat) (s : ByteArray) (cs : List AVal) (m : Nat) (x : Int) : (AOut.ret (.int .i64 (0)) = .ret (.int .i64 x)) = runO 100 (T5 (Int.ofNat 3) n f s (.ros cs m)) x := by kernel_rfl
theorem o85a4 (n : Int) (f : Nat) (s : ByteArray) (x : Int) : (AOut.ret (.int .i64 (2)) = .ret (.int .i64 x)) = runO 100 (T5 (Int.ofNat 4) n f s .nils) x := by kernel_rfl
theorem o85b4 (n : Int) (f : Nat) (s : ByteArray) (cs : List AVal) (m : Nat) (x : Int) : (AOut.ret (.int .i64 (2)) = .ret (.int .i64 x)) = runO 100 (T5 (Int.ofNat 4) n f s (.ros cs m)) x := by kernel_rfl
theorem o85a5 (n : Int) (f : Nat) (s : ByteArray) (x : Int) : (AOut.ret (.int .i64 (IntKind.i64.wrap (2 + ((0 : Nat) : Int)))) = .ret (.int .i64 x)) = runO 100 (T5 (Int.ofNat 5) n f s .nils) x := by kernel_rfl
theorem o85b5 (n : Int) (f : Nat) (s : ByteArray) (cs : List AVal) (m : Nat) (x : Int) : (AOut.ret (.int .i64 (IntKind.i64.wrap (2 + (m : Int)))) = .ret (.int .i64 x)) = runO 100 (T5 (Int.ofNat 5) n f s (.ros cs m)) x := by kernel_rfl
theorem o85a6 (n : Int) (f : Nat) (s : ByteArray) (x : Int) : (AOut.ret (.int .i64 (0)) = .ret (.int .i64 x)) = runO 100 (T5 (Int.ofNat 6) n f s .nils) x := by kernel_rfl
theorem o85b6 (n : Int) (f : Nat) (s : ByteArray) (cs : List AVal) (m : Nat) (x : Int) : (AOut.ret (.int .i64 (0)) = .ret (.int .i64 x)) = runO 100 (T5 (Int.ofNat 6) n f s (.ros cs m)) x := by kernel_rfl
theorem o85a7 (n : Int) (f : Nat) (s : ByteArray) (x : Int) : (AOut.ret (.int .i64 (IntKind.i64.wrap (1 + ((0 : Nat) : Int)))) = .ret (.int .i64 x)) = runO 100 (T5 (Int.ofNat 7) n f s .nils) x := by kernel_rfl
theorem o85b7 (n : Int) (f : Nat) (s : ByteArray) (cs : List AVal) (m : Nat) (x : Int) : (AOut.ret (.int .i64 (IntKind.i64.wrap (1 + (m : Int)))) = .ret (.int .i64 x)) = runO 100 (T5 (Int.ofNat 7) n f s (.ros cs m)) x := by kernel_rfl
theorem o85a8 (n : Int) (f : Nat) (s : ByteArray) (x : Int) : (AOut.ret (.int .i64 (IntKind.i64.wrap (2 * ((0 : Nat) : Int)))) = .ret (.int .i64 x)) = runO 100 (T5 (Int.ofNat 8) n f s .nils) x := by kernel_rfl
theorem o85b8 (n : Int) (f : Nat) (s : ByteArray) (cs : List AVal) (m : Nat) (x : Int) : (AOut.ret (.int .i64 (IntKind.i64.wrap (2 * (m : Int)))) = .ret (.int .i64 x)) = runO 100 (T5 (Int.ofNat 8) n f s (.ros cs m)) x := by kernel_rfl
theorem o85a9 (m0 : Nat) (n : Int) (f : Nat) (s : ByteArray) (x : Int) : (AOut.ret (.int .i64 (IntKind.i64.wrap (1 + ((0 : Nat) : Int)))) = .ret (.int .i64 x)) = runO 100 (T5 (Int.ofNat (m0 + 9)) n f s .nils) x := by kernel_rfl
theorem o85b9 (m0 : Nat) (n : Int) (f : Nat) (s : ByteArray) (cs : List AVal) (m : Nat) (x : Int) : (AOut.ret (.int .i64 (IntKind.i64.wrap (1 + (m : Int)))) = .ret (.int .i64 x)) = runO 100 (T5 (Int.ofNat (m0 + 9)) n f s (.ros cs m)) x := by kernel_rfl
theorem o85a10 (m0 : Nat) (n : Int) (f : Nat) (s : ByteArray) (x : Int) : (AOut.ret (.int .i64 (IntKind.i64.wrap (1 + ((0 : Nat) : Int)))) = .ret (.int .i64 x)) = runO 100 (T5 (Int.negSucc m0) n f s .nils) x := by kernel_rfl
theorem o85b10 (m0 : Nat) (n : Int) (f : Nat) (s : ByteArray) (cs : List AVal) (m : Nat) (x : Int) : (AOut.ret (.int .i64 (IntKind.i64.wrap (1 + (m : Int)))) = .ret (.int .i64 x)) = runO 100 (T5 (Int.negSucc m0) n f s (.ros cs m)) x := by kernel_rfl
theorem o175a0 (n : Int) (f : Nat) (s : ByteArray) (x : Int) : (AOut.ret (.int .i64 (IntKind.i64.wrap (1 + ((0 : Nat) : Int)))) = .ret (.int .i64 x)) = runO 98 (T5 (Int.ofNat 0) n f s .nils) x := by kernel_rfl
theorem o175b0 (n : Int) (f : Nat) (s : ByteArray) (cs : List AVal) (m : Nat) (x : Int) : (AOut.ret (.int .i64 (IntKind.i64.wrap (1 + (m : Int)))) = .ret (.int .i64 x)) = runO 98 (T5 (Int.ofNat 0) n f s (.ros cs m)) x := by kernel_rfl
theorem o175a1 (n : Int) (f : Nat) (s : ByteArray) (x : Int) : (AOut.ret (.int .i64 (0)) = .ret (.int .i64 x)) = runO 98 (T5 (Int.ofNat 1) n f s .nils) x := by kernel_rfl
theorem o175b1 (n : Int) (f : Nat) (s : ByteArray) (cs : List AVal) (m : Nat) (x : Int) : (AOut.ret (.int .i64 (0)) = .ret (.int .i64 x)) = runO 98 (T5 (Int.ofNat 1) n f s (.ros cs m)) x := by kernel_rfl
theorem o175a2 (n : Int) (f : Nat) (s : ByteArray) (x : Int) : (AOut.ret (.int .i64 (2)) = .ret (.int .i64 x)) = runO 98 (T5 (Int.ofNat 2) n f s .nils) x := by kernel_rfl
theorem o175b2 (n : Int) (f : Nat) (s : ByteArray) (cs : List AVal) (m : Nat) (x : Int) : (AOut.ret (.int .i64 (2)) = .ret (.int .i64 x)) = runO 98 (T5 (Int.ofNat 2) n f s (.ros cs m)) x := by kernel_rfl
theorem o175a3 (n : Int) (f : Nat) (s : ByteArray) (x : Int) : (AOut.ret (.int .i64 (0)) = .ret (.int .i64 x)) = runO 98 (T5 (Int.ofNat 3) n f s .nils) x := by kernel_rfl
theorem o175b3 (n : Int) (f : Nat) (s : ByteArray) (cs : List AVal) (m : Nat) (x : Int) : (AOut.ret (.int .i64 (0)) = .ret (.int .i64 x)) = runO 98 (T5 (Int.ofNat 3) n f s (.ros cs m)) x := by kernel_rfl
theorem o175a4 (n : Int) (f : Nat) (s : ByteArray) (x : Int) : (AOut.ret (.int .i64 (2)) = .ret (.int .i64 x)) = runO 98 (T5 (Int.ofNat 4) n f s .nils) x := by kernel_rfl
theorem o175b4 (n : Int) (f : Nat) (s : ByteArray) (cs : List AVal) (m : Nat) (x : Int) : (AOut.ret (.int .i64 (2)) = .ret (.int .i64 x)) = runO 98 (T5 (Int.ofNat 4) n f s (.ros cs m)) x := by kernel_rfl
theorem o175a5 (n : Int) (f : Nat) (s : ByteArray) (x : Int) : (AOut.ret (.int .i64 (IntKind.i64.wrap (2 + ((0 : Nat) : Int)))) = .ret (.int .i64 x)) = runO 98 (T5 (Int.ofNat 5) n f s .nils) x := by kernel_rfl
theorem o175b5 (n : Int) (f : Nat) (s : ByteArray) (cs : List AVal) (m : Nat) (x : Int) : (AOut.ret (.int .i64 (IntKind.i64.wrap (2 + (m : Int)))) = .ret (.int .i64 x)) = runO 98 (T5 (Int.ofNat 5) n f s (.ros cs m)) x := by kernel_rfl
theorem o175a6 (n : Int) (f : Nat) (s : ByteArray) (x : Int) : (AOut.ret (.int .i64 (0)) = .ret (.int .i64 x)) = runO 98 (T5 (Int.ofNat 6) n f s .nils) x := by kernel_rfl
theorem o175b6 (n : Int) (f : Nat) (s : ByteArray) (cs : List AVal) (m : Nat) (x : Int) : (AOut.ret (.int .i64 (0)) = .ret (.int .i64 x)) = runO 98 (T5 (Int.ofNat 6) n f s (.ros cs m)) x := by kernel_rfl
theorem o175a7 (n : Int) (f : Nat) (s : ByteArray) (x : Int) : (AOut.ret (.int .i64 (IntKind.i64.wrap (1 + ((0 : Nat) : Int)))) = .ret (.int .i64 x)) = runO 98 (T5 (Int.ofNat 7) n f s .nils) x := by kernel_rfl
theorem o175b7 (n : Int) (f : Nat) (s : ByteArray) (cs : List AVal) (m : Nat) (x : Int) : (AOut.ret (.int .i64 (IntKind.i64.wrap (1 + (m : Int)))) = .ret (.int .i64 x)) = runO 98 (T5 (Int.ofNat 7) n f s (.ros cs m)) x := by kernel_rfl
theorem o175a8 (n : Int) (f : Nat) (s : ByteArray) (x : Int) : (AOut.ret (.int .i64 (IntKind.i64.wrap (2 * ((0 : Nat) : Int)))) = .ret (.int .i64 x)) = runO 98 (T5 (Int.ofNat 8) n f s .nils) x := by kernel_rfl
theorem o175b8 (n : Int) (f : Nat) (s : ByteArray) (cs : List AVal) (m : Nat) (x : Int) : (AOut.ret (.int .i64 (IntKind.i64.wrap (2 * (m : Int)))) = .ret (.int .i64 x)) = runO 98 (T5 (Int.ofNat 8) n f s (.ros cs m)) x := by kernel_rfl
theorem o175a9 (m0 : Nat) (n : Int) (f : Nat) (s : ByteArray) (x : Int) : (AOut.ret (.int .i64 (IntKind.i64.wrap (1 + ((0 : Nat) : Int)))) = .ret (.int .i64 x)) = runO 98 (T5 (Int.ofNat (m0 + 9)) n f s .nils) x := by kernel_rfl
theorem o175b9 (m0 : Nat) (n : Int) (f : Nat) (s : ByteArray) (cs : List AVal) (m : Nat) (x : Int) : (AOut.ret (.int .i64 (IntKind.i64.wrap (1 + (m : Int)))) = .ret (.int .i64 x)) = runO 98 (T5 (Int.ofNat (m0 + 9)) n f s (.ros cs m)) x := by kernel_rfl
theorem o175a10 (m0 : Nat) (n : Int) (f : Nat) (s : ByteArray) (x : Int) : (AOut.ret (.int .i64 (IntKind.i64.wrap (1 + ((0 : Nat) : Int)))) = .ret (.int .i64 x)) = runO 98 (T5 (Int.negSucc m0) n f s .nils) x := by kernel_rfl
theorem o175b10 (m0 : Nat) (n : Int) (f : Nat) (s : ByteArray) (cs : List AVal) (m : Nat) (x : Int) : (AOut.ret (.int .i64 (IntKind.i64.wrap (1 + (m : Int)))) = .ret (.int .i64 x)) = runO 98 (T5 (Int.negSucc m0) n f s (.ros cs m)) x := by kernel_rfl
theorem ow0 (m : Nat) : own (Int.ofNat 0) m = 1 + m := rfl
theorem ow1 (m : Nat) : own (Int.ofNat 1) m = 0 := rfl
theorem ow2 (m : Nat) : own (Int.ofNat 2) m = 2 := rfl
theorem ow3 (m : Nat) : own (Int.ofNat 3) m = 0 := rfl
theorem ow4 (m : Nat) : own (Int.ofNat 4) m = 2 := rfl
theorem ow5 (m : Nat) : own (Int.ofNat 5) m = 2 + m := rfl
theorem ow6 (m : Nat) : own (Int.ofNat 6) m = 0 := rfl
theorem ow7 (m : Nat) : own (Int.ofNat 7) m = 1 + m := rfl
theorem ow8 (m : Nat) : own (Int.ofNat 8) m = 2 * m := rfl
theorem ow9 (m0 : Nat) (m : Nat) : own (Int.ofNat (m0 + 9)) m = 1 + m := by unfold own; split <;> first | rfl | (rename_i h; injection h with h; omega)
theorem ow10 (m0 : Nat) (m : Nat) : own (Int.negSucc m0) m = 1 + m := rfl
attribute [local irreducible] runO own
theorem p85a (k n : Int) (f : Nat) (s : ByteArray) {m : Nat} (h : m ≤ 2 ^ 41) : runO 100 (T5 k n f s .nils) (own k 0 : Nat) := by
  match k with
  | .ofNat 0 => exact viaO (o85a0 n f s) ((w1 (Nat.zero_le _)).trans (congrArg (Nat.cast (R := Int)) (ow0 _).symm))
  | .ofNat 1 => exact viaO (o85a1 n f s) ((show (0 : Int) = ((0 : Nat) : Int) from rfl).trans (congrArg (Nat.cast (R := Int)) (ow1 _).symm))
  | .ofNat 2 => exact viaO (o85a2 n f s) ((show (2 : Int) = ((2 : Nat) : Int) from rfl).trans (congrArg (Nat.cast (R := Int)) (ow2 _).symm))
  | .ofNat 3 => exact viaO (o85a3 n f s) ((show (0 : Int) = ((0 : Nat) : Int) from rfl).trans (congrArg (Nat.cast (R := Int)) (ow3 _).symm))
  | .ofNat 4 => exact viaO (o85a4 n f s) ((show (2 : Int) = ((2 : Nat) : Int) from rfl).trans (congrArg (Nat.cast (R := Int)) (ow4 _).symm))
  | .ofNat 5 => exact viaO (o85a5 n f s) ((w5 (Nat.zero_le _)).trans (congrArg (Nat.cast (R := Int)) (ow5 _).symm))
  | .ofNat 6 => exact viaO (o85a6 n f s) ((show (0 : Int) = ((0 : Nat) : Int) from rfl).trans (congrArg (Nat.cast (R := Int)) (ow6 _).symm))
  | .ofNat 7 => exact viaO (o85a7 n f s) ((w1 (Nat.zero_le _)).trans (congrArg (Nat.cast (R := Int)) (ow7 _).symm))
  | .ofNat 8 => exact viaO (o85a8 n f s) ((w8 (Nat.zero_le _)).trans (congrArg (Nat.cast (R := Int)) (ow8 _).symm))
  | .ofNat (m0 + 9) => exact viaO (o85a9 m0 n f s) ((w1 (Nat.zero_le _)).trans (congrArg (Nat.cast (R := Int)) (ow9 m0 _).symm))
  | .negSucc m0 => exact viaO (o85a10 m0 n f s) ((w1 (Nat.zero_le _)).trans (congrArg (Nat.cast (R := Int)) (ow10 m0 _).symm))
theorem p85b (k n : Int) (f : Nat) (s : ByteArray) (cs : List AVal) {m : Nat} (h : m ≤ 2 ^ 41) : runO 100 (T5 k n f s (.ros cs m)) (own k m : Nat) := by
  match k with
  | .ofNat 0 => exact viaO (o85b0 n f s cs m) ((w1 h).trans (congrArg (Nat.cast (R := Int)) (ow0 _).symm))
  | .ofNat 1 => exact viaO (o85b1 n f s cs m) ((show (0 : Int) = ((0 : Nat) : Int) from rfl).trans (congrArg (Nat.cast (R := Int)) (ow1 _).symm))
  | .ofNat 2 => exact viaO (o85b2 n f s cs m) ((show (2 : Int) = ((2 : Nat) : Int) from rfl).trans (congrArg (Nat.cast (R := Int)) (ow2 _).symm))
  | .ofNat 3 => exact viaO (o85b3 n f s cs m) ((show (0 : Int) = ((0 : Nat) : Int) from rfl).trans (congrArg (Nat.cast (R := Int)) (ow3 _).symm))
  | .ofNat 4 => exact viaO (o85b4 n f s cs m) ((show (2 : Int) = ((2 : Nat) : Int) from rfl).trans (congrArg (Nat.cast (R := Int)) (ow4 _).symm))
  | .ofNat 5 => exact viaO (o85b5 n f s cs m) ((w5 h).trans (congrArg (Nat.cast (R := Int)) (ow5 _).symm))
  | .ofNat 6 => exact viaO (o85b6 n f s cs m) ((show (0 : Int) = ((0 : Nat) : Int) from rfl).trans (congrArg (Nat.cast (R := Int)) (ow6 _).symm))
  | .ofNat 7 => exact viaO (o85b7 n f s cs m) ((w1 h).trans (congrArg (Nat.cast (R := Int)) (ow7 _).symm))
  | .ofNat 8 => exact viaO (o85b8 n f s cs m) ((w8 h).trans (congrArg (Nat.cast (R := Int)) (ow8 _).symm))
  | .ofNat (m0 + 9) => exact viaO (o85b9 m0 n f s cs m) ((w1 h).trans (congrArg (Nat.cast (R := Int)) (ow9 m0 _).symm))
  | .negSucc m0 => exact viaO (o85b10 m0 n f s cs m) ((w1 h).trans (congrArg (Nat.cast (R := Int)) (ow10 m0 _).symm))
theorem g85x (t : TM) (ok : t.ok) (H : AHeap) : DCall Tryz.prog 100 [t.agg] H fun r H' => r = .int .i64 (own t.k t.l.length : Nat) ∧ H' = H := by
  have h : DCall Tryz.prog 100 [t.agg] AHeap.empty fun r _ => ∃ n, r = .int .i64 n ∧ n = (own t.k t.l.length : Nat) := by
    have hle := TM.len_le ok
    cases t with
    | mk k n f s nl l =>
      cases nl with
      | true =>
        obtain rfl : l = [] := ok.2.2.2.2.2.1 rfl
        exact runO_sound (p85a k n f s (m := 0) (Nat.zero_le _))
      | false => exact runO_sound (p85b k n f s (TM.flat l) hle)
  exact (DCall.ints (TM.pures1 t) h H).mono fun r H' ⟨⟨n, h1, h3⟩, h2⟩ => ⟨by rw [h1, h3], h2⟩
theorem p175a (k n : Int) (f : Nat) (s : ByteArray) {m : Nat} (h : m ≤ 2 ^ 41) : runO 98 (T5 k n f s .nils) (own k 0 : Nat) := by
  match k with
  | .ofNat 0 => exact viaO (o175a0 n f s) ((w1 (Nat.zero_le _)).trans (congrArg (Nat.cast (R := Int)) (ow0 _).symm))
  | .ofNat 1 => exact viaO (o175a1 n f s) ((show (0 : Int) = ((0 : Nat) : Int) from rfl).trans (congrArg (Nat.cast (R := Int)) (ow1 _).symm))
  | .ofNat 2 => exact viaO (o175a2 n f s) ((show (2 : Int) = ((2 : Nat) : Int) from rfl).trans (congrArg (Nat.cast (R := Int)) (ow2 _).symm))
  | .ofNat 3 => exact viaO (o175a3 n f s) ((show (0 : Int) = ((0 : Nat) : Int) from rfl).trans (congrArg (Nat.cast (R := Int)) (ow3 _).symm))
  | .ofNat 4 => exact viaO (o175a4 n f s) ((show (2 : Int) = ((2 : Nat) : Int) from rfl).trans (congrArg (Nat.cast (R := Int)) (ow4 _).symm))
  | .ofNat 5 => exact viaO (o175a5 n f s) ((w5 (Nat.zero_le _)).trans (congrArg (Nat.cast (R := Int)) (ow5 _).symm))
  | .ofNat 6 => exact viaO (o175a6 n f s) ((show (0 : Int) = ((0 : Nat) : Int) from rfl).trans (congrArg (Nat.cast (R := Int)) (ow6 _).symm))
  | .ofNat 7 => exact viaO (o175a7 n f s) ((w1 (Nat.zero_le _)).trans (congrArg (Nat.cast (R := Int)) (ow7 _).symm))
  | .ofNat 8 => exact viaO (o175a8 n f s) ((w8 (Nat.zero_le _)).trans (congrArg (Nat.cast (R := Int)) (ow8 _).symm))
  | .ofNat (m0 + 9) => exact viaO (o175a9 m0 n f s) ((w1 (Nat.zero_le _)).trans (congrArg (Nat.cast (R := Int)) (ow9 m0 _).symm))
  | .negSucc m0 => exact viaO (o175a10 m0 n f s) ((w1 (Nat.zero_le _)).trans (congrArg (Nat.cast (R := Int)) (ow10 m0 _).symm))
theorem p175b (k n : Int) (f : Nat) (s : ByteArray) (cs : List AVal) {m : Nat} (h : m ≤ 2 ^ 41) : runO 98 (T5 k n f s (.ros cs m)) (own k m : Nat) := by
  match k with
  | .ofNat 0 => exact viaO (o175b0 n f s cs m) ((w1 h).trans (congrArg (Nat.cast (R := Int)) (ow0 _).symm))
  | .ofNat 1 => exact viaO (o175b1 n f s cs m) ((show (0 : Int) = ((0 : Nat) : Int) from rfl).trans (congrArg (Nat.cast (R := Int)) (ow1 _).symm))
  | .ofNat 2 => exact viaO (o175b2 n f s cs m) ((show (2 : Int) = ((2 : Nat) : Int) from rfl).trans (congrArg (Nat.cast (R := Int)) (ow2 _).symm))
  | .ofNat 3 => exact viaO (o175b3 n f s cs m) ((show (0 : Int) = ((0 : Nat) : Int) from rfl).trans (congrArg (Nat.cast (R := Int)) (ow3 _).symm))
  | .ofNat 4 => exact viaO (o175b4 n f s cs m) ((show (2 : Int) = ((2 : Nat) : Int) from rfl).trans (congrArg (Nat.cast (R := Int)) (ow4 _).symm))
  | .ofNat 5 => exact viaO (o175b5 n f s cs m) ((w5 h).trans (congrArg (Nat.cast (R := Int)) (ow5 _).symm))
  | .ofNat 6 => exact viaO (o175b6 n f s cs m) ((show (0 : Int) = ((0 : Nat) : Int) from rfl).trans (congrArg (Nat.cast (R := Int)) (ow6 _).symm))
  | .ofNat 7 => exact viaO (o175b7 n f s cs m) ((w1 h).trans (congrArg (Nat.cast (R := Int)) (ow7 _).symm))
  | .ofNat 8 => exact viaO (o175b8 n f s cs m) ((w8 h).trans (congrArg (Nat.cast (R := Int)) (ow8 _).symm))
  | .ofNat (m0 + 9) => exact viaO (o175b9 m0 n f s cs m) ((w1 h).trans (congrArg (Nat.cast (R := Int)) (ow9 m0 _).symm))
  | .negSucc m0 => exact viaO (o175b10 m0 n f s cs m) ((w1 h).trans (congrArg (Nat.cast (R := Int)) (ow10 m0 _).symm))
theorem g175x (t : TM) (ok : t.ok) (H : AHeap) : DCall Tryz.prog 98 [t.agg] H fun r H' => r = .int .i64 (own t.k t.l.length : Nat) ∧ H' = H := by
  have h : DCall Tryz.prog 98 [t.agg] AHeap.empty fun r _ => ∃ n, r = .int .i64 n ∧ n = (own t.k t.l.length : Nat) := by
    have hle := TM.len_le ok
    cases t with
    | mk k n f s nl l =>
      cases nl with
      | true =>
        obtain rfl : l = [] := ok.2.2.2.2.2.1 rfl
        exact runO_sound (p175a k n f s (m := 0) (Nat.zero_le _))
      | false => exact runO_sound (p175b k n f s (TM.flat l) hle)
  exact (DCall.ints (TM.pures1 t) h H).mono fun r H' ⟨⟨n, h1, h3⟩, h2⟩ => ⟨by rw [h1, h3], h2⟩
end Go.Am.Rl

/- A right term's fields, as the program asks them. -/
namespace Go.Am.Rl
open Go.Proofs

def symN : FuncId → List Nat := fun f => if f = 99 then [24, 28, 44, 49, 109, 114] else []
def symK : FuncId → List Nat := fun f => if f = 99 then [85] else if f = 102 then [5] else if f = 107 then [14] else []
def Yes (o : AOut) (H : AHeap) : Prop := o = .ret (.bool true)
def run176 (sym : FuncId → List Nat) (xs : List AVal) : Prop := hcall tabP GKnown.none sym 1000 4 99 xs AHeap.empty Yes
abbrev Y : Prop := AOut.ret (.bool true) = .ret (.bool true)
abbrev N : Prop := AOut.ret (.bool false) = .ret (.bool true)
/-- Is it from 0 on; and up to 1 << 40: both are looked at, whatever they tell. -/
def bothN (n : Int) (p : Prop) : Prop := isCmp .geq (i64 n) (i64 0) = true ∧ (abin .geq (i64 n) (i64 0) = some (.bool true) → isCmp .leq (i64 n) (i64 1099511627776) = true ∧ (abin .leq (i64 n) (i64 1099511627776) = some (.bool true) → p) ∧ (abin .leq (i64 n) (i64 1099511627776) = some (.bool false) → p)) ∧ (abin .geq (i64 n) (i64 0) = some (.bool false) → p)
def absv (f : Nat) : AVal := .flt .f64 (IntKind.u64.wrap ((BitVec.ofInt IntKind.u64.bits (f : Int) &&& ~~~ BitVec.ofInt IntKind.u64.bits 9223372036854775808).toNat : Nat)).toNat
theorem q7a : Y = run176 symK (T5 (Int.ofNat 7) 0 0 ⟨#[]⟩ .nils) := by kernel_rfl
theorem q7b (cs : List AVal) (m : Nat) : Y = run176 symK (T5 (Int.ofNat 7) 0 0 ⟨#[]⟩ (.ros cs m)) := by kernel_rfl
theorem q8a : Y = run176 symK (T5 (Int.ofNat 8) 0 0 ⟨#[]⟩ .nils) := by kernel_rfl
theorem q8b (cs : List AVal) (m : Nat) : Y = run176 symK (T5 (Int.ofNat 8) 0 0 ⟨#[]⟩ (.ros cs m)) := by kernel_rfl
theorem q3a (s : ByteArray) : chainP [(.leq, i64 s.size, i64 64, true)] Y N = run176 symK (T5 (Int.ofNat 3) 0 0 s .nils) := by kernel_rfl
theorem q3b (s : ByteArray) : chainP [(.leq, i64 s.size, i64 64, true)] Y N = run176 symK (T5 (Int.ofNat 3) 0 0 s (.ros [] 0)) := by kernel_rfl
theorem q1a (n : Int) : bothN n (chainP [(.geq, i64 n, i64 (-576460752303423488), true), (.leq, i64 n, i64 576460752303423487, true)] Y N) = run176 symN (T5 (Int.ofNat 1) n 0 ⟨#[]⟩ .nils) := by kernel_rfl
theorem q1b (n : Int) : bothN n (chainP [(.geq, i64 n, i64 (-576460752303423488), true), (.leq, i64 n, i64 576460752303423487, true)] Y N) = run176 symN (T5 (Int.ofNat 1) n 0 ⟨#[]⟩ (.ros [] 0)) := by kernel_rfl
theorem q4a (n : Int) : chainP [(.geq, i64 n, i64 0, true), (.leq, i64 n, i64 1099511627776, true)] Y N = run176 symN (T5 (Int.ofNat 4) n 0 ⟨#[]⟩ .nils) := by kernel_rfl
theorem q4b (n : Int) : chainP [(.geq, i64 n, i64 0, true), (.leq, i64 n, i64 1099511627776, true)] Y N = run176 symN (T5 (Int.ofNat 4) n 0 ⟨#[]⟩ (.ros [] 0)) := by kernel_rfl
theorem q6a (n : Int) : chainP [(.geq, i64 n, i64 0, true), (.leq, i64 n, i64 1099511627776, true)] Y N = run176 symN (T5 (Int.ofNat 6) n 0 ⟨#[]⟩ .nils) := by kernel_rfl
theorem q6b (n : Int) : chainP [(.geq, i64 n, i64 0, true), (.leq, i64 n, i64 1099511627776, true)] Y N = run176 symN (T5 (Int.ofNat 6) n 0 ⟨#[]⟩ (.ros [] 0)) := by kernel_rfl
theorem q5a (n : Int) : bothN n (chainP [(.geq, i64 n, i64 0, true), (.leq, i64 n, i64 16384, true)] Y N) = run176 symN (T5 (Int.ofNat 5) n 0 ⟨#[]⟩ .nils) := by kernel_rfl
theorem q5b (n : Int) (cs : List AVal) (m : Nat) : bothN n (chainP [(.geq, i64 n, i64 0, true), (.leq, i64 n, i64 16384, true)] Y N) = run176 symN (T5 (Int.ofNat 5) n 0 ⟨#[]⟩ (.ros cs m)) := by kernel_rfl
theorem q2a (f : Nat) : chainP [(.neq, .flt .f64 f, .flt .f64 f, false), (.gtr, absv f, .flt .f64 9218868437227405311, false)] Y N = run176 symK (T5 (Int.ofNat 2) 0 f ⟨#[]⟩ .nils) := by kernel_rfl
theorem q2b (f : Nat) : chainP [(.neq, .flt .f64 f, .flt .f64 f, false), (.gtr, absv f, .flt .f64 9218868437227405311, false)] Y N = run176 symK (T5 (Int.ofNat 2) 0 f ⟨#[]⟩ (.ros [] 0)) := by kernel_rfl
end Go.Am.Rl

/- A right term is plain. -/
namespace Go.Am.Rl
open Go.Proofs

theorem f64s : FloatKind.f64.format.signWeight = 9223372036854775808 := by decide
theorem f64b : FloatKind.f64.format.binade = 4503599627370496 := by decide
theorem f64i : FloatKind.f64.format.infRung = 9218868437227405312 := by decide
theorem fin_lt {f : Nat} (h : fin64 f = true) : f % 9223372036854775808 < 9218868437227405312 := by
  by_cases hlt : f % 9223372036854775808 < 9218868437227405312
  · exact hlt
  exfalso
  have hn : FloatKind.f64.format.sub f f = none := by
    unfold Ieee.Format.sub Ieee.Format.read
    simp only [f64s, f64b, f64i]
    rw [if_neg (by omega), if_neg hlt]
    by_cases he : f % 9223372036854775808 = 9218868437227405312
    · rw [if_pos he]
      simp only [Ieee.Datum.opposite, Ieee.Datum.sum]
      cases (f / 9223372036854775808 % 2 == 1) <;> rfl
    · rw [if_neg he]; rfl
  unfold fin64 at h
  rw [hn] at h
  cases h
theorem cmp_self (x : Int) : compare x x = Ordering.eq := by simp [compare, compareOfLessAndEq]
theorem cmp_le {x y : Int} (h : x ≤ y) : (some (compare x y) == some Ordering.gt) = false := by
  simp only [compare, compareOfLessAndEq]
  split
  · rfl
  · split
    · rfl
    · omega
theorem read_num {f : Nat} (h : f % 9223372036854775808 < 9218868437227405312) : ∃ m j, FloatKind.f64.format.read f = .number (f / 9223372036854775808 % 2 == 1) m (FloatKind.f64.format.leastPlace + (j : Nat)) ∧ m ≤ 9007199254740991 ∧ j ≤ 2045 := by
  unfold Ieee.Format.read
  simp only [f64s, f64b, f64i]
  by_cases h1 : f % 9223372036854775808 < 4503599627370496
  · rw [if_pos h1]; exact ⟨f % 9223372036854775808, 0, by simp, by omega, by omega⟩
  · rw [if_neg h1, if_pos h]; exact ⟨_, _, rfl, by omega, by omega⟩
theorem neq_fin {f : Nat} (h : fin64 f = true) : Cond.met (.neq, .flt .f64 f, .flt .f64 f, false) := by
  obtain ⟨m, j, hr, _, _⟩ := read_num (fin_lt h)
  show abin .neq (.flt .f64 f) (.flt .f64 f) = some (.bool false)
  have : FloatKind.f64.format.order f f = some .eq := by
    unfold Ieee.Format.order
    rw [hr]
    simp only [Ieee.Datum.order, cmp_self]
  simp [abin, this]
theorem read_max : FloatKind.f64.format.read 9218868437227405311 = .number false 9007199254740991 (FloatKind.f64.format.leastPlace + (2045 : Nat)) := by decide
theorem abs_val {f : Nat} (h : f < 18446744073709551616) : absv f = .flt .f64 (f % 9223372036854775808) := by
  have e : (BitVec.ofInt 64 (f : Int) &&& ~~~ BitVec.ofInt 64 9223372036854775808).toNat = f % 9223372036854775808 := by
    rw [show (~~~ BitVec.ofInt 64 9223372036854775808 : BitVec 64) = BitVec.ofNat 64 9223372036854775807 by decide, BitVec.ofInt_natCast, BitVec.toNat_and, BitVec.toNat_ofNat, BitVec.toNat_ofNat, Nat.mod_eq_of_lt h]
    exact Nat.and_two_pow_sub_one_eq_mod f 63
  unfold absv
  have hb : IntKind.u64.bits = 64 := rfl
  show AVal.flt .f64 (IntKind.u64.wrap ((BitVec.ofInt 64 (f : Int) &&& ~~~ BitVec.ofInt 64 9223372036854775808).toNat : Nat)).toNat = _
  rw [e]
  have : IntKind.u64.wrap ((f % 9223372036854775808 : Nat) : Int) = ((f % 9223372036854775808 : Nat) : Int) := by
    have hl : f % 9223372036854775808 < 9223372036854775808 := Nat.mod_lt _ (by decide)
    generalize f % 9223372036854775808 = a at hl
    simp only [IntKind.wrap]
    have : ((a : Nat) : Int) % 2 ^ 64 = (a : Int) := by omega
    simp_all [IntKind.bits, IntKind.signed]
  rw [this, Int.toNat_natCast]
theorem gtr_fin {f : Nat} (h : fin64 f = true) (hf : f < 18446744073709551616) : Cond.met (.gtr, absv f, .flt .f64 9218868437227405311, false) := by
  have hl := fin_lt h
  rw [abs_val hf]
  obtain ⟨m, j, hr, hm, hj⟩ := read_num (f := f % 9223372036854775808) (by rw [Nat.mod_mod]; exact hl)
  have hneg : (f % 9223372036854775808 / 9223372036854775808 % 2 == 1) = false := by
    have : f % 9223372036854775808 / 9223372036854775808 = 0 := Nat.div_eq_of_lt (Nat.mod_lt _ (by decide))
    rw [this]; rfl
  rw [hneg] at hr
  show abin .gtr (.flt .f64 (f % 9223372036854775808)) (.flt .f64 9218868437227405311) = some (.bool false)
  have ho : (FloatKind.f64.format.order (f % 9223372036854775808) 9218868437227405311 == some .gt) = false := by
    unfold Ieee.Format.order
    rw [hr, read_max]
    simp only [Ieee.Datum.order]
    refine cmp_le ?_
    generalize FloatKind.f64.format.leastPlace = p
    rw [show min (p + (j : Int)) (p + ((2045 : Nat) : Int)) = p + (j : Int) by omega]
    rw [show (p + (j : Int) - (p + (j : Int))).toNat = 0 by omega, show (p + ((2045 : Nat) : Int) - (p + (j : Int))).toNat = 2045 - j by omega]
    simp only [Ieee.signed, Bool.false_eq_true, if_false, Nat.shiftLeft_eq, Nat.pow_zero, Nat.mul_one]
    have : 1 ≤ 2 ^ (2045 - j) := Nat.one_le_two_pow
    have : 9007199254740991 * 1 ≤ 9007199254740991 * 2 ^ (2045 - j) := Nat.mul_le_mul_left _ this
    omega
  simp [abin, ho]
attribute [local irreducible] run176
theorem t176 {sym : FuncId → List Nat} {xs : List AVal} {p : Prop} (e : p = run176 sym xs) (hp : p) : DCall Tryz.prog 99 xs AHeap.empty fun r _ => ∃ b, r = .bool b ∧ b = true := by
  obtain ⟨o, H', rfl, d⟩ := hcall_sound mixed tabP_ok (GKnown.none_ok _) 4 99 xs AHeap.empty Yes (show hcall tabP GKnown.none sym 1000 4 99 xs AHeap.empty Yes by have h := e.mp hp; unfold run176 at h; exact h)
  exact ⟨_, H', ⟨true, rfl, rfl⟩, d.det⟩
theorem chainT : ∀ {l : List Cond} {good bad : Prop}, (∀ c ∈ l, isCmp c.1 c.2.1 c.2.2.1 = true) → (∀ c ∈ l, c.met) → good → chainP l good bad
  | [], good, bad, _, _, h => h
  | (c, u, v, true) :: r, good, bad, hc, hm, h => ⟨hc _ (List.mem_cons_self ..), fun _ => chainT (fun c h => hc c (List.mem_cons_of_mem _ h)) (fun c h => hm c (List.mem_cons_of_mem _ h)) h, fun hf => by
      have := hm _ (List.mem_cons_self ..)
      simp only [Cond.met] at this
      rw [hf] at this; cases this⟩
  | (c, u, v, false) :: r, good, bad, hc, hm, h => ⟨hc _ (List.mem_cons_self ..), fun hf => (by
      have := hm _ (List.mem_cons_self ..)
      simp only [Cond.met] at this
      rw [hf] at this
      cases this), fun _ => chainT (fun c h => hc c (List.mem_cons_of_mem _ h)) (fun c h => hm c (List.mem_cons_of_mem _ h)) h⟩
theorem bothN_of {n : Int} {p : Prop} (h : p) : bothN n p := ⟨by simp [isCmp, cmpOp], fun _ => ⟨by simp [isCmp, cmpOp], fun _ => h, fun _ => h⟩, fun _ => h⟩
theorem ge_met {n m : Int} (h : m ≤ n) : Cond.met (.geq, i64 n, i64 m, true) := by simp [Cond.met, abin, h]
theorem le_met {n m : Int} (h : n ≤ m) : Cond.met (.leq, i64 n, i64 m, true) := by simp [Cond.met, abin, h]
theorem two_met {c d : Cond} (h1 : c.met) (h2 : d.met) : ∀ x ∈ [c, d], x.met := by
  intro x hx
  rcases List.mem_cons.mp hx with rfl | hx
  · exact h1
  · rcases List.mem_cons.mp hx with rfl | hx
    · exact h2
    · cases hx
/-- A right term is plain. -/
theorem g176x (t : TM) (ok : t.ok) (h : TM.pl t) (H : AHeap) : DCall Tryz.prog 99 [t.agg] H fun r H' => r = .bool true ∧ H' = H := by
  have hx : DCall Tryz.prog 99 [t.agg] AHeap.empty fun r _ => ∃ b, r = .bool b ∧ b = true := by
    cases t with
    | mk k n f s nl l =>
      have hf : f < 18446744073709551616 := by
        have := ok.2.2.1
        simpa [Lit.wf] using this
      rcases h with ⟨rfl, rfl, rfl, ⟨h1, h2⟩, rfl⟩ | ⟨rfl, rfl, rfl, rfl, hfin⟩ | ⟨rfl, hs, rfl, rfl, rfl⟩ | ⟨hk, ⟨h1, h2⟩, rfl, rfl, rfl⟩ | ⟨rfl, ⟨h1, h2⟩, rfl, rfl⟩ | ⟨hk, rfl, rfl, rfl⟩
      · have hc := chainT (good := Y) (bad := N) (by simp [isCmp, cmpOp]) (two_met (ge_met h1) (le_met h2)) rfl
        cases nl with
        | true => exact t176 (q1a n) (bothN_of hc)
        | false => exact t176 (q1b n) (bothN_of hc)
      · have hc := chainT (good := Y) (bad := N) (by simp [isCmp, cmpOp, absv]) (two_met (neq_fin hfin) (gtr_fin hfin hf)) rfl
        cases nl with
        | true => exact t176 (q2a f) hc
        | false => exact t176 (q2b f) hc
      · have hc := chainT (l := [(.leq, i64 s.size, i64 64, true)]) (good := Y) (bad := N) (by simp [isCmp, cmpOp]) (by
          intro c hc
          rcases List.mem_cons.mp hc with rfl | hc
          · exact le_met (by have : s.size ≤ 64 := hs; omega)
          · cases hc) rfl
        cases nl with
        | true => exact t176 (q3a s) hc
        | false => exact t176 (q3b s) hc
      · have hc := chainT (good := Y) (bad := N) (by simp [isCmp, cmpOp]) (two_met (ge_met h1) (le_met h2)) rfl
        rcases hk with rfl | rfl
        · cases nl with
          | true => exact t176 (q4a n) hc
          | false => exact t176 (q4b n) hc
        · cases nl with
          | true => exact t176 (q6a n) hc
          | false => exact t176 (q6b n) hc
      · have hc := chainT (good := Y) (bad := N) (by simp [isCmp, cmpOp]) (two_met (ge_met h1) (le_met h2)) rfl
        cases nl with
        | true => exact t176 (q5a n) (bothN_of hc)
        | false => exact t176 (q5b n (TM.flat l) l.length) (bothN_of hc)
      · rcases hk with rfl | rfl
        · cases nl with
          | true => exact t176 q7a rfl
          | false => exact t176 (q7b (TM.flat l) l.length) rfl
        · cases nl with
          | true => exact t176 q8a rfl
          | false => exact t176 (q8b (TM.flat l) l.length) rfl
  exact (DCall.bools (TM.pures1 t) hx H).mono fun r H' ⟨⟨n, h1, h3⟩, h2⟩ => ⟨by rw [h1, h3], h2⟩
end Go.Am.Rl
