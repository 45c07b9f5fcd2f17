/- The law BifKinds: it answers true. -/
import Derived.Test.YtilfjbbfabcdlaaGreatDoorB9
import Derived.Test.YtilfjbbfabcdlaaGreatDoorB10
import Derived.Test.YtilfjbbfabcdlaaGreatDoorB11
set_option linter.unusedVariables false
set_option linter.unusedSimpArgs false
set_option maxRecDepth 20000
namespace Go.Am.Rl
open Go.Proofs

theorem freezeL_all {f : AVal → Option AVal} : ∀ {cs : List AVal}, (∀ a ∈ cs, f a = some a) → freezeL f cs = some cs
  | [], _ => rfl
  | c :: cs, h => by
    simp only [freezeL, h c (List.mem_cons_self ..), freezeL_all fun a ha => h a (List.mem_cons_of_mem _ ha)]
theorem pures_mem : ∀ {cs : List AVal}, AVal.pures cs = true → ∀ a ∈ cs, a.pure = true
  | c :: cs, h, a, ha => by
    simp only [AVal.pures, Bool.and_eq_true] at h
    rcases List.mem_cons.mp ha with rfl | ha
    · exact h.1
    · exact pures_mem h.2 a ha
/-- What names no block is itself. -/
theorem freeze_pure {sz : TypeId → Nat} {H : AHeap} : ∀ (n : Nat) (a : AVal), SizeOf.sizeOf a < n → a.pure = true → freeze sz H n a = some a
  | 0, a, h, _ => by omega
  | n + 1, a, h, hp => by
    have row : ∀ cs : List AVal, SizeOf.sizeOf cs < n → AVal.pures cs = true → freezeL (freeze sz H n) cs = some cs := fun cs hs hc => freezeL_all fun a ha => freeze_pure n a (by have := List.sizeOf_lt_of_mem ha; omega) (pures_mem hc a ha)
    cases a with
    | ptr i o => simp [AVal.pure] at hp
    | sl i o l c => simp [AVal.pure] at hp
    | map i => simp [AVal.pure] at hp
    | rop cs => simp only [freeze, row cs (by simp at h; omega) (by simpa [AVal.pure] using hp)]
    | ros cs l => simp only [freeze, row cs (by simp at h; omega) (by simpa [AVal.pure] using hp)]
    | agg cs => simp only [freeze, row cs (by simp at h; omega) (by simpa [AVal.pure] using hp)]
    | tup cs => simp only [freeze, row cs (by simp at h; omega) (by simpa [AVal.pure] using hp)]
    | fn f x y =>
      simp only [AVal.pure, Bool.and_eq_true] at hp
      simp at h
      simp only [freeze, row x (by omega) hp.1, row y (by omega) hp.2]
    | ifc t v => simp only [freeze, freeze_pure n v (by simp at h; omega) (by simpa [AVal.pure] using hp)]
    | _ => rfl

theorem g8f {t : TM} (ok : t.ok) {H : AHeap} {id : Nat} {cap : Option Nat} (g : H.get id = some (.cells 25 (TM.c5 t))) : DCall Tryz.prog 8 [.sl id 0 1 cap] H fun r H' => (∃ b, r = .bool b ∧ (b = true → TM.kind t)) ∧ H' = H := by
  have hc : TM.c5 t = TM.flat [t] := by simp only [TM.flat, List.append_nil]; rw [TM.cells_eq]
  have hp : AVal.pures (TM.c5 t) = true := by rw [hc]; exact TM.pures [t]
  have hz : freezeL (freeze szs H (SizeOf.sizeOf (TM.c5 t) + 1)) [.sl id 0 1 cap] = some [.ros (TM.c5 t) 1] := by
    have h1 : freezeL (freeze szs H (SizeOf.sizeOf (TM.c5 t))) (TM.c5 t) = some (TM.c5 t) := freezeL_all fun a ha => freeze_pure _ a (List.sizeOf_lt_of_mem ha) (pures_mem hp a ha)
    have h2 : ((TM.c5 t).drop 0).take (1 * szs 25) = TM.c5 t := rfl
    simp only [freezeL, freeze, g, h2, h1]
  have hr : AVal.ros (TM.c5 t) 1 = (TM.of false [t]).row := by rw [hc]; rfl
  have ok1 : (TM.of false [t]).ok := ⟨by kernel_rfl, by kernel_rfl, by kernel_rfl, Nat.zero_le _, (by show 1 ≤ 2 ^ 42; decide), (fun h => nomatch h), ok, trivial⟩
  refine DCall.framed (Q' := fun r => ∃ b, r = .bool b ∧ (b = true → TM.kind t)) hz (by rw [hr]; exact TM.purer) (by rw [hr]; exact g8 false [t] ok1) ?_
  rintro r H1 ⟨b, rfl, hb⟩
  exact ⟨1, .bool b, rfl, rfl, b, rfl, fun h => hb h t (List.mem_singleton.mpr rfl)⟩

theorem yes_ret {o : AOut} (h : yes o = true) : o = .ret (.bool true) := by
  unfold yes at h
  split at h
  · rw [h]
  · cases h
theorem fin3_run {ov : FuncId → Nat → Option Bool} {c : List AVal} (h : fin3 ov c) : DRX Tryz.prog (kof k3) 112 [.code rest3] [] T3 (H3 c) fun e ds T' H' => DLeave Tryz.prog f3.results ds e T' H' fun o _ => yes o = true :=
  grun_sound mixed (gcall_sound mixed tabK_ok orc7_ok 60) (fun e ds T H h => gleave_sound (xcalld_sound mixed tabK_ok (xcall_sound mixed tabK_ok orc7_ok 100000 60) 100000) _ _ _ _ h) _ _ _ _ _ h
theorem fin3_of {ov : FuncId → Nat → Option Bool} {c c' : List AVal} {p : Prop} (h : p = fin3 ov c') (hp : p) (e : c = c') : ∃ ov, fin3 ov c := ⟨ov, by rw [e]; exact h.mp hp⟩
theorem fin3_kind {t : TM} (h : TM.kind t) : ∃ ov, fin3 ov (TM.c5 t) := by
  obtain ⟨h1, h2⟩ := h
  have e8 : ∀ v : AVal, ∀ p : Prop, p → Eq8 v p := fun v p hp => ⟨rfl, rfl, rfl, rfl, rfl, rfl, rfl, rfl, hp⟩
  have hk : t.k = 1 ∨ t.k = 2 ∨ t.k = 3 ∨ t.k = 4 ∨ t.k = 5 ∨ t.k = 6 ∨ t.k = 7 ∨ t.k = 8 := by omega
  rcases hk with h | h | h | h | h | h | h | h
  · exact fin3_of (fin3_1 t.n t.f t.s t.row) (e8 _ _ rfl) (by unfold TM.c5; rw [h])
  · exact fin3_of (fin3_2 t.n t.f t.s t.row) (e8 _ _ rfl) (by unfold TM.c5; rw [h])
  · by_cases ht : t.s = ⟨#[116, 114, 117, 101]⟩
    · exact fin3_of (fin3_3t t.n t.f t.row) (e8 _ _ rfl) (by unfold TM.c5; rw [h, ht])
    · by_cases hf : t.s = ⟨#[102, 97, 108, 115, 101]⟩
      · exact fin3_of (fin3_3f t.n t.f t.row) (e8 _ _ rfl) (by unfold TM.c5; rw [h, hf])
      · have no : ∀ w : ByteArray, ¬ t.s = w → abin .eql (.str t.s) (.str w) = some (.bool false) := fun w hw => by
          show some (AVal.bool (t.s.toList == w.toList)) = _
          cases hb : (t.s.toList == w.toList) with
          | false => rfl
          | true => exact absurd (bytes_eq (by rw [beq_toListBytes]; exact hb)) hw
        exact fin3_of (fin3_3o t.n t.f t.s t.row) (e8 _ _ ⟨no _ ht, no _ hf, no _ ht, no _ hf, rfl⟩) (by unfold TM.c5; rw [h])
  · exact fin3_of (fin3_4 t.n t.f t.s t.row) (e8 _ _ rfl) (by unfold TM.c5; rw [h])
  · exact fin3_of (fin3_5 t.n t.f t.s t.row) (e8 _ _ rfl) (by unfold TM.c5; rw [h])
  · exact fin3_of (fin3_6 t.n t.f t.s t.row) (e8 _ _ rfl) (by unfold TM.c5; rw [h])
  · exact fin3_of (fin3_7 t.n t.f t.s t.row) (e8 _ _ rfl) (by unfold TM.c5; rw [h])
  · exact fin3_of (fin3_8 t.n t.f t.s t.row) (e8 _ _ rfl) (by unfold TM.c5; rw [h])

theorem g3 (t : TM) (ok : t.ok) : DCallX Tryz.prog 3 [t.agg] AHeap.empty fun o H' => yes o = true := by
  have g1 : (AHeap.empty.push (.cells 25 (TM.c5 t))).get AHeap.empty.next = some (.cells 25 (TM.c5 t)) := by rw [AHeap.get_push, if_pos rfl]
  have la := load_all (n := 5) g1 rfl
  have g2 : (H3 (TM.c5 t)).get (AHeap.empty.push (.cells 25 (TM.c5 t))).next = some (.cells 25 (TM.c5 t)) := by unfold H3; rw [AHeap.get_push, if_pos rfl]
  refine DCallX.of_body (fn := Tryz.f3) (by kernel_rfl) c3 (by kernel_rfl) (by simp [f3]) ?_
  unfold f3
  simp only []
  refine DRX.go rfl ?_
  simp -dsimp only [XZ, SZ, EZ, astep, aun, AVal.cells, seval]
  refine DRX.go rfl ?_
  simp -dsimp only [XZ, SZ, EZ, astep, aun, AVal.cells, seval]
  refine DCall.monoX (g7 _) ?_
  rintro a H1 ⟨rfl, rfl⟩
  simp -dsimp only [XZ, SZ, EZ, astep, aun, AVal.cells, seval]
  refine DRX.ne rfl rfl ?_
  refine DRX.go rfl ?_
  simp -dsimp only [XZ, SZ, EZ, astep, aun, AVal.cells, seval, la, Env.parts, afill, aput, List.length_cons, List.length_nil, List.drop_succ_cons, List.drop_zero, List.drop_nil, List.append_nil, List.cons_append, List.nil_append, List.take_succ_cons, List.take_zero]
  refine DCall.monoX (g8f ok g2) ?_
  rintro r H2 ⟨⟨b, rfl, hb⟩, rfl⟩
  simp -dsimp only [XZ, SZ, EZ, astep, aun, AVal.cells, seval]
  cases b with
  | false =>
    refine DRX.ye rfl rfl ?_
    refine DRX.go rfl ?_
    simp -dsimp only [XZ, SZ, EZ, astep, aun, AVal.cells, seval]
    refine DRX.nm rfl ?_
    exact DRX.retv ⟨_, by simp [aresult, ares, Env.get] <;> rfl, rfl⟩
  | true =>
    refine DRX.ne rfl rfl ?_
    obtain ⟨ov, hfin⟩ := fin3_kind (hb rfl)
    exact DRX.skip (fin3_run hfin)
end Go.Am.Rl

