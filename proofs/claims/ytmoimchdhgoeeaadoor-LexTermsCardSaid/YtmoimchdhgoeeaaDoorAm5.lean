/- One operation: those that turn no memory. -/
import Derived.Test.YtmoimchdhgoeeaaDoorAm4
set_option linter.unusedVariables false
set_option linter.unusedSimpArgs false
namespace Go.Am
theorem copd_sound {P:Program} {w:World} {ro:Nat→Prop} {μ:Mu} {T:Env} {a:Act} (hT:TR P w ro μ T a.tmps) {x:Operand} {ax:AOpnd} (h:copd x=some ax) {v:AVal} (hv:T.val ax=some v):VR P w ro μ v (a.eval x):=by
  cases x with
  | tmp t=>
    simp only [copd] at h; injection h with h; subst h
    exact hT.val t v hv
  | const c=>
    simp only [copd,Option.map_eq_some_iff] at h
    obtain ⟨z,hz,rfl⟩:=h
    simp only [Env.val] at hv; injection hv with hv; subst hv
    exact cvl_sound 3 c z hz
  | global g=>
    simp only [copd,Option.map_eq_some_iff] at h
    obtain ⟨cs,hcs,rfl⟩:=h
    simp only [Env.val] at hv; injection hv with hv; subst hv
    exact ⟨g,0,none,rfl,fun _=>⟨(hT.glob g cs hcs).1,rfl⟩,(hT.glob g cs hcs).2 μ⟩
  | func f=>
    simp only [copd] at h; injection h with h; subst h
    simp only [Env.val] at hv; injection hv with hv; subst hv
    exact ⟨#[], #[],rfl,rfl,rfl⟩
theorem copds_sound {P:Program} {w:World} {ro:Nat→Prop} {μ:Mu} {T:Env} {a:Act} (hT:TR P w ro μ T a.tmps):∀ {xs:List Operand} {as:List AOpnd},copds xs=some as→∀ {vs:List AVal},T.vals as=some vs→VRs P w ro μ vs (xs.map a.eval)
  | [],as,h,vs,hv=>by
    simp only [copds] at h; injection h with h; subst h
    simp only [Env.vals] at hv; injection hv with hv; subst hv
    rfl
  | x::r,as,h,vs,hv=>by
    simp only [copds,Option.bind_eq_bind,Option.bind_eq_some_iff,Option.pure_def] at h
    obtain ⟨ax,hx,ar,hr,h⟩:=h
    injection h with h; subst h
    simp only [Env.vals,Option.bind_eq_bind,Option.bind_eq_some_iff,Option.pure_def] at hv
    obtain ⟨v,hv1,vr,hv2,hv⟩:=hv
    injection hv with hv; subst hv
    exact ⟨_,_,rfl,copd_sound hT hx hv1,copds_sound hT hr hv2⟩
theorem nan_order_l {f:Ieee.Format} {a:Nat} (h:(f.read a).isNaN=true) (b:Nat):f.order a b=none:=by
  unfold Ieee.Format.order
  cases hr:f.read a <;> rw [hr] at h <;> first | (cases h; done) | rfl
theorem nan_order_r {f:Ieee.Format} {b:Nat} (h:(f.read b).isNaN=true) (a:Nat):f.order a b=none:=by
  unfold Ieee.Format.order
  cases hr:f.read b <;> rw [hr] at h <;> first | (cases h; done) | (cases f.read a <;> rfl)
theorem nan_cut (k:FloatKind) (x y n:Nat):(k.format.read ((Question.nanBits k x y).cut n)).isNaN=true:=by
  cases k
  · have e:(Question.nanBits .f32 x y).cut n=(n % 2) * 2147483648+2139095040+1+(n / 2) % 8388607:=rfl
    rw [e]
    have hs:FloatKind.f32.format.signWeight=2147483648:=by decide
    have hb:FloatKind.f32.format.binade=8388608:=by decide
    have hi:FloatKind.f32.format.infRung=2139095040:=by decide
    unfold Ieee.Format.read
    simp only [hs,hb,hi]
    have hm:((n % 2) * 2147483648+2139095040+1+(n / 2) % 8388607) % 2147483648=2139095040+1+(n / 2) % 8388607:=by omega
    rw [hm,if_neg (by omega),if_neg (by omega),if_neg (by omega)]; rfl
  · have e:(Question.nanBits .f64 x y).cut n=(n % 2) * 9223372036854775808+9218868437227405312+1+(n / 2) % 4503599627370495:=rfl
    rw [e]
    have hs:FloatKind.f64.format.signWeight=9223372036854775808:=by decide
    have hb:FloatKind.f64.format.binade=4503599627370496:=by decide
    have hi:FloatKind.f64.format.infRung=9218868437227405312:=by decide
    unfold Ieee.Format.read
    simp only [hs,hb,hi]
    have hm:((n % 2) * 9223372036854775808+9218868437227405312+1+(n / 2) % 4503599627370495) % 9223372036854775808=9218868437227405312+1+(n / 2) % 4503599627370495:=by omega
    rw [hm,if_neg (by omega),if_neg (by omega),if_neg (by omega)]; rfl
theorem nan_run {P:Program} {w:World} {ro:Nat→Prop} {μ:Mu} {k:FloatKind} {x y:Nat} {s:Sem Value} (h:s.run P w=(do pure (.float k (← choose (.nanBits k x y))):Sem Value).run P w) :
    ∃ v' w',s.run P w = .ok v' w'∧(w'=w∨w'=w.drew)∧VR P w' ro μ (flOr k none) v':=by
  exact ⟨.float k ((Question.nanBits k x y).cut (w.tape w.drawn (Question.nanBits k x y))),w.drew,by rw [h]; simp [Question.forced],.inr rfl,⟨_,rfl,nan_cut k x y _⟩⟩
theorem nan_cmp {P:Program} {w:World} {ro:Nat→Prop} {μ:Mu} {op:BinOp} {t:TypeId} {X Y:Operand} {k:FloatKind} {a b:Nat} {v:AVal} (ho:k.format.order a b=none) (h:nanCmp op=some v) :
    ∃ v' w',(do eqGuard op t X Y (.float k a) (.float k b); binOp op t (.float k a) (.float k b)).run P w = .ok v' w'∧(w'=w∨w'=w.drew)∧VR P w' ro μ v v':=by
  simp only [eqGuard_at_float,Sem.run_bind,Sem.run_pure,Result.andThen_ok]
  unfold nanCmp at h
  split at h
  all_goals (try (cases h; done))
  all_goals (injection h with h; subst h; exact ⟨_,w,by simp [binOp,Op.floatCmp,ho],.inl rfl,rfl⟩)
theorem do_bin {P:Program} (w:World) {ro:Nat→Prop} {μ:Mu} (op:BinOp) (t:TypeId) (X Y:Operand) {x y v:AVal} {x' y':Value} (hx:VR P w ro μ x x') (hy:VR P w ro μ y y') (h:abin op x y=some v) :
    ∃ v' w',(do eqGuard op t X Y x' y'; binOp op t x' y').run P w = .ok v' w'∧(w'=w∨w'=w.drew)∧VR P w' ro μ v v':=by
  unfold abin at h
  split at h
  ·
    rename_i k a k' b
    simp only [VR] at hx hy; subst hx; subst hy
    simp only [eqGuard_at_int,Sem.run_bind,Sem.run_pure,Result.andThen_ok]
    split at h
    · split at h
      · cases h
      · injection h with h; subst h
        exact ⟨_,w,by simp [binOp,Op.shift,show ¬ b < 0 by omega],.inl rfl,rfl⟩
    · split at h
      · cases h
      · injection h with h; subst h
        exact ⟨_,w,by simp [binOp,Op.shift,show ¬ b < 0 by omega],.inl rfl,rfl⟩
    all_goals
      split at h
      case isFalse=>cases h
      rename_i hk; subst hk
    case h_6=>
      split at h
      · cases h
      · injection h with h; subst h
        exact ⟨_,w,by simp [binOp,Op.intDiv, *],.inl rfl,rfl⟩
    case h_7=>
      split at h
      · cases h
      · injection h with h; subst h
        exact ⟨_,w,by simp [binOp,Op.intDiv, *],.inl rfl,rfl⟩
    all_goals
      injection h with h; subst h
      exact ⟨_,w,by simp [binOp,Op.intArith,Op.intCmp,Op.intBits],.inl rfl,rfl⟩
  ·
    rename_i k a k' b
    simp only [VR] at hx hy; subst hx; subst hy
    simp only [eqGuard_at_float,Sem.run_bind,Sem.run_pure,Result.andThen_ok]
    split at h
    case isFalse=>cases h
    rename_i hk; subst hk
    split at h
    all_goals (try (cases h; done))
    all_goals (first
      | (injection h with h; subst h; exact ⟨_,w,by simp [binOp,Op.floatCmp],.inl rfl,rfl⟩)
      | (injection h with h; subst h
         cases hr:k.format.add a b with
         | some r=>exact ⟨_,w,by simp [binOp,Op.floatArith,hr],.inl rfl,rfl⟩
         | none=>exact nan_run (x:=a) (y:=b) (by simp [binOp,Op.floatArith,hr]))
      | (injection h with h; subst h
         cases hr:k.format.sub a b with
         | some r=>exact ⟨_,w,by simp [binOp,Op.floatArith,hr],.inl rfl,rfl⟩
         | none=>exact nan_run (x:=a) (y:=b) (by simp [binOp,Op.floatArith,hr]))
      | (injection h with h; subst h
         cases hr:k.format.mul a b with
         | some r=>exact ⟨_,w,by simp [binOp,Op.floatArith,hr],.inl rfl,rfl⟩
         | none=>exact nan_run (x:=a) (y:=b) (by simp [binOp,Op.floatArith,hr]))
      | (injection h with h; subst h
         cases hr:k.format.div a b with
         | some r=>exact ⟨_,w,by simp [binOp,Op.floatArith,hr],.inl rfl,rfl⟩
         | none=>exact nan_run (x:=a) (y:=b) (by simp [binOp,Op.floatArith,hr])))
  ·
    rename_i k k' b
    split at h
    case isFalse=>cases h
    rename_i hk; subst hk
    simp only [VR] at hx hy; subst hy
    obtain ⟨a,rfl,hn⟩:=hx
    exact nan_cmp (nan_order_l hn b) h
  · rename_i k a k'
    split at h
    case isFalse=>cases h
    rename_i hk; subst hk
    simp only [VR] at hx hy; subst hx
    obtain ⟨b,rfl,hn⟩:=hy
    exact nan_cmp (nan_order_r hn a) h
  · rename_i k k'
    split at h
    case isFalse=>cases h
    rename_i hk; subst hk
    simp only [VR] at hx hy
    obtain ⟨a,rfl,hn⟩:=hx
    obtain ⟨b,rfl,hn'⟩:=hy
    exact nan_cmp (nan_order_l hn b) h
  ·
    rename_i a b
    simp only [VR] at hx hy; subst hx; subst hy
    simp only [eqGuard_at_string,Sem.run_bind,Sem.run_pure,Result.andThen_ok]
    split at h
    all_goals (try (cases h; done))
    · split at h
      · cases h
      · rename_i hle
        injection h with h; subst h
        refine ⟨_,w,?_,.inl rfl,rfl⟩
        have hb:binOp .add t (.string a) (.string b)=Op.stringOp .add a b:=rfl
        rw [hb]
        simp only [Op.stringOp]
        rw [if_neg hle]; rfl
    all_goals (injection h with h; subst h; exact ⟨_,w,rfl,.inl rfl,rfl⟩)
  · cases h
theorem do_un {P:Program} (w:World) {ro:Nat→Prop} {μ:Mu} (op:UnOp) {x v:AVal} {x':Value} (hx:VR P w ro μ x x') (h:aun op x=some v) :
    ∃ v',(Op.unary op x').run P w = .ok v' w∧VR P w ro μ v v':=by
  unfold aun at h
  split at h
  all_goals (try (cases h; done))
  all_goals (simp only [VR] at hx; subst hx; split at h)
  all_goals (try (cases h; done))
  all_goals (injection h with h; subst h; exact ⟨_,rfl,rfl⟩)
theorem eqGuard_const {op:BinOp} {t:TypeId} {X Y:Operand} {x y:Value} (h:(isConstO X || isConstO Y)=true):(x = .nilIface→y = .nilIface→eqGuard op t X Y x y=pure ()):=by
  intro h1 h2; subst h1; subst h2
  cases X with
  | const c=>exact eqGuard_nil_constL ..
  | _=>cases Y with
    | const c=>exact eqGuard_nil_constR ..
    | _=>simp [isConstO] at h
theorem equal_of {P:Program} {w:World} {t:TypeId} {x y:Value} {b:Bool} (h:∀ n,(Op.equalIn (n+1) t x y).run P w = .ok b w):(Op.equal t x y).run P w = .ok b w:=h 9999
theorem do_eqN {P:Program} (w:World) {ro:Nat→Prop} {μ:Mu} {tag:Nat} (neq:Bool) (t:TypeId) (X Y:Operand) {x y:AVal} {b:Bool} {x' y':Value} (hx:VR P w ro μ x x') (hy:VR P w ro μ y y') (h:anil tag x y=some b) {d:TypeDesc} (hd:P.underlying t=some d)
    (ht:(tag=0∧∃ e,d = .pointer e)∨(tag=1∧∃ e,d = .slice e)∨(tag=2∧∃ k e,d = .map k e)∨(tag=3∧∃ p r v,d = .func p r v)∨(tag=4∧(∃ ms,d = .interface ms)∧(isConstO X || isConstO Y)=true)) :
    (do eqGuard (if neq then .neq else .eql) t X Y x' y'; binOp (if neq then .neq else .eql) t x' y').run P w = .ok (.bool (neq ^^ b)) w:=by
  have key:∀ (hg:eqGuard (if neq then .neq else .eql) t X Y x' y'=pure ()) (hb:(Op.equal t x' y').run P w = .ok b w)
      (hk:∀ op,(op = .eql∨op = .neq)→binOp op t x' y'=match op with | .eql=>(do pure (.bool (← Op.equal t x' y'))) | _=>(do pure (.bool (!(← Op.equal t x' y'))))),
      (do eqGuard (if neq then .neq else .eql) t X Y x' y'; binOp (if neq then .neq else .eql) t x' y').run P w = .ok (.bool (neq ^^ b)) w:=by
    intro hg hb hk
    rw [hg]
    cases neq
    · simp [hk .eql (.inl rfl),hb]
    · simp [hk .neq (.inr rfl),hb]
  unfold anil at h
  split at h
  all_goals (try (cases h; done))
  all_goals (injection h with h; subst h)
  all_goals (simp only [VR] at hx hy)
  case h_1=>subst hx; subst hy; rcases ht with ⟨_,e,rfl⟩ | ⟨h0,_⟩ | ⟨h0,_⟩ | ⟨h0,_⟩ | ⟨h0,_⟩ <;> first | (cases h0; done) | exact key (eqGuard_at_pointer ..) (equal_of fun n=>by simp [Op.equalIn,run_underlying hd]) (fun op ho=>by rcases ho with rfl | rfl <;> rfl)
  case h_2=>subst hx; subst hy; rcases ht with ⟨h0,_⟩ | ⟨_,e,rfl⟩ | ⟨h0,_⟩ | ⟨h0,_⟩ | ⟨h0,_⟩ <;> first | (cases h0; done) | exact key (eqGuard_at_slice ..) (equal_of fun n=>by simp [Op.equalIn,run_underlying hd]) (fun op ho=>by rcases ho with rfl | rfl <;> rfl)
  case h_3=>subst hx; subst hy; rcases ht with ⟨h0,_⟩ | ⟨h0,_⟩ | ⟨_,k,e,rfl⟩ | ⟨h0,_⟩ | ⟨h0,_⟩ <;> first | (cases h0; done) | exact key (eqGuard_at_map ..) (equal_of fun n=>by simp [Op.equalIn,run_underlying hd]) (fun op ho=>by rcases ho with rfl | rfl <;> rfl)
  case h_4=>subst hx; subst hy; rcases ht with ⟨h0,_⟩ | ⟨h0,_⟩ | ⟨h0,_⟩ | ⟨_,p,r,v,rfl⟩ | ⟨h0,_⟩ <;> first | (cases h0; done) | exact key (eqGuard_at_nilFunc ..) (equal_of fun n=>by simp [Op.equalIn,run_underlying hd]) (fun op ho=>by rcases ho with rfl | rfl <;> rfl)
  case h_5=>subst hx; subst hy; rcases ht with ⟨h0,_⟩ | ⟨h0,_⟩ | ⟨h0,_⟩ | ⟨h0,_⟩ | ⟨_,⟨ms,rfl⟩,hc⟩ <;> first | (cases h0; done) | exact key (eqGuard_const hc rfl rfl) (equal_of fun n=>by simp [Op.equalIn,run_underlying hd]) (fun op ho=>by rcases ho with rfl | rfl <;> rfl)
  case h_6=>obtain ⟨_,_,_,rfl⟩:=hy; subst hx; rcases ht with ⟨_,e,rfl⟩ | ⟨h0,_⟩ | ⟨h0,_⟩ | ⟨h0,_⟩ | ⟨h0,_⟩ <;> first | (cases h0; done) | exact key (eqGuard_at_pointer ..) (equal_of fun n=>by simp [Op.equalIn,run_underlying hd]) (fun op ho=>by rcases ho with rfl | rfl <;> rfl)
  case h_7=>obtain ⟨_,_,_,rfl,_⟩:=hy; subst hx; rcases ht with ⟨_,e,rfl⟩ | ⟨h0,_⟩ | ⟨h0,_⟩ | ⟨h0,_⟩ | ⟨h0,_⟩ <;> first | (cases h0; done) | exact key (eqGuard_at_pointer ..) (equal_of fun n=>by simp [Op.equalIn,run_underlying hd]) (fun op ho=>by rcases ho with rfl | rfl <;> rfl)
  case h_8=>obtain ⟨_,_,_,rfl⟩:=hx; subst hy; rcases ht with ⟨_,e,rfl⟩ | ⟨h0,_⟩ | ⟨h0,_⟩ | ⟨h0,_⟩ | ⟨h0,_⟩ <;> first | (cases h0; done) | exact key (eqGuard_at_pointer ..) (equal_of fun n=>by simp [Op.equalIn,run_underlying hd]) (fun op ho=>by rcases ho with rfl | rfl <;> rfl)
  case h_9=>obtain ⟨_,_,_,rfl,_⟩:=hx; subst hy; rcases ht with ⟨_,e,rfl⟩ | ⟨h0,_⟩ | ⟨h0,_⟩ | ⟨h0,_⟩ | ⟨h0,_⟩ <;> first | (cases h0; done) | exact key (eqGuard_at_pointer ..) (equal_of fun n=>by simp [Op.equalIn,run_underlying hd]) (fun op ho=>by rcases ho with rfl | rfl <;> rfl)
  case h_10=>obtain ⟨_,_,_,_,_,_,_,_,rfl,_⟩:=hy; subst hx; rcases ht with ⟨h0,_⟩ | ⟨_,e,rfl⟩ | ⟨h0,_⟩ | ⟨h0,_⟩ | ⟨h0,_⟩ <;> first | (cases h0; done) | exact key (eqGuard_at_slice ..) (equal_of fun n=>by simp [Op.equalIn,run_underlying hd]) (fun op ho=>by rcases ho with rfl | rfl <;> rfl)
  case h_11=>obtain ⟨_,_,_,_,rfl,_⟩:=hy; subst hx; rcases ht with ⟨h0,_⟩ | ⟨_,e,rfl⟩ | ⟨h0,_⟩ | ⟨h0,_⟩ | ⟨h0,_⟩ <;> first | (cases h0; done) | exact key (eqGuard_at_slice ..) (equal_of fun n=>by simp [Op.equalIn,run_underlying hd]) (fun op ho=>by rcases ho with rfl | rfl <;> rfl)
  case h_12=>obtain ⟨_,_,_,_,_,_,_,_,rfl,_⟩:=hx; subst hy; rcases ht with ⟨h0,_⟩ | ⟨_,e,rfl⟩ | ⟨h0,_⟩ | ⟨h0,_⟩ | ⟨h0,_⟩ <;> first | (cases h0; done) | exact key (eqGuard_at_slice ..) (equal_of fun n=>by simp [Op.equalIn,run_underlying hd]) (fun op ho=>by rcases ho with rfl | rfl <;> rfl)
  case h_13=>obtain ⟨_,_,_,_,rfl,_⟩:=hx; subst hy; rcases ht with ⟨h0,_⟩ | ⟨_,e,rfl⟩ | ⟨h0,_⟩ | ⟨h0,_⟩ | ⟨h0,_⟩ <;> first | (cases h0; done) | exact key (eqGuard_at_slice ..) (equal_of fun n=>by simp [Op.equalIn,run_underlying hd]) (fun op ho=>by rcases ho with rfl | rfl <;> rfl)
  case h_14=>obtain ⟨_,_,rfl⟩:=hy; subst hx; rcases ht with ⟨h0,_⟩ | ⟨h0,_⟩ | ⟨_,k,e,rfl⟩ | ⟨h0,_⟩ | ⟨h0,_⟩ <;> first | (cases h0; done) | exact key (eqGuard_at_map ..) (equal_of fun n=>by simp [Op.equalIn,run_underlying hd]) (fun op ho=>by rcases ho with rfl | rfl <;> rfl)
  case h_15=>obtain ⟨_,_,rfl⟩:=hx; subst hy; rcases ht with ⟨h0,_⟩ | ⟨h0,_⟩ | ⟨_,k,e,rfl⟩ | ⟨h0,_⟩ | ⟨h0,_⟩ <;> first | (cases h0; done) | exact key (eqGuard_at_map ..) (equal_of fun n=>by simp [Op.equalIn,run_underlying hd]) (fun op ho=>by rcases ho with rfl | rfl <;> rfl)
  case h_16=>obtain ⟨_,_,rfl,_⟩:=hy; subst hx; rcases ht with ⟨h0,_⟩ | ⟨h0,_⟩ | ⟨h0,_⟩ | ⟨_,p,r,v,rfl⟩ | ⟨h0,_⟩ <;> first | (cases h0; done) | exact key (eqGuard_at_nilFunc ..) (equal_of fun n=>by simp [Op.equalIn,run_underlying hd]) (fun op ho=>by rcases ho with rfl | rfl <;> rfl)
  case h_17=>obtain ⟨_,_,rfl,_⟩:=hx; subst hy; rcases ht with ⟨h0,_⟩ | ⟨h0,_⟩ | ⟨h0,_⟩ | ⟨_,p,r,v,rfl⟩ | ⟨h0,_⟩ <;> first | (cases h0; done) | exact key (eqGuard_at_func ..) (equal_of fun n=>by simp [Op.equalIn,run_underlying hd]) (fun op ho=>by rcases ho with rfl | rfl <;> rfl)
  case h_18=>obtain ⟨_,rfl,_⟩:=hy; subst hx; rcases ht with ⟨h0,_⟩ | ⟨h0,_⟩ | ⟨h0,_⟩ | ⟨h0,_⟩ | ⟨_,⟨ms,rfl⟩,hc⟩ <;> first | (cases h0; done) | exact key (eqGuard_nil_iface ..) (equal_of fun n=>by simp [Op.equalIn,run_underlying hd]) (fun op ho=>by rcases ho with rfl | rfl <;> rfl)
  case h_19=>obtain ⟨_,rfl,_⟩:=hx; subst hy; rcases ht with ⟨h0,_⟩ | ⟨h0,_⟩ | ⟨h0,_⟩ | ⟨h0,_⟩ | ⟨_,⟨ms,rfl⟩,hc⟩ <;> first | (cases h0; done) | exact key (eqGuard_at_iface ..) (equal_of fun n=>by simp [Op.equalIn,run_underlying hd]) (fun op ho=>by rcases ho with rfl | rfl <;> rfl)
theorem do_eqB {P:Program} (w:World) {ro:Nat→Prop} {μ:Mu} (neq:Bool) (t:TypeId) (X Y:Operand) (a b:Bool) (hd:P.underlying t=some .bool) :
    (do eqGuard (if neq then .neq else .eql) t X Y (.bool a) (.bool b); binOp (if neq then .neq else .eql) t (.bool a) (.bool b)).run P w = .ok (.bool (neq ^^ (a==b))) w:=by
  rw [eqGuard_at_bool]
  have hb:(Op.equal t (.bool a) (.bool b)).run P w = .ok (a==b) w:=equal_of fun n=>by simp [Op.equalIn,run_underlying hd]
  have h1:binOp .eql t (.bool a) (.bool b)=(do pure (.bool (← Op.equal t (.bool a) (.bool b)))):=rfl
  have h2:binOp .neq t (.bool a) (.bool b)=(do pure (.bool (!(← Op.equal t (.bool a) (.bool b))))):=rfl
  cases neq
  · simp [h1,hb]
  · simp [h2,hb]
end Go.Am
