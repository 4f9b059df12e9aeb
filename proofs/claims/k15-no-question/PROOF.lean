import PyProof.Rows.All
import Wide.All
import OpenK.AllK
import Wide.FinOn
import HandS.ForMost
import HandS.ForExc
import HandS.IsInst
import HandS.ExcIs
import HandS.EndBits
import HandS.Wide
import HandS.More
import HandS.TupLe
import HandS.SortOrd
import HandS.Deep
import HandS.TupAny
import HandS.SetFor
import KE.SortData
import HandS.Strs
import HandS.ExcInit
import HandS.ClsMeth
import HandS.ExcField
import HandS.TryMany
import HandS.TryElse
import HandS.Head0
import HandS.Head1
import HandS.Head2
import HandS.HeadEnd
import HandS.HeadHook1
import HandS.HeadHook2
import PySem.Challenge.RW_planledger_k15_what_tells_no_question
set_option Elab.async false
set_option linter.all false
set_option maxRecDepth 100000
set_option maxHeartbeats 4000000
/-! PL: bundles of promises, calls, heaps. -/
namespace PL
open PySem L2
abbrev CXX := L2.CX
/-- a def by its name, a method of C, a class by its __init__: their promises -/
structure Cal (P : Program) (w : World) (K : PySem.W.Frag) (mg : Str → Option Value) (base : Heap) (k : Nat) (x : Str) (sp : Sp) : Prop where
  ex : ∃ (f : Addr) (fd : FuncData) (ps : List Str), FnOk P w K mg base (L2.CX P w) k f fd ps sp ∧ mg x = some (.ref f) ∧ PySem.W.keepIn K (.ref f) = true ∧ Binds K fd ps []
structure Met (P : Program) (w : World) (K : PySem.W.Frag) (mg : Str → Option Value) (base : Heap) (k : Nat) (C : Addr) (m : Str) (sp : Sp) : Prop where
  ex : ∃ (f : Addr) (fd : FuncData) (ps : List Str), Cls K C ∧ Meth K C m f ∧ FnOk P w K mg base (L2.CX P w) k f fd ps sp ∧ Binds K fd ps []
structure Mak (P : Program) (w : World) (K : PySem.W.Frag) (mg : Str → Option Value) (base : Heap) (k : Nat) (x : Str) (C : Addr) (sp : Sp) : Prop where
  ex : ∃ (f : Addr) (fd : FuncData) (ps : List Str), Mk K C f ∧ FnOk P w K mg base (L2.CX P w) k f fd ps sp ∧ mg x = some (.ref C) ∧ Binds K fd ps []
/-- what the text says of a def -/
structure DefF (K : PySem.W.Frag) (mg : Str → Option Value) (x : Str) (st : Stmt) (ps : List Str) : Prop where
  ex : ∃ (f : Addr) (fd : FuncData), Fun K x x st f fd ∧ Binds K fd ps [] ∧ mg x = some (.ref f)
structure MetF (K : PySem.W.Frag) (C : Addr) (m qual : Str) (st : Stmt) (ps : List Str) : Prop where
  ex : ∃ (f : Addr) (fd : FuncData), Fun K m qual st f fd ∧ Binds K fd ps [] ∧ Meth K C m f
structure IniF (K : PySem.W.Frag) (C : Addr) (qual : Str) (st : Stmt) (ps : List Str) : Prop where
  ex : ∃ (f : Addr) (fd : FuncData), Fun K "__init__" qual st f fd ∧ Binds K fd ps [] ∧ Mk K C f
section
variable {P : Program} {w : World} {K : PySem.W.Frag} {mg : Str → Option Value} {base : Heap} {N ps : List Str} {k : Nat} {sp : Sp} {x qual m : Str} {st : Stmt} {C : Addr}
/-- the body's reading: what is asked of a def -/
def Body (P : Program) (w : World) (K : PySem.W.Frag) (mg : Str → Option Value) (base : Heap) (N : List Str) (qual : Str) (st : Stmt) (k : Nat) (sp : Sp) : Prop :=
  ∀ (f : Addr) (cdv : Value) (A : Around) (outer : List Env) (s : Shared) (H : Hp) (vs : List V) (Q : VK) (E : XK), Room k (A.deeper (PyProof.Rows.envOfC qual (defScope st) s.heap.objs.size f cdv)) → sp vs H Q E →
      ∃ t, PSs (cxOf (L2.CX P w) P w K mg base N qual (defScope st) f cdv A outer s H E) (defBody st) t ∧ t { nx := fun _ H' => Q .non H', rt := Q } (start N vs) H
theorem DefF.cal (F : DefF K mg x st ps) (S : FnScope N ps (defScope st)) (len : ∀ vs H Q E, sp vs H Q E → vs.length = ps.length) (hbody : Body P w K mg base N x st k sp) : Cal P w K mg base (k + 1) x sp := by
  obtain ⟨f, fd, F, b, g⟩ := F.ex
  exact ⟨f, fd, ps, F.okX S len (fun cdv A outer s H vs Q E hr h => hbody f cdv A outer s H vs Q E hr h), g, F.kp, b⟩
theorem MetF.met (F : MetF K C m qual st ps) (c : Cls K C) (S : FnScope N ps (defScope st)) (len : ∀ vs H Q E, sp vs H Q E → vs.length = ps.length) (hbody : Body P w K mg base N qual st k sp) : Met P w K mg base (k + 1) C m sp := by
  obtain ⟨f, fd, F, b, g⟩ := F.ex
  exact ⟨f, fd, ps, c, g, F.okX S len (fun cdv A outer s H vs Q E hr h => hbody f cdv A outer s H vs Q E hr h), b⟩
theorem IniF.mak (F : IniF K C qual st ps) (g : mg x = some (.ref C)) (S : FnScope N ps (defScope st)) (len : ∀ vs H Q E, sp vs H Q E → vs.length = ps.length) (hbody : Body P w K mg base N qual st k sp) : Mak P w K mg base (k + 1) x C sp := by
  obtain ⟨f, fd, F, b, M⟩ := F.ex
  exact ⟨f, fd, ps, M, F.okX S len (fun cdv A outer s H vs Q E hr h => hbody f cdv A outer s H vs Q E hr h), g, b⟩
end
section
variable {X : Cx} {k j : Nat} {C : Addr} {x m : Str} {sp : Sp} {p pos apos : Pos} {e o : Expr} {es : List Expr} {ta : TE} {t : TA} {W : WX}
theorem pass00 (σ : St) : PassesAt (L2.CX X.prog X.w) X σ E0 := fun _ _ _ _ _ _ h => by
  obtain ⟨_, _, _, _, _, _, _, _, _, _, _, _, z⟩ := h
  exact z.elim
theorem pe_c (c : Cal X.prog X.w X.K X.mg X.base k x sp) (hr : Room j X.A) (hk : k ≤ j) (hg : Gl X x) (ha : PA X (e :: es) t)
    (hdb : (x == ("__debug__" : Str)) = false := by decide) (he : starEach (e :: es) X.env = (false, eval e X.env) :: starEach es X.env := by rfl) (hpl : (backTo pos (starEach es X.env)).any (·.1) = false := by rfl) :
    PE X (.Call (.Name x p) (e :: es) [] pos) (tCallS sp (fun _ => E0) t) := by
  obtain ⟨f, fd, ps, F, hm, kp, b⟩ := c.ex
  exact pe_callS F (hr.mono hk) hg hm kp b pass00 ha hdb he hpl
theorem pe_cX (c : Cal X.prog X.w X.K X.mg X.base k x sp) (hr : Room j X.A) (hk : k ≤ j) (hg : Gl X x) (tk : Takes X W) (ha : PA X (e :: es) t)
    (hdb : (x == ("__debug__" : Str)) = false := by decide) (he : starEach (e :: es) X.env = (false, eval e X.env) :: starEach es X.env := by rfl) (hpl : (backTo pos (starEach es X.env)).any (·.1) = false := by rfl) :
    PE X (.Call (.Name x p) (e :: es) [] pos) (tCallS sp (WE W) t) := by
  obtain ⟨f, fd, ps, F, hm, kp, b⟩ := c.ex
  exact pe_callS F (hr.mono hk) hg hm kp b (fun σ => passAt tk σ) ha hdb he hpl
/-- a method call, by E at the slots -/
def tMt (C : Addr) (m : Str) (sp : Sp) (E : St → XK) (ta : TE) (t : TA) : TE := fun σ H Q => ta σ H fun x H1 => ∃ a dx fs, x = .ref a ∧ H1 a = some (.ins C dx fs) ∧ fs.lookup m = none ∧ t σ H1 fun vs H2 => sp (.ref a :: vs) H2 Q (E σ)
theorem pe_mtG {pl : Sem Bool} {E : St → XK} (c : Met X.prog X.w X.K X.mg X.base k C m sp) (hr : Room j X.A) (hk : k ≤ j) (hx : ∀ σ, PassesAt (L2.CX X.prog X.w) X σ (E σ)) (he : PE X o ta) (ha : PA X (e :: es) t)
    (hst : starEach (e :: es) X.env = (false, eval e X.env) :: starEach es X.env := by rfl) (hpl : (backTo pos (starEach es X.env)).any (·.1) = false := by rfl)
    (ht : eval (.Call (.Attribute o m apos) (e :: es) [] pos) X.env = (do
      let ov ← eval o X.env
      standAt apos.atName
      let (f, first) ← holding [ov] (getMethod ov m pl)
      callWith pos f first (backTo pos (starEach (e :: es) X.env)) (backToKw pos (keywordEach [] X.env))) := by rfl) :
    PE X (.Call (.Attribute o m apos) (e :: es) [] pos) (tMt C m sp E ta t) := by
  obtain ⟨f, fd, ps, cl, hm, F, b⟩ := c.ex
  refine ⟨fun pins s σ H Q I h => ?_⟩
  refine PySem.W.methodCall_KW (pl := pl) (thn (he.run pins s σ H _ I h) fun u s1 ⟨x, H1, I1, rx, a, dx, fs, ex, ea, l, q⟩ => ?_) ht
  subst ex
  obtain rfl : u = Value.ref a := rx
  refine getmeth_ok I1 ea cl hm l ?_
  refine PySem.W.callWith_K (first := [.ref a]) (h₀ := X.base) I.ok.mod.kin hm.kp (thn (ha.run pos pins s1 σ H1 _ I1 q) fun us s2 ⟨vs, H2, I2, r, q2⟩ => ⟨I2.kIn, ?_⟩) hst hpl
  exact run_fnS (us := .ref a :: us) (vs := .ref a :: vs) F (hr.mono hk) b (hx σ) I2 (.cons rfl r) q2
theorem pe_mtG0 {pl : Sem Bool} {E : St → XK} (c : Met X.prog X.w X.K X.mg X.base k C m sp) (hr : Room j X.A) (hk : k ≤ j) (hx : ∀ σ, PassesAt (L2.CX X.prog X.w) X σ (E σ)) (he : PE X o ta)
    (ht : eval (.Call (.Attribute o m apos) [] [] pos) X.env = (do
      let ov ← eval o X.env
      standAt apos.atName
      let (f, first) ← holding [ov] (getMethod ov m pl)
      callWith pos f first (backTo pos (starEach [] X.env)) (backToKw pos (keywordEach [] X.env))) := by rfl) :
    PE X (.Call (.Attribute o m apos) [] [] pos) (tMt C m sp E ta tNil) := by
  obtain ⟨f, fd, ps, cl, hm, F, b⟩ := c.ex
  refine ⟨fun pins s σ H Q I h => ?_⟩
  refine PySem.W.methodCall_KW (pl := pl) (thn (he.run pins s σ H _ I h) fun u s1 ⟨x, H1, I1, rx, a, dx, fs, ex, ea, l, q⟩ => ?_) ht
  subst ex
  obtain rfl : u = Value.ref a := rx
  refine getmeth_ok I1 ea cl hm l ?_
  exact PySem.W.callWith_K0 (first := [.ref a]) I1.kIn hm.kp (run_fnS (us := [.ref a]) (vs := [.ref a]) F (hr.mono hk) b (hx σ) I1 (.cons rfl .nil) q)
/-- a class made -/
def tMkG (C : Addr) (sp : Sp) (E : St → XK) (t : TA) : TE := fun σ H Q => t σ H fun vs H1 => ∀ x dx, H1 x = none → H1 dx = none → dx ≠ x → sp (.ref x :: vs) (upd (upd H1 dx (.own x)) x (.ins C dx [])) (fun v H2 => v = .non ∧ Q (.ref x) H2) (E σ)
theorem run_makeS {f : Addr} {fd : FuncData} {ps : List Str} {E : St → XK} {pins : List (Addr × Obj)} {σ : St} {H : Hp} {s : Shared} {Q : VK} {us : List Value} {vs : List V} (M : Mk X.K C f) (F : FnOk X.prog X.w X.K X.mg X.base (L2.CX X.prog X.w) k f fd ps sp) (hr : Room (k + 1) X.A) (hb : Binds X.K fd ps [])
    (hx : PassesAt (L2.CX X.prog X.w) X σ (E σ)) (I : Inv X pins σ H s) (r : Vals vs us)
    (h : ∀ x dx, H x = none → H dx = none → dx ≠ x → sp (.ref x :: vs) (upd (upd H dx (.own x)) x (.ins C dx [])) (fun v H2 => v = .non ∧ Q (.ref x) H2) (E σ)) :
    wpAny (model X.prog X.w) X.A (call (.ref C) us) (EP X pins σ Q) X.xe s := by
  have hq := h (s.heap.objs.size + 1) s.heap.objs.size (I.hok.fresh (Nat.le_succ _)) (I.hok.fresh (Nat.le_refl _)) (Nat.ne_of_lt (Nat.lt_succ_self _))
  have I2 := Inv.made (C := C) I
  have r2 : Vals (V.ref (s.heap.objs.size + 1) :: vs) (Value.ref (s.heap.objs.size + 1) :: us) := .cons rfl r
  have hl : (Value.ref (s.heap.objs.size + 1) :: us).length = ps.length := by
    have e := r2.length
    rw [F.len _ _ _ _ hq] at e
    exact e.symm
  have b := hb _ (Value.ref (s.heap.objs.size + 1) :: us) I2.kIn (by rw [List.append_nil]; exact hl)
  rw [List.append_nil] at b
  refine wpAny_call (make_map (f := f) I.kIn M.makes M.init (beq_iff_eq.mp M.fn) (codeAny_mono (F.run _ X.stack _ _ ⟨Value.ref (s.heap.objs.size + 1) :: us, []⟩ (Value.ref (s.heap.objs.size + 1) :: us) _ _ (E σ) (hr.make C us [])
    (I2.env0.make C us []) b r2 hq) fun r s' hq' => ?_))
  cases r with
  | error e => exact hx pins _ _ e s' I2 hq'
  | ok fl =>
    cases fl with
    | ret u =>
      obtain ⟨v, H', I3, rv, ev, q3⟩ := I2.after hq'
      subst ev
      exact ⟨rv, ⟨V.ref (s.heap.objs.size + 1), H', I3, rfl, q3⟩⟩
    | next => exact False.elim hq'
    | brk => exact False.elim hq'
    | cont => exact False.elim hq'
theorem pe_mkG {E : St → XK} (c : Mak X.prog X.w X.K X.mg X.base k x C sp) (hr : Room j X.A) (hk : k + 1 ≤ j) (hg : Gl X x) (hx : ∀ σ, PassesAt (L2.CX X.prog X.w) X σ (E σ)) (ha : PA X (e :: es) t)
    (hdb : (x == ("__debug__" : Str)) = false := by decide) (he : starEach (e :: es) X.env = (false, eval e X.env) :: starEach es X.env := by rfl) (hpl : (backTo pos (starEach es X.env)).any (·.1) = false := by rfl) :
    PE X (.Call (.Name x p) (e :: es) [] pos) (tMkG C sp E t) := by
  obtain ⟨f, fd, ps, M, F, hm, b⟩ := c.ex
  refine ⟨fun pins s σ H Q I h => ?_⟩
  refine wpAny_Call_Name_kw (ld_glob I hg hm ?_ hdb)
  refine PySem.W.callWith_K (h₀ := X.base) I.ok.mod.kin M.kp (thn (ha.run pos pins s σ H _ I h) fun us s1 ⟨vs, H1, I1, r, q⟩ => ⟨I1.kIn, ?_⟩) he hpl
  exact run_makeS M F (hr.mono hk) b (hx σ) I1 r q
theorem pe_mkG0 {E : St → XK} (c : Mak X.prog X.w X.K X.mg X.base k x C sp) (hr : Room j X.A) (hk : k + 1 ≤ j) (hg : Gl X x) (hx : ∀ σ, PassesAt (L2.CX X.prog X.w) X σ (E σ))
    (hdb : (x == ("__debug__" : Str)) = false := by decide) : PE X (.Call (.Name x p) [] [] pos) (tMkG C sp E tNil) := by
  obtain ⟨f, fd, ps, M, F, hm, b⟩ := c.ex
  refine ⟨fun pins s σ H Q I h => ?_⟩
  refine wpAny_Call_Name_kw (ld_glob I hg hm ?_ hdb)
  exact PySem.W.callWith_K0 I.kIn M.kp (run_makeS (us := []) M F (hr.mono hk) b (hx σ) I .nil h)
theorem pe_gc {v : V} (hg : Gl X x) (h : ∃ u, X.mg x = some u ∧ RelV v u) (hd : (x == ("__debug__" : Str)) = false := by decide) : PE X (.Name x pos) (tC v) := by
  obtain ⟨u, hm, r⟩ := h
  exact pe_glob hg hm r hd
/-- either of two readings -/
theorem PE.orr {e : Expr} {t u : TE} (h : PE X e t) (h' : PE X e u) : PE X e (fun σ H Q => t σ H Q ∨ u σ H Q) :=
  ⟨fun pins s σ H Q I q => q.elim (h.run pins s σ H Q I) (h'.run pins s σ H Q I)⟩
end
section
variable {X : Cx} {a : Addr} {oe : Obj} {pn : List (Addr × Obj)} {cls : Value} {d : Option Addr}
/-- isinstance(e, c), e the exception that the suite holds, whatever its class -/
def rIsX (K : PySem.W.Frag) (cls : Value) (d : Option Addr) (a : Addr) : List V → Hp → VK → Prop := fun xs H Q => ∃ (D : Addr) (c : V) (cv : Value) (b : Bool), cls = .ref D ∧ d = none ∧ ExcC K D ∧ xs = [.ref a, c] ∧ (∀ u, RelV c u → u = cv) ∧ PySem.W.kitOne K (.ref D) cv = some b ∧ Q (.bl b) H
theorem call_isX (hz : Zc cls d oe) (hf : ∃ vs, oe.data = .fields vs) : CallR (X.suite a ((a, oe) :: pn)) (.builtin "isinstance") (rIsX X.K cls d a) := by
  intro pins s σ H xs us Q I r h
  obtain ⟨D, c, cv, b, rfl, rfl, C, rfl, hcv, e, q⟩ := h
  exact call_isE C hz hf pins s σ H _ us Q I r ⟨c, cv, b, rfl, hcv, e, q⟩
/-- isinstance(e, (c1, c2, ..)) -/
def rIsXT (K : PySem.W.Frag) (cls : Value) (d : Option Addr) (a : Addr) : List V → Hp → VK → Prop := fun xs H Q => ∃ (D tp : Addr) (cs : List V) (us : List Value) (b : Bool), cls = .ref D ∧ d = none ∧ ExcC K D ∧ xs = [.ref a, .ref tp] ∧ H tp = some (.tup cs) ∧ Paired ClsV cs us ∧ PySem.W.kitAny K (.ref D) us = some b ∧ Q (.bl b) H
theorem call_isXT (hz : Zc cls d oe) (hf : ∃ vs, oe.data = .fields vs) : CallR (X.suite a ((a, oe) :: pn)) (.builtin "isinstance") (rIsXT X.K cls d a) := by
  intro pins s σ H xs us Q I r h
  obtain ⟨D, tp, cs, ws, b, rfl, rfl, C, rfl, hT, k, e, q⟩ := h
  obtain ⟨u1, u2, rfl, r1, r2⟩ := vals2 r
  cases (show u1 = Value.ref a from r1)
  cases (show u2 = Value.ref tp from r2)
  obtain ⟨hget, _⟩ := I.pin (a, oe) (List.mem_append.mpr (.inl List.mem_cons_self))
  obtain ⟨vs, hv⟩ := hf
  have J : PySem.W.InstAt s.heap a oe D none := by
    obtain ⟨oc, od, oda, osl⟩ := oe
    obtain ⟨h1, h2⟩ := hz
    dsimp only at h1 h2 hv
    subst h1 h2 hv
    exact ⟨hget, rfl, rfl, trivial⟩
  obtain ⟨_, its, rv, o, h1, h2, n, h3⟩ := (show ObjOk _ _ H s.heap tp (.tup cs) from I.hok tp _ hT)
  have e3 := ClsV.all k rv
  subst e3
  obtain ⟨oc, od, dt, sl⟩ := o
  simp only at h2 h3
  subst h2 h3
  exact PySem.W.kia_tup (PySem.W.handS_kitx_exc C.hg C.hk C.hs C.hd C.ha C.hn C.ht C.hm) I.kIn J h1 e (fun z => nomatch z) fun tk => ⟨.bl b, H, I.kept (t' := tk) fun _ _ z => z, rfl, q⟩
end
/-- a place where ways meet: P holds there, and the rest follows from P -/
theorem seq_cut {A rest : TS} {D : Ends} {σ : St} {H : Hp} (P : St → Hp → Prop) (h2 : ∀ σ' H', P σ' H' → rest D σ' H') (h1 : (∀ σ' H', P σ' H' → rest D σ' H') → A { D with nx := rest D } σ H) : tSeq A rest D σ H := h1 h2
theorem s_name {i : Nat} {v : V} {σ : St} {H : Hp} {R : St → Hp → Prop} (h : R (σ.set i (some v)) H) : gName i v σ H R := h
theorem s_setc {i : Nat} {v : V} {u : TS} {D : Ends} {σ : St} {H : Hp} (h : u D (σ.set i (some v)) H) : tSeq (tAsg (tC v) (gName i)) u D σ H := h
/-! ### heaps -/
theorem same_upd {H : Hp} {p : Addr} {o : HO} (n : H p = none) : Same H (upd H p o) := fun b u e => by rw [upd_ne (ne_of_none e n)]; exact e
theorem up_new {H : Hp} {p a : Addr} {o u : HO} (n : H p = none) (h : H a = some u) : upd H p o a = some u := same_upd n a u h
theorem up_ne {H : Hp} {p a : Addr} {o u : HO} (n : a ≠ p) (h : H a = some u) : upd H p o a = some u := by rw [upd_ne n]; exact h
/-- all but the objects at F are as they were -/
def Frm (F : List Addr) (H H' : Hp) : Prop := ∀ b o, H b = some o → b ∉ F → H' b = some o
theorem Frm.refl (F : List Addr) (H : Hp) : Frm F H H := fun _ _ e _ => e
theorem Frm.of_same {F : List Addr} {H H' : Hp} (s : Same H H') : Frm F H H' := fun b o e _ => s b o e
theorem Frm.same {H H' : Hp} (s : Frm [] H H') : Same H H' := fun b o e => s b o e (by simp)
theorem Frm.trans {F : List Addr} {H H1 H2 : Hp} (a : Frm F H H1) (b : Frm F H1 H2) : Frm F H H2 := fun c o e n => b c o (a c o e n) n
/-- the second step may also change what the first one made -/
theorem Frm.trans' {F G : List Addr} {H H1 H2 : Hp} (a : Frm F H H1) (b : Frm G H1 H2) (g : ∀ x, x ∈ G → x ∈ F ∨ H x = none) : Frm F H H2 := fun c o e n => b c o (a c o e n) fun z => (g c z).elim n fun q => by rw [q] at e; cases e
theorem Frm.upd {F : List Addr} {H H' : Hp} {p : Addr} {o : HO} (a : Frm F H H') (hp : p ∈ F ∨ H p = none) : Frm F H (upd H' p o) := fun c u e n => by
  have : c ≠ p := fun z => by subst z; exact hp.elim n fun q => by rw [q] at e; cases e
  rw [upd_ne this]; exact a c u e n
theorem Frm.at {F : List Addr} {H H' : Hp} {a : Addr} {o : HO} (f : Frm F H H') (n : a ∉ F) (h : H a = some o) : H' a = some o := f a o h n
theorem Frm.mono {F G : List Addr} {H H' : Hp} (f : Frm F H H') (g : ∀ x, x ∈ F → x ∈ G) : Frm G H H' := fun b o e n => f b o e fun z => n (g b z)
theorem Frm.free {F : List Addr} {H H' : Hp} (f : Frm F H H') {l : Addr} (h : H' l = none) (n : l ∉ F) : H l = none := by
  cases q : H l with
  | none => rfl
  | some o => rw [f l o q n] at h; cases h
/-- what never changes: tuples, and what is locked -/
def immO : HO → Bool
  | .tup _ => true
  | .frz _ _ => true
  | _ => false
def Imm (H H' : Hp) : Prop := ∀ b o, H b = some o → immO o = true → H' b = some o
theorem Imm.refl (H : Hp) : Imm H H := fun _ _ e _ => e
theorem Imm.trans {H H1 H2 : Hp} (a : Imm H H1) (b : Imm H1 H2) : Imm H H2 := fun c o e i => b c o (a c o e i) i
theorem Imm.of_same {H H' : Hp} (s : Same H H') : Imm H H' := fun b o e _ => s b o e
theorem Frm.imm {F : List Addr} {H H' : Hp} (f : Frm F H H') (n : ∀ p ∈ F, ∀ o, H p = some o → immO o = false) : Imm H H' := fun b o e i => f b o e fun z => by rw [n b z o e] at i; cases i
theorem Imm.upd {H H' : Hp} {p : Addr} {o u : HO} (a : Imm H H') (e : H' p = some u) (h : immO u = false) : Imm H (upd H' p o) := fun c w z i => by
  have : c ≠ p := fun q => by
    subst q
    rw [a c w z i] at e
    cases e
    rw [h] at i
    cases i
  rw [upd_ne this]; exact a c w z i
theorem Imm.sqT {K : PySem.W.Frag} {H H' : Hp} {a : Addr} {xs : List V} (m : Imm H H') (h : SqT K H a xs) : SqT K H' a xs := by
  rcases h with (h | ⟨o, h⟩) | h
  · exact .inl (.inl (m _ _ h rfl))
  · exact .inl (.inr ⟨o, m _ _ h rfl⟩)
  · exact .inr h
mutual
/-- data without lists and dicts -/
def tupD : PyData → Bool
  | .tuple xs => tupDs xs
  | .list _ => false
  | .dict _ => false
  | _ => true
def tupDs : List PyData → Bool
  | [] => true
  | x :: xs => tupD x && tupDs xs
end
mutual
theorem Dp.imm {K : PySem.W.Frag} {H H' : Hp} (m : Imm H H') : ∀ (d : PyData) (v : V), tupD d = true → Dp K H v d → Dp K H' v d
  | .none, _, _, h => by cases h; exact .non
  | .bool b, _, _, h => by cases h; exact .bl b
  | .int i, _, _, h => by cases h; exact .int i
  | .str x, _, _, h => by cases h; exact .str x
  | .list _, _, t, _ => by simp [tupD] at t
  | .dict _, _, t, _ => by simp [tupD] at t
  | .tuple ds, _, t, h => by
    cases h with
    | tup hs ha => exact .tup (m.sqT hs) (DpAll.imm m ds _ (by simpa [tupD] using t) ha)
theorem DpAll.imm {K : PySem.W.Frag} {H H' : Hp} (m : Imm H H') : ∀ (ds : List PyData) (vs : List V), tupDs ds = true → DpAll K H vs ds → DpAll K H' vs ds
  | [], _, _, h => by cases h; exact .nil
  | d :: ds, _, t, h => by
    have t' : tupD d = true ∧ tupDs ds = true := by simpa [tupDs] using t
    cases h with
    | cons a b => exact .cons (Dp.imm m d _ t'.1 a) (DpAll.imm m ds _ t'.2 b)
end
theorem nodup_len {α : Type} [DecidableEq α] : ∀ {a b : List α}, a.Nodup → (∀ x ∈ a, x ∈ b) → a.length ≤ b.length
  | [], _, _, _ => Nat.zero_le _
  | x :: a, b, nd, h => by
    obtain ⟨n1, n2⟩ := List.nodup_cons.mp nd
    have hx : x ∈ b := h x (by simp)
    have h2 := nodup_len (a := a) (b := b.erase x) n2 fun y hy => (List.mem_erase_of_ne fun z => n1 (by rw [← z]; exact hy)).mpr (h y (by simp [hy]))
    rw [List.length_erase_of_mem hx] at h2
    have := List.length_pos_of_mem hx
    rw [List.length_cons]
    omega
theorem map_set {α β : Type} (f : α → β) (l : List α) (j : Nat) (a : α) : (l.map f).set j (f a) = (l.set j a).map f := by rw [List.map_set]
theorem ixN_nat {n j : Nat} (h : j < n) : ixN n (j : Int) = some j := by unfold ixN; rw [if_pos (by omega), if_pos (by omega)]; simp
theorem isint {ns : List Int} {i : Nat} {y : V} (h : (ns.map V.int)[i]? = some y) : ∃ z, y = V.int z ∧ ns[i]? = some z := by
  rw [List.getElem?_map] at h
  cases e : ns[i]? with
  | none => rw [e] at h; cases h
  | some z => rw [e] at h; exact ⟨z, (Option.some.inj h).symm, rfl⟩
end PL
namespace PL
open PySem L2
theorem units65 {k : Nat} {A : Around} (r : Room k A) : A.units + 65 < cLine := by have := r.un; omega
section
variable {X : Cx} {K : PySem.W.Frag}
/-- in a comprehension's block the written part is said by its name -/
theorem kx_ix {F : PySem.W.Frag → R2} (h : X.K = K) (r : IxR X (F X.K)) : IxR X (F K) := h ▸ r
theorem kx_call {f : Value} {F : PySem.W.Frag → List V → Hp → VK → Prop} (h : X.K = K) (r : CallR X f (F X.K)) : CallR X f (F K) := h ▸ r
theorem kx_op {f : Value → Value → Sem Value} {F : PySem.W.Frag → R2} (h : X.K = K) (r : OpR X f (F X.K)) : OpR X f (F K) := h ▸ r
theorem kx_sl {F : PySem.W.Frag → V → Option Int → Option Int → Hp → VK → Prop} (h : X.K = K) (r : SlR X (F X.K)) : SlR X (F K) := h ▸ r
theorem kx_fld {e : Expr} {f : Str} {pos : Pos} {ta : TE} (h : X.K = K) (he : PE X e ta) (hb : attributeBase e f X.env (eval e X.env) = eval e X.env) : PE X (.Attribute e f pos) (tFld K ta f) := h ▸ pe_fld he hb
end
theorem sqT_ty {K : PySem.W.Frag} {H : Hp} {a : Addr} {xs : List V} (h : SqT K H a xs) : TyX K H (.ref a) (.type "tuple") := by
  rcases h with (h | ⟨o, h⟩) | ⟨o, its, n, h1, h2, _⟩
  · exact .base (.tup h)
  · exact .fTuple h
  · exact .kTuple h1 h2
/-- what stood at the beginning stands, where only new things are changed -/
theorem Same.frm {F : List Addr} {H0 H H' : Hp} (s : Same H0 H) (f : Frm F H H') (n : ∀ x ∈ F, H0 x = none) : Same H0 H' := fun b o e => f b o (s b o e) fun z => by rw [n b z] at e; cases e
/-- isinstance, except: from what the classes' rows say -/
theorem kit_sub {K : PySem.W.Frag} {A B : Addr} {b : Bool} (h1 : PySem.W.isClsIn K B = true) (h2 : PySem.W.typeIn K (.ref B) = some (.type "type")) (h3 : PySem.W.subIn K (.ref A) (.ref B) = some b) (hn : (Value.ref A == Value.ref B) = false) : PySem.W.kitOne K (.ref A) (.ref B) = some b := by
  unfold PySem.W.kitOne PySem.W.kitCls
  rw [hn]
  simp only [Bool.false_eq_true, if_false]
  have h1' : (PySem.W.clsIn K B).isSome = true := h1
  rw [h1', h2]
  simp only [beq_self_eq_true, Bool.and_self, if_true]
  exact h3
theorem kit_self {K : PySem.W.Frag} {A : Addr} (h : (Value.ref A == Value.ref A) = true) : PySem.W.kitOne K (.ref A) (.ref A) = some true := by
  unfold PySem.W.kitOne
  rw [if_pos h]
theorem kit_type {K : PySem.W.Frag} {A : Addr} {T : String} {b : Bool} (h1 : PySem.W.kitMeta T = true) (h3 : PySem.W.subIn K (.ref A) (.type T) = some b) (hn : (Value.ref A == Value.type T) = false) : PySem.W.kitOne K (.ref A) (.type T) = some b := by
  unfold PySem.W.kitOne PySem.W.kitCls
  rw [hn]
  simp only [Bool.false_eq_true, if_false]
  rw [if_pos h1]
  exact h3
theorem exm_sub {K : PySem.W.Frag} {A B : Addr} {b : Bool} (h0 : PySem.W.subIn K (.ref B) (.type "BaseException") = some true) (h1 : PySem.W.isClsIn K B = true) (h2 : PySem.W.typeIn K (.ref B) = some (.type "type")) (h3 : PySem.W.subIn K (.ref A) (.ref B) = some b) : PySem.W.exmOne K (.ref A) (.ref B) = some b := by
  unfold PySem.W.exmOne PySem.W.kitCls
  have h1' : (PySem.W.clsIn K B).isSome = true := h1
  rw [h0, if_pos (by simp)]
  simp only [h1', h2, beq_self_eq_true, Bool.and_self, if_true]
  exact h3
/-- a comprehension over a text, sign by sign -/
theorem lc_str {x : Str} {g : TG} {tt : TT} {te : TE} {vs : List Nat} {σ : St} {H1 : Hp} {D : Addr} {Qd : Hp → Prop} (Pv : Nat → Hp → Prop) (h0 : Pv 0 (upd H1 D (.lst [])))
    (hs : ∀ i c H, x.cps[i]? = some c → Pv i H → g (.str ⟨#[c]⟩) (wipe σ vs) H fun σ2 H2 => wipe σ2 vs = wipe σ vs ∧ tt σ2 H2 fun b H3 =>
      if b = true then te σ2 H3 fun y H4 => ∃ acc, H4 D = some (.lst acc) ∧ acc.length < sizeLine ∧ Pv (i + 1) (upd H4 D (.lst (acc ++ [y]))) else Pv (i + 1) H3) (hd : ∀ H, Pv x.cps.size H → Qd H) :
    ∃ W : Nat → Nat → Hp → Prop, (∃ m, W 0 m (upd H1 D (.lst []))) ∧ ∀ i m H, W i m H →
      ((Its x).stop i H ∧ Qd H) ∨ ((Its x).go i H ∧ ∃ Nx : Hp → Prop, (∀ H', Nx H' → ∃ m', m' < m ∧ W (i + 1) m' H') ∧ ∀ y H', (Its x).yld i H y H' → g y (wipe σ vs) H' fun σ2 H2 => wipe σ2 vs = wipe σ vs ∧ tt σ2 H2 fun b H3 =>
        if b = true then te σ2 H3 fun y H4 => ∃ acc, H4 D = some (.lst acc) ∧ acc.length < sizeLine ∧ Nx (upd H4 D (.lst (acc ++ [y]))) else Nx H3) := by
  refine ⟨fun i m H => m = x.cps.size - i ∧ i ≤ x.cps.size ∧ Pv i H, ⟨x.cps.size, by simp, Nat.zero_le _, h0⟩, ?_⟩
  rintro i m H ⟨rfl, hi, p⟩
  by_cases hlt : i < x.cps.size
  · refine .inr ⟨hlt, Pv (i + 1), fun H' p' => ⟨x.cps.size - (i + 1), by omega, rfl, hlt, p'⟩, fun y H' e => ?_⟩
    obtain ⟨e, c, hc, ey⟩ := e
    subst e ey
    exact hs i c _ hc p
  · have e : i = x.cps.size := by omega
    subst e
    exact .inl ⟨Nat.le_refl _, hd H p⟩
/-- a tuple that the top wrote -/
def TupIn (K : PySem.W.Frag) (a : Addr) (xs : List V) : Prop := ∃ (o : Obj) (its : Array Value) (n : Nat), K.lookup a = some o ∧ o.cls = .type "tuple" ∧ o.data = .seq its n ∧ its.size ≤ sizeLine ∧ Vals xs its.toList
theorem TupIn.sq {K : PySem.W.Frag} {a : Addr} {xs : List V} (h : TupIn K a xs) (H : Hp) : SqT K H a xs := .inr h
theorem tupIn2 {K : PySem.W.Frag} {a : Addr} {x y : Str} {t u : Tok} {od : Option Addr} {n : Nat} {sl : Array (Option Value)} (h : K.lookup a = some ⟨.type "tuple", od, .seq #[.str x t, .str y u] n, sl⟩) : TupIn K a [.str x, .str y] :=
  ⟨_, _, _, h, rfl, rfl, by show 2 ≤ sizeLine; decide, .cons ⟨t, rfl⟩ (.cons ⟨u, rfl⟩ .nil)⟩
/-- the type of data -/
def tyD : PyData → String
  | .none => "NoneType"
  | .bool _ => "bool"
  | .int _ => "int"
  | .str _ => "str"
  | .list _ => "list"
  | .tuple _ => "tuple"
  | .dict _ => "dict"
theorem sqL_ty {K : PySem.W.Frag} {H : Hp} {a : Addr} {xs : List V} (h : SqL K H a xs) : TyX K H (.ref a) (.type "list") := by
  rcases h with (h | ⟨o, h⟩) | ⟨o, its, n, h1, h2, _⟩
  · exact .base (.lst h)
  · exact .base (.frz h)
  · exact .kList h1 h2
theorem dp_ty {K : PySem.W.Frag} {H : Hp} {v : V} {d : PyData} (h : Dp K H v d) : TyX K H v (.type (tyD d)) := by
  cases h with
  | non => exact .base .non
  | bl b => exact .base (.bl b)
  | int i => exact .base (.int i)
  | str x => exact .base (.str x)
  | lst hs _ => exact sqL_ty hs
  | tup hs _ => exact sqT_ty hs
/-- isinstance of data, by the type's name -/
def isD (T : String) (d : PyData) : Bool := match kitB (tyD d) T with
  | some b => b
  | none => false
theorem isD_kit {K : PySem.W.Frag} {T : String} {d : PyData} (h : ∀ t ∈ ["NoneType", "bool", "int", "str", "list", "tuple", "dict"], (kitB t T).isSome = true) : PySem.W.kitOne K (.type (tyD d)) (.type T) = some (isD T d) := by
  have hm : (kitB (tyD d) T).isSome = true := h _ (by cases d <;> simp [tyD])
  refine kit_ty ?_
  unfold isD
  cases e : kitB (tyD d) T with
  | none => rw [e] at hm; cases hm
  | some b => rfl
theorem all7 {T : String} (h : (["NoneType", "bool", "int", "str", "list", "tuple", "dict"].all fun t => (kitB t T).isSome) = true) : ∀ t ∈ ["NoneType", "bool", "int", "str", "list", "tuple", "dict"], (kitB t T).isSome = true := List.all_eq_true.mp h
theorem kitBs : (["int", "bool", "str", "tuple", "list"].all fun T => ["NoneType", "bool", "int", "str", "list", "tuple", "dict"].all fun t => (kitB t T).isSome) = true := by decide +kernel
/-- for k in a locked dict -/
theorem for_keys {d : Addr} {o : Obj} {kvs : List (Key × V)} {g : TG} {tb : TS} {D : Ends} {σ : St} {H : Hp} (Pv : Nat → St → Hp → Prop) (h0 : Pv 0 σ H) (hl : ∀ i σ H, i ≤ kvs.length → Pv i σ H → H d = some (.frz o (.dK kvs)))
    (hs : ∀ i k v σ H, kvs[i]? = some (k, v) → Pv i σ H → g (kV k) σ H fun σ2 H2 => tb { D with nx := Pv (i + 1), ct := Pv (i + 1), bk := D.nx } σ2 H2) (hd : ∀ σ H, Pv kvs.length σ H → D.nx σ H) :
    ∃ W : Nat → Nat → St → Hp → Prop, (∃ m, W 0 m σ H) ∧ ∀ i m σ H, W i m σ H →
      ((Itk d o kvs).stop i H ∧ D.nx σ H) ∨ ((Itk d o kvs).go i H ∧ ∃ N : St → Hp → Prop, (∀ σ' H', N σ' H' → ∃ m', m' < m ∧ W (i + 1) m' σ' H') ∧ ∀ x H', (Itk d o kvs).yld i H x H' → g x σ H' fun σ2 H2 => tb { D with nx := N, ct := N, bk := D.nx } σ2 H2) := by
  refine ⟨fun i m σ H => m = kvs.length - i ∧ i ≤ kvs.length ∧ Pv i σ H, ⟨kvs.length, by simp, Nat.zero_le _, h0⟩, ?_⟩
  rintro i m σ H ⟨rfl, hi, p⟩
  have q := hl i σ H hi p
  by_cases hlt : i < kvs.length
  · refine .inr ⟨⟨q, hlt⟩, Pv (i + 1), fun σ' H' p' => ⟨kvs.length - (i + 1), by omega, rfl, hlt, p'⟩, fun x H' y => ?_⟩
    obtain ⟨e, k, v, hk, ex⟩ := y
    subst e ex
    exact hs i k v σ _ hk p
  · have e : i = kvs.length := by omega
    subst e
    exact .inl ⟨⟨q, Nat.le_refl _⟩, hd σ H p⟩
theorem same_sqL {K : PySem.W.Frag} {H H' : Hp} {a : Addr} {xs : List V} (e : Same H H') (h : SqL K H a xs) : SqL K H' a xs := e.seq h
mutual
theorem Dp.samA {K : PySem.W.Frag} {H H' : Hp} (m : Same H H') : ∀ (d : PyData) (v : V), Dp K H v d → Dp K H' v d
  | .none, _, h => by cases h; exact .non
  | .bool b, _, h => by cases h; exact .bl b
  | .int i, _, h => by cases h; exact .int i
  | .str x, _, h => by cases h; exact .str x
  | .dict _, _, h => by cases h
  | .list ds, _, h => by
    cases h with
    | lst hs ha => exact .lst (m.seq hs) (DpAll.samA m ds _ ha)
  | .tuple ds, _, h => by
    cases h with
    | tup hs ha => exact .tup ((Imm.of_same m).sqT hs) (DpAll.samA m ds _ ha)
theorem DpAll.samA {K : PySem.W.Frag} {H H' : Hp} (m : Same H H') : ∀ (ds : List PyData) (vs : List V), DpAll K H vs ds → DpAll K H' vs ds
  | [], _, h => by cases h; exact .nil
  | d :: ds, _, h => by
    cases h with
    | cons a b => exact .cons (Dp.samA m d _ a) (DpAll.samA m ds _ b)
end
end PL

set_option Elab.async false
set_option linter.all false
set_option maxRecDepth 100000
set_option maxHeartbeats 4000000
/-! Ord: the order of nested data, sorted lists of tuples, list.remove of data. -/
namespace PL
open PySem L2
section
variable {X : Cx}
/-- x < y of data -/
def rLtD (K : PySem.W.Frag) : R2 := fun x y H Q => ∃ d e, Dp K H x d ∧ Dp K H y e ∧ PySem.W.alike d e = true ∧ d ≠ .none ∧ d.depth ≤ 60 ∧ Q (.bl (PySem.W.dataLt d e)) H
theorem op_ltD (hu : X.A.units + 64 < cLine) : OpR X (compareOp .Lt) (rLtD X.K) := by
  intro pins s σ H x y v u Q I rx ry h
  obtain ⟨d, e, hd, he, ha, hn, hz, q⟩ := h
  obtain ⟨as, r1⟩ := Dp.reads I d x v hd rx
  obtain ⟨bs, r2⟩ := Dp.reads I e y u he ry
  exact PySem.W.rcLt_alike d e X.A s v u as bs r1 r2 ha hn (by omega) X.prog X.w _ _ ⟨.bl _, H, I, rfl, q⟩
/-- sorted(xs), xs a list; R is whatever the items stand for -/
def rSortD (K : PySem.W.Frag) : List V → Hp → VK → Prop := fun xs H Q => ∃ (p : Addr) (vs : List V) (β : Type) (enc : β → PyData) (bs : List β) (R : V → β → Prop), xs = [.ref p] ∧ (SqL K H p vs) ∧ Paired R vs bs ∧ (∀ y b, R y b → Dp K H y (enc b)) ∧
  PySem.W.AllAlike (bs.map enc) ∧ PySem.W.Sortable (bs.map enc) ∧ (∀ b ∈ bs, (enc b).depth ≤ 60) ∧ ∀ q ys, H q = none → Paired R ys (bs.mergeSort (PySem.W.dataLe false enc)) → Q (.ref q) (upd H q (.lst ys))
theorem each_of {β : Type} {R : V → β → Prop} : ∀ {vs : List V} {us : List Value} {bs : List β}, Vals vs us → Paired R vs bs → PySem.W.EachIs (fun u b => ∃ y, RelV y u ∧ R y b) us bs
  | _, _, _, .nil, .nil => .nil
  | _, _, _, .cons r t, .cons q u => .cons ⟨_, r, q⟩ (each_of t u)
theorem of_each {β : Type} {R : V → β → Prop} : ∀ {us : List Value} {bs : List β}, PySem.W.EachIs (fun u b => ∃ y, RelV y u ∧ R y b) us bs → ∃ ys, Vals ys us ∧ Paired R ys bs
  | _, _, .nil => ⟨[], .nil, .nil⟩
  | _, _, .cons ⟨y, r, q⟩ t => let ⟨ys, a, b⟩ := of_each t; ⟨y :: ys, .cons r a, .cons q b⟩
theorem call_sortD (hu : X.A.units + 64 < cLine) : CallR X (.builtin "sorted") (rSortD X.K) := by
  intro pins s σ H xs us Q I r h
  obtain ⟨p, vs, β, enc, bs, R, rfl, hS, hR, hD, hal, hk, hz, q⟩ := h
  obtain ⟨u, rfl, ru⟩ := vals1 r
  cases (show u = Value.ref p from ru)
  obtain ⟨its, rv, pl, hlen⟩ := I.list hS
  have e1 := each_of rv hR
  have l1 := rv.length
  have l2 := hR.length
  refine PySem.W.sorted_data (enc := enc) pl.isList e1 (e1.mono fun u b ⟨y, a, c⟩ => Dp.reads I _ y u (hD y b c) a) hal hk (by omega) (fun b hb => by have := hz b hb; omega) fun out hl e2 => ?_
  obtain ⟨ys, r3, p3⟩ := of_each e2
  have l3 := r3.length
  refine ⟨.ref (s.heap.objs.size + 1), upd H (s.heap.objs.size + 1) (.lst ys), I.laid (t' := s.toks) (fun b o e => PyProof.Rows.sortedAll_old e) (Nat.le_succ _) ?_, rfl, q _ ys (I.hok.fresh (Nat.le_succ _)) p3⟩
  obtain ⟨n, e⟩ := PyProof.Rows.sortedAll_at s.heap its out.toArray
  exact ⟨by omega, out, n, r3, e⟩
end
end PL
namespace PL
open PySem PySem.MeetsSeq PySem.SeqAt
open PySem.AutoSeq1 (wpAny_loadPart')
theorem remove_loopAt (l : Addr) (items : Array Value) (n : Nat) (x : Value) (e : Value → Bool) (j : Nat) (hj : j < items.size) (hit : e items[j] = true) (k : Nat) (hs1 : items.size ≤ sizeLine) :
    ∀ i : Nat, j - i = k → i ≤ j → (∀ m (hm : m < items.size), i ≤ m → m < j → e items[m] = false) → Meets (Builtin.«list.remove.loop» ⟨[.ref l, x, rawInt i], []⟩)
      (fun A R s => s.heap.get? l = some { cls := .type "list", dict := none, data := .seq items n, slots := #[] } ∧ (∀ y, y ∈ items → EqAt A.in1 s y x (e y)) ∧ R (.ok (.ret .none)) { s with heap := s.heap.update l (Obj.mapSeq fun xs => xs.eraseIdxIfInBounds j) }) := by
  induction k with
  | zero =>
    intro i hk hij hno prog w A R s h
    obtain ⟨hp, g, d, tk, os⟩ := s; obtain ⟨hl, he, h⟩ := h
    have hij' : i = j := by omega
    subst hij'
    wp_walk using wpAny_loadPart' hl
    have hi : items[((i : Nat) : Int).toNat]? = some items[i] := by simp [hj]
    rw [hi]
    refine wpAny_bind (he _ (Array.getElem_mem hj) prog w _ _ ?_)
    rw [hit]
    have hz' : (items.eraseIdxIfInBounds i).size ≤ sizeLine + 1 := Nat.le_trans (size_erased items _) (Nat.le_succ_of_le hs1)
    wp_walk using (wpAny_updateSeq hl rfl (hz := hs1) (_hz' := hz')), wpAny_loadPart' hl
    simpa using h
  | succ k ih =>
    intro i hk hij hno prog w A R s h
    obtain ⟨hp, g, d, tk, os⟩ := s; obtain ⟨hl, he, h⟩ := h
    have hlt : i < items.size := by omega
    wp_walk using wpAny_loadPart' hl
    have hi : items[((i : Nat) : Int).toNat]? = some items[i] := by simp [hlt]
    have hc : ((i : Int) + 1) = ((i + 1 : Nat) : Int) := by push_cast; rfl
    rw [hi]
    refine wpAny_bind (he _ (Array.getElem_mem hlt) prog w _ _ ?_)
    rw [hno i hlt (Nat.le_refl _) (by omega)]
    wp_walk
    rw [hc]
    exact ⟨plainId_quiet plain_remove_loop _, codeAny_builtin entry_remove_loop (by
      rw [Around.under_plainId plain_remove_loop _]
      exact ih (i + 1) (by omega) (by omega) (fun m hm h1 h2 => hno m hm (by omega) h2) prog w A R _ ⟨hl, he, h⟩)⟩
theorem list_removeAt (l : Addr) (items : Array Value) (n : Nat) (x : Value) (e : Value → Bool) (j : Nat) (hj : j < items.size)
    (hit : e items[j] = true) (hno : ∀ m (hm : m < items.size), m < j → e items[m] = false) (hs1 : items.size ≤ sizeLine) :
    Meets (Builtin.«list.remove» ⟨[.ref l, x], []⟩)
      (fun A R s => s.heap.get? l = some { cls := .type "list", dict := none, data := .seq items n, slots := #[] } ∧ (∀ y, y ∈ items → EqAt A.in1 s y x (e y)) ∧ R (.ok (.ret .none)) { s with heap := s.heap.update l (Obj.mapSeq fun xs => xs.eraseIdxIfInBounds j) }) := by
  intro prog w A R s h
  obtain ⟨hp, g, d, tk, os⟩ := s; obtain ⟨hl, he, h⟩ := h
  wp_walk using wpAny_loadPart' hl
  exact ⟨plainId_quiet plain_remove_loop _, codeAny_builtin entry_remove_loop (by
    rw [Around.under_plainId plain_remove_loop _]
    exact remove_loopAt l items n x e j hj hit _ hs1 0 rfl (Nat.zero_le _) (fun m hm _ h2 => hno m hm h2) prog w A R _ ⟨hl, he, h⟩)⟩
end PL
namespace PL
open PySem L2 PySem.Spec PyProof.Rows
section
variable {X : Cx}
/-- l.remove(x) of data that is there -/
def rRemD (K : PySem.W.Frag) : V → List V → Hp → VK → Prop := fun x xs H Q => ∃ (l : Addr) (vs : List V) (y : V) (d : PyData) (ds : List PyData) (j : Nat) (z : PyData), x = V.ref l ∧ xs = [y] ∧ H l = some (.lst vs) ∧ DpAll K H vs ds ∧ Dp K H y d ∧
  SeqAt.shaped (.list ds) = true ∧ SeqAt.shaped d = true ∧ ds[j]? = some z ∧ PyData.eqv z d = true ∧ (∀ (m : Nat) (z' : PyData), m < j → ds[m]? = some z' → PyData.eqv z' d = false) ∧ Q .non (upd H l (.lst (vs.eraseIdx j)))
theorem mt_removeD (hu : X.A.units + 65 < cLine) : MtM X "list.remove" (rRemD X.K) := by
  intro pins s σ H x xs v us Q I rx rxs h
  obtain ⟨l, vs, y, d, ds, j, z, rfl, rfl, hH, ha, hy, sl, sd, hz, hzj, hno, q⟩ := h
  cases rx
  obtain ⟨uy, rfl, ry⟩ := rxs.one
  obtain ⟨bs, r1⟩ := Dp.reads I d y uy hy ry
  have hxs : PyData.canLayAll0 ds = true := SeqAt.canLay_of_shaped sl
  have hroom : X.A.units + 1 + min (PyData.depthAll ds) d.depth < cLine := room_in_shaped sd hu
  obtain ⟨zz, its, n, r, hl, e⟩ := I.lstM hH
  obtain ⟨as, h4⟩ := Dp.readsAll I ds _ its ha r
  have hn : its.length = ds.length := SeqAt.ReadsAll.length ds its as h4
  have hmap : its.map (SeqAt.readOf s.heap) = ds := SeqAt.readsAll_map ds its as hxs h4
  obtain ⟨hjd, _⟩ := List.getElem?_eq_some_iff.mp hz
  have hjl : j < its.length := by omega
  have hj : j < its.toArray.size := by simpa using hjl
  have at_ : ∀ (m : Nat) (hm : m < its.toArray.size) (z' : PyData), ds[m]? = some z' → SeqAt.readOf s.heap its.toArray[m] = z' := by
    intro m hm z' hz'
    have hml : m < its.length := by simpa using hm
    rw [← hmap, List.getElem?_map, List.getElem?_eq_getElem hml] at hz'
    have e1 : SeqAt.readOf s.heap its[m] = z' := Option.some.inj (show some (SeqAt.readOf s.heap its[m]) = some z' from hz')
    simpa using e1
  refine call_meets PySem.F.slot_list_remove ⟨_, e, rfl⟩ PySem.F.entry_list_remove (PySem.F.args_list_remove_2 _ _)
    (list_removeAt l its.toArray n uy (fun u => PyData.eqv (SeqAt.readOf s.heap u) d) j hj ?_ ?_ (by rw [List.size_toArray]; omega)) ⟨e, SeqAt.items_eqAt (vs := its.toArray) (show ReadsAll s.heap its.toArray.toList ds as from h4) r1 hxs (SeqAt.canLay_of_shaped sd) hroom, ?_⟩
  · show PyData.eqv (SeqAt.readOf s.heap its.toArray[j]) d = true
    rw [at_ j hj z hz]
    exact hzj
  · intro m hm hmj
    have hmd : m < ds.length := by have : m < its.length := by simpa using hm
                                   omega
    have hz' : ds[m]? = some ds[m] := List.getElem?_eq_getElem hmd
    show PyData.eqv (SeqAt.readOf s.heap its.toArray[m]) d = false
    rw [at_ m hm _ hz']
    exact hno m _ hmj hz'
  · have rr := r.eraseIdx j
    refine ⟨.non, _, I.lset (its' := its.eraseIdx j) (t' := s.toks) hH e ?_ rr ?_, rfl, q⟩
    · show its.toArray.eraseIdxIfInBounds j = (its.eraseIdx j).toArray
      rw [List.eraseIdxIfInBounds_toArray]
    · have := List.length_eraseIdx_le vs j
      omega
end
end PL

set_option Elab.async false
set_option linter.all false
set_option maxRecDepth 100000
set_option maxHeartbeats 4000000
/-! DL: data in the place of objects. A def's names hold data (never changed), or own one thing that is being made; what is shared and changes stands in M. -/
namespace DL
open PySem L2 PL
inductive D where
  | non | bl (b : Bool) | int (i : Int) | str (x : Str) | ty (n : String) | ref (a : Addr) | cls (C : Str)
  | tup (xs : List D) | lst (xs : List D) | dic (ks vs : List D) | ins (C : Str) (ns : List Str) (vs : List D) | xfd (f : Str) (x : D)
/-- a key of a dict as data -/
def kD : Key → D
  | .inl i => .int i
  | .inr x => .str x
/-- a tuple that the top wrote -/
def TupK (K : PySem.W.Frag) (a : Addr) (xs : List V) : Prop := ∃ (o : Obj) (its : Array Value) (n : Nat), K.lookup a = some o ∧ o.cls = .type "tuple" ∧ o.dict = none ∧ o.data = .seq its n ∧ its.size ≤ sizeLine ∧ Vals xs its.toList
/-- a tuple that stands, or that the top wrote -/
def TupAt (K : PySem.W.Frag) (F : Hp) (a : Addr) (xs : List V) : Prop := (∃ o, F a = some (.frz o (.tup xs)) ∧ o.dict = none) ∨ TupK K a xs
theorem TupAt.sq {K : PySem.W.Frag} {F : Hp} {a : Addr} {xs : List V} (h : TupAt K F a xs) : SqT K F a xs := by
  rcases h with ⟨o, h, _⟩ | ⟨o, its, n, h1, h2, h3, h4, h5, h6⟩
  · exact .inl (.inr ⟨o, h⟩)
  · exact .inr ⟨o, its, n, h1, h2, h4, h5, h6⟩
theorem TupAt.mono {K : PySem.W.Frag} {F F' : Hp} {a : Addr} {xs : List V} (s : Same F F') (h : TupAt K F a xs) : TupAt K F' a xs := by
  rcases h with ⟨o, h, n⟩ | h
  · exact .inl ⟨o, s _ _ h, n⟩
  · exact .inr h
/-- where classes stand, what the top wrote -/
structure Sig where
  K : PySem.W.Frag
  Z : Str → Addr
  cs : List Str
  xs : List Str
section
variable (G : Sig)
mutual
/-- the value v stands for the data, by what stands still in F -/
def Rep (F : Hp) : D → V → Prop
  | .non, v => v = .non
  | .bl b, v => v = .bl b
  | .int i, v => v = .int i
  | .str x, v => v = .str x
  | .ty n, v => v = .ty n
  | .ref a, v => v = .ref a
  | .cls C, v => v = .ref (G.Z C) ∧ C ∈ G.cs
  | .xfd f x, v => ∃ a w, v = .ref a ∧ F a = some (.xd [(f, w)]) ∧ Rep F x w
  | .tup xs, v => ∃ a vs, v = .ref a ∧ TupAt G.K F a vs ∧ Reps F xs vs
  | .lst xs, v => ∃ a vs, v = .ref a ∧ SqL G.K F a vs ∧ Reps F xs vs
  | .dic ks xs, v => ∃ a, v = .ref a ∧ ((∃ kvs : List (Key × V), Rd F a (.dK kvs) ∧ ks = kvs.map (fun p => kD p.1) ∧ Reps F xs (kvs.map (·.2))) ∨
      ∃ kvs : List (List Key × V), Rd F a (.dT kvs) ∧ ks = kvs.map (fun p => .tup (p.1.map kD)) ∧ Reps F xs (kvs.map (·.2)))
  | .ins C ns xs, v => ∃ a dx vs, v = .ref a ∧ F a = some (.ins (G.Z C) dx (ns.zip vs)) ∧ (C ∈ G.cs ∧ ns.length = vs.length) ∧ Reps F xs vs
def Reps (F : Hp) : List D → List V → Prop
  | [], vs => vs = []
  | x :: xs, vs => ∃ v r, vs = v :: r ∧ Rep F x v ∧ Reps F xs r
end
/-- what stands at a place of M, or is owned by a name -/
def CellAt (F : Hp) (o : HO) : D → Prop
  | .lst xs => ∃ vs, o = .lst vs ∧ Reps G F xs vs
  | .dic ks xs => (∃ kvs : List (Key × V), o = .dK kvs ∧ ks = kvs.map (fun p => kD p.1) ∧ Reps G F xs (kvs.map (·.2))) ∨
      ∃ kvs : List (List Key × V), o = .dT kvs ∧ ks = kvs.map (fun p => .tup (p.1.map kD)) ∧ Reps G F xs (kvs.map (·.2))
  | .ins C ns xs => ∃ dx vs, o = .ins (G.Z C) dx (ns.zip vs) ∧ (C ∈ G.cs ∧ ns.length = vs.length) ∧ Reps G F xs vs
  | .xfd f x => ∃ v, o = .xd [(f, v)] ∧ Rep G F x v
  | _ => False
end
section
variable {G : Sig} {F F' H : Hp}
theorem sqT_same {K : PySem.W.Frag} {a : Addr} {xs : List V} (s : Same F F') (h : SqT K F a xs) : SqT K F' a xs := (Imm.of_same s).sqT h
theorem rd_same {a : Addr} {u : HO} (s : Same F F') (h : Rd F a u) : Rd F' a u := h.elim (fun e => .inl (s _ _ e)) fun ⟨o, e⟩ => .inr ⟨o, s _ _ e⟩
mutual
theorem Rep.mono (s : Same F F') : ∀ (d : D) (v : V), Rep G F d v → Rep G F' d v
  | .non, _, h => h
  | .bl _, _, h => h
  | .int _, _, h => h
  | .str _, _, h => h
  | .ty _, _, h => h
  | .ref _, _, h => h
  | .cls _, _, h => h
  | .xfd f x, _, h => by
    simp only [Rep] at h ⊢
    obtain ⟨a, w, e, q, r⟩ := h
    exact ⟨a, w, e, s _ _ q, Rep.mono s x w r⟩
  | .tup xs, _, h => by
    simp only [Rep] at h ⊢
    obtain ⟨a, vs, e, q, r⟩ := h
    exact ⟨a, vs, e, q.mono s, Reps.mono s xs vs r⟩
  | .lst xs, _, h => by
    simp only [Rep] at h ⊢
    obtain ⟨a, vs, e, q, r⟩ := h
    exact ⟨a, vs, e, s.seq q, Reps.mono s xs vs r⟩
  | .dic ks xs, _, h => by
    simp only [Rep] at h ⊢
    obtain ⟨a, e, ⟨kvs, q, ek, r⟩ | ⟨kvs, q, ek, r⟩⟩ := h
    · exact ⟨a, e, .inl ⟨kvs, rd_same s q, ek, Reps.mono s xs _ r⟩⟩
    · exact ⟨a, e, .inr ⟨kvs, rd_same s q, ek, Reps.mono s xs _ r⟩⟩
  | .ins C ns xs, _, h => by
    simp only [Rep] at h ⊢
    obtain ⟨a, dx, vs, e, q, l, r⟩ := h
    exact ⟨a, dx, vs, e, s _ _ q, l, Reps.mono s xs vs r⟩
theorem Reps.mono (s : Same F F') : ∀ (ds : List D) (vs : List V), Reps G F ds vs → Reps G F' ds vs
  | [], _, h => h
  | d :: ds, _, h => by
    simp only [Reps] at h ⊢
    obtain ⟨v, r, e, a, b⟩ := h
    exact ⟨v, r, e, Rep.mono s d v a, Reps.mono s ds r b⟩
end
theorem Reps.nil : Reps G F [] [] := rfl
theorem Reps.cons {d : D} {ds : List D} {v : V} {vs : List V} (a : Rep G F d v) (b : Reps G F ds vs) : Reps G F (d :: ds) (v :: vs) := ⟨v, vs, rfl, a, b⟩
theorem Reps.length : ∀ {ds : List D} {vs : List V}, Reps G F ds vs → ds.length = vs.length
  | [], _, h => by cases (show _ = [] from h); rfl
  | d :: ds, _, h => by
    obtain ⟨v, r, rfl, _, b⟩ := h
    rw [List.length_cons, List.length_cons, Reps.length b]
theorem Reps.append : ∀ {ds es : List D} {vs ws : List V}, Reps G F ds vs → Reps G F es ws → Reps G F (ds ++ es) (vs ++ ws)
  | [], _, _, _, h, k => by cases (show _ = [] from h); exact k
  | d :: ds, _, _, _, h, k => by
    obtain ⟨v, r, rfl, a, b⟩ := h
    exact Reps.cons a (Reps.append b k)
theorem Reps.get : ∀ {ds : List D} {vs : List V} {i : Nat} {d : D}, Reps G F ds vs → ds[i]? = some d → ∃ v, vs[i]? = some v ∧ Rep G F d v
  | [], _, _, _, _, e => by simp at e
  | d :: ds, _, i, x, h, e => by
    obtain ⟨v, r, rfl, a, b⟩ := h
    cases i with
    | zero => simp at e; subst e; exact ⟨v, rfl, a⟩
    | succ i => exact Reps.get (i := i) b (by simpa using e)
theorem Reps.get' : ∀ {ds : List D} {vs : List V} {i : Nat} {v : V}, Reps G F ds vs → vs[i]? = some v → ∃ d, ds[i]? = some d ∧ Rep G F d v
  | [], _, _, _, h, e => by cases (show _ = [] from h); simp at e
  | d :: ds, _, i, x, h, e => by
    obtain ⟨v, r, rfl, a, b⟩ := h
    cases i with
    | zero => simp at e; subst e; exact ⟨d, rfl, a⟩
    | succ i => exact Reps.get' (i := i) b (by simpa using e)
theorem Reps.set : ∀ {ds : List D} {vs : List V} (i : Nat) {d : D} {v : V}, Reps G F ds vs → Rep G F d v → Reps G F (ds.set i d) (vs.set i v)
  | [], _, _, _, _, h, _ => by cases (show _ = [] from h); exact rfl
  | d :: ds, _, i, x, y, h, k => by
    obtain ⟨v, r, rfl, a, b⟩ := h
    cases i with
    | zero => exact Reps.cons k b
    | succ i => exact Reps.cons a (Reps.set i b k)
theorem Reps.take : ∀ {ds : List D} {vs : List V} (n : Nat), Reps G F ds vs → Reps G F (ds.take n) (vs.take n)
  | [], _, n, h => by cases (show _ = [] from h); simp [Reps]
  | d :: ds, _, n, h => by
    obtain ⟨v, r, rfl, a, b⟩ := h
    cases n with
    | zero => exact rfl
    | succ n => exact Reps.cons a (Reps.take n b)
theorem Reps.drop : ∀ {ds : List D} {vs : List V} (n : Nat), Reps G F ds vs → Reps G F (ds.drop n) (vs.drop n)
  | [], _, n, h => by cases (show _ = [] from h); simp [Reps]
  | d :: ds, _, n, h => by
    obtain ⟨v, r, rfl, a, b⟩ := h
    cases n with
    | zero => exact Reps.cons a b
    | succ n => exact Reps.drop n b
theorem Reps.rev : ∀ {ds : List D} {vs : List V}, Reps G F ds vs → Reps G F ds.reverse vs.reverse
  | [], _, h => by cases (show _ = [] from h); exact rfl
  | d :: ds, _, h => by
    obtain ⟨v, r, rfl, a, b⟩ := h
    rw [List.reverse_cons, List.reverse_cons]
    exact Reps.append (Reps.rev b) (Reps.cons a rfl)
theorem CellAt.mono (s : Same F F') {o : HO} {d : D} (h : CellAt G F o d) : CellAt G F' o d := by
  cases d with
  | lst xs => obtain ⟨vs, e, r⟩ := h; exact ⟨vs, e, Reps.mono s _ _ r⟩
  | dic ks xs =>
    rcases h with ⟨kvs, e, ek, r⟩ | ⟨kvs, e, ek, r⟩
    · exact .inl ⟨kvs, e, ek, Reps.mono s _ _ r⟩
    · exact .inr ⟨kvs, e, ek, Reps.mono s _ _ r⟩
  | ins C ns xs => obtain ⟨dx, vs, e, l, r⟩ := h; exact ⟨dx, vs, e, l, Reps.mono s _ _ r⟩
  | xfd f x => obtain ⟨v, e, r⟩ := h; exact ⟨v, e, Rep.mono s _ _ r⟩
  | _ => exact h
theorem CellAt.rep {o : HO} {d : D} {a : Addr} (h : CellAt G F o d) (n : F a = none) : Rep G (upd F a o) d (.ref a) := by
  have s : Same F (upd F a o) := same_upd n
  cases d with
  | lst xs =>
    obtain ⟨vs, rfl, r⟩ := h
    simp only [Rep]
    exact ⟨a, vs, rfl, SqL.of upd_same, Reps.mono s _ _ r⟩
  | dic ks xs =>
    simp only [Rep]
    rcases h with ⟨kvs, rfl, ek, r⟩ | ⟨kvs, rfl, ek, r⟩
    · exact ⟨a, rfl, .inl ⟨kvs, .inl upd_same, ek, Reps.mono s _ _ r⟩⟩
    · exact ⟨a, rfl, .inr ⟨kvs, .inl upd_same, ek, Reps.mono s _ _ r⟩⟩
  | ins C ns xs =>
    obtain ⟨dx, vs, rfl, l, r⟩ := h
    simp only [Rep]
    exact ⟨a, dx, vs, rfl, upd_same, l, Reps.mono s _ _ r⟩
  | xfd f x =>
    obtain ⟨v, rfl, r⟩ := h
    simp only [Rep]
    exact ⟨a, v, rfl, upd_same, Rep.mono s _ _ r⟩
  | _ => exact h.elim
end
/-! ### states -/
inductive LV where
  | imm (d : D) | own (d : D)
abbrev DM := Addr → Option D
def up (M : DM) (a : Addr) (d : D) : DM := fun b => if b = a then some d else M b
def del (M : DM) (a : Addr) : DM := fun b => if b = a then none else M b
theorem up_same {M : DM} {a : Addr} {d : D} : up M a d a = some d := by simp [up]
theorem up_other {M : DM} {a b : Addr} {d : D} (h : b ≠ a) : up M a d b = M b := by simp [up, h]
theorem up_up {M : DM} {a : Addr} {d e : D} : up (up M a d) a e = up M a e := by funext b; unfold up; split <;> rfl
theorem del_up {M : DM} {a : Addr} {d : D} (h : M a = none) : del (up M a d) a = M := by
  funext b; unfold del up; split
  · rename_i e; rw [e, h]
  · rfl
structure DSt where
  sl : List (Option LV)
  M : DM
inductive RV where
  | imm (d : D) | new (d : D) | slot (i : Nat)
/-- a refusal: its class, its fields -/
structure Exc where
  cls : Str
  fs : List (Str × D)
abbrev PQ := RV → DSt → Prop
abbrev PX := Exc → DSt → Prop
abbrev DE := DSt → PQ → PX → Prop
abbrev DA := DSt → (List RV → DSt → Prop) → PX → Prop
abbrev DT := DSt → (Bool → DSt → Prop) → PX → Prop
structure DEnds where
  nx : DSt → Prop
  rt : PQ
  bk : DSt → Prop
  ct : DSt → Prop
  x : PX
abbrev DS := DEnds → DSt → Prop
/-- what a value is now -/
def viewC : D → Option D
  | .tup _ => none
  | .xfd _ _ => none
  | d => some d
def viewD (M : DM) : D → Option D
  | .ref a => (M a).bind viewC
  | d => some d
def view (s : DSt) : RV → Option D
  | .imm d => viewD s.M d
  | .new d => some d
  | .slot i => match s.sl[i]? with
    | some (some (.own d)) => viewC d
    | some (some (.imm d)) => viewD s.M d
    | _ => none
def RV.frz : RV → RV
  | .new d => .imm d
  | r => r
def optP {α : Type} (o : Option α) (k : α → Prop) : Prop := match o with
  | some a => k a
  | none => False
/-- the frame of a def's run: what it must leave, what stood still at its beginning -/
structure Fm where
  E : Hp
  F0 : Hp
  B : Hp
structure Hold (G : Sig) (c : Fm) (s : DSt) (F : Hp) (σ : St) (H : Hp) (Mp : DM) (P : Nat → Addr) : Prop where
  ext : Same c.F0 F
  fz : Same F H
  fr : Same c.E H
  nw : ∀ a o, F a = some o → (∃ o', c.F0 a = some o') ∨ c.B a = none
  be : ∀ a e, c.E a = some e → ∃ b, c.B a = some b
  bh : ∀ a b, c.B a = some b → ∃ o, H a = some o
  mem : ∀ a d, Mp a = some d → F a = none ∧ c.E a = none ∧ ∃ o, H a = some o ∧ CellAt G F o d
  sub : ∀ a d, s.M a = some d → Mp a = some d
  len : σ.length = s.sl.length
  im : ∀ (i : Nat) (d : D), s.sl[i]? = some (some (LV.imm d)) → ∃ v, σ[i]? = some (some v) ∧ Rep G F d v
  ow : ∀ (i : Nat) (d : D), s.sl[i]? = some (some (LV.own d)) → σ[i]? = some (some (.ref (P i))) ∧ Mp (P i) = some d ∧ s.M (P i) = none ∧ c.B (P i) = none
  inj : ∀ (i j : Nat) (d e : D), s.sl[i]? = some (some (LV.own d)) → s.sl[j]? = some (some (LV.own e)) → P i = P j → i = j
/-- an operand -/
def Opa (G : Sig) (F : Hp) (σ : St) (r : RV) (v : V) : Prop :=
  match r with
  | .imm d => Rep G F d v
  | .slot i => σ[i]? = some (some v)
  | .new _ => False
/-- a result beside the state -/
def Opd (G : Sig) (c : Fm) (s : DSt) (F : Hp) (σ : St) (Mp : DM) (P : Nat → Addr) (r : RV) (v : V) : Prop :=
  match r with
  | .imm d => Rep G F d v
  | .slot i => σ[i]? = some (some v)
  | .new d => ∃ p, v = .ref p ∧ Mp p = some d ∧ s.M p = none ∧ c.B p = none ∧ ∀ (i : Nat) (e : D), s.sl[i]? = some (some (LV.own e)) → P i ≠ p
def Holds (G : Sig) (c : Fm) (s : DSt) (F : Hp) (σ : St) (H : Hp) : Prop := ∃ Mp P, Hold G c s F σ H Mp P
def HoldsR (G : Sig) (c : Fm) (s : DSt) (F : Hp) (σ : St) (H : Hp) (r : RV) (v : V) : Prop := ∃ Mp P, Hold G c s F σ H Mp P ∧ Opd G c s F σ Mp P r v
/-- an exception's own dict -/
def XFs (G : Sig) (B F H : Hp) (e : Exc) (d : Option Addr) : Prop :=
  e.cls ∈ G.xs ∧ ((e.fs = [] ∧ d = none) ∨ ∃ a f x v, d = some a ∧ e.fs = [(f, x)] ∧ H a = some (.xd [(f, v)]) ∧ Rep G F x v ∧ B a = none ∧ F a = none)
theorem XFs.imp {G : Sig} {B B' F H : Hp} {e : Exc} {d : Option Addr} (h : XFs G B F H e d) (k : ∀ a, B a = none → B' a = none) : XFs G B' F H e d := by
  obtain ⟨h1, h2 | ⟨a, f, x, v, e1, e2, e3, e4, e5, e6⟩⟩ := h
  · exact ⟨h1, .inl h2⟩
  · exact ⟨h1, .inr ⟨a, f, x, v, e1, e2, e3, e4, k a e5, e6⟩⟩
def HoldsX (G : Sig) (c : Fm) (s : DSt) (F : Hp) (σ : St) (H : Hp) (e : Exc) (d : Option Addr) : Prop := ∃ Mp P, Hold G c s F σ H Mp P ∧ XFs G c.B F H e d ∧ ∀ a, d = some a → Mp a = none
/-- new things that stand still -/
structure Grow (F H F' H' : Hp) : Prop where
  f : Same F F'
  h : Same H H'
  fh : Same F' H'
  nw : ∀ a o, F' a = some o → (∃ o', F a = some o') ∨ H a = none
/-- what is read at the top in H, beneath in F -/
def Top (G : Sig) (H F : Hp) : D → V → Prop
  | .lst xs, v => ∃ a vs, v = .ref a ∧ SqL G.K H a vs ∧ Reps G F xs vs
  | .dic ks xs, v => ∃ a, v = .ref a ∧ ((∃ kvs : List (Key × V), Rd H a (.dK kvs) ∧ ks = kvs.map (fun p => kD p.1) ∧ Reps G F xs (kvs.map (·.2))) ∨
      ∃ kvs : List (List Key × V), Rd H a (.dT kvs) ∧ ks = kvs.map (fun p => .tup (p.1.map kD)) ∧ Reps G F xs (kvs.map (·.2)))
  | .ins C ns xs, v => ∃ a dx vs, v = .ref a ∧ H a = some (.ins (G.Z C) dx (ns.zip vs)) ∧ (C ∈ G.cs ∧ ns.length = vs.length) ∧ Reps G F xs vs
  | d, v => Rep G F d v
section
variable {G : Sig} {c : Fm} {s : DSt} {F F' H H' : Hp} {σ : St} {Mp : DM} {P : Nat → Addr}
theorem Grow.refl (fz : Same F H) : Grow F H F H := ⟨Same.refl _, Same.refl _, fz, fun _ o e => .inl ⟨o, e⟩⟩
theorem Grow.trans {F1 H1 F2 H2 : Hp} (a : Grow F H F1 H1) (b : Grow F1 H1 F2 H2) : Grow F H F2 H2 := ⟨a.f.trans b.f, a.h.trans b.h, b.fh, fun x o e => by
  rcases b.nw x o e with ⟨o', e'⟩ | n
  · exact a.nw x o' e'
  · exact .inr (a.h.free n)⟩
/-- a new thing that stands still from the beginning -/
theorem Grow.laid {p : Addr} {o : HO} (fz : Same F H) (n : H p = none) : Grow F H (upd F p o) (upd H p o) := by
  refine ⟨same_upd (fz.free n), same_upd n, fun a u e => ?_, fun a u e => ?_⟩
  · by_cases q : a = p
    · subst q; rw [upd_same] at e ⊢; exact e
    · rw [upd_ne q] at e ⊢; exact fz _ _ e
  · by_cases q : a = p
    · subst q; exact .inr n
    · rw [upd_ne q] at e; exact .inl ⟨u, e⟩
/-- a new thing that may change -/
theorem Grow.made {p : Addr} {o : HO} (fz : Same F H) (n : H p = none) : Grow F H F (upd H p o) :=
  ⟨Same.refl _, same_upd n, fz.trans (same_upd n), fun a u e => .inl ⟨u, e⟩⟩
theorem Hold.free (h : Hold G c s F σ H Mp P) {a : Addr} (n : H a = none) : c.B a = none := by
  cases e : c.B a with
  | none => rfl
  | some b =>
    obtain ⟨o, q⟩ := h.bh a b e
    rw [n] at q; cases q
theorem Hold.grow (h : Hold G c s F σ H Mp P) (g : Grow F H F' H') : Hold G c s F' σ H' Mp P where
  ext := h.ext.trans g.f
  fz := g.fh
  fr := h.fr.trans g.h
  nw := fun a o q => by
    rcases g.nw a o q with ⟨o', q'⟩ | n
    · exact h.nw a o' q'
    · exact .inr (h.free n)
  be := h.be
  bh := fun a b q => by
    obtain ⟨o, e⟩ := h.bh a b q
    exact ⟨o, g.h _ _ e⟩
  mem := fun a d q => by
    obtain ⟨n, n2, o, ho, hc⟩ := h.mem a d q
    refine ⟨?_, n2, o, g.h _ _ ho, hc.mono g.f⟩
    cases z : F' a with
    | none => rfl
    | some u =>
      rcases g.nw a u z with ⟨o', q'⟩ | n'
      · rw [n] at q'; cases q'
      · rw [ho] at n'; cases n'
  sub := h.sub
  len := h.len
  im := fun i d q => by
    obtain ⟨v, e, r⟩ := h.im i d q
    exact ⟨v, e, Rep.mono g.f _ _ r⟩
  ow := h.ow
  inj := h.inj
theorem Opa.mono {r : RV} {v : V} (g : Same F F') (h : Opa G F σ r v) : Opa G F' σ r v := by
  cases r with
  | imm d => exact Rep.mono g _ _ h
  | slot i => exact h
  | new d => exact h
theorem Rep.top (fz : Same F H) : ∀ (d : D) {v : V}, Rep G F d v → Top G H F d v
  | .non, _, h => h
  | .bl _, _, h => h
  | .int _, _, h => h
  | .str _, _, h => h
  | .ty _, _, h => h
  | .ref _, _, h => h
  | .cls _, _, h => h
  | .xfd _ _, _, h => h
  | .tup xs, _, h => h
  | .lst xs, _, h => by
    simp only [Rep] at h
    obtain ⟨a, vs, e, q, r⟩ := h
    exact ⟨a, vs, e, fz.seq q, r⟩
  | .dic ks xs, _, h => by
    simp only [Rep] at h
    obtain ⟨a, e, ⟨kvs, q, ek, r⟩ | ⟨kvs, q, ek, r⟩⟩ := h
    · exact ⟨a, e, .inl ⟨kvs, rd_same fz q, ek, r⟩⟩
    · exact ⟨a, e, .inr ⟨kvs, rd_same fz q, ek, r⟩⟩
  | .ins C ns xs, _, h => by
    simp only [Rep] at h
    obtain ⟨a, dx, vs, e, q, l, r⟩ := h
    exact ⟨a, dx, vs, e, fz _ _ q, l, r⟩
theorem CellAt.top {o : HO} {d e : D} {a : Addr} (ho : H a = some o) (h : CellAt G F o d) (hv : viewC d = some e) : Top G H F e (.ref a) := by
  cases d with
  | lst xs => cases hv; obtain ⟨vs, rfl, r⟩ := h; exact ⟨a, vs, rfl, SqL.of ho, r⟩
  | dic ks xs =>
    cases hv
    rcases h with ⟨kvs, rfl, ek, r⟩ | ⟨kvs, rfl, ek, r⟩
    · exact ⟨a, rfl, .inl ⟨kvs, .inl ho, ek, r⟩⟩
    · exact ⟨a, rfl, .inr ⟨kvs, .inl ho, ek, r⟩⟩
  | xfd _ _ => cases hv
  | ins C ns xs => cases hv; obtain ⟨dx, vs, rfl, l, r⟩ := h; exact ⟨a, dx, vs, rfl, ho, l, r⟩
  | _ => exact h.elim
theorem Hold.topD (h : Hold G c s F σ H Mp P) {d e : D} {v : V} (r : Rep G F d v) (hv : viewD s.M d = some e) : Top G H F e v := by
  cases d with
  | ref a =>
    have r' : v = .ref a := r
    subst r'
    have hv' : (s.M a).bind viewC = some e := hv
    cases em : s.M a with
    | none => rw [em] at hv'; cases hv'
    | some d' =>
      rw [em] at hv'
      obtain ⟨_, _, o, ho, hc⟩ := h.mem a d' (h.sub a d' em)
      exact hc.top ho hv'
  | _ =>
    cases (Option.some.inj hv)
    exact Rep.top h.fz _ r
/-- what an operand is now -/
theorem Hold.top (h : Hold G c s F σ H Mp P) {r : RV} {v : V} {d : D} (o : Opa G F σ r v) (hv : view s r = some d) : Top G H F d v := by
  cases r with
  | imm d' => exact h.topD o hv
  | new d' => exact False.elim o
  | slot i =>
    have o' : σ[i]? = some (some v) := o
    unfold view at hv
    dsimp only at hv
    split at hv
    · rename_i d' e
      obtain ⟨e1, e2, _⟩ := h.ow i d' e
      rw [o'] at e1
      cases (Option.some.inj (Option.some.inj e1))
      obtain ⟨_, _, ob, ho, hc⟩ := h.mem _ _ e2
      exact hc.top ho hv
    · rename_i d' e
      obtain ⟨v', e1, r'⟩ := h.im i d' e
      rw [o'] at e1
      cases (Option.some.inj (Option.some.inj e1))
      exact h.topD r' hv
    · cases hv
/-- a new thing, made and not yet given to a name -/
theorem Hold.made (h : Hold G c s F σ H Mp P) {p : Addr} {o : HO} {d : D} (hp : H p = none) (g : Grow F H F' H') (hp' : H' p = some o) (hf : F' p = none) (hc : CellAt G F' o d) :
    Hold G c s F' σ H' (up Mp p d) P ∧ Opd G c s F' σ (up Mp p d) P (.new d) (.ref p) := by
  have h' := h.grow g
  have np : ∀ a e, Mp a = some e → a ≠ p := fun a e q z => by
    subst z
    obtain ⟨_, _, ob, ho, _⟩ := h.mem a e q
    rw [hp] at ho; cases ho
  have nE : c.E p = none := h.fr.free hp
  refine ⟨⟨h'.ext, h'.fz, h'.fr, h'.nw, h'.be, h'.bh, fun a e q => ?_, fun a e q => ?_, h'.len, h'.im, fun i e q => ?_, h'.inj⟩, p, rfl, up_same, ?_, h.free hp, fun i e q => ?_⟩
  · by_cases z : a = p
    · subst z
      rw [up_same] at q; cases q
      exact ⟨hf, nE, o, hp', hc⟩
    · rw [up_other z] at q
      exact h'.mem a e q
  · rw [up_other (np a e (h.sub a e q))]; exact h.sub a e q
  · obtain ⟨a1, a2, a3⟩ := h.ow i e q
    exact ⟨a1, by rw [up_other (np _ _ a2)]; exact a2, a3⟩
  · cases z : s.M p with
    | none => rfl
    | some e => exact absurd rfl (np p e (h.sub p e z))
  · exact np _ _ (h.ow i e q).2.1
/-- what was made stands still from now on -/
theorem Hold.froze (h : Hold G c s F σ H Mp P) {d : D} {v : V} (o : Opd G c s F σ Mp P (.new d) v) : ∃ F', Same F F' ∧ Holds G c s F' σ H ∧ Rep G F' d v := by
  obtain ⟨p, rfl, hm, hM, hB, hP⟩ := o
  obtain ⟨n1, n2, ob, ho, hc⟩ := h.mem p d hm
  have s1 : Same F (upd F p ob) := same_upd n1
  refine ⟨upd F p ob, s1, ⟨del Mp p, P, h.ext.trans s1, fun a u e => ?_, h.fr, fun a u q => ?_, h.be, h.bh, fun a e q => ?_, fun a e q => ?_, h.len, fun i e q => ?_, fun i e q => ?_, h.inj⟩, hc.rep n1⟩
  · by_cases q : a = p
    · subst q; rw [upd_same] at e; rw [ho]; exact e
    · rw [upd_ne q] at e; exact h.fz _ _ e
  · by_cases z : a = p
    · subst z; exact .inr hB
    · rw [upd_ne z] at q; exact h.nw a u q
  · unfold del at q
    split at q
    · cases q
    · rename_i z
      obtain ⟨m1, m2, o', m3, m4⟩ := h.mem a e q
      exact ⟨by rw [upd_ne z]; exact m1, m2, o', m3, m4.mono s1⟩
  · have : a ≠ p := fun z => by subst z; rw [hM] at q; cases q
    unfold del
    rw [if_neg this]
    exact h.sub a e q
  · obtain ⟨v, e1, r⟩ := h.im i e q
    exact ⟨v, e1, Rep.mono s1 _ _ r⟩
  · obtain ⟨a1, a2, a3⟩ := h.ow i e q
    refine ⟨a1, ?_, a3⟩
    unfold del
    rw [if_neg (hP i e q)]
    exact a2
/-- the result as an operand -/
theorem HoldsR.opa {r : RV} {v : V} (h : HoldsR G c s F σ H r v) : ∃ F', Same F F' ∧ Holds G c s F' σ H ∧ Opa G F' σ r.frz v := by
  obtain ⟨Mp, P, h, o⟩ := h
  cases r with
  | imm d => exact ⟨F, Same.refl _, ⟨Mp, P, h⟩, o⟩
  | slot i => exact ⟨F, Same.refl _, ⟨Mp, P, h⟩, o⟩
  | new d => exact h.froze o
theorem HoldsR.holds {r : RV} {v : V} (h : HoldsR G c s F σ H r v) : Holds G c s F σ H := by
  obtain ⟨Mp, P, h, _⟩ := h
  exact ⟨Mp, P, h⟩
/-- the slot i gets another value -/
theorem Hold.setImm (h : Hold G c s F σ H Mp P) {i : Nat} {d : D} {v : V} (r : Rep G F d v) (hi : i < s.sl.length) : Hold G c { s with sl := s.sl.set i (some (.imm d)) } F (σ.set i (some v)) H Mp P where
  ext := h.ext
  fz := h.fz
  fr := h.fr
  nw := h.nw
  be := h.be
  bh := h.bh
  mem := h.mem
  sub := h.sub
  len := by rw [List.length_set, List.length_set]; exact h.len
  im := fun j e q => by
    by_cases z : i = j
    · subst z
      rw [List.getElem?_set_self hi] at q
      cases q
      exact ⟨v, List.getElem?_set_self (by rw [h.len]; exact hi), r⟩
    · rw [List.getElem?_set_ne z] at q ⊢
      exact h.im j e q
  ow := fun j e q => by
    by_cases z : i = j
    · subst z
      rw [List.getElem?_set_self hi] at q
      cases q
    · rw [List.getElem?_set_ne z] at q ⊢
      exact h.ow j e q
  inj := fun j k d' e q q' pp => by
    by_cases z : i = j
    · subst z
      rw [List.getElem?_set_self hi] at q
      cases q
    · by_cases z' : i = k
      · subst z'
        rw [List.getElem?_set_self hi] at q'
        cases q'
      · rw [List.getElem?_set_ne z] at q
        rw [List.getElem?_set_ne z'] at q'
        exact h.inj j k d' e q q' pp
theorem Hold.setOwn (h : Hold G c s F σ H Mp P) {i : Nat} {d : D} {v : V} (o : Opd G c s F σ Mp P (.new d) v) (hi : i < s.sl.length) : ∃ P', Hold G c { s with sl := s.sl.set i (some (.own d)) } F (σ.set i (some v)) H Mp P' := by
  obtain ⟨p, rfl, hm, hM, hB, hP⟩ := o
  refine ⟨fun j => if j = i then p else P j, h.ext, h.fz, h.fr, h.nw, h.be, h.bh, h.mem, h.sub, by rw [List.length_set, List.length_set]; exact h.len, fun j e q => ?_, fun j e q => ?_, fun j k d' e q q' pp => ?_⟩
  · by_cases z : i = j
    · subst z
      rw [List.getElem?_set_self hi] at q
      cases q
    · rw [List.getElem?_set_ne z] at q ⊢
      exact h.im j e q
  · by_cases z : i = j
    · subst z
      rw [List.getElem?_set_self hi] at q
      cases q
      simp only [if_true]
      exact ⟨List.getElem?_set_self (by rw [h.len]; exact hi), hm, hM, hB⟩
    · rw [List.getElem?_set_ne z] at q ⊢
      rw [if_neg (Ne.symm z)]
      exact h.ow j e q
  · by_cases z : i = j
    · by_cases z' : i = k
      · exact z.symm.trans z'
      · rw [List.getElem?_set_ne z'] at q'
        simp only [if_pos z.symm, if_neg (Ne.symm z')] at pp
        exact absurd pp.symm (hP k e q')
    · rw [List.getElem?_set_ne z] at q
      by_cases z' : i = k
      · simp only [if_pos z'.symm, if_neg (Ne.symm z)] at pp
        exact absurd pp (hP j d' q)
      · rw [List.getElem?_set_ne z'] at q'
        simp only [if_neg (Ne.symm z), if_neg (Ne.symm z')] at pp
        exact h.inj j k d' e q q' pp
/-- what a name owns stands still from now on -/
theorem Hold.frozeSlot (h : Hold G c s F σ H Mp P) {i : Nat} {d : D} (q : s.sl[i]? = some (some (LV.own d))) : ∃ F' v, Same F F' ∧ σ[i]? = some (some v) ∧ Holds G c { s with sl := s.sl.set i (some (.imm d)) } F' σ H ∧ Rep G F' d v := by
  have hi : i < s.sl.length := (List.getElem?_eq_some_iff.mp q).1
  obtain ⟨e1, e2, e3, e4⟩ := h.ow i d q
  obtain ⟨n1, n2, ob, ho, hc⟩ := h.mem (P i) d e2
  have s1 : Same F (upd F (P i) ob) := same_upd n1
  have rp := hc.rep n1
  refine ⟨upd F (P i) ob, _, s1, e1, ⟨del Mp (P i), P, h.ext.trans s1, fun a u e => ?_, h.fr, fun a u q => ?_, h.be, h.bh, fun a e q => ?_, fun a e q => ?_, by rw [List.length_set]; exact h.len, fun j e q' => ?_, fun j e q' => ?_, fun j k d' e q' q2 pp => ?_⟩, rp⟩
  · by_cases q : a = P i
    · subst q; rw [upd_same] at e; rw [ho]; exact e
    · rw [upd_ne q] at e; exact h.fz _ _ e
  · by_cases z : a = P i
    · subst z; exact .inr e4
    · rw [upd_ne z] at q; exact h.nw a u q
  · unfold del at q
    split at q
    · cases q
    · rename_i z
      obtain ⟨m1, m2, o', m3, m4⟩ := h.mem a e q
      exact ⟨by rw [upd_ne z]; exact m1, m2, o', m3, m4.mono s1⟩
  · have : a ≠ P i := fun z => by subst z; rw [e3] at q; cases q
    unfold del
    rw [if_neg this]
    exact h.sub a e q
  · by_cases z : i = j
    · subst z
      rw [List.getElem?_set_self hi] at q'
      cases q'
      exact ⟨_, e1, rp⟩
    · rw [List.getElem?_set_ne z] at q'
      obtain ⟨v, e1, r⟩ := h.im j e q'
      exact ⟨v, e1, Rep.mono s1 _ _ r⟩
  · by_cases z : i = j
    · subst z
      rw [List.getElem?_set_self hi] at q'
      cases q'
    · rw [List.getElem?_set_ne z] at q'
      obtain ⟨a1, a2, a3⟩ := h.ow j e q'
      refine ⟨a1, ?_, a3⟩
      unfold del
      rw [if_neg fun w => z (h.inj j i e d q' q w).symm]
      exact a2
  · by_cases z : i = j
    · subst z
      rw [List.getElem?_set_self hi] at q'
      cases q'
    · by_cases z' : i = k
      · subst z'
        rw [List.getElem?_set_self hi] at q2
        cases q2
      · rw [List.getElem?_set_ne z] at q'
        rw [List.getElem?_set_ne z'] at q2
        exact h.inj j k d' e q' q2 pp
/-- a place of Mp gets another content -/
theorem Hold.put (h : Hold G c s F σ H Mp P) {p : Addr} {d d' : D} {o : HO} (hm : Mp p = some d) (g : Grow F H F' H') (hc : CellAt G F' o d') :
    ∀ s', s'.sl.length = s.sl.length → (∀ a e, s'.M a = some e → (a = p ∧ e = d') ∨ (a ≠ p ∧ s.M a = some e)) →
      (∀ (i : Nat) e, s'.sl[i]? = some (some (LV.imm e)) → s.sl[i]? = some (some (LV.imm e))) →
      (∀ (i : Nat) e, s'.sl[i]? = some (some (LV.own e)) → ∃ e0, s.sl[i]? = some (some (LV.own e0)) ∧ ((P i = p ∧ e = d' ∧ s'.M p = none) ∨ (P i ≠ p ∧ e = e0 ∧ (s'.M (P i) = none)))) →
      Hold G c s' F' σ (upd H' p o) (up Mp p d') P := by
  intro s' hl hM hi hw
  have h' := h.grow g
  obtain ⟨n1, n2, ob, ho, _⟩ := h'.mem p d hm
  have fh : Same F' (upd H' p o) := fun a u e => by
    rw [upd_ne fun z => by subst z; rw [n1] at e; cases e]
    exact h'.fz _ _ e
  refine ⟨h'.ext, fh, fun a u e => ?_, h'.nw, h'.be, fun a b q => ?_, fun a e q => ?_, fun a e q => ?_, by rw [hl]; exact h.len, fun i e q => h'.im i e (hi i e q), fun i e q => ?_, fun i j e1 e2 q1 q2 pp => ?_⟩
  · rw [upd_ne fun z => by subst z; rw [n2] at e; cases e]
    exact h'.fr _ _ e
  · by_cases z : a = p
    · subst z; exact ⟨o, upd_same⟩
    · obtain ⟨u, e⟩ := h'.bh a b q
      exact ⟨u, by rw [upd_ne z]; exact e⟩
  · by_cases z : a = p
    · subst z
      rw [up_same] at q; cases q
      exact ⟨n1, n2, o, upd_same, hc⟩
    · rw [up_other z] at q
      obtain ⟨m1, m2, o', m3, m4⟩ := h'.mem a e q
      exact ⟨m1, m2, o', by rw [upd_ne z]; exact m3, m4⟩
  · rcases hM a e q with ⟨rfl, rfl⟩ | ⟨z, q'⟩
    · exact up_same
    · rw [up_other z]; exact h.sub a e q'
  · obtain ⟨e0, q0, ⟨z, rfl, hn⟩ | ⟨z, rfl, hn⟩⟩ := hw i e q
    · obtain ⟨a1, a2, a3, a4⟩ := h.ow i e0 q0
      refine ⟨a1, ?_, ?_, a4⟩
      · rw [z]; exact up_same
      · rw [z]; exact hn
    · obtain ⟨a1, a2, a3, a4⟩ := h.ow i e q0
      exact ⟨a1, by rw [up_other z]; exact a2, hn, a4⟩
  · obtain ⟨e3, q3, _⟩ := hw i e1 q1
    obtain ⟨e4, q4, _⟩ := hw j e2 q2
    exact h.inj i j e3 e4 q3 q4 pp
end
end DL

set_option Elab.async false
set_option linter.all false
set_option maxRecDepth 100000
set_option maxHeartbeats 4000000
namespace DL
open PySem L2 PL
/-! ### lifts -/
def XPost (G : Sig) (c : Fm) (W : WX) (F : Hp) (σ : St) (X' : PX) : Prop := ∀ e s' d F' H', X' e s' → Same F F' → HoldsX G c s' F' σ H' e d → W (.ref (G.Z e.cls)) d σ H'
def LE (X : Cx) (G : Sig) (t : DE) : TE := fun σ H Q => ∃ c W s F Q' X', Takes X W ∧ Holds G c s F σ H ∧ t s Q' X' ∧ (∀ r s' v F' H', Q' r s' → Same F F' → HoldsR G c s' F' σ H' r v → Q v H') ∧ XPost G c W F σ X'
def LT (X : Cx) (G : Sig) (t : DT) : TT := fun σ H Q => ∃ c W s F Q' X', Takes X W ∧ Holds G c s F σ H ∧ t s Q' X' ∧ (∀ b s' F' H', Q' b s' → Same F F' → Holds G c s' F' σ H' → Q b H') ∧ XPost G c W F σ X'
def Opas (G : Sig) (F : Hp) (σ : St) : List RV → List V → Prop
  | [], vs => vs = []
  | r :: rs, vs => ∃ v w, vs = v :: w ∧ Opa G F σ r v ∧ Opas G F σ rs w
def LA (X : Cx) (G : Sig) (t : DA) : TA := fun σ H Q => ∃ c W s F Q' X', Takes X W ∧ Holds G c s F σ H ∧ t s Q' X' ∧ (∀ rs s' vs F' H', Q' rs s' → Same F F' → Holds G c s' F' σ H' → Opas G F' σ rs vs → Q vs H') ∧ XPost G c W F σ X'
def LS (X : Cx) (G : Sig) (t : DS) : TS := fun D σ H => ∃ c W s F E', Takes X W ∧ Holds G c s F σ H ∧ t E' s ∧ (∀ s' F' σ' H', E'.nx s' → Same F F' → Holds G c s' F' σ' H' → D.nx σ' H') ∧ (∀ r s' v F' σ' H', E'.rt r s' → Same F F' → HoldsR G c s' F' σ' H' r v → D.rt v H') ∧
  (∀ s' F' σ' H', E'.bk s' → Same F F' → Holds G c s' F' σ' H' → D.bk σ' H') ∧ (∀ s' F' σ' H', E'.ct s' → Same F F' → Holds G c s' F' σ' H' → D.ct σ' H') ∧ (∀ σ', XPost G c W F σ' E'.x)
section
variable {X : Cx} {G : Sig} {c : Fm} {W : WX} {s : DSt} {F F' H H' : Hp} {σ : St}
theorem PE.mono {e : Expr} {t u : TE} (h : PE X e t) (m : ∀ σ H Q, u σ H Q → t σ H Q) : PE X e u := ⟨fun pins s σ H Q I q => h.run pins s σ H Q I (m σ H Q q)⟩
theorem PT.mono {e : Expr} {t u : TT} (h : PT X e t) (m : ∀ σ H Q, u σ H Q → t σ H Q) : PT X e u := ⟨fun pins s σ H Q I q => h.run pins s σ H Q I (m σ H Q q)⟩
theorem PW.mono {e : Expr} {t u : TT} (h : PW X e t) (m : ∀ σ H Q, u σ H Q → t σ H Q) : PW X e u := ⟨fun wh pins s σ H Q I q => h.run wh pins s σ H Q I (m σ H Q q)⟩
theorem PA.mono {e : List Expr} {t u : TA} (h : PA X e t) (m : ∀ σ H Q, u σ H Q → t σ H Q) : PA X e u := ⟨fun pos pins s σ H Q I q => h.run pos pins s σ H Q I (m σ H Q q)⟩
theorem PS.mono {e : Stmt} {t u : TS} (h : PS X e t) (m : ∀ D σ H, u D σ H → t D σ H) : PS X e u := ⟨fun pins s σ H Q I q => h.run pins s σ H Q I (m Q σ H q)⟩
theorem PSs.mono {e : List Stmt} {t u : TS} (h : PSs X e t) (m : ∀ D σ H, u D σ H → t D σ H) : PSs X e u := ⟨fun pins s σ H Q I q => h.run pins s σ H Q I (m Q σ H q)⟩
theorem XPost.mono {X' : PX} (h : XPost G c W F σ X') (g : Same F F') : XPost G c W F' σ X' := fun e s' d F1 H1 q s1 hx => h e s' d F1 H1 q (g.trans s1) hx
theorem Opas.mono (g : Same F F') : ∀ {rs : List RV} {vs : List V}, Opas G F σ rs vs → Opas G F' σ rs vs
  | [], _, h => h
  | r :: rs, _, ⟨v, w, e, a, b⟩ => ⟨v, w, e, a.mono g, Opas.mono g b⟩
/-- an expression, then more: the result as an operand -/
theorem LE.op {t : DE} {Q' : PQ} {X' : PX} {Q : VK} (tk : Takes X W) (hs : Holds G c s F σ H) (ht : t s Q' X') (hx : XPost G c W F σ X')
    (k : ∀ r s' v F' H', Q' r s' → Same F F' → Holds G c s' F' σ H' → Opa G F' σ r.frz v → Q v H') : LE X G t σ H Q :=
  ⟨c, W, s, F, Q', X', tk, hs, ht, fun r s' v F1 H1 q g h => by
    obtain ⟨F2, g2, h2, o⟩ := h.opa
    exact k r s' v F2 H1 q (g.trans g2) h2 o, hx⟩
/-- operands -/
def dNil : DA := fun s Q _ => Q [] s
def dCons (t : DE) (u : DA) : DA := fun s Q X => t s (fun r s1 => u s1 (fun rs s2 => Q (r.frz :: rs) s2) X) X
theorem dl_nil : PA X [] (LA X G dNil) := PA.mono pa_nil fun σ H Q ⟨c, W, s, F, Q', X', tk, hs, ht, hq, hx⟩ => hq _ _ _ _ _ ht (Same.refl _) hs rfl
theorem dl_cons {e : Expr} {es : List Expr} {t : DE} {u : DA} (ha : PE X e (LE X G t)) (hr : PA X es (LA X G u)) (hst : starEach (e :: es) X.env = (false, eval e X.env) :: starEach es X.env := by rfl) : PA X (e :: es) (LA X G (dCons t u)) :=
  PA.mono (pa_cons ha hr hst) fun σ H Q ⟨c, W, s, F, Q', X', tk, hs, ht, hq, hx⟩ =>
    LE.op tk hs ht hx fun r s1 v F1 H1 q1 g1 h1 o1 => ⟨c, W, s1, F1, _, X', tk, h1, q1, fun rs s2 vs F2 H2 q2 g2 h2 o2 => hq _ s2 _ F2 H2 q2 (g1.trans g2) h2 ⟨v, vs, rfl, o1.mono g2, o2⟩, hx.mono g1⟩
/-! ### what takes operands -/
def vw (s : DSt) : List RV → (List D → Prop) → Prop
  | [], k => k []
  | r :: rs, k => optP (view s r) fun d => vw s rs fun ds => k (d :: ds)
def Tops (G : Sig) (H F : Hp) : List D → List V → Prop
  | [], vs => vs = []
  | d :: ds, vs => ∃ v w, vs = v :: w ∧ Top G H F d v ∧ Tops G H F ds w
theorem vw_tops {Mp : DM} {P : Nat → Addr} (h : Hold G c s F σ H Mp P) : ∀ {rs : List RV} {vs : List V} {k : List D → Prop}, Opas G F σ rs vs → vw s rs k → ∃ ds, Tops G H F ds vs ∧ k ds
  | [], _, _, o, q => ⟨[], o, q⟩
  | r :: rs, _, k, o, q => by
    obtain ⟨v, w, rfl, o1, o2⟩ := o
    unfold vw at q
    cases e : view s r with
    | none => rw [e] at q; exact False.elim q
    | some d =>
      rw [e] at q
      obtain ⟨ds, t, kk⟩ := vw_tops h o2 (show vw s rs _ from q)
      exact ⟨d :: ds, ⟨v, w, rfl, h.top o1 e, t⟩, kk⟩
/-- a primitive's answer -/
inductive AV where
  | imm (d : D) | new (d : D)
def AV.rv : AV → RV
  | .imm d => .imm d
  | .new d => .new d
/-- what is made of it -/
def Res (G : Sig) (H F : Hp) (Q : VK) : AV → Prop
  | .imm d => ∀ v F' H', Grow F H F' H' → Rep G F' d v → Q v H'
  | .new d => ∀ p o F' H', Grow F H F' H' → H p = none → H' p = some o → F' p = none → CellAt G F' o d → Q (.ref p) H'
abbrev PN := List D → (AV → Prop) → Prop
def OkP (G : Sig) (r : List V → Hp → VK → Prop) (f : PN) : Prop := ∀ vs ds H F Q k, Tops G H F ds vs → Same F H → f ds k → (∀ a, k a → Res G H F Q a) → r vs H Q
def dPrim (f : PN) (t : DA) : DE := fun s Q X => t s (fun rs s1 => vw s1 rs fun ds => f ds fun r => Q r.rv s1) X
/-- the answer with the state -/
theorem HoldsR.ofRes {r : AV} {Q' : PQ} {Q : VK} (h : Holds G c s F σ H) (q : Q' r.rv s) (hq : ∀ r s' v F' H', Q' r s' → Same F F' → HoldsR G c s' F' σ H' r v → Q v H') : Res G H F Q r := by
  obtain ⟨Mp, P, h⟩ := h
  cases r with
  | imm d => exact fun v F1 H1 g rp => hq _ s v F1 H1 q g.f ⟨Mp, P, h.grow g, rp⟩
  | new d => exact fun p o F1 H1 g n hp nf hc => hq _ s _ F1 H1 q g.f ⟨_, P, h.made n g hp nf hc⟩
theorem prim_run {r : List V → Hp → VK → Prop} {f : PN} (ok : OkP G r f) {rs : List RV} {vs : List V} {Q' : PQ} {Q : VK} (h : Holds G c s F σ H) (o : Opas G F σ rs vs) (q : vw s rs fun ds => f ds fun r => Q' r.rv s)
    (hq : ∀ r s' v F' H', Q' r s' → Same F F' → HoldsR G c s' F' σ H' r v → Q v H') : r vs H Q := by
  have h' := h
  obtain ⟨Mp, P, h'⟩ := h'
  obtain ⟨ds, t, k⟩ := vw_tops h' o q
  exact ok vs ds H F Q _ t h'.fz k fun a ka => HoldsR.ofRes h ka hq
abbrev r2 (r : R2) : List V → Hp → VK → Prop := fun vs H Q => match vs with
  | [x, y] => r x y H Q
  | _ => False
theorem op2_run {r : R2} {f : PN} {ta tb : DE} (ok : OkP G (r2 r) f) {Q : VK} (h : LE X G (dPrim f (dCons ta (dCons tb dNil))) σ H Q) : tOp r (LE X G ta) (LE X G tb) σ H Q := by
  obtain ⟨c, W, s, F, Q', X', tk, hs, ht, hq, hx⟩ := h
  exact LE.op tk hs ht hx fun ra s1 v1 F1 H1 q1 g1 h1 o1 => LE.op tk h1 q1 (hx.mono g1) fun rb s2 v2 F2 H2 q2 g2 h2 o2 =>
    prim_run ok (Q := Q) (rs := [ra.frz, rb.frz]) (vs := [v1, v2]) h2 ⟨v1, [v2], rfl, o1.mono g2, v2, [], rfl, o2, rfl⟩ q2 fun r s' v F' H' q g hr => hq r s' v F' H' q ((g1.trans g2).trans g) hr
theorem dl_op2 {op : Operator} {a b : Expr} {pos : Pos} {ta tb : DE} {r : R2} {f : PN} (ho : OpR X (binaryOp op) r) (ok : OkP G (r2 r) f) (ha : PE X a (LE X G ta)) (hb : PE X b (LE X G tb)) :
    PE X (.BinOp a op b pos) (LE X G (dPrim f (dCons ta (dCons tb dNil)))) := PE.mono (pe_op ho ha hb) fun σ H Q h => op2_run ok h
/-! ### names, constants -/
def dVar (i : Nat) : DE := fun s Q _ => match s.sl[i]? with
  | some (some (.imm d)) => Q (.imm d) s
  | some (some (.own _)) => Q (.slot i) s
  | _ => False
theorem dl_var {i : Nat} {e : Expr} (h : PE X e (tVar i)) : PE X e (LE X G (dVar i)) := PE.mono h fun σ H Q ⟨c, W, s, F, Q', X', tk, hs, ht, hq, hx⟩ => by
  unfold dVar at ht
  obtain ⟨Mp, P, hs⟩ := hs
  split at ht
  · rename_i d e
    obtain ⟨v, e1, r⟩ := hs.im i d e
    exact ⟨v, e1, hq _ s v F H ht (Same.refl _) ⟨Mp, P, hs, r⟩⟩
  · rename_i d e
    obtain ⟨e1, _⟩ := hs.ow i d e
    exact ⟨_, e1, hq _ s _ F H ht (Same.refl _) ⟨Mp, P, hs, e1⟩⟩
  · exact False.elim ht
def dC (d : D) : DE := fun s Q _ => Q (.imm d) s
theorem dl_c {e : Expr} {v : V} {d : D} (h : PE X e (tC v)) (r : ∀ F, Rep G F d v) : PE X e (LE X G (dC d)) := PE.mono h fun σ H Q ⟨c, W, s, F, Q', X', tk, hs, ht, hq, hx⟩ => by
  obtain ⟨Mp, P, hs⟩ := hs
  exact hq _ s v F H ht (Same.refl _) ⟨Mp, P, hs, r F⟩
theorem dl_int {i : Int} {j pos} : PE X (.Constant (.int i) j pos) (LE X G (dC (.int i))) := dl_c pe_int fun _ => rfl
theorem dl_str {i : Str} {j pos} : PE X (.Constant (.str i) j pos) (LE X G (dC (.str i))) := dl_c pe_str fun _ => rfl
theorem dl_bl {i : Bool} {j pos} : PE X (.Constant (.bool i) j pos) (LE X G (dC (.bl i))) := dl_c pe_bl fun _ => rfl
theorem dl_non {j pos} : PE X (.Constant .none j pos) (LE X G (dC .non)) := dl_c pe_non fun _ => rfl
/-! ### primitives by their places in the text -/
abbrev r1 (r : V → Hp → VK → Prop) : List V → Hp → VK → Prop := fun vs H Q => match vs with
  | [x] => r x H Q
  | _ => False
theorem un_run {r : V → Hp → VK → Prop} {f : PN} {ta : DE} (ok : OkP G (r1 r) f) {Q : VK} (h : LE X G (dPrim f (dCons ta dNil)) σ H Q) : tUn r (LE X G ta) σ H Q := by
  obtain ⟨c, W, s, F, Q', X', tk, hs, ht, hq, hx⟩ := h
  exact LE.op tk hs ht hx fun ra s1 v1 F1 H1 q1 g1 h1 o1 =>
    prim_run ok (Q := Q) (rs := [ra.frz]) (vs := [v1]) h1 ⟨v1, [], rfl, o1, rfl⟩ q1 fun r s' v F' H' q g hr => hq r s' v F' H' q (g1.trans g) hr
theorem dl_un {op : UnaryOp} {a : Expr} {pos : Pos} {ta : DE} {r : V → Hp → VK → Prop} {f : PN} (ho : UnR X (unaryOp op) r) (ok : OkP G (r1 r) f) (ha : PE X a (LE X G ta)) :
    PE X (.UnaryOp op a pos) (LE X G (dPrim f (dCons ta dNil))) := PE.mono (pe_un ho ha) fun σ H Q h => un_run ok h
theorem dl_cmp {op : CmpOp} {a b : Expr} {pos : Pos} {ta tb : DE} {r : R2} {f : PN} (ho : OpR X (compareOp op) r) (ok : OkP G (r2 r) f) (ha : PE X a (LE X G ta)) (hb : PE X b (LE X G tb)) (hm : behindInMarks op b = false) :
    PE X (.Compare a [op] [b] pos) (LE X G (dPrim f (dCons ta (dCons tb dNil)))) := PE.mono (pe_cmpR ho ha hb hm) fun σ H Q h => op2_run ok h
theorem dl_ix {a b : Expr} {pos : Pos} {ta tb : DE} {r : R2} {f : PN} (ho : IxR X r) (ok : OkP G (r2 r) f) (ha : PE X a (LE X G ta)) (hb : PE X b (LE X G tb)) (hs : PlainIx b) :
    PE X (.Subscript a b pos) (LE X G (dPrim f (dCons ta (dCons tb dNil)))) := PE.mono (pe_ix ho ha hb hs) fun σ H Q h => op2_run ok h
theorem cb_run {r : List V → Hp → VK → Prop} {f : PN} {t : DA} (ok : OkP G r f) {Q : VK} (h : LE X G (dPrim f t) σ H Q) : tCB r (LA X G t) σ H Q := by
  obtain ⟨c, W, s, F, Q', X', tk, hs, ht, hq, hx⟩ := h
  exact ⟨c, W, s, F, _, X', tk, hs, ht, fun rs s1 vs F1 H1 q1 g1 h1 o1 => prim_run ok (Q := Q) h1 o1 q1 fun r s' v F' H' q g hr => hq r s' v F' H' q (g1.trans g) hr, hx⟩
theorem dl_callB {id : String} {x : Str} {p pos : Pos} {e : Expr} {es : List Expr} {t : DA} {r : List V → Hp → VK → Prop} {f : PN} (hc : CallR X (.builtin id) r) (ok : OkP G r f) (hg : Gl X x) (hm : X.mg x = none) (hv : bootBuiltins x = some (.builtin id)) (ha : PA X (e :: es) (LA X G t)) (hn : x ≠ "__name__" := by decide) (hdb : (x == ("__debug__" : Str)) = false := by decide)
    (he : starEach (e :: es) X.env = (false, eval e X.env) :: starEach es X.env := by rfl) (hpl : (backTo pos (starEach es X.env)).any (·.1) = false := by rfl) : PE X (.Call (.Name x p) (e :: es) [] pos) (LE X G (dPrim f t)) :=
  PE.mono (pe_callB hc hg hm hv ha hn hdb he hpl) fun σ H Q h => cb_run ok h
theorem dl_callTy {T : String} {x : Str} {p pos : Pos} {e : Expr} {es : List Expr} {t : DA} {r : List V → Hp → VK → Prop} {f : PN} (hc : CallR X (.type T) r) (ok : OkP G r f) (hg : Gl X x) (hm : X.mg x = none) (hv : bootBuiltins x = some (.type T)) (ha : PA X (e :: es) (LA X G t)) (hn : x ≠ "__name__" := by decide) (hdb : (x == ("__debug__" : Str)) = false := by decide)
    (he : starEach (e :: es) X.env = (false, eval e X.env) :: starEach es X.env := by rfl) (hpl : (backTo pos (starEach es X.env)).any (·.1) = false := by rfl) : PE X (.Call (.Name x p) (e :: es) [] pos) (LE X G (dPrim f t)) :=
  PE.mono (pe_callTy hc hg hm hv ha hn hdb he hpl) fun σ H Q h => cb_run ok h
/-! ### tests -/
/-- a value that is True or False -/
def dB (t : DE) : DT := fun s Q X => t s (fun r s1 => match r with
  | .imm (.bl b) => Q b s1
  | _ => False) X
theorem tB_run {t : DE} {Q : Bool → Hp → Prop} (h : LT X G (dB t) σ H Q) : tB (LE X G t) σ H Q := by
  obtain ⟨c, W, s, F, Q', X', tk, hs, ht, hq, hx⟩ := h
  refine ⟨c, W, s, F, _, X', tk, hs, ht, fun r s1 v F1 H1 q1 g1 h1 => ?_, hx⟩
  split at q1
  · rename_i b
    obtain ⟨Mp, P, h1, o⟩ := h1
    exact ⟨b, o, hq _ s1 F1 H1 q1 g1 ⟨Mp, P, h1⟩⟩
  · exact False.elim q1
theorem dl_val {e : Expr} {t : DE} (h : PE X e (LE X G t)) (he : ∀ whole, isTrue e X.env whole = (do let v ← whole; standAt e.pos; holding [v] (truthy v)) := by intro _; rfl) : PT X e (LT X G (dB t)) := PT.mono (pt_val h he) fun σ H Q h => tB_run h
theorem dl_cmpT {op : CmpOp} {a b : Expr} {pos : Pos} {ta tb : DE} {r : R2} {f : PN} (ho : OpR X (compareOp op) r) (ok : OkP G (r2 r) f) (ha : PE X a (LE X G ta)) (hb : PE X b (LE X G tb)) (hm : behindInMarks op b = false) :
    PT X (.Compare a [op] [b] pos) (LT X G (dB (dPrim f (dCons ta (dCons tb dNil))))) := PT.mono (pt_cmpR ho ha hb hm) fun σ H Q h => by
  obtain ⟨c, W, s, F, Q', X', tk, hs, ht, hq, hx⟩ := h
  refine op2_run ok ⟨c, W, s, F, _, X', tk, hs, ht, fun r s1 v F1 H1 q1 g1 h1 => ?_, hx⟩
  split at q1
  · rename_i b
    obtain ⟨Mp, P, h1, o⟩ := h1
    exact ⟨b, o, hq _ s1 F1 H1 q1 g1 ⟨Mp, P, h1⟩⟩
  · exact False.elim q1
def dAnd (t u : DT) : DT := fun s Q X => t s (fun b s1 => if b = true then u s1 Q X else Q false s1) X
def dOr (t u : DT) : DT := fun s Q X => t s (fun b s1 => if b = true then Q true s1 else u s1 Q X) X
def dNot (t : DT) : DT := fun s Q X => t s (fun b s1 => Q (!b) s1) X
theorem and_run {t u : DT} {Q : Bool → Hp → Prop} (h : LT X G (dAnd t u) σ H Q) : tAnd (LT X G t) (LT X G u) σ H Q := by
  obtain ⟨c, W, s, F, Q', X', tk, hs, ht, hq, hx⟩ := h
  refine ⟨c, W, s, F, _, X', tk, hs, ht, fun b s1 F1 H1 q1 g1 h1 => ?_, hx⟩
  cases b with
  | true => exact ⟨c, W, s1, F1, Q', X', tk, h1, by simpa using q1, fun b s2 F2 H2 q2 g2 h2 => hq b s2 F2 H2 q2 (g1.trans g2) h2, hx.mono g1⟩
  | false => exact hq _ s1 F1 H1 (by simpa using q1) g1 h1
theorem or_run {t u : DT} {Q : Bool → Hp → Prop} (h : LT X G (dOr t u) σ H Q) : tOr (LT X G t) (LT X G u) σ H Q := by
  obtain ⟨c, W, s, F, Q', X', tk, hs, ht, hq, hx⟩ := h
  refine ⟨c, W, s, F, _, X', tk, hs, ht, fun b s1 F1 H1 q1 g1 h1 => ?_, hx⟩
  cases b with
  | false => exact ⟨c, W, s1, F1, Q', X', tk, h1, by simpa using q1, fun b s2 F2 H2 q2 g2 h2 => hq b s2 F2 H2 q2 (g1.trans g2) h2, hx.mono g1⟩
  | true => exact hq _ s1 F1 H1 (by simpa using q1) g1 h1
theorem dl_and1 {a : Expr} {pos : Pos} {t : DT} (ha : PT X a (LT X G t)) : PW X (.BoolOp .And [a] pos) (LT X G t) := pw_and1 ha
theorem dl_or1 {a : Expr} {pos : Pos} {t : DT} (ha : PT X a (LT X G t)) : PW X (.BoolOp .Or [a] pos) (LT X G t) := pw_or1 ha
theorem dl_and {a b : Expr} {rest : List Expr} {pos : Pos} {t u : DT} (ha : PT X a (LT X G t)) (hb : PW X (.BoolOp .And (b :: rest) pos) (LT X G u)) : PW X (.BoolOp .And (a :: b :: rest) pos) (LT X G (dAnd t u)) := PW.mono (pw_and ha hb) fun σ H Q h => and_run h
theorem dl_or {a b : Expr} {rest : List Expr} {pos : Pos} {t u : DT} (ha : PT X a (LT X G t)) (hb : PW X (.BoolOp .Or (b :: rest) pos) (LT X G u)) : PW X (.BoolOp .Or (a :: b :: rest) pos) (LT X G (dOr t u)) := PW.mono (pw_or ha hb) fun σ H Q h => or_run h
theorem dl_not {a : Expr} {pos : Pos} {t : DT} (ha : PT X a (LT X G t)) : PT X (.UnaryOp .Not a pos) (LT X G (dNot t)) := PT.mono (pt_not ha) fun σ H Q ⟨c, W, s, F, Q', X', tk, hs, ht, hq, hx⟩ =>
  ⟨c, W, s, F, _, X', tk, hs, ht, fun b s1 F1 H1 q1 g1 h1 => hq _ s1 F1 H1 q1 g1 h1, hx⟩
/-- as values -/
def dAndV (t u : DE) : DE := fun s Q X => t s (fun r s1 => match r with
  | .imm (.bl b) => if b = true then u s1 Q X else Q (.imm (.bl false)) s1
  | _ => False) X
def dOrV (t u : DE) : DE := fun s Q X => t s (fun r s1 => match r with
  | .imm (.bl b) => if b = true then Q (.imm (.bl true)) s1 else u s1 Q X
  | _ => False) X
def dNotV (t : DE) : DE := fun s Q X => t s (fun r s1 => match r with
  | .imm (.bl b) => Q (.imm (.bl (!b))) s1
  | _ => False) X
theorem dl_one {op} {a : Expr} {pos : Pos} {t : DE} (h : PE X a (LE X G t)) : PE X (.BoolOp op [a] pos) (LE X G t) := pe_one h
theorem dl_andV {a b : Expr} {rest : List Expr} {pos : Pos} {t u : DE} (ha : PE X a (LE X G t)) (hb : PE X (.BoolOp .And (b :: rest) pos) (LE X G u)) : PE X (.BoolOp .And (a :: b :: rest) pos) (LE X G (dAndV t u)) := PE.mono (pe_and ha hb) fun σ H Q ⟨c, W, s, F, Q', X', tk, hs, ht, hq, hx⟩ => by
  refine ⟨c, W, s, F, _, X', tk, hs, ht, fun r s1 v F1 H1 q1 g1 h1 => ?_, hx⟩
  split at q1
  · rename_i b
    obtain ⟨Mp, P, h1, o⟩ := h1
    refine ⟨b, o, ?_⟩
    cases b with
    | true => exact ⟨c, W, s1, F1, Q', X', tk, ⟨Mp, P, h1⟩, by simpa using q1, fun r s2 v F2 H2 q2 g2 h2 => hq r s2 v F2 H2 q2 (g1.trans g2) h2, hx.mono g1⟩
    | false => exact hq (.imm (.bl false)) s1 _ F1 H1 (by simpa using q1) g1 ⟨Mp, P, h1, rfl⟩
  · exact False.elim q1
theorem dl_orV {a b : Expr} {rest : List Expr} {pos : Pos} {t u : DE} (ha : PE X a (LE X G t)) (hb : PE X (.BoolOp .Or (b :: rest) pos) (LE X G u)) : PE X (.BoolOp .Or (a :: b :: rest) pos) (LE X G (dOrV t u)) := PE.mono (pe_or ha hb) fun σ H Q ⟨c, W, s, F, Q', X', tk, hs, ht, hq, hx⟩ => by
  refine ⟨c, W, s, F, _, X', tk, hs, ht, fun r s1 v F1 H1 q1 g1 h1 => ?_, hx⟩
  split at q1
  · rename_i b
    obtain ⟨Mp, P, h1, o⟩ := h1
    refine ⟨b, o, ?_⟩
    cases b with
    | false => exact ⟨c, W, s1, F1, Q', X', tk, ⟨Mp, P, h1⟩, by simpa using q1, fun r s2 v F2 H2 q2 g2 h2 => hq r s2 v F2 H2 q2 (g1.trans g2) h2, hx.mono g1⟩
    | true => exact hq (.imm (.bl true)) s1 _ F1 H1 (by simpa using q1) g1 ⟨Mp, P, h1, rfl⟩
  · exact False.elim q1
theorem dl_notV {a : Expr} {pos : Pos} {t : DE} (ha : PE X a (LE X G t)) : PE X (.UnaryOp .Not a pos) (LE X G (dNotV t)) := PE.mono (pe_not ha) fun σ H Q ⟨c, W, s, F, Q', X', tk, hs, ht, hq, hx⟩ => by
  refine ⟨c, W, s, F, _, X', tk, hs, ht, fun r s1 v F1 H1 q1 g1 h1 => ?_, hx⟩
  split at q1
  · rename_i b
    obtain ⟨Mp, P, h1, o⟩ := h1
    exact ⟨b, o, hq _ s1 _ F1 H1 q1 g1 ⟨Mp, P, h1, rfl⟩⟩
  · exact False.elim q1
def dIfE (t : DT) (a b : DE) : DE := fun s Q X => t s (fun k s1 => if k = true then a s1 Q X else b s1 Q X) X
theorem dl_ifE {k a b : Expr} {pos : Pos} {t : DT} {ta tb : DE} (hc : PT X k (LT X G t)) (ha : PE X a (LE X G ta)) (hb : PE X b (LE X G tb)) : PE X (.IfExp k a b pos) (LE X G (dIfE t ta tb)) := PE.mono (pe_ifExp hc ha hb) fun σ H Q ⟨c, W, s, F, Q', X', tk, hs, ht, hq, hx⟩ => by
  refine ⟨c, W, s, F, _, X', tk, hs, ht, fun b s1 F1 H1 q1 g1 h1 => ?_, hx⟩
  cases b with
  | true => exact ⟨c, W, s1, F1, Q', X', tk, h1, by simpa using q1, fun r s2 v F2 H2 q2 g2 h2 => hq r s2 v F2 H2 q2 (g1.trans g2) h2, hx.mono g1⟩
  | false => exact ⟨c, W, s1, F1, Q', X', tk, h1, by simpa using q1, fun r s2 v F2 H2 q2 g2 h2 => hq r s2 v F2 H2 q2 (g1.trans g2) h2, hx.mono g1⟩
/-! ### what is stored stands still -/
def sto1 (s : DSt) (r : RV) (k : D → DSt → Prop) : Prop := match r with
  | .imm d => k d s
  | .new d => k d s
  | .slot i => match s.sl[i]? with
    | some (some (.own d)) => k d { s with sl := s.sl.set i (some (.imm d)) }
    | some (some (.imm d)) => k d s
    | _ => False
def sto (s : DSt) : List RV → (List D → DSt → Prop) → Prop
  | [], k => k [] s
  | r :: rs, k => sto1 s r fun d s1 => sto s1 rs fun ds s2 => k (d :: ds) s2
theorem sto1_run {r : RV} {v : V} {k : D → DSt → Prop} (h : Holds G c s F σ H) (o : Opa G F σ r v) (q : sto1 s r k) : ∃ d s' F', Same F F' ∧ Holds G c s' F' σ H ∧ Rep G F' d v ∧ k d s' := by
  cases r with
  | imm d => exact ⟨d, s, F, Same.refl _, h, o, q⟩
  | new d => exact False.elim o
  | slot i =>
    unfold sto1 at q
    dsimp only at q
    obtain ⟨Mp, P, h⟩ := h
    have o' : σ[i]? = some (some v) := o
    split at q
    · rename_i d e
      obtain ⟨F', v', g, e', h', r'⟩ := h.frozeSlot e
      rw [o'] at e'
      cases (Option.some.inj (Option.some.inj e'))
      exact ⟨d, _, F', g, h', r', q⟩
    · rename_i d e
      obtain ⟨v', e1, r'⟩ := h.im i d e
      rw [o'] at e1
      cases (Option.some.inj (Option.some.inj e1))
      exact ⟨d, s, F, Same.refl _, ⟨Mp, P, h⟩, r', q⟩
    · exact False.elim q
theorem sto_run : ∀ {rs : List RV} {vs : List V} {s : DSt} {F : Hp} {k : List D → DSt → Prop}, Holds G c s F σ H → Opas G F σ rs vs → sto s rs k → ∃ ds s' F', Same F F' ∧ Holds G c s' F' σ H ∧ Reps G F' ds vs ∧ k ds s'
  | [], _, s, F, k, h, o, q => ⟨[], s, F, Same.refl _, h, o, q⟩
  | r :: rs, _, s, F, k, h, o, q => by
    obtain ⟨v, w, rfl, o1, o2⟩ := o
    obtain ⟨d, s1, F1, g1, h1, r1, q1⟩ := sto1_run h o1 q
    obtain ⟨ds, s2, F2, g2, h2, r2, q2⟩ := sto_run h1 (o2.mono g1) q1
    exact ⟨d :: ds, s2, F2, g1.trans g2, h2, Reps.cons (Rep.mono g2 _ _ r1) r2, q2⟩
/-! ### displays -/
def tTupF (t : TA) : TE := fun σ H Q => t σ H fun xs H1 => xs.length ≤ sizeLine ∧ ∀ p o, o.dict = none → H1 p = none → Q (.ref p) (upd H1 p (.frz o (.tup xs)))
theorem pe_tupF {es : List Expr} {t : TA} {x1} {pos : Pos} (h : PA X es t) : PE X (.Tuple es x1 pos) (tTupF t) := by
  refine ⟨fun pins s σ H Q I hq => ?_⟩
  refine wpAny_Tuple_spliced (thn (h.run pos pins s σ H _ I hq) fun us s1 ⟨xs, H1, I1, r, z, q⟩ => ⟨by rw [← r.length]; exact z, ?_⟩)
  have hf : H1 s1.heap.objs.size = none := I1.hok.fresh (Nat.le_refl _)
  refine ⟨.ref s1.heap.objs.size, upd H1 s1.heap.objs.size (.frz { cls := .type "tuple", data := .seq us.toArray } (.tup xs)), I1.laid (t' := s1.toks) (fun b u e => Heap.get?_push_of_some _ e) (Nat.le_refl _) ?_, rfl, q _ _ rfl hf⟩
  exact ⟨Heap.get?_push_size _ rfl, z, us, r, ⟨_, Heap.get?_push_size _ rfl, rfl, _, rfl⟩⟩
def dTup (t : DA) : DE := fun s Q X => t s (fun rs s1 => sto s1 rs fun ds s2 => ds.length ≤ sizeLine ∧ Q (.imm (.tup ds)) s2) X
def dLst (t : DA) : DE := fun s Q X => t s (fun rs s1 => sto s1 rs fun ds s2 => ds.length ≤ sizeLine ∧ Q (.new (.lst ds)) s2) X
theorem dl_tup {es : List Expr} {x1} {pos : Pos} {t : DA} (h : PA X es (LA X G t)) : PE X (.Tuple es x1 pos) (LE X G (dTup t)) := PE.mono (pe_tupF h) fun σ H Q ⟨c, W, s, F, Q', X', tk, hs, ht, hq, hx⟩ => by
  refine ⟨c, W, s, F, _, X', tk, hs, ht, fun rs s1 vs F1 H1 q1 g1 h1 o1 => ?_, hx⟩
  obtain ⟨ds, s2, F2, g2, h2, r2, hl, q2⟩ := sto_run h1 o1 q1
  refine ⟨by rw [← r2.length]; exact hl, fun p ob nd hp => ?_⟩
  obtain ⟨Mp, P, h2⟩ := h2
  have g3 := Grow.laid (o := .frz ob (.tup vs)) h2.fz hp
  refine hq _ s2 _ _ _ q2 ((g1.trans g2).trans g3.f) ⟨Mp, P, h2.grow g3, ?_⟩
  show Rep _ _ (.tup ds) _
  simp only [Rep]
  exact ⟨p, vs, rfl, .inl ⟨ob, upd_same, nd⟩, Reps.mono g3.f _ _ r2⟩
theorem dl_lst {es : List Expr} {pos : Pos} {t : DA} (h : PA X es (LA X G t)) : PE X (.List es pos) (LE X G (dLst t)) := PE.mono (pe_lst h) fun σ H Q ⟨c, W, s, F, Q', X', tk, hs, ht, hq, hx⟩ => by
  refine ⟨c, W, s, F, _, X', tk, hs, ht, fun rs s1 vs F1 H1 q1 g1 h1 o1 => ?_, hx⟩
  obtain ⟨ds, s2, F2, g2, h2, r2, hl, q2⟩ := sto_run h1 o1 q1
  refine ⟨by rw [← r2.length]; exact hl, fun p hp => ?_⟩
  obtain ⟨Mp, P, h2⟩ := h2
  have g3 := Grow.made (o := .lst vs) h2.fz hp
  exact hq _ s2 _ _ _ q2 ((g1.trans g2).trans g3.f) ⟨_, P, h2.made hp g3 upd_same (h2.fz.free hp) ⟨vs, rfl, r2⟩⟩
/-- a new thing comes into M -/
def dPub (t : DE) : DE := fun s Q X => t s (fun r s1 => match r with
  | .new (.tup _) => False
  | .new d => ∀ a, s1.M a = none → Q (.imm (.ref a)) { s1 with M := up s1.M a d }
  | .imm d => Q (.imm d) s1
  | .slot _ => False) X
theorem dl_pub {e : Expr} {t : DE} (h : PE X e (LE X G t)) : PE X e (LE X G (dPub t)) := PE.mono h fun σ H Q ⟨c, W, s, F, Q', X', tk, hs, ht, hq, hx⟩ => by
  refine ⟨c, W, s, F, _, X', tk, hs, ht, fun r s1 v F1 H1 q1 g1 h1 => ?_, hx⟩
  obtain ⟨Mp, P, h1, o⟩ := h1
  cases r with
  | imm d => exact hq _ s1 v F1 H1 q1 g1 ⟨Mp, P, h1, o⟩
  | slot i => exact False.elim q1
  | new d =>
    have q1 : ∀ a, s1.M a = none → Q' (.imm (.ref a)) { s1 with M := up s1.M a d } := by
      cases d with
      | tup _ => exact False.elim q1
      | _ => exact q1
    obtain ⟨p, rfl, hm, hM, hB, hP⟩ := o
    refine hq _ _ _ F1 H1 (q1 p hM) g1 ⟨Mp, P, ⟨h1.ext, h1.fz, h1.fr, h1.nw, h1.be, h1.bh, h1.mem, fun a e q => ?_, h1.len, h1.im, fun i e q => ?_, h1.inj⟩, rfl⟩
    · by_cases z : a = p
      · subst z
        have q' : up s1.M a d a = some e := q
        rw [up_same] at q'; cases q'
        exact hm
      · have q' : up s1.M p d a = some e := q
        rw [up_other z] at q'
        exact h1.sub a e q'
    · obtain ⟨a1, a2, a3⟩ := h1.ow i e q
      refine ⟨a1, a2, ?_⟩
      show up s1.M p d (P i) = none ∧ _
      rw [up_other (hP i e q)]
      exact a3
end
end DL

set_option Elab.async false
set_option linter.all false
set_option maxRecDepth 100000
set_option maxHeartbeats 4000000
namespace DL
open PySem L2 PL
section
variable {X : Cx} {G : Sig} {c : Fm} {W : WX} {s : DSt} {F F' H H' : Hp} {σ : St} {pos : Pos}
/-! ### targets -/
abbrev DG := RV → DSt → (DSt → Prop) → PX → Prop
def LG (X : Cx) (G : Sig) (g : DG) : TG := fun v σ H Q => ∃ c W s F r Q' X', Takes X W ∧ HoldsR G c s F σ H r v ∧ g r s Q' X' ∧ (∀ s' F' σ' H', Q' s' → Same F F' → Holds G c s' F' σ' H' → Q σ' H') ∧ ∀ σ', XPost G c W F σ' X'
def DSt.put (s : DSt) (i : Nat) (v : LV) : DSt := { s with sl := s.sl.set i (some v) }
def gN (i : Nat) : DG := fun r s Q _ => match r with
  | .imm d => Q (s.put i (.imm d))
  | .new (.tup ds) => Q (s.put i (.imm (.tup ds)))
  | .new d => Q (s.put i (.own d))
  | .slot j => sto1 s (.slot j) fun d s1 => Q (s1.put i (.imm d))
theorem Hold.putImm {Mp : DM} {P : Nat → Addr} (h : Hold G c s F σ H Mp P) {i : Nat} {d : D} {v : V} (r : Rep G F d v) : Hold G c (s.put i (.imm d)) F (σ.set i (some v)) H Mp P := by
  by_cases hi : i < s.sl.length
  · exact h.setImm r hi
  · have e1 : s.put i (.imm d) = s := by unfold DSt.put; rw [List.set_eq_of_length_le (by omega)]
    have e2 : σ.set i (some v) = σ := List.set_eq_of_length_le (by rw [h.len]; omega)
    rw [e1, e2]; exact h
theorem Hold.putOwn {Mp : DM} {P : Nat → Addr} (h : Hold G c s F σ H Mp P) {i : Nat} {d : D} {v : V} (o : Opd G c s F σ Mp P (.new d) v) : Holds G c (s.put i (.own d)) F (σ.set i (some v)) H := by
  by_cases hi : i < s.sl.length
  · obtain ⟨P', h'⟩ := h.setOwn o hi
    exact ⟨Mp, P', h'⟩
  · have e1 : s.put i (.own d) = s := by unfold DSt.put; rw [List.set_eq_of_length_le (by omega)]
    have e2 : σ.set i (some v) = σ := List.set_eq_of_length_le (by rw [h.len]; omega)
    rw [e1, e2]; exact ⟨Mp, P, h⟩
theorem gN_run {i : Nat} {r : RV} {v : V} {Q' : DSt → Prop} {X' : PX} (h : HoldsR G c s F σ H r v) (q : gN i r s Q' X') : ∃ s' F', Same F F' ∧ Holds G c s' F' (σ.set i (some v)) H ∧ Q' s' := by
  unfold gN at q
  split at q
  · obtain ⟨Mp, P, h, o⟩ := h
    exact ⟨_, F, Same.refl _, ⟨Mp, P, h.putImm o⟩, q⟩
  · obtain ⟨Mp, P, h, o⟩ := h
    obtain ⟨F', g, ⟨Mp', P', h'⟩, r'⟩ := h.froze o
    exact ⟨_, F', g, ⟨Mp', P', h'.putImm r'⟩, q⟩
  · obtain ⟨Mp, P, h, o⟩ := h
    exact ⟨_, F, Same.refl _, h.putOwn o, q⟩
  · have hh := h.holds
    obtain ⟨Mp, P, h, o⟩ := h
    obtain ⟨d, s1, F1, g1, ⟨Mp', P', h1⟩, r1, q1⟩ := sto1_run hh (show Opa G F σ (.slot _) v from o) q
    exact ⟨_, F1, g1, ⟨Mp', P', h1.putImm r1⟩, q1⟩
theorem PG.mono {e : Expr} {t u : TG} (h : PG X e t) (m : ∀ v σ H Q, u v σ H Q → t v σ H Q) : PG X e u := ⟨fun pins s σ H v w Q I r q => h.run pins s σ H v w Q I r (m v σ H Q q)⟩
theorem dg_name {e : Expr} {i : Nat} (h : PG X e (gName i)) : PG X e (LG X G (gN i)) := PG.mono h fun v σ H Q ⟨c, W, s, F, r, Q', X', tk, hs, ht, hq, hx⟩ => by
  obtain ⟨s', F', g, h', q⟩ := gN_run hs ht
  exact hq s' F' _ H q g h'
/-- several targets, of data -/
abbrev DGs := List D → DSt → (DSt → Prop) → PX → Prop
def LGs (X : Cx) (G : Sig) (g : DGs) : TGs := fun vs σ H Q => ∃ c W s F ds Q' X', Takes X W ∧ Holds G c s F σ H ∧ Reps G F ds vs ∧ g ds s Q' X' ∧ (∀ s' F' σ' H', Q' s' → Same F F' → Holds G c s' F' σ' H' → Q σ' H') ∧ ∀ σ', XPost G c W F σ' X'
def gsN : DGs := fun ds s Q _ => match ds with
  | [] => Q s
  | _ => False
def gsC (g : DG) (u : DGs) : DGs := fun ds s Q X => match ds with
  | d :: ds => g (.imm d) s (fun s1 => u ds s1 Q X) X
  | [] => False
theorem PGs.mono {e : List Expr} {t u : TGs} (h : PGs X e t) (m : ∀ v σ H Q, u v σ H Q → t v σ H Q) : PGs X e u := ⟨fun pins s σ H v w Q I r q => h.run pins s σ H v w Q I r (m v σ H Q q)⟩
theorem dgs_nil : PGs X [] (LGs X G gsN) := PGs.mono pgs_nil fun v σ H Q ⟨c, W, s, F, ds, Q', X', tk, hs, r, ht, hq, hx⟩ => by
  unfold gsN at ht
  split at ht
  · cases (show v = [] from r)
    exact ⟨rfl, hq s F σ H ht (Same.refl _) hs⟩
  · exact False.elim ht
theorem dgs_cons {e : Expr} {es : List Expr} {g : DG} {u : DGs} (h1 : PG X e (LG X G g)) (h2 : PGs X es (LGs X G u)) (hst : (assignEach (e :: es) X.env).map (·.2) = assign e X.env :: (assignEach es X.env).map (·.2) := by rfl) : PGs X (e :: es) (LGs X G (gsC g u)) :=
  PGs.mono (pgs_cons h1 h2 hst) fun v σ H Q ⟨c, W, s, F, ds, Q', X', tk, hs, r, ht, hq, hx⟩ => by
  unfold gsC at ht
  split at ht
  · obtain ⟨w, rr, rfl, a, b⟩ := r
    obtain ⟨Mp, P, hs⟩ := hs
    exact ⟨w, rr, rfl, c, W, s, F, .imm _, _, X', tk, ⟨Mp, P, hs, a⟩, ht, fun s1 F1 σ1 H1 q1 g1 h1 => ⟨c, W, s1, F1, _, Q', X', tk, h1, Reps.mono g1 _ _ b, q1, fun s2 F2 σ2 H2 q2 g2 h2 => hq s2 F2 σ2 H2 q2 (g1.trans g2) h2, fun σ' => (hx σ').mono g1⟩, hx⟩
  · exact False.elim ht
/-- (a, b, ..) = a tuple -/
def gT (n : Nat) (u : DGs) : DG := fun r s Q X => match r with
  | .imm (.tup ds) => ds.length = n ∧ u ds s Q X
  | .new (.tup ds) => ds.length = n ∧ u ds s Q X
  | _ => False
theorem dg_tup {es : List Expr} {k : Nat} {u : DGs} {n : Nat} (hc : X.calm = true) (hK : X.K = G.K) (h : PGs X es (LGs X G u)) (hn : (assignEach es X.env).length = n := by rfl) (hst : (assignEach es X.env).findIdx? (·.1) = none := by rfl) : PG X (.Tuple es k pos) (LG X G (gT n u)) :=
  PG.mono (pg_tup hc h hn hst) fun v σ H Q ⟨c, W, s, F, r, Q', X', tk, hs, ht, hq, hx⟩ => by
  have go : ∀ {ds : List D} {F1 : Hp}, Same F F1 → Holds G c s F1 σ H → Rep G F1 (.tup ds) v → ds.length = n → u ds s Q' X' → gTup X.K n (LGs X G u) v σ H Q := fun {ds F1} g hh rp hl hu => by
    simp only [Rep] at rp
    obtain ⟨a, vs, rfl, sq, rs⟩ := rp
    obtain ⟨Mp, P, h1⟩ := hh
    exact ⟨a, vs, rfl, by rw [hK]; exact (sq.mono h1.fz).sq, by rw [← rs.length]; exact hl, c, W, s, F1, ds, Q', X', tk, ⟨Mp, P, h1⟩, rs, hu, fun s2 F2 σ2 H2 q2 g2 h2 => hq s2 F2 σ2 H2 q2 (g.trans g2) h2, fun σ' => (hx σ').mono g⟩
  unfold gT at ht
  split at ht
  · obtain ⟨Mp, P, h1, o⟩ := hs
    exact go (Same.refl _) ⟨Mp, P, h1⟩ o ht.1 ht.2
  · obtain ⟨Mp, P, h1, o⟩ := hs
    obtain ⟨F', g, h', r'⟩ := h1.froze o
    exact go g h' r' ht.1 ht.2
  · exact False.elim ht
/-! ### statements -/
theorem XPost.all {x : PX} (h : ∀ σ', XPost G c W F σ' x) (g : Same F F') : ∀ σ', XPost G c W F' σ' x := fun σ' => (h σ').mono g
def dPass : DS := fun E s => E.nx s
def dSeq (t u : DS) : DS := fun E s => t { E with nx := fun s1 => u E s1 } s
def dRet (t : DE) : DS := fun E s => t s (fun r s1 => E.rt r s1) E.x
def dRetN : DS := fun E s => E.rt (.imm .non) s
def dExp (t : DE) : DS := fun E s => t s (fun _ s1 => E.nx s1) E.x
def dIf (t : DT) (a b : DS) : DS := fun E s => t s (fun k s1 => if k = true then a E s1 else b E s1) E.x
def dBrk : DS := fun E s => E.bk s
def dCnt : DS := fun E s => E.ct s
def dAsg (t : DE) (g : DG) : DS := fun E s => t s (fun r s1 => g r s1 E.nx E.x) E.x
theorem LS.mk' {D : Ends} {t : DS} {E' : DEnds} (tk : Takes X W) (hs : Holds G c s F σ H) (ht : t E' s) (hn : ∀ s' F' σ' H', E'.nx s' → Same F F' → Holds G c s' F' σ' H' → D.nx σ' H') (hr : ∀ r s' v F' σ' H', E'.rt r s' → Same F F' → HoldsR G c s' F' σ' H' r v → D.rt v H')
    (hb : ∀ s' F' σ' H', E'.bk s' → Same F F' → Holds G c s' F' σ' H' → D.bk σ' H') (hc : ∀ s' F' σ' H', E'.ct s' → Same F F' → Holds G c s' F' σ' H' → D.ct σ' H') (hx : ∀ σ', XPost G c W F σ' E'.x) : LS X G t D σ H := ⟨c, W, s, F, E', tk, hs, ht, hn, hr, hb, hc, hx⟩
/-- on with the same ends, a while later -/
theorem LS.go {D : Ends} {t : DS} {E' : DEnds} {F0 : Hp} (tk : Takes X W) (hs : Holds G c s F σ H) (ht : t E' s) (g : Same F0 F) (hn : ∀ s' F' σ' H', E'.nx s' → Same F0 F' → Holds G c s' F' σ' H' → D.nx σ' H') (hr : ∀ r s' v F' σ' H', E'.rt r s' → Same F0 F' → HoldsR G c s' F' σ' H' r v → D.rt v H')
    (hb : ∀ s' F' σ' H', E'.bk s' → Same F0 F' → Holds G c s' F' σ' H' → D.bk σ' H') (hc : ∀ s' F' σ' H', E'.ct s' → Same F0 F' → Holds G c s' F' σ' H' → D.ct σ' H') (hx : ∀ σ', XPost G c W F0 σ' E'.x) : LS X G t D σ H :=
  ⟨c, W, s, F, E', tk, hs, ht, fun s' F' σ' H' q g' h => hn s' F' σ' H' q (g.trans g') h, fun r s' v F' σ' H' q g' h => hr r s' v F' σ' H' q (g.trans g') h, fun s' F' σ' H' q g' h => hb s' F' σ' H' q (g.trans g') h, fun s' F' σ' H' q g' h => hc s' F' σ' H' q (g.trans g') h, XPost.all hx g⟩
theorem ds_pass : PS X (.Pass pos) (LS X G dPass) := PS.mono ps_pass fun D σ H ⟨c, W, s, F, E', tk, hs, ht, hn, hr, hb, hc, hx⟩ => hn s F σ H ht (Same.refl _) hs
theorem ds_brk : PS X (.Break pos) (LS X G dBrk) := PS.mono ps_break fun D σ H ⟨c, W, s, F, E', tk, hs, ht, hn, hr, hb, hc, hx⟩ => hb s F σ H ht (Same.refl _) hs
theorem ds_cnt : PS X (.Continue pos) (LS X G dCnt) := PS.mono ps_continue fun D σ H ⟨c, W, s, F, E', tk, hs, ht, hn, hr, hb, hc, hx⟩ => hc s F σ H ht (Same.refl _) hs
theorem dss_nil : PSs X [] (LS X G dPass) := PSs.mono pss_nil fun D σ H ⟨c, W, s, F, E', tk, hs, ht, hn, hr, hb, hc, hx⟩ => hn s F σ H ht (Same.refl _) hs
theorem dss_one {st : Stmt} {t : DS} (h : PS X st (LS X G t)) : PSs X [st] (LS X G t) := pss_one h
theorem dss_cons {st : Stmt} {rest : List Stmt} {t u : DS} (h1 : PS X st (LS X G t)) (h2 : PSs X rest (LS X G u)) : PSs X (st :: rest) (LS X G (dSeq t u)) := PSs.mono (pss_cons h1 h2) fun D σ H ⟨c, W, s, F, E', tk, hs, ht, hn, hr, hb, hc, hx⟩ =>
  LS.mk' (D := { D with nx := LS X G u D }) (E' := { E' with nx := fun s1 => u E' s1 }) tk hs ht (fun s1 F1 σ1 H1 q1 g1 h1 => LS.go tk h1 q1 g1 hn hr hb hc hx) hr hb hc hx
theorem ds_ret {e : Expr} {t : DE} (he : PE X e (LE X G t)) : PS X (.Return (some e) pos) (LS X G (dRet t)) := PS.mono (ps_ret he) fun D σ H ⟨c, W, s, F, E', tk, hs, ht, hn, hr, hb, hc, hx⟩ =>
  ⟨c, W, s, F, _, _, tk, hs, ht, fun r s1 v F1 H1 q1 g1 h1 => hr r s1 v F1 σ H1 q1 g1 h1, hx σ⟩
theorem ds_retN : PS X (.Return none pos) (LS X G dRetN) := PS.mono ps_retN fun D σ H ⟨c, W, s, F, E', tk, hs, ht, hn, hr, hb, hc, hx⟩ => by
  obtain ⟨Mp, P, hs⟩ := hs
  exact hr _ s _ F σ H ht (Same.refl _) ⟨Mp, P, hs, rfl⟩
theorem ds_exp {e : Expr} {t : DE} (he : PE X e (LE X G t)) (hsw : swapsWith e none pos.line X.env = pure false := by rfl) : PS X (.Expr e pos) (LS X G (dExp t)) := PS.mono (ps_expr he hsw) fun D σ H ⟨c, W, s, F, E', tk, hs, ht, hn, hr, hb, hc, hx⟩ =>
  ⟨c, W, s, F, _, _, tk, hs, ht, fun r s1 v F1 H1 q1 g1 h1 => hn s1 F1 σ H1 q1 g1 h1.holds, hx σ⟩
theorem ds_if {k : Expr} {a b : List Stmt} {t : DT} {u v : DS} (hk : PT X k (LT X G t)) (ha : PSs X a (LS X G u)) (hb : PSs X b (LS X G v)) : PS X (.If k a b pos) (LS X G (dIf t u v)) := PS.mono (ps_if hk ha hb) fun D σ H ⟨c, W, s, F, E', tk, hs, ht, hn, hr, hb, hc, hx⟩ => by
  refine ⟨c, W, s, F, _, _, tk, hs, ht, fun k s1 F1 H1 q1 g1 h1 => ?_, hx σ⟩
  cases k with
  | true => exact LS.go tk h1 (by simpa using q1) g1 hn hr hb hc hx
  | false => exact LS.go tk h1 (by simpa using q1) g1 hn hr hb hc hx
theorem asg_run {t : DE} {g : DG} {D : Ends} (h : LS X G (dAsg t g) D σ H) : tAsg (LE X G t) (LG X G g) D σ H := by
  obtain ⟨c, W, s, F, E', tk, hs, ht, hn, hr, hb, hc, hx⟩ := h
  exact ⟨c, W, s, F, _, _, tk, hs, ht, fun r s1 v F1 H1 q1 g1 h1 => ⟨c, W, s1, F1, r, _, _, tk, h1, q1, fun s2 F2 σ2 H2 q2 g2 h2 => hn s2 F2 σ2 H2 q2 (g1.trans g2) h2, XPost.all hx g1⟩, hx σ⟩
theorem ds_asg {tg e : Expr} {t : DE} {g : DG} (he : PE X e (LE X G t)) (hg : PG X tg (LG X G g)) (hs : swapsWithSole [tg] e pos.line X.env = pure false := by rfl) (hw : swappedStores [tg] e X.env = pure none := by rfl)
    (h1 : (assignEach [tg] X.env).map (·.2) = [assign tg X.env] := by rfl) : PS X (.Assign [tg] e pos) (LS X G (dAsg t g)) := PS.mono (ps_asg he hg hs hw h1) fun D σ H h => asg_run h
theorem ds_set {i : Nat} {x : Str} {e : Expr} {t : DE} {pos' : Pos} (hN : X.N.Nodup) (hi : X.N[i]? = some x) (hx : Loc X.env.scope x) (he : PE X e (LE X G t)) (hs : swapsWith e (some (.Name x pos')) pos.line X.env = pure false := by rfl) (hf : X.fn x = true ∨ X.env.scope.names.lookup x = some .local := by first | exact .inl rfl | exact .inr rfl | assumption) :
    PS X (.Assign [.Name x pos'] e pos) (LS X G (dAsg t (gN i))) := PS.mono (ps_set hN hi hx he hs hf) fun D σ H ⟨c, W, s, F, E', tk, hs, ht, hn, hr, hb, hc, hx⟩ =>
  ⟨c, W, s, F, _, _, tk, hs, ht, fun r s1 v F1 H1 q1 g1 h1 => by
    obtain ⟨s', F', g, h', q⟩ := gN_run h1 q1
    exact hn s' F' _ H1 q (g1.trans g) h', hx σ⟩
end
end DL

set_option Elab.async false
set_option linter.all false
set_option maxRecDepth 100000
set_option maxHeartbeats 4000000
namespace DL
open PySem PySem.Spec PyProof.Rows L2 PL
/-! ### what is walked, by values -/
def ItV (X : Cx) (tg : Expr) (r : V → Hp → (It → Hp → Prop) → Prop) : Prop := ∀ (pins : List (Addr × Obj)) (s : Shared) (σ : L2.St) (H : Hp) (x : V) (u : Value) (R : It → Hp → Prop) (E : Value → Shared → Prop), Inv X pins σ H s → RelV x u → r x H R → wpAny (model X.prog X.w) X.A (pyIter u) (PIE X pins σ tg R) E s
section
variable {X : Cx} {tg : Expr}
theorem ItV.or {r r' : V → Hp → (It → Hp → Prop) → Prop} (h : ItV X tg r) (h' : ItV X tg r') : ItV X tg (fun x H R => r x H R ∨ r' x H R) := fun pins s σ H x u R E I rx q => q.elim (h pins s σ H x u R E I rx) (h' pins s σ H x u R E I rx)
def vList (K : PySem.W.Frag) : V → Hp → (It → Hp → Prop) → Prop := fun x H R => ∃ a, x = .ref a ∧ (∃ xs, SqL K H a xs) ∧ R (Itl K a) H
def vTup (K : PySem.W.Frag) : V → Hp → (It → Hp → Prop) → Prop := fun x H R => ∃ a, x = .ref a ∧ (∃ xs, SqT K H a xs) ∧ R (Itt K a) H
def vStr : V → Hp → (It → Hp → Prop) → Prop := fun v H R => ∃ x, v = .str x ∧ R (Its x) H
theorem it_list : ItV X tg (vList X.K) := fun pins s1 σ H1 x u R E I1 r1 q1 => by
  obtain ⟨a, e, ⟨xs, hq⟩, q⟩ := q1
  subst e
  cases r1
  obtain ⟨its, rv, p, hz⟩ := I1.list hq
  refine wpAny_pyIter_list p.isList ?_
  refine ⟨s1.heap.objs.size, [s1.heap.objs.size], _, _, H1, rfl, I1.kept (t' := s1.toks) fun b o e => Heap.get?_push_of_some _ e, turn_list a _, ⟨_, Heap.get?_push_size _ rfl, rfl, rfl⟩, fun b hb => ?_, q⟩
  have e : b = s1.heap.objs.size := by simpa using hb
  subst e
  exact I1.fpOk (Nat.le_refl _) (I1.hok.fresh (Nat.le_refl _))
theorem it_tup : ItV X tg (vTup X.K) := fun pins s1 σ H1 x u R E I1 r1 q1 => by
  obtain ⟨a, e, ⟨xs, hq⟩, q⟩ := q1
  subst e
  cases r1
  obtain ⟨its, rv, p, hz⟩ := I1.tuple hq
  refine wpAny_pyIter_tuple (show s1.heap.IsTuple a its.toArray from p) ?_
  refine ⟨s1.heap.objs.size, [s1.heap.objs.size], _, _, H1, rfl, I1.kept (t' := s1.toks) fun b o e => Heap.get?_push_of_some _ e, turn_tuple a _, ⟨_, Heap.get?_push_size _ rfl, rfl, rfl⟩, fun b hb => ?_, q⟩
  have e : b = s1.heap.objs.size := by simpa using hb
  subst e
  exact I1.fpOk (Nat.le_refl _) (I1.hok.fresh (Nat.le_refl _))
theorem it_str : ItV X tg vStr := fun pins s1 σ H1 y u R E I1 r1 q1 => by
  obtain ⟨x, ex, q⟩ := q1
  subst ex
  obtain ⟨t, rfl⟩ := r1
  cases ha : x.cps.all (· < 128)
  · exact wpAny_pyIter_wide ha (pi_one (tk := s1.toks) I1 _ (turn_str _ x t "str_iterator" (.inr rfl)) ⟨_, Heap.get?_push_size _ rfl, rfl, rfl⟩ q)
  · exact wpAny_pyIter_ascii ha (pi_one (tk := s1.toks) I1 _ (turn_str _ x t "str_ascii_iterator" (.inl rfl)) ⟨_, Heap.get?_push_size _ rfl, rfl, rfl⟩ q)
def tIv (r : V → Hp → (It → Hp → Prop) → Prop) (t : TE) : TI := fun σ H R => t σ H fun x H1 => r x H1 R
theorem pi_v {e : Expr} {t : TE} {r : V → Hp → (It → Hp → Prop) → Prop} (h : ItV X tg r) (he : PE X e t) : PI X tg e (tIv r t) := ⟨fun pins s σ H R I q => thn (he.run pins s σ H _ I q) fun v s1 ⟨x, H1, I1, r1, q1⟩ => h pins s1 σ H1 x v R X.xe I1 r1 q1⟩
theorem PI.mono {e : Expr} {t u : TI} (h : PI X tg e t) (m : ∀ σ H R, u σ H R → t σ H R) : PI X tg e u := ⟨fun pins s σ H R I q => h.run pins s σ H R I (m σ H R q)⟩
end
section
variable {X : Cx} {G : Sig} {c : Fm} {W : WX} {s : DSt} {F F' H H' : Hp} {σ : L2.St} {pos : Pos}
/-! ### what is walked -/
structure DIt where
  xs : List D
  ok : DSt → Prop
abbrev DI := DSt → (DIt → DSt → Prop) → PX → Prop
/-- J tells what j says, as long as it is so -/
structure ItR (G : Sig) (F : Hp) (j : DIt) (J : It) : Prop where
  go : ∀ i c s F' σ H, i < j.xs.length → Same F F' → Holds G c s F' σ H → j.ok s → J.go i H
  stop : ∀ i c s F' σ H, j.xs.length ≤ i → Same F F' → Holds G c s F' σ H → j.ok s → J.stop i H
  yld : ∀ i c s F' σ H d x H', j.xs[i]? = some d → Same F F' → Holds G c s F' σ H → j.ok s → J.yld i H x H' → ∃ F2, Grow F' H F2 H' ∧ Rep G F2 d x
def LI (X : Cx) (G : Sig) (t : DI) : TI := fun σ H R => ∃ c W s F Q' X', Takes X W ∧ Holds G c s F σ H ∧ t s Q' X' ∧ (∀ j s' F' H' J, Q' j s' → Same F F' → Holds G c s' F' σ H' → ItR G F' j J → R J H') ∧ XPost G c W F σ X'
/-- a list, a tuple, a text -/
def dSq (t : DE) : DI := fun s Q X => t s (fun r s1 => sto1 s1 r.frz fun d s2 => optP (viewD s2.M d) fun e => match e with
  | .lst xs => Q ⟨xs, fun s => viewD s.M d = some (.lst xs)⟩ s2
  | .tup xs => Q ⟨xs, fun s => viewD s.M d = some (.tup xs)⟩ s2
  | .str x => Q ⟨x.cps.toList.map fun k => .str ⟨#[k]⟩, fun _ => True⟩ s2
  | _ => False) X
theorem sq_get {xs : List V} {i : Nat} {x : V} {ds : List D} {d : D} (r : Reps G F ds xs) (hd : ds[i]? = some d) (hx : xs[i]? = some x) : Rep G F d x := by
  obtain ⟨v, e, rv⟩ := r.get hd
  rw [hx] at e
  cases e
  exact rv
theorem dl_sq {tg e : Expr} {t : DE} (hK : X.K = G.K) (he : PE X e (LE X G t)) : PI X tg e (LI X G (dSq t)) :=
  PI.mono (pi_v ((it_list (tg := tg)).or (it_tup.or it_str)) he) fun σ H R ⟨c, W, s, F, Q', X', tk, hs, ht, hq, hx⟩ => by
  rw [hK]
  refine LE.op tk hs ht hx fun r s1 v F1 H1 q1 g1 h1 o1 => ?_
  obtain ⟨d, s2, F2, g2, h2, rp, q2⟩ := sto1_run h1 o1 q1
  have h2' := h2
  obtain ⟨Mp, P, h2'⟩ := h2'
  cases ev : viewD s2.M d with
  | none => rw [ev] at q2; exact False.elim q2
  | some e =>
    rw [ev] at q2
    dsimp only [optP] at q2
    have tp := h2'.topD rp ev
    have back : ∀ {s' : DSt} {F' : Hp} {c' : Fm} {σ' : L2.St} {H' : Hp}, Same F2 F' → Holds G c' s' F' σ' H' → viewD s'.M d = some e → Top G H' F' e v := fun {s' F' c' σ' H'} g hh hv => by
      obtain ⟨Mp', P', hh⟩ := hh
      exact hh.topD (Rep.mono g _ _ rp) hv
    split at q2
    · rename_i xs
      obtain ⟨a, vs, rfl, sq, rs⟩ := tp
      refine .inl ⟨a, rfl, ⟨vs, sq⟩, hq _ s2 F2 H1 _ q2 (g1.trans g2) h2 ⟨fun i c' s' F' σ' H' hi g hh hv => ?_, fun i c' s' F' σ' H' hi g hh hv => ?_, fun i c' s' F' σ' H' d' x H'' hd g hh hv y => ?_⟩⟩
      · obtain ⟨a', vs', ea, sq', rs'⟩ := back g hh hv
        cases ea
        have : i < vs'.length := by rw [← rs'.length]; exact hi
        exact ⟨vs', vs'[i], sq', List.getElem?_eq_getElem this⟩
      · obtain ⟨a', vs', ea, sq', rs'⟩ := back g hh hv
        cases ea
        exact ⟨vs', sq', by rw [← rs'.length]; exact hi⟩
      · obtain ⟨a', vs', ea, sq', rs'⟩ := back g hh hv
        cases ea
        obtain ⟨eH, y⟩ := y
        subst eH
        have hh' := hh
        obtain ⟨Mp', P', hh'⟩ := hh'
        exact ⟨F', Grow.refl hh'.fz, sq_get rs' hd (y vs' sq')⟩
    · rename_i xs
      have tp' : Rep G F2 (.tup xs) v := tp
      simp only [Rep] at tp'
      obtain ⟨a, vs, rfl, sqF, rs⟩ := tp'
      have sq := (sqF.mono h2'.fz).sq
      refine .inr (.inl ⟨a, rfl, ⟨vs, sq⟩, hq _ s2 F2 H1 _ q2 (g1.trans g2) h2 ⟨fun i c' s' F' σ' H' hi g hh hv => ?_, fun i c' s' F' σ' H' hi g hh hv => ?_, fun i c' s' F' σ' H' d' x H'' hd g hh hv y => ?_⟩⟩)
      · obtain ⟨vs', sq', rs'⟩ : ∃ vs', SqT G.K H' a vs' ∧ Reps G F' xs vs' := by
          have hh' := hh
          obtain ⟨Mp', P', hh'⟩ := hh'
          exact ⟨vs, (sqF.mono (g.trans hh'.fz)).sq, Reps.mono g _ _ rs⟩
        have : i < vs'.length := by rw [← rs'.length]; exact hi
        exact ⟨vs', vs'[i], sq', List.getElem?_eq_getElem this⟩
      · obtain ⟨vs', sq', rs'⟩ : ∃ vs', SqT G.K H' a vs' ∧ Reps G F' xs vs' := by
          have hh' := hh
          obtain ⟨Mp', P', hh'⟩ := hh'
          exact ⟨vs, (sqF.mono (g.trans hh'.fz)).sq, Reps.mono g _ _ rs⟩
        exact ⟨vs', sq', by rw [← rs'.length]; exact hi⟩
      · obtain ⟨vs', sq', rs'⟩ : ∃ vs', SqT G.K H' a vs' ∧ Reps G F' xs vs' := by
          have hh' := hh
          obtain ⟨Mp', P', hh'⟩ := hh'
          exact ⟨vs, (sqF.mono (g.trans hh'.fz)).sq, Reps.mono g _ _ rs⟩
        obtain ⟨eH, y⟩ := y
        subst eH
        have hh' := hh
        obtain ⟨Mp', P', hh'⟩ := hh'
        exact ⟨F', Grow.refl hh'.fz, sq_get rs' hd (y vs' sq')⟩
    · rename_i x
      have ex : v = .str x := tp
      refine .inr (.inr ⟨x, ex, hq _ s2 F2 H1 _ q2 (g1.trans g2) h2 ⟨fun i c' s' F' σ' H' hi g hh hv => ?_, fun i c' s' F' σ' H' hi g hh hv => ?_, fun i c' s' F' σ' H' d' y H'' hd g hh hv z => ?_⟩⟩)
      · show i < x.cps.size
        simpa using hi
      · show x.cps.size ≤ i
        simpa using hi
      · obtain ⟨eH, k, hk, ey⟩ := z
        subst eH ey
        have hh' := hh
        obtain ⟨Mp', P', hh'⟩ := hh'
        refine ⟨F', Grow.refl hh'.fz, ?_⟩
        rw [List.getElem?_map] at hd
        rw [Array.getElem?_toList, hk] at hd
        cases hd
        rfl
    · exact False.elim q2
/-- range -/
def rng (lo : Int) (n : Nat) : List D := (List.range n).map fun (i : Nat) => .int (lo + i)
def dRg1 (t : DA) : DI := fun s Q X => t s (fun rs s1 => vw s1 rs fun ds => match ds with
  | [.int j] => -(2 ^ 62) ≤ j ∧ j < 2 ^ 62 ∧ Q ⟨rng 0 j.toNat, fun _ => True⟩ s1
  | _ => False) X
def dRg2 (t : DA) : DI := fun s Q X => t s (fun rs s1 => vw s1 rs fun ds => match ds with
  | [.int i, .int j] => (-(2 ^ 62) ≤ i ∧ i < 2 ^ 62 ∧ -(2 ^ 62) ≤ j ∧ j < 2 ^ 62) ∧ Q ⟨rng i (j - i).toNat, fun _ => True⟩ s1
  | _ => False) X
theorem itR_rng {lo : Int} {n : Nat} : ItR G F ⟨rng lo n, fun _ => True⟩ (Itr lo n) := by
  refine ⟨fun i c' s' F' σ' H' hi g hh hv => ?_, fun i c' s' F' σ' H' hi g hh hv => ?_, fun i c' s' F' σ' H' d' y H'' hd g hh hv z => ?_⟩
  · show i < n
    simpa [rng] using hi
  · show n ≤ i
    simpa [rng] using hi
  · obtain ⟨eH, ey⟩ := z
    subst eH ey
    obtain ⟨Mp', P', hh'⟩ := hh
    refine ⟨F', Grow.refl hh'.fz, ?_⟩
    have hd' : (rng lo n)[i]? = some d' := hd
    unfold rng at hd'
    rw [List.getElem?_map, Option.map_eq_some_iff] at hd'
    obtain ⟨k, hk, rfl⟩ := hd'
    rw [List.getElem?_range (by have := (List.getElem?_eq_some_iff.mp hk).1; simpa using this)] at hk
    cases hk
    rfl
theorem dl_rg1 {tg a : Expr} {t : DA} {p pos : Pos} (hg : Gl X "range") (hm : X.mg "range" = none) (ha : PA X [a] (LA X G t)) (hst : starEach [a] X.env = [(false, eval a X.env)] := by rfl) : PI X tg (.Call (.Name "range" p) [a] [] pos) (LI X G (dRg1 t)) :=
  PI.mono (pi_range1 hg hm ha hst) fun σ H R ⟨c, W, s, F, Q', X', tk, hs, ht, hq, hx⟩ => ⟨c, W, s, F, _, X', tk, hs, ht, fun rs s1 vs F1 H1 q1 g1 h1 o1 => by
    have h1' := h1
    obtain ⟨Mp, P, h1'⟩ := h1'
    obtain ⟨ds, tp, k⟩ := vw_tops h1' o1 q1
    split at k
    · obtain ⟨v, w, rfl, tv, tw⟩ := tp
      cases (show w = [] from tw)
      exact ⟨_, by rw [show v = .int _ from tv], k.1, k.2.1, hq _ s1 F1 H1 _ k.2.2 g1 h1 itR_rng⟩
    · exact False.elim k, hx⟩
theorem dl_rg2 {tg a b : Expr} {t : DA} {p pos : Pos} (hg : Gl X "range") (hm : X.mg "range" = none) (ha : PA X [a, b] (LA X G t)) (hst : starEach [a, b] X.env = [(false, eval a X.env), (false, eval b X.env)] := by rfl) (hs2 : starEach [b] X.env = [(false, eval b X.env)] := by rfl) : PI X tg (.Call (.Name "range" p) [a, b] [] pos) (LI X G (dRg2 t)) :=
  PI.mono (pi_range2 hg hm ha hst hs2) fun σ H R ⟨c, W, s, F, Q', X', tk, hs, ht, hq, hx⟩ => ⟨c, W, s, F, _, X', tk, hs, ht, fun rs s1 vs F1 H1 q1 g1 h1 o1 => by
    have h1' := h1
    obtain ⟨Mp, P, h1'⟩ := h1'
    obtain ⟨ds, tp, k⟩ := vw_tops h1' o1 q1
    split at k
    · obtain ⟨v, w, rfl, tv, v2, w2, rfl, tv2, tw⟩ := tp
      cases (show w2 = [] from tw)
      exact ⟨_, _, by rw [show v = .int _ from tv, show v2 = .int _ from tv2], k.1, hq _ s1 F1 H1 _ k.2 g1 h1 itR_rng⟩
    · exact False.elim k, hx⟩
/-! ### for -/
def forL (ok : DSt → Prop) (g : DG) (b : DS) (E : DEnds) : List D → DSt → Prop
  | [], s => ok s ∧ E.nx s
  | d :: ds, s => ok s ∧ g (.imm d) s (fun s2 => b { E with nx := fun s3 => forL ok g b E ds s3, ct := fun s3 => forL ok g b E ds s3, bk := E.nx } s2) E.x
def dFor (it : DI) (g : DG) (b : DS) : DS := fun E s => it s (fun j s1 => forL j.ok g b E j.xs s1) E.x
theorem ds_for {tg iter : Expr} {body : List Stmt} {it : DI} {g : DG} {b : DS} (hp : PassesOwn (model X.prog X.w) X.A X.env X.xe) (hc : X.calm = true) (hi : PI X tg iter (LI X G it)) (hg : PG X tg (LG X G g)) (hb : PSs X body (LS X G b))
    (hsx : ∀ x, foldedSetIterable iter X.env x = pure x := by intro _; rfl) : PS X (.For tg iter body [] pos) (LS X G (dFor it g b)) := PS.mono (ps_for hp hc hi hg hb hsx) fun D σ H ⟨c, W, s, F, E', tk, hs, ht, hn, hr, hb, hc, hx⟩ => by
  refine ⟨c, W, s, F, _, _, tk, hs, ht, fun j s1 F1 H1 J q1 g1 h1 jr => ?_, hx σ⟩
  refine ⟨fun i m σ' H' => m = j.xs.length - i ∧ i ≤ j.xs.length ∧ ∃ s' F', Same F1 F' ∧ Holds G c s' F' σ' H' ∧ forL j.ok g b E' (j.xs.drop i) s', ⟨j.xs.length, by simp, Nat.zero_le _, s1, F1, Same.refl _, h1, by simpa using q1⟩, ?_⟩
  rintro i m σ' H' ⟨rfl, hi, s', F', g', h', q'⟩
  by_cases hlt : i < j.xs.length
  · rw [List.drop_eq_getElem_cons hlt] at q'
    obtain ⟨ok', q'⟩ := q'
    refine .inr ⟨jr.go i c s' F' σ' H' hlt g' h' ok', fun σ2 H2 => i + 1 ≤ j.xs.length ∧ ∃ s2 F2, Same F1 F2 ∧ Holds G c s2 F2 σ2 H2 ∧ forL j.ok g b E' (j.xs.drop (i + 1)) s2, fun σ2 H2 n2 => ⟨j.xs.length - (i + 1), by omega, rfl, n2⟩, fun x H2 y => ?_⟩
    obtain ⟨F2, g2, rp⟩ := jr.yld i c s' F' σ' H' _ x H2 (List.getElem?_eq_getElem hlt) g' h' ok' y
    obtain ⟨Mp, P, h'⟩ := h'
    have gg : Same F F2 := (g1.trans g').trans g2.f
    refine ⟨c, W, s', F2, .imm _, _, _, tk, ⟨Mp, P, h'.grow g2, rp⟩, q', fun s3 F3 σ3 H3 q3 g3 h3 => ?_, XPost.all hx gg⟩
    refine ⟨c, W, s3, F3, _, tk, h3, q3, fun s4 F4 σ4 H4 q4 g4 h4 => ⟨hlt, s4, F4, ((g'.trans g2.f).trans g3).trans g4, h4, q4⟩, fun r s4 v F4 σ4 H4 q4 g4 h4 => hr r s4 v F4 σ4 H4 q4 ((gg.trans g3).trans g4) h4, fun s4 F4 σ4 H4 q4 g4 h4 => hn s4 F4 σ4 H4 q4 ((gg.trans g3).trans g4) h4, fun s4 F4 σ4 H4 q4 g4 h4 => ⟨hlt, s4, F4, ((g'.trans g2.f).trans g3).trans g4, h4, q4⟩, XPost.all hx (gg.trans g3)⟩
  · have e : i = j.xs.length := by omega
    subst e
    rw [List.drop_length] at q'
    exact .inl ⟨jr.stop _ c s' F' σ' H' (Nat.le_refl _) g' h' q'.1, hn s' F' σ' H' q'.2 (g1.trans g') h'⟩
/-! ### while -/
def dWhl (t : DT) (b : DS) : DS := fun E s => ∃ I : Nat → DSt → Prop, (∃ m, I m s) ∧ ∀ m s, I m s → t s (fun k s1 => if k = true then b { E with nx := fun s2 => ∃ m', m' < m ∧ I m' s2, ct := fun s2 => ∃ m', m' < m ∧ I m' s2, bk := E.nx } s1 else E.nx s1) E.x
theorem ds_whl {k : Expr} {body : List Stmt} {t : DT} {b : DS} (hp : PassesOwn (model X.prog X.w) X.A X.env X.xe) (hk : PT X k (LT X G t)) (hb : PSs X body (LS X G b)) : PS X (.While k body [] pos) (LS X G (dWhl t b)) := PS.mono (ps_while hp hk hb) fun D σ H ⟨c, W, s, F, E', tk, hs, ht, hn, hr, hb, hc, hx⟩ => by
  obtain ⟨I, ⟨m0, i0⟩, turn⟩ := ht
  refine ⟨fun m σ' H' => ∃ s' F', Same F F' ∧ Holds G c s' F' σ' H' ∧ I m s', ⟨m0, s, F, Same.refl _, hs, i0⟩, ?_⟩
  rintro m σ' H' ⟨s', F', g', h', i'⟩
  refine ⟨c, W, s', F', _, _, tk, h', turn m s' i', fun k s1 F1 H1 q1 g1 h1 => ?_, (hx σ').mono g'⟩
  cases k with
  | false => exact hn s1 F1 σ' H1 (by simpa using q1) (g'.trans g1) h1
  | true =>
    refine ⟨fun σ2 H2 => ∃ m', m' < m ∧ ∃ s' F', Same F F' ∧ Holds G c s' F' σ2 H2 ∧ I m' s', fun σ2 H2 n2 => n2, ?_⟩
    have q1' := q1
    simp only [if_true] at q1'
    refine ⟨c, W, s1, F1, _, tk, h1, q1', fun s4 F4 σ4 H4 ⟨m', hm, q4⟩ g4 h4 => ⟨m', hm, s4, F4, (g'.trans g1).trans g4, h4, q4⟩, fun r s4 v F4 σ4 H4 q4 g4 h4 => hr r s4 v F4 σ4 H4 q4 ((g'.trans g1).trans g4) h4, fun s4 F4 σ4 H4 q4 g4 h4 => hn s4 F4 σ4 H4 q4 ((g'.trans g1).trans g4) h4, fun s4 F4 σ4 H4 ⟨m', hm, q4⟩ g4 h4 => ⟨m', hm, s4, F4, (g'.trans g1).trans g4, h4, q4⟩, XPost.all hx (g'.trans g1)⟩
end
end DL

set_option Elab.async false
set_option linter.all false
set_option maxRecDepth 100000
set_option maxHeartbeats 4000000
namespace DL
open PySem L2 PL
/-! ### comprehensions -/
def wipeL (sl : List (Option LV)) : List Nat → List (Option LV)
  | [] => sl
  | v :: vs => (wipeL sl vs).set v none
def DSt.wipe (s : DSt) (vs : List Nat) : DSt := { s with sl := wipeL s.sl vs }
theorem wipeL_length (sl : List (Option LV)) : ∀ vs, (wipeL sl vs).length = sl.length
  | [] => rfl
  | v :: vs => by unfold wipeL; rw [List.length_set, wipeL_length sl vs]
theorem wipeL_some {sl : List (Option LV)} {i : Nat} {x : LV} : ∀ {vs : List Nat}, (wipeL sl vs)[i]? = some (some x) → sl[i]? = some (some x) ∧ i ∉ vs
  | [], h => ⟨h, by simp⟩
  | v :: vs, h => by
    unfold wipeL at h
    by_cases hi : v = i
    · subst hi
      by_cases hv : v < (wipeL sl vs).length
      · rw [List.getElem?_set_self hv] at h; cases h
      · rw [List.getElem?_eq_none (by simpa using hv)] at h; cases h
    · rw [List.getElem?_set_ne hi] at h
      obtain ⟨h1, h2⟩ := wipeL_some h
      exact ⟨h1, by simp only [List.mem_cons, not_or]; exact ⟨fun e => hi e.symm, h2⟩⟩
theorem wipe_at {σ : St} {i : Nat} : ∀ {vs : List Nat}, i ∉ vs → (wipe σ vs)[i]? = σ[i]?
  | [], _ => rfl
  | v :: vs, h => by
    simp only [List.mem_cons, not_or] at h
    unfold wipe
    rw [List.getElem?_set_ne (Ne.symm h.1)]
    exact wipe_at h.2
theorem wipe_set {σ : St} {i : Nat} {x : Option V} {vs : List Nat} (h : i ∈ vs) : wipe (σ.set i x) vs = wipe σ vs := by
  induction vs with
  | nil => simp at h
  | cons v vs ih =>
    unfold wipe
    by_cases hi : i ∈ vs
    · rw [ih hi]
    · have hv : i = v := by simp only [List.mem_cons] at h; exact h.resolve_right hi
      subst hv
      have : ∀ (τ : St) (ws : List Nat), i ∉ ws → wipe (τ.set i x) ws = (wipe τ ws).set i x := by
        intro τ ws
        induction ws with
        | nil => intro _; rfl
        | cons w ws ih2 =>
          intro hn
          simp only [List.mem_cons, not_or] at hn
          unfold wipe
          rw [ih2 hn.2, List.set_comm _ _ hn.1]
      rw [this σ vs hi, List.set_set]
theorem wipe_wipe {σ : St} : ∀ {vs ws : List Nat}, (∀ v ∈ ws, v ∈ vs) → wipe (wipe σ ws) vs = wipe σ vs
  | vs, [], _ => rfl
  | vs, w :: ws, h => by
    show wipe ((wipe σ ws).set w none) vs = _
    rw [wipe_set (h w (by simp)), wipe_wipe fun v hv => h v (by simp [hv])]
section
variable {X : Cx} {G : Sig} {c : Fm} {W : WX} {s : DSt} {F F' H H' : Hp} {σ : St} {pos : Pos}
theorem Holds.wipe (h : Holds G c s F σ H) (vs : List Nat) : Holds G c (s.wipe vs) F (L2.wipe σ vs) H := by
  obtain ⟨Mp, P, h⟩ := h
  refine ⟨Mp, P, h.ext, h.fz, h.fr, h.nw, h.be, h.bh, h.mem, h.sub, ?_, fun i d q => ?_, fun i d q => ?_, fun i j d e q q' => h.inj i j d e (wipeL_some q).1 (wipeL_some q').1⟩
  · rw [wipe_length]; show _ = (wipeL s.sl vs).length; rw [wipeL_length]; exact h.len
  · obtain ⟨q1, q2⟩ := wipeL_some q
    rw [wipe_at q2]
    exact h.im i d q1
  · obtain ⟨q1, q2⟩ := wipeL_some q
    rw [wipe_at q2]
    exact h.ow i d q1
theorem Holds.unwipe {vs : List Nat} (h : Holds G c (s.wipe vs) F (L2.wipe σ vs) H) : Holds G c (s.wipe vs) F σ H := by
  obtain ⟨Mp, P, h⟩ := h
  refine ⟨Mp, P, h.ext, h.fz, h.fr, h.nw, h.be, h.bh, h.mem, h.sub, ?_, fun i d q => ?_, fun i d q => ?_, h.inj⟩
  · rw [← h.len, wipe_length]
  · have := h.im i d q
    rw [wipe_at (wipeL_some q).2] at this
    exact this
  · have := h.ow i d q
    rw [wipe_at (wipeL_some q).2] at this
    exact this
/-- what is made is put beside -/
def Fm.park (c : Fm) (p : Addr) (o : HO) : Fm := ⟨upd c.E p o, c.F0, upd c.B p o⟩
theorem Hold.park {Mp : DM} {P : Nat → Addr} {p : Addr} {d : D} {o : HO} (h : Hold G c s F σ H Mp P) (hm : Mp p = some d) (hM : s.M p = none) (hP : ∀ (i : Nat) (e : D), s.sl[i]? = some (some (LV.own e)) → P i ≠ p) (ho : H p = some o) : Hold G (c.park p o) s F σ H (del Mp p) P := by
  obtain ⟨n1, n2, ob, ho', hc⟩ := h.mem p d hm
  have ef : ∀ (K : Hp) a, a ≠ p → upd K p o a = K a := fun K a z => upd_ne z
  refine ⟨h.ext, h.fz, fun a u e => ?_, fun a u q => ?_, fun a e q => ?_, fun a b q => ?_, fun a e q => ?_, fun a e q => ?_, h.len, h.im, fun i e q => ?_, h.inj⟩
  · by_cases z : a = p
    · subst z
      have e' : upd c.E a o a = some u := e
      rw [upd_same] at e'; rw [ho]; exact e'
    · exact h.fr _ _ ((ef c.E a z).symm.trans e)
  · have z : a ≠ p := fun z => by subst z; rw [n1] at q; cases q
    rcases h.nw a u q with r | r
    · exact .inl r
    · exact .inr ((ef c.B a z).trans r)
  · by_cases z : a = p
    · subst z; exact ⟨o, upd_same⟩
    · obtain ⟨b, hb⟩ := h.be a e ((ef c.E a z).symm.trans q)
      exact ⟨b, (ef c.B a z).trans hb⟩
  · by_cases z : a = p
    · subst z; exact ⟨o, ho⟩
    · exact h.bh a b ((ef c.B a z).symm.trans q)
  · unfold del at q
    split at q
    · cases q
    · rename_i z
      obtain ⟨m1, m2, o', m3, m4⟩ := h.mem a e q
      exact ⟨m1, (ef c.E a z).trans m2, o', m3, m4⟩
  · have z : a ≠ p := fun z => by subst z; rw [hM] at q; cases q
    unfold del
    rw [if_neg z]
    exact h.sub a e q
  · obtain ⟨a1, a2, a3, a4⟩ := h.ow i e q
    refine ⟨a1, ?_, a3, (ef c.B _ (hP i e q)).trans a4⟩
    unfold del
    rw [if_neg (hP i e q)]
    exact a2
theorem Holds.unpark {p : Addr} {d : D} {o : HO} (h : Holds G (c.park p o) s F σ H) (nE : c.E p = none) (nB : c.B p = none) (nF : c.F0 p = none) (hc : CellAt G F o d) : HoldsR G c s F σ H (.new d) (.ref p) ∧ H p = some o ∧ F p = none := by
  obtain ⟨Mp, P, h⟩ := h
  have ef : ∀ (K : Hp) a, a ≠ p → upd K p o a = K a := fun K a z => upd_ne z
  have eP : (c.park p o).E p = some o := upd_same
  have eB : (c.park p o).B p = some o := upd_same
  have ho : H p = some o := h.fr p o eP
  have nf : F p = none := by
    cases z : F p with
    | none => rfl
    | some u =>
      rcases h.nw p u z with ⟨o', z'⟩ | z'
      · have z'' : c.F0 p = some o' := z'
        rw [nF] at z''; cases z''
      · rw [eB] at z'; cases z'
  have nm : ∀ a e, Mp a = some e → a ≠ p := fun a e q z => by
    subst z
    obtain ⟨_, m2, _⟩ := h.mem a e q
    rw [eP] at m2; cases m2
  refine ⟨⟨up Mp p d, P, ⟨h.ext, h.fz, fun a u e => ?_, fun a u q => ?_, fun a e q => ?_, fun a b q => ?_, fun a e q => ?_, fun a e q => ?_, h.len, h.im, fun i e q => ?_, h.inj⟩, p, rfl, up_same, ?_, nB, fun i e q => ?_⟩, ho, nf⟩
  · have z : a ≠ p := fun z => by subst z; rw [nE] at e; cases e
    exact h.fr a u ((ef c.E a z).trans e)
  · have z : a ≠ p := fun z => by subst z; rw [nf] at q; cases q
    rcases h.nw a u q with r | r
    · exact .inl r
    · exact .inr ((ef c.B a z).symm.trans r)
  · have z : a ≠ p := fun z => by subst z; rw [nE] at q; cases q
    obtain ⟨b, hb⟩ := h.be a e ((ef c.E a z).trans q)
    exact ⟨b, (ef c.B a z).symm.trans hb⟩
  · have z : a ≠ p := fun z => by subst z; rw [nB] at q; cases q
    exact h.bh a b ((ef c.B a z).trans q)
  · by_cases z : a = p
    · subst z
      rw [up_same] at q; cases q
      exact ⟨nf, nE, o, ho, hc⟩
    · rw [up_other z] at q
      obtain ⟨m1, m2, o', m3, m4⟩ := h.mem a e q
      exact ⟨m1, (ef c.E a z).symm.trans m2, o', m3, m4⟩
  · rw [up_other (nm a e (h.sub a e q))]; exact h.sub a e q
  · obtain ⟨a1, a2, a3, a4⟩ := h.ow i e q
    have z := nm _ _ a2
    exact ⟨a1, by rw [up_other z]; exact a2, a3, (ef c.B _ z).symm.trans a4⟩
  · cases z : s.M p with
    | none => rfl
    | some e => exact absurd rfl (nm p e (h.sub p e z))
  · exact nm _ _ (h.ow i e q).2.1
/-- by a wish told -/
def WF : WX := fun _ _ _ _ => False
def PXF : PX := fun _ _ => False
def LEw (G : Sig) (t : DE) : TE := fun σ H Q => ∃ c s F Q', Holds G c s F σ H ∧ t s Q' PXF ∧ (∀ r s' v F' H', Q' r s' → Same F F' → HoldsR G c s' F' σ H' r v → Q v H')
def LTw (G : Sig) (t : DT) : TT := fun σ H Q => ∃ c s F Q', Holds G c s F σ H ∧ t s Q' PXF ∧ (∀ b s' F' H', Q' b s' → Same F F' → Holds G c s' F' σ H' → Q b H')
theorem takesF : Takes X WF := fun u s' ⟨a, B, sI, pins, σ, H, cls, d, e, I, nb, up, sky, na, os, ag, w⟩ => False.elim w
theorem xpF : XPost G c WF F σ PXF := fun e s' d F1 H1 q => False.elim q
theorem PE.w {e : Expr} {t : DE} (h : PE X e (LE X G t)) : PE X e (LEw G t) := PE.mono h fun σ H Q ⟨c, s, F, Q', hs, ht, hq⟩ => ⟨c, WF, s, F, Q', PXF, takesF, hs, ht, hq, xpF⟩
theorem PT.w {e : Expr} {t : DT} (h : PT X e (LT X G t)) : PT X e (LTw G t) := PT.mono h fun σ H Q ⟨c, s, F, Q', hs, ht, hq⟩ => ⟨c, WF, s, F, Q', PXF, takesF, hs, ht, hq, xpF⟩
/-- the targets of a comprehension: names -/
inductive TgN : TG → DG → List Nat → Prop
  | one (i : Nat) : TgN (gName i) (gN i) [i]
/-- a raw target whose slots are all in vs -/
def TgOk (G : Sig) (g : TG) (dg : DG) (vs : List Nat) : Prop := ∀ {c : Fm} {s : DSt} {F H : Hp} {σ : St} {d : D} {v : V} {Q' : DSt → Prop} {R : St → Hp → Prop}, Holds G c s F σ H → Rep G F d v → dg (.imm d) s Q' PXF → (∀ s' σ', L2.wipe σ' vs = L2.wipe σ vs → Q' s' → Holds G c s' F σ' H → R σ' H) → g v σ H R
theorem tg_name {i : Nat} {vs : List Nat} (hi : i ∈ vs) : TgOk G (gName i) (gN i) vs := fun {c s F H σ d v Q' R} h r q k => by
  obtain ⟨Mp, P, h⟩ := h
  exact k _ _ (wipe_set hi) q ⟨Mp, P, h.putImm r⟩
def TgsOk (G : Sig) (g : TGs) (dg : DGs) (vs : List Nat) : Prop := ∀ {c : Fm} {s : DSt} {F H : Hp} {σ : St} {ds : List D} {ws : List V} {Q' : DSt → Prop} {R : St → Hp → Prop}, Holds G c s F σ H → Reps G F ds ws → dg ds s Q' PXF → (∀ s' σ', L2.wipe σ' vs = L2.wipe σ vs → Q' s' → Holds G c s' F σ' H → R σ' H) → g ws σ H R
theorem tgs_nil {vs : List Nat} : TgsOk G gNil gsN vs := fun {c s F H σ ds ws Q' R} h r q k => by
  unfold gsN at q
  split at q
  · cases (show ws = [] from r)
    exact ⟨rfl, k _ _ rfl q h⟩
  · exact False.elim q
theorem tgs_cons {g : TG} {dg : DG} {u : TGs} {du : DGs} {vs : List Nat} (h1 : TgOk G g dg vs) (h2 : TgsOk G u du vs) : TgsOk G (gCons g u) (gsC dg du) vs := fun {c s F H σ ds ws Q' R} h r q k => by
  unfold gsC at q
  split at q
  · obtain ⟨v, w, rfl, a, b⟩ := r
    exact ⟨v, w, rfl, h1 h a q fun s1 σ1 e1 q1 h1' => h2 h1' b q1 fun s2 σ2 e2 q2 h2' => k s2 σ2 (e2.trans e1) q2 h2'⟩
  · exact False.elim q
theorem tg_tup {u : TGs} {du : DGs} {vs : List Nat} {n : Nat} {K : PySem.W.Frag} (hK : K = G.K) (h : TgsOk G u du vs) : TgOk G (gTup K n u) (gT n du) vs := fun {c s F H σ d v Q' R} hh r q k => by
  unfold gT at q
  split at q
  · rename_i ds e
    cases e
    simp only [Rep] at r
    obtain ⟨a, ws, rfl, sq, rs⟩ := r
    have hh' := hh
    obtain ⟨Mp, P, hh'⟩ := hh'
    exact ⟨a, ws, rfl, by rw [hK]; exact (sq.mono hh'.fz).sq, by rw [← rs.length]; exact q.1, h hh rs q.2 k⟩
  · rename_i e; cases e
  · exact False.elim q
def compL (ok : DSt → Prop) (g : DG) (tt : DT) (te : DE) (vs : List Nat) (Q : PQ) : List D → List D → DSt → Prop
  | [], acc, s => ok s ∧ Q (.new (.lst acc)) s
  | d :: ds, acc, s => ok s ∧ g (.imm d) s (fun s2 => tt s2 (fun b s3 => if b = true then te s3 (fun r s4 => sto1 s4 r.frz fun y s5 => acc.length < sizeLine ∧ compL ok g tt te vs Q ds (acc ++ [y]) (s5.wipe vs)) PXF else compL ok g tt te vs Q ds acc (s3.wipe vs)) PXF) PXF
def dYes : DT := fun s Q _ => Q true s
def dLc (it : DI) (g : DG) (tt : DT) (te : DE) (vs : List Nat) : DE := fun s Q X => it s (fun j s1 => compL j.ok g tt te vs Q j.xs [] (s1.wipe vs)) X
theorem lc_run {it : DI} {g : TG} {dg : DG} {tt : DT} {te : DE} {vs : List Nat} {Q : VK} (hg : TgOk G g dg vs) (h : LE X G (dLc it dg tt te vs) σ H Q) : tLc (LI X G it) g (LTw G tt) (LEw G te) vs σ H Q := by
  obtain ⟨c, W, s, F, Q', X', tk, hs, ht, hq, hx⟩ := h
  refine ⟨c, W, s, F, _, X', tk, hs, ht, fun j s1 F1 H1 J q1 g1 h1 jr => ?_, hx⟩
  intro p hp
  have h1w := h1.wipe vs
  obtain ⟨Mp, P, h1'⟩ := h1w
  have gm := Grow.made (o := .lst []) h1'.fz hp
  have nE : c.E p = none := h1'.fr.free hp
  have nF : c.F0 p = none := h1'.ext.free (h1'.fz.free hp)
  have nB : c.B p = none := h1'.free hp
  obtain ⟨hm1, pp, epp, hm2, hm3, hmB, hm4⟩ := h1'.made (d := .lst []) hp gm upd_same (h1'.fz.free hp) ⟨[], rfl, rfl⟩
  cases epp
  have st0 : Holds G (c.park p (.lst [])) (s1.wipe vs) F1 (L2.wipe σ vs) (upd H1 p (.lst [])) := ⟨_, P, hm1.park hm2 hm3 hm4 upd_same⟩
  refine ⟨fun i m H' => m = j.xs.length - i ∧ i ≤ j.xs.length ∧ ∃ (s' : DSt) (F' : Hp) (acc : List D) (av : List V), Same F1 F' ∧ Holds G (c.park p (.lst av)) (s'.wipe vs) F' (L2.wipe σ vs) H' ∧ Reps G F' acc av ∧ compL j.ok dg tt te vs Q' (j.xs.drop i) acc (s'.wipe vs), ⟨j.xs.length, by simp, Nat.zero_le _, s1, F1, [], [], Same.refl _, st0, rfl, by simpa using q1⟩, ?_⟩
  rintro i m H' ⟨rfl, hi, s', F', acc, av, g', h', ra, q'⟩
  by_cases hlt : i < j.xs.length
  · rw [List.drop_eq_getElem_cons hlt] at q'
    obtain ⟨ok', q'⟩ := q'
    refine .inr ⟨jr.go i _ _ F' _ H' hlt g' h' ok', fun H2 => i + 1 ≤ j.xs.length ∧ ∃ (s' : DSt) (F' : Hp) (acc : List D) (av : List V), Same F1 F' ∧ Holds G (c.park p (.lst av)) (s'.wipe vs) F' (L2.wipe σ vs) H2 ∧ Reps G F' acc av ∧ compL j.ok dg tt te vs Q' (j.xs.drop (i + 1)) acc (s'.wipe vs), fun H2 n2 => ⟨j.xs.length - (i + 1), by omega, rfl, n2⟩, fun x H2 y => ?_⟩
    obtain ⟨F2, g2, rp⟩ := jr.yld i _ _ F' _ H' _ x H2 (List.getElem?_eq_getElem hlt) g' h' ok' y
    have h2 : Holds G (c.park p (.lst av)) (s'.wipe vs) F2 (L2.wipe σ vs) H2 := by obtain ⟨Mp, P, h'⟩ := h'; exact ⟨Mp, P, h'.grow g2⟩
    refine hg h2 rp q' fun s3 σ3 e3 q3 h3 => ⟨by rw [e3]; exact wipe_wipe (fun _ z => z), ?_⟩
    have e3' : L2.wipe σ3 vs = L2.wipe σ vs := by rw [e3]; exact wipe_wipe (fun _ z => z)
    refine ⟨_, s3, F2, _, h3, q3, fun b s4 F4 H4 q4 g4 h4 => ?_⟩
    cases b with
    | false =>
      simp only [Bool.false_eq_true, if_false] at q4 ⊢
      have := h4.wipe vs
      rw [e3'] at this
      exact ⟨hlt, s4, F4, acc, av, (g'.trans g2.f).trans g4, this, Reps.mono (g2.f.trans g4) _ _ ra, q4⟩
    | true =>
      simp only [if_true] at q4 ⊢
      refine ⟨_, s4, F4, _, h4, q4, fun r s5 v F5 H5 q5 g5 h5 => ?_⟩
      obtain ⟨F6, g6, h6, o6⟩ := h5.opa
      obtain ⟨d7, s7, F7, g7, h7, r7, hl7, q7⟩ := sto1_run h6 o6 q5
      have gg : Same F' F7 := (((g2.f.trans g4).trans g5).trans g6).trans g7
      have ra7 : Reps G F7 acc av := Reps.mono gg _ _ ra
      obtain ⟨hR, hp7, hf7⟩ := Holds.unpark (d := .lst acc) h7 nE nB nF ⟨av, rfl, ra7⟩
      refine ⟨av, hp7, by rw [← ra7.length]; exact hl7, hlt, s7, F7, acc ++ [d7], av ++ [v], g'.trans gg, ?_, ra7.append (Reps.cons r7 rfl), q7⟩
      obtain ⟨Mp, P, hM, pq, epq, m2, m3, mB, m4⟩ := hR
      cases epq
      have gr : Grow F7 H5 F7 H5 := Grow.refl hM.fz
      have := hM.put (o := .lst (av ++ [v])) (d' := .lst (acc ++ [d7])) m2 gr ⟨_, rfl, ra7.append (Reps.cons r7 rfl)⟩ s7 rfl (fun a e q => .inr ⟨(fun z => by subst z; rw [m3] at q; cases q), q⟩) (fun i e q => q) (fun i e q => ⟨e, q, .inr ⟨m4 i e q, rfl, (hM.ow i e q).2.2.1⟩⟩)
      have hk : Holds G (c.park p (.lst (av ++ [v]))) s7 F7 σ3 (upd H5 p (.lst (av ++ [v]))) := ⟨_, P, this.park (d := .lst (acc ++ [d7])) up_same m3 m4 upd_same⟩
      have := hk.wipe vs
      rw [e3'] at this
      exact this
  · have e : i = j.xs.length := by omega
    subst e
    rw [List.drop_length] at q'
    refine .inl ⟨jr.stop _ _ _ F' _ H' (Nat.le_refl _) g' h' q'.1, ?_⟩
    obtain ⟨hR, hp7, hf7⟩ := Holds.unpark (d := .lst acc) h'.unwipe nE nB nF ⟨av, rfl, ra⟩
    exact hq _ _ _ F' H' q'.2 (g1.trans g') hR
end
end DL

set_option Elab.async false
set_option linter.all false
set_option maxRecDepth 100000
set_option maxHeartbeats 4000000
namespace DL
open PySem L2 PL
/-! ### promises -/
abbrev DSp := List D → DM → (AV → DM → Prop) → (Exc → DM → Prop) → Prop
structure Exit (G : Sig) (F : Hp) (M : DM) (H F' : Hp) (M' : DM) (H' : Hp) : Prop where
  ext : Same F F'
  fz : Same F' H'
  fr : ∀ a o, H a = some o → M a = none → H' a = some o
  kp : ∀ a o, H a = some o → ∃ o', H' a = some o'
  nw : ∀ a o, F' a = some o → (∃ o', F a = some o') ∨ H a = none
  mem : ∀ a d, M' a = some d → F' a = none ∧ ((∃ d', M a = some d') ∨ H a = none) ∧ ∃ o, H' a = some o ∧ CellAt G F' o d
def ExitR (G : Sig) (H F' : Hp) (M' : DM) (H' : Hp) (r : AV) (v : V) : Prop := match r with
  | .imm d => Rep G F' d v
  | .new d => ∃ p o, v = .ref p ∧ H p = none ∧ H' p = some o ∧ CellAt G F' o d ∧ F' p = none ∧ M' p = none
def lsp (G : Sig) (sp : DSp) : Sp := fun vs H Q E => ∃ ds M F Q' X', Same F H ∧ (∀ a d, M a = some d → F a = none ∧ ∃ o, H a = some o ∧ CellAt G F o d) ∧ Reps G F ds vs ∧ sp ds M Q' X' ∧
  (∀ r M' v F' H', Q' r M' → Exit G F M H F' M' H' → ExitR G H F' M' H' r v → Q v H') ∧ (∀ e M' d F' H', X' e M' → Exit G F M H F' M' H' → XFs G H F' H' e d → (∀ a, d = some a → M' a = none) → E (.ref (G.Z e.cls)) d H')
def outM (M : DM) (k : DM → Prop) : Prop := ∃ M', (∀ a d, M' a = some d → M a = some d) ∧ k M'
theorem outM_self {M : DM} {k : DM → Prop} (h : k M) : outM M k := ⟨M, fun _ _ q => q, h⟩
def outR (s : DSt) (r : RV) (k : AV → Prop) : Prop := match r with
  | .imm d => k (.imm d)
  | .new d => k (.new d)
  | .slot i => match s.sl[i]? with
    | some (some (.own d)) => k (.new d)
    | some (some (.imm d)) => k (.imm d)
    | _ => False
def ends (Q : AV → DM → Prop) (X : Exc → DM → Prop) : DEnds := ⟨fun s => outM s.M (Q (.imm .non)), fun r s => outR s r fun a => outM s.M (Q a), fun _ => False, fun _ => False, fun e s => outM s.M (X e)⟩
def st0 (n : Nat) (ds : List D) (M : DM) : DSt := ⟨ds.map (fun d => some (.imm d)) ++ List.replicate (n - ds.length) none, M⟩
/-- what is asked of a body -/
def Vc (b : DS) (n : Nat) (sp : DSp) : Prop := ∀ ds M Q X, sp ds M Q X → b (ends Q X) (st0 n ds M)
section
variable {X : Cx} {G : Sig} {c : Fm} {W : WX} {s : DSt} {F F' H H' : Hp} {σ : St} {pos : Pos} {Mp : DM} {P : Nat → Addr}
/-- the exit of a body -/
theorem exit_of {M M1 : DM} (c0 : c = ⟨fun a => if (M a).isSome then none else H a, F, H⟩) (hM : ∀ a d, M a = some d → F a = none ∧ ∃ o, H a = some o ∧ CellAt G F o d) {s1 : DSt} {F1 H1 : Hp} {σ1 : St} (h : Hold G c s1 F1 σ1 H1 Mp P) (sub : ∀ a d, M1 a = some d → s1.M a = some d) : Exit G F M H F1 M1 H1 := by
  subst c0
  refine ⟨h.ext, h.fz, fun a o e n => h.fr a o (by show (if (M a).isSome then none else H a) = some o; rw [n]; exact e), fun a o e => h.bh a o e, fun a o e => h.nw a o e, fun a d q => ?_⟩
  obtain ⟨m1, m2, o, m3, m4⟩ := h.mem a d (h.sub a d (sub a d q))
  refine ⟨m1, ?_, o, m3, m4⟩
  have m2' : (if (M a).isSome then none else H a) = none := m2
  cases e : M a with
  | none => rw [e] at m2'; exact .inr m2'
  | some d' => exact .inl ⟨d', rfl⟩
theorem start_get {N : List Str} {ds : List D} {vs : List V} {i : Nat} {d : D} (r : Reps G F ds vs) (M : DM) (q : (st0 N.length ds M).sl[i]? = some (some (LV.imm d))) : ∃ v, (start N vs)[i]? = some (some v) ∧ Rep G F d v := by
  unfold st0 at q
  unfold L2.start
  have hl := r.length
  by_cases hi : i < ds.length
  · rw [List.getElem?_append_left (by simpa using hi), List.getElem?_map, List.getElem?_eq_getElem hi] at q
    have q' : ds[i] = d := by simpa using q
    obtain ⟨v, e, rv⟩ := r.get (i := i) (d := d) (by rw [List.getElem?_eq_getElem hi, q'])
    refine ⟨v, ?_, rv⟩
    rw [List.getElem?_append_left (by rw [List.length_map, ← hl]; exact hi), List.getElem?_map, e]
    rfl
  · rw [List.getElem?_append_right (by simpa using hi)] at q
    rw [List.getElem?_replicate] at q
    split at q <;> simp at q
theorem start_no_own {N : List Str} {ds : List D} {i : Nat} {d : D} (M : DM) (q : (st0 N.length ds M).sl[i]? = some (some (LV.own d))) : False := by
  unfold st0 at q
  by_cases hi : i < ds.length
  · rw [List.getElem?_append_left (by simpa using hi), List.getElem?_map, List.getElem?_eq_getElem hi] at q
    simp at q
  · rw [List.getElem?_append_right (by simpa using hi)] at q
    rw [List.getElem?_replicate] at q
    split at q <;> simp at q
theorem body_run {b : DS} {sp : DSp} {N : List Str} {vs : List V} {Q : VK} {E : XK} (vc : Vc b N.length sp) (tk : Takes X (fun cls d _ H => E cls d H)) (h : lsp G sp vs H Q E) : LS X G b { nx := fun _ H' => Q .non H', rt := Q } (start N vs) H := by
  obtain ⟨ds, M, F, Q', X', fz, hM, rs, hsp, hq, hx⟩ := h
  generalize hc : (⟨fun a => if (M a).isSome then none else H a, F, H⟩ : Fm) = c
  have h0 : Hold G c (st0 N.length ds M) F (start N vs) H M (fun _ => 0) := by
    subst hc
    refine ⟨Same.refl _, fz, fun a o e => ?_, fun a o e => .inl ⟨o, e⟩, fun a e q => ?_, fun a b q => ⟨b, q⟩, fun a d q => ?_, fun a d q => q, ?_, fun i d q => start_get rs M q, fun i d q => (start_no_own M q).elim, fun i j d e q _ _ => (start_no_own M q).elim⟩
    · have e' : (if (M a).isSome then none else H a) = some o := e
      split at e'
      · cases e'
      · exact e'
    · have e' : (if (M a).isSome then none else H a) = some e := q
      split at e'
      · cases e'
      · exact ⟨e, e'⟩
    · obtain ⟨n, o, ho, hcell⟩ := hM a d q
      refine ⟨n, ?_, o, ho, hcell⟩
      show (if (M a).isSome then none else H a) = none
      rw [q]; rfl
    · unfold L2.start st0
      simp [rs.length]
  refine LS.mk' (E' := ends Q' X') tk ⟨_, _, h0⟩ (vc ds M Q' X' hsp) (fun s1 F1 σ1 H1 q1 g1 h1 => ?_) (fun r s1 v F1 σ1 H1 q1 g1 h1 => ?_) (fun _ _ _ _ q => q.elim) (fun _ _ _ _ q => q.elim) (fun σ1 e s1 d F1 H1 q1 g1 h1 => ?_)
  · obtain ⟨M1, sub, q1⟩ := q1
    obtain ⟨Mp, P, h1⟩ := h1
    exact hq _ M1 .non F1 H1 q1 (exit_of hc.symm hM h1 sub) rfl
  · have q1' : outR s1 r fun a => outM s1.M (Q' a) := q1
    obtain ⟨Mp, P, h1, o1⟩ := h1
    have fin : ∀ a, outM s1.M (Q' a) → (∀ M1 : DM, (∀ a d, M1 a = some d → s1.M a = some d) → ExitR G H F1 M1 H1 a v) → Q v H1 := fun a ⟨M1, sub, q⟩ k => hq a M1 v F1 H1 q (exit_of hc.symm hM h1 sub) (k M1 sub)
    cases r with
    | imm d => exact fin _ q1' fun M1 sub => o1
    | new d =>
      obtain ⟨p, rfl, m1, m2, m3, m4⟩ := o1
      refine fin _ q1' fun M1 sub => ?_
      obtain ⟨n1, n2, ob, n3, n4⟩ := h1.mem p d m1
      subst hc
      refine ⟨p, ob, rfl, m3, n3, n4, n1, ?_⟩
      cases z : M1 p with
      | none => rfl
      | some e => rw [sub p e z] at m2; cases m2
    | slot i =>
      unfold outR at q1'
      dsimp only at q1'
      have o1' : σ1[i]? = some (some v) := o1
      split at q1'
      · rename_i d e
        obtain ⟨e1, e2, e3, e4⟩ := h1.ow i d e
        rw [o1'] at e1
        cases (Option.some.inj (Option.some.inj e1))
        refine fin _ q1' fun M1 sub => ?_
        obtain ⟨n1, n2, ob, n3, n4⟩ := h1.mem _ d e2
        subst hc
        refine ⟨_, ob, rfl, e4, n3, n4, n1, ?_⟩
        cases z : M1 (P i) with
        | none => rfl
        | some e => rw [sub _ e z] at e3; cases e3
      · rename_i d e
        obtain ⟨v', e1, r'⟩ := h1.im i d e
        rw [o1'] at e1
        cases (Option.some.inj (Option.some.inj e1))
        exact fin _ q1' fun M1 sub => r'
      · exact q1'.elim
  · obtain ⟨M1, sub, q1⟩ := q1
    obtain ⟨Mp, P, h1, x1, n1⟩ := h1
    refine hx e M1 d F1 H1 q1 (exit_of hc.symm hM h1 sub) (by subst hc; exact x1) fun a ea => ?_
    cases z : M1 a with
    | none => rfl
    | some y =>
      have := h1.sub a y (sub a y z)
      rw [n1 a ea] at this; cases this
/-! ### behind a call -/
def joinM (M0 M' Mp : DM) : DM := fun a => match M' a with
  | some d => some d
  | none => if (M0 a).isSome then none else Mp a
theorem Hold.call (h : Hold G c s F σ H Mp P) {M' : DM} (x : Exit G F s.M H F' M' H') : Hold G c { s with M := M' } F' σ H' (joinM s.M M' Mp) P := by
  have inH : ∀ a d, Mp a = some d → ∃ o, H a = some o := fun a d q => let ⟨_, _, o, e, _⟩ := h.mem a d q; ⟨o, e⟩
  have own : ∀ (i : Nat) (d : D), s.sl[i]? = some (some (LV.own d)) → M' (P i) = none := fun i d q => by
    obtain ⟨a1, a2, a3, a4⟩ := h.ow i d q
    cases z : M' (P i) with
    | none => rfl
    | some e =>
      obtain ⟨_, m2, _⟩ := x.mem _ e z
      rcases m2 with ⟨d', m2⟩ | m2
      · rw [a3] at m2; cases m2
      · obtain ⟨o, ho⟩ := inH _ _ a2
        rw [ho] at m2; cases m2
  refine ⟨h.ext.trans x.ext, x.fz, fun a e q => ?_, fun a o q => ?_, h.be, fun a b q => ?_, fun a d q => ?_, fun a d q => ?_, h.len, fun i d q => ?_, fun i d q => ?_, h.inj⟩
  · refine x.fr a e (h.fr a e q) ?_
    cases z : s.M a with
    | none => rfl
    | some d =>
      obtain ⟨_, m2, _⟩ := h.mem a d (h.sub a d z)
      rw [m2] at q; cases q
  · rcases x.nw a o q with ⟨o', q'⟩ | n
    · exact h.nw a o' q'
    · exact .inr (h.free n)
  · obtain ⟨o, ho⟩ := h.bh a b q
    exact x.kp a o ho
  · unfold joinM at q
    split at q
    · rename_i d' e
      cases q
      obtain ⟨m1, m2, m3⟩ := x.mem a d e
      refine ⟨m1, ?_, m3⟩
      rcases m2 with ⟨d', m2⟩ | m2
      · exact (h.mem a d' (h.sub a d' m2)).2.1
      · exact h.fr.free m2
    · rename_i e
      split at q
      · cases q
      · rename_i ns
        obtain ⟨m1, m2, o, m3, m4⟩ := h.mem a d q
        have nM : s.M a = none := by cases z : s.M a with | none => rfl | some _ => rw [z] at ns; exact absurd rfl ns
        refine ⟨?_, m2, o, x.fr a o m3 nM, m4.mono x.ext⟩
        cases z : F' a with
        | none => rfl
        | some u =>
          rcases x.nw a u z with ⟨o', q'⟩ | n
          · rw [m1] at q'; cases q'
          · rw [m3] at n; cases n
  · show joinM s.M M' Mp a = some d
    unfold joinM
    have q' : M' a = some d := q
    rw [q']
  · obtain ⟨v, e, r⟩ := h.im i d q
    exact ⟨v, e, Rep.mono x.ext _ _ r⟩
  · obtain ⟨a1, a2, a3, a4⟩ := h.ow i d q
    refine ⟨a1, ?_, own i d q, a4⟩
    unfold joinM
    rw [own i d q]
    simp only [a3, Option.isSome_none, Bool.false_eq_true, if_false]
    exact a2
theorem Hold.callR (h : Hold G c s F σ H Mp P) {M' : DM} {r : AV} {v : V} (x : Exit G F s.M H F' M' H') (e : ExitR G H F' M' H' r v) : HoldsR G c { s with M := M' } F' σ H' r.rv v := by
  have h' := h.call x
  cases r with
  | imm d => exact ⟨_, P, h', e⟩
  | new d =>
    obtain ⟨p, o, rfl, np, hp, hc, nf, nM⟩ := e
    have n0 : Mp p = none := by
      cases z : Mp p with
      | none => rfl
      | some d' => obtain ⟨_, _, o', e', _⟩ := h.mem p d' z; rw [np] at e'; cases e'
    have nb := h.free np
    have nJ : ∀ a e, joinM s.M M' Mp a = some e → a ≠ p := fun a e q z => by
      subst z
      unfold joinM at q
      rw [nM] at q
      dsimp only at q
      split at q
      · cases q
      · rw [n0] at q; cases q
    refine ⟨up (joinM s.M M' Mp) p d, P, ⟨h'.ext, h'.fz, h'.fr, h'.nw, h'.be, h'.bh, fun a e q => ?_, fun a e q => ?_, h'.len, h'.im, fun i e q => ?_, h'.inj⟩, p, rfl, up_same, nM, nb, fun i e q => ?_⟩
    · by_cases z : a = p
      · subst z
        rw [up_same] at q; cases q
        exact ⟨nf, h.fr.free np, o, hp, hc⟩
      · rw [up_other z] at q; exact h'.mem a e q
    · have q' := h'.sub a e q
      rw [up_other (nJ a e q')]; exact q'
    · obtain ⟨a1, a2, a3, a4⟩ := h'.ow i e q
      exact ⟨a1, by rw [up_other (nJ _ _ a2)]; exact a2, a3, a4⟩
    · exact nJ _ _ (h'.ow i e q).2.1
/-- a call, by values -/
theorem call_run {sp : DSp} {ds : List D} {vs : List V} {Q' : PQ} {X' : PX} {Q : VK} {σ : St} (h : Holds G c s F σ H) (rs : Reps G F ds vs) (hsp : sp ds s.M (fun r M' => Q' r.rv { s with M := M' }) (fun e M' => X' e { s with M := M' }))
    (hq : ∀ r s' v F' H', Q' r s' → Same F F' → HoldsR G c s' F' σ H' r v → Q v H') (hx : XPost G c W F σ X') : lsp G sp vs H Q (WE W σ) := by
  obtain ⟨Mp, P, h⟩ := h
  refine ⟨ds, s.M, F, _, _, h.fz, fun a d q => ?_, rs, hsp, fun r M' v F1 H1 q x e => hq _ _ v F1 H1 q x.ext (h.callR x e), fun e M' d F1 H1 q x xf nM => hx e _ d F1 H1 q x.ext ⟨_, P, h.call x, xf.imp fun a n => h.free n, fun a ea => ?_⟩⟩
  · obtain ⟨m1, _, m3⟩ := h.mem a d (h.sub a d q)
    exact ⟨m1, m3⟩
  · obtain ⟨_, ⟨_, e2⟩ | ⟨a', f, y, v, e1, e2, e3, e4, e5, e6⟩⟩ := xf
    · rw [ea] at e2; cases e2
    · rw [ea] at e1
      cases e1
      unfold joinM
      rw [nM a ea]
      dsimp only
      split
      · rfl
      · cases z : Mp a with
        | none => rfl
        | some y =>
          obtain ⟨_, _, o, ho, _⟩ := h.mem a y z
          rw [e5] at ho; cases ho
def dCall (sp : DSp) (t : DA) : DE := fun s Q X => t s (fun rs s1 => sto s1 rs fun ds s2 => sp ds s2.M (fun r M' => Q r.rv { s2 with M := M' }) (fun e M' => X e { s2 with M := M' })) X
theorem PE.some {e : Expr} {α : Type} {p : α → Prop} {t : α → TE} (h : ∀ a, p a → PE X e (t a)) : PE X e (fun σ H Q => ∃ a, p a ∧ t a σ H Q) := ⟨fun pins s σ H Q I ⟨a, pa, q⟩ => (h a pa).run pins s σ H Q I q⟩
theorem dl_call {sp : DSp} {k j : Nat} {x : Str} {p pos : Pos} {e : Expr} {es : List Expr} {t : DA} (cl : Cal X.prog X.w X.K X.mg X.base k x (lsp G sp)) (hr : Room j X.A) (hk : k ≤ j) (hg : Gl X x) (ha : PA X (e :: es) (LA X G t))
    (hdb : (x == ("__debug__" : Str)) = false := by decide) (he : starEach (e :: es) X.env = (false, eval e X.env) :: starEach es X.env := by rfl) (hpl : (backTo pos (starEach es X.env)).any (·.1) = false := by rfl) :
    PE X (.Call (.Name x p) (e :: es) [] pos) (LE X G (dCall sp t)) :=
  PE.mono (PE.some (p := fun W => Takes X W) (t := fun W => tCallS (lsp G sp) (WE W) (LA X G t)) fun W tk => pe_cX cl hr hk hg tk ha hdb he hpl) fun σ H Q ⟨c, W, s, F, Q', X', tk, hs, ht, hq, hx⟩ => by
  refine ⟨W, tk, c, W, s, F, _, X', tk, hs, ht, fun rs s1 vs F1 H1 q1 g1 h1 o1 => ?_, hx⟩
  obtain ⟨ds, s2, F2, g2, h2, r2, q2⟩ := sto_run h1 o1 q1
  exact call_run h2 r2 q2 (fun r s' v F' H' q g hr => hq r s' v F' H' q ((g1.trans g2).trans g) hr) (hx.mono (g1.trans g2))
end
end DL

set_option Elab.async false
set_option linter.all false
set_option maxRecDepth 100000
set_option maxHeartbeats 4000000
namespace DL
open PySem L2 PL
section
variable {X : Cx} {G : Sig} {c : Fm} {W : WX} {s : DSt} {F F' H H' : Hp} {σ : St} {pos : Pos} {Mp : DM} {P : Nat → Addr}
/-! ### fields -/
def getF (f : Str) : List Str → List D → Option D
  | n :: ns, d :: ds => if n = f then some d else getF f ns ds
  | _, _ => none
theorem getF_rep {f : Str} : ∀ {ns : List Str} {ds : List D} {vs : List V} {d : D}, Reps G F ds vs → getF f ns ds = some d → ∃ v, (ns.zip vs).lookup f = some v ∧ Rep G F d v
  | [], _, _, _, _, e => by simp [getF] at e
  | _ :: _, [], _, _, _, e => by simp [getF] at e
  | n :: ns, x :: ds, _, d, r, e => by
    obtain ⟨v, w, rfl, a, b⟩ := r
    unfold getF at e
    split at e
    · rename_i h
      cases e
      refine ⟨v, ?_, a⟩
      rw [List.zip_cons_cons, List.lookup_cons, h]
      simp
    · rename_i h
      obtain ⟨v', e', r'⟩ := getF_rep b e
      refine ⟨v', ?_, r'⟩
      rw [List.zip_cons_cons, List.lookup_cons]
      have : (f == n) = false := by simpa using fun z => h z.symm
      rw [this]
      exact e'
/-- the classes of whose instances a field may be read -/
def FldOk (G : Sig) (f : Str) : Prop := ∀ C ∈ G.cs, Cls G.K (G.Z C) ∧ NoAttr G.K (G.Z C) f
def dFld (f : Str) (t : DE) : DE := fun s Q X => t s (fun r s1 => optP (view s1 r.frz) fun e => match e with
  | .ins C ns vs => optP (getF f ns vs) fun d => Q (.imm d) s1
  | _ => False) X
theorem dl_fld {e : Expr} {f : Str} {t : DE} (ok : FldOk G f) (hK : X.K = G.K) (he : PE X e (LE X G t)) (hb : attributeBase e f X.env (eval e X.env) = eval e X.env := by rfl) : PE X (.Attribute e f pos) (LE X G (dFld f t)) :=
  PE.mono (pe_fld he hb) fun σ H Q ⟨c, W, s, F, Q', X', tk, hs, ht, hq, hx⟩ => by
  refine LE.op tk hs ht hx fun r s1 v F1 H1 q1 g1 h1 o1 => ?_
  rw [hK]
  have h1' := h1
  obtain ⟨Mp, P, h1'⟩ := h1'
  cases ev : view s1 r.frz with
  | none => rw [ev] at q1; exact q1.elim
  | some e =>
    rw [ev] at q1
    have tp := h1'.top o1 ev
    dsimp only [optP] at q1
    split at q1
    · rename_i C ns vs
      obtain ⟨a, dx, ws, rfl, ha, ⟨hC, hl⟩, rs⟩ := tp
      cases eg : getF f ns vs with
      | none => rw [eg] at q1; exact q1.elim
      | some d =>
        rw [eg] at q1
        obtain ⟨w, ew, rw'⟩ := getF_rep rs eg
        exact ⟨a, _, dx, _, w, rfl, ha, (ok C hC).1, (ok C hC).2, ew, hq _ s1 w F1 H1 q1 g1 ⟨Mp, P, h1', rw'⟩⟩
    · exact q1.elim
def putD (f : Str) (d : D) : List Str → List D → List Str × List D
  | n :: ns, x :: xs => if n = f then (n :: ns, d :: xs) else (n :: (putD f d ns xs).1, x :: (putD f d ns xs).2)
  | _, _ => ([f], [d])
theorem putD_rep {f : Str} {d : D} {v : V} (r : Rep G F d v) : ∀ {ns : List Str} {ds : List D} {vs : List V}, Reps G F ds vs → ns.length = vs.length → putF f v (ns.zip vs) = (putD f d ns ds).1.zip ((putF f v (ns.zip vs)).map (·.2)) ∧ Reps G F (putD f d ns ds).2 ((putF f v (ns.zip vs)).map (·.2)) ∧ (putD f d ns ds).1.length = ((putF f v (ns.zip vs)).map (·.2)).length
  | [], [], _, rs, hl => by
    cases (show _ = [] from rs)
    exact ⟨rfl, Reps.cons r rfl, rfl⟩
  | [], _ :: _, _, rs, hl => by
    obtain ⟨w, z, rfl, _⟩ := rs
    simp at hl
  | _ :: _, [], _, rs, hl => by
    cases (show _ = [] from rs)
    simp at hl
  | n :: ns, x :: ds, _, rs, hl => by
    obtain ⟨w, z, rfl, a, b⟩ := rs
    have hl' : ns.length = z.length := by simpa using hl
    obtain ⟨i1, i2, i3⟩ := putD_rep r b hl'
    rw [List.zip_cons_cons]
    unfold putF putD
    by_cases hn : n = f
    · rw [if_pos hn, if_pos hn]
      have ez : (ns.zip z).map (·.2) = z := by rw [List.map_snd_zip (by omega)]
      refine ⟨?_, ?_, ?_⟩
      · simp only [List.map_cons, List.zip_cons_cons, ez]
      · simp only [List.map_cons, ez]
        exact Reps.cons r b
      · simp [hl']
    · rw [if_neg hn, if_neg hn]
      refine ⟨?_, ?_, ?_⟩
      · simp only [List.map_cons, List.zip_cons_cons]
        rw [← i1]
      · simp only [List.map_cons]
        exact Reps.cons a i2
      · simp only [List.map_cons, List.length_cons]
        rw [i3]
/-- o.f = e, o in M -/
def dSetF (f : Str) (o v : DE) : DS := fun E s => v s (fun rv s1 => sto1 s1 rv.frz fun d s2 => o s2 (fun ro s3 => match ro with
  | .imm (.ref a) => optP (s3.M a) fun e => match e with
    | .ins C ns vs => ns.length < 1000 ∧ E.nx { s3 with M := up s3.M a (.ins C (putD f d ns vs).1 (putD f d ns vs).2) }
    | _ => False
  | _ => False) E.x) E.x
theorem Hold.putM (h : Hold G c s F σ H Mp P) {a : Addr} {e d' : D} {o : HO} (hm : s.M a = some e) (hc : CellAt G F o d') : Holds G c { s with M := up s.M a d' } F σ (upd H a o) := by
  refine ⟨_, P, h.put (h.sub a e hm) (Grow.refl h.fz) hc { s with M := up s.M a d' } rfl (fun b x q => ?_) (fun i x q => q) (fun i x q => ⟨x, q, .inr ?_⟩)⟩
  · have q' : up s.M a d' b = some x := q
    by_cases z : b = a
    · subst z; rw [up_same] at q'; exact .inl ⟨rfl, (Option.some.inj q').symm⟩
    · rw [up_other z] at q'; exact .inr ⟨z, q'⟩
  · obtain ⟨a1, a2, a3, a4⟩ := h.ow i x q
    have z : P i ≠ a := fun z => by rw [z, hm] at a3; cases a3
    exact ⟨z, rfl, by show up s.M a d' (P i) = none; rw [up_other z]; exact a3⟩
theorem ds_setF {oe value : Expr} {f : Str} {o v : DE} {pos' : Pos} (ok : FldOk G f) (hK : X.K = G.K) (ha : PE X oe (LE X G o)) (hv : PE X value (LE X G v)) (hsw : swapsWith value (some (.Attribute oe f pos')) pos.line X.env = pure false := by rfl) :
    PS X (.Assign [.Attribute oe f pos'] value pos) (LS X G (dSetF f o v)) := PS.mono (ps_fld ha hv hsw) fun D σ H ⟨c, W, s, F, E', tk, hs, ht, hn, hr, hb, hc, hx⟩ => by
  refine LE.op tk hs ht (hx σ) fun rv s1 v1 F1 H1 q1 g1 h1 o1 => ?_
  obtain ⟨d, s2, F2, g2, h2, r2, q2⟩ := sto1_run h1 o1 q1
  have gg := g1.trans g2
  refine ⟨c, W, s2, F2, _, _, tk, h2, q2, fun ro s3 x F3 H3 q3 g3 h3 => ?_, (hx σ).mono gg⟩
  rw [hK]
  split at q3
  · rename_i a
    obtain ⟨Mp, P, h3, o3⟩ := h3
    cases (show x = .ref a from o3)
    cases em : s3.M a with
    | none => rw [em] at q3; exact q3.elim
    | some e =>
      rw [em] at q3
      dsimp only [optP] at q3
      split at q3
      · rename_i C ns vs
        obtain ⟨hlen, q3⟩ := q3
        obtain ⟨_, _, ob, ho, dx, ws, rfl, ⟨hC, hl⟩, rs⟩ := h3.mem a _ (h3.sub a _ em)
        obtain ⟨i1, i2, i3⟩ := putD_rep (f := f) (Rep.mono g3 _ _ r2) rs hl
        refine ⟨a, _, dx, _, rfl, ho, (ok C hC).1, (ok C hC).2, by rw [List.length_zip]; omega, ?_⟩
        exact hn _ F3 σ _ q3 (gg.trans g3) (h3.putM em ⟨dx, _, by rw [← i1], ⟨hC, i3⟩, i2⟩)
      · exact q3.elim
  · exact q3.elim
/-! ### methods of own classes -/
def tMtV (X : Cx) (m : Str) (j : Nat) (ta : TE) (t : TA) : TE := fun σ H Q => ta σ H fun x H1 => ∃ a C dx fs k sp W, Takes X W ∧ x = .ref a ∧ H1 a = some (.ins C dx fs) ∧ fs.lookup m = none ∧ Met X.prog X.w X.K X.mg X.base k C m sp ∧ k ≤ j ∧ t σ H1 fun vs H2 => sp (.ref a :: vs) H2 Q (WE W σ)
theorem pe_mtV {pl : Sem Bool} {m : Str} {j : Nat} {o e : Expr} {es : List Expr} {ta : TE} {t : TA} {apos pos : Pos} (hr : Room j X.A) (he : PE X o ta) (ha : PA X (e :: es) t)
    (hst : starEach (e :: es) X.env = (false, eval e X.env) :: starEach es X.env := by rfl) (hpl : (backTo pos (starEach es X.env)).any (·.1) = false := by rfl)
    (ht : eval (.Call (.Attribute o m apos) (e :: es) [] pos) X.env = (do
      let ov ← eval o X.env
      standAt apos.atName
      let (f, first) ← holding [ov] (getMethod ov m pl)
      callWith pos f first (backTo pos (starEach (e :: es) X.env)) (backToKw pos (keywordEach [] X.env))) := by rfl) :
    PE X (.Call (.Attribute o m apos) (e :: es) [] pos) (tMtV X m j ta t) := by
  refine ⟨fun pins s σ H Q I h => ?_⟩
  refine PySem.W.methodCall_KW (pl := pl) (thn (he.run pins s σ H _ I h) fun u s1 ⟨x, H1, I1, rx, a, C, dx, fs, k, sp, W, tk, ex, ea, l, M, hk, q⟩ => ?_) ht
  obtain ⟨f, fd, ps, cl, hm, F, b⟩ := M.ex
  subst ex
  obtain rfl : u = Value.ref a := rx
  refine getmeth_ok I1 ea cl hm l ?_
  refine PySem.W.callWith_K (first := [.ref a]) (h₀ := X.base) I.ok.mod.kin hm.kp (thn (ha.run pos pins s1 σ H1 _ I1 q) fun us s2 ⟨vs, H2, I2, r, q2⟩ => ⟨I2.kIn, ?_⟩) hst hpl
  exact run_fnS (us := .ref a :: us) (vs := .ref a :: vs) F (hr.mono hk) b (passAt tk σ) I2 (.cons rfl r) q2
theorem pe_mtV0 {pl : Sem Bool} {m : Str} {j : Nat} {o : Expr} {ta : TE} {apos pos : Pos} (hr : Room j X.A) (he : PE X o ta)
    (ht : eval (.Call (.Attribute o m apos) [] [] pos) X.env = (do
      let ov ← eval o X.env
      standAt apos.atName
      let (f, first) ← holding [ov] (getMethod ov m pl)
      callWith pos f first (backTo pos (starEach [] X.env)) (backToKw pos (keywordEach [] X.env))) := by rfl) :
    PE X (.Call (.Attribute o m apos) [] [] pos) (tMtV X m j ta tNil) := by
  refine ⟨fun pins s σ H Q I h => ?_⟩
  refine PySem.W.methodCall_KW (pl := pl) (thn (he.run pins s σ H _ I h) fun u s1 ⟨x, H1, I1, rx, a, C, dx, fs, k, sp, W, tk, ex, ea, l, M, hk, q⟩ => ?_) ht
  obtain ⟨f, fd, ps, cl, hm, F, b⟩ := M.ex
  subst ex
  obtain rfl : u = Value.ref a := rx
  refine getmeth_ok I1 ea cl hm l ?_
  exact PySem.W.callWith_K0 (first := [.ref a]) I1.kIn hm.kp (run_fnS (us := [.ref a]) (vs := [.ref a]) F (hr.mono hk) b (passAt tk σ) I1 (.cons rfl .nil) q)
/-- a method's promise, of the instances of one class -/
def isC (C : Str) (M : DM) : List D → Prop
  | d :: _ => ∃ ns vs, viewD M d = some (.ins C ns vs)
  | [] => False
def onC (C : Str) (sp : DSp) : DSp := fun ds M Q X => isC C M ds ∧ sp ds M Q X
/-- the classes that keep a method's promise -/
def MetOk (X : Cx) (G : Sig) (m : Str) (sp : DSp) (cs : List Str) (j : Nat) : Prop := ∀ C ∈ cs, C ∈ G.cs → ∃ k, k ≤ j ∧ Met X.prog X.w X.K X.mg X.base k (G.Z C) m (lsp G (onC C sp))
def dMeth (m : Str) (sp : DSp) (cs : List Str) (o : DE) (t : DA) : DE := fun s Q X => o s (fun r s1 => sto1 s1 r.frz fun d s2 => optP (viewD s2.M d) fun e => match e with
  | .ins C ns _ => C ∈ cs ∧ m ∉ ns ∧ t s2 (fun rs s3 => sto s3 rs fun ds s4 => onC C sp (d :: ds) s4.M (fun r M' => Q r.rv { s4 with M := M' }) (fun e M' => X e { s4 with M := M' })) X
  | _ => False) X
theorem lookup_no {m : Str} : ∀ {ns : List Str} {vs : List V}, m ∉ ns → (ns.zip vs).lookup m = none
  | [], _, _ => rfl
  | _ :: _, [], _ => rfl
  | n :: ns, v :: vs, h => by
    simp only [List.mem_cons, not_or] at h
    rw [List.zip_cons_cons, List.lookup_cons]
    have : (m == n) = false := by simpa using h.1
    rw [this]
    exact lookup_no h.2
theorem meth_run {m : Str} {sp : DSp} {cs : List Str} {j : Nat} {o : DE} {t : DA} {Q : VK} (ok : MetOk X G m sp cs j) (h : LE X G (dMeth m sp cs o t) σ H Q) : tMtV X m j (LE X G o) (LA X G t) σ H Q := by
  obtain ⟨c, W, s, F, Q', X', tk, hs, ht, hq, hx⟩ := h
  refine LE.op tk hs ht hx fun r s1 v F1 H1 q1 g1 h1 o1 => ?_
  obtain ⟨d, s2, F2, g2, h2, r2, q2⟩ := sto1_run h1 o1 q1
  have h2' := h2
  obtain ⟨Mp, P, h2'⟩ := h2'
  cases ev : viewD s2.M d with
  | none => rw [ev] at q2; exact q2.elim
  | some e =>
    rw [ev] at q2
    have tp := h2'.topD r2 ev
    dsimp only [optP] at q2
    split at q2
    · rename_i C ns vs
      obtain ⟨hC, hm, q2⟩ := q2
      obtain ⟨a, dx, ws, rfl, ha, ⟨hG, hl⟩, rs⟩ := tp
      obtain ⟨k, hk, M⟩ := ok C hC hG
      have gg := g1.trans g2
      refine ⟨a, _, dx, _, k, _, W, tk, rfl, ha, lookup_no hm, M, hk, c, W, s2, F2, _, X', tk, h2, q2, fun rs s3 vs F3 H3 q3 g3 h3 o3 => ?_, hx.mono gg⟩
      obtain ⟨ds, s4, F4, g4, h4, r4, q4⟩ := sto_run h3 o3 q3
      exact call_run (ds := d :: ds) h4 (Reps.cons (Rep.mono (g3.trans g4) _ _ r2) r4) q4 (fun r s' v F' H' q g hr => hq r s' v F' H' q ((gg.trans (g3.trans g4)).trans g) hr) (hx.mono (gg.trans (g3.trans g4)))
    · exact q2.elim
theorem dl_meth {pl : Sem Bool} {m : Str} {sp : DSp} {cs : List Str} {j : Nat} {o e : Expr} {es : List Expr} {u : DE} {t : DA} {apos pos : Pos} (ok : MetOk X G m sp cs j) (hr : Room j X.A) (he : PE X o (LE X G u)) (ha : PA X (e :: es) (LA X G t))
    (hst : starEach (e :: es) X.env = (false, eval e X.env) :: starEach es X.env := by rfl) (hpl : (backTo pos (starEach es X.env)).any (·.1) = false := by rfl)
    (ht : eval (.Call (.Attribute o m apos) (e :: es) [] pos) X.env = (do
      let ov ← eval o X.env
      standAt apos.atName
      let (f, first) ← holding [ov] (getMethod ov m pl)
      callWith pos f first (backTo pos (starEach (e :: es) X.env)) (backToKw pos (keywordEach [] X.env))) := by rfl) :
    PE X (.Call (.Attribute o m apos) (e :: es) [] pos) (LE X G (dMeth m sp cs u t)) := PE.mono (pe_mtV (pl := pl) hr he ha hst hpl ht) fun σ H Q h => meth_run ok h
theorem dl_meth0 {pl : Sem Bool} {m : Str} {sp : DSp} {cs : List Str} {j : Nat} {o : Expr} {u : DE} {apos pos : Pos} (ok : MetOk X G m sp cs j) (hr : Room j X.A) (he : PE X o (LE X G u))
    (ht : eval (.Call (.Attribute o m apos) [] [] pos) X.env = (do
      let ov ← eval o X.env
      standAt apos.atName
      let (f, first) ← holding [ov] (getMethod ov m pl)
      callWith pos f first (backTo pos (starEach [] X.env)) (backToKw pos (keywordEach [] X.env))) := by rfl) :
    PE X (.Call (.Attribute o m apos) [] [] pos) (LE X G (dMeth m sp cs u dNil)) := PE.mono (pe_mtV0 (pl := pl) hr he ht) fun σ H Q h => by
  obtain ⟨c, W, s, F, Q', X', tk, hs, ht, hq, hx⟩ := meth_run ok h
  exact ⟨c, W, s, F, Q', X', tk, hs, ht, fun r s1 v F1 H1 q1 g1 h1 => by
    obtain ⟨a, C, dx, fs, k, sp, W', tk', e1, e2, e3, M, hk, c2, W2, s2, F2, Q2, X2, tk2, h2, t2, k2, x2⟩ := hq r s1 v F1 H1 q1 g1 h1
    exact ⟨a, C, dx, fs, k, sp, W', tk', e1, e2, e3, M, hk, k2 [] s2 [] F2 H1 t2 (Same.refl _) h2 rfl⟩, hx⟩
/-! ### own classes made -/
def dMake (C : Str) (sp : DSp) (t : DA) : DE := fun s Q X => t s (fun rs s1 => sto s1 rs fun ds s2 => ∀ a, s2.M a = none → sp (.ref a :: ds) (up s2.M a (.ins C [] [])) (fun r M' => match r with
  | .imm .non => optP (M' a) fun d => Q (.new d) { s2 with M := del M' a }
  | _ => False) (fun e M' => X e { s2 with M := del M' a })) X
theorem Hold.delM (h : Hold G c s F σ H Mp P) (a : Addr) : Hold G c { s with M := del s.M a } F σ H Mp P := by
  have sub : ∀ b d, del s.M a b = some d → s.M b = some d := fun b d q => by
    unfold del at q
    split at q
    · cases q
    · exact q
  refine ⟨h.ext, h.fz, h.fr, h.nw, h.be, h.bh, h.mem, fun b d q => h.sub b d (sub b d q), h.len, h.im, fun i d q => ?_, h.inj⟩
  obtain ⟨a1, a2, a3, a4⟩ := h.ow i d q
  refine ⟨a1, a2, ?_, a4⟩
  show del s.M a (P i) = none
  cases z : del s.M a (P i) with
  | none => rfl
  | some e => rw [sub _ e z] at a3; cases a3
theorem make_run {C : Str} {sp : DSp} {ds : List D} {vs : List V} {Q' : PQ} {X' : PX} {Q : VK} {σ : St} (h : Holds G c s F σ H) (rs : Reps G F ds vs) (hsp : ∀ a, s.M a = none → sp (.ref a :: ds) (up s.M a (.ins C [] [])) (fun r M' => match r with
      | .imm .non => optP (M' a) fun d => Q' (.new d) { s with M := del M' a }
      | _ => False) (fun e M' => X' e { s with M := del M' a }))
    (hq : ∀ r s' v F' H', Q' r s' → Same F F' → HoldsR G c s' F' σ H' r v → Q v H') (hx : XPost G c W F σ X') (hC : C ∈ G.cs) {x dx : Addr} (nx : H x = none) (nd : H dx = none) (ne : dx ≠ x) :
    lsp G sp (.ref x :: vs) (upd (upd H dx (.own x)) x (.ins (G.Z C) dx [])) (fun v H2 => v = .non ∧ Q (.ref x) H2) (WE W σ) := by
  obtain ⟨Mp, P, h⟩ := h
  have g1 := Grow.made (o := .own x) h.fz nd
  have h1 := h.grow g1
  have nx1 : upd H dx (.own x) x = none := by rw [upd_ne (Ne.symm ne)]; exact nx
  have g2 := Grow.made (o := .ins (G.Z C) dx []) h1.fz nx1
  have hm := h1.made (d := .ins C [] []) nx1 g2 upd_same (h1.fz.free nx1) ⟨dx, [], rfl, ⟨hC, rfl⟩, rfl⟩
  obtain ⟨h2, p, ep, m1, m2, m3, m4⟩ := hm
  cases ep
  -- it comes into M
  have h3 : Hold G c { s with M := up s.M x (.ins C [] []) } F σ (upd (upd H dx (.own x)) x (.ins (G.Z C) dx [])) (up Mp x (.ins C [] [])) P := by
    refine ⟨h2.ext, h2.fz, h2.fr, h2.nw, h2.be, h2.bh, h2.mem, fun a e q => ?_, h2.len, h2.im, fun i e q => ?_, h2.inj⟩
    · have q' : up s.M x (.ins C [] []) a = some e := q
      by_cases z : a = x
      · subst z
        rw [up_same] at q'
        rw [up_same]; exact q'
      · rw [up_other z] at q'
        exact h2.sub a e q'
    · obtain ⟨a1, a2, a3, a4⟩ := h2.ow i e q
      refine ⟨a1, a2, ?_, a4⟩
      show up s.M x (.ins C [] []) (P i) = none
      rw [up_other (m4 i e q)]
      exact a3
  have rr : Reps G F (.ref x :: ds) (.ref x :: vs) := Reps.cons rfl rs
  refine call_run (Q' := fun r s' => match r with
      | .imm .non => optP (s'.M x) fun d => Q' (.new d) { s' with M := del s'.M x }
      | _ => False) (X' := fun e s' => X' e { s' with M := del s'.M x }) ⟨_, P, h3⟩ rr ?_ (fun r s' v F' H' q g hr => ?_) (fun e s' d F' H' q g hh => ?_)
  · have := hsp x m2
    have e2 : (fun (r : AV) (M' : DM) => match r with
      | .imm .non => optP (M' x) fun d => Q' (.new d) { s with M := del M' x }
      | _ => False) = (fun (r : AV) (M' : DM) => match r.rv with
      | .imm .non => optP (M' x) fun d => Q' (.new d) { s with M := del M' x }
      | _ => False) := by
      funext r M'
      cases r with
      | imm d => cases d <;> rfl
      | new d => rfl
    rw [e2] at this
    exact this
  · split at q
    · obtain ⟨Mq, Pq, hq1, o1⟩ := hr
      refine ⟨o1, ?_⟩
      cases em : s'.M x with
      | none => rw [em] at q; exact q.elim
      | some d =>
        rw [em] at q
        refine hq _ _ _ F' H' q g ⟨Mq, Pq, hq1.delM x, x, rfl, hq1.sub x d em, ?_, m3, fun i e qi z => ?_⟩
        · show del s'.M x x = none
          simp [del]
        · have := (hq1.ow i e qi).2.2.1
          rw [z, em] at this
          cases this
    · exact q.elim
  · obtain ⟨Mq, Pq, hh, xf, nf⟩ := hh
    exact hx e _ d F' H' q g ⟨Mq, Pq, hh.delM x, xf, nf⟩
theorem dl_make {C x : Str} {sp : DSp} {k j : Nat} {p pos : Pos} {e : Expr} {es : List Expr} {t : DA} (hC : C ∈ G.cs) (cl : Mak X.prog X.w X.K X.mg X.base k x (G.Z C) (lsp G sp)) (hr : Room j X.A) (hk : k + 1 ≤ j) (hg : Gl X x) (ha : PA X (e :: es) (LA X G t))
    (hdb : (x == ("__debug__" : Str)) = false := by decide) (he : starEach (e :: es) X.env = (false, eval e X.env) :: starEach es X.env := by rfl) (hpl : (backTo pos (starEach es X.env)).any (·.1) = false := by rfl) :
    PE X (.Call (.Name x p) (e :: es) [] pos) (LE X G (dMake C sp t)) :=
  PE.mono (PE.some (p := fun W => Takes X W) (t := fun W => tMkG (G.Z C) (lsp G sp) (WE W) (LA X G t)) fun W tk => pe_mkG cl hr hk hg (fun σ => passAt tk σ) ha hdb he hpl) fun σ H Q ⟨c, W, s, F, Q', X', tk, hs, ht, hq, hx⟩ => by
  refine ⟨W, tk, c, W, s, F, _, X', tk, hs, ht, fun rs s1 vs F1 H1 q1 g1 h1 o1 => ?_, hx⟩
  obtain ⟨ds, s2, F2, g2, h2, r2, q2⟩ := sto_run h1 o1 q1
  exact fun x dx nx nd ne => make_run h2 r2 q2 (fun r s' v F' H' q g hr => hq r s' v F' H' q ((g1.trans g2).trans g) hr) (hx.mono (g1.trans g2)) hC nx nd ne
theorem dl_make0 {C x : Str} {sp : DSp} {k j : Nat} {p pos : Pos} (hC : C ∈ G.cs) (cl : Mak X.prog X.w X.K X.mg X.base k x (G.Z C) (lsp G sp)) (hr : Room j X.A) (hk : k + 1 ≤ j) (hg : Gl X x)
    (hdb : (x == ("__debug__" : Str)) = false := by decide) : PE X (.Call (.Name x p) [] [] pos) (LE X G (dMake C sp dNil)) :=
  PE.mono (PE.some (p := fun W => Takes X W) (t := fun W => tMkG (G.Z C) (lsp G sp) (WE W) tNil) fun W tk => pe_mkG0 cl hr hk hg (fun σ => passAt tk σ) hdb) fun σ H Q ⟨c, W, s, F, Q', X', tk, hs, ht, hq, hx⟩ =>
  ⟨W, tk, fun x dx nx nd ne => make_run (ds := []) hs rfl ht hq hx hC nx nd ne⟩
end
end DL

set_option Elab.async false
set_option linter.all false
set_option maxRecDepth 100000
set_option maxHeartbeats 4000000
namespace DL
open PySem L2 PL
/-! ### primitives -/
section
variable {X : Cx} {G : Sig} {H F : Hp} {K : PySem.W.Frag}
theorem OpR.or {f : Value → Value → Sem Value} {r r' : R2} (h : OpR X f r) (h' : OpR X f r') : OpR X f (fun x y H Q => r x y H Q ∨ r' x y H Q) := fun pins s σ H x y v u Q I rx ry q => q.elim (h pins s σ H x y v u Q I rx ry) (h' pins s σ H x y v u Q I rx ry)
theorem CallR.or {f : Value} {r r' : List V → Hp → VK → Prop} (h : CallR X f r) (h' : CallR X f r') : CallR X f (fun xs H Q => r xs H Q ∨ r' xs H Q) := fun pins s σ H xs us Q I rx q => q.elim (h pins s σ H xs us Q I rx) (h' pins s σ H xs us Q I rx)
/-- an answer that needs no heap -/
theorem res_imm {Q : VK} {d : D} {v : V} (fz : Same F H) (r : Res G H F Q (.imm d)) (rp : Rep G F d v) : Q v H := r v F H (Grow.refl fz) rp
theorem res_newL {Q : VK} {ds : List D} {vs : List V} (fz : Same F H) (r : Res G H F Q (.new (.lst ds))) (rp : Reps G F ds vs) : ∀ p, H p = none → Q (.ref p) (upd H p (.lst vs)) := fun p np => r p _ F _ (Grow.made fz np) np upd_same (fz.free np) ⟨vs, rfl, rp⟩
theorem res_newT {Q : VK} {ds : List D} {vs : List V} (fz : Same F H) (r : Res G H F Q (.imm (.tup ds))) (rp : Reps G F ds vs) : ∀ p o, o.dict = none → H p = none → Q (.ref p) (upd H p (.frz o (.tup vs))) := fun p o nd np => by
  have g := Grow.laid (o := .frz o (.tup vs)) fz np
  refine r _ _ _ g ?_
  simp only [Rep]
  exact ⟨p, vs, rfl, .inl ⟨o, upd_same, nd⟩, Reps.mono g.f _ _ rp⟩
theorem tup_top {xs : List D} {v : V} (fz : Same F H) (t : Top G H F (.tup xs) v) : ∃ a vs, v = .ref a ∧ SqT G.K H a vs ∧ Reps G F xs vs := by
  have t' : Rep G F (.tup xs) v := t
  simp only [Rep] at t'
  obtain ⟨a, vs, e, q, r⟩ := t'
  exact ⟨a, vs, e, (q.mono fz).sq, r⟩
/-! #### + -/
theorem op_catLx : OpR X (binaryOp .Add) (fun x y H Q => ∃ l b xs zs, x = .ref l ∧ y = .ref b ∧ SqL X.K H l xs ∧ SqL X.K H b zs ∧ xs.length + zs.length ≤ sizeLine ∧ ∀ p, H p = none → Q (.ref p) (upd H p (.lst (xs ++ zs)))) := by
  intro pins s σ H x y v u Q I rx ry h
  obtain ⟨l, b, xs, zs, rfl, rfl, hH, hB, hz, q⟩ := h
  cases rx
  cases ry
  obtain ⟨its, r, ⟨⟨oc, od, dt, sl⟩, n, ho, hc, hd, hs⟩, z⟩ := I.list hH
  obtain ⟨its2, r2, ⟨⟨oc2, od2, dt2, sl2⟩, n2, ho2, hc2, hd2, hs2⟩, z2⟩ := I.list hB
  simp only at hc hd hs hc2 hd2 hs2
  subst hc hd hs hc2 hd2 hs2
  have l1 := r.length
  have l2 := r2.length
  refine PySem.concat_meets ⟨_, ho, rfl⟩ ⟨_, ho2, rfl⟩ PySem.noFill_list_add PySem.seq_list_add PySem.F.slot_list_add PySem.F.entry_list_add (PySem.F.args_list_add_2 _ _) (PyProof.Rows.list_addW l b its.toArray its2.toArray n n2 none none sl sl2 (by simp; omega)) ⟨ho, ho2, ?_⟩
  have ea : its.toArray ++ its2.toArray = (its ++ its2).toArray := by simp
  rw [ea]
  exact ⟨.ref _, _, I.lnew (t' := s.toks) (r.append r2) (by rw [List.length_append]; omega), rfl, q _ I.fresh⟩
def rCatF (K : PySem.W.Frag) : R2 := fun x y H Q => ∃ a b xs ys, x = .ref a ∧ y = .ref b ∧ SqT K H a xs ∧ SqT K H b ys ∧ xs.length + ys.length ≤ sizeLine ∧
  (xs = [] → Q (.ref b) H) ∧ (xs ≠ [] → ys = [] → Q (.ref a) H) ∧ (xs ≠ [] → ys ≠ [] → ∀ p o, o.dict = none → H p = none → Q (.ref p) (upd H p (.frz o (.tup (xs ++ ys)))))
theorem op_catF : OpR X (binaryOp .Add) (rCatF X.K) := by
  intro pins s σ H x y v u Q I rx ry h
  obtain ⟨a, b, xs, ys, rfl, rfl, ha, hb, hz, q0, q1, q2⟩ := h
  cases rx
  cases ry
  obtain ⟨its, r1, p1, _⟩ := I.tuple ha
  obtain ⟨its2, r2, p2, _⟩ := I.tuple hb
  by_cases hx : xs = []
  · subst hx
    cases r1
    exact cat_tup0 p1 p2 ⟨.ref b, H, I, rfl, q0 rfl⟩
  · refine HT.cat_tup p1 p2 (fun z => hx (r1.nil_iff.mp z)) (fun z => ⟨.ref a, H, I, rfl, q1 hx (r2.nil_iff.mp z)⟩) (fun z => ?_) (by rw [← r1.length, ← r2.length]; exact hz)
    refine ⟨.ref s.heap.objs.size, _, I.laid (t' := s.toks) (o := .frz { cls := .type "tuple", data := .seq (its ++ its2).toArray } (.tup (xs ++ ys))) (fun b ob q => Heap.get?_push_of_some _ q) (Nat.le_refl _) ?_, rfl, q2 hx (fun w => z (r2.nil_iff.mpr w)) _ _ rfl (I.hok.fresh (Nat.le_refl _))⟩
    exact ⟨Heap.get?_push_size _ rfl, by rw [List.length_append]; exact hz, _, r1.append r2, PyProof.Rows.IsTup.new _ _⟩
theorem tops1 {d : D} {vs : List V} (t : Tops G H F [d] vs) : ∃ x, vs = [x] ∧ Top G H F d x := by
  obtain ⟨x, w, rfl, tx, tw⟩ := t
  cases (show w = [] from tw)
  exact ⟨x, rfl, tx⟩
theorem tops2 {d e : D} {vs : List V} (t : Tops G H F [d, e] vs) : ∃ x y, vs = [x, y] ∧ Top G H F d x ∧ Top G H F e y := by
  obtain ⟨x, w, rfl, tx, tw⟩ := t
  obtain ⟨y, rfl, ty⟩ := tops1 tw
  exact ⟨x, y, rfl, tx, ty⟩
def pAdd : PN := fun ds k => match ds with
  | [.int i, .int j] => k (.imm (.int (i + j)))
  | [.str a, .str b] => a.length + b.length ≤ sizeLine ∧ k (.imm (.str (a ++ b)))
  | [.lst xs, .lst ys] => xs.length + ys.length ≤ sizeLine ∧ k (.new (.lst (xs ++ ys)))
  | [.tup xs, .tup ys] => xs.length + ys.length ≤ sizeLine ∧ k (.imm (.tup (xs ++ ys)))
  | _ => False
def rAddA (K : PySem.W.Frag) : R2 := fun x y H Q => rI0 (fun i j => .int (i + j)) x y H Q ∨ (∃ i j, x = .str i ∧ y = .str j ∧ i.length + j.length ≤ sizeLine ∧ Q (.str (i ++ j)) H) ∨
  (∃ l b xs zs, x = .ref l ∧ y = .ref b ∧ SqL K H l xs ∧ SqL K H b zs ∧ xs.length + zs.length ≤ sizeLine ∧ ∀ p, H p = none → Q (.ref p) (upd H p (.lst (xs ++ zs)))) ∨ rCatF K x y H Q
theorem op_addA (hK : X.K = G.K) : OpR X (binaryOp .Add) (rAddA G.K) := hK ▸ OpR.or op_add (OpR.or op_add_str (OpR.or op_catLx op_catF))
theorem ok_add : OkP G (r2 (rAddA G.K)) pAdd := fun vs ds H F Q k t fz hf hk => by
  unfold pAdd at hf
  split at hf
  · obtain ⟨x, y, rfl, tx, ty⟩ := tops2 t
    exact .inl ⟨_, _, tx, ty, res_imm fz (hk _ hf) rfl⟩
  · obtain ⟨x, y, rfl, tx, ty⟩ := tops2 t
    exact .inr (.inl ⟨_, _, tx, ty, hf.1, res_imm fz (hk _ hf.2) rfl⟩)
  · obtain ⟨x, y, rfl, ⟨a, vs, rfl, sq, rs⟩, ⟨b, ws, rfl, sq2, rs2⟩⟩ := tops2 t
    exact .inr (.inr (.inl ⟨a, b, vs, ws, rfl, rfl, sq, sq2, by rw [← rs.length, ← rs2.length]; exact hf.1, res_newL fz (hk _ hf.2) (rs.append rs2)⟩))
  · rename_i xs ys
    obtain ⟨x, y, rfl, tx, ty⟩ := tops2 t
    obtain ⟨a, vs, rfl, sq, rs⟩ := tup_top fz tx
    obtain ⟨b, ws, rfl, sq2, rs2⟩ := tup_top fz ty
    refine .inr (.inr (.inr ⟨a, b, vs, ws, rfl, rfl, sq, sq2, by rw [← rs.length, ← rs2.length]; exact hf.1, fun e => ?_, fun _ e => ?_, fun _ _ => res_newT fz (hk _ hf.2) (rs.append rs2)⟩))
    · have : xs = [] := List.eq_nil_of_length_eq_zero (by rw [rs.length, e]; rfl)
      subst this
      exact res_imm fz (hk _ hf.2) (show Rep G F (.tup ys) (.ref b) from ty)
    · have : ys = [] := List.eq_nil_of_length_eq_zero (by rw [rs2.length, e]; rfl)
      subst this
      have h2 := hf.2
      rw [List.append_nil] at h2
      exact res_imm fz (hk _ h2) (show Rep G F (.tup xs) (.ref a) from tx)
  · exact hf.elim
/-! #### numbers -/
def pI2 (C : Int → Int → Prop) (g : Int → Int → D) : PN := fun ds k => match ds with
  | [.int i, .int j] => C i j ∧ k (.imm (g i j))
  | _ => False
theorem ok_i2 {C : Int → Int → Prop} {g : Int → Int → V} {gd : Int → Int → D} (h : ∀ i j F, Rep G F (gd i j) (g i j)) : OkP G (r2 (rI C g)) (pI2 C gd) := fun vs ds H F Q k t fz hf hk => by
  unfold pI2 at hf
  split at hf
  · obtain ⟨x, y, rfl, tx, ty⟩ := tops2 t
    exact ⟨_, _, tx, ty, hf.1, res_imm fz (hk _ hf.2) (h _ _ F)⟩
  · exact hf.elim
def pI0 (g : Int → Int → D) : PN := fun ds k => match ds with
  | [.int i, .int j] => k (.imm (g i j))
  | _ => False
theorem ok_i0 {g : Int → Int → V} {gd : Int → Int → D} (h : ∀ i j F, Rep G F (gd i j) (g i j)) : OkP G (r2 (rI0 g)) (pI0 gd) := fun vs ds H F Q k t fz hf hk => by
  unfold pI0 at hf
  split at hf
  · obtain ⟨x, y, rfl, tx, ty⟩ := tops2 t
    exact ⟨_, _, tx, ty, res_imm fz (hk _ hf) (h _ _ F)⟩
  · exact hf.elim
abbrev pSub : PN := pI0 fun i j => .int (i - j)
theorem ok_sub : OkP G (r2 (rI0 fun i j => .int (i - j))) pSub := ok_i0 fun _ _ _ => rfl
abbrev pMod : PN := pI2 (fun _ j => 0 < j) fun i j => .int (i % j)
theorem ok_mod : OkP G (r2 (rI (fun _ j => 0 < j) fun i j => .int (i % j))) pMod := ok_i2 fun _ _ _ => rfl
abbrev pDiv : PN := pI2 CDivW fun i j => .int (i / j)
theorem ok_div : OkP G (r2 (rI CDivW fun i j => .int (i / j))) pDiv := ok_i2 fun _ _ _ => rfl
abbrev pPow : PN := pI2 CPow fun i j => .int (i ^ j.toNat)
theorem ok_pow : OkP G (r2 (rI CPow fun i j => .int (i ^ j.toNat))) pPow := ok_i2 fun _ _ _ => rfl
abbrev pShr : PN := pI2 (fun _ j => 0 ≤ j) fun i j => .int (i / 2 ^ j.toNat)
theorem ok_shr : OkP G (r2 (rI (fun _ j => 0 ≤ j) fun i j => .int (i / 2 ^ j.toNat))) pShr := ok_i2 fun _ _ _ => rfl
abbrev pBand : PN := pI0 fun i j => .int (Builtin.bitAnd i j)
theorem ok_band : OkP G (r2 (rI0 fun i j => .int (Builtin.bitAnd i j))) pBand := ok_i0 fun _ _ _ => rfl
def pNeg : PN := fun ds k => match ds with
  | [.int i] => k (.imm (.int (-i)))
  | _ => False
theorem ok_neg : OkP G (r1 (rU fun i => .int (-i))) pNeg := fun vs ds H F Q k t fz hf hk => by
  unfold pNeg at hf
  split at hf
  · obtain ⟨x, rfl, tx⟩ := tops1 t
    exact ⟨_, tx, res_imm fz (hk _ hf) rfl⟩
  · exact hf.elim
def pMul : PN := fun ds k => match ds with
  | [.int i, .int j] => CMulW i j ∧ k (.imm (.int (i * j)))
  | _ => False
theorem ok_mul : OkP G (r2 (rI CMulW fun i j => .int (i * j))) pMul := fun vs ds H F Q k t fz hf hk => by
  unfold pMul at hf
  split at hf
  · obtain ⟨x, y, rfl, tx, ty⟩ := tops2 t
    exact ⟨_, _, tx, ty, hf.1, res_imm fz (hk _ hf.2) rfl⟩
  · exact hf.elim
/-! #### comparisons of numbers -/
abbrev pLt : PN := pI0 fun i j => .bl (decide (i < j))
abbrev pLe : PN := pI0 fun i j => .bl (decide (i ≤ j))
abbrev pGt : PN := pI0 fun i j => .bl (decide (j < i))
abbrev pGe : PN := pI0 fun i j => .bl (decide (j ≤ i))
theorem ok_lt : OkP G (r2 (rI0 fun i j => .bl (decide (i < j)))) pLt := ok_i0 fun _ _ _ => rfl
theorem ok_le : OkP G (r2 (rI0 fun i j => .bl (decide (i ≤ j)))) pLe := ok_i0 fun _ _ _ => rfl
theorem ok_gt : OkP G (r2 (rI0 fun i j => .bl (decide (j < i)))) pGt := ok_i0 fun _ _ _ => rfl
theorem ok_ge : OkP G (r2 (rI0 fun i j => .bl (decide (j ≤ i)))) pGe := ok_i0 fun _ _ _ => rfl
/-! #### is None -/
def isNon : D → Bool
  | .non => true
  | _ => false
theorem top_non {d : D} {x : V} (t : Top G H F d x) (hd : ∀ n, d ≠ .ty n) : decide (x = .non) = isNon d := by
  cases d with
  | non => cases (show x = .non from t); rfl
  | bl b => cases (show x = .bl b from t); rfl
  | int b => cases (show x = .int b from t); rfl
  | str b => cases (show x = .str b from t); rfl
  | ref b => cases (show x = .ref b from t); rfl
  | cls b => obtain ⟨rfl, _⟩ := (show x = .ref (G.Z b) ∧ b ∈ G.cs from t); rfl
  | ty n => exact absurd rfl (hd n)
  | tup xs =>
    have t' : Rep G F (.tup xs) x := t
    simp only [Rep] at t'
    obtain ⟨a, vs, rfl, _⟩ := t'
    rfl
  | xfd f y =>
    have t' : Rep G F (.xfd f y) x := t
    simp only [Rep] at t'
    obtain ⟨a, w, rfl, _⟩ := t'
    rfl
  | lst xs => obtain ⟨a, vs, rfl, _⟩ := t; rfl
  | dic ks xs => obtain ⟨a, rfl, _⟩ := t; rfl
  | ins C ns xs => obtain ⟨a, dx, vs, rfl, _⟩ := t; rfl
def pIs : PN := fun ds k => match ds with
  | [.ty _, .non] => False
  | [d, .non] => k (.imm (.bl (isNon d)))
  | _ => False
def pIsNot : PN := fun ds k => match ds with
  | [.ty _, .non] => False
  | [d, .non] => k (.imm (.bl (!isNon d)))
  | _ => False
theorem ok_is : OkP G (r2 (fun x y H Q => y = .non ∧ Q (.bl (decide (x = .non))) H)) pIs := fun vs ds H F Q k t fz hf hk => by
  unfold pIs at hf
  split at hf
  · exact hf.elim
  · rename_i d hd
    obtain ⟨x, y, rfl, tx, ty⟩ := tops2 t
    refine ⟨ty, ?_⟩
    rw [top_non tx fun n z => by subst z; exact hd n rfl]
    exact res_imm fz (hk _ hf) rfl
  · exact hf.elim
theorem ok_isNot : OkP G (r2 (fun x y H Q => y = .non ∧ Q (.bl (!decide (x = .non))) H)) pIsNot := fun vs ds H F Q k t fz hf hk => by
  unfold pIsNot at hf
  split at hf
  · exact hf.elim
  · rename_i d hd
    obtain ⟨x, y, rfl, tx, ty⟩ := tops2 t
    refine ⟨ty, ?_⟩
    rw [top_non tx fun n z => by subst z; exact hd n rfl]
    exact res_imm fz (hk _ hf) rfl
  · exact hf.elim
/-! #### data as the library has it -/
mutual
def toPy : D → Option PyData
  | .non => some .none
  | .bl b => some (.bool b)
  | .int i => some (.int i)
  | .str x => some (.str x)
  | .tup xs => (toPys xs).map .tuple
  | .lst xs => (toPys xs).map .list
  | _ => none
def toPys : List D → Option (List PyData)
  | [] => some []
  | x :: xs => (toPy x).bind fun p => (toPys xs).map fun ps => p :: ps
end
mutual
theorem toPy_dp (fz : Same F H) : ∀ (d : D) (v : V) (p : PyData), Rep G F d v → toPy d = some p → Dp G.K H v p
  | .non, _, _, r, e => by simp only [toPy] at e; cases e; cases (show _ = V.non from r); exact .non
  | .bl b, _, _, r, e => by simp only [toPy] at e; cases e; cases (show _ = V.bl b from r); exact .bl b
  | .int b, _, _, r, e => by simp only [toPy] at e; cases e; cases (show _ = V.int b from r); exact .int b
  | .str b, _, _, r, e => by simp only [toPy] at e; cases e; cases (show _ = V.str b from r); exact .str b
  | .ty _, _, _, _, e => by simp [toPy] at e
  | .ref _, _, _, _, e => by simp [toPy] at e
  | .cls _, _, _, _, e => by simp [toPy] at e
  | .xfd _ _, _, _, _, e => by simp [toPy] at e
  | .dic _ _, _, _, _, e => by simp [toPy] at e
  | .ins _ _ _, _, _, _, e => by simp [toPy] at e
  | .tup xs, _, _, r, e => by
    simp only [toPy] at e
    simp only [Rep] at r
    obtain ⟨ps, e1, rfl⟩ := Option.map_eq_some_iff.mp e
    obtain ⟨a, vs, rfl, sq, rs⟩ := r
    exact .tup (sq.mono fz).sq (toPys_dp fz xs vs ps rs e1)
  | .lst xs, _, _, r, e => by
    simp only [toPy] at e
    simp only [Rep] at r
    obtain ⟨ps, e1, rfl⟩ := Option.map_eq_some_iff.mp e
    obtain ⟨a, vs, rfl, sq, rs⟩ := r
    exact .lst (fz.seq sq) (toPys_dp fz xs vs ps rs e1)
theorem toPys_dp (fz : Same F H) : ∀ (ds : List D) (vs : List V) (ps : List PyData), Reps G F ds vs → toPys ds = some ps → DpAll G.K H vs ps
  | [], _, _, r, e => by
    simp only [toPys] at e
    cases e
    cases (show _ = [] from r)
    exact .nil
  | x :: xs, _, _, r, e => by
    simp only [toPys] at e
    obtain ⟨v, w, rfl, a, b⟩ := r
    obtain ⟨p, e1, e2⟩ := Option.bind_eq_some_iff.mp e
    obtain ⟨ps, e3, rfl⟩ := Option.map_eq_some_iff.mp e2
    exact .cons (toPy_dp fz x v p a e1) (toPys_dp fz xs w ps b e3)
end
theorem top_dp {d : D} {v : V} {p : PyData} (fz : Same F H) (t : Top G H F d v) (e : toPy d = some p) : Dp G.K H v p := by
  cases d with
  | lst xs =>
    simp only [toPy] at e
    obtain ⟨ps, e1, rfl⟩ := Option.map_eq_some_iff.mp e
    obtain ⟨a, vs, rfl, sq, rs⟩ := t
    exact .lst sq (toPys_dp fz xs vs ps rs e1)
  | dic _ _ => simp [toPy] at e
  | ins _ _ _ => simp [toPy] at e
  | _ => exact toPy_dp fz _ _ _ t e
def pEqG (neg : Bool) : PN := fun ds k => match ds with
  | [.str a, .str b] => k (.imm (.bl (neg ^^ decide (a = b))))
  | [.int a, .int b] => k (.imm (.bl (neg ^^ decide (a = b))))
  | [d, e] => optP (toPy d) fun p => optP (toPy e) fun q => SeqAt.shaped p = true ∧ SeqAt.shaped q = true ∧ k (.imm (.bl (neg ^^ PyData.eqv p q)))
  | _ => False
abbrev pEq : PN := pEqG false
abbrev pNe : PN := pEqG true
def rEqA (K : PySem.W.Frag) : R2 := fun x y H Q => rEq x y H Q ∨ rEqD K x y H Q
def rNeA (K : PySem.W.Frag) : R2 := fun x y H Q => rNe x y H Q ∨ rNeD K x y H Q
theorem op_eqA (hK : X.K = G.K) (hu : X.A.units + 64 < cLine) : OpR X (compareOp .Eq) (rEqA G.K) := hK ▸ OpR.or op_eq (op_eqD hu)
theorem op_neA (hK : X.K = G.K) (hu : X.A.units + 64 < cLine) : OpR X (compareOp .NotEq) (rNeA G.K) := hK ▸ OpR.or op_ne (op_neD hu)
theorem ok_eq : OkP G (r2 (rEqA G.K)) pEq := fun vs ds H F Q k t fz hf hk => by
  unfold pEq pEqG at hf
  split at hf
  · obtain ⟨x, y, rfl, tx, ty⟩ := tops2 t
    cases (show x = V.str _ from tx)
    cases (show y = V.str _ from ty)
    refine .inl ⟨rfl, ?_⟩
    have := res_imm fz (hk _ hf) rfl
    simpa using this
  · obtain ⟨x, y, rfl, tx, ty⟩ := tops2 t
    cases (show x = V.int _ from tx)
    cases (show y = V.int _ from ty)
    refine .inl ⟨rfl, ?_⟩
    have := res_imm fz (hk _ hf) rfl
    simpa using this
  · rename_i d e _ _
    obtain ⟨x, y, rfl, tx, ty⟩ := tops2 t
    cases e1 : toPy d with
    | none => rw [e1] at hf; exact hf.elim
    | some p =>
      rw [e1] at hf
      cases e2 : toPy e with
      | none => rw [e2] at hf; exact hf.elim
      | some q =>
        rw [e2] at hf
        obtain ⟨s1, s2, hf⟩ := hf
        refine .inr ⟨p, q, top_dp fz tx e1, top_dp fz ty e2, s1, s2, ?_⟩
        have := res_imm fz (hk _ hf) rfl
        simpa using this
  · exact hf.elim
theorem ok_ne : OkP G (r2 (rNeA G.K)) pNe := fun vs ds H F Q k t fz hf hk => by
  unfold pNe pEqG at hf
  split at hf
  · obtain ⟨x, y, rfl, tx, ty⟩ := tops2 t
    cases (show x = V.str _ from tx)
    cases (show y = V.str _ from ty)
    refine .inl ⟨rfl, ?_⟩
    have := res_imm fz (hk _ hf) rfl
    simpa using this
  · obtain ⟨x, y, rfl, tx, ty⟩ := tops2 t
    cases (show x = V.int _ from tx)
    cases (show y = V.int _ from ty)
    refine .inl ⟨rfl, ?_⟩
    have := res_imm fz (hk _ hf) rfl
    simpa using this
  · rename_i d e _ _
    obtain ⟨x, y, rfl, tx, ty⟩ := tops2 t
    cases e1 : toPy d with
    | none => rw [e1] at hf; exact hf.elim
    | some p =>
      rw [e1] at hf
      cases e2 : toPy e with
      | none => rw [e2] at hf; exact hf.elim
      | some q =>
        rw [e2] at hf
        obtain ⟨s1, s2, hf⟩ := hf
        refine .inr ⟨p, q, top_dp fz tx e1, top_dp fz ty e2, s1, s2, ?_⟩
        have := res_imm fz (hk _ hf) rfl
        simpa using this
  · exact hf.elim
/-! #### len, items, slices -/
def pLen : PN := fun ds k => match ds with
  | [.str x] => x.length ≤ sizeLine ∧ k (.imm (.int x.length))
  | [.lst xs] => k (.imm (.int xs.length))
  | [.tup xs] => k (.imm (.int xs.length))
  | _ => False
theorem call_lenK (hK : X.K = G.K) : CallR X (.builtin "len") (fun xs H Q => ∃ x n, xs = [x] ∧ LenV G.K x H n ∧ Q (.int n) H) := hK ▸ call_len
theorem ok_len : OkP G (fun xs H Q => ∃ x n, xs = [x] ∧ LenV G.K x H n ∧ Q (.int n) H) pLen := fun vs ds H F Q k t fz hf hk => by
  unfold pLen at hf
  split at hf
  · obtain ⟨x, rfl, tx⟩ := tops1 t
    cases (show x = V.str _ from tx)
    exact ⟨_, _, rfl, ⟨hf.1, rfl⟩, res_imm fz (hk _ hf.2) rfl⟩
  · obtain ⟨x, rfl, a, vs, rfl, sq, rs⟩ := tops1 t
    refine ⟨_, _, rfl, .inl ⟨vs, sq, rfl⟩, ?_⟩
    rw [← rs.length]
    exact res_imm fz (hk _ hf) rfl
  · obtain ⟨x, rfl, tx⟩ := tops1 t
    obtain ⟨a, vs, rfl, sq, rs⟩ := tup_top fz tx
    refine ⟨_, _, rfl, .inr ⟨vs, sq, rfl⟩, ?_⟩
    rw [← rs.length]
    exact res_imm fz (hk _ hf) rfl
  · exact hf.elim
theorem atI_reps {ds : List D} {vs : List V} {i : Int} {d : D} (rs : Reps G F ds vs) (e : atI ds i = some d) : ∃ v, atI vs i = some v ∧ Rep G F d v := by
  unfold atI at e ⊢
  rw [← rs.length]
  obtain ⟨j, e1, e2⟩ := Option.bind_eq_some_iff.mp e
  obtain ⟨v, e3, r⟩ := rs.get e2
  exact ⟨v, by rw [e1]; exact e3, r⟩
def pIx : PN := fun ds k => match ds with
  | [.lst xs, .int i] => optP (atI xs i) fun d => k (.imm d)
  | [.tup xs, .int i] => optP (atI xs i) fun d => k (.imm d)
  | [.str x, .int i] => x.length ≤ sizeLine ∧ optP (atI x.cps.toList i) fun c => k (.imm (.str ⟨#[c]⟩))
  | _ => False
theorem ix_K (hK : X.K = G.K) : IxR X (rIx G.K) := hK ▸ ix_seq
theorem optP_some {α : Type} {o : Option α} {k : α → Prop} (h : optP o k) : ∃ a, o = some a ∧ k a := by
  cases o with
  | none => exact h.elim
  | some a => exact ⟨a, rfl, h⟩
theorem ok_ix : OkP G (r2 (rIx G.K)) pIx := fun vs ds H F Q k t fz hf hk => by
  unfold pIx at hf
  split at hf
  · obtain ⟨x, y, rfl, ⟨a, vs, rfl, sq, rs⟩, ty⟩ := tops2 t
    obtain ⟨d, e, hf⟩ := optP_some hf
    obtain ⟨v, ev, rv⟩ := atI_reps rs e
    exact .inl ⟨a, vs, _, v, rfl, ty, sq, ev, res_imm fz (hk _ hf) rv⟩
  · obtain ⟨x, y, rfl, tx, ty⟩ := tops2 t
    obtain ⟨a, vs, rfl, sq, rs⟩ := tup_top fz tx
    obtain ⟨d, e, hf⟩ := optP_some hf
    obtain ⟨v, ev, rv⟩ := atI_reps rs e
    exact .inr (.inl ⟨a, vs, _, v, rfl, ty, sq, ev, res_imm fz (hk _ hf) rv⟩)
  · obtain ⟨x, y, rfl, tx, ty⟩ := tops2 t
    obtain ⟨hl, hf⟩ := hf
    obtain ⟨d, e, hf⟩ := optP_some hf
    exact .inr (.inr ⟨_, _, d, tx, ty, hl, e, res_imm fz (hk _ hf) rfl⟩)
  · exact hf.elim
def cutD {α : Type} (xs : List α) (lo hi : Option Int) : List α := (xs.drop (HT.sIx xs.length 0 lo)).take (HT.sIx xs.length xs.length hi - HT.sIx xs.length 0 lo)
end
end DL

set_option Elab.async false
set_option linter.all false
set_option maxRecDepth 100000
set_option maxHeartbeats 4000000
namespace DL
open PySem L2 PL
section
variable {X : Cx} {G : Sig} {c : Fm} {W : WX} {s : DSt} {F F' H H' : Hp} {σ : St} {pos : Pos} {Mp : DM} {P : Nat → Addr}
/-! ### slices -/
abbrev DO := DSt → (Option Int → DSt → Prop) → PX → Prop
def LO (X : Cx) (G : Sig) (t : DO) : TO := fun σ H Q => ∃ c W s F Q' X', Takes X W ∧ Holds G c s F σ H ∧ t s Q' X' ∧ (∀ i s' F' H', Q' i s' → Same F F' → Holds G c s' F' σ H' → Q i H') ∧ XPost G c W F σ X'
def dNoP : DO := fun s Q _ => Q none s
def dPart (t : DE) : DO := fun s Q X => t s (fun r s1 => match r with
  | .imm (.int i) => Q (some i) s1
  | _ => False) X
theorem PO.mono {e : Option Expr} {t u : TO} (h : PO X e t) (m : ∀ σ H Q, u σ H Q → t σ H Q) : PO X e u := ⟨fun pins s σ H Q I q => h.run pins s σ H Q I (m σ H Q q)⟩
theorem dl_noP : PO X none (LO X G dNoP) := PO.mono po_none fun σ H Q ⟨c, W, s, F, Q', X', tk, hs, ht, hq, hx⟩ => hq none s F H ht (Same.refl _) hs
theorem dl_part {e : Expr} {t : DE} (h : PE X e (LE X G t)) : PO X (some e) (LO X G (dPart t)) := PO.mono (po_some h) fun σ H Q ⟨c, W, s, F, Q', X', tk, hs, ht, hq, hx⟩ =>
  ⟨c, W, s, F, _, X', tk, hs, ht, fun r s1 v F1 H1 q1 g1 h1 => by
    split at q1
    · rename_i i
      obtain ⟨Mp, P, h1, o⟩ := h1
      exact ⟨i, o, hq _ s1 F1 H1 q1 g1 ⟨Mp, P, h1⟩⟩
    · exact q1.elim, hx⟩
def pSl (d : D) (lo hi : Option Int) (k : AV → Prop) : Prop := match d with
  | .lst xs => k (.new (.lst (cutD xs lo hi)))
  | .tup xs => k (.imm (.tup (cutD xs lo hi)))
  | .str x => x.length ≤ sizeLine ∧ k (.imm (.str (cutS x lo hi)))
  | _ => False
def dSl (t : DE) (lo hi : DO) : DE := fun s Q X => t s (fun r s1 => lo s1 (fun l s2 => hi s2 (fun u s3 => optP (view s3 r.frz) fun d => pSl d l u fun a => Q a.rv s3) X) X) X
def rSlF (K : PySem.W.Frag) : V → Option Int → Option Int → Hp → VK → Prop := fun x lo hi H Q => ∃ a xs, x = .ref a ∧ SqT K H a xs ∧
  (HT.sIx xs.length 0 lo = 0 ∧ HT.sIx xs.length xs.length hi = xs.length → Q (.ref a) H) ∧ (¬ (HT.sIx xs.length 0 lo = 0 ∧ HT.sIx xs.length xs.length hi = xs.length) → ∀ p o, o.dict = none → H p = none → Q (.ref p) (upd H p (.frz o (.tup (cutV xs lo hi)))))
theorem sl_tupF : SlR X (rSlF X.K) := by
  intro pins s σ H x v vl vu lo hi sl Q I rx hs pl pu h
  obtain ⟨a, xs, rfl, hx, q1, q2⟩ := h
  cases rx
  obtain ⟨its, r, ht, hz⟩ := I.tuple hx
  have hlen : its.toArray.size = xs.length := by rw [List.size_toArray]; exact r.length.symm
  refine ⟨"tuple", _, PyProof.Rows.slot_tuple_getitem.lookup, ht.typeIs, ?_⟩
  by_cases hw : HT.sIx xs.length 0 lo = 0 ∧ HT.sIx xs.length xs.length hi = xs.length
  · exact getItem_tuple_whole ht hs pl pu (by rw [hlen]; exact hw) ⟨.ref a, H, I, rfl, q1 hw⟩
  · refine HT.getItem_tuple_cut ht hs pl pu (by rw [hlen]; exact hw) ?_ (by rw [hlen]; exact hz)
    rw [hlen]
    refine ⟨.ref s.heap.objs.size, _, I.laid (t' := s.toks) (o := .frz { cls := .type "tuple", data := .seq (((its.drop (HT.sIx xs.length 0 lo)).take (HT.sIx xs.length xs.length hi - HT.sIx xs.length 0 lo))).toArray } (.tup (cutV xs lo hi))) (fun b ob q => Heap.get?_push_of_some _ q) (Nat.le_refl _) ?_, rfl, q2 hw _ _ rfl (I.hok.fresh (Nat.le_refl _))⟩
    exact ⟨Heap.get?_push_size _ rfl, Nat.le_trans (cutV_length xs lo hi) hz, _, (r.drop (HT.sIx xs.length 0 lo)).take (HT.sIx xs.length xs.length hi - HT.sIx xs.length 0 lo), PyProof.Rows.IsTup.new _ _⟩
def rSlX (K : PySem.W.Frag) : V → Option Int → Option Int → Hp → VK → Prop := fun x lo hi H Q => rSlL K x lo hi H Q ∨ rSlF K x lo hi H Q ∨ rSlS x lo hi H Q
theorem sl_X (hK : X.K = G.K) : SlR X (rSlX G.K) := hK ▸ SlR.or sl_list (SlR.or sl_tupF sl_str)
theorem cut_reps {xs : List D} {vs : List V} (rs : Reps G F xs vs) (lo hi : Option Int) : Reps G F (cutD xs lo hi) (cutV vs lo hi) := by
  unfold cutD cutV
  rw [rs.length]
  exact (rs.drop _).take _
theorem cut_whole {xs : List D} {lo hi : Option Int} (h : HT.sIx xs.length 0 lo = 0 ∧ HT.sIx xs.length xs.length hi = xs.length) : cutD xs lo hi = xs := by
  unfold cutD
  rw [h.1, h.2]
  simp
theorem sl_ok {d : D} {x : V} {lo hi : Option Int} {Q : VK} {k : AV → Prop} (tx : Top G H F d x) (fz : Same F H) (hf : pSl d lo hi k) (hk : ∀ a, k a → Res G H F Q a) : rSlX G.K x lo hi H Q := by
  unfold pSl at hf
  split at hf
  · obtain ⟨a, vs, rfl, sq, rs⟩ := tx
    exact .inl ⟨a, vs, rfl, sq, res_newL fz (hk _ hf) (cut_reps rs lo hi)⟩
  · rename_i xs
    obtain ⟨a, vs, rfl, sq, rs⟩ := tup_top fz tx
    refine .inr (.inl ⟨a, vs, rfl, sq, fun w => ?_, fun w => res_newT fz (hk _ hf) (cut_reps rs lo hi)⟩)
    rw [← rs.length] at w
    rw [cut_whole w] at hf
    exact res_imm fz (hk _ hf) (show Rep G F (.tup xs) (.ref a) from tx)
  · exact .inr (.inr ⟨_, tx, hf.1, res_imm fz (hk _ hf.2) rfl⟩)
  · exact hf.elim
theorem dl_sl {e : Expr} {lo hi : Option Expr} {p2 : Pos} {t : DE} {l u : DO} (hK : X.K = G.K) (he : PE X e (LE X G t)) (hl : PO X lo (LO X G l)) (hu : PO X hi (LO X G u)) : PE X (.Subscript e (.Slice lo hi none p2) pos) (LE X G (dSl t l u)) :=
  PE.mono (pe_slice (sl_X hK) he hl hu) fun σ H Q ⟨c, W, s, F, Q', X', tk, hs, ht, hq, hx⟩ => by
  refine LE.op tk hs ht hx fun r s1 v F1 H1 q1 g1 h1 o1 => ?_
  refine ⟨c, W, s1, F1, _, X', tk, h1, q1, fun i s2 F2 H2 q2 g2 h2 => ?_, hx.mono g1⟩
  refine ⟨c, W, s2, F2, _, X', tk, h2, q2, fun j s3 F3 H3 q3 g3 h3 => ?_, hx.mono (g1.trans g2)⟩
  have h3' := h3
  obtain ⟨Mp, P, h3'⟩ := h3'
  obtain ⟨d, ed, q3⟩ := optP_some q3
  exact sl_ok (h3'.top (o1.mono (g2.trans g3)) ed) h3'.fz q3 fun a ka => HoldsR.ofRes h3 ka fun r s' v F' H' q g hr => hq r s' v F' H' q (((g1.trans g2).trans g3).trans g) hr
/-! ### in -/
def sv : D → V
  | .non => .non
  | .bl b => .bl b
  | .int i => .int i
  | .str x => .str x
  | _ => .ty ""
def flatD : D → Bool
  | .non => true
  | .bl _ => true
  | .int _ => true
  | .str _ => true
  | _ => false
theorem flat_top {d : D} {x : V} (t : Top G H F d x) (h : flatD d = true) : x = sv d ∧ flatV x = true := by
  cases d with
  | non => cases (show x = _ from t); exact ⟨rfl, rfl⟩
  | bl b => cases (show x = _ from t); exact ⟨rfl, rfl⟩
  | int b => cases (show x = _ from t); exact ⟨rfl, rfl⟩
  | str b => cases (show x = _ from t); exact ⟨rfl, rfl⟩
  | _ => cases h
theorem flat_rep {d : D} {x : V} (t : Rep G F d x) (h : flatD d = true) : x = sv d ∧ flatV x = true := by
  cases d with
  | non => cases (show x = _ from t); exact ⟨rfl, rfl⟩
  | bl b => cases (show x = _ from t); exact ⟨rfl, rfl⟩
  | int b => cases (show x = _ from t); exact ⟨rfl, rfl⟩
  | str b => cases (show x = _ from t); exact ⟨rfl, rfl⟩
  | _ => cases h
theorem flat_reps : ∀ {ds : List D} {vs : List V}, Reps G F ds vs → ds.all flatD = true → vs = ds.map sv ∧ vs.all flatV = true
  | [], _, r, _ => by cases (show _ = [] from r); exact ⟨rfl, rfl⟩
  | d :: ds, _, r, h => by
    obtain ⟨v, w, rfl, a, b⟩ := r
    simp only [List.all_cons, Bool.and_eq_true] at h
    obtain ⟨e1, f1⟩ := flat_rep a h.1
    obtain ⟨e2, f2⟩ := flat_reps b h.2
    subst e1
    constructor
    · rw [List.map_cons, ← e2]
    · simp only [List.all_cons, Bool.and_eq_true]
      exact ⟨f1, f2⟩
def pInG (neg : Bool) : PN := fun ds k => match ds with
  | [x, .lst xs] => flatD x = true ∧ xs.all flatD = true ∧ k (.imm (.bl (neg ^^ inV (sv x) (xs.map sv))))
  | [x, .tup xs] => flatD x = true ∧ xs.all flatD = true ∧ k (.imm (.bl (neg ^^ inV (sv x) (xs.map sv))))
  | [.str x, .str z] => ∃ c, x = ⟨#[c]⟩ ∧ k (.imm (.bl (neg ^^ decide (c ∈ z.cps.toList))))
  | _ => False
abbrev pIn : PN := pInG false
abbrev pNotIn : PN := pInG true
def rInX (K : PySem.W.Frag) : R2 := fun x y H Q => rIn K false x y H Q ∨ ∃ (c : Nat) (z : Str), x = .str ⟨#[c]⟩ ∧ y = .str z ∧ Q (.bl (decide (c ∈ z.cps.toList))) H
def rNotInX (K : PySem.W.Frag) : R2 := fun x y H Q => rIn K true x y H Q ∨ ∃ (c : Nat) (z : Str), x = .str ⟨#[c]⟩ ∧ y = .str z ∧ Q (.bl (!decide (c ∈ z.cps.toList))) H
theorem op_inX (hK : X.K = G.K) : OpR X (compareOp .In) (rInX G.K) := hK ▸ OpR.or op_in_seq op_in_sign
theorem op_notInX (hK : X.K = G.K) : OpR X (compareOp .NotIn) (rNotInX G.K) := hK ▸ OpR.or op_notIn_seq op_notIn_sign
theorem ok_in : OkP G (r2 (rInX G.K)) pIn := fun vs ds H F Q k t fz hf hk => by
  unfold pIn pInG at hf
  split at hf
  · obtain ⟨x, y, rfl, tx, a, ws, rfl, sq, rs⟩ := tops2 t
    obtain ⟨h1, h2, hf⟩ := hf
    obtain ⟨rfl, f1⟩ := flat_top tx h1
    obtain ⟨e2, f2⟩ := flat_reps rs h2
    refine .inl ⟨a, ws, rfl, .inl sq, f1, f2, ?_⟩
    rw [e2]
    have := res_imm fz (hk _ hf) rfl
    simpa using this
  · obtain ⟨x, y, rfl, tx, ty⟩ := tops2 t
    obtain ⟨a, ws, rfl, sq, rs⟩ := tup_top fz ty
    obtain ⟨h1, h2, hf⟩ := hf
    obtain ⟨rfl, f1⟩ := flat_top tx h1
    obtain ⟨e2, f2⟩ := flat_reps rs h2
    refine .inl ⟨a, ws, rfl, .inr sq, f1, f2, ?_⟩
    rw [e2]
    have := res_imm fz (hk _ hf) rfl
    simpa using this
  · obtain ⟨x, y, rfl, tx, ty⟩ := tops2 t
    obtain ⟨ch, rfl, hf⟩ := hf
    refine .inr ⟨ch, _, tx, ty, ?_⟩
    have := res_imm fz (hk _ hf) rfl
    simpa using this
  · exact hf.elim
theorem ok_notIn : OkP G (r2 (rNotInX G.K)) pNotIn := fun vs ds H F Q k t fz hf hk => by
  unfold pNotIn pInG at hf
  split at hf
  · obtain ⟨x, y, rfl, tx, a, ws, rfl, sq, rs⟩ := tops2 t
    obtain ⟨h1, h2, hf⟩ := hf
    obtain ⟨rfl, f1⟩ := flat_top tx h1
    obtain ⟨e2, f2⟩ := flat_reps rs h2
    refine .inl ⟨a, ws, rfl, .inl sq, f1, f2, ?_⟩
    rw [e2]
    have := res_imm fz (hk _ hf) rfl
    simpa using this
  · obtain ⟨x, y, rfl, tx, ty⟩ := tops2 t
    obtain ⟨a, ws, rfl, sq, rs⟩ := tup_top fz ty
    obtain ⟨h1, h2, hf⟩ := hf
    obtain ⟨rfl, f1⟩ := flat_top tx h1
    obtain ⟨e2, f2⟩ := flat_reps rs h2
    refine .inl ⟨a, ws, rfl, .inr sq, f1, f2, ?_⟩
    rw [e2]
    have := res_imm fz (hk _ hf) rfl
    simpa using this
  · obtain ⟨x, y, rfl, tx, ty⟩ := tops2 t
    obtain ⟨ch, rfl, hf⟩ := hf
    refine .inr ⟨ch, _, tx, ty, ?_⟩
    have := res_imm fz (hk _ hf) rfl
    simpa using this
  · exact hf.elim
/-! ### tuple(x), list(x), all, any -/
theorem call_tupleF : CallR X (.type "tuple") (fun xs H Q => ∃ p ys, xs = [.ref p] ∧ ((SqL X.K H p ys ∧ ∀ l o, o.dict = none → H l = none → Q (.ref l) (upd H l (.frz o (.tup ys)))) ∨ (SqT X.K H p ys ∧ Q (.ref p) H))) := by
  intro pins s σ H xs us Q I r h
  obtain ⟨p, ys, rfl, h⟩ := h
  obtain ⟨u, rfl, rx⟩ := vals1 r
  cases rx
  rcases h with ⟨hq, q⟩ | ⟨hq, q⟩
  · obtain ⟨its, r', pl, hz⟩ := I.list hq
    have hlen := r'.length
    refine call_tuple_list pl.isList (fun h' kp => ?_) (by simp only [List.size_toArray] <;> omega)
    have I1 : Inv X pins σ H { s with heap := h' } := I.kept (t' := s.toks) kp
    have I2 : Inv X pins σ (upd H h'.objs.size (.frz { cls := .type "tuple", data := .seq its.toArray } (.tup ys))) { s with heap := h'.push { cls := .type "tuple", data := .seq its.toArray } } :=
      I1.laid (t' := s.toks) (fun b o e => Heap.get?_push_of_some _ e) (Nat.le_refl _) (show ObjOk X.prog X.w _ _ _ (.frz _ (.tup ys)) from ⟨Heap.get?_push_size _ rfl, hz, its, r', PyProof.Rows.IsTup.new _ _⟩)
    exact ⟨.ref h'.objs.size, _, I2, rfl, q _ _ rfl (I1.hok.fresh (Nat.le_refl _))⟩
  · obtain ⟨its, r', pl, hz⟩ := I.tuple hq
    exact call_tuple_same pl ⟨.ref p, H, I, rfl, q⟩
theorem call_tupleK (hK : X.K = G.K) : CallR X (.type "tuple") (fun xs H Q => ∃ p ys, xs = [.ref p] ∧ ((SqL G.K H p ys ∧ ∀ l o, o.dict = none → H l = none → Q (.ref l) (upd H l (.frz o (.tup ys)))) ∨ (SqT G.K H p ys ∧ Q (.ref p) H))) := hK ▸ call_tupleF
def pTuple : PN := fun ds k => match ds with
  | [.lst xs] => k (.imm (.tup xs))
  | [.tup xs] => k (.imm (.tup xs))
  | _ => False
theorem ok_tuple : OkP G (fun xs H Q => ∃ p ys, xs = [.ref p] ∧ ((SqL G.K H p ys ∧ ∀ l o, o.dict = none → H l = none → Q (.ref l) (upd H l (.frz o (.tup ys)))) ∨ (SqT G.K H p ys ∧ Q (.ref p) H))) pTuple := fun vs ds H F Q k t fz hf hk => by
  unfold pTuple at hf
  split at hf
  · obtain ⟨x, rfl, a, vs, rfl, sq, rs⟩ := tops1 t
    exact ⟨a, vs, rfl, .inl ⟨sq, res_newT fz (hk _ hf) rs⟩⟩
  · obtain ⟨x, rfl, tx⟩ := tops1 t
    obtain ⟨a, vs, rfl, sq, rs⟩ := tup_top fz tx
    exact ⟨a, vs, rfl, .inr ⟨sq, res_imm fz (hk _ hf) (show Rep G F (.tup _) (.ref a) from tx)⟩⟩
  · exact hf.elim
theorem call_listK (hK : X.K = G.K) : CallR X (.type "list") (fun xs H Q => ∃ p ys, xs = [.ref p] ∧ (SqL G.K H p ys ∨ SqT G.K H p ys) ∧ ∀ l, H l = none → Q (.ref l) (upd H l (.lst ys))) := hK ▸ call_list_of
def pList : PN := fun ds k => match ds with
  | [.lst xs] => k (.new (.lst xs))
  | [.tup xs] => k (.new (.lst xs))
  | _ => False
theorem ok_list : OkP G (fun xs H Q => ∃ p ys, xs = [.ref p] ∧ (SqL G.K H p ys ∨ SqT G.K H p ys) ∧ ∀ l, H l = none → Q (.ref l) (upd H l (.lst ys))) pList := fun vs ds H F Q k t fz hf hk => by
  unfold pList at hf
  split at hf
  · obtain ⟨x, rfl, a, vs, rfl, sq, rs⟩ := tops1 t
    exact ⟨a, vs, rfl, .inl sq, res_newL fz (hk _ hf) rs⟩
  · obtain ⟨x, rfl, tx⟩ := tops1 t
    obtain ⟨a, vs, rfl, sq, rs⟩ := tup_top fz tx
    exact ⟨a, vs, rfl, .inr sq, res_newL fz (hk _ hf) rs⟩
  · exact hf.elim
/-- a list of truths, of numbers -/
theorem reps_bls : ∀ {bs : List Bool} {vs : List V}, Reps G F (bs.map .bl) vs → vs = bs.map V.bl
  | [], _, r => by cases (show _ = [] from r); rfl
  | b :: bs, _, r => by
    obtain ⟨v, w, rfl, a, q⟩ := r
    rw [List.map_cons, reps_bls q, show v = V.bl b from a]
theorem reps_ints : ∀ {bs : List Int} {vs : List V}, Reps G F (bs.map .int) vs → vs = bs.map V.int
  | [], _, r => by cases (show _ = [] from r); rfl
  | b :: bs, _, r => by
    obtain ⟨v, w, rfl, a, q⟩ := r
    rw [List.map_cons, reps_ints q, show v = V.int b from a]
def pAll : PN := fun ds k => match ds with
  | [.lst xs] => ∃ bs : List Bool, xs = bs.map .bl ∧ k (.imm (.bl (bs.all id)))
  | _ => False
def pAny : PN := fun ds k => match ds with
  | [.lst xs] => ∃ bs : List Bool, xs = bs.map .bl ∧ k (.imm (.bl (bs.any id)))
  | _ => False
def pSum : PN := fun ds k => match ds with
  | [.lst xs] => ∃ ns : List Int, xs = ns.map .int ∧ k (.imm (.int ns.sum))
  | _ => False
theorem call_allK (hK : X.K = G.K) (hc : X.calm = true) : CallR X (.builtin "all") (rAll G.K) := hK ▸ cr_all hc
theorem call_anyK (hK : X.K = G.K) (hc : X.calm = true) : CallR X (.builtin "any") (rAny G.K) := hK ▸ cr_any hc
theorem call_sumK (hK : X.K = G.K) (hc : X.calm = true) : CallR X (.builtin "sum") (rSum G.K) := hK ▸ cr_sum hc
theorem ok_all : OkP G (rAll G.K) pAll := fun vs ds H F Q k t fz hf hk => by
  unfold pAll at hf
  split at hf
  · obtain ⟨bs, rfl, hf⟩ := hf
    obtain ⟨x, rfl, a, vs, rfl, sq, rs⟩ := tops1 t
    rw [reps_bls rs] at sq
    exact ⟨a, bs, rfl, sq, res_imm fz (hk _ hf) rfl⟩
  · exact hf.elim
theorem ok_any : OkP G (rAny G.K) pAny := fun vs ds H F Q k t fz hf hk => by
  unfold pAny at hf
  split at hf
  · obtain ⟨bs, rfl, hf⟩ := hf
    obtain ⟨x, rfl, a, vs, rfl, sq, rs⟩ := tops1 t
    rw [reps_bls rs] at sq
    exact ⟨a, bs, rfl, sq, res_imm fz (hk _ hf) rfl⟩
  · exact hf.elim
theorem ok_sum : OkP G (rSum G.K) pSum := fun vs ds H F Q k t fz hf hk => by
  unfold pSum at hf
  split at hf
  · obtain ⟨bs, rfl, hf⟩ := hf
    obtain ⟨x, rfl, a, vs, rfl, sq, rs⟩ := tops1 t
    rw [reps_ints rs] at sq
    exact ⟨a, bs, rfl, sq, res_imm fz (hk _ hf) rfl⟩
  · exact hf.elim
end
end DL

set_option Elab.async false
set_option linter.all false
set_option maxRecDepth 100000
set_option maxHeartbeats 4000000
namespace DL
open PySem L2 PL
/-! ### isinstance -/
def tys : List String := ["int", "bool", "str", "tuple", "list", "dict"]
def tyOf : D → Option String
  | .non => some "NoneType"
  | .bl _ => some "bool"
  | .int _ => some "int"
  | .str _ => some "str"
  | .lst _ => some "list"
  | .tup _ => some "tuple"
  | .dic _ _ => some "dict"
  | _ => none
def kb (t T : String) : Bool := (kitB t T).getD false
theorem kb_all : (tys.all fun T => ["NoneType", "bool", "int", "str", "list", "tuple", "dict"].all fun t => (kitB t T).isSome) = true := by decide +kernel
theorem kb_kit {K : PySem.W.Frag} {d : D} {t T : String} (h : tyOf d = some t) (hT : T ∈ tys) : PySem.W.kitOne K (.type t) (.type T) = some (kb t T) := by
  have h1 := List.all_eq_true.mp kb_all T hT
  have hm : t ∈ ["NoneType", "bool", "int", "str", "list", "tuple", "dict"] := by cases d <;> simp [tyOf] at h <;> subst h <;> simp
  have h2 := List.all_eq_true.mp h1 t hm
  refine kit_ty ?_
  unfold kb
  cases e : kitB t T with
  | none => rw [e] at h2; cases h2
  | some b => rfl
structure IsF (G : Sig) (sub : Str → Str → Bool) : Prop where
  ins : ∀ C ∈ G.cs, Cls G.K (G.Z C) ∧ PySem.W.findIn G.K (.ref (G.Z C)) "__class__" = some (some (.builtin "object.__class__")) ∧ PySem.W.mroIn G.K (G.Z C) (.type "object") = some true
  gn : PySem.W.specialIn G.K (.builtin "object.__class__") "__get__" = some (some (.builtin "getset_descriptor.__get__"))
  tk : PySem.W.takesIn G.K (.builtin "object.__class__") = some true
  ty : ∀ C ∈ G.cs, ∀ T ∈ tys, PySem.W.kitOne G.K (.ref (G.Z C)) (.type T) = some false
  own : ∀ C ∈ G.cs, ∀ B ∈ G.cs, PySem.W.kitOne G.K (.ref (G.Z C)) (.ref (G.Z B)) = some (sub C B)
  no : ∀ t ∈ ["NoneType", "bool", "int", "str", "list", "tuple", "dict"], ∀ B ∈ G.cs, PySem.W.kitOne G.K (.type t) (.ref (G.Z B)) = some false
def isOne (sub : Str → Str → Bool) (d T : D) : Option Bool := match d, T with
  | .ins _ _ _, .ty T => if T ∈ tys then some false else none
  | .ins C _ _, .cls B => some (sub C B)
  | d, .ty T => if T ∈ tys then (tyOf d).map fun t => kb t T else none
  | d, .cls _ => (tyOf d).map fun _ => false
  | _, _ => none
def isAny (sub : Str → Str → Bool) (d : D) : List D → Option Bool
  | [] => some false
  | T :: Ts => match isOne sub d T with
    | some true => some true
    | some false => isAny sub d Ts
    | none => none
/-- as TyX, and a dict with tuples for keys while it is walked -/
inductive TyY (K : PySem.W.Frag) (H : Hp) : V → Value → Prop where
  | base {x : V} {t : Value} (h : TyX K H x t) : TyY K H x t
  | fT {a : Addr} {o : Obj} {kvs : List (List Key × V)} (e : H a = some (.frz o (.dT kvs))) : TyY K H (.ref a) (.type "dict")
section
variable {X : Cx} {pins : List (Addr × Obj)} {σ : St} {H : Hp} {s : Shared}
theorem kit_ofY {x : V} {u t : Value} (I : Inv X pins σ H s) (rx : RelV x u) (ty : TyY X.K H x t) : ∃ P : Heap → Prop, PySem.W.KitX X.K u t P ∧ P s.heap ∧ u ≠ .builtin "__main__.__loader__#opaque" := by
  cases ty with
  | base b => exact kit_of I rx b
  | @fT a ob kvs ea =>
    cases (show u = Value.ref a from rx)
    obtain ⟨_, _, _, vs, _, o, es, ep, h1, h2, _⟩ := (show ObjOk X.prog X.w H s.heap a (.frz ob (.dT kvs)) from I.hok a _ ea)
    exact ⟨_, PySem.W.kitx_dict, ⟨o, h1, h2.1⟩, fun z => nomatch z⟩
def rIsY (K : PySem.W.Frag) : List V → Hp → VK → Prop := fun xs H Q => ∃ (x c : V) (t u : Value) (b : Bool), xs = [x, c] ∧ ClsV c u ∧ TyY K H x t ∧ PySem.W.kitOne K t u = some b ∧ Q (.bl b) H
def rIsYT (K : PySem.W.Frag) : List V → Hp → VK → Prop := fun xs H Q => ∃ (x : V) (tp : Addr) (cs : List V) (t : Value) (us : List Value) (b : Bool), xs = [x, .ref tp] ∧ SqT K H tp cs ∧ Paired ClsV cs us ∧ TyY K H x t ∧ PySem.W.kitAny K t us = some b ∧ Q (.bl b) H
theorem call_isY : CallR X (.builtin "isinstance") (rIsY X.K) := by
  intro pins s σ H xs us Q I r h
  obtain ⟨x, c, t, u, b, rfl, k, ty, e, q⟩ := h
  obtain ⟨u1, u2, rfl, r1, r2⟩ := vals2 r
  have e2 := k.eq r2
  subst e2
  obtain ⟨P, Z, p, hx⟩ := kit_ofY I r1 ty
  exact PySem.W.kia_one Z I.kIn p e hx fun tk => ⟨.bl b, H, I.tok tk, rfl, q⟩
theorem call_isYT : CallR X (.builtin "isinstance") (rIsYT X.K) := by
  intro pins s σ H xs us Q I r h
  obtain ⟨x, tp, cs, t, ws, b, rfl, hT, k, ty, e, q⟩ := h
  obtain ⟨u1, u2, rfl, r1, r2⟩ := vals2 r
  cases (show u2 = Value.ref tp from r2)
  obtain ⟨P, Z, p, hx⟩ := kit_ofY I r1 ty
  obtain ⟨its, rv, ⟨o, h1, h2, n, h3⟩, _⟩ := I.tuple hT
  have e3 := ClsV.all k rv
  subst e3
  obtain ⟨oc, od, dt, sl⟩ := o
  simp only at h2 h3
  subst h2 h3
  exact PySem.W.kia_tup Z I.kIn p h1 e hx fun tk => ⟨.bl b, H, I.tok tk, rfl, q⟩
end
section
variable {X : Cx} {G : Sig} {c : Fm} {W : WX} {s : DSt} {F F' H H' : Hp} {σ : St} {pos : Pos} {Mp : DM} {P : Nat → Addr} {sub : Str → Str → Bool}
def tyV' (G : Sig) : D → Option Value
  | .ins C _ _ => some (.ref (G.Z C))
  | d => (tyOf d).map .type
theorem tyX_of {d : D} {x : V} {t : String} (fz : Same F H) (tx : Top G H F d x) (h : tyOf d = some t) : TyY G.K H x (.type t) := by
  cases d with
  | non => cases h; cases (show x = _ from tx); exact .base (.base .non)
  | bl b => cases h; cases (show x = _ from tx); exact .base (.base (.bl b))
  | int b => cases h; cases (show x = _ from tx); exact .base (.base (.int b))
  | str b => cases h; cases (show x = _ from tx); exact .base (.base (.str b))
  | lst xs => cases h; obtain ⟨a, vs, rfl, sq, rs⟩ := tx; exact .base (sqL_ty sq)
  | tup xs => cases h; obtain ⟨a, vs, rfl, sq, rs⟩ := tup_top fz tx; exact .base (sqT_ty sq)
  | dic ks xs =>
    cases h
    obtain ⟨a, rfl, ⟨kvs, q, _⟩ | ⟨kvs, q, _⟩⟩ := tx
    · rcases q with q | ⟨o, q⟩
      · exact .base (.base (.dK q))
      · exact .base (.fDict q)
    · rcases q with q | ⟨o, q⟩
      · exact .base (.base (.dT q))
      · exact .fT q
  | _ => cases h
theorem isOne_ty {d T : D} {b : Bool} (h : isOne sub d T = some b) : ∃ t, tyV' G d = some t := by
  unfold isOne at h
  split at h
  · exact ⟨_, rfl⟩
  · exact ⟨_, rfl⟩
  · split at h
    · obtain ⟨t, et, _⟩ := Option.map_eq_some_iff.mp h
      exact ⟨.type t, by cases d <;> simp_all [tyV', tyOf]⟩
    · cases h
  · obtain ⟨t, et, _⟩ := Option.map_eq_some_iff.mp h
    exact ⟨.type t, by cases d <;> simp_all [tyV', tyOf]⟩
  · cases h
theorem tyV'_eq {d : D} (hn : ∀ C ns vs, d ≠ .ins C ns vs) : tyV' G d = (tyOf d).map .type := by
  cases d <;> first | rfl | exact absurd rfl (hn _ _ _)
theorem tyV_of (f : IsF G sub) {d : D} {x : V} {t : Value} (fz : Same F H) (tx : Top G H F d x) (h : tyV' G d = some t) : TyY G.K H x t := by
  by_cases hi : ∃ C ns vs, d = .ins C ns vs
  · obtain ⟨C, ns, vs, rfl⟩ := hi
    cases h
    obtain ⟨a, dx, ws, rfl, ha, ⟨hC, hl⟩, rs⟩ := tx
    obtain ⟨f1, f2, f3⟩ := f.ins C hC
    exact .base (.base (.ins ha f1 f2 f.gn f.tk f3))
  · rw [tyV'_eq fun C ns vs z => hi ⟨C, ns, vs, z⟩] at h
    obtain ⟨t', e, rfl⟩ := Option.map_eq_some_iff.mp h
    exact tyX_of fz tx e
theorem isOne_ok (f : IsF G sub) {d T : D} {b : Bool} {t : Value} {x w : V} (tx : Top G H F d x) (hw : Rep G F T w) (ht : tyV' G d = some t) (h : isOne sub d T = some b) : ∃ u, ClsV w u ∧ PySem.W.kitOne G.K t u = some b := by
  unfold isOne at h
  split at h
  · rename_i C ns vs T'
    split at h
    · rename_i hc
      cases h
      cases ht
      obtain ⟨a, dx, ws, rfl, ha, ⟨hC, hl⟩, rs⟩ := tx
      cases (show w = .ty T' from hw)
      exact ⟨.type T', .ty _, f.ty C hC _ hc⟩
    · cases h
  · rename_i C ns vs B
    cases h
    cases ht
    obtain ⟨a, dx, ws, rfl, ha, ⟨hC, hl⟩, rs⟩ := tx
    obtain ⟨rfl, hB⟩ := (show w = .ref (G.Z B) ∧ B ∈ G.cs from hw)
    exact ⟨.ref (G.Z B), .own _, f.own C hC _ hB⟩
  · rename_i T' hd
    split at h
    · rename_i hc
      obtain ⟨t', et, rfl⟩ := Option.map_eq_some_iff.mp h
      have e : t = .type t' := by cases d <;> simp_all [tyV', tyOf]
      subst e
      cases (show w = .ty T' from hw)
      exact ⟨.type T', .ty _, kb_kit et hc⟩
    · cases h
  · rename_i B hd
    obtain ⟨t', et, rfl⟩ := Option.map_eq_some_iff.mp h
    have e : t = .type t' := by cases d <;> simp_all [tyV', tyOf]
    subst e
    obtain ⟨rfl, hB⟩ := (show w = .ref (G.Z B) ∧ B ∈ G.cs from hw)
    refine ⟨.ref (G.Z B), .own _, f.no t' ?_ B hB⟩
    cases d <;> simp [tyOf] at et <;> subst et <;> simp
  · cases h
theorem isAny_ok (f : IsF G sub) {d : D} {t : Value} {x : V} (tx : Top G H F d x) (ht : tyV' G d = some t) : ∀ {Ts : List D} {ws : List V} {b : Bool}, isAny sub d Ts = some b → Reps G F Ts ws → (∀ T ∈ Ts, ∃ b, isOne sub d T = some b) → ∃ us, Paired ClsV ws us ∧ PySem.W.kitAny G.K t us = some b
  | [], _, b, h, r, _ => by
    cases h
    cases (show _ = [] from r)
    exact ⟨[], .nil, kitAny_nil⟩
  | T :: Ts, _, b, h, r, ha => by
    obtain ⟨w, ws, rfl, r1, r2⟩ := r
    unfold isAny at h
    obtain ⟨b1, e1⟩ := ha T (by simp)
    obtain ⟨u, hu, ku⟩ := isOne_ok f tx r1 ht e1
    rw [e1] at h
    have hall : ∃ br, isAny sub d Ts = some br := by
      have : ∀ Us : List D, (∀ T ∈ Us, ∃ b, isOne sub d T = some b) → ∃ br, isAny sub d Us = some br := by
        intro Us
        induction Us with
        | nil => intro _; exact ⟨false, rfl⟩
        | cons U Us ih =>
          intro hh
          obtain ⟨b2, e2⟩ := hh U (by simp)
          obtain ⟨br, er⟩ := ih fun T hT => hh T (by simp [hT])
          unfold isAny
          rw [e2]
          cases b2 with
          | true => exact ⟨true, rfl⟩
          | false => exact ⟨br, er⟩
      exact this Ts fun T hT => ha T (by simp [hT])
    obtain ⟨br, er⟩ := hall
    obtain ⟨us, hp, hk⟩ := isAny_ok f tx ht er r2 fun T hT => ha T (by simp [hT])
    refine ⟨u :: us, .cons hu hp, ?_⟩
    cases b1 with
    | true =>
      cases h
      exact kitAny_cons ku (fun z => by cases z) (fun _ => rfl)
    | false =>
      have h' : isAny sub d Ts = some b := h
      rw [er] at h'
      cases h'
      exact kitAny_cons ku (fun _ => hk) (fun z => by cases z)
/-- isinstance(x, T), (T1, T2, ..) -/
def pIs1 (sub : Str → Str → Bool) : PN := fun ds k => match ds with
  | [d, .tup Ts] => Ts ≠ [] ∧ (∀ T ∈ Ts, ∃ b, isOne sub d T = some b) ∧ optP (isAny sub d Ts) fun b => k (.imm (.bl b))
  | [d, T] => optP (isOne sub d T) fun b => k (.imm (.bl b))
  | _ => False
def rIsX2 (K : PySem.W.Frag) : List V → Hp → VK → Prop := fun xs H Q => rIsY K xs H Q ∨ rIsYT K xs H Q
theorem call_isK (hK : X.K = G.K) : CallR X (.builtin "isinstance") (rIsX2 G.K) := hK ▸ CallR.or call_isY call_isYT
theorem ok_isi (f : IsF G sub) : OkP G (rIsX2 G.K) (pIs1 sub) := fun vs ds H F Q k t fz hf hk => by
  unfold pIs1 at hf
  split at hf
  · rename_i d Ts
    obtain ⟨x, y, rfl, tx, ty⟩ := tops2 t
    obtain ⟨hne, hall, hf⟩ := hf
    obtain ⟨b, eb, hf⟩ := optP_some hf
    obtain ⟨a, ws, rfl, sq, rs⟩ := tup_top fz ty
    obtain ⟨T, hT⟩ := List.exists_mem_of_ne_nil Ts hne
    obtain ⟨b1, e1⟩ := hall T hT
    obtain ⟨t', et⟩ := isOne_ty (G := G) e1
    obtain ⟨us, hp, hk'⟩ := isAny_ok f tx et eb rs hall
    exact .inr ⟨x, a, ws, t', us, b, rfl, sq, hp, tyV_of f fz tx et, hk', res_imm fz (hk _ hf) rfl⟩
  · rename_i d T hT
    obtain ⟨x, y, rfl, tx, ty⟩ := tops2 t
    obtain ⟨b, eb, hf⟩ := optP_some hf
    obtain ⟨t', et⟩ := isOne_ty (G := G) eb
    have ry : Rep G F T y := by
      cases T with
      | tup Ts => exact (hT Ts rfl).elim
      | ty n => exact ty
      | cls n => exact ty
      | _ => (cases d <;> simp [isOne] at eb)
    obtain ⟨u, hu, ku⟩ := isOne_ok f tx ry et eb
    exact .inl ⟨x, y, t', u, b, rfl, hu, tyV_of f fz tx et, ku, res_imm fz (hk _ hf) rfl⟩
  · exact hf.elim
end
end DL

set_option Elab.async false
set_option linter.all false
set_option maxRecDepth 100000
set_option maxHeartbeats 4000000
namespace DL
open PySem L2 PL
section
variable {X : Cx} {G : Sig} {c : Fm} {W : WX} {s : DSt} {F F' H H' : Hp} {σ : St} {pos : Pos} {Mp : DM} {P : Nat → Addr}
/-! ### methods of built-in things -/
/-- the value is of that built-in type, without attributes of its own -/
inductive TyM (K : PySem.W.Frag) (H : Hp) : V → String → Prop where
  | str (x : Str) : TyM K H (.str x) "str"
  | lst {a : Addr} {xs : List V} (h : SqL K H a xs) : TyM K H (.ref a) "list"
  | tup {a : Addr} {xs : List V} (h : TupAt K H a xs) : TyM K H (.ref a) "tuple"
  | dK {a : Addr} {kvs : List (Key × V)} (h : Rd H a (.dK kvs)) : TyM K H (.ref a) "dict"
  | dT {a : Addr} {kvs : List (List Key × V)} (h : Rd H a (.dT kvs)) : TyM K H (.ref a) "dict"
theorem tyM_is {pins : List (Addr × Obj)} {s : Shared} {T : String} {x : V} {v : Value} (I : Inv X pins σ H s) (r : RelV x v) (ty : TyM X.K H x T) :
    s.TypeIs v T ∧ ∀ a, v = .ref a → ∃ ob, s.heap.get? a = some ob ∧ ob.dict = none := by
  cases ty with
  | str z =>
    obtain ⟨t, rfl⟩ := r
    exact ⟨typeIs_str s z t, fun _ e => nomatch e⟩
  | @lst a xs h =>
    cases (show v = Value.ref a from r)
    obtain ⟨its, rv, ⟨o, n, ho, hc, hd, hs⟩, z⟩ := I.list h
    exact ⟨⟨o, ho, hc⟩, fun b e => by cases e; exact ⟨o, ho, hd⟩⟩
  | @tup a xs h =>
    cases (show v = Value.ref a from r)
    rcases h with ⟨o, h, hd⟩ | ⟨o, its, n, h1, h2, h3, h4, h5, h6⟩
    · obtain ⟨ho, _, its, _, o', ho', hc, _⟩ := (show ObjOk X.prog X.w H s.heap a (.frz o (.tup xs)) from I.hok a _ h)
      rw [ho] at ho'
      cases ho'
      exact ⟨⟨o, ho, hc⟩, fun b e => by cases e; exact ⟨o, ho, hd⟩⟩
    · have ho := I.kIn a o h1
      exact ⟨⟨o, ho, h2⟩, fun b e => by cases e; exact ⟨o, ho, h3⟩⟩
  | @dK a kvs h =>
    cases (show v = Value.ref a from r)
    obtain ⟨_, _, vs, _, o, es, ep, h1, h2, _⟩ := (show ObjOk X.prog X.w H s.heap a (.dK kvs) from h.ok I.hok)
    exact ⟨⟨o, h1, h2.1⟩, fun b e => by cases e; exact ⟨o, h1, h2.2.1⟩⟩
  | @dT a kvs h =>
    cases (show v = Value.ref a from r)
    obtain ⟨_, _, vs, _, o, es, ep, h1, h2, _⟩ := (show ObjOk X.prog X.w H s.heap a (.dT kvs) from h.ok I.hok)
    exact ⟨⟨o, h1, h2.1⟩, fun b e => by cases e; exact ⟨o, h1, h2.2.1⟩⟩
/-- a method of a built-in type -/
def BmF (X : Cx) (name : Str) (T : String) (r : V → List V → Hp → VK → Prop) : Prop := ∃ id, PlainAttrs T ∧ Slot T name id ∧ typeOf (.builtin id) = pure (.type "method_descriptor") ∧ MtR X id r
def tBV (X : Cx) (name : Str) (to : TE) (t : TA) : TE := fun σ H Q => to σ H fun x H1 => ∃ T r, TyM X.K H1 x T ∧ BmF X name T r ∧ t σ H1 fun xs H2 => r x xs H2 Q
theorem pe_bV {o e : Expr} {es : List Expr} {to : TE} {t : TA} {name : Str} {apos cpos : Pos} (ho : PE X o to) (ha : PA X (e :: es) t)
    (hbase : attributeBase o name X.env (eval o X.env) = eval o X.env := by rfl)
    (hfew : ((backTo cpos (starEach (e :: es) X.env)).all (fun x => !x.1) && (backToKw cpos (keywordEach [] X.env)).all (fun x => x.1.isSome)
      && decide ((e :: es).length + ([] : List Keyword).length + (if ([] : List Keyword).isEmpty then 0 else 1) < 30)) = true := by rfl)
    (hline : (apos.endLine == cpos.line) = true := by rfl) (hs : starEach (e :: es) X.env = (false, eval e X.env) :: starEach es X.env := by rfl) (hplain : (backTo cpos (starEach es X.env)).any (·.1) = false := by rfl) :
    PE X (.Call (.Attribute o name apos) (e :: es) [] cpos) (tBV X name to t) := by
  refine ⟨fun pins s σ H Q I h => ?_⟩
  refine wpAny_Call_method_late hbase hfew hline rfl (thn (ho.run pins s σ H _ I h) fun v s1 ⟨x, H1, I1, r1, T, r, ty, ⟨id, pa, slot, hty, hm⟩, q1⟩ => ?_)
  obtain ⟨h1, h2⟩ := tyM_is I1 r1 ty
  refine ⟨T, id, pa, slot, hty, h1, h2, ?_⟩
  have hA := ha.run cpos pins s1 σ H1 _ I1 q1
  rw [hs] at hA ⊢
  refine Calls.callWith_builtin (by show (false || (backTo cpos (starEach es X.env)).any (·.1)) = false; rw [hplain] <;> rfl) (Calls.evalArgs_plain ?_)
  exact thn hA fun us s2 ⟨vs, H2, I2, r2, q2⟩ => hm pins s2 σ H2 x vs v us Q I2 r1 r2 q2
theorem pe_bV0 {o : Expr} {to : TE} {name : Str} {apos cpos : Pos} (ho : PE X o to)
    (hbase : attributeBase o name X.env (eval o X.env) = eval o X.env := by rfl) (hline : (apos.endLine == cpos.line) = true := by rfl) : PE X (.Call (.Attribute o name apos) [] [] cpos) (tBV X name to tNil) := by
  refine ⟨fun pins s σ H Q I h => ?_⟩
  refine wpAny_Call_method0_late hbase hline (thn (ho.run pins s σ H _ I h) fun v s1 ⟨x, H1, I1, r1, T, r, ty, ⟨id, pa, slot, hty, hm⟩, q1⟩ => ?_)
  obtain ⟨h1, h2⟩ := tyM_is I1 r1 ty
  exact ⟨T, id, pa, slot, hty, h1, h2, Calls.callWith_builtin rfl (PySem.evalArgs_none (hm pins s1 σ H1 x [] v [] Q I1 r1 .nil q1))⟩
def kind : D → String
  | .str _ => "str"
  | .lst _ => "list"
  | .tup _ => "tuple"
  | .dic _ _ => "dict"
  | _ => ""
theorem kind_ty {d : D} {x : V} (fz : Same F H) (tx : Top G H F d x) (h : kind d ≠ "") : TyM G.K H x (kind d) := by
  cases d with
  | str z => cases (show x = .str z from tx); exact .str z
  | lst xs => obtain ⟨a, vs, rfl, sq, rs⟩ := tx; exact .lst sq
  | tup xs =>
    have tx' : Rep G F (.tup xs) x := tx
    simp only [Rep] at tx'
    obtain ⟨a, vs, rfl, sq, rs⟩ := tx'
    exact .tup (sq.mono fz)
  | dic ks xs =>
    obtain ⟨a, rfl, ⟨kvs, q, _⟩ | ⟨kvs, q, _⟩⟩ := tx
    · exact .dK q
    · exact .dT q
  | _ => exact absurd rfl h
/-- methods that change nothing -/
abbrev rM (r : V → List V → Hp → VK → Prop) : List V → Hp → VK → Prop := fun vs H Q => match vs with
  | x :: xs => r x xs H Q
  | [] => False
def BmOk (X : Cx) (G : Sig) (name : Str) (Ts : List String) (f : PN) : Prop := ∀ T ∈ Ts, T ≠ "" ∧ ∃ r, BmF X name T r ∧ ∀ vs d ds H F Q k, kind d = T → Tops G H F (d :: ds) vs → Same F H → f (d :: ds) k → (∀ a, k a → Res G H F Q a) → rM r vs H Q
def dBm (name : Str) (Ts : List String) (f : PN) (o : DE) (t : DA) : DE := fun s Q X => o s (fun r s1 => optP (view s1 r.frz) fun d => kind d ∈ Ts ∧ t s1 (fun rs s2 => optP (view s2 r.frz) fun d2 => kind d2 = kind d ∧ vw s2 rs fun ds => f (d2 :: ds) fun a => Q a.rv s2) X) X
theorem bm_run {name : Str} {Ts : List String} {f : PN} {o : DE} {t : DA} {Q : VK} (hK : X.K = G.K) (ok : BmOk X G name Ts f) (h : LE X G (dBm name Ts f o t) σ H Q) : tBV X name (LE X G o) (LA X G t) σ H Q := by
  obtain ⟨c, W, s, F, Q', X', tk, hs, ht, hq, hx⟩ := h
  refine LE.op tk hs ht hx fun r s1 v F1 H1 q1 g1 h1 o1 => ?_
  have h1' := h1
  obtain ⟨Mp, P, h1'⟩ := h1'
  obtain ⟨d, ed, hT, q1⟩ := optP_some q1
  obtain ⟨hne, r', hB, hok⟩ := ok _ hT
  refine ⟨kind d, r', by rw [hK]; exact kind_ty h1'.fz (h1'.top o1 ed) hne, hB, c, W, s1, F1, _, X', tk, h1, q1, fun rs s2 vs F2 H2 q2 g2 h2 o2 => ?_, hx.mono g1⟩
  have h2' := h2
  obtain ⟨Mp2, P2, h2'⟩ := h2'
  obtain ⟨d2, ed2, hk2, q2⟩ := optP_some q2
  obtain ⟨ds, tp, k⟩ := vw_tops h2' o2 q2
  exact hok (v :: vs) d2 ds H2 F2 Q _ hk2 ⟨v, vs, rfl, h2'.top (o1.mono g2) ed2, tp⟩ h2'.fz k fun a ka => HoldsR.ofRes h2 ka fun r s' v F' H' q g hr => hq r s' v F' H' q ((g1.trans g2).trans g) hr
theorem dl_bm {name : Str} {Ts : List String} {f : PN} {u : DE} {t : DA} {o e : Expr} {es : List Expr} {apos cpos : Pos} (hK : X.K = G.K) (ok : BmOk X G name Ts f) (ho : PE X o (LE X G u)) (ha : PA X (e :: es) (LA X G t))
    (hbase : attributeBase o name X.env (eval o X.env) = eval o X.env := by rfl)
    (hfew : ((backTo cpos (starEach (e :: es) X.env)).all (fun x => !x.1) && (backToKw cpos (keywordEach [] X.env)).all (fun x => x.1.isSome)
      && decide ((e :: es).length + ([] : List Keyword).length + (if ([] : List Keyword).isEmpty then 0 else 1) < 30)) = true := by rfl)
    (hline : (apos.endLine == cpos.line) = true := by rfl) (hs : starEach (e :: es) X.env = (false, eval e X.env) :: starEach es X.env := by rfl) (hplain : (backTo cpos (starEach es X.env)).any (·.1) = false := by rfl) :
    PE X (.Call (.Attribute o name apos) (e :: es) [] cpos) (LE X G (dBm name Ts f u t)) := PE.mono (pe_bV ho ha hbase hfew hline hs hplain) fun σ H Q h => bm_run hK ok h
/-- .index of flat things -/
def idxD (x : D) : List D → Option Nat
  | [] => none
  | y :: ys => if eqV (sv y) (sv x) = true then some 0 else (idxD x ys).map (· + 1)
def pIndex : PN := fun ds k => match ds with
  | [.lst xs, y] => flatD y = true ∧ xs.all flatD = true ∧ optP (idxD y xs) fun j => k (.imm (.int (j : Nat)))
  | [.tup xs, y] => (∃ (z : Str) (ws : List Str), y = .str z ∧ xs = ws.map .str) ∧ optP (idxD y xs) fun j => k (.imm (.int (j : Nat)))
  | _ => False
theorem idxD_spec {y : D} : ∀ {xs : List D} {j : Nat}, idxD y xs = some j → (∃ z, xs[j]? = some z ∧ eqV (sv z) (sv y) = true) ∧ ∀ m z, m < j → xs[m]? = some z → eqV (sv z) (sv y) = false
  | [], _, h => by cases h
  | x :: xs, j, h => by
    unfold idxD at h
    split at h
    · rename_i e
      cases h
      exact ⟨⟨x, rfl, e⟩, fun m z hm => absurd hm (Nat.not_lt_zero m)⟩
    · rename_i e
      obtain ⟨i, ei, rfl⟩ := Option.map_eq_some_iff.mp h
      obtain ⟨⟨z, h1, h2⟩, h3⟩ := idxD_spec ei
      refine ⟨⟨z, by simpa using h1, h2⟩, fun m z' hm hz => ?_⟩
      cases m with
      | zero =>
        simp at hz
        subst hz
        simpa using e
      | succ m => exact h3 m z' (by omega) (by simpa using hz)
theorem sv_strs (ws : List Str) : (ws.map D.str).map sv = ws.map V.str := by rw [List.map_map]; rfl
theorem flat_strsD (ws : List Str) : (ws.map D.str).all flatD = true := by rw [List.all_map]; exact List.all_eq_true.mpr fun _ _ => rfl
theorem bm_index (hK : X.K = G.K) : BmOk X G "index" ["list", "tuple"] pIndex := by
  intro T hT
  simp only [List.mem_cons, List.mem_nil_iff, or_false] at hT
  rcases hT with rfl | rfl
  · refine ⟨by decide, rIndex G.K, ⟨_, PySem.F.plainAttrs_list, PySem.F.slot_list_index, PySem.F.type_list_index, hK ▸ mt_index⟩, fun vs d ds H F Q k hd t fz hf hk => ?_⟩
    unfold pIndex at hf
    split at hf
    · rename_i xs y e
      obtain ⟨x, y', rfl, ⟨a, ws, rfl, sq, rs⟩, ty⟩ := tops2 (e ▸ t)
      obtain ⟨f1, f2, hf⟩ := hf
      obtain ⟨j, ej, hf⟩ := optP_some hf
      obtain ⟨rfl, g1⟩ := flat_top ty f1
      obtain ⟨e2, g2⟩ := flat_reps rs f2
      obtain ⟨⟨z, hz1, hz2⟩, hz3⟩ := idxD_spec ej
      refine ⟨a, ws, sv y, j, sv z, rfl, rfl, sq, g1, g2, by rw [e2, List.getElem?_map, hz1]; rfl, hz2, fun m z' hm hz' => ?_, res_imm fz (hk _ hf) rfl⟩
      rw [e2, List.getElem?_map] at hz'
      obtain ⟨w, hw, rfl⟩ := Option.map_eq_some_iff.mp hz'
      exact hz3 m w hm hw
    · rename_i xs y e
      cases e
      simp [kind] at hd
    · exact hf.elim
  · refine ⟨by decide, (fun x xs H Q => ∃ p, ∃ ys : List Str, ∃ z j, x = .ref p ∧ xs = [.str z] ∧ SqT G.K H p (ys.map V.str) ∧ ys[j]? = some z ∧ (∀ m, m < j → ys[m]? ≠ some z) ∧ Q (.int (j : Nat)) H), ⟨_, PySem.F.plainAttrs_tuple, PySem.F.slot_tuple_index, PySem.F.type_tuple_index, hK ▸ mt_tup_index⟩, fun vs d ds H F Q k hd t fz hf hk => ?_⟩
    unfold pIndex at hf
    split at hf
    · rename_i xs y e
      cases e
      simp [kind] at hd
    · rename_i xs y e
      obtain ⟨x, y', rfl, tx, ty⟩ := tops2 (e ▸ t)
      obtain ⟨a, vs, rfl, sq, rs⟩ := tup_top fz tx
      obtain ⟨⟨z, ws, rfl, rfl⟩, hf⟩ := hf
      obtain ⟨j, ej, hf'⟩ := optP_some hf
      obtain ⟨e2, _⟩ := flat_reps rs (flat_strsD ws)
      rw [sv_strs] at e2
      subst e2
      obtain ⟨⟨z2, hz1, hz2⟩, hz3⟩ := idxD_spec ej
      rw [List.getElem?_map] at hz1
      obtain ⟨w, hw, rfl⟩ := Option.map_eq_some_iff.mp hz1
      have ew : w = z := by simpa [sv, eqV] using hz2
      subst ew
      cases (show y' = .str w from ty)
      refine ⟨a, ws, w, j, rfl, rfl, sq, hw, fun m hm hm' => ?_, res_imm fz (hk _ hf') rfl⟩
      have := hz3 m (.str w) hm (by rw [List.getElem?_map, hm']; rfl)
      simp [sv, eqV] at this
    · exact hf.elim
/-! ### methods that change their thing -/
abbrev DMu := D → List D → (D → D → Prop) → Prop
def MuOk (X : Cx) (G : Sig) (name : Str) (T : String) (m : DMu) : Prop := T ≠ "" ∧ ∃ r, BmF X name T r ∧ ∀ p o vs ds d H F Q k, kind d = T → H p = some o → CellAt G F o d → Reps G F ds vs → Same F H → m d ds k →
  (∀ d' e, k d' e → ∀ o' v, CellAt G F o' d' → Rep G F e v → Q v (upd H p o')) → r (.ref p) vs H Q
/-- where the thing stands -/
def cellOf (s : DSt) : RV → (D → (D → DSt) → Prop) → Prop
  | .slot i, k => (match s.sl[i]? with
    | some (some (.own d)) => k d fun d' => s.put i (.own d')
    | some (some (.imm (.ref a))) => optP (s.M a) fun d => k d fun d' => { s with M := up s.M a d' }
    | _ => False)
  | .imm (.ref a), k => optP (s.M a) fun d => k d fun d' => { s with M := up s.M a d' }
  | _, _ => False
def dMut (name : Str) (T : String) (m : DMu) (o : DE) (t : DA) : DE := fun s Q X => o s (fun r s1 => cellOf s1 r fun d0 _ => kind d0 = T ∧ t s1 (fun rs s2 => sto s2 rs fun ds s3 => cellOf s3 r fun d put => kind d = T ∧ m d ds fun d' e => Q (.imm e) (put d')) X) X
theorem Hold.putOwn2 (h : Hold G c s F σ H Mp P) {i : Nat} {d d' : D} {o : HO} (q : s.sl[i]? = some (some (LV.own d))) (hc : CellAt G F o d') : Holds G c (s.put i (.own d')) F σ (upd H (P i) o) := by
  have hi : i < s.sl.length := (List.getElem?_eq_some_iff.mp q).1
  obtain ⟨e1, e2, e3, e4⟩ := h.ow i d q
  refine ⟨_, P, h.put e2 (Grow.refl h.fz) hc (s.put i (.own d')) ?_ (fun b x z => .inr ⟨fun w => ?_, z⟩) (fun j x z => ?_) (fun j x z => ?_)⟩
  · show (s.sl.set i _).length = _
    rw [List.length_set]
  · subst w
    have z' : s.M (P i) = some x := z
    rw [e3] at z'; cases z'
  · have z' : (s.sl.set i (some (.own d')))[j]? = some (some (.imm x)) := z
    by_cases w : i = j
    · subst w
      rw [List.getElem?_set_self hi] at z'
      cases z'
    · rw [List.getElem?_set_ne w] at z'; exact z'
  · have z' : (s.sl.set i (some (.own d')))[j]? = some (some (.own x)) := z
    by_cases w : i = j
    · subst w
      rw [List.getElem?_set_self hi] at z'
      cases z'
      exact ⟨d, q, .inl ⟨rfl, rfl, e3⟩⟩
    · rw [List.getElem?_set_ne w] at z'
      exact ⟨x, z', .inr ⟨fun y => w (h.inj j i x d z' q y).symm, rfl, (h.ow j x z').2.2.1⟩⟩
/-- the thing's place, and how it is changed -/
theorem cell_run {r : RV} {v : V} {k : D → (D → DSt) → Prop} (h : Hold G c s F σ H Mp P) (o : Opa G F σ r v) (q : cellOf s r k) : ∃ p ob d put, v = .ref p ∧ H p = some ob ∧ CellAt G F ob d ∧ k d put ∧ ∀ d' o', CellAt G F o' d' → Holds G c (put d') F σ (upd H p o') := by
  unfold cellOf at q
  split at q
  · rename_i i
    have o' : σ[i]? = some (some v) := o
    split at q
    · rename_i d e
      obtain ⟨e1, e2, e3, e4⟩ := h.ow i d e
      rw [o'] at e1
      cases (Option.some.inj (Option.some.inj e1))
      obtain ⟨_, _, ob, ho, hc⟩ := h.mem _ _ e2
      exact ⟨_, ob, d, _, rfl, ho, hc, q, fun d' o' hc' => h.putOwn2 e hc'⟩
    · rename_i a e
      obtain ⟨v', e1, r'⟩ := h.im i _ e
      rw [o'] at e1
      cases (Option.some.inj (Option.some.inj e1))
      cases (show v = .ref a from r')
      obtain ⟨d, em, q⟩ := optP_some q
      obtain ⟨_, _, ob, ho, hc⟩ := h.mem _ _ (h.sub a d em)
      exact ⟨a, ob, d, _, rfl, ho, hc, q, fun d' o' hc' => h.putM em hc'⟩
    · exact q.elim
  · rename_i a
    cases (show v = .ref a from o)
    obtain ⟨d, em, q⟩ := optP_some q
    obtain ⟨_, _, ob, ho, hc⟩ := h.mem _ _ (h.sub a d em)
    exact ⟨a, ob, d, _, rfl, ho, hc, q, fun d' o' hc' => h.putM em hc'⟩
  · exact q.elim
theorem frz_cell {r : RV} {k : D → (D → DSt) → Prop} (q : cellOf s r k) : r.frz = r := by
  unfold cellOf at q
  split at q
  · rfl
  · rfl
  · exact q.elim
theorem mut_run {name : Str} {T : String} {m : DMu} {o : DE} {t : DA} {Q : VK} (hK : X.K = G.K) (ok : MuOk X G name T m) (h : LE X G (dMut name T m o t) σ H Q) : tBV X name (LE X G o) (LA X G t) σ H Q := by
  obtain ⟨c, W, s, F, Q', X', tk, hs, ht, hq, hx⟩ := h
  refine LE.op tk hs ht hx fun r s1 v F1 H1 q1 g1 h1 o1 => ?_
  have h1' := h1
  obtain ⟨Mp, P, h1'⟩ := h1'
  obtain ⟨hne, r', hB, hok⟩ := ok
  rw [frz_cell q1] at o1
  obtain ⟨p, ob, d0, put0, rfl, hp, hc, ⟨hk0, q1⟩, _⟩ := cell_run h1' o1 q1
  have tp : Top G H1 F1 d0 (.ref p) := hc.top hp (by cases d0 <;> first | rfl | exact hc.elim | exact absurd hk0.symm hne)
  refine ⟨T, r', by rw [hK, ← hk0]; exact kind_ty h1'.fz tp (by rw [hk0]; exact hne), hB, c, W, s1, F1, _, X', tk, h1, q1, fun rs s2 vs F2 H2 q2 g2 h2 o2 => ?_, hx.mono g1⟩
  obtain ⟨ds, s3, F3, g3, h3, r3, q3⟩ := sto_run h2 o2 q2
  obtain ⟨Mp3, P3, h3'⟩ := h3
  obtain ⟨p3, ob3, d3, put3, ep, hp3, hc3, ⟨hk3, q3⟩, hput⟩ := cell_run h3' (o1.mono (g2.trans g3)) q3
  cases ep
  refine hok p ob3 vs ds d3 H2 F3 Q _ hk3 hp3 hc3 r3 h3'.fz q3 fun d' e ke o' v' hc' rv => ?_
  obtain ⟨Mp4, P4, h4⟩ := hput d' o' hc'
  exact hq (.imm e) _ _ F3 _ ke ((g1.trans g2).trans g3) ⟨Mp4, P4, h4, rv⟩
theorem dl_mut {name : Str} {T : String} {m : DMu} {u : DE} {t : DA} {o e : Expr} {es : List Expr} {apos cpos : Pos} (hK : X.K = G.K) (ok : MuOk X G name T m) (ho : PE X o (LE X G u)) (ha : PA X (e :: es) (LA X G t))
    (hbase : attributeBase o name X.env (eval o X.env) = eval o X.env := by rfl)
    (hfew : ((backTo cpos (starEach (e :: es) X.env)).all (fun x => !x.1) && (backToKw cpos (keywordEach [] X.env)).all (fun x => x.1.isSome)
      && decide ((e :: es).length + ([] : List Keyword).length + (if ([] : List Keyword).isEmpty then 0 else 1) < 30)) = true := by rfl)
    (hline : (apos.endLine == cpos.line) = true := by rfl) (hs : starEach (e :: es) X.env = (false, eval e X.env) :: starEach es X.env := by rfl) (hplain : (backTo cpos (starEach es X.env)).any (·.1) = false := by rfl) :
    PE X (.Call (.Attribute o name apos) (e :: es) [] cpos) (LE X G (dMut name T m u t)) := PE.mono (pe_bV ho ha hbase hfew hline hs hplain) fun σ H Q h => mut_run hK ok h
theorem dl_mut0 {name : Str} {T : String} {m : DMu} {u : DE} {o : Expr} {apos cpos : Pos} (hK : X.K = G.K) (ok : MuOk X G name T m) (ho : PE X o (LE X G u))
    (hbase : attributeBase o name X.env (eval o X.env) = eval o X.env := by rfl) (hline : (apos.endLine == cpos.line) = true := by rfl) :
    PE X (.Call (.Attribute o name apos) [] [] cpos) (LE X G (dMut name T m u dNil)) := PE.mono (pe_bV0 ho hbase hline) fun σ H Q h => by
  obtain ⟨c, W, s, F, Q', X', tk, hs, ht, hq, hx⟩ := mut_run hK ok h
  exact ⟨c, W, s, F, Q', X', tk, hs, ht, fun r s1 v F1 H1 q1 g1 h1 => by
    obtain ⟨T, r, e1, e2, c2, W2, s2, F2, Q2, X2, tk2, h2, t2, k2, x2⟩ := hq r s1 v F1 H1 q1 g1 h1
    exact ⟨T, r, e1, e2, k2 [] s2 [] F2 H1 t2 (Same.refl _) h2 rfl⟩, hx⟩
/-- the list at p -/
theorem cell_lst {o : HO} {d : D} (h : CellAt G F o d) (hk : kind d = "list") : ∃ xs vs, d = .lst xs ∧ o = .lst vs ∧ Reps G F xs vs := by
  cases d with
  | lst xs => obtain ⟨vs, e, r⟩ := h; exact ⟨xs, vs, rfl, e, r⟩
  | _ => simp [kind] at hk
theorem reps1 {d : D} {vs : List V} (r : Reps G F [d] vs) : ∃ v, vs = [v] ∧ Rep G F d v := by
  obtain ⟨v, w, rfl, a, b⟩ := r
  cases (show w = [] from b)
  exact ⟨v, rfl, a⟩
theorem reps2 {d e : D} {vs : List V} (r : Reps G F [d, e] vs) : ∃ v w, vs = [v, w] ∧ Rep G F d v ∧ Rep G F e w := by
  obtain ⟨v, w, rfl, a, b⟩ := r
  obtain ⟨z, rfl, b'⟩ := reps1 b
  exact ⟨v, z, rfl, a, b'⟩
def mAppend : DMu := fun d ds k => match d, ds with
  | .lst xs, [y] => xs.length < sizeLine ∧ k (.lst (xs ++ [y])) .non
  | _, _ => False
theorem mu_append : MuOk X G "append" "list" mAppend := by
  refine ⟨by decide, rAppend, ⟨_, PySem.F.plainAttrs_list, PySem.F.slot_list_append, PySem.F.type_list_append, mt_append⟩, fun p o vs ds d H F Q k hd hp hc rs fz hm hk => ?_⟩
  obtain ⟨xs, ws, rfl, rfl, rx⟩ := cell_lst hc hd
  unfold mAppend at hm
  split at hm
  · rename_i xs' y e
    cases e
    obtain ⟨v, rfl, rv⟩ := reps1 rs
    exact ⟨p, ws, v, rfl, rfl, hp, by rw [← rx.length]; exact hm.1, hk _ _ hm.2 _ _ ⟨_, rfl, rx.append (Reps.cons rv rfl)⟩ rfl⟩
  · exact hm.elim
theorem mt_extendX : MtR X "list.extend" (fun x vs H Q => ∃ l b xs zs, x = .ref l ∧ vs = [.ref b] ∧ H l = some (.lst xs) ∧ H b = some (.lst zs) ∧ xs.length + zs.length ≤ sizeLine ∧ Q .non (upd H l (.lst (xs ++ zs)))) := mt_extend
def mInsert : DMu := fun d ds k => match d, ds with
  | .lst xs, [.int i, y] => xs.length < sizeLine ∧ 0 ≤ i ∧ i < 2 ^ 63 ∧ k (.lst (xs.take i.toNat ++ [y] ++ xs.drop i.toNat)) .non
  | _, _ => False
theorem mu_insert : MuOk X G "insert" "list" mInsert := by
  refine ⟨by decide, _, ⟨_, PySem.F.plainAttrs_list, PySem.F.slot_list_insert, PySem.F.type_list_insert, mt_insert⟩, fun p o vs ds d H F Q k hd hp hc rs fz hm hk => ?_⟩
  obtain ⟨xs, ws, rfl, rfl, rx⟩ := cell_lst hc hd
  unfold mInsert at hm
  split at hm
  · rename_i xs' i y e
    cases e
    obtain ⟨v, w, rfl, rv, rw'⟩ := reps2 rs
    cases (show v = .int i from rv)
    exact ⟨p, ws, i, w, rfl, rfl, hp, by rw [← rx.length]; exact hm.1, hm.2.1, hm.2.2.1, hk _ _ hm.2.2.2 _ _ ⟨_, rfl, ((rx.take _).append (Reps.cons rw' Reps.nil)).append (rx.drop _)⟩ rfl⟩
  · exact hm.elim
def mPopAt : DMu := fun d ds k => match d, ds with
  | .lst xs, [.int i] => -(2 ^ 63) ≤ i ∧ i < 2 ^ 63 ∧ optP (seqIndex? i xs.length) fun j => optP (xs[j]?) fun y => k (.lst (xs.eraseIdx j)) y
  | _, _ => False
theorem Reps.erase : ∀ {ds : List D} {vs : List V} (n : Nat), Reps G F ds vs → Reps G F (ds.eraseIdx n) (vs.eraseIdx n)
  | [], _, n, h => by cases (show _ = [] from h); exact rfl
  | d :: ds, _, n, h => by
    obtain ⟨v, r, rfl, a, b⟩ := h
    cases n with
    | zero => exact b
    | succ n => exact Reps.cons a (Reps.erase n b)
theorem mu_popAt : MuOk X G "pop" "list" mPopAt := by
  refine ⟨by decide, _, ⟨_, PySem.F.plainAttrs_list, PySem.F.slot_list_pop, PySem.F.type_list_pop, mt_popAt⟩, fun p o vs ds d H F Q k hd hp hc rs fz hm hk => ?_⟩
  obtain ⟨xs, ws, rfl, rfl, rx⟩ := cell_lst hc hd
  unfold mPopAt at hm
  split at hm
  · rename_i xs' i e
    cases e
    obtain ⟨v, rfl, rv⟩ := reps1 rs
    cases (show v = .int i from rv)
    obtain ⟨h1, h2, hm⟩ := hm
    obtain ⟨j, ej, hm⟩ := optP_some hm
    obtain ⟨y, ey, hm⟩ := optP_some hm
    obtain ⟨w, ew, rw'⟩ := rx.get ey
    exact ⟨p, ws, i, j, w, rfl, rfl, hp, h1, h2, by rw [← rx.length]; exact ej, ew, hk _ _ hm _ _ ⟨_, rfl, rx.erase j⟩ rw'⟩
  · exact hm.elim
def mPop : DMu := fun d ds k => match d, ds with
  | .lst xs, [] => optP (xs[xs.length - 1]?) fun y => k (.lst xs.dropLast) y
  | _, _ => False
theorem Reps.dropLast : ∀ {ds : List D} {vs : List V}, Reps G F ds vs → Reps G F ds.dropLast vs.dropLast := fun {ds vs} h => by
  rw [List.dropLast_eq_take, List.dropLast_eq_take, h.length]
  exact h.take _
theorem mu_pop : MuOk X G "pop" "list" mPop := by
  refine ⟨by decide, _, ⟨_, PySem.F.plainAttrs_list, PySem.F.slot_list_pop, PySem.F.type_list_pop, mt_pop⟩, fun p o vs ds d H F Q k hd hp hc rs fz hm hk => ?_⟩
  obtain ⟨xs, ws, rfl, rfl, rx⟩ := cell_lst hc hd
  unfold mPop at hm
  split at hm
  · rename_i xs' e
    cases e
    cases (show vs = [] from rs)
    obtain ⟨y, ey, hm⟩ := optP_some hm
    obtain ⟨w, ew, rw'⟩ := rx.get ey
    exact ⟨p, ws, w, rfl, rfl, hp, by rw [← rx.length]; exact ew, hk _ _ hm _ _ ⟨_, rfl, rx.dropLast⟩ rw'⟩
  · exact hm.elim
def mReverse : DMu := fun d ds k => match d, ds with
  | .lst xs, [] => k (.lst xs.reverse) .non
  | _, _ => False
theorem mu_reverse : MuOk X G "reverse" "list" mReverse := by
  refine ⟨by decide, _, ⟨_, PySem.F.plainAttrs_list, PySem.F.slot_list_reverse, PySem.F.type_list_reverse, mt_reverse⟩, fun p o vs ds d H F Q k hd hp hc rs fz hm hk => ?_⟩
  obtain ⟨xs, ws, rfl, rfl, rx⟩ := cell_lst hc hd
  unfold mReverse at hm
  split at hm
  · rename_i xs' e
    cases e
    cases (show vs = [] from rs)
    exact ⟨p, ws, rfl, rfl, hp, hk _ _ hm _ _ ⟨_, rfl, rx.rev⟩ rfl⟩
  · exact hm.elim
end
end DL

set_option Elab.async false
set_option linter.all false
set_option maxRecDepth 100000
set_option maxHeartbeats 4000000
namespace DL
open PySem L2 PL
section
variable {X : Cx} {G : Sig} {c : Fm} {W : WX} {s : DSt} {F F' H H' : Hp} {σ : St} {pos : Pos}
/-! ### comprehensions in the text -/
theorem PTs.mono {e : List Expr} {t u : TT} (h : PTs X e t) (m : ∀ σ H Q, u σ H Q → t σ H Q) : PTs X e u := ⟨fun pins s σ H Q I q => h.run pins s σ H Q I (m σ H Q q)⟩
theorem dts_nil : PTs X [] (LTw G dYes) := PTs.mono pts_nil fun σ H Q ⟨c, s, F, Q', hs, ht, hq⟩ => hq true s F H ht (Same.refl _) hs
theorem dts_one {e : Expr} {t : DT} (h : PT X e (LT X G t)) : PTs X [e] (LTw G t) := pts_one (PT.w h)
theorem dl_lc {elt tg iter : Expr} {ifs : List Expr} {scope : Scope} {own : List (Str × Nat)} {pos : Pos} {it : DI} {g : TG} {dg : DG} {tt : DT} {te : DE} (hc : X.calm = true) (hN : X.N.Nodup) (hi : PI X tg iter (LI X G it)) (ok : BlkOk X.N X.env.scope scope own)
    (hg : ∀ (s : Shared) (H : Hp) (C : Addr) (cl : List (Str × Addr)) (fp : List Addr), PG (X.blk s H scope (compEnvC scope cl C X.env) fp) tg g) (htg : TgOk G g dg (own.map (·.2))) (ht : ∀ (s : Shared) (H : Hp) (C : Addr) (cl : List (Str × Addr)) (fp : List Addr), PTs (X.blk s H scope (compEnvC scope cl C X.env) fp) ifs (LTw G tt))
    (he : ∀ (s : Shared) (H : Hp) (C : Addr) (cl : List (Str × Addr)) (fp : List Addr), PE (X.blk s H scope (compEnvC scope cl C X.env) fp) elt (LE (X.blk s H scope (compEnvC scope cl C X.env) fp) G te)) (hs : ∀ x, foldedSetIterable iter X.env x = pure x := by intro _; rfl) :
    PE X (.ListComp elt [⟨tg, iter, ifs, 0⟩] scope pos) (LE X G (dLc it dg tt te (own.map (·.2)))) := PE.mono (pe_lc hc hN hi ok hg ht (fun s H C cl fp => PE.w (he s H C cl fp)) hs) fun σ H Q h => lc_run htg h
theorem ds_setLc {i : Nat} {y : Str} {py : Pos} {elt tg iter : Expr} {ifs : List Expr} {scope : Scope} {own : List (Str × Nat)} {pos spos : Pos} {it : DI} {g : TG} {dg : DG} {tt : DT} {te : DE} (hc : X.calm = true) (hN : X.N.Nodup) (hy : X.N[i]? = some y) (hyl : X.env.scope.names.lookup y = some .local)
    (hsw : swapsWith (.ListComp elt [⟨tg, iter, ifs, 0⟩] scope pos) (some (.Name y py)) spos.line X.env = pure true) (hi : PI X tg iter (LI X G it)) (ok : BlkOk X.N X.env.scope scope own)
    (hg : ∀ (s : Shared) (H : Hp) (C : Addr) (cl : List (Str × Addr)) (fp : List Addr), PG (X.blk s H scope (compEnvC scope cl C X.env) fp) tg g) (htg : TgOk G g dg (own.map (·.2))) (ht : ∀ (s : Shared) (H : Hp) (C : Addr) (cl : List (Str × Addr)) (fp : List Addr), PTs (X.blk s H scope (compEnvC scope cl C X.env) fp) ifs (LTw G tt))
    (he : ∀ (s : Shared) (H : Hp) (C : Addr) (cl : List (Str × Addr)) (fp : List Addr), PE (X.blk s H scope (compEnvC scope cl C X.env) fp) elt (LE (X.blk s H scope (compEnvC scope cl C X.env) fp) G te)) (hs : ∀ x, foldedSetIterable iter X.env x = pure x := by intro _; rfl) :
    PS X (.Assign [.Name y py] (.ListComp elt [⟨tg, iter, ifs, 0⟩] scope pos) spos) (LS X G (dAsg (dLc it dg tt te (own.map (·.2))) (gN i))) := PS.mono (ps_setLc (i := i) hc hN hy hyl hsw hi ok hg ht (fun s H C cl fp => PE.w (he s H C cl fp)) hs) fun D σ H ⟨c, W, s, F, E', tk, hs, ht, hn, hr, hb, hc, hx⟩ =>
  lc_run htg ⟨c, W, s, F, _, _, tk, hs, ht, fun r s1 v F1 H1 q1 g1 h1 => by
    obtain ⟨s', F', g, h', q⟩ := gN_run h1 q1
    exact hn s' F' _ H1 q (g1.trans g) h', hx σ⟩
end
/-! ### o[i] = v, o a list -/
section
variable {X : Cx} {G : Sig} {c : Fm} {W : WX} {s : DSt} {F F' H H' : Hp} {σ : St} {pos : Pos}
def gIx (o i : DE) : DG := fun r s Q X => sto1 s r.frz fun dv s1 => o s1 (fun ro s2 => i s2 (fun ri s3 => match ri with
  | .imm (.int k) => cellOf s3 ro fun d put => (match d with
    | .lst xs => optP (ixN xs.length k) fun j => Q (put (.lst (xs.set j dv)))
    | _ => False)
  | _ => False) X) X
theorem dg_ix {oe ie : Expr} {o i : DE} (ho : PE X oe (LE X G o)) (hi : PE X ie (LE X G i)) (ha : ∀ v, assign (.Subscript oe ie pos) X.env v = (do
      let ov ← holding [v] (eval oe X.env)
      let iv ← holding [v, ov] (eval ie X.env)
      standAt pos
      holding [v, ov, iv] (setItem ov iv v)
      release [v, ov, iv] []) := by intro _; rfl) : PG X (.Subscript oe ie pos) (LG X G (gIx o i)) :=
  PG.mono (pg_sub ho hi set_list ha) fun v σ H Q ⟨c, W, s, F, r, Q', X', tk, hs, ht, hq, hx⟩ => by
  obtain ⟨F1, g1, h1, o1⟩ := hs.opa
  obtain ⟨dv, s2, F2, g2, h2, r2, q2⟩ := sto1_run h1 o1 ht
  have gg := g1.trans g2
  refine LE.op tk h2 q2 ((hx σ).mono gg) fun ro s3 vo F3 H3 q3 g3 h3 o3 => ?_
  refine ⟨c, W, s3, F3, _, X', tk, h3, q3, fun ri s4 vi F4 H4 q4 g4 h4 => ?_, (hx σ).mono (gg.trans g3)⟩
  split at q4
  · rename_i k
    obtain ⟨Mp, P, h4, o4⟩ := h4
    cases (show vi = .int k from o4)
    rw [frz_cell q4] at o3
    obtain ⟨p, ob, d, put, rfl, hp, hc, q5, hput⟩ := cell_run h4 (o3.mono g4) q4
    split at q5
    · rename_i xs
      obtain ⟨vs, rfl, rs⟩ := hc
      obtain ⟨j, ej, q5⟩ := optP_some q5
      exact ⟨p, vs, k, j, rfl, rfl, hp, by rw [← rs.length]; exact ej, hq _ F4 σ _ q5 ((gg.trans g3).trans g4) (hput _ _ ⟨_, rfl, rs.set j (Rep.mono (g3.trans g4) _ _ r2)⟩)⟩
    · exact q5.elim
  · exact q4.elim
end
/-! ### defs -/
section
variable {P : Program} {w : World} {K : PySem.W.Frag} {mg : Str → Option Value} {base : Heap} {N ps : List Str} {k : Nat} {sp : DSp} {x qual m : Str} {st : Stmt} {C : Addr} {G : Sig} {b : DS}
/-- the body walked -/
def Wk (P : Program) (w : World) (K : PySem.W.Frag) (mg : Str → Option Value) (base : Heap) (G : Sig) (N : List Str) (qual : Str) (st : Stmt) (k : Nat) (b : DS) : Prop :=
  ∀ (f : Addr) (cdv : Value) (A : Around) (outer : List Env) (s : Shared) (H : Hp) (E : XK), Room k (A.deeper (PyProof.Rows.envOfC qual (defScope st) s.heap.objs.size f cdv)) →
      PSs (cxOf (L2.CX P w) P w K mg base N qual (defScope st) f cdv A outer s H E) (defBody st) (LS (cxOf (L2.CX P w) P w K mg base N qual (defScope st) f cdv A outer s H E) G b)
theorem lsp_len {vs : List V} {H : Hp} {Q : VK} {E : XK} {n : Nat} (ln : ∀ ds M Q X, sp ds M Q X → ds.length = n) (h : lsp G sp vs H Q E) : vs.length = n := by
  obtain ⟨ds, M, F, Q', X', fz, hM, rs, hsp, _⟩ := h
  rw [← rs.length]
  exact ln ds M Q' X' hsp
theorem cal_of (F : DefF K mg x st ps) (S : FnScope N ps (defScope st)) (ln : ∀ ds M Q X, sp ds M Q X → ds.length = ps.length) (vc : Vc b N.length sp) (wk : Wk P w K mg base G N x st k b) : Cal P w K mg base (k + 1) x (lsp G sp) :=
  F.cal S (fun vs H Q E h => lsp_len ln h) fun f cdv A outer s H vs Q E hr h => ⟨_, wk f cdv A outer s H E hr, body_run vc (takes_of rfl rfl rfl rfl) h⟩
theorem met_of (F : MetF K C m qual st ps) (c : Cls K C) (S : FnScope N ps (defScope st)) (ln : ∀ ds M Q X, sp ds M Q X → ds.length = ps.length) (vc : Vc b N.length sp) (wk : Wk P w K mg base G N qual st k b) : Met P w K mg base (k + 1) C m (lsp G sp) :=
  F.met c S (fun vs H Q E h => lsp_len ln h) fun f cdv A outer s H vs Q E hr h => ⟨_, wk f cdv A outer s H E hr, body_run vc (takes_of rfl rfl rfl rfl) h⟩
theorem mak_of (F : IniF K C qual st ps) (g : mg x = some (.ref C)) (S : FnScope N ps (defScope st)) (ln : ∀ ds M Q X, sp ds M Q X → ds.length = ps.length) (vc : Vc b N.length sp) (wk : Wk P w K mg base G N qual st k b) : Mak P w K mg base (k + 1) x C (lsp G sp) :=
  F.mak g S (fun vs H Q E h => lsp_len ln h) fun f cdv A outer s H vs Q E hr h => ⟨_, wk f cdv A outer s H E hr, body_run vc (takes_of rfl rfl rfl rfl) h⟩
end
end DL

set_option Elab.async false
set_option linter.all false
set_option maxRecDepth 100000
set_option maxHeartbeats 4000000
namespace DL
open PySem PySem.Spec PyProof.Rows L2 PL
section
variable {X : Cx} {o e : Expr} {es : List Expr} {ta : TA} {p p1 p2 pos : Pos}
/-- B.__init__(self, ..), B an own class over ValueError without an __init__ of its own -/
theorem pe_loinit {pl : Sem Bool} {b : Str} {B : Addr} {mc : Value} (hg : Gl X b) (hm : X.mg b = some (.ref B)) (rd : PySem.W.readsIn X.K B mc = true) (rga : PySem.W.specialIn X.K (.ref B) "__getattribute__" = some (some (.builtin "type.__getattribute__"))) (vV : PySem.W.findCls X.K (.ref B) mc "__init__" = some (.val (.builtin "ValueError.__init__"))) (ha : PA X (e :: es) ta)
    (hdb : (b == ("__debug__" : Str)) = false := by decide)
    (hc : eval (.Call (.Attribute (.Name b p1) "__init__" p2) (e :: es) [] pos) X.env = (do
      let ov ← eval (.Name b p1) X.env
      standAt p2.atName
      let (f, first) ← holding [ov] (getMethod ov "__init__" pl)
      callWith pos f first (backTo pos (starEach (e :: es) X.env)) (backToKw pos (keywordEach [] X.env))) := by rfl)
    (he : starEach (e :: es) X.env = (false, eval e X.env) :: starEach es X.env := by rfl) (hpl : (backTo pos (starEach es X.env)).any (·.1) = false := by rfl) :
    PE X (.Call (.Attribute (.Name b p1) "__init__" p2) (e :: es) [] pos) (tVeI X.K ta) := by
  refine ⟨fun pins s σ H Q I h => ?_⟩
  refine PySem.W.methodCall_KW (ld_glob I hg hm ?_ hdb) hc
  refine PySem.W.method_cls I.kIn rga (PySem.W.cls_value I.kIn rd vV (by decide +kernel) ?_)
  show wpAny _ _ (callWith pos (Value.builtin "ValueError.__init__") [] (backTo pos (starEach (e :: es) X.env)) []) _ _ _
  refine PyProof.Rows.callWith_method1 (thn (ha.run pos pins _ σ H _ (I.tok _) h) fun us s1 ⟨vs, H1, I1, r1, a, C, ws, ev, hl, T, ea, q⟩ => ?_) he hpl
  subst ev
  cases r1 with
  | @cons _ u0 _ ur ra rw' =>
    obtain rfl : u0 = Value.ref a := ra
    have hlen : ur.length ≤ sizeLine := by
      rw [← Paired.length rw', sizeLine_eq]
      omega
    exact oinit_ok T I1 ea hlen fun s' J => ⟨.non, H1, J, rfl, q⟩
end
/-- what such an __init__ does -/
def spAt (K : PySem.W.Frag) (f : Str) : Sp := fun vs H Q _ => ∃ (a C : Addr) (v : V), vs = [.ref a, v] ∧ OexC K C ∧ PySem.W.findIn K (.ref C) f = some none ∧ H a = some (exo a C none) ∧ ∀ dx, H dx = none → dx ≠ a → Q .non (upd (upd H dx (exd dx [(f, v)])) a (exo a C (some dx)))
/-- a class of refusals with one field: made by its __init__ -/
structure XAt (P : Program) (w : World) (K : PySem.W.Frag) (mg : Str → Option Value) (base : Heap) (k : Nat) (x : Str) (C : Addr) (f : Str) : Prop where
  T : OexC K C
  no : PySem.W.findIn K (.ref C) f = some none
  g : mg x = some (.ref C)
  ex : ∃ fI fd ps, PySem.W.findIn K (.ref C) "__init__" = some (some (.ref fI)) ∧ PySem.W.typeIn K (.ref fI) = some (.type "function") ∧ FnOk P w K mg base (L2.CX P w) k fI fd ps (spAt K f) ∧ Binds K fd ps []
section
variable {X : Cx} {G : Sig} {c : Fm} {W : WX} {s : DSt} {F F' H H' : Hp} {σ : L2.St} {pos : Pos}
def tAt (C : Addr) (f : Str) (te : TE) : L2.St → Hp → XK → Prop := fun σ H Q => te σ H fun v H1 => ∀ d, H1 d = none → Q (.ref C) (some d) (upd H1 d (.xd [(f, v)]))
theorem LE.mono {t : DE} {Q Q' : VK} (h : LE X G t σ H Q) (k : ∀ v H', Q v H' → Q' v H') : LE X G t σ H Q' := by
  obtain ⟨c, W, s, F, Q1, X', tk, hs, ht, hq, hx⟩ := h
  exact ⟨c, W, s, F, Q1, X', tk, hs, ht, fun r s' v F' H' q g hr => k _ _ (hq r s' v F' H' q g hr), hx⟩
theorem pmk_at {x f : Str} {C : Addr} {k j : Nat} {e : Expr} {t : DE} {p pos : Pos} (A : XAt X.prog X.w X.K X.mg X.base k x C f) (hr : Room j X.A) (hk : k + 1 ≤ j) (hg : Gl X x) (he : PE X e (LE X G t))
    (hdb : (x == ("__debug__" : Str)) = false := by decide) (hs : starEach [e] X.env = (false, eval e X.env) :: starEach [] X.env := by rfl) (hpl : (backTo pos (starEach [] X.env)).any (·.1) = false := by rfl) :
    PMk X (.Call (.Name x p) [e] [] pos) (tAt C f (LE X G t)) := by
  obtain ⟨fI, fd, ps, iC, tI, F1, hb⟩ := A.ex
  intro pins s σ H Q I h
  refine pmk_oex (ds := []) (dvs := []) A.T iC tI F1 (hr.mono hk) hb .nil (fun pins σ H s e s' _ h => ?_) hg A.g (pa_cons he pa_nil hs) hdb hs hpl pins s σ H Q I ?_
  · obtain ⟨_, _, _, _, _, _, _, _, _, _, _, _, z⟩ := h
    exact z.elim
  refine LE.mono h fun v H1 q => ⟨by simp, fun a na => ⟨a, C, v, rfl, A.T, A.no, upd_same, fun dx nd ne => ⟨rfl, dx, [(f, v)], upd_same, ?_, ?_, ?_⟩⟩⟩
  · rw [upd_ne ne, upd_same]
  · rw [upd_ne ne] at nd
    exact nd
  · have nd' : H1 dx = none := by rw [upd_ne ne] at nd; exact nd
    have e : upd (L2.del (upd (upd (upd H1 a (exo a C none)) dx (exd dx [(f, v)])) a (exo a C (some dx))) a) dx (.xd [(f, v)]) = upd H1 dx (.xd [(f, v)]) := by
      funext b
      by_cases h1 : b = dx
      · subst h1; rw [upd_same, upd_same]
      · rw [upd_ne h1, upd_ne h1]
        by_cases h2 : b = a
        · subst h2; rw [L2.del_same, na]
        · rw [L2.del_ne h2, upd_ne h2, upd_ne h1, upd_ne h2]
    rw [e]
    exact q dx nd'
/-! ### raise -/
theorem PS.some {st : Stmt} {α : Type} {p : α → Prop} {t : α → TS} (h : ∀ a, p a → PS X st (t a)) : PS X st (fun D σ H => ∃ a, p a ∧ t a D σ H) := ⟨fun pins s σ H Q I ⟨a, pa, q⟩ => (h a pa).run pins s σ H Q I q⟩
def dRaise (C : Str) : DS := fun E s => E.x ⟨C, []⟩ s
theorem ds_raise {C : Str} {e : Expr} (hc : X.calm = true) (hC : C ∈ G.xs) (he : PMk X e (fun _ H Q => Q (.ref (G.Z C)) none H)) : PS X (.Raise (some e) none pos) (LS X G (dRaise C)) :=
  PS.mono (PS.some (p := fun W => Takes X W) (t := fun W => fun _ σ H => W (.ref (G.Z C)) none σ H) fun W tk => ps_raise hc tk he) fun D σ H ⟨c, W, s, F, E', tk, hs, ht, hn, hr, hb, hc, hx⟩ =>
  ⟨W, tk, by
    obtain ⟨Mp, P, hs⟩ := hs
    exact hx σ _ s none F H ht (Same.refl _) ⟨Mp, P, hs, ⟨hC, .inl ⟨rfl, rfl⟩⟩, fun _ z => nomatch z⟩⟩
def dRaiseA (C f : Str) (t : DE) : DS := fun E s => t s (fun r s1 => sto1 s1 r.frz fun d s2 => E.x ⟨C, [(f, d)]⟩ s2) E.x
theorem ds_raiseA {C f : Str} {e : Expr} {t : DE} (hc : X.calm = true) (hC : C ∈ G.xs) (he : PMk X e (tAt (G.Z C) f (LE X G t))) : PS X (.Raise (some e) none pos) (LS X G (dRaiseA C f t)) :=
  PS.mono (PS.some (p := fun W => Takes X W) (t := fun W => fun _ σ H => tAt (G.Z C) f (LE X G t) σ H fun cls d H' => W cls d σ H') fun W tk => ps_raise hc tk he) fun D σ H ⟨c, W, s, F, E', tk, hs, ht, hn, hr, hb, hc, hx⟩ => by
  refine ⟨W, tk, LE.op tk hs ht (hx σ) fun r s1 v F1 H1 q1 g1 h1 o1 => ?_⟩
  obtain ⟨x, s2, F2, g2, h2, r2, q2⟩ := sto1_run h1 o1 q1
  intro d nd
  obtain ⟨Mp, P, h2⟩ := h2
  have g3 := Grow.made (o := .xd [(f, v)]) h2.fz nd
  exact hx σ _ s2 (some d) F2 _ q2 (g1.trans g2) ⟨Mp, P, h2.grow g3, ⟨hC, .inr ⟨d, f, x, v, rfl, rfl, upd_same, r2, h2.free nd, h2.fz.free nd⟩⟩, fun a ea => by
    cases ea
    cases z : Mp d with
    | none => rfl
    | some y =>
      obtain ⟨_, _, o, ho, _⟩ := h2.mem d y z
      rw [nd] at ho; cases ho⟩
/-! ### try -/
/-- what is caught: exmOne's answer -/
def XmOk (G : Sig) (B : Str) (sub : Str → Bool) : Prop := ∀ C ∈ G.xs, PySem.W.exmOne G.K (.ref (G.Z C)) (.ref (G.Z B)) = some (sub C)
def LSw (G : Sig) (t : DS) : TS := fun D σ H => ∃ c s F E', Holds G c s F σ H ∧ t E' s ∧ (∀ s' F' σ' H', E'.nx s' → Same F F' → Holds G c s' F' σ' H' → D.nx σ' H') ∧ (∀ r s' v F' σ' H', E'.rt r s' → Same F F' → HoldsR G c s' F' σ' H' r v → D.rt v H') ∧
  (∀ s' F' σ' H', E'.bk s' → Same F F' → Holds G c s' F' σ' H' → D.bk σ' H') ∧ (∀ s' F' σ' H', E'.ct s' → Same F F' → Holds G c s' F' σ' H' → D.ct σ' H') ∧ (∀ e s', ¬ E'.x e s')
/-- by a wish told -/
def LSW (G : Sig) (W : WX) (t : DS) : TS := fun D σ H => ∃ c s F E', Holds G c s F σ H ∧ t E' s ∧ (∀ s' F' σ' H', E'.nx s' → Same F F' → Holds G c s' F' σ' H' → D.nx σ' H') ∧ (∀ r s' v F' σ' H', E'.rt r s' → Same F F' → HoldsR G c s' F' σ' H' r v → D.rt v H') ∧
  (∀ s' F' σ' H', E'.bk s' → Same F F' → Holds G c s' F' σ' H' → D.bk σ' H') ∧ (∀ s' F' σ' H', E'.ct s' → Same F F' → Holds G c s' F' σ' H' → D.ct σ' H') ∧ (∀ σ', XPost G c W F σ' E'.x)
theorem pssW {e : List Stmt} {t : DS} {W : WX} (tk : Takes X W) (h : PSs X e (LS X G t)) : PSs X e (LSW G W t) := PSs.mono h fun D σ H ⟨c, s, F, E', q⟩ => ⟨c, W, s, F, E', tk, q⟩
theorem PSs.w {e : List Stmt} {t : DS} (h : PSs X e (LS X G t)) : PSs X e (LSw G t) := PSs.mono h fun D σ H ⟨c, s, F, E', hs, ht, hn, hr, hb, hc, hx⟩ => ⟨c, WF, s, F, E', takesF, hs, ht, hn, hr, hb, hc, fun σ' e s' d F1 H1 q => (hx e s' q).elim⟩
/-- the ends without refusals -/
def DEnds.nox (E : DEnds) : DEnds := { E with x := PXF }
/-- try: b except B: h (h is handed the refusal) -/
def dTry (sub : Str → Bool) (b : DS) (h : Exc → DS) : DS := fun E s => b { E with x := fun e s' => if sub e.cls = true then h e E.nox s' else E.x e s' } s
/-- the suite's reading: for the refusal e -/
def tsO (G : Sig) (h : Exc → DS) : Addr → Value → Option Addr → TS := fun _ cls d D σ H => ∃ e : Exc, cls = .ref (G.Z e.cls) ∧ LSw G (h e) D σ H
theorem PSs.some {st : List Stmt} {α : Type} {p : α → Prop} {t : α → TS} (h : ∀ a, p a → PSs X st (t a)) : PSs X st (fun D σ H => ∃ a, p a ∧ t a D σ H) := ⟨fun pins s σ H Q I ⟨a, pa, q⟩ => (h a pa).run pins s σ H Q I q⟩
theorem ds_try {B x : Str} {sub : Str → Bool} {body suite : List Stmt} {b₀ : Stmt} {np pos pos' : Pos} {b : DS} {h : Exc → DS} (hs : X.stack = X.env :: X.outer) (hf : X.env.frame = some X.env.locals) (hc : Names X x (.ref (G.Z B))) (hK : X.K = G.K) (xm : XmOk G B sub)
    (hb : ∀ (pn : List (Addr × Obj)) (xe : Value → Shared → Prop), PassesOwn (model X.prog X.w) X.A X.env xe → PSs (X.tr pn xe) body (LS (X.tr pn xe) G b))
    (hsu : ∀ (a : Addr) (oe : Obj) (cls : Value) (d : Option Addr) (pn : List (Addr × Obj)) (e : Exc), Zc cls d oe → (∃ vs, oe.data = .fields vs) → cls = .ref (G.Z e.cls) → PSs (X.suite a ((a, oe) :: pn)) (b₀ :: suite) (LS (X.suite a ((a, oe) :: pn)) G (h e))) :
    PS X (.Try body [.ExceptHandler (some (.Name x np)) none (b₀ :: suite) pos'] [] [] pos) (LS X G (dTry sub b h)) :=
  PS.mono (PS.some (p := fun W => Takes X W) (t := fun W => fun D σ H => LSW G (wOnly X.K (.ref (G.Z B)) (tsO G h) W D) b D σ H) fun W tk => ps_try_only (tb := fun W' => LSW G W' b) hs hf hc tk (fun W' pn xe tk' po => pssW tk' (hb pn xe po))
    fun a oe cls d pn hz hd => PSs.some (p := fun e : Exc => cls = .ref (G.Z e.cls)) (t := fun e => LSw G (h e)) fun e he => PSs.w (hsu a oe cls d pn e hz hd he)) fun D σ H ⟨c, W, s, F, E', tk, hs, ht, hn, hr, hbk, hct, hx⟩ => by
  refine ⟨W, tk, c, s, F, _, hs, ht, hn, hr, hbk, hct, fun σ' e s' d F' H' q g hx' => ?_⟩
  rw [hK]
  have hx2 := hx'
  obtain ⟨Mp, P, hh', xf, nf⟩ := hx2
  have hh : Holds G c s' F' σ' H' := ⟨Mp, P, hh'⟩
  refine ⟨sub e.cls, xm e.cls xf.1, fun eb a na => ?_, fun eb => ?_⟩
  · have q' : (if sub e.cls = true then h e E'.nox s' else E'.x e s') := q
    rw [if_pos eb] at q'
    exact ⟨e, rfl, c, s', F', _, hh, q', fun s1 F1 σ1 H1 q1 g1 h1 => hn s1 F1 σ1 H1 q1 (g.trans g1) h1, fun r s1 v F1 σ1 H1 q1 g1 h1 => hr r s1 v F1 σ1 H1 q1 (g.trans g1) h1, fun s1 F1 σ1 H1 q1 g1 h1 => hbk s1 F1 σ1 H1 q1 (g.trans g1) h1, fun s1 F1 σ1 H1 q1 g1 h1 => hct s1 F1 σ1 H1 q1 (g.trans g1) h1, fun _ _ z => z⟩
  · have q' : (if sub e.cls = true then h e E'.nox s' else E'.x e s') := q
    rw [if_neg (by rw [eb]; exact Bool.false_ne_true)] at q'
    exact hx σ' e s' d F' H' q' g hx'
end
end DL

set_option Elab.async false
set_option linter.all false
set_option maxRecDepth 100000
set_option maxHeartbeats 4000000
namespace DL
open PySem PySem.Spec PyProof.Rows L2 PL
section
variable {X : Cx} {G : Sig} {c : Fm} {W : WX} {s : DSt} {F F' H H' : Hp} {σ : L2.St} {pos : Pos}
/-! ### try: b except B as n: h -/
/-- the refusal's dict: where it stands -/
def XD (M : DM) (e : Exc) (d : Option Addr) : Prop := (e.fs = [] ∧ d = none) ∨ ∃ a f x, d = some a ∧ e.fs = [(f, x)] ∧ M a = none
def xM (M : DM) (e : Exc) (d : Option Addr) : DM := match e.fs, d with
  | [(f, x)], some a => up M a (.xfd f x)
  | _, _ => M
def DSt.clr (s : DSt) (i : Nat) : DSt := { s with sl := s.sl.set i none }
def DEnds.clr (E : DEnds) (i : Nat) : DEnds := { E with nx := fun s => E.nx (s.clr i), bk := fun s => E.bk (s.clr i), ct := fun s => E.ct (s.clr i), x := PXF }
def dTryAs (i : Nat) (sub : Str → Bool) (b : DS) (h : Exc → Addr → Option Addr → DS) : DS := fun E s => b { E with x := fun e s' => if sub e.cls = true then ∀ a d, s'.M a = none → XD s'.M e d → h e a d (E.clr i) ({ s' with M := xM s'.M e d }.put i (.imm (.ref a))) else E.x e s' } s
theorem Hold.clr {Mp : DM} {P : Nat → Addr} (h : Hold G c s F σ H Mp P) (i : Nat) : Hold G c (s.clr i) F (σ.set i none) H Mp P := by
  have k : ∀ {j : Nat} {v : LV}, (s.clr i).sl[j]? = some (some v) → i ≠ j ∧ s.sl[j]? = some (some v) := fun {j v} q => by
    have q' : (s.sl.set i none)[j]? = some (some v) := q
    by_cases z : i = j
    · subst z
      rw [List.getElem?_set] at q'
      split at q'
      · split at q' <;> cases q'
      · exact absurd rfl (by assumption)
    · rw [List.getElem?_set_ne z] at q'
      exact ⟨z, q'⟩
  refine ⟨h.ext, h.fz, h.fr, h.nw, h.be, h.bh, h.mem, h.sub, ?_, fun j d q => ?_, fun j d q => ?_, fun j j' d d' q q' pp => h.inj j j' d d' (k q).2 (k q').2 pp⟩
  · show (σ.set i none).length = (s.sl.set i none).length
    rw [List.length_set, List.length_set]; exact h.len
  · obtain ⟨z, q⟩ := k q
    rw [List.getElem?_set_ne z]
    exact h.im j d q
  · obtain ⟨z, q⟩ := k q
    rw [List.getElem?_set_ne z]
    exact h.ow j d q
theorem Holds.clr (h : Holds G c s F σ H) (i : Nat) : Holds G c (s.clr i) F (σ.set i none) H := by
  obtain ⟨Mp, P, h⟩ := h
  exact ⟨Mp, P, h.clr i⟩
/-- the refusal's dict comes into M -/
theorem HoldsX.xin {e : Exc} {d : Option Addr} (h : HoldsX G c s F σ H e d) : XD s.M e d ∧ Holds G c { s with M := xM s.M e d } F σ H := by
  obtain ⟨Mp, P, h, ⟨_, ⟨e1, e2⟩ | ⟨a, f, x, v, rfl, e2, e3, e4, e5, e6⟩⟩, nf⟩ := h
  · refine ⟨.inl ⟨e1, e2⟩, ?_⟩
    have : xM s.M e d = s.M := by unfold xM; rw [e1]
    rw [this]
    exact ⟨Mp, P, h⟩
  · have nm := nf a rfl
    have nM : s.M a = none := by
      cases z : s.M a with
      | none => rfl
      | some y => rw [h.sub a y z] at nm; cases nm
    refine ⟨.inr ⟨a, f, x, rfl, e2, nM⟩, ?_⟩
    have ex : xM s.M e (some a) = up s.M a (.xfd f x) := by unfold xM; rw [e2]
    rw [ex]
    have nE : c.E a = none := by
      cases z : c.E a with
      | none => rfl
      | some y => obtain ⟨b, q⟩ := h.be a y z; rw [e5] at q; cases q
    refine ⟨up Mp a (.xfd f x), P, h.ext, h.fz, h.fr, h.nw, h.be, h.bh, fun b y q => ?_, fun b y q => ?_, h.len, h.im, fun i y q => ?_, h.inj⟩
    · by_cases z : b = a
      · subst z; rw [up_same] at q; cases q
        exact ⟨e6, nE, _, e3, v, rfl, e4⟩
      · rw [up_other z] at q; exact h.mem b y q
    · by_cases z : b = a
      · subst z
        have q' : up s.M b (.xfd f x) b = some y := q
        rw [up_same] at q' ⊢; exact q'
      · have q' : up s.M a (.xfd f x) b = some y := q
        rw [up_other z] at q' ⊢; exact h.sub b y q'
    · obtain ⟨a1, a2, a3, a4⟩ := h.ow i y q
      have z : P i ≠ a := fun z => by rw [z, nm] at a2; cases a2
      refine ⟨a1, by rw [up_other z]; exact a2, ?_, a4⟩
      show up s.M a (.xfd f x) (P i) = none
      rw [up_other z]; exact a3
def tsA (G : Sig) (h : Exc → Addr → Option Addr → DS) : Addr → Value → Option Addr → TS := fun a cls d D σ H => ∃ e : Exc, (cls = .ref (G.Z e.cls) ∧ e.cls ∈ G.xs) ∧ LSw G (h e a d) D σ H
theorem ds_try_as {B x n : Str} {i : Nat} {sub : Str → Bool} {body suite : List Stmt} {b₀ : Stmt} {np pos pos' : Pos} {b : DS} {h : Exc → Addr → Option Addr → DS} (hs : X.stack = X.env :: X.outer) (hf : X.env.frame = some X.env.locals) (hN : X.N.Nodup) (hi : X.N[i]? = some n) (hln : X.env.kindOf n = some .local) (hc : Names X x (.ref (G.Z B))) (hK : X.K = G.K) (xm : XmOk G B sub)
    (hb : ∀ (pn : List (Addr × Obj)) (xe : Value → Shared → Prop), PassesOwn (model X.prog X.w) X.A X.env xe → PSs (X.tr pn xe) body (LS (X.tr pn xe) G b))
    (hsu : ∀ (a : Addr) (oe : Obj) (cls : Value) (d : Option Addr) (pn : List (Addr × Obj)) (e : Exc), Zc cls d oe → (∃ vs, oe.data = .fields vs) → cls = .ref (G.Z e.cls) → e.cls ∈ G.xs → PSs (X.suite a ((a, oe) :: pn)) (b₀ :: suite) (LS (X.suite a ((a, oe) :: pn)) G (h e a d))) :
    PS X (.Try body [.ExceptHandler (some (.Name x np)) (some n) (b₀ :: suite) pos'] [] [] pos) (LS X G (dTryAs i sub b h)) :=
  PS.mono (PS.some (p := fun W => Takes X W) (t := fun W => fun D σ H => LSW G (wAs X.K (.ref (G.Z B)) i (tsA G h) W D) b D σ H) fun W tk => L2.ps_try_as (tb := fun W' => LSW G W' b) hs hf hN hi hln hc tk (fun W' pn xe tk' po => pssW tk' (hb pn xe po))
    fun a oe cls d pn hz hd => PSs.some (p := fun e : Exc => cls = .ref (G.Z e.cls) ∧ e.cls ∈ G.xs) (t := fun e => LSw G (h e a d)) fun e he => PSs.w (hsu a oe cls d pn e hz hd he.1 he.2)) fun D σ H ⟨c, W, s, F, E', tk, hs, ht, hn, hr, hbk, hct, hx⟩ => by
  refine ⟨W, tk, c, s, F, _, hs, ht, hn, hr, hbk, hct, fun σ' e s' d F' H' q g hx' => ?_⟩
  rw [hK]
  obtain ⟨hd, hh⟩ := hx'.xin
  have hx2 := hx'
  obtain ⟨Mp, P, hh', xf, nf⟩ := hx2
  refine ⟨sub e.cls, xm e.cls xf.1, fun eb a na => ?_, fun eb => ?_⟩
  · have q' : (if sub e.cls = true then ∀ a d, s'.M a = none → XD s'.M e d → h e a d (E'.clr i) ({ s' with M := xM s'.M e d }.put i (.imm (.ref a))) else E'.x e s') := q
    rw [if_pos eb] at q'
    have nM : s'.M a = none := by
      cases z : s'.M a with
      | none => rfl
      | some y =>
        obtain ⟨_, _, o, ho, _⟩ := hh'.mem a y (hh'.sub a y z)
        rw [na] at ho; cases ho
    obtain ⟨Mp2, P2, hh⟩ := hh
    have hh2 := hh.putImm (i := i) (d := .ref a) (v := .ref a) rfl
    exact ⟨e, ⟨rfl, xf.1⟩, c, _, F', _, ⟨Mp2, P2, hh2⟩, q' a d nM hd, fun s1 F1 σ1 H1 q1 g1 h1 => hn _ F1 _ H1 q1 (g.trans g1) (h1.clr i), fun r s1 v F1 σ1 H1 q1 g1 h1 => hr r s1 v F1 σ1 H1 q1 (g.trans g1) h1, fun s1 F1 σ1 H1 q1 g1 h1 => hbk _ F1 _ H1 q1 (g.trans g1) (h1.clr i), fun s1 F1 σ1 H1 q1 g1 h1 => hct _ F1 _ H1 q1 (g.trans g1) (h1.clr i), fun _ _ z => z⟩
  · have q' : (if sub e.cls = true then ∀ a d, s'.M a = none → XD s'.M e d → h e a d (E'.clr i) ({ s' with M := xM s'.M e d }.put i (.imm (.ref a))) else E'.x e s') := q
    rw [if_neg (by rw [eb]; exact Bool.false_ne_true)] at q'
    exact hx σ' e s' d F' H' q' g hx'
/-! ### e.f of the caught one -/
def XfOk (G : Sig) (f : Str) : Prop := ∀ C ∈ G.xs, XfC G.K (G.Z C) ∧ PySem.W.findIn G.K (.ref (G.Z C)) f = some none
def dXf (a : Addr) (d : Option Addr) (f : Str) (t : DE) : DE := fun s Q X => t s (fun r s1 => match r with
  | .imm (.ref b) => b = a ∧ optP d fun dd => match s1.M dd with
    | some (.xfd f' x) => f' = f ∧ Q (.imm x) s1
    | _ => False
  | _ => False) X
theorem dl_xf {a : Addr} {oe : Obj} {cls : Value} {d : Option Addr} {pn : List (Addr × Obj)} {e : Exc} {ex : Expr} {t : DE} {f : Str} (hK : X.K = G.K) (ok : XfOk G f) (hz : Zc cls d oe) (hf : ∃ vs, oe.data = .fields vs) (hcls : cls = .ref (G.Z e.cls)) (hC : e.cls ∈ G.xs) (he : PE (X.suite a ((a, oe) :: pn)) ex (LE (X.suite a ((a, oe) :: pn)) G t)) (hb : attributeBase ex f X.env (eval ex X.env) = eval ex X.env := by rfl) :
    PE (X.suite a ((a, oe) :: pn)) (.Attribute ex f pos) (LE (X.suite a ((a, oe) :: pn)) G (dXf a d f t)) := by
  obtain ⟨T, hno⟩ := ok e.cls hC
  refine PE.mono (pe_xf (C := G.Z e.cls) (by rw [hK]; exact T) (by rw [hK]; exact hno) hz hf he hb) fun σ H Q ⟨c, W, s, F, Q', X', tk, hs, ht, hq, hx⟩ => ?_
  refine ⟨c, W, s, F, _, X', tk, hs, ht, fun r s1 v F1 H1 q1 g1 h1 => ?_, hx⟩
  split at q1
  · obtain ⟨rfl, q1⟩ := q1
    obtain ⟨dd, rfl, q2⟩ := optP_some q1
    obtain ⟨Mp, P, h1, o⟩ := h1
    cases (show v = .ref _ from o)
    split at q2
    · rename_i f' x em
      obtain ⟨rfl, q3⟩ := q2
      obtain ⟨_, _, ob, ho, w, rfl, rw'⟩ := h1.mem dd _ (h1.sub dd _ em)
      exact ⟨rfl, hcls, dd, _, w, rfl, ho, by simp, hq _ s1 _ F1 H1 q3 g1 ⟨Mp, P, h1, rw'⟩⟩
    · exact q2.elim
  · exact q1.elim
end
end DL

set_option Elab.async false
set_option linter.all false
set_option maxRecDepth 100000
set_option maxHeartbeats 4000000
namespace DL
open PySem PySem.Spec PyProof.Rows L2 PL
section
variable {P : Program} {w : World} {K : PySem.W.Frag} {mg : Str → Option Value} {base : Heap} {N ps : List Str} {k : Nat} {sp : DSp} {x qual m : Str} {st : Stmt} {C : Addr} {G : Sig} {b : DS}
/-- the body of a refusal's __init__ -/
def tXi (K : PySem.W.Frag) (f : Str) (msg : Str) : TS := tSeq (tDrop (tVeI K (tCons (tVar 0) (tCons (tC (.str msg)) tNil)))) (tOst K f (tVar 0) (tVar 1))
/-- what the text says of a refusal's class with an __init__ -/
structure XIniF (K : PySem.W.Frag) (C : Addr) (qual : Str) (st : Stmt) (f : Str) : Prop where
  T : OexC K C
  no : PySem.W.findIn K (.ref C) f = some none
  ex : ∃ fI fd, Fun K "__init__" qual st fI fd ∧ Binds K fd ["self", f] [] ∧ PySem.W.findIn K (.ref C) "__init__" = some (some (.ref fI)) ∧ PySem.W.typeIn K (.ref fI) = some (.type "function")
theorem xat_of {f msg : Str} (F : XIniF K C qual st f) (g : mg x = some (.ref C)) (S : FnScope ["self", f] ["self", f] (defScope st))
    (wk : ∀ (fa : Addr) (cdv : Value) (A : Around) (outer : List Env) (s : Shared) (H : Hp) (E : XK), PSs (cxOf (L2.CX P w) P w K mg base ["self", f] qual (defScope st) fa cdv A outer s H E) (defBody st) (tXi K f msg)) : XAt P w K mg base 1 x C f := by
  obtain ⟨fI, fd, F1, hb, hi, ht⟩ := F.ex
  refine ⟨F.T, F.no, g, fI, fd, _, hi, ht, F1.okX (k := 0) S (fun vs H Q E h => ?_) (fun cdv A outer s H vs Q E hr h => ⟨_, wk fI cdv A outer s H E, ?_⟩), hb⟩
  · obtain ⟨a, C', v, rfl, _⟩ := h
    rfl
  · obtain ⟨a, C', v, rfl, T, no, ha, q⟩ := h
    exact ⟨.ref a, rfl, a, C', [.str msg], rfl, by simp, T, ha, v, rfl, .ref a, rfl, a, C', rfl, T, no, .inl ⟨ha, q⟩⟩
/-- nothing is asked -/
theorem cal_no (F : DefF K mg x st ps) (S : FnScope N ps (defScope st)) (z : ∀ ds M Q X, ¬ sp ds M Q X) : Cal P w K mg base (k + 1) x (lsp G sp) :=
  F.cal S (fun vs H Q E h => by obtain ⟨ds, M, F, Q', X', fz, hM, rs, hsp, _⟩ := h; exact (z _ _ _ _ hsp).elim) fun f cdv A outer s H vs Q E hr h => by obtain ⟨ds, M, F, Q', X', fz, hM, rs, hsp, _⟩ := h; exact (z _ _ _ _ hsp).elim
theorem met_no (F : MetF K C m qual st ps) (c : Cls K C) (S : FnScope N ps (defScope st)) (z : ∀ ds M Q X, ¬ sp ds M Q X) : Met P w K mg base (k + 1) C m (lsp G sp) :=
  F.met c S (fun vs H Q E h => by obtain ⟨ds, M, F, Q', X', fz, hM, rs, hsp, _⟩ := h; exact (z _ _ _ _ hsp).elim) fun f cdv A outer s H vs Q E hr h => by obtain ⟨ds, M, F, Q', X', fz, hM, rs, hsp, _⟩ := h; exact (z _ _ _ _ hsp).elim
end
end DL

set_option Elab.async false
set_option linter.all false
set_option maxRecDepth 100000
set_option maxHeartbeats 4000000
namespace DL
open PySem PySem.Spec PyProof.Rows L2 PL
/-! ### reading bodies -/
theorem ite_and' {α : Sort _} {p q : Prop} [Decidable p] [Decidable q] {a b : α} : (if p then if q then a else b else b) = if p ∧ q then a else b := by by_cases hp : p <;> by_cases hq : q <;> simp [hp, hq]
theorem optP_s {α : Type} {a : α} {k : α → Prop} : optP (some a) k = k a := rfl
theorem optP_n {α : Type} {k : α → Prop} : optP none k = False := rfl
theorem neg_dec (p : Prop) [Decidable p] : (!decide p) = decide (¬ p) := by by_cases h : p <;> simp [h]
theorem ends_nx {Q : AV → DM → Prop} {X : Exc → DM → Prop} {s : DSt} (h : Q (.imm .non) s.M) : (ends Q X).nx s := outM_self h
theorem ends_x {Q : AV → DM → Prop} {X : Exc → DM → Prop} {s : DSt} {e : Exc} (h : X e s.M) : (ends Q X).x e s := outM_self h
theorem ends_ri {Q : AV → DM → Prop} {X : Exc → DM → Prop} {s : DSt} {d : D} (h : Q (.imm d) s.M) : (ends Q X).rt (.imm d) s := outM_self h
theorem ends_rn {Q : AV → DM → Prop} {X : Exc → DM → Prop} {s : DSt} {d : D} (h : Q (.new d) s.M) : (ends Q X).rt (.new d) s := outM_self h
section
variable {M : DM} {d : D} {s : DSt} {i : Nat} {k : D → DSt → Prop} {xs ys : List D} {x y : Str} {a b : Int} {p : AV → Prop}
theorem frz_imm : RV.frz (.imm d) = .imm d := rfl
theorem frz_new : RV.frz (.new d) = .imm d := rfl
theorem frz_slot : RV.frz (.slot i) = .slot i := rfl
theorem rv_imm : AV.rv (.imm d) = .imm d := rfl
theorem rv_new : AV.rv (.new d) = .new d := rfl
theorem view_imm : view s (.imm d) = viewD s.M d := rfl
theorem view_new : view s (.new d) = some d := rfl
theorem view_slot : view s (.slot i) = match s.sl[i]? with
    | some (some (.own d)) => viewC d
    | some (some (.imm d)) => viewD s.M d
    | _ => none := rfl
theorem st_imm : sto1 s (.imm d) k = k d s := rfl
theorem st_new : sto1 s (.new d) k = k d s := rfl
theorem st_slot : sto1 s (.slot i) k = match s.sl[i]? with
    | some (some (.own d)) => k d { s with sl := s.sl.set i (some (.imm d)) }
    | some (some (.imm d)) => k d s
    | _ => False := rfl
theorem pLen_t : pLen [.tup xs] p = p (.imm (.int xs.length)) := rfl
theorem pLen_l : pLen [.lst xs] p = p (.imm (.int xs.length)) := rfl
theorem pEq_s : pEqG false [.str x, .str y] p = p (.imm (.bl (decide (x = y)))) := by simp [pEqG]
theorem pEq_i : pEqG false [.int a, .int b] p = p (.imm (.bl (decide (a = b)))) := by simp [pEqG]
theorem pNe_s : pEqG true [.str x, .str y] p = p (.imm (.bl (decide (x ≠ y)))) := by simp [pEqG]
theorem pNe_i : pEqG true [.int a, .int b] p = p (.imm (.bl (decide (a ≠ b)))) := by simp [pEqG]
theorem pLt_i : pLt [.int a, .int b] p = p (.imm (.bl (decide (a < b)))) := rfl
theorem pLe_i : pLe [.int a, .int b] p = p (.imm (.bl (decide (a ≤ b)))) := rfl
theorem pGt_i : pGt [.int a, .int b] p = p (.imm (.bl (decide (b < a)))) := rfl
theorem pGe_i : pGe [.int a, .int b] p = p (.imm (.bl (decide (b ≤ a)))) := rfl
theorem pAdd_i : pAdd [.int a, .int b] p = p (.imm (.int (a + b))) := rfl
theorem pAdd_l : pAdd [.lst xs, .lst ys] p = (xs.length + ys.length ≤ sizeLine ∧ p (.new (.lst (xs ++ ys)))) := rfl
theorem pAdd_t : pAdd [.tup xs, .tup ys] p = (xs.length + ys.length ≤ sizeLine ∧ p (.imm (.tup (xs ++ ys)))) := rfl
theorem pIx_l : pIx [.lst xs, .int a] p = optP (atI xs a) fun d => p (.imm d) := rfl
theorem pIx_t : pIx [.tup xs, .int a] p = optP (atI xs a) fun d => p (.imm d) := rfl
end
section
variable {M : DM}
theorem vd_non : viewD M .non = some .non := rfl
theorem vd_bl {b : Bool} : viewD M (.bl b) = some (.bl b) := rfl
theorem vd_int {b : Int} : viewD M (.int b) = some (.int b) := rfl
theorem vd_str {b : Str} : viewD M (.str b) = some (.str b) := rfl
theorem vd_ty {b : String} : viewD M (.ty b) = some (.ty b) := rfl
theorem vd_cls {b : Str} : viewD M (.cls b) = some (.cls b) := rfl
theorem vd_tup {b : List D} : viewD M (.tup b) = some (.tup b) := rfl
theorem vd_lst {b : List D} : viewD M (.lst b) = some (.lst b) := rfl
theorem vd_dic {b c : List D} : viewD M (.dic b c) = some (.dic b c) := rfl
theorem vd_ins {C : Str} {b : List Str} {c : List D} : viewD M (.ins C b c) = some (.ins C b c) := rfl
theorem vd_ref {a : Addr} {d : D} (h : M a = some d) : viewD M (.ref a) = viewC d := by simp only [viewD, h]; rfl
theorem vc_ins {C : Str} {b : List Str} {c : List D} : viewC (.ins C b c) = some (.ins C b c) := rfl
theorem vc_lst {b : List D} : viewC (.lst b) = some (.lst b) := rfl
theorem vc_dic {b c : List D} : viewC (.dic b c) = some (.dic b c) := rfl
end
section
variable {α : Type} {a b c d : α} {xs : List α}
theorem at0 : atI (a :: xs) 0 = some a := atI_nat (j := 0) rfl
theorem at1 : atI (a :: b :: xs) 1 = some b := atI_nat (j := 1) rfl
theorem at2 : atI (a :: b :: c :: xs) 2 = some c := atI_nat (j := 2) rfl
theorem at3 : atI (a :: b :: c :: d :: xs) 3 = some d := atI_nat (j := 3) rfl
end
/-- a walk with an invariant -/
theorem for_ind {ok : DSt → Prop} {g : DG} {b : DS} {E : DEnds} (I : List D → DSt → Prop) (h0 : ∀ s, I [] s → ok s ∧ E.nx s)
    (h1 : ∀ x xs s, (∀ s', I xs s' → forL ok g b E xs s') → I (x :: xs) s → ok s ∧ g (.imm x) s (fun s2 => b { E with nx := fun s3 => forL ok g b E xs s3, ct := fun s3 => forL ok g b E xs s3, bk := E.nx } s2) E.x) : ∀ {xs : List D} {s : DSt}, I xs s → forL ok g b E xs s
  | [], s, h => h0 s h
  | x :: xs, s, h => h1 x xs s (fun s' h' => for_ind I h0 h1 h') h
theorem comp_ind {ok : DSt → Prop} {g : DG} {tt : DT} {te : DE} {vs : List Nat} {Q : PQ} (I : List D → List D → DSt → Prop) (h0 : ∀ acc s, I [] acc s → ok s ∧ Q (.new (.lst acc)) s)
    (h1 : ∀ x xs acc s, (∀ acc' s', I xs acc' s' → compL ok g tt te vs Q xs acc' s') → I (x :: xs) acc s → ok s ∧ g (.imm x) s (fun s2 => tt s2 (fun b s3 => if b = true then te s3 (fun r s4 => sto1 s4 r.frz fun y s5 => acc.length < sizeLine ∧ compL ok g tt te vs Q xs (acc ++ [y]) (s5.wipe vs)) PXF else compL ok g tt te vs Q xs acc (s3.wipe vs)) PXF) PXF) :
    ∀ {xs acc : List D} {s : DSt}, I xs acc s → compL ok g tt te vs Q xs acc s
  | [], acc, s, h => h0 acc s h
  | x :: xs, acc, s, h => h1 x xs acc s (fun acc' s' h' => comp_ind I h0 h1 h') h
/-- data that isinstance tells of -/
def plainD : D → Bool
  | .ty _ => false
  | .ref _ => false
  | .cls _ => false
  | .dic _ _ => false
  | .ins _ _ _ => false
  | .xfd _ _ => false
  | _ => true
def isNm : D → Bool
  | .str _ => true
  | _ => false
def isIb : D → Bool
  | .int _ => true
  | .bl _ => true
  | _ => false
def isBl : D → Bool
  | .bl _ => true
  | _ => false
def isTp : D → Bool
  | .tup _ => true
  | _ => false
def isLs : D → Bool
  | .lst _ => true
  | _ => false
variable {sub : Str → Str → Bool} {d : D}
theorem is_str (h : plainD d = true) : isOne sub d (.ty "str") = some (isNm d) := by cases d <;> first | (simp [plainD] at h; done) | (simp [isOne, tys, tyOf, kb, isNm]; decide +kernel)
theorem is_int (h : plainD d = true) : isOne sub d (.ty "int") = some (isIb d) := by cases d <;> first | (simp [plainD] at h; done) | (simp [isOne, tys, tyOf, kb, isIb]; decide +kernel)
theorem is_bool (h : plainD d = true) : isOne sub d (.ty "bool") = some (isBl d) := by cases d <;> first | (simp [plainD] at h; done) | (simp [isOne, tys, tyOf, kb, isBl]; decide +kernel)
theorem is_tuple (h : plainD d = true) : isOne sub d (.ty "tuple") = some (isTp d) := by cases d <;> first | (simp [plainD] at h; done) | (simp [isOne, tys, tyOf, kb, isTp]; decide +kernel)
theorem is_list (h : plainD d = true) : isOne sub d (.ty "list") = some (isLs d) := by cases d <;> first | (simp [plainD] at h; done) | (simp [isOne, tys, tyOf, kb, isLs]; decide +kernel)
theorem plain_view {M : DM} (h : plainD d = true) : viewD M d = some d := by cases d <;> first | (simp [plainD] at h; done) | rfl
section
variable {xs ys : List D} {x : Str} {i : Int} {b : Bool}
theorem iT_t : isOne sub (.tup xs) (.ty "tuple") = some true := is_tuple rfl
theorem iT_l : isOne sub (.lst xs) (.ty "tuple") = some false := is_tuple rfl
theorem iT_s : isOne sub (.str x) (.ty "tuple") = some false := is_tuple rfl
theorem iT_i : isOne sub (.int i) (.ty "tuple") = some false := is_tuple rfl
theorem iT_b : isOne sub (.bl b) (.ty "tuple") = some false := is_tuple rfl
theorem iT_n : isOne sub .non (.ty "tuple") = some false := is_tuple rfl
end
/-- a thing made: its fields -/
def mk1 (C : Str) (f : Str) : DSp := fun ds M Q X => match ds with
  | [.ref s, a] => M s = some (.ins C [] []) ∧ Q (.imm .non) (up M s (.ins C [f] [a]))
  | _ => False
def mk2 (C : Str) (f g : Str) : DSp := fun ds M Q X => match ds with
  | [.ref s, a, b] => M s = some (.ins C [] []) ∧ Q (.imm .non) (up M s (.ins C [f, g] [a, b]))
  | _ => False
def mk3 (C : Str) (f g h : Str) : DSp := fun ds M Q X => match ds with
  | [.ref s, a, b, c] => M s = some (.ins C [] []) ∧ Q (.imm .non) (up M s (.ins C [f, g, h] [a, b, c]))
  | _ => False
/-- the first one by tuple(..) of a tuple -/
def mk2t (C : Str) (f g : Str) : DSp := fun ds M Q X => match ds with
  | [.ref s, .tup xs, b] => M s = some (.ins C [] []) ∧ Q (.imm .non) (up M s (.ins C [f, g] [.tup xs, b]))
  | _ => False
def mk3t (C : Str) (f g h : Str) : DSp := fun ds M Q X => match ds with
  | [.ref s, .tup xs, b, c] => M s = some (.ins C [] []) ∧ Q (.imm .non) (up M s (.ins C [f, g, h] [.tup xs, b, c]))
  | _ => False
section
variable {C f g h : Str}
theorem vi1 : Vc (dSetF f (dVar 0) (dVar 1)) 2 (mk1 C f) := by
  intro ds M Q X q
  unfold mk1 at q
  split at q
  · obtain ⟨e, q⟩ := q
    simp [dSetF, dVar, st0, RV.frz, sto1, e, optP, putD]
    exact ends_nx q
  · exact q.elim
theorem vi2 (n1 : f ≠ g) : Vc (dSeq (dSetF f (dVar 0) (dVar 1)) (dSetF g (dVar 0) (dVar 2))) 3 (mk2 C f g) := by
  intro ds M Q X q
  unfold mk2 at q
  split at q
  · obtain ⟨e, q⟩ := q
    simp [dSeq, dSetF, dVar, st0, RV.frz, sto1, e, optP, putD, up_same, up_up, n1]
    exact ends_nx q
  · exact q.elim
theorem vi3 (n1 : f ≠ g) (n2 : f ≠ h) (n3 : g ≠ h) : Vc (dSeq (dSetF f (dVar 0) (dVar 1)) (dSeq (dSetF g (dVar 0) (dVar 2)) (dSetF h (dVar 0) (dVar 3)))) 4 (mk3 C f g h) := by
  intro ds M Q X q
  unfold mk3 at q
  split at q
  · obtain ⟨e, q⟩ := q
    simp [dSeq, dSetF, dVar, st0, RV.frz, sto1, e, optP, putD, up_same, up_up, n1, n2, n3]
    exact ends_nx q
  · exact q.elim
theorem vi2t (n1 : f ≠ g) : Vc (dSeq (dSetF f (dVar 0) (dPrim pTuple (dCons (dVar 1) dNil))) (dSetF g (dVar 0) (dVar 2))) 3 (mk2t C f g) := by
  intro ds M Q X q
  unfold mk2t at q
  split at q
  · obtain ⟨e, q⟩ := q
    simp [dSeq, dSetF, dVar, st0, RV.frz, sto1, e, optP, putD, up_same, up_up, n1, dPrim, dCons, dNil, vw, view, viewD, pTuple, AV.rv]
    exact ends_nx q
  · exact q.elim
theorem vi3t (n1 : f ≠ g) (n2 : f ≠ h) (n3 : g ≠ h) : Vc (dSeq (dSetF f (dVar 0) (dPrim pTuple (dCons (dVar 1) dNil))) (dSeq (dSetF g (dVar 0) (dVar 2)) (dSetF h (dVar 0) (dVar 3)))) 4 (mk3t C f g h) := by
  intro ds M Q X q
  unfold mk3t at q
  split at q
  · obtain ⟨e, q⟩ := q
    simp [dSeq, dSetF, dVar, st0, RV.frz, sto1, e, optP, putD, up_same, up_up, n1, n2, n3, dPrim, dCons, dNil, vw, view, viewD, pTuple, AV.rv]
    exact ends_nx q
  · exact q.elim
end
/-- a method's call, its object known -/
def methK (m : Str) (sp : DSp) (cs : List Str) (t : DA) (r : RV) (s1 : DSt) (Q : PQ) (X : PX) : Prop := sto1 s1 r.frz fun d s2 => optP (viewD s2.M d) fun e => match e with
  | .ins C ns _ => C ∈ cs ∧ m ∉ ns ∧ t s2 (fun rs s3 => sto s3 rs fun ds s4 => onC C sp (d :: ds) s4.M (fun r M' => Q r.rv { s4 with M := M' }) (fun e M' => X e { s4 with M := M' })) X
  | _ => False
theorem dMeth_eq {m : Str} {sp : DSp} {cs : List Str} {o : DE} {t : DA} {s : DSt} {Q : PQ} {X : PX} : dMeth m sp cs o t s Q X = o s (fun r s1 => methK m sp cs t r s1 Q X) X := rfl
/-- a class made, its arguments known -/
def makeK (C : Str) (sp : DSp) (ds : List D) (s2 : DSt) (Q : PQ) (X : PX) : Prop := ∀ a, s2.M a = none → sp (.ref a :: ds) (up s2.M a (.ins C [] [])) (fun r M' => match r with
  | .imm .non => optP (M' a) fun d => Q (.new d) { s2 with M := del M' a }
  | _ => False) (fun e M' => X e { s2 with M := del M' a })
theorem dMake_eq {C : Str} {sp : DSp} {t : DA} {s : DSt} {Q : PQ} {X : PX} : dMake C sp t s Q X = t s (fun rs s1 => sto s1 rs fun ds s2 => makeK C sp ds s2 Q X) X := rfl
section
variable {C f g h : Str} {a b c : D} {xs : List D} {s : DSt} {Q : PQ} {X : PX}
theorem made {d d0 : D} (q : Q (.new d) s) {p : Addr} (n : s.M p = none) : optP (up (up s.M p d0) p d p) fun y => Q (.new y) { s with M := del (up (up s.M p d0) p d) p } := by
  rw [up_same, up_up, del_up n]
  exact q
theorem mak1 (q : Q (.new (.ins C [f] [a])) s) : makeK C (mk1 C f) [a] s Q X := fun p n => ⟨up_same, made q n⟩
theorem mak2 (q : Q (.new (.ins C [f, g] [a, b])) s) : makeK C (mk2 C f g) [a, b] s Q X := fun p n => ⟨up_same, made q n⟩
theorem mak3 (q : Q (.new (.ins C [f, g, h] [a, b, c])) s) : makeK C (mk3 C f g h) [a, b, c] s Q X := fun p n => ⟨up_same, made q n⟩
theorem mak2t (q : Q (.new (.ins C [f, g] [.tup xs, b])) s) : makeK C (mk2t C f g) [.tup xs, b] s Q X := fun p n => ⟨up_same, made q n⟩
theorem mak3t (q : Q (.new (.ins C [f, g, h] [.tup xs, b, c])) s) : makeK C (mk3t C f g h) [.tup xs, b, c] s Q X := fun p n => ⟨up_same, made q n⟩
end
theorem sz (n : Nat) (h : n ≤ 100000) : n ≤ sizeLine := by rw [sizeLine_eq]; omega
theorem sto1_imm {s : DSt} {d : D} {k : D → DSt → Prop} : sto1 s (.imm d) k = k d s := rfl
end DL

set_option Elab.async false
set_option linter.all false
set_option maxRecDepth 100000
set_option maxHeartbeats 4000000
/-! FL: the data layer as functions. A def is a function from data to a tree of answers. -/
namespace DL
open PySem PySem.Spec PyProof.Rows L2 PL
/-- a mark: what it names is not looked into -/
inductive Tg {α : Type} (a : α) : Type where
  | mk
inductive Tr (σ α : Type) where
  | ret (a : α) (s : σ) | exc (e : Exc) (s : σ) | bad | alloc (M : DM) (k : Addr → Tr σ α)
namespace Tr
variable {σ τ α β γ : Type}
def wp : Tr σ α → (α → σ → Prop) → (Exc → σ → Prop) → Prop
  | .ret a s, Q, _ => Q a s
  | .exc e s, _, X => X e s
  | .bad, _, _ => False
  | .alloc M k, Q, X => ∀ a, M a = none → (k a).wp Q X
def bind : Tr σ α → (f : α → σ → Tr σ β) → (_ : Tg f := .mk) → Tr σ β
  | .ret a s, f, _ => f a s
  | .exc e s, _, _ => .exc e s
  | .bad, _, _ => .bad
  | .alloc M k, f, _ => .alloc M fun a => (k a).bind f
/-- another kind of state -/
def lift (g : σ → τ) (f : α → β) : Tr σ α → Tr τ β
  | .ret a s => .ret (f a) (g s)
  | .exc e s => .exc e (g s)
  | .bad => .bad
  | .alloc M k => .alloc M fun a => (k a).lift g f
/-- what is raised is handed on -/
def hand : Tr σ α → (h : Exc → σ → Tr σ α) → (_ : Tg h := .mk) → Tr σ α
  | .ret a s, _, _ => .ret a s
  | .exc e s, h, _ => h e s
  | .bad, _, _ => .bad
  | .alloc M k, h, _ => .alloc M fun a => (k a).hand h
/-- nothing may be raised -/
def noX : Tr σ α → Tr σ α
  | .ret a s => .ret a s
  | .exc _ _ => .bad
  | .bad => .bad
  | .alloc M k => .alloc M fun a => (k a).noX
/-- both ends -/
def both : Tr σ α → (f : α → σ → Tr τ β) → (h : Exc → σ → Tr τ β) → (_ : Tg (f, h) := .mk) → Tr τ β
  | .ret a s, f, _, _ => f a s
  | .exc e s, _, h, _ => h e s
  | .bad, _, _, _ => .bad
  | .alloc M k, f, h, _ => .alloc M fun a => (k a).both f h
theorem wp_mono : ∀ {t : Tr σ α} {Q Q' : α → σ → Prop} {X X' : Exc → σ → Prop}, t.wp Q X → (∀ a s, Q a s → Q' a s) → (∀ e s, X e s → X' e s) → t.wp Q' X'
  | .ret _ _, _, _, _, _, h, q, _ => q _ _ h
  | .exc _ _, _, _, _, _, h, _, x => x _ _ h
  | .bad, _, _, _, _, h, _, _ => h
  | .alloc _ k, _, _, _, _, h, q, x => fun a n => wp_mono (t := k a) (h a n) q x
theorem wp_bind {f : α → σ → Tr σ β} {Q : β → σ → Prop} {X : Exc → σ → Prop} : ∀ {t : Tr σ α}, (t.bind f).wp Q X ↔ t.wp (fun a s => (f a s).wp Q X) X
  | .ret _ _ => Iff.rfl
  | .exc _ _ => Iff.rfl
  | .bad => Iff.rfl
  | .alloc _ k => forall_congr' fun a => imp_congr_right fun _ => wp_bind (t := k a)
theorem wp_lift {g : σ → τ} {f : α → β} {Q : β → τ → Prop} {X : Exc → τ → Prop} : ∀ {t : Tr σ α}, (t.lift g f).wp Q X ↔ t.wp (fun a s => Q (f a) (g s)) (fun e s => X e (g s))
  | .ret _ _ => Iff.rfl
  | .exc _ _ => Iff.rfl
  | .bad => Iff.rfl
  | .alloc _ k => forall_congr' fun a => imp_congr_right fun _ => wp_lift (t := k a)
theorem wp_hand {h : Exc → σ → Tr σ α} {Q : α → σ → Prop} {X : Exc → σ → Prop} : ∀ {t : Tr σ α}, (t.hand h).wp Q X ↔ t.wp Q (fun e s => (h e s).wp Q X)
  | .ret _ _ => Iff.rfl
  | .exc _ _ => Iff.rfl
  | .bad => Iff.rfl
  | .alloc _ k => forall_congr' fun a => imp_congr_right fun _ => wp_hand (t := k a)
theorem wp_both {f : α → σ → Tr τ β} {h : Exc → σ → Tr τ β} {Q : β → τ → Prop} {X : Exc → τ → Prop} : ∀ {t : Tr σ α}, (t.both f h).wp Q X ↔ t.wp (fun a s => (f a s).wp Q X) (fun e s => (h e s).wp Q X)
  | .ret _ _ => Iff.rfl
  | .exc _ _ => Iff.rfl
  | .bad => Iff.rfl
  | .alloc _ k => forall_congr' fun a => imp_congr_right fun _ => wp_both (t := k a)
theorem wp_noX {Q : α → σ → Prop} {X : Exc → σ → Prop} : ∀ {t : Tr σ α}, t.noX.wp Q X ↔ t.wp Q (fun _ _ => False)
  | .ret _ _ => Iff.rfl
  | .exc _ _ => Iff.rfl
  | .bad => Iff.rfl
  | .alloc _ k => forall_congr' fun a => imp_congr_right fun _ => wp_noX (t := k a)
open Classical in
/-- a new place; where it does not matter which, it is not told -/
noncomputable def al (M : DM) (k : Addr → Tr σ α) : Tr σ α := if h : ∃ t, ∀ a, k a = t then h.choose else .alloc M k
theorem al_wp {M : DM} {k : Addr → Tr σ α} {Q : α → σ → Prop} {X : Exc → σ → Prop} (h : (al M k).wp Q X) : ∀ a, M a = none → (k a).wp Q X := by
  intro a n
  unfold al at h
  split at h
  · rename_i e; rw [e.choose_spec a]; exact h
  · exact h a n
theorem al_const {M : DM} {t : Tr σ α} : al M (fun _ => t) = t := by
  have e : ∃ u : Tr σ α, ∀ _ : Addr, t = u := ⟨t, fun _ => rfl⟩
  unfold al
  rw [dif_pos e]
  exact (e.choose_spec 0).symm
def opt {α : Type} (o : Option α) (k : α → Tr σ β) (_ : Tg k := .mk) : Tr σ β := match o with
  | some a => k a
  | none => .bad
theorem wp_opt {o : Option α} {k : α → Tr σ β} {Q : β → σ → Prop} {X : Exc → σ → Prop} : (opt o k).wp Q X ↔ ∃ a, o = some a ∧ (k a).wp Q X := by
  cases o <;> simp [opt, wp]
def chk (c : Bool) (t : Tr σ α) (_ : Tg t := .mk) : Tr σ α := match c with
  | true => t
  | false => .bad
theorem wp_chk {c : Bool} {t : Tr σ α} {Q : α → σ → Prop} {X : Exc → σ → Prop} : (chk c t).wp Q X ↔ c = true ∧ t.wp Q X := by
  cases c <;> simp [chk, wp]
theorem bind_ret {a : α} {s : σ} {f : α → σ → Tr σ β} : (Tr.ret a s).bind f = f a s := rfl
theorem bind_exc {e : Exc} {s : σ} {f : α → σ → Tr σ β} : (Tr.exc e s).bind f = .exc e s := rfl
theorem bind_bad {f : α → σ → Tr σ β} : (Tr.bad : Tr σ α).bind f = .bad := rfl
theorem bind_alloc {M : DM} {k : Addr → Tr σ α} {f : α → σ → Tr σ β} : (Tr.alloc M k).bind f = .alloc M fun a => (k a).bind f := rfl
theorem lift_ret {g : σ → τ} {f : α → β} {a : α} {s : σ} : (Tr.ret a s).lift g f = .ret (f a) (g s) := rfl
theorem lift_exc {g : σ → τ} {f : α → β} {e : Exc} {s : σ} : (Tr.exc e s : Tr σ α).lift g f = .exc e (g s) := rfl
theorem lift_bad {g : σ → τ} {f : α → β} : (Tr.bad : Tr σ α).lift g f = .bad := rfl
theorem lift_alloc {g : σ → τ} {f : α → β} {M : DM} {k : Addr → Tr σ α} : (Tr.alloc M k).lift g f = .alloc M fun a => (k a).lift g f := rfl
theorem hand_ret {a : α} {s : σ} {h : Exc → σ → Tr σ α} : (Tr.ret a s).hand h = .ret a s := rfl
theorem hand_exc {e : Exc} {s : σ} {h : Exc → σ → Tr σ α} : (Tr.exc e s).hand h = h e s := rfl
theorem both_ret {a : α} {s : σ} {f : α → σ → Tr τ β} {h : Exc → σ → Tr τ β} : (Tr.ret a s).both f h = f a s := rfl
theorem both_exc {e : Exc} {s : σ} {f : α → σ → Tr τ β} {h : Exc → σ → Tr τ β} : (Tr.exc e s).both f h = h e s := rfl
theorem both_alloc {M : DM} {k : Addr → Tr σ α} {f : α → σ → Tr τ β} {h : Exc → σ → Tr τ β} : (Tr.alloc M k).both f h = .alloc M fun a => (k a).both f h := rfl
theorem noX_ret {a : α} {s : σ} : (Tr.ret a s).noX = .ret a s := rfl
theorem noX_exc {e : Exc} {s : σ} : (Tr.exc e s : Tr σ α).noX = .bad := rfl
theorem opt_some {a : α} {k : α → Tr σ β} : opt (some a) k = k a := rfl
theorem opt_none {k : α → Tr σ β} : opt none k = (.bad : Tr σ β) := rfl
theorem chk_true {t : Tr σ α} : chk true t = t := rfl
theorem bind_chk {c : Bool} {t : Tr σ α} {f : α → σ → Tr σ β} : (chk c t).bind f = chk c (t.bind f) := by cases c <;> rfl
end Tr
open Tr
abbrev FE := DSt → Tr DSt RV
abbrev FA := DSt → Tr DSt (List RV)
abbrev FT := DSt → Tr DSt Bool
abbrev FO := DSt → Tr DSt (Option Int)
abbrev FG := RV → DSt → Tr DSt Unit
abbrev FGs := List D → DSt → Tr DSt Unit
structure FIt where
  xs : List D
  ok : DSt → Bool
abbrev FI := DSt → Tr DSt FIt
inductive Out where
  | nx | rt (r : RV) | bk | ct
abbrev FS := DSt → Tr DSt Out
def Out.to (E : DEnds) : Out → DSt → Prop
  | .nx, s => E.nx s
  | .rt r, s => E.rt r s
  | .bk, s => E.bk s
  | .ct, s => E.ct s
def wE (f : FE) : DE := fun s Q X => (f s).wp Q X
def wA (f : FA) : DA := fun s Q X => (f s).wp Q X
def wT (f : FT) : DT := fun s Q X => (f s).wp Q X
def wO (f : FO) : DO := fun s Q X => (f s).wp Q X
def wG (f : FG) : DG := fun r s Q X => (f r s).wp (fun _ s' => Q s') X
def wGs (f : FGs) : DGs := fun r s Q X => (f r s).wp (fun _ s' => Q s') X
def wI (f : FI) : DI := fun s Q X => (f s).wp (fun j s' => Q ⟨j.xs, fun s => j.ok s = true⟩ s') X
abbrev PF := List D → Option AV
def pn (p : PF) : PN := fun ds k => ∃ a, p ds = some a ∧ k a
def wS (f : FS) : DS := fun E s => (f s).wp (Out.to E) E.x
def LeE (u t : DE) : Prop := ∀ s Q X, u s Q X → t s Q X
def LeA (u t : DA) : Prop := ∀ s Q X, u s Q X → t s Q X
def LeT (u t : DT) : Prop := ∀ s Q X, u s Q X → t s Q X
def LeO (u t : DO) : Prop := ∀ s Q X, u s Q X → t s Q X
def LeI (u t : DI) : Prop := ∀ s Q X, u s Q X → t s Q X
def LeG (u t : DG) : Prop := ∀ r s Q X, u r s Q X → t r s Q X
def LeGs (u t : DGs) : Prop := ∀ r s Q X, u r s Q X → t r s Q X
def LeS (u t : DS) : Prop := ∀ E s, u E s → t E s
section
variable {X : Cx} {G : Sig} {c : Fm} {W : WX} {s : DSt} {F F' H H' : Hp} {σ : L2.St} {pos : Pos}
theorem eE {e : Expr} {t u : DE} (m : LeE u t) (h : PE X e (LE X G t)) : PE X e (LE X G u) := PE.mono h fun σ H Q ⟨c, W, s, F, Q', X', tk, hs, ht, hq, hx⟩ => ⟨c, W, s, F, Q', X', tk, hs, m _ _ _ ht, hq, hx⟩
theorem eA {e : List Expr} {t u : DA} (m : LeA u t) (h : PA X e (LA X G t)) : PA X e (LA X G u) := PA.mono h fun σ H Q ⟨c, W, s, F, Q', X', tk, hs, ht, hq, hx⟩ => ⟨c, W, s, F, Q', X', tk, hs, m _ _ _ ht, hq, hx⟩
theorem eT {e : Expr} {t u : DT} (m : LeT u t) (h : PT X e (LT X G t)) : PT X e (LT X G u) := PT.mono h fun σ H Q ⟨c, W, s, F, Q', X', tk, hs, ht, hq, hx⟩ => ⟨c, W, s, F, Q', X', tk, hs, m _ _ _ ht, hq, hx⟩
theorem eW {e : Expr} {t u : DT} (m : LeT u t) (h : PW X e (LT X G t)) : PW X e (LT X G u) := PW.mono h fun σ H Q ⟨c, W, s, F, Q', X', tk, hs, ht, hq, hx⟩ => ⟨c, W, s, F, Q', X', tk, hs, m _ _ _ ht, hq, hx⟩
theorem eO {e : Option Expr} {t u : DO} (m : LeO u t) (h : PO X e (LO X G t)) : PO X e (LO X G u) := PO.mono h fun σ H Q ⟨c, W, s, F, Q', X', tk, hs, ht, hq, hx⟩ => ⟨c, W, s, F, Q', X', tk, hs, m _ _ _ ht, hq, hx⟩
theorem eS {e : Stmt} {t u : DS} (m : LeS u t) (h : PS X e (LS X G t)) : PS X e (LS X G u) := PS.mono h fun D σ H ⟨c, W, s, F, E', tk, hs, ht, r⟩ => ⟨c, W, s, F, E', tk, hs, m _ _ ht, r⟩
theorem eSs {e : List Stmt} {t u : DS} (m : LeS u t) (h : PSs X e (LS X G t)) : PSs X e (LS X G u) := PSs.mono h fun D σ H ⟨c, W, s, F, E', tk, hs, ht, r⟩ => ⟨c, W, s, F, E', tk, hs, m _ _ ht, r⟩
theorem eI {tg e : Expr} {t u : DI} (m : LeI u t) (h : PI X tg e (LI X G t)) : PI X tg e (LI X G u) := PI.mono h fun σ H Q ⟨c, W, s, F, Q', X', tk, hs, ht, hq, hx⟩ => ⟨c, W, s, F, Q', X', tk, hs, m _ _ _ ht, hq, hx⟩
theorem eG {e : Expr} {t u : DG} (m : LeG u t) (h : PG X e (LG X G t)) : PG X e (LG X G u) := PG.mono h fun v σ H Q ⟨c, W, s, F, r, Q', X', tk, hs, ht, hq, hx⟩ => ⟨c, W, s, F, r, Q', X', tk, hs, m _ _ _ _ ht, hq, hx⟩
theorem eGs {e : List Expr} {t u : DGs} (m : LeGs u t) (h : PGs X e (LGs X G t)) : PGs X e (LGs X G u) := PGs.mono h fun v σ H Q ⟨c, W, s, F, r, Q', X', tk, hs, rr, ht, hq, hx⟩ => ⟨c, W, s, F, r, Q', X', tk, hs, rr, m _ _ _ _ ht, hq, hx⟩
theorem OkP.le {r : List V → Hp → VK → Prop} {f : PN} {p : PF} (ok : OkP G r f) (m : ∀ ds a, p ds = some a → ∀ k : AV → Prop, k a → f ds k) : OkP G r (pn p) := fun vs ds H F Q k t sm ⟨a, e, ka⟩ h => ok vs ds H F Q k t sm (m ds a e k ka) h
end
/-! ### operands -/
def fNil : FA := fun s => .ret [] s
def fCons (t : FE) (u : FA) : FA := fun s => (t s).bind fun r s1 => (u s1).bind fun rs s2 => .ret (r.frz :: rs) s2
theorem le_nil : LeA (wA fNil) dNil := fun _ _ _ h => h
theorem le_cons {t : FE} {u : FA} : LeA (wA (fCons t u)) (dCons (wE t) (wA u)) := fun s Q X h => by
  simp only [wA, fCons, wp_bind, wp] at h
  exact h
theorem wp_id {σ α : Type} {t : Tr σ α} {Q Q' : α → σ → Prop} {X : Exc → σ → Prop} (h : t.wp Q X) (q : ∀ a s, Q a s → Q' a s) : t.wp Q' X := wp_mono h q fun _ _ h => h
def vwF (s : DSt) : List RV → Option (List D)
  | [] => some []
  | r :: rs => (view s r).bind fun d => (vwF s rs).map fun ds => d :: ds
theorem vw_of {s : DSt} : ∀ {rs : List RV} {ds : List D} {k : List D → Prop}, vwF s rs = some ds → k ds → vw s rs k
  | [], _, k, e, h => by cases e; exact h
  | r :: rs, ds, k, e, h => by
    unfold vwF at e
    unfold vw
    cases hv : view s r with
    | none => rw [hv] at e; cases e
    | some d =>
      rw [hv] at e
      cases hw : vwF s rs with
      | none => rw [hw] at e; cases e
      | some es =>
        rw [hw] at e
        cases e
        exact vw_of (k := fun ds => k (d :: ds)) hw h
def fPrim (p : PF) (t : FA) : FE := fun s => (t s).bind fun rs s1 => opt (vwF s1 rs) fun ds => opt (p ds) fun a => .ret a.rv s1
theorem le_prim {p : PF} {t : FA} : LeE (wE (fPrim p t)) (dPrim (pn p) (wA t)) := fun s Q X h => by
  simp only [wE, fPrim, wp_bind, wp_opt, wp] at h
  refine wp_id h fun rs s1 h => ?_
  obtain ⟨ds, e, a, ea, q⟩ := h
  exact vw_of e ⟨a, ea, q⟩
theorem le_p2 {p : PF} {ta tb : FE} : LeE (wE (fPrim p (fCons ta (fCons tb fNil)))) (dPrim (pn p) (dCons (wE ta) (dCons (wE tb) dNil))) := fun s Q X h => by
  simp only [wE, fPrim, fCons, fNil, wp_bind, wp_opt, wp] at h
  refine wp_id h fun r1 s1 h => wp_id h fun r2 s2 h => ?_
  obtain ⟨ds, e, a, ea, q⟩ := h
  exact vw_of e ⟨a, ea, q⟩
theorem le_p1 {p : PF} {ta : FE} : LeE (wE (fPrim p (fCons ta fNil))) (dPrim (pn p) (dCons (wE ta) dNil)) := fun s Q X h => by
  simp only [wE, fPrim, fCons, fNil, wp_bind, wp_opt, wp] at h
  refine wp_id h fun r1 s1 h => ?_
  obtain ⟨ds, e, a, ea, q⟩ := h
  exact vw_of e ⟨a, ea, q⟩
/-! ### names, tests -/
def fVar (i : Nat) : FE := fun s => match s.sl[i]? with
  | some (some (.imm d)) => .ret (.imm d) s
  | some (some (.own _)) => .ret (.slot i) s
  | _ => .bad
theorem le_var {i : Nat} : LeE (wE (fVar i)) (dVar i) := fun s Q X h => by
  unfold wE fVar at h
  unfold dVar
  split at h <;> first | exact h | (simp_all [wp])
def fC (d : D) : FE := fun s => .ret (.imm d) s
theorem le_c {d : D} : LeE (wE (fC d)) (dC d) := fun _ _ _ h => h
def boolOf : RV → Option Bool
  | .imm (.bl b) => some b
  | _ => none
theorem boolOf_some {r : RV} {b : Bool} (h : boolOf r = some b) : r = .imm (.bl b) := by
  unfold boolOf at h
  split at h
  · cases h; rfl
  · cases h
def fB (t : FE) : FT := fun s => (t s).bind fun r s1 => opt (boolOf r) fun b => .ret b s1
theorem le_B {t : FE} : LeT (wT (fB t)) (dB (wE t)) := fun s Q X h => by
  simp only [wT, fB, wp_bind, wp_opt, wp] at h
  refine wp_id h fun r s1 ⟨b, e, q⟩ => ?_
  cases boolOf_some e
  exact q
theorem le_B2 {p : PF} {ta tb : FE} : LeT (wT (fB (fPrim p (fCons ta (fCons tb fNil))))) (dB (dPrim (pn p) (dCons (wE ta) (dCons (wE tb) dNil)))) := fun s Q X h => by
  refine le_p2 s _ X ?_
  simp only [wT, fB, wp_bind, wp_opt, wp] at h
  refine wp_id h fun r s1 ⟨b, e, q⟩ => ?_
  cases boolOf_some e
  exact q
def cnd {α : Type} (b : Bool) (x y : α) (_ : Tg (x, y) := .mk) : α := match b with
  | true => x
  | false => y
theorem cnd_true {α : Type} {x y : α} : cnd true x y = x := rfl
theorem cnd_false {α : Type} {x y : α} : cnd false x y = y := rfl
def fAnd (t u : FT) : FT := fun s => (t s).bind fun b s1 => cnd b (u s1) (.ret false s1)
def fOr (t u : FT) : FT := fun s => (t s).bind fun b s1 => cnd b (.ret true s1) (u s1)
def fNot (t : FT) : FT := fun s => (t s).bind fun b s1 => .ret (!b) s1
theorem le_and {t u : FT} : LeT (wT (fAnd t u)) (dAnd (wT t) (wT u)) := fun s Q X h => by
  simp only [wT, fAnd, wp_bind] at h
  exact wp_id h fun b s1 q => by cases b <;> exact q
theorem le_or {t u : FT} : LeT (wT (fOr t u)) (dOr (wT t) (wT u)) := fun s Q X h => by
  simp only [wT, fOr, wp_bind] at h
  exact wp_id h fun b s1 q => by cases b <;> exact q
theorem le_not {t : FT} : LeT (wT (fNot t)) (dNot (wT t)) := fun s Q X h => by
  simp only [wT, fNot, wp_bind] at h
  exact h
def fAndV (t u : FE) : FE := fun s => (t s).bind fun r s1 => opt (boolOf r) fun b => cnd b (u s1) (.ret (.imm (.bl false)) s1)
def fOrV (t u : FE) : FE := fun s => (t s).bind fun r s1 => opt (boolOf r) fun b => cnd b (.ret (.imm (.bl true)) s1) (u s1)
def fNotV (t : FE) : FE := fun s => (t s).bind fun r s1 => opt (boolOf r) fun b => .ret (.imm (.bl (!b))) s1
theorem le_andV {t u : FE} : LeE (wE (fAndV t u)) (dAndV (wE t) (wE u)) := fun s Q X h => by
  simp only [wE, fAndV, wp_bind, wp_opt] at h
  refine wp_id h fun r s1 ⟨b, e, q⟩ => ?_
  cases boolOf_some e
  cases b <;> exact q
theorem le_orV {t u : FE} : LeE (wE (fOrV t u)) (dOrV (wE t) (wE u)) := fun s Q X h => by
  simp only [wE, fOrV, wp_bind, wp_opt] at h
  refine wp_id h fun r s1 ⟨b, e, q⟩ => ?_
  cases boolOf_some e
  cases b <;> exact q
theorem le_notV {t : FE} : LeE (wE (fNotV t)) (dNotV (wE t)) := fun s Q X h => by
  simp only [wE, fNotV, wp_bind, wp_opt] at h
  refine wp_id h fun r s1 ⟨b, e, q⟩ => ?_
  cases boolOf_some e
  exact q
def fIfE (t : FT) (a b : FE) : FE := fun s => (t s).bind fun k s1 => cnd k (a s1) (b s1)
theorem le_ifE {t : FT} {a b : FE} : LeE (wE (fIfE t a b)) (dIfE (wT t) (wE a) (wE b)) := fun s Q X h => by
  simp only [wE, fIfE, wp_bind] at h
  exact wp_id h fun b s1 q => by cases b <;> exact q
/-! ### what is stored -/
def stF1 (s : DSt) : RV → Option (D × DSt)
  | .imm d => some (d, s)
  | .new d => some (d, s)
  | .slot i => match s.sl[i]? with
    | some (some (.own d)) => some (d, { s with sl := s.sl.set i (some (.imm d)) })
    | some (some (.imm d)) => some (d, s)
    | _ => none
def stF (s : DSt) : List RV → Option (List D × DSt)
  | [] => some ([], s)
  | r :: rs => (stF1 s r).bind fun p => (stF p.2 rs).map fun q => (p.1 :: q.1, q.2)
theorem st1_of {s : DSt} {r : RV} {p : D × DSt} {k : D → DSt → Prop} (e : stF1 s r = some p) (h : k p.1 p.2) : sto1 s r k := by
  unfold stF1 at e
  unfold sto1
  split at e
  · cases e; exact h
  · cases e; exact h
  · split at e
    · rename_i d q; cases e; first | (simp only [q]; exact h) | exact h
    · rename_i d q; cases e; first | (simp only [q]; exact h) | exact h
    · cases e
theorem st_of : ∀ {rs : List RV} {s : DSt} {p : List D × DSt} {k : List D → DSt → Prop}, stF s rs = some p → k p.1 p.2 → sto s rs k
  | [], s, p, k, e, h => by cases e; exact h
  | r :: rs, s, p, k, e, h => by
    unfold stF at e
    cases h1 : stF1 s r with
    | none => rw [h1] at e; cases e
    | some x =>
      rw [h1] at e
      cases h2 : stF x.2 rs with
      | none => simp [h2] at e
      | some y =>
        simp [h2] at e
        subst e
        exact st1_of (p := x) h1 (st_of (k := fun ds s2 => k (x.1 :: ds) s2) h2 h)
def fTup (t : FA) : FE := fun s => (t s).bind fun rs s1 => opt (stF s1 rs) fun p => chk (decide (p.1.length ≤ sizeLine)) (.ret (.imm (.tup p.1)) p.2)
def fLst (t : FA) : FE := fun s => (t s).bind fun rs s1 => opt (stF s1 rs) fun p => chk (decide (p.1.length ≤ sizeLine)) (.ret (.new (.lst p.1)) p.2)
theorem le_tup {t : FA} : LeE (wE (fTup t)) (dTup (wA t)) := fun s Q X h => by
  simp only [wE, fTup, wp_bind, wp_opt, wp_chk, wp, decide_eq_true_eq] at h
  exact wp_id h fun rs s1 ⟨p, e, q⟩ => st_of e q
theorem le_lst {t : FA} : LeE (wE (fLst t)) (dLst (wA t)) := fun s Q X h => by
  simp only [wE, fLst, wp_bind, wp_opt, wp_chk, wp, decide_eq_true_eq] at h
  exact wp_id h fun rs s1 ⟨p, e, q⟩ => st_of e q
def pubF (s1 : DSt) : RV → Tr DSt RV
  | .new (.tup _) => .bad
  | .new d => .alloc s1.M fun a => .ret (.imm (.ref a)) { s1 with M := up s1.M a d }
  | .imm d => .ret (.imm d) s1
  | .slot _ => .bad
def fPub (t : FE) : FE := fun s => (t s).bind fun r s1 => pubF s1 r
theorem le_pub {t : FE} : LeE (wE (fPub t)) (dPub (wE t)) := fun s Q X h => by
  simp only [wE, fPub, wp_bind] at h
  refine wp_id h fun r s1 q => ?_
  cases r with
  | imm d => exact q
  | slot i => exact q
  | new d => cases d <;> exact q
/-! ### targets -/
def fgN (i : Nat) : FG := fun r s => match r with
  | .imm d => .ret () (s.put i (.imm d))
  | .new (.tup ds) => .ret () (s.put i (.imm (.tup ds)))
  | .new d => .ret () (s.put i (.own d))
  | .slot j => opt (stF1 s (.slot j)) fun p => .ret () (p.2.put i (.imm p.1))
theorem le_gN {i : Nat} : LeG (wG (fgN i)) (gN i) := fun r s Q X h => by
  cases r with
  | imm d => exact h
  | new d => cases d <;> exact h
  | slot j =>
    simp only [wG, fgN, wp_opt, wp] at h
    obtain ⟨p, e, q⟩ := h
    exact st1_of (k := fun d s1 => Q (s1.put i (.imm d))) e q
def fgsN : FGs := fun ds s => match ds with
  | [] => .ret () s
  | _ => .bad
def fgsC (g : FG) (u : FGs) : FGs := fun ds s => match ds with
  | d :: ds => (g (.imm d) s).bind fun _ s1 => u ds s1
  | [] => .bad
theorem le_gsN : LeGs (wGs fgsN) gsN := fun r s Q X h => by
  cases r <;> exact h
theorem le_gsC {g : FG} {u : FGs} : LeGs (wGs (fgsC g u)) (gsC (wG g) (wGs u)) := fun r s Q X h => by
  cases r with
  | nil => exact h
  | cons d ds =>
    simp only [wGs, fgsC, wp_bind] at h
    exact h
def fgT (n : Nat) (u : FGs) : FG := fun r s => match r with
  | .imm (.tup ds) => chk (decide (ds.length = n)) (u ds s)
  | .new (.tup ds) => chk (decide (ds.length = n)) (u ds s)
  | _ => .bad
theorem le_gT {n : Nat} {u : FGs} : LeG (wG (fgT n u)) (gT n (wGs u)) := fun r s Q X h => by
  unfold wG fgT at h
  unfold gT
  split at h
  · simp only [wp_chk, decide_eq_true_eq] at h; exact h
  · simp only [wp_chk, decide_eq_true_eq] at h; exact h
  · exact False.elim h
/-! ### statements -/
def fPass : FS := fun s => .ret .nx s
/-- behind a statement -/
def nxt (k : DSt → Tr DSt Out) : Out → DSt → Tr DSt Out
  | .nx, s => k s
  | .rt r, s => .ret (.rt r) s
  | .bk, s => .ret .bk s
  | .ct, s => .ret .ct s
def fSeq (t u : FS) : FS := fun s => (t s).bind (nxt u)
def fRet (t : FE) : FS := fun s => (t s).bind fun r s1 => .ret (.rt r) s1
def fRetN : FS := fun s => .ret (.rt (.imm .non)) s
def fExp (t : FE) : FS := fun s => (t s).bind fun _ s1 => .ret .nx s1
def fIf (t : FT) (a b : FS) : FS := fun s => (t s).bind fun k s1 => cnd k (a s1) (b s1)
def fBrk : FS := fun s => .ret .bk s
def fCnt : FS := fun s => .ret .ct s
def fAsg (t : FE) (g : FG) : FS := fun s => (t s).bind fun r s1 => (g r s1).bind fun _ s2 => .ret .nx s2
theorem le_pass : LeS (wS fPass) dPass := fun _ _ h => h
theorem le_brk : LeS (wS fBrk) dBrk := fun _ _ h => h
theorem le_cnt : LeS (wS fCnt) dCnt := fun _ _ h => h
theorem le_retN : LeS (wS fRetN) dRetN := fun _ _ h => h
theorem le_seq {t u : FS} : LeS (wS (fSeq t u)) (dSeq (wS t) (wS u)) := fun E s h => by
  simp only [wS, fSeq, wp_bind] at h
  exact wp_id h fun o s1 q => by cases o <;> exact q
theorem le_ret {t : FE} : LeS (wS (fRet t)) (dRet (wE t)) := fun E s h => by
  simp only [wS, fRet, wp_bind] at h
  exact h
theorem le_exp {t : FE} : LeS (wS (fExp t)) (dExp (wE t)) := fun E s h => by
  simp only [wS, fExp, wp_bind] at h
  exact h
theorem le_if {t : FT} {a b : FS} : LeS (wS (fIf t a b)) (dIf (wT t) (wS a) (wS b)) := fun E s h => by
  simp only [wS, fIf, wp_bind] at h
  exact wp_id h fun b s1 q => by cases b <;> exact q
theorem le_asg {t : FE} {g : FG} : LeS (wS (fAsg t g)) (dAsg (wE t) (wG g)) := fun E s h => by
  simp only [wS, fAsg, wp_bind] at h
  exact h
theorem le_asgN {t : FE} {i : Nat} : LeS (wS (fAsg t (fgN i))) (dAsg (wE t) (gN i)) := fun E s h => by
  simp only [wS, fAsg, wp_bind] at h
  exact wp_id h fun r s1 q => le_gN r s1 _ _ q
end DL

set_option Elab.async false
set_option linter.all false
set_option maxRecDepth 100000
set_option maxHeartbeats 4000000
namespace DL
open PySem PySem.Spec PyProof.Rows L2 PL
open Tr
/-! ### walks -/
open Classical in
/-- what is walked is still the same -/
noncomputable def okB (d e : D) (s : DSt) : Bool := match d with
  | .ref _ => decide (viewD s.M d = some e)
  | _ => true
theorem okB_of {d e : D} {s s2 : DSt} (h2 : viewD s2.M d = some e) (h : okB d e s = true) : viewD s.M d = some e := by
  cases d with
  | ref a => simpa [okB] using h
  | _ => exact h2
noncomputable def itF (d : D) (s2 : DSt) (e : D) : Tr DSt FIt := match e with
  | .lst xs => .ret ⟨xs, okB d (.lst xs)⟩ s2
  | .tup xs => .ret ⟨xs, okB d (.tup xs)⟩ s2
  | .str x => .ret ⟨x.cps.toList.map fun k => .str ⟨#[k]⟩, fun _ => true⟩ s2
  | _ => .bad
noncomputable def fSq (t : FE) : FI := fun s => (t s).bind fun r s1 => opt (stF1 s1 r.frz) fun p => opt (viewD p.2.M p.1) fun e => itF p.1 p.2 e
section
variable {X : Cx} {G : Sig} {pos : Pos}
theorem ItR.weak {F : Hp} {j : DIt} {J : It} {ok : DSt → Prop} (h : ItR G F j J) (k : ∀ s, ok s → j.ok s) : ItR G F ⟨j.xs, ok⟩ J := ⟨fun i c s F' σ H a b e o => h.go i c s F' σ H a b e (k s o), fun i c s F' σ H a b e o => h.stop i c s F' σ H a b e (k s o), fun i c s F' σ H d x H' a b e o => h.yld i c s F' σ H d x H' a b e (k s o)⟩
/-- a walk with a stronger look -/
theorem eI' {tg e : Expr} {t u : DI} (m : ∀ s Q X, u s Q X → t s (fun j s' => ∃ ok, (∀ s, ok s → j.ok s) ∧ Q ⟨j.xs, ok⟩ s') X) (h : PI X tg e (LI X G t)) : PI X tg e (LI X G u) := PI.mono h fun σ H R ⟨c, W, s, F, Q', X', tk, hs, ht, hq, hx⟩ => ⟨c, W, s, F, _, X', tk, hs, m _ _ _ ht, fun j s' F' H' J ⟨ok, k, q⟩ g hh jr => hq _ s' F' H' J q g hh (jr.weak k), hx⟩
end
theorem le_sq {t : FE} (s : DSt) (Q : DIt → DSt → Prop) (X : PX) (h : wI (fSq t) s Q X) : dSq (wE t) s (fun j s' => ∃ ok, (∀ s, ok s → j.ok s) ∧ Q ⟨j.xs, ok⟩ s') X := by
  simp only [wI, fSq, wp_bind, wp_opt] at h
  refine wp_id h fun r s1 ⟨p, e, v, ev, q⟩ => st1_of e ?_
  rw [ev]
  dsimp only [optP]
  cases v with
  | lst xs => exact ⟨_, fun s o => okB_of ev o, q⟩
  | tup xs => exact ⟨_, fun s o => okB_of ev o, q⟩
  | str x => exact ⟨_, fun s o => trivial, q⟩
  | _ => exact q.elim
def rg1 : List D → Option (List D)
  | [.int j] => if -(2 ^ 62) ≤ j ∧ j < 2 ^ 62 then some (rng 0 j.toNat) else none
  | _ => none
def rg2 : List D → Option (List D)
  | [.int i, .int j] => if -(2 ^ 62) ≤ i ∧ i < 2 ^ 62 ∧ -(2 ^ 62) ≤ j ∧ j < 2 ^ 62 then some (rng i (j - i).toNat) else none
  | _ => none
def fRg1 (t : FA) : FI := fun s => (t s).bind fun rs s1 => opt (vwF s1 rs) fun ds => opt (rg1 ds) fun xs => .ret ⟨xs, fun _ => true⟩ s1
def fRg2 (t : FA) : FI := fun s => (t s).bind fun rs s1 => opt (vwF s1 rs) fun ds => opt (rg2 ds) fun xs => .ret ⟨xs, fun _ => true⟩ s1
theorem le_rg1 {t : FA} : LeI (wI (fRg1 t)) (dRg1 (wA t)) := fun s Q X h => by
  simp only [wI, fRg1, wp_bind, wp_opt, wp] at h
  refine wp_id h fun rs s1 ⟨ds, e, xs, ex, q⟩ => vw_of e ?_
  unfold rg1 at ex
  split at ex
  · split at ex
    · rename_i hj; cases ex; exact ⟨hj.1, hj.2, q⟩
    · cases ex
  · cases ex
theorem le_rg2 {t : FA} : LeI (wI (fRg2 t)) (dRg2 (wA t)) := fun s Q X h => by
  simp only [wI, fRg2, wp_bind, wp_opt, wp] at h
  refine wp_id h fun rs s1 ⟨ds, e, xs, ex, q⟩ => vw_of e ?_
  unfold rg2 at ex
  split at ex
  · split at ex
    · rename_i hj; cases ex; exact ⟨hj, q⟩
    · cases ex
  · cases ex
/-- behind a turn of a loop -/
def trn (k : DSt → Tr DSt Out) : Out → DSt → Tr DSt Out
  | .nx, s => k s
  | .rt r, s => .ret (.rt r) s
  | .bk, s => .ret .nx s
  | .ct, s => k s
def forF (ok : DSt → Bool) (g : FG) (b : FS) : List D → DSt → Tr DSt Out
  | [], s => chk (ok s) (.ret .nx s)
  | d :: ds, s => chk (ok s) ((g (.imm d) s).bind fun _ s2 => (b s2).bind (trn (forF ok g b ds)))
def fFor (it : FI) (g : FG) (b : FS) : FS := fun s => (it s).bind fun j s1 => forF j.ok g b j.xs s1
theorem le_forL {ok : DSt → Bool} {g : FG} {b : FS} {E : DEnds} : ∀ {ds : List D} {s : DSt}, (forF ok g b ds s).wp (Out.to E) E.x → forL (fun s => ok s = true) (wG g) (wS b) E ds s
  | [], s, h => by simp only [forF, wp_chk, wp] at h; exact h
  | d :: ds, s, h => by
    simp only [forF, wp_chk, wp_bind] at h
    refine ⟨h.1, wp_id h.2 fun _ s2 q => wp_id q fun o s3 q => ?_⟩
    cases o with
    | nx => exact le_forL q
    | ct => exact le_forL q
    | bk => exact q
    | rt r => exact q
theorem le_for {it : FI} {g : FG} {b : FS} : LeS (wS (fFor it g b)) (dFor (wI it) (wG g) (wS b)) := fun E s h => by
  simp only [wS, fFor, wp_bind] at h
  exact wp_id h fun j s1 q => le_forL q
def whlF (t : FT) (b : FS) : Nat → DSt → Tr DSt Out
  | 0, _ => .bad
  | n + 1, s => (t s).bind fun k s1 => cnd k ((b s1).bind (trn (whlF t b n))) (.ret .nx s1)
def fWhl (t : FT) (b : FS) : FS := fun s => whlF t b (2 ^ 64) s
theorem le_whl {t : FT} {b : FS} : LeS (wS (fWhl t b)) (dWhl (wT t) (wS b)) := fun E s h => by
  refine ⟨fun m s => (whlF t b m s).wp (Out.to E) E.x, ⟨_, h⟩, fun m s1 h => ?_⟩
  cases m with
  | zero => exact h.elim
  | succ n =>
    simp only [whlF, wp_bind] at h
    refine wp_id h fun k s2 q => ?_
    cases k with
    | false => exact q
    | true =>
      simp only [cnd, wp_bind] at q
      refine wp_id q fun o s3 q => ?_
      cases o with
      | nx => exact ⟨n, Nat.lt_succ_self _, q⟩
      | ct => exact ⟨n, Nat.lt_succ_self _, q⟩
      | bk => exact q
      | rt r => exact q
/-! ### comprehensions -/
def fYes : FT := fun s => .ret true s
def cmpF (ok : DSt → Bool) (g : FG) (tt : FT) (te : FE) (vs : List Nat) : List D → List D → DSt → Tr DSt RV
  | [], acc, s => chk (ok s) (.ret (.new (.lst acc)) s)
  | d :: ds, acc, s => chk (ok s) ((g (.imm d) s).noX.bind fun _ s2 => (tt s2).noX.bind fun b s3 => cnd b ((te s3).noX.bind fun r s4 => opt (stF1 s4 r.frz) fun p => chk (decide (acc.length < sizeLine)) (cmpF ok g tt te vs ds (acc ++ [p.1]) (p.2.wipe vs))) (cmpF ok g tt te vs ds acc (s3.wipe vs)))
def fLc (it : FI) (g : FG) (tt : FT) (te : FE) (vs : List Nat) : FE := fun s => (it s).bind fun j s1 => cmpF j.ok g tt te vs j.xs [] (s1.wipe vs)
theorem le_cmp {ok : DSt → Bool} {g : FG} {dg : DG} {tt : FT} {te : FE} {vs : List Nat} {Q : PQ} {X : PX} (lg : LeG (wG g) dg) : ∀ {ds acc : List D} {s : DSt}, (cmpF ok g tt te vs ds acc s).wp Q X → compL (fun s => ok s = true) dg (wT tt) (wE te) vs Q ds acc s
  | [], acc, s, h => by simp only [cmpF, wp_chk, wp] at h; exact h
  | d :: ds, acc, s, h => by
    simp only [cmpF, wp_chk, wp_bind, wp_noX] at h
    refine ⟨h.1, lg _ _ _ _ (wp_id h.2 fun _ s2 q => wp_id q fun b s3 q => ?_)⟩
    cases b with
    | false => exact le_cmp lg q
    | true =>
      simp only [cnd, wp_bind, wp_noX, wp_opt, wp_chk, decide_eq_true_eq] at q
      exact wp_id q fun r s4 ⟨p, e, hl, q⟩ => st1_of e ⟨hl, le_cmp lg q⟩
theorem le_lc {it : FI} {g : FG} {dg : DG} {tt : FT} {te : FE} {vs : List Nat} (lg : LeG (wG g) dg) : LeE (wE (fLc it g tt te vs)) (dLc (wI it) dg (wT tt) (wE te) vs) := fun s Q X h => by
  simp only [wE, fLc, wp_bind] at h
  exact wp_id h fun j s1 q => le_cmp lg q
theorem le_yes : LeT (wT fYes) dYes := fun _ _ _ h => h
/-! ### calls -/
abbrev Fn := List D → DM → Tr DM AV
def spF (c : Fn) : DSp := fun ds M Q X => (c ds M).wp Q X
def DSt.wM (s : DSt) (M : DM) : DSt := { s with M := M }
def fCall (c : Fn) (t : FA) : FE := fun s => (t s).bind fun rs s1 => opt (stF s1 rs) fun p => (c p.1 p.2.M).lift p.2.wM AV.rv
theorem le_call {c : Fn} {t : FA} : LeE (wE (fCall c t)) (dCall (spF c) (wA t)) := fun s Q X h => by
  simp only [wE, fCall, wp_bind, wp_opt, wp_lift] at h
  exact wp_id h fun rs s1 ⟨p, e, q⟩ => st_of e q
/-- a method, by its class -/
abbrev Fm' := Str → Option Fn
def clsOf : D → Option (Str × List Str)
  | .ins C ns _ => some (C, ns)
  | _ => none
theorem clsOf_some {d : D} {p : Str × List Str} (h : clsOf d = some p) : ∃ vs, d = .ins p.1 p.2 vs := by
  cases d <;> simp [clsOf] at h
  subst h
  exact ⟨_, rfl⟩
def fMeth (m : Str) (dp : Fm') (o : FE) (t : FA) : FE := fun s => (o s).bind fun r s1 => opt (stF1 s1 r.frz) fun p => opt ((viewD p.2.M p.1).bind clsOf) fun q => opt (dp q.1) fun c => chk (!(q.2.contains m)) ((t p.2).bind fun rs s3 => opt (stF s3 rs) fun p4 => opt ((viewD p4.2.M p.1).bind clsOf) fun q2 => chk (decide (q2.1 = q.1)) ((c (p.1 :: p4.1) p4.2.M).lift p4.2.wM AV.rv))
def spM (dp : Fm') : DSp := fun ds M Q X => ∃ d r p c, ds = d :: r ∧ (viewD M d).bind clsOf = some p ∧ dp p.1 = some c ∧ (c ds M).wp Q X
theorem le_meth {m : Str} {dp : Fm'} {cs : List Str} {o : FE} {t : FA} (hcs : ∀ C c, dp C = some c → C ∈ cs) : LeE (wE (fMeth m dp o t)) (dMeth m (spM dp) cs (wE o) (wA t)) := fun s Q X h => by
  simp only [wE, fMeth, wp_bind, wp_opt, wp_chk, wp_lift] at h
  refine wp_id h fun r s1 ⟨p, e, q, eq, c, ec, hm, h⟩ => st1_of e ?_
  cases hv : viewD p.2.M p.1 with
  | none => rw [hv] at eq; cases eq
  | some d =>
    rw [hv] at eq
    obtain ⟨vs, rfl⟩ := clsOf_some (show clsOf d = some q from eq)
    refine ⟨hcs _ _ ec, by simpa using hm, wp_id h fun rs s3 ⟨p4, e4, q2, eq2, hq, h⟩ => st_of e4 ?_⟩
    simp only [decide_eq_true_eq] at hq
    cases hv2 : viewD p4.2.M p.1 with
    | none => rw [hv2] at eq2; cases eq2
    | some d2 =>
      rw [hv2] at eq2
      obtain ⟨vs2, rfl⟩ := clsOf_some (show clsOf d2 = some q2 from eq2)
      refine ⟨⟨_, _, by rw [hv2, hq]⟩, p.1, p4.1, q2, c, rfl, by rw [hv2]; rfl, by rw [hq]; exact ec, h⟩
theorem le_meth0 {m : Str} {dp : Fm'} {cs : List Str} {o : FE} (hcs : ∀ C c, dp C = some c → C ∈ cs) : LeE (wE (fMeth m dp o fNil)) (dMeth m (spM dp) cs (wE o) dNil) := le_meth (t := fNil) hcs
/-- the body of a def -/
def outF (s : DSt) : RV → Option AV
  | .imm d => some (.imm d)
  | .new d => some (.new d)
  | .slot i => match s.sl[i]? with
    | some (some (.own d)) => some (.new d)
    | some (some (.imm d)) => some (.imm d)
    | _ => none
def endF (o : Out) (s : DSt) : Tr DM AV := match o with
  | .nx => .ret (.imm .non) s.M
  | .rt r => opt (outF s r) fun a => .ret a s.M
  | .bk => .bad
  | .ct => .bad
/-- n names, np parameters -/
def runB (n np : Nat) (b : FS) : Fn := fun ds M => chk (decide (ds.length = np)) ((b (st0 n ds M)).both (fun o s => endF o s) (fun e s => .exc e s.M))
theorem run_vc {n np : Nat} {b : FS} : Vc (wS b) n (spF (runB n np b)) := fun ds M Q X h => by
  simp only [spF, runB, wp_chk, wp_both] at h
  refine wp_mono h.2 (fun o s q => ?_) fun e s q => outM_self q
  cases o with
  | nx => exact outM_self q
  | bk => exact q.elim
  | ct => exact q.elim
  | rt r =>
    simp only [endF, wp_opt, wp] at q
    obtain ⟨a, e, q⟩ := q
    show outR s r (fun a => outM s.M (Q a))
    unfold outF at e
    unfold outR
    split at e
    · cases e; exact outM_self q
    · cases e; exact outM_self q
    · split at e
      · rename_i d z; cases e; first | (simp only [z]; exact outM_self q) | exact outM_self q
      · rename_i d z; cases e; first | (simp only [z]; exact outM_self q) | exact outM_self q
      · cases e
theorem run_ln {n np : Nat} {b : FS} : ∀ ds M Q X, spF (runB n np b) ds M Q X → ds.length = np := fun ds M Q X h => by
  simp only [spF, runB, wp_chk, decide_eq_true_eq] at h
  exact h.1
theorem run_vcC {n np : Nat} {b : FS} {dp : Fm'} {C : Str} (e : dp C = some (runB n np b)) : Vc (wS b) n (onC C (spM dp)) := fun ds M Q X ⟨hc, d, r, p, c, e1, e2, e3, h⟩ => by
  subst e1
  obtain ⟨ns, vs, hv⟩ := hc
  rw [hv] at e2
  cases (show some (C, ns) = some p from e2)
  rw [e] at e3
  cases e3
  exact run_vc _ _ _ _ h
theorem run_lnC {n np : Nat} {b : FS} {dp : Fm'} {C : Str} (e : dp C = some (runB n np b)) : ∀ ds M Q X, onC C (spM dp) ds M Q X → ds.length = np := fun ds M Q X ⟨hc, d, r, p, c, e1, e2, e3, h⟩ => by
  subst e1
  obtain ⟨ns, vs, hv⟩ := hc
  rw [hv] at e2
  cases (show some (C, ns) = some p from e2)
  rw [e] at e3
  cases e3
  exact run_ln _ _ _ _ h
/-! ### things made -/
/-- the place a as it was -/
def res (M' : DM) (a : Addr) (M : DM) : DM := fun b => if b = a then M a else M' b
theorem res_del {M M' : DM} {a : Addr} (h : M a = none) : res M' a M = del M' a := by funext b; unfold res del; split <;> simp_all
theorem res_up {M : DM} {a : Addr} {d : D} : res (up M a d) a M = M := by funext b; unfold res up; split <;> simp_all
theorem res_up2 {M M' : DM} {a : Addr} {d : D} : res (up M' a d) a M = res M' a M := by funext b; unfold res up; split <;> simp_all
def isNonV : AV → Bool
  | .imm .non => true
  | _ => false
theorem isNonV_true {a : AV} (h : isNonV a = true) : a = .imm .non := by
  cases a with
  | imm d => cases d <;> first | rfl | cases h
  | new d => cases h
noncomputable def fMake (C : Str) (c : Fn) (t : FA) : FE := fun s => (t s).bind fun rs s1 => opt (stF s1 rs) fun p => al p.2.M fun a => (c (.ref a :: p.1) (up p.2.M a (.ins C [] []))).both (fun r M' => chk (isNonV r) (opt (M' a) fun d => .ret (.new d) (p.2.wM (res M' a p.2.M)))) (fun e M' => .exc e (p.2.wM (res M' a p.2.M)))
theorem le_make {C : Str} {c : Fn} {t : FA} : LeE (wE (fMake C c t)) (dMake C (spF c) (wA t)) := fun s Q X h => by
  simp only [wE, fMake, wp_bind, wp_opt] at h
  refine wp_id h fun rs s1 ⟨p, e, q⟩ => st_of e fun a n => ?_
  have q := al_wp q a n
  simp only [wp_both, wp_chk, wp_opt, wp] at q
  refine wp_mono q (fun r M' ⟨hr, d, ed, q⟩ => ?_) fun e M' q => ?_
  · cases isNonV_true hr
    rw [res_del n] at q
    show optP (M' a) _
    rw [ed]
    exact q
  · rw [res_del n] at q
    exact q
/-! ### fields -/
def fldF (f : Str) : D → Option D
  | .ins _ ns vs => getF f ns vs
  | _ => none
def fFld (f : Str) (t : FE) : FE := fun s => (t s).bind fun r s1 => opt ((view s1 r.frz).bind (fldF f)) fun d => .ret (.imm d) s1
theorem le_fld {f : Str} {t : FE} : LeE (wE (fFld f t)) (dFld f (wE t)) := fun s Q X h => by
  simp only [wE, fFld, wp_bind, wp_opt, wp] at h
  refine wp_id h fun r s1 ⟨d, e, q⟩ => ?_
  cases hv : view s1 r.frz with
  | none => rw [hv] at e; cases e
  | some v =>
    rw [hv] at e
    dsimp only [optP]
    have e' : fldF f v = some d := e
    cases v <;> simp only [fldF] at e' <;> first | cases e' | skip
    show optP (getF f _ _) _
    rw [e']
    exact q
def refOf : RV → Option Addr
  | .imm (.ref a) => some a
  | _ => none
theorem refOf_some {r : RV} {a : Addr} (h : refOf r = some a) : r = .imm (.ref a) := by
  unfold refOf at h
  split at h
  · cases h; rfl
  · cases h
def setF (f : Str) (d : D) : D → Option D
  | .ins C ns vs => if ns.length < 1000 then some (.ins C (putD f d ns vs).1 (putD f d ns vs).2) else none
  | _ => none
def fSetF (f : Str) (o v : FE) : FS := fun s => (v s).bind fun rv s1 => opt (stF1 s1 rv.frz) fun p => (o p.2).bind fun ro s3 => opt (refOf ro) fun a => opt ((s3.M a).bind (setF f p.1)) fun e => .ret .nx (s3.wM (up s3.M a e))
theorem le_setF {f : Str} {o v : FE} : LeS (wS (fSetF f o v)) (dSetF f (wE o) (wE v)) := fun E s h => by
  simp only [wS, fSetF, wp_bind, wp_opt, wp] at h
  refine wp_id h fun r s1 ⟨p, e, q⟩ => st1_of e (wp_id q fun ro s3 ⟨a, ea, d, ed, q⟩ => ?_)
  cases refOf_some ea
  show optP (s3.M a) _
  cases hv : s3.M a with
  | none => rw [hv] at ed; cases ed
  | some v =>
    rw [hv] at ed
    have ed' : setF f p.1 v = some d := ed
    dsimp only [optP]
    cases v <;> simp only [setF] at ed' <;> first | cases ed' | skip
    split at ed'
    · rename_i hl; cases ed'; exact ⟨hl, q⟩
    · cases ed'
/-! ### refusals -/
def fRaise (C : Str) : FS := fun s => .exc ⟨C, []⟩ s
def fRaiseA (C f : Str) (t : FE) : FS := fun s => (t s).bind fun r s1 => opt (stF1 s1 r.frz) fun p => .exc ⟨C, [(f, p.1)]⟩ p.2
theorem le_raise {C : Str} : LeS (wS (fRaise C)) (dRaise C) := fun _ _ h => h
theorem le_raiseA {C f : Str} {t : FE} : LeS (wS (fRaiseA C f t)) (dRaiseA C f (wE t)) := fun E s h => by
  simp only [wS, fRaiseA, wp_bind, wp_opt, wp] at h
  exact wp_id h fun r s1 ⟨p, e, q⟩ => st1_of (k := fun d s2 => E.x ⟨C, [(f, d)]⟩ s2) e q
def fTry (sub : Str → Bool) (b : FS) (h : Exc → FS) : FS := fun s => (b s).hand fun e s' => cnd (sub e.cls) (h e s').noX (.exc e s')
theorem le_try {sub : Str → Bool} {b : FS} {h : Exc → FS} : LeS (wS (fTry sub b h)) (dTry sub (wS b) (fun e => wS (h e))) := fun E s q => by
  simp only [wS, fTry, wp_hand] at q
  refine wp_mono q (fun o s' q => by cases o <;> exact q) fun e s' q => ?_
  show if sub e.cls = true then _ else _
  cases hs : sub e.cls with
  | true =>
    rw [hs] at q
    simp only [cnd, wp_noX] at q
    rw [if_pos rfl]
    exact wp_mono q (fun o s' q => by cases o <;> exact q) fun _ _ q => q
  | false =>
    rw [hs] at q
    rw [if_neg (by decide)]
    exact q
end DL

set_option Elab.async false
set_option linter.all false
set_option maxRecDepth 100000
set_option maxHeartbeats 4000000
namespace DL
open PySem PySem.Spec PyProof.Rows L2 PL
open Tr
/-! ### primitives as functions -/
def qAdd : PF := fun ds => match ds with
  | [.int i, .int j] => some (.imm (.int (i + j)))
  | [.str a, .str b] => if a.length + b.length ≤ sizeLine then some (.imm (.str (a ++ b))) else none
  | [.lst xs, .lst ys] => if xs.length + ys.length ≤ sizeLine then some (.new (.lst (xs ++ ys))) else none
  | [.tup xs, .tup ys] => if xs.length + ys.length ≤ sizeLine then some (.imm (.tup (xs ++ ys))) else none
  | _ => none
def qI (C : Int → Int → Bool) (g : Int → Int → D) : PF := fun ds => match ds with
  | [.int i, .int j] => if C i j = true then some (.imm (g i j)) else none
  | _ => none
def qJ (g : Int → Int → D) : PF := fun ds => match ds with
  | [.int i, .int j] => some (.imm (g i j))
  | _ => none
abbrev qSub : PF := qJ fun i j => .int (i - j)
abbrev qMod : PF := qI (fun _ j => decide (0 < j)) fun i j => .int (i % j)
def divOk (j : Int) : Bool := decide (0 < j ∧ j.natAbs.log2 < 9000)
abbrev qDiv : PF := qI (fun _ j => divOk j) fun i j => .int (i / j)
def powOk (i j : Int) : Bool := decide (0 ≤ j ∧ j ≤ 1000000 ∧ i.natAbs < 2 ^ 64)
abbrev qPow : PF := qI powOk fun i j => .int (i ^ j.toNat)
abbrev qShr : PF := qI (fun _ j => decide (0 ≤ j)) fun i j => .int (i / 2 ^ j.toNat)
abbrev qBand : PF := qJ fun i j => .int (Builtin.bitAnd i j)
def mulOk (i j : Int) : Bool := decide (((-(2 ^ 64) < i ∧ i < 2 ^ 64) ∨ (-(2 ^ 64) < j ∧ j < 2 ^ 64)) ∨ i.natAbs.log2 + j.natAbs.log2 < 1000000)
abbrev qMul : PF := qI mulOk fun i j => .int (i * j)
abbrev qLt : PF := qJ fun i j => .bl (decide (i < j))
abbrev qLe : PF := qJ fun i j => .bl (decide (i ≤ j))
abbrev qGt : PF := qJ fun i j => .bl (decide (j < i))
abbrev qGe : PF := qJ fun i j => .bl (decide (j ≤ i))
def qNeg : PF := fun ds => match ds with
  | [.int i] => some (.imm (.int (-i)))
  | _ => none
def isTy : D → Bool
  | .ty _ => true
  | _ => false
def qIs : PF := fun ds => match ds with
  | [d, .non] => if isTy d = true then none else some (.imm (.bl (isNon d)))
  | _ => none
def qIsNot : PF := fun ds => match ds with
  | [d, .non] => if isTy d = true then none else some (.imm (.bl (!isNon d)))
  | _ => none
section
variable {X : Cx} {G : Sig}
theorem okf_add : OkP G (r2 (rAddA G.K)) (pn qAdd) := OkP.le ok_add fun ds a e k ka => by
  unfold qAdd at e
  split at e
  · cases e; exact ka
  · split at e
    · rename_i h; cases e; exact ⟨h, ka⟩
    · cases e
  · split at e
    · rename_i h; cases e; exact ⟨h, ka⟩
    · cases e
  · split at e
    · rename_i h; cases e; exact ⟨h, ka⟩
    · cases e
  · cases e
theorem leI2 {C : Int → Int → Bool} {P : Int → Int → Prop} {g : Int → Int → D} (h : ∀ i j, C i j = true → P i j) : ∀ ds a, qI C g ds = some a → ∀ k : AV → Prop, k a → pI2 P g ds k := fun ds a e k ka => by
  unfold qI at e
  split at e
  · split at e
    · rename_i hc; cases e; exact ⟨h _ _ hc, ka⟩
    · cases e
  · cases e
theorem leI0 {g : Int → Int → D} : ∀ ds a, qJ g ds = some a → ∀ k : AV → Prop, k a → pI0 g ds k := fun ds a e k ka => by
  unfold qJ at e
  split at e
  · cases e; exact ka
  · cases e
theorem okf_sub : OkP G (r2 (rI0 fun i j => .int (i - j))) (pn qSub) := OkP.le ok_sub leI0
theorem okf_mod : OkP G (r2 (rI (fun _ j => 0 < j) fun i j => .int (i % j))) (pn qMod) := OkP.le ok_mod (leI2 fun _ _ h => of_decide_eq_true h)
theorem okf_div : OkP G (r2 (rI CDivW fun i j => .int (i / j))) (pn qDiv) := OkP.le ok_div (leI2 fun i j h => show 0 < j ∧ j.natAbs.log2 < 9000 from of_decide_eq_true h)
theorem okf_pow : OkP G (r2 (rI CPow fun i j => .int (i ^ j.toNat))) (pn qPow) := OkP.le ok_pow (leI2 fun i j h => show 0 ≤ j ∧ j ≤ 1000000 ∧ i.natAbs < 2 ^ 64 from of_decide_eq_true h)
theorem okf_shr : OkP G (r2 (rI (fun _ j => 0 ≤ j) fun i j => .int (i / 2 ^ j.toNat))) (pn qShr) := OkP.le ok_shr (leI2 fun _ _ h => of_decide_eq_true h)
theorem okf_band : OkP G (r2 (rI0 fun i j => .int (Builtin.bitAnd i j))) (pn qBand) := OkP.le ok_band leI0
theorem okf_lt : OkP G (r2 (rI0 fun i j => .bl (decide (i < j)))) (pn qLt) := OkP.le ok_lt leI0
theorem okf_le : OkP G (r2 (rI0 fun i j => .bl (decide (i ≤ j)))) (pn qLe) := OkP.le ok_le leI0
theorem okf_gt : OkP G (r2 (rI0 fun i j => .bl (decide (j < i)))) (pn qGt) := OkP.le ok_gt leI0
theorem okf_ge : OkP G (r2 (rI0 fun i j => .bl (decide (j ≤ i)))) (pn qGe) := OkP.le ok_ge leI0
theorem op_mulA : OpR X (binaryOp .Mult) (fun x y H Q => rI CMul (fun i j => .int (i * j)) x y H Q ∨ rI CMulW (fun i j => .int (i * j)) x y H Q) := OpR.or op_mul op_mulW
theorem okf_mul : OkP G (r2 (fun x y H Q => rI CMul (fun i j => .int (i * j)) x y H Q ∨ rI CMulW (fun i j => .int (i * j)) x y H Q)) (pn qMul) := fun vs ds H F Q k t fz ⟨a, e, ka⟩ hk => by
  unfold qMul qI at e
  split at e
  · split at e
    · rename_i _ i j _ hc
      cases e
      have h2 : (((-(2 ^ 64) < i ∧ i < 2 ^ 64) ∨ (-(2 ^ 64) < j ∧ j < 2 ^ 64)) ∨ i.natAbs.log2 + j.natAbs.log2 < 1000000) := of_decide_eq_true hc
      obtain ⟨x, y, rfl, tx, ty⟩ := tops2 t
      cases (show x = V.int _ from tx)
      cases (show y = V.int _ from ty)
      rcases h2 with h | h
      · exact .inl ⟨i, j, rfl, rfl, h, res_imm fz (hk _ ka) rfl⟩
      · exact .inr ⟨i, j, rfl, rfl, h, res_imm fz (hk _ ka) rfl⟩
    · cases e
  · cases e
theorem okf_neg : OkP G (r1 (rU fun i => .int (-i))) (pn qNeg) := OkP.le ok_neg fun ds a e k ka => by
  unfold qNeg at e
  split at e
  · cases e; exact ka
  · cases e
theorem okf_is : OkP G (r2 (fun x y H Q => y = .non ∧ Q (.bl (decide (x = .non))) H)) (pn qIs) := OkP.le ok_is fun ds a e k ka => by
  unfold qIs at e
  split at e
  · rename_i d
    cases d <;> simp [isTy] at e <;> (subst e; exact ka)
  · cases e
theorem okf_isNot : OkP G (r2 (fun x y H Q => y = .non ∧ Q (.bl (!decide (x = .non))) H)) (pn qIsNot) := OkP.le ok_isNot fun ds a e k ka => by
  unfold qIsNot at e
  split at e
  · rename_i d
    cases d <;> simp [isTy] at e <;> (subst e; exact ka)
  · cases e
end
/-! ### == -/
mutual
def eqOk : D → Bool
  | .non => true
  | .bl _ => true
  | .int _ => true
  | .str x => PyData.strOk x
  | .tup xs => eqOks xs
  | .lst xs => eqOks xs
  | _ => false
def eqOks : List D → Bool
  | [] => true
  | x :: xs => eqOk x && eqOks xs
end
mutual
def dpt : D → Nat
  | .tup xs => dpts xs + 1
  | .lst xs => dpts xs + 1
  | _ => 0
def dpts : List D → Nat
  | [] => 0
  | x :: xs => max (dpt x) (dpts xs)
end
mutual
def eqD : D → D → Bool
  | .non, .non => true
  | .bl a, .bl b => a == b
  | .bl a, .int j => (if a then 1 else 0) == j
  | .int i, .bl b => i == (if b then 1 else 0)
  | .int i, .int j => i == j
  | .str x, .str y => x == y
  | .lst xs, .lst ys => eqDs xs ys
  | .tup xs, .tup ys => eqDs xs ys
  | _, _ => false
def eqDs : List D → List D → Bool
  | [], [] => true
  | x :: xs, y :: ys => eqD x y && eqDs xs ys
  | _, _ => false
end
mutual
theorem toPy_ok : ∀ d : D, eqOk d = true → ∃ p, toPy d = some p ∧ p.canLay0 = true ∧ p.depth = dpt d
  | .non, _ => ⟨_, rfl, rfl, rfl⟩
  | .bl _, _ => ⟨_, rfl, rfl, rfl⟩
  | .int _, _ => ⟨_, rfl, rfl, rfl⟩
  | .str x, h => ⟨_, rfl, by simpa [eqOk, PyData.canLay0] using h, rfl⟩
  | .tup xs, h => by
    obtain ⟨ps, e, c, d⟩ := toPys_ok xs (by simpa [eqOk] using h)
    exact ⟨.tuple ps, by simp [toPy, e], by simpa [PyData.canLay0] using c, by simp [PyData.depth, dpt, d]⟩
  | .lst xs, h => by
    obtain ⟨ps, e, c, d⟩ := toPys_ok xs (by simpa [eqOk] using h)
    exact ⟨.list ps, by simp [toPy, e], by simpa [PyData.canLay0] using c, by simp [PyData.depth, dpt, d]⟩
  | .ty _, h => by simp [eqOk] at h
  | .ref _, h => by simp [eqOk] at h
  | .cls _, h => by simp [eqOk] at h
  | .dic _ _, h => by simp [eqOk] at h
  | .ins _ _ _, h => by simp [eqOk] at h
  | .xfd _ _, h => by simp [eqOk] at h
theorem toPys_ok : ∀ ds : List D, eqOks ds = true → ∃ ps, toPys ds = some ps ∧ PyData.canLayAll0 ps = true ∧ PyData.depthAll ps = dpts ds
  | [], _ => ⟨[], rfl, rfl, rfl⟩
  | x :: xs, h => by
    simp only [eqOks, Bool.and_eq_true] at h
    obtain ⟨p, e1, c1, d1⟩ := toPy_ok x h.1
    obtain ⟨ps, e2, c2, d2⟩ := toPys_ok xs h.2
    exact ⟨p :: ps, by simp [toPys, e1, e2], by simp [PyData.canLayAll0, c1, c2], by simp [PyData.depthAll, dpts, d1, d2]⟩
end
theorem toPys_cons {x : D} {xs : List D} {ps : List PyData} (h : toPys (x :: xs) = some ps) : ∃ p qs, toPy x = some p ∧ toPys xs = some qs ∧ ps = p :: qs := by
  simp only [toPys] at h
  obtain ⟨p, e1, e2⟩ := Option.bind_eq_some_iff.mp h
  obtain ⟨qs, e3, e4⟩ := Option.map_eq_some_iff.mp e2
  exact ⟨p, qs, e1, e3, e4.symm⟩
mutual
theorem eqv_eqD : ∀ (d e : D) (p q : PyData), toPy d = some p → toPy e = some q → PyData.eqv p q = eqD d e := by
  intro d e p q h1 h2
  match d, e with
  | .tup xs, .tup ys =>
    simp only [toPy] at h1 h2
    obtain ⟨ps, e1, rfl⟩ := Option.map_eq_some_iff.mp h1
    obtain ⟨qs, e2, rfl⟩ := Option.map_eq_some_iff.mp h2
    simp only [PyData.eqv, eqD]
    exact eqvs_eqDs xs ys ps qs e1 e2
  | .lst xs, .lst ys =>
    simp only [toPy] at h1 h2
    obtain ⟨ps, e1, rfl⟩ := Option.map_eq_some_iff.mp h1
    obtain ⟨qs, e2, rfl⟩ := Option.map_eq_some_iff.mp h2
    simp only [PyData.eqv, eqD]
    exact eqvs_eqDs xs ys ps qs e1 e2
  | .non, e => cases e <;> simp [toPy] at h1 h2 <;> (try obtain ⟨_, _, rfl⟩ := h2) <;> (try subst h2) <;> subst h1 <;> simp [PyData.eqv, eqD]
  | .bl _, e => cases e <;> simp [toPy] at h1 h2 <;> (try obtain ⟨_, _, rfl⟩ := h2) <;> (try subst h2) <;> subst h1 <;> simp [PyData.eqv, eqD]
  | .int _, e => cases e <;> simp [toPy] at h1 h2 <;> (try obtain ⟨_, _, rfl⟩ := h2) <;> (try subst h2) <;> subst h1 <;> simp [PyData.eqv, eqD]
  | .str _, e => cases e <;> simp [toPy] at h1 h2 <;> (try obtain ⟨_, _, rfl⟩ := h2) <;> (try subst h2) <;> subst h1 <;> simp [PyData.eqv, eqD]
  | .tup _, .non => simp [toPy] at h1 h2; obtain ⟨_, _, rfl⟩ := h1; subst h2; simp [PyData.eqv, eqD]
  | .tup _, .bl _ => simp [toPy] at h1 h2; obtain ⟨_, _, rfl⟩ := h1; subst h2; simp [PyData.eqv, eqD]
  | .tup _, .int _ => simp [toPy] at h1 h2; obtain ⟨_, _, rfl⟩ := h1; subst h2; simp [PyData.eqv, eqD]
  | .tup _, .str _ => simp [toPy] at h1 h2; obtain ⟨_, _, rfl⟩ := h1; subst h2; simp [PyData.eqv, eqD]
  | .tup _, .lst _ => simp [toPy] at h1 h2; obtain ⟨_, _, rfl⟩ := h1; obtain ⟨_, _, rfl⟩ := h2; simp [PyData.eqv, eqD]
  | .lst _, .non => simp [toPy] at h1 h2; obtain ⟨_, _, rfl⟩ := h1; subst h2; simp [PyData.eqv, eqD]
  | .lst _, .bl _ => simp [toPy] at h1 h2; obtain ⟨_, _, rfl⟩ := h1; subst h2; simp [PyData.eqv, eqD]
  | .lst _, .int _ => simp [toPy] at h1 h2; obtain ⟨_, _, rfl⟩ := h1; subst h2; simp [PyData.eqv, eqD]
  | .lst _, .str _ => simp [toPy] at h1 h2; obtain ⟨_, _, rfl⟩ := h1; subst h2; simp [PyData.eqv, eqD]
  | .lst _, .tup _ => simp [toPy] at h1 h2; obtain ⟨_, _, rfl⟩ := h1; obtain ⟨_, _, rfl⟩ := h2; simp [PyData.eqv, eqD]
  | .ty _, _ => simp [toPy] at h1
  | .ref _, _ => simp [toPy] at h1
  | .cls _, _ => simp [toPy] at h1
  | .dic _ _, _ => simp [toPy] at h1
  | .ins _ _ _, _ => simp [toPy] at h1
  | .xfd _ _, _ => simp [toPy] at h1
  | _, .ty _ => simp [toPy] at h2
  | _, .ref _ => simp [toPy] at h2
  | _, .cls _ => simp [toPy] at h2
  | _, .dic _ _ => simp [toPy] at h2
  | _, .ins _ _ _ => simp [toPy] at h2
  | _, .xfd _ _ => simp [toPy] at h2
theorem eqvs_eqDs : ∀ (ds es : List D) (ps qs : List PyData), toPys ds = some ps → toPys es = some qs → PyData.eqvAll ps qs = eqDs ds es
  | [], [], ps, qs, h1, h2 => by cases h1; cases h2; rfl
  | [], y :: ys, ps, qs, h1, h2 => by
    cases h1
    obtain ⟨_, _, _, _, rfl⟩ := toPys_cons h2
    rfl
  | x :: xs, [], ps, qs, h1, h2 => by
    cases h2
    obtain ⟨_, _, _, _, rfl⟩ := toPys_cons h1
    rfl
  | x :: xs, y :: ys, ps, qs, h1, h2 => by
    obtain ⟨p, ps', e1, e2, rfl⟩ := toPys_cons h1
    obtain ⟨q, qs', e3, e4, rfl⟩ := toPys_cons h2
    simp only [PyData.eqvAll, eqDs, eqv_eqD x y p q e1 e3, eqvs_eqDs xs ys ps' qs' e2 e4]
end
/-- may be compared -/
def eqCan (d : D) : Bool := eqOk d && decide (dpt d ≤ 64)
def qEqG (neg : Bool) : PF := fun ds => match ds with
  | [.str a, .str b] => some (.imm (.bl (neg ^^ decide (a = b))))
  | [.int a, .int b] => some (.imm (.bl (neg ^^ decide (a = b))))
  | [d, e] => if eqCan d && eqCan e then some (.imm (.bl (neg ^^ eqD d e))) else none
  | _ => none
abbrev qEq : PF := qEqG false
abbrev qNe : PF := qEqG true
theorem eqG_le (neg : Bool) : ∀ ds a, qEqG neg ds = some a → ∀ k : AV → Prop, k a → pEqG neg ds k := fun ds a e k ka => by
  unfold qEqG at e
  split at e
  · cases e; exact ka
  · cases e; exact ka
  · rename_i d e' n1 n2
    split at e
    · rename_i hc
      cases e
      simp only [eqCan, Bool.and_eq_true, decide_eq_true_eq] at hc
      obtain ⟨p, hp, cp, dp⟩ := toPy_ok d hc.1.1
      obtain ⟨q, hq, cq, dq⟩ := toPy_ok e' hc.2.1
      unfold pEqG
      split
      · rename_i h; simp at h; exact (n1 _ _ h.1 h.2).elim
      · rename_i h; simp at h; exact (n2 _ _ h.1 h.2).elim
      · rename_i h; simp at h
        rw [← h.1, ← h.2, hp, hq]
        refine ⟨by simp [SeqAt.shaped, cp, dp, hc.1.2], by simp [SeqAt.shaped, cq, dq, hc.2.2], ?_⟩
        rw [eqv_eqD d e' p q hp hq]
        exact ka
      · rename_i h; exact (h _ _ rfl).elim
    · cases e
  · cases e
section
variable {X : Cx} {G : Sig}
theorem okf_eq : OkP G (r2 (rEqA G.K)) (pn qEq) := OkP.le ok_eq (eqG_le false)
theorem okf_ne : OkP G (r2 (rNeA G.K)) (pn qNe) := OkP.le ok_ne (eqG_le true)
/-! ### len, [i], in -/
def qLen : PF := fun ds => match ds with
  | [.str x] => if x.length ≤ sizeLine then some (.imm (.int x.length)) else none
  | [.lst xs] => some (.imm (.int xs.length))
  | [.tup xs] => some (.imm (.int xs.length))
  | _ => none
theorem okf_len : OkP G (fun xs H Q => ∃ x n, xs = [x] ∧ LenV G.K x H n ∧ Q (.int n) H) (pn qLen) := OkP.le ok_len fun ds a e k ka => by
  unfold qLen at e
  split at e
  · split at e
    · rename_i h; cases e; exact ⟨h, ka⟩
    · cases e
  · cases e; exact ka
  · cases e; exact ka
  · cases e
def qIx : PF := fun ds => match ds with
  | [.lst xs, .int i] => (atI xs i).map .imm
  | [.tup xs, .int i] => (atI xs i).map .imm
  | [.str x, .int i] => if x.length ≤ sizeLine then (atI x.cps.toList i).map fun c => .imm (.str ⟨#[c]⟩) else none
  | _ => none
theorem okf_ix : OkP G (r2 (rIx G.K)) (pn qIx) := OkP.le ok_ix fun ds a e k ka => by
  unfold qIx at e
  split at e
  · obtain ⟨d, e1, rfl⟩ := Option.map_eq_some_iff.mp e
    show optP _ _; rw [e1]; exact ka
  · obtain ⟨d, e1, rfl⟩ := Option.map_eq_some_iff.mp e
    show optP _ _; rw [e1]; exact ka
  · split at e
    · rename_i h
      obtain ⟨d, e1, rfl⟩ := Option.map_eq_some_iff.mp e
      refine ⟨h, ?_⟩
      rw [e1]; exact ka
    · cases e
  · cases e
/-- x in xs, flat ones -/
def eqF : D → D → Bool
  | .non, .non => true
  | .bl a, .bl b => a == b
  | .bl a, .int b => (if a then 1 else 0) == b
  | .int a, .bl b => a == (if b then 1 else 0)
  | .int a, .int b => a == b
  | .str a, .str b => a == b
  | _, _ => false
theorem eqF_eqV {x y : D} (hx : flatD x = true) (hy : flatD y = true) : eqV (sv x) (sv y) = eqF x y := by
  cases x <;> simp [flatD] at hx <;> cases y <;> simp [flatD] at hy <;> rfl
def inF (x : D) (xs : List D) : Bool := xs.any fun y => eqF y x
theorem inF_inV {x : D} (hx : flatD x = true) : ∀ {xs : List D}, xs.all flatD = true → inV (sv x) (xs.map sv) = inF x xs
  | [], _ => rfl
  | y :: ys, h => by
    simp only [List.all_cons, Bool.and_eq_true] at h
    have := inF_inV hx h.2
    simp only [inV, inF, List.map_cons, List.any_cons, eqF_eqV h.1 hx] at this ⊢
    rw [this]
theorem str_one {x : Str} {c : Nat} (h : x.cps.toList = [c]) : x = ⟨#[c]⟩ := by
  cases x with
  | mk cps =>
    have : cps = #[c] := by simpa using congrArg List.toArray h
    rw [this]
def qInG (neg : Bool) : PF := fun ds => match ds with
  | [x, .lst xs] => if flatD x && xs.all flatD then some (.imm (.bl (neg ^^ inF x xs))) else none
  | [x, .tup xs] => if flatD x && xs.all flatD then some (.imm (.bl (neg ^^ inF x xs))) else none
  | [.str x, .str z] => match x.cps.toList with
    | [c] => some (.imm (.bl (neg ^^ decide (c ∈ z.cps.toList))))
    | _ => none
  | _ => none
abbrev qIn : PF := qInG false
abbrev qNotIn : PF := qInG true
theorem inG_le (neg : Bool) : ∀ ds a, qInG neg ds = some a → ∀ k : AV → Prop, k a → pInG neg ds k := fun ds a e k ka => by
  unfold qInG at e
  split at e
  · split at e
    · rename_i h; cases e
      simp only [Bool.and_eq_true] at h
      exact ⟨h.1, h.2, by rw [inF_inV h.1 h.2]; exact ka⟩
    · cases e
  · split at e
    · rename_i h; cases e
      simp only [Bool.and_eq_true] at h
      exact ⟨h.1, h.2, by rw [inF_inV h.1 h.2]; exact ka⟩
    · cases e
  · split at e
    · rename_i c hc
      cases e
      refine ⟨c, ?_, ka⟩
      exact str_one hc
    · cases e
  · cases e
theorem okf_in : OkP G (r2 (rInX G.K)) (pn qIn) := OkP.le ok_in (inG_le false)
theorem okf_notIn : OkP G (r2 (rNotInX G.K)) (pn qNotIn) := OkP.le ok_notIn (inG_le true)
/-! ### tuple, list, all, any, sum -/
def qTuple : PF := fun ds => match ds with
  | [.lst xs] => some (.imm (.tup xs))
  | [.tup xs] => some (.imm (.tup xs))
  | _ => none
def qList : PF := fun ds => match ds with
  | [.lst xs] => some (.new (.lst xs))
  | [.tup xs] => some (.new (.lst xs))
  | _ => none
def bls : List D → Option (List Bool)
  | [] => some []
  | .bl b :: xs => (bls xs).map fun bs => b :: bs
  | _ => none
theorem bls_some : ∀ {xs : List D} {bs : List Bool}, bls xs = some bs → xs = bs.map .bl
  | [], bs, h => by cases h; rfl
  | x :: xs, bs, h => by
    cases x <;> simp [bls] at h
    obtain ⟨cs, e, rfl⟩ := h
    rw [bls_some e]; rfl
def nts : List D → Option (List Int)
  | [] => some []
  | .int b :: xs => (nts xs).map fun bs => b :: bs
  | _ => none
theorem nts_some : ∀ {xs : List D} {bs : List Int}, nts xs = some bs → xs = bs.map .int
  | [], bs, h => by cases h; rfl
  | x :: xs, bs, h => by
    cases x <;> simp [nts] at h
    obtain ⟨cs, e, rfl⟩ := h
    rw [nts_some e]; rfl
def sts : List D → Option (List Str)
  | [] => some []
  | .str b :: xs => (sts xs).map fun bs => b :: bs
  | _ => none
theorem sts_some : ∀ {xs : List D} {bs : List Str}, sts xs = some bs → xs = bs.map .str
  | [], bs, h => by cases h; rfl
  | x :: xs, bs, h => by
    cases x <;> simp [sts] at h
    obtain ⟨cs, e, rfl⟩ := h
    rw [sts_some e]; rfl
def qAll : PF := fun ds => match ds with
  | [.lst xs] => (bls xs).map fun bs => .imm (.bl (bs.all id))
  | _ => none
def qAny : PF := fun ds => match ds with
  | [.lst xs] => (bls xs).map fun bs => .imm (.bl (bs.any id))
  | _ => none
def qSum : PF := fun ds => match ds with
  | [.lst xs] => (nts xs).map fun bs => .imm (.int bs.sum)
  | _ => none
theorem okf_tuple : OkP G (fun xs H Q => ∃ p ys, xs = [.ref p] ∧ ((SqL G.K H p ys ∧ ∀ l o, o.dict = none → H l = none → Q (.ref l) (upd H l (.frz o (.tup ys)))) ∨ (SqT G.K H p ys ∧ Q (.ref p) H))) (pn qTuple) := OkP.le ok_tuple fun ds a e k ka => by
  unfold qTuple at e
  split at e <;> cases e <;> exact ka
theorem okf_list : OkP G (fun xs H Q => ∃ p ys, xs = [.ref p] ∧ (SqL G.K H p ys ∨ SqT G.K H p ys) ∧ ∀ l, H l = none → Q (.ref l) (upd H l (.lst ys))) (pn qList) := OkP.le ok_list fun ds a e k ka => by
  unfold qList at e
  split at e <;> cases e <;> exact ka
theorem okf_all : OkP G (rAll G.K) (pn qAll) := OkP.le ok_all fun ds a e k ka => by
  unfold qAll at e
  split at e
  · obtain ⟨bs, e1, rfl⟩ := Option.map_eq_some_iff.mp e
    exact ⟨bs, bls_some e1, ka⟩
  · cases e
theorem okf_any : OkP G (rAny G.K) (pn qAny) := OkP.le ok_any fun ds a e k ka => by
  unfold qAny at e
  split at e
  · obtain ⟨bs, e1, rfl⟩ := Option.map_eq_some_iff.mp e
    exact ⟨bs, bls_some e1, ka⟩
  · cases e
theorem okf_sum : OkP G (rSum G.K) (pn qSum) := OkP.le ok_sum fun ds a e k ka => by
  unfold qSum at e
  split at e
  · obtain ⟨bs, e1, rfl⟩ := Option.map_eq_some_iff.mp e
    exact ⟨bs, nts_some e1, ka⟩
  · cases e
/-! ### isinstance -/
def isAll (sub : Str → Str → Bool) (d : D) : List D → Option Bool
  | [] => some false
  | T :: Ts => (isOne sub d T).bind fun b => (isAll sub d Ts).map fun c => b || c
theorem isAll_some {sub : Str → Str → Bool} {d : D} : ∀ {Ts : List D} {b : Bool}, isAll sub d Ts = some b → (∀ T ∈ Ts, ∃ b, isOne sub d T = some b) ∧ isAny sub d Ts = some b
  | [], b, h => ⟨fun _ h => (List.not_mem_nil h).elim, h⟩
  | T :: Ts, b, h => by
    simp only [isAll] at h
    obtain ⟨x, e1, e2⟩ := Option.bind_eq_some_iff.mp h
    obtain ⟨y, e3, rfl⟩ := Option.map_eq_some_iff.mp e2
    obtain ⟨i1, i2⟩ := isAll_some e3
    refine ⟨fun T' hT => ?_, ?_⟩
    · rcases List.mem_cons.mp hT with rfl | hT
      · exact ⟨x, e1⟩
      · exact i1 T' hT
    · simp only [isAny, e1]
      cases x
      · simpa using i2
      · simp
def qIsI (sub : Str → Str → Bool) : PF := fun ds => match ds with
  | [d, .tup Ts] => if Ts.isEmpty then none else (isAll sub d Ts).map fun b => .imm (.bl b)
  | [d, T] => (isOne sub d T).map fun b => .imm (.bl b)
  | _ => none
theorem okf_isi {sub : Str → Str → Bool} (f : IsF G sub) : OkP G (rIsX2 G.K) (pn (qIsI sub)) := OkP.le (ok_isi f) fun ds a e k ka => by
  unfold qIsI at e
  split at e
  · split at e
    · cases e
    · rename_i hn
      obtain ⟨b, e1, rfl⟩ := Option.map_eq_some_iff.mp e
      obtain ⟨i1, i2⟩ := isAll_some e1
      refine ⟨by intro z; subst z; simp at hn, i1, ?_⟩
      rw [i2]; exact ka
  · rename_i d T hT
    obtain ⟨b, e1, rfl⟩ := Option.map_eq_some_iff.mp e
    unfold pIs1
    split
    · rename_i h; simp at h; exact (hT _ h.2).elim
    · rename_i h; simp at h; rw [← h.1, ← h.2, e1]; exact ka
    · rename_i h; exact (h _ _ rfl).elim
  · cases e
end
end DL

set_option Elab.async false
set_option linter.all false
set_option maxRecDepth 100000
set_option maxHeartbeats 4000000
namespace DL
open PySem PySem.Spec PyProof.Rows L2 PL
open Tr
/-! ### slices -/
def fNoP : FO := fun s => .ret none s
def intOf : RV → Option Int
  | .imm (.int i) => some i
  | _ => none
theorem intOf_some {r : RV} {b : Int} (h : intOf r = some b) : r = .imm (.int b) := by
  unfold intOf at h
  split at h
  · cases h; rfl
  · cases h
def fPart (t : FE) : FO := fun s => (t s).bind fun r s1 => opt (intOf r) fun i => .ret (some i) s1
theorem le_noP : LeO (wO fNoP) dNoP := fun _ _ _ h => h
theorem le_part {t : FE} : LeO (wO (fPart t)) (dPart (wE t)) := fun s Q X h => by
  simp only [wO, fPart, wp_bind, wp_opt, wp] at h
  refine wp_id h fun r s1 ⟨i, e, q⟩ => ?_
  cases intOf_some e
  exact q
def qSl (d : D) (lo hi : Option Int) : Option AV := match d with
  | .lst xs => some (.new (.lst (cutD xs lo hi)))
  | .tup xs => some (.imm (.tup (cutD xs lo hi)))
  | .str x => if x.length ≤ sizeLine then some (.imm (.str (cutS x lo hi))) else none
  | _ => none
def fSl (t : FE) (lo hi : FO) : FE := fun s => (t s).bind fun r s1 => (lo s1).bind fun l s2 => (hi s2).bind fun u s3 => opt ((view s3 r.frz).bind fun d => qSl d l u) fun a => .ret a.rv s3
theorem le_sl {t : FE} {lo hi : FO} : LeE (wE (fSl t lo hi)) (dSl (wE t) (wO lo) (wO hi)) := fun s Q X h => by
  simp only [wE, fSl, wp_bind, wp_opt, wp] at h
  refine wp_id h fun r s1 h => wp_id h fun l s2 h => wp_id h fun u s3 ⟨a, e, q⟩ => ?_
  cases hv : view s3 r.frz with
  | none => rw [hv] at e; cases e
  | some d =>
    rw [hv] at e
    have e' : qSl d l u = some a := e
    dsimp only [optP]
    unfold qSl at e'
    unfold pSl
    split at e'
    · cases e'; exact q
    · cases e'; exact q
    · split at e'
      · rename_i h; cases e'; exact ⟨h, q⟩
      · cases e'
    · cases e'
/-! ### methods of built-in things -/
def fBm (Ts : List String) (p : PF) (o : FE) (t : FA) : FE := fun s => (o s).bind fun r s1 => opt (view s1 r.frz) fun d => chk (Ts.contains (kind d)) ((t s1).bind fun rs s2 => opt (view s2 r.frz) fun d2 => chk (decide (kind d2 = kind d)) (opt (vwF s2 rs) fun ds => opt (p (d2 :: ds)) fun a => .ret a.rv s2))
theorem le_bm {name : Str} {Ts : List String} {p : PF} {o : FE} {t : FA} : LeE (wE (fBm Ts p o t)) (dBm name Ts (pn p) (wE o) (wA t)) := fun s Q X h => by
  simp only [wE, fBm, wp_bind, wp_opt, wp_chk, wp, decide_eq_true_eq] at h
  refine wp_id h fun r s1 ⟨d, e, hk, h⟩ => ?_
  rw [e]
  refine ⟨by simpa using hk, wp_id h fun rs s2 ⟨d2, e2, hk2, ds, ed, a, ea, q⟩ => ?_⟩
  rw [e2]
  exact ⟨hk2, vw_of ed ⟨a, ea, q⟩⟩
section
variable {X : Cx} {G : Sig}
theorem BmOk.le {name : Str} {Ts : List String} {f : PN} {p : PF} (ok : BmOk X G name Ts f) (m : ∀ ds a, p ds = some a → ∀ k : AV → Prop, k a → f ds k) : BmOk X G name Ts (pn p) := fun T hT => by
  obtain ⟨n, r, b, k⟩ := ok T hT
  exact ⟨n, r, b, fun vs d ds H F Q k' hk t sm ⟨a, e, ka⟩ h => k vs d ds H F Q k' hk t sm (m _ a e k' ka) h⟩
end
def idxF (x : D) : List D → Option Nat
  | [] => none
  | y :: ys => if eqF y x = true then some 0 else (idxF x ys).map (· + 1)
theorem idxF_D {x : D} (hx : flatD x = true) : ∀ {ys : List D}, ys.all flatD = true → idxD x ys = idxF x ys
  | [], _ => rfl
  | y :: ys, h => by
    simp only [List.all_cons, Bool.and_eq_true] at h
    simp only [idxD, idxF, eqF_eqV h.1 hx, idxF_D hx h.2]
theorem all_str : ∀ {ws : List Str}, (ws.map D.str).all flatD = true
  | [] => rfl
  | _ :: ws => by simp only [List.map_cons, List.all_cons, flatD, all_str, Bool.and_self]
def qIndex : PF := fun ds => match ds with
  | [.lst xs, y] => if flatD y && xs.all flatD then (idxF y xs).map fun j => .imm (.int (j : Nat)) else none
  | [.tup xs, .str z] => if (sts xs).isSome then (idxF (.str z) xs).map fun j => .imm (.int (j : Nat)) else none
  | _ => none
theorem okf_index {X : Cx} {G : Sig} (hK : X.K = G.K) : BmOk X G "index" ["list", "tuple"] (pn qIndex) := BmOk.le (bm_index hK) fun ds a e k ka => by
  unfold qIndex at e
  split at e
  · split at e
    · rename_i h
      simp only [Bool.and_eq_true] at h
      obtain ⟨j, e1, rfl⟩ := Option.map_eq_some_iff.mp e
      refine ⟨h.1, h.2, ?_⟩
      rw [idxF_D h.1 h.2, e1]; exact ka
    · cases e
  · split at e
    · rename_i h
      obtain ⟨j, e1, rfl⟩ := Option.map_eq_some_iff.mp e
      obtain ⟨ws, hw⟩ := Option.isSome_iff_exists.mp h
      have hw := sts_some hw
      subst hw
      refine ⟨⟨_, ws, rfl, rfl⟩, ?_⟩
      rw [idxF_D (by rfl) all_str, e1]; exact ka
    · cases e
  · cases e
/-! ### what changes its thing -/
def getC (s : DSt) : RV → Option D
  | .slot i => match s.sl[i]? with
    | some (some (.own d)) => some d
    | some (some (.imm (.ref a))) => s.M a
    | _ => none
  | .imm (.ref a) => s.M a
  | _ => none
def putC (s : DSt) (r : RV) (d : D) : DSt := match r with
  | .slot i => match s.sl[i]? with
    | some (some (.own _)) => s.put i (.own d)
    | some (some (.imm (.ref a))) => s.wM (up s.M a d)
    | _ => s
  | .imm (.ref a) => s.wM (up s.M a d)
  | _ => s
theorem cell_of {s : DSt} {r : RV} {d : D} {k : D → (D → DSt) → Prop} (h : getC s r = some d) (q : k d (putC s r)) : cellOf s r k := by
  unfold getC at h
  unfold cellOf
  split at h
  · rename_i i
    split at h
    · rename_i z
      cases h
      simp only [z]
      have e : putC s (.slot i) = fun d' => s.put i (.own d') := by funext d'; simp [putC, z]
      rw [e] at q
      exact q
    · rename_i a z
      simp only [z]
      have e : putC s (.slot i) = fun d' => s.wM (up s.M a d') := by funext d'; simp [putC, z]
      rw [e] at q
      rw [h]
      exact q
    · cases h
  · rename_i a
    have e : putC s (.imm (.ref a)) = fun d' => s.wM (up s.M a d') := by funext d'; simp [putC]
    rw [e] at q
    show optP (s.M a) _
    rw [h]
    exact q
  · cases h
abbrev MF := D → List D → Option (D × D)
def mn (m : MF) : DMu := fun d ds k => ∃ p, m d ds = some p ∧ k p.1 p.2
def fMut (T : String) (m : MF) (o : FE) (t : FA) : FE := fun s => (o s).bind fun r s1 => opt (getC s1 r) fun d0 => chk (decide (kind d0 = T)) ((t s1).bind fun rs s2 => opt (stF s2 rs) fun p => opt (getC p.2 r) fun d => chk (decide (kind d = T)) (opt (m d p.1) fun q => .ret (.imm q.2) (putC p.2 r q.1)))
theorem le_mut {name : Str} {T : String} {m : MF} {o : FE} {t : FA} : LeE (wE (fMut T m o t)) (dMut name T (mn m) (wE o) (wA t)) := fun s Q X h => by
  simp only [wE, fMut, wp_bind, wp_opt, wp_chk, wp, decide_eq_true_eq] at h
  refine wp_id h fun r s1 ⟨d, e, hk, h⟩ => cell_of e ⟨hk, wp_id h fun rs s2 ⟨p, ep, d2, e2, hk2, q, eq, h⟩ => st_of ep (cell_of e2 ⟨hk2, q, eq, h⟩)⟩
theorem le_mut0 {name : Str} {T : String} {m : MF} {o : FE} : LeE (wE (fMut T m o fNil)) (dMut name T (mn m) (wE o) dNil) := le_mut (t := fNil)
section
variable {X : Cx} {G : Sig}
theorem MuOk.le {name : Str} {T : String} {f : DMu} {m : MF} (ok : MuOk X G name T f) (h : ∀ d ds p, m d ds = some p → ∀ k : D → D → Prop, k p.1 p.2 → f d ds k) : MuOk X G name T (mn m) := by
  obtain ⟨n, r, b, k⟩ := ok
  exact ⟨n, r, b, fun p o vs ds d H F Q k' hk hp hc rs sm ⟨q, e, ka⟩ hq => k p o vs ds d H F Q k' hk hp hc rs sm (h d ds q e k' ka) hq⟩
def nAppend : MF := fun d ds => match d, ds with
  | .lst xs, [y] => if xs.length < sizeLine then some (.lst (xs ++ [y]), .non) else none
  | _, _ => none
def nInsert : MF := fun d ds => match d, ds with
  | .lst xs, [.int i, y] => if xs.length < sizeLine ∧ 0 ≤ i ∧ i < 2 ^ 63 then some (.lst (xs.take i.toNat ++ [y] ++ xs.drop i.toNat), .non) else none
  | _, _ => none
def nPopAt : MF := fun d ds => match d, ds with
  | .lst xs, [.int i] => if -(2 ^ 63) ≤ i ∧ i < 2 ^ 63 then (seqIndex? i xs.length).bind fun j => (xs[j]?).map fun y => (.lst (xs.eraseIdx j), y) else none
  | _, _ => none
def nPop : MF := fun d ds => match d, ds with
  | .lst xs, [] => (xs[xs.length - 1]?).map fun y => (.lst xs.dropLast, y)
  | _, _ => none
def nReverse : MF := fun d ds => match d, ds with
  | .lst xs, [] => some (.lst xs.reverse, .non)
  | _, _ => none
theorem muf_append : MuOk X G "append" "list" (mn nAppend) := MuOk.le mu_append fun d ds p e k ka => by
  unfold nAppend at e
  split at e
  · split at e
    · rename_i h; cases e; exact ⟨h, ka⟩
    · cases e
  · cases e
theorem muf_insert : MuOk X G "insert" "list" (mn nInsert) := MuOk.le mu_insert fun d ds p e k ka => by
  unfold nInsert at e
  split at e
  · split at e
    · rename_i h; cases e; exact ⟨h.1, h.2.1, h.2.2, ka⟩
    · cases e
  · cases e
theorem muf_popAt : MuOk X G "pop" "list" (mn nPopAt) := MuOk.le mu_popAt fun d ds p e k ka => by
  unfold nPopAt at e
  split at e
  · split at e
    · rename_i h
      obtain ⟨j, e1, e2⟩ := Option.bind_eq_some_iff.mp e
      obtain ⟨y, e3, rfl⟩ := Option.map_eq_some_iff.mp e2
      refine ⟨h.1, h.2, ?_⟩
      rw [e1]; dsimp only [optP_s]; rw [e3]; exact ka
    · cases e
  · cases e
theorem muf_pop : MuOk X G "pop" "list" (mn nPop) := MuOk.le mu_pop fun d ds p e k ka => by
  unfold nPop at e
  split at e
  · obtain ⟨y, e3, rfl⟩ := Option.map_eq_some_iff.mp e
    show optP _ _; rw [e3]; exact ka
  · cases e
theorem muf_reverse : MuOk X G "reverse" "list" (mn nReverse) := MuOk.le mu_reverse fun d ds p e k ka => by
  unfold nReverse at e
  split at e
  · cases e; exact ka
  · cases e
end
/-! ### o[i] = v -/
def setI : D → D → D → Option D
  | .lst xs, .int k, dv => (ixN xs.length k).map fun j => .lst (xs.set j dv)
  | _, _, _ => none
def datOf : RV → Option D
  | .imm d => some d
  | _ => none
theorem datOf_some {r : RV} {d : D} (h : datOf r = some d) : r = .imm d := by
  unfold datOf at h
  split at h
  · cases h; rfl
  · cases h
def fgIx (o i : FE) : FG := fun r s => opt (stF1 s r.frz) fun p => (o p.2).bind fun ro s2 => (i s2).bind fun ri s3 => opt (datOf ri) fun k => opt (getC s3 ro) fun d => opt (setI d k p.1) fun d' => .ret () (putC s3 ro d')
theorem le_gIx {o i : FE} : LeG (wG (fgIx o i)) (gIx (wE o) (wE i)) := fun r s Q X h => by
  simp only [wG, fgIx, wp_bind, wp_opt, wp] at h
  obtain ⟨p, e, h⟩ := h
  refine st1_of e (wp_id h fun ro s2 h => wp_id h fun ri s3 ⟨k, ek, d, ed, d', ed', q⟩ => ?_)
  cases datOf_some ek
  unfold setI at ed'
  split at ed'
  · rename_i xs k
    refine cell_of ed ?_
    obtain ⟨j, e1, rfl⟩ := Option.map_eq_some_iff.mp ed'
    show optP _ _
    rw [e1]; exact q
  · cases ed'
/-! ### try .. except B as e -/
section
variable {X : Cx} {G : Sig} {c : Fm} {W : WX} {s : DSt} {F F' H H' : Hp} {σ : L2.St} {pos : Pos} {Mp : DM} {P : Nat → Addr}
def subM (M' M : DM) : Prop := ∀ a d, M' a = some d → M a = some d
/-- s' knows no more than s -/
structure Wkr (s s' : DSt) : Prop where
  m : subM s'.M s.M
  l : s'.sl.length = s.sl.length
  e : ∀ (j : Nat) (v : LV), s'.sl[j]? = some (some v) → s.sl[j]? = some (some v)
theorem Hold.drop {s' : DSt} (h : Hold G c s F σ H Mp P) (k : Wkr s s') : Hold G c s' F σ H Mp P := by
  refine ⟨h.ext, h.fz, h.fr, h.nw, h.be, h.bh, h.mem, fun b d q => h.sub b d (k.m b d q), by rw [k.l]; exact h.len, fun i d q => h.im i d (k.e _ _ q), fun i d q => ?_, fun i j d e q q' => h.inj i j d e (k.e _ _ q) (k.e _ _ q')⟩
  obtain ⟨a1, a2, a3, a4⟩ := h.ow i d (k.e _ _ q)
  refine ⟨a1, a2, ?_, a4⟩
  cases z : s'.M (P i) with
  | none => rfl
  | some e => rw [k.m _ e z] at a3; cases a3
theorem Holds.drop {s' : DSt} (h : Holds G c s F σ H) (k : Wkr s s') : Holds G c s' F σ H := by
  obtain ⟨Mp, P, h⟩ := h
  exact ⟨Mp, P, h.drop k⟩
theorem HoldsR.drop {r : RV} {v : V} {s' : DSt} (h : HoldsR G c s F σ H r v) (k : Wkr s s') : HoldsR G c s' F σ H r v := by
  obtain ⟨Mp, P, h, o⟩ := h
  refine ⟨Mp, P, h.drop k, ?_⟩
  cases r with
  | imm d => exact o
  | slot i => exact o
  | new d =>
    obtain ⟨p, e, m1, m2, m3, m4⟩ := o
    refine ⟨p, e, m1, ?_, m3, fun i e q => m4 i e (k.e _ _ q)⟩
    cases z : s'.M p with
    | none => rfl
    | some y => rw [k.m _ y z] at m2; cases m2
/-- some of what is known may be let go -/
def DEnds.wk (E : DEnds) : DEnds := ⟨fun s => ∃ s', Wkr s s' ∧ E.nx s', fun r s => ∃ s', Wkr s s' ∧ E.rt r s', fun s => ∃ s', Wkr s s' ∧ E.bk s', fun s => ∃ s', Wkr s s' ∧ E.ct s', E.x⟩
def dWk (t : DS) : DS := fun E s => t E.wk s
theorem ds_wk {st : Stmt} {t : DS} (h : PS X st (LS X G t)) : PS X st (LS X G (dWk t)) := PS.mono h fun D σ H ⟨c, W, s, F, E', tk, hs, ht, hn, hr, hb, hc, hx⟩ =>
  ⟨c, W, s, F, E'.wk, tk, hs, ht, fun s' F' σ' H' ⟨M', sb, q⟩ g h => hn _ F' σ' H' q g (h.drop sb), fun r s' v F' σ' H' ⟨M', sb, q⟩ g h => hr r _ v F' σ' H' q g (h.drop sb), fun s' F' σ' H' ⟨M', sb, q⟩ g h => hb _ F' σ' H' q g (h.drop sb), fun s' F' σ' H' ⟨M', sb, q⟩ g h => hc _ F' σ' H' q g (h.drop sb), hx⟩
end
theorem wkr_clr {s : DSt} {i : Nat} {M' : DM} (h : subM M' s.M) : Wkr s ((s.clr i).wM M') := ⟨h, by simp [DSt.clr, DSt.wM], fun j v q => by
  have q' : (s.sl.set i none)[j]? = some (some v) := q
  by_cases z : i = j
  · subst z
    rw [List.getElem?_set] at q'
    split at q'
    · split at q' <;> cases q'
    · exact absurd rfl (by assumption)
  · rw [List.getElem?_set_ne z] at q'
    exact q'⟩
theorem wkr_M {s : DSt} {M' : DM} (h : subM M' s.M) : Wkr s (s.wM M') := ⟨h, rfl, fun j v q => q⟩
/-- behind the suite: the name is gone, the refusal's dict too -/
def clrM (d : Option Addr) (M0 M : DM) : DM := match d with
  | some a => res M a M0
  | none => M
def clrF (i : Nat) (d : Option Addr) (M0 : DM) (o : Out) (s : DSt) : Tr DSt Out := .ret o ((s.clr i).wM (clrM d M0 s.M))
noncomputable def handF (i : Nat) (h : Exc → Addr → Option Addr → FS) (e : Exc) (s : DSt) : Tr DSt Out := match e.fs with
  | [] => al s.M fun a => (h e a none (s.put i (.imm (.ref a)))).noX.bind (clrF i none s.M)
  | [(f, x)] => al s.M fun a => al s.M fun d => (h e a (some d) ((s.wM (up s.M d (.xfd f x))).put i (.imm (.ref a)))).noX.bind (clrF i (some d) s.M)
  | _ => .bad
noncomputable def fTryAs (i : Nat) (sub : Str → Bool) (b : FS) (h : Exc → Addr → Option Addr → FS) : FS := fun s => (b s).hand fun e s' => cnd (sub e.cls) (handF i h e s') (.exc e s')
theorem subM_res {M M0 : DM} {a : Addr} (h : M0 a = none) : subM (res M a M0) M := fun b d q => by
  unfold res at q
  split at q
  · rw [h] at q; cases q
  · exact q
theorem clr_to {E : DEnds} {i : Nat} {d : Option Addr} {M0 : DM} {o : Out} {s : DSt} (hd : subM (clrM d M0 s.M) s.M) (q : (clrF i d M0 o s).wp (Out.to E) PXF) : Out.to (E.wk.clr i) o s := by
  cases o with
  | nx => exact ⟨_, wkr_M (s := s.clr i) hd, q⟩
  | rt r => exact ⟨_, wkr_clr hd, q⟩
  | bk => exact ⟨_, wkr_M (s := s.clr i) hd, q⟩
  | ct => exact ⟨_, wkr_M (s := s.clr i) hd, q⟩
theorem le_tryAs {i : Nat} {sub : Str → Bool} {b : FS} {h : Exc → Addr → Option Addr → FS} : LeS (wS (fTryAs i sub b h)) (dWk (dTryAs i sub (wS b) (fun e a d => wS (h e a d)))) := fun E s q => by
  simp only [wS, fTryAs, wp_hand] at q
  refine wp_mono q (fun o s' q => ?_) fun e s' q => ?_
  · cases o with
    | nx => exact ⟨s', wkr_M (M' := s'.M) fun _ _ z => z, q⟩
    | rt r => exact ⟨s', wkr_M (M' := s'.M) fun _ _ z => z, q⟩
    | bk => exact ⟨s', wkr_M (M' := s'.M) fun _ _ z => z, q⟩
    | ct => exact ⟨s', wkr_M (M' := s'.M) fun _ _ z => z, q⟩
  · show if sub e.cls = true then _ else _
    cases hs : sub e.cls with
    | false =>
      rw [hs] at q
      rw [if_neg (by decide)]
      exact q
    | true =>
      rw [hs] at q
      rw [if_pos rfl]
      intro a d na xd
      simp only [cnd] at q
      unfold handF at q
      rcases xd with ⟨e1, rfl⟩ | ⟨a', f, x, rfl, e1, nd⟩
      · simp only [e1] at q
        have q := al_wp q a na
        simp only [wp_bind, wp_noX] at q
        have ex : xM s'.M e none = s'.M := by unfold xM; rw [e1]
        rw [ex]
        exact wp_mono q (fun o s1 q => clr_to (d := none) (M0 := s'.M) (fun _ _ z => z) q) fun _ _ z => z
      · simp only [e1] at q
        have q := al_wp (al_wp q a na) a' nd
        simp only [wp_bind, wp_noX] at q
        have ex : xM s'.M e (some a') = up s'.M a' (.xfd f x) := by unfold xM; rw [e1]
        rw [ex]
        exact wp_mono q (fun o s1 q => clr_to (d := some a') (M0 := s'.M) (subM_res nd) q) fun _ _ z => z
def xfdOf (f : Str) : D → Option D
  | .xfd f' x => if f' = f then some x else none
  | _ => none
def fXf (a : Addr) (d : Option Addr) (f : Str) (t : FE) : FE := fun s => (t s).bind fun r s1 => opt (refOf r) fun b => chk (decide (b = a)) (opt d fun dd => opt ((s1.M dd).bind (xfdOf f)) fun x => .ret (.imm x) s1)
theorem le_xf {a : Addr} {d : Option Addr} {f : Str} {t : FE} : LeE (wE (fXf a d f t)) (dXf a d f (wE t)) := fun s Q X h => by
  simp only [wE, fXf, wp_bind, wp_opt, wp_chk, wp, decide_eq_true_eq] at h
  refine wp_id h fun r s1 ⟨b, eb, hb, dd, ed, x, ex, q⟩ => ?_
  cases refOf_some eb
  refine ⟨hb, ?_⟩
  rw [ed]
  show match s1.M dd with | some (.xfd f' x) => f' = f ∧ Q (.imm x) s1 | _ => False
  obtain ⟨y, e1, e2⟩ := Option.bind_eq_some_iff.mp ex
  rw [e1]
  unfold xfdOf at e2
  split at e2
  · split at e2
    · rename_i hf; cases e2; exact ⟨hf, q⟩
    · cases e2
  · cases e2
/-! ### comprehensions in the text -/
theorem le_gsCN {i : Nat} {u : FGs} {du : DGs} (h : LeGs (wGs u) du) : LeGs (wGs (fgsC (fgN i) u)) (gsC (gN i) du) := fun r s Q X q => by
  cases r with
  | nil => exact q
  | cons d ds =>
    simp only [wGs, fgsC, wp_bind] at q
    exact le_gN _ _ _ _ (wp_id q fun _ s1 q => h _ _ _ _ q)
theorem le_gTN {n : Nat} {u : FGs} {du : DGs} (h : LeGs (wGs u) du) : LeG (wG (fgT n u)) (gT n du) := fun r s Q X q => by
  unfold wG fgT at q
  unfold gT
  split at q
  · simp only [wp_chk, decide_eq_true_eq] at q; exact ⟨q.1, h _ _ _ _ q.2⟩
  · simp only [wp_chk, decide_eq_true_eq] at q; exact ⟨q.1, h _ _ _ _ q.2⟩
  · exact False.elim q
theorem ets {X : Cx} {G : Sig} {e : List Expr} {t u : DT} (m : LeT u t) (h : PTs X e (LTw G t)) : PTs X e (LTw G u) := PTs.mono h fun σ H Q ⟨c, s, F, Q', hs, ht, hq⟩ => ⟨c, s, F, Q', hs, m _ _ _ ht, hq⟩
theorem le_asgLc {it : FI} {g : FG} {dg : DG} {tt : FT} {te : FE} {vs : List Nat} {i : Nat} (lg : LeG (wG g) dg) : LeS (wS (fAsg (fLc it g tt te vs) (fgN i))) (dAsg (dLc (wI it) dg (wT tt) (wE te) vs) (gN i)) := fun E s h => by
  have h := le_asgN (t := fLc it g tt te vs) (i := i) E s h
  exact le_lc lg s _ _ h
/-! ### the defs -/
section
variable {P : Program} {w : World} {K : PySem.W.Frag} {mg : Str → Option Value} {base : Heap} {N ps : List Str} {k : Nat} {sp : DSp} {x nm qual m : Str} {st : Stmt} {C : Addr} {G : Sig} {b : DS}
/-- a def: the name it is called by, its own name -/
structure DefA (K : PySem.W.Frag) (mg : Str → Option Value) (x nm : Str) (st : Stmt) (ps : List Str) : Prop where
  ex : ∃ (f : Addr) (fd : FuncData), Fun K nm nm st f fd ∧ Binds K fd ps [] ∧ mg x = some (.ref f)
theorem DefA.cal {sp : Sp} (F : DefA K mg x nm st ps) (S : FnScope N ps (defScope st)) (len : ∀ vs H Q E, sp vs H Q E → vs.length = ps.length) (hbody : Body P w K mg base N nm st k sp) : Cal P w K mg base (k + 1) x sp := by
  obtain ⟨f, fd, F, b, g⟩ := F.ex
  exact ⟨f, fd, ps, F.okX S len (fun cdv A outer s H vs Q E hr h => hbody f cdv A outer s H vs Q E hr h), g, F.kp, b⟩
theorem calA_of (F : DefA K mg x nm st ps) (S : FnScope N ps (defScope st)) (ln : ∀ ds M Q X, sp ds M Q X → ds.length = ps.length) (vc : Vc b N.length sp) (wk : Wk P w K mg base G N nm st k b) : Cal P w K mg base (k + 1) x (lsp G sp) :=
  F.cal S (fun vs H Q E h => lsp_len ln h) fun f cdv A outer s H vs Q E hr h => ⟨_, wk f cdv A outer s H E hr, body_run vc (takes_of rfl rfl rfl rfl) h⟩
theorem calA_no (F : DefA K mg x nm st ps) (S : FnScope N ps (defScope st)) (z : ∀ ds M Q X, ¬ sp ds M Q X) : Cal P w K mg base (k + 1) x (lsp G sp) :=
  F.cal S (fun vs H Q E h => by obtain ⟨ds, M, F, Q', X', fz, hM, rs, hsp, _⟩ := h; exact (z _ _ _ _ hsp).elim) fun f cdv A outer s H vs Q E hr h => by obtain ⟨ds, M, F, Q', X', fz, hM, rs, hsp, _⟩ := h; exact (z _ _ _ _ hsp).elim
theorem mak_no (F : IniF K C qual st ps) (g : mg x = some (.ref C)) (S : FnScope N ps (defScope st)) (z : ∀ ds M Q X, ¬ sp ds M Q X) : Mak P w K mg base (k + 1) x C (lsp G sp) :=
  F.mak g S (fun vs H Q E h => by obtain ⟨ds, M, F, Q', X', fz, hM, rs, hsp, _⟩ := h; exact (z _ _ _ _ hsp).elim) fun f cdv A outer s H vs Q E hr h => by obtain ⟨ds, M, F, Q', X', fz, hM, rs, hsp, _⟩ := h; exact (z _ _ _ _ hsp).elim
end
/-- a table of methods -/
def dpL {F : Type} (tab : List (Str × F)) (c : F → Fn) : Fm' := fun C => (tab.lookup C).map c
theorem dpL_mem {F : Type} {c : F → Fn} : ∀ {tab : List (Str × F)} {C : Str} {x : Fn}, dpL tab c C = some x → C ∈ tab.map (·.1)
  | [], C, x, h => by simp [dpL] at h
  | (D, f) :: tab, C, x, h => by
    simp only [dpL, List.lookup] at h
    split at h
    · rename_i e
      simp only [List.map_cons, List.mem_cons]
      exact .inl (eq_of_beq e)
    · simp only [List.map_cons, List.mem_cons]
      exact .inr (dpL_mem (c := c) (x := x) h)
theorem dpL_at {F : Type} {c : F → Fn} {tab : List (Str × F)} {C : Str} {f : F} (h : tab.lookup C = some f) : dpL tab c C = some (c f) := by simp [dpL, h]
theorem dpM_no {F : Type} {tab : List (Str × F)} {C : Str} {ds : List D} {M : DM} {Q : AV → DM → Prop} {X : Exc → DM → Prop} : ¬ onC C (spM (dpL tab fun _ _ _ => .bad)) ds M Q X := fun ⟨_, d, r, p, c, e1, e2, e3, h⟩ => by
  simp only [dpL, Option.map_eq_some_iff] at e3
  obtain ⟨f, _, rfl⟩ := e3
  exact h
end DL

set_option Elab.async false
set_option linter.all false
set_option maxRecDepth 100000
set_option maxHeartbeats 4000000
/-! HD: the head: what the text says, as checks; the end. -/
namespace DL
open PySem PySem.Spec PyProof.Rows L2 PL
def asC (g : Addr → Option Obj) : Nat → List Addr
  | 0 => [mainGlobals, PySem.cStatics]
  | n + 1 => He.growD g (asC g n)
def obsC (chk : PySem.W.Frag → Bool) (fn : List He.DefD) (K : PySem.W.Frag) : He.AlD := (chk K && fn.all fun d => d.ok K, fn.map fun d => He.fnW K d.at_)
def SaysC (chk : PySem.W.Frag → Bool) (fn : List He.DefD) (K : PySem.W.Frag) : Prop := obsC chk fn K = He.valD fn
def obsCG (n : Nat) (chk : PySem.W.Frag → Bool) (fn : List He.DefD) (g : Addr → Option Obj) : He.AlD := obsC chk fn (He.frG g (asC g n))
def hookC (n : Nat) (chk : PySem.W.Frag → Bool) (fn : List He.DefD) : PySem.W.Hook where
  α := He.AlD
  obs := fun s => obsCG n chk fn s.heap.get?
  val := fun _ => He.valD fn
  says := fun _ h => ∃ K : PySem.W.Frag, K.In h ∧ SaysC chk fn K
  of := fun _ _ e => ⟨_, He.frG_in, e⟩
  keeps := fun _ _ _ ⟨K, hK, c⟩ k => ⟨K, PySem.W.Frag.In.keeps hK k, c⟩
theorem obsCG_eq {n : Nat} {chk : PySem.W.Frag → Bool} {fn : List He.DefD} {g : Addr → Option Obj} {s : Shared} (h : ∀ a, g a = s.heap.get? a) : obsCG n chk fn g = (hookC n chk fn).obs s := by
  have e : g = s.heap.get? := funext h
  rw [e] <;> rfl
section
variable {chk : PySem.W.Frag → Bool} {fn : List He.DefD} {K : PySem.W.Frag}
theorem SaysC.ck (c : SaysC chk fn K) : chk K = true := (He.ba (show (chk K && fn.all fun d => d.ok K) = true from congrArg (fun z : He.AlD => z.1) c)).1
theorem SaysC.def_ (c : SaysC chk fn K) (i : Nat) {d : He.DefD} (h : fn[i]? = some d) : ∃ fd, FunD K d.name d.qual d.params d.body d.scope (d.dvs K) (d.kws K) (He.fAd K d.at_) fd := by
  have c2 := (He.ba (show (chk K && fn.all fun d => d.ok K) = true from congrArg (fun z : He.AlD => z.1) c)).2
  have e : fn.map (fun d => He.fnW K d.at_) = fn.map He.DefD.val := congrArg (fun z : He.AlD => z.2) c
  have e2 : (fn.map fun d => He.fnW K d.at_)[i]? = (fn.map He.DefD.val)[i]? := by rw [e]
  rw [List.getElem?_map, List.getElem?_map, h] at e2
  exact He.DefD.funD (Option.some.inj e2) (List.all_eq_true.mp c2 d (List.mem_of_getElem? h))
theorem fun_of {x qual : Str} {st : Stmt} {f : Addr} {fd : FuncData} (F : FunD K x qual (defArgs st) (defBody st) (defScope st) [] [] f fd) : Fun K x qual st f fd := by
  obtain ⟨oc, od, dV, kV, doc, pm, an, cdv, ct, osl, e, lk, hcd, hd, hk⟩ := F.ex
  rcases hd with ⟨_, rfl⟩ | ⟨n, _⟩
  · exact ⟨⟨oc, od, kV, doc, pm, an, cdv, ct, osl, e, lk, hcd⟩, F.kp⟩
  · exact absurd rfl n
abbrev dD (at_ : Str × Option Str) (name qual : Str) (st : Stmt) : He.DefD := ⟨at_, name, qual, defArgs st, defBody st, defScope st, [], []⟩
/-- how the arguments bind -/
abbrev BindA (x qual : Str) (st : Stmt) (ps : List Str) : Prop := ∀ (kV doc pm : Value) (an : Option Addr) (cdv ct : Value) (us : List Value), us.length = ps.length → bindArgs (PySem.W.fnOf x qual (defArgs st) (defBody st) (defScope st) .none kV doc pm an cdv ct) ⟨us, []⟩ = pure (ps.zip us)
variable {h : Heap} {mg : Str → Option Value} {x nm qual m : Str} {st : Stmt} {ps : List Str} {C : Str}
theorem defA (c : SaysC chk fn K) (X : K.In h) (G : h.Ns mainGlobals mg) (i : Nat) (hi : fn[i]? = some (dD (x, none) nm nm st)) (g : (He.Fa.glo x).ok K = true) (b : BindA nm nm st ps) : DefA K mg x nm st ps := by
  obtain ⟨fd, F⟩ := c.def_ i hi
  have F := fun_of (x := _) (qual := _) (st := st) F
  exact ⟨_, fd, F, F.binds b, He.glo_ok X G g⟩
theorem metF (c : SaysC chk fn K) (i : Nat) (hi : fn[i]? = some (dD (C, some m) m qual st)) (g : (He.Fa.meth C m).ok K = true) (b : BindA m qual st ps) : MetF K (He.ga K C) m qual st ps := by
  obtain ⟨fd, F⟩ := c.def_ i hi
  have F := fun_of (x := _) (qual := _) (st := st) F
  exact ⟨_, fd, F, F.binds b, He.meth_ok g⟩
theorem iniF (c : SaysC chk fn K) (i : Nat) (hi : fn[i]? = some (dD (C, some "__init__") "__init__" qual st)) (g : (He.Fa.mkr C).ok K = true) (b : BindA "__init__" qual st ps) : IniF K (He.ga K C) qual st ps := by
  obtain ⟨fd, F⟩ := c.def_ i hi
  have F := fun_of (x := _) (qual := _) (st := st) F
  exact ⟨_, fd, F, F.binds b, He.mkr_ok g⟩
theorem defAK (fv : He.fnW K (dD (x, none) nm nm st).at_ = (dD (x, none) nm nm st).val) (fo : (dD (x, none) nm nm st).ok K = true) (X : K.In h) (G : h.Ns mainGlobals mg) (g : (He.Fa.glo x).ok K = true) (b : BindA nm nm st ps) : DefA K mg x nm st ps := by
  obtain ⟨fd, F⟩ := He.DefD.funD fv fo
  have F := fun_of (x := nm) (qual := nm) (st := st) F
  exact ⟨_, fd, F, F.binds b, He.glo_ok X G g⟩
theorem metFK (fv : He.fnW K (dD (C, some m) m qual st).at_ = (dD (C, some m) m qual st).val) (fo : (dD (C, some m) m qual st).ok K = true) (g : (He.Fa.meth C m).ok K = true) (b : BindA m qual st ps) : MetF K (He.ga K C) m qual st ps := by
  obtain ⟨fd, F⟩ := He.DefD.funD fv fo
  have F := fun_of (x := m) (qual := qual) (st := st) F
  exact ⟨_, fd, F, F.binds b, He.meth_ok g⟩
theorem iniFK (fv : He.fnW K (dD (C, some "__init__") "__init__" qual st).at_ = (dD (C, some "__init__") "__init__" qual st).val) (fo : (dD (C, some "__init__") "__init__" qual st).ok K = true) (g : (He.Fa.mkr C).ok K = true) (b : BindA "__init__" qual st ps) : IniF K (He.ga K C) qual st ps := by
  obtain ⟨fd, F⟩ := He.DefD.funD fv fo
  have F := fun_of (x := "__init__") (qual := qual) (st := st) F
  exact ⟨_, fd, F, F.binds b, He.mkr_ok g⟩
/-! ### checks -/
def fldB (cs : List Str) (f : Str) (K : PySem.W.Frag) : Bool := cs.all fun C => (He.Fa.cls C).ok K && (He.Fa.noat C f).ok K
theorem fld_ok {cs xs : List Str} {f : Str} (c : fldB cs f K = true) : FldOk ⟨K, He.ga K, cs, xs⟩ f := fun C hC => by
  have := He.ba (List.all_eq_true.mp c C hC)
  exact ⟨He.cls_ok this.1, He.noat_ok this.2⟩
def xfBs (xs : List Str) (f : Str) (K : PySem.W.Frag) : Bool := xs.all fun C => xfB K (He.ga K C) && (He.Fa.noat C f).ok K
theorem xf_ok {cs xs : List Str} {f : Str} (c : xfBs xs f K = true) : XfOk ⟨K, He.ga K, cs, xs⟩ f := fun C hC => by
  have := He.ba (List.all_eq_true.mp c C hC)
  exact ⟨xfB_ok this.1, He.noat_ok this.2⟩
def xmB (xs : List Str) (B : Str) (sub : Str → Bool) (K : PySem.W.Frag) : Bool := xs.all fun C => (He.Fa.exm C B (sub C)).ok K
theorem xm_ok {cs xs : List Str} {B : Str} {sub : Str → Bool} (c : xmB xs B sub K = true) : XmOk ⟨K, He.ga K, cs, xs⟩ B sub := fun C hC => He.exm_ok (List.all_eq_true.mp c C hC)
def isfB (cs : List Str) (sub : Str → Str → Bool) (K : PySem.W.Frag) : Bool :=
  (cs.all fun C => (He.Fa.cls C).ok K && (He.eqO (PySem.W.findIn K (.ref (He.ga K C)) "__class__") (some (some (.builtin "object.__class__"))) && decide (PySem.W.mroIn K (He.ga K C) (.type "object") = some true))) &&
  (He.eqO (PySem.W.specialIn K (.builtin "object.__class__") "__get__") (some (some (.builtin "getset_descriptor.__get__"))) && (decide (PySem.W.takesIn K (.builtin "object.__class__") = some true) &&
  ((cs.all fun C => tys.all fun T => decide (PySem.W.kitOne K (.ref (He.ga K C)) (.type T) = some false)) && ((cs.all fun C => cs.all fun B => decide (PySem.W.kitOne K (.ref (He.ga K C)) (.ref (He.ga K B)) = some (sub C B))) &&
  (["NoneType", "bool", "int", "str", "list", "tuple", "dict"].all fun t => cs.all fun B => decide (PySem.W.kitOne K (.type t) (.ref (He.ga K B)) = some false))))))
theorem isf_ok {cs xs : List Str} {sub : Str → Str → Bool} (c : isfB cs sub K = true) : IsF ⟨K, He.ga K, cs, xs⟩ sub := by
  obtain ⟨c1, c⟩ := He.ba c
  obtain ⟨c2, c⟩ := He.ba c
  obtain ⟨c3, c⟩ := He.ba c
  obtain ⟨c4, c⟩ := He.ba c
  obtain ⟨c5, c6⟩ := He.ba c
  refine ⟨fun C hC => ?_, He.eqO_ok c2, of_decide_eq_true c3, fun C hC T hT => of_decide_eq_true (List.all_eq_true.mp (List.all_eq_true.mp c4 C hC) T hT), fun C hC B hB => of_decide_eq_true (List.all_eq_true.mp (List.all_eq_true.mp c5 C hC) B hB), fun t ht B hB => of_decide_eq_true (List.all_eq_true.mp (List.all_eq_true.mp c6 t ht) B hB)⟩
  obtain ⟨d1, d⟩ := He.ba (List.all_eq_true.mp c1 C hC)
  obtain ⟨d2, d3⟩ := He.ba d
  exact ⟨He.cls_ok d1, He.eqO_ok d2, of_decide_eq_true d3⟩
/-- a plain refusal may be raised -/
structure RsF (K : PySem.W.Frag) (C : Str) : Prop where
  ok : (He.Fa.exc C).ok K = true
theorem rs_mk {X : Cx} {p p2 pos : Pos} {m : Str} {j} (R : RsF K C) (hK : X.K = K) (g : X.mg C = some (.ref (He.ga K C))) (hg : Gl X C) (hdb : (C == ("__debug__" : Str)) = false := by decide) : PMk X (.Call (.Name C p) [.Constant (.str m) j p2] [] pos) (fun _ H Q => Q (.ref (He.ga K C)) none H) := by
  subst hK
  obtain ⟨h1, h2, h3, h4⟩ := He.exc_ok R.ok
  exact pmk_own PySem.F.excBase_ValueError h1 g h2 (raises_own h3 h4) hg hdb
theorem rs_mk' {X : Cx} {Z : Str → Addr} {p p2 pos : Pos} {m : Str} {j} (R : RsF K C ∧ Z C = He.ga K C) (hK : X.K = K) (g : X.mg C = some (.ref (Z C))) (hg : Gl X C) (hdb : (C == ("__debug__" : Str)) = false := by decide) : PMk X (.Call (.Name C p) [.Constant (.str m) j p2] [] pos) (fun _ H Q => Q (.ref (Z C)) none H) := by
  rw [R.2] at g ⊢
  exact rs_mk R.1 hK g hg hdb
def oexB (K : PySem.W.Frag) (C : Addr) : Bool := (match K.lookup C with
  | some ⟨.type "type", _, .cls cd, sl⟩ => (match cd.mro, sl.toList with
    | .ref C' :: bm, [_, _, _, _, some (.builtin n), _] => decide (C' = C) && (decide (n = "ValueError.__new__") && (!cd.hasDel && (cd.hasDict && PySem.HandSPX.refsVE bm)))
    | _, _ => false)
  | _ => false) && (He.eqO (PySem.W.findIn K (.ref C) "__setattr__") (some (some (.builtin "object.__setattr__"))) && (decide (PySem.W.subIn K (.ref C) (.type "BaseException") = some true) && (decide (PySem.W.typeIn K (.ref C) = some (.type "type")) && PySem.W.keepIn K (.ref C))))
theorem oex_ok {a : Addr} (q : oexB K a = true) : OexC K a := by
  obtain ⟨q, c⟩ := He.ba q
  obtain ⟨c2, c⟩ := He.ba c
  obtain ⟨c3, c⟩ := He.ba c
  obtain ⟨c4, c5⟩ := He.ba c
  refine ⟨?_, He.eqO_ok c2, of_decide_eq_true c3, of_decide_eq_true c4, c5⟩
  split at q
  · rename_i dd cd sl ho
    split at q
    · rename_i C' bm k0 k1 k2 k3 n k5 hm hs
      simp only [Bool.and_eq_true, decide_eq_true_eq, Bool.not_eq_true'] at q
      obtain ⟨rfl, rfl, hdel, hdct, ht⟩ := q
      obtain ⟨nm, bs, mro, ns, qn, hd, sn, sub, ab, col, del⟩ := cd
      dsimp only at hm hdel hdct
      subst hm hdel hdct
      have hsl : sl = #[k0, k1, k2, k3, some (.builtin "ValueError.__new__"), k5] := by
        obtain ⟨l⟩ := sl
        simp only at hs
        rw [hs]
      subst hsl
      exact ⟨nm, qn, ns, bs, bm, sn, sub, ab, col, dd, k0, k1, k2, k3, k5, ho, ht⟩
    · cases q
  · cases q
def xinB (C f : Str) (K : PySem.W.Frag) : Bool := oexB K (He.ga K C) && ((He.Fa.noat C f).ok K && (He.eqO (PySem.W.findIn K (.ref (He.ga K C)) "__init__") (some (some (.ref (He.ma K (He.ga K C) "__init__")))) && decide (PySem.W.typeIn K (.ref (He.ma K (He.ga K C) "__init__")) = some (.type "function"))))
theorem xin_ok {f : Str} (c : SaysC chk fn K) (i : Nat) (hi : fn[i]? = some (dD (C, some "__init__") "__init__" qual st)) (q : xinB C f K = true) (b : BindA "__init__" qual st ["self", f]) : XIniF K (He.ga K C) qual st f := by
  obtain ⟨q1, q⟩ := He.ba q
  obtain ⟨q2, q⟩ := He.ba q
  obtain ⟨q3, q4⟩ := He.ba q
  obtain ⟨fd, F⟩ := c.def_ i hi
  have F := fun_of (x := _) (qual := _) (st := st) F
  exact ⟨oex_ok q1, He.noat_ok q2, _, fd, F, F.binds b, He.eqO_ok q3, of_decide_eq_true q4⟩
theorem xin_okK {f : Str} (fv : He.fnW K (dD (C, some "__init__") "__init__" qual st).at_ = (dD (C, some "__init__") "__init__" qual st).val) (fo : (dD (C, some "__init__") "__init__" qual st).ok K = true) (q : xinB C f K = true) (b : BindA "__init__" qual st ["self", f]) : XIniF K (He.ga K C) qual st f := by
  obtain ⟨q1, q⟩ := He.ba q
  obtain ⟨q2, q⟩ := He.ba q
  obtain ⟨q3, q4⟩ := He.ba q
  obtain ⟨fd, F⟩ := He.DefD.funD fv fo
  have F := fun_of (x := "__init__") (qual := qual) (st := st) F
  exact ⟨oex_ok q1, He.noat_ok q2, _, fd, F, F.binds b, He.eqO_ok q3, of_decide_eq_true q4⟩
def viB (C : Str) (K : PySem.W.Frag) : Bool := PySem.W.readsIn K (He.ga K C) (.type "type") && (He.eqO (PySem.W.specialIn K (.ref (He.ga K C)) "__getattribute__") (some (some (.builtin "type.__getattribute__"))) && (match PySem.W.findCls K (.ref (He.ga K C)) (.type "type") "__init__" with
  | some (.val (.builtin n)) => decide (n = "ValueError.__init__")
  | _ => false))
theorem vi_ok (q : viB C K = true) : ∃ mc, PySem.W.readsIn K (He.ga K C) mc = true ∧ PySem.W.specialIn K (.ref (He.ga K C)) "__getattribute__" = some (some (.builtin "type.__getattribute__")) ∧ PySem.W.findCls K (.ref (He.ga K C)) mc "__init__" = some (.val (.builtin "ValueError.__init__")) := by
  obtain ⟨q1, q⟩ := He.ba q
  obtain ⟨q2, q⟩ := He.ba q
  refine ⟨_, q1, He.eqO_ok q2, ?_⟩
  split at q
  · rename_i n e
    rw [e, of_decide_eq_true q]
  · cases q
/-! ### constants -/
def flatVs : List D → Bool := fun xs => xs.all flatD
def cTup (K : PySem.W.Frag) (a : Addr) (xs : List D) : Bool := match K.lookup a with
  | some ⟨.type "tuple", none, .seq its _, _⟩ => flatVs xs && (decide (its.size ≤ sizeLine) && He.relAll (xs.map sv) its.toList)
  | _ => false
theorem reps_flat {G : Sig} {F : Hp} : ∀ {xs : List D}, flatVs xs = true → Reps G F xs (xs.map sv)
  | [], _ => rfl
  | x :: xs, h => by
    simp only [flatVs, List.all_cons, Bool.and_eq_true] at h
    refine Reps.cons ?_ (reps_flat h.2)
    have h1 := h.1
    cases x <;> simp [flatD] at h1 <;> rfl
theorem cTup_ok {G : Sig} {F : Hp} {a : Addr} {xs : List D} (q : cTup G.K a xs = true) : Rep G F (.tup xs) (.ref a) := by
  unfold cTup at q
  split at q
  · rename_i its n sl ho
    obtain ⟨q1, q⟩ := He.ba q
    obtain ⟨q2, q3⟩ := He.ba q
    simp only [Rep]
    exact ⟨a, _, rfl, .inr ⟨_, its, n, ho, rfl, rfl, rfl, of_decide_eq_true q2, He.relAll_ok q3⟩, reps_flat q1⟩
  · cases q
/-! ### the end -/
theorem walk_end {l : PySem.W.OpenLaw} {n k : Nat} {q : Program} {loose : List Str} {XP : (Str → Option Value) → Heap → Prop} {YP : World → Heap → Prop} {d : DefRec} {CX : World → CXT} {x : Str}
    (hn : l.most = some n) (hn2 : n ≤ sizeLine) (hdf : d.params.defaults = []) (hr : Room k callerA)
    (F : ∀ (w : World) (mg : Str → Option Value) (fa : Addr) (h : Heap), YP w h → h.Ns mainGlobals mg → mg d.name = some (.ref fa) →
      ∃ (K : PySem.W.Frag) (fd : FuncData) (sp : Sp), K.In h ∧ (∀ (s : Shared) (u : Value), BindsTo s fd ⟨[u], []⟩ [(x, u)]) ∧
        (∀ (H : Hp) (a : Addr) (ns : List Int), ns.length ≤ n → (∀ z ∈ ns, Builtin.Int.intBits z ≤ 1048576) → Only H → SqL K H a (ns.map V.int) → sp [.ref a] H (fun v _ => v = .bl true) fun _ _ _ => False) ∧
        ∀ base : Heap, K.In base → base.Ns mainGlobals mg → FnOk l.prog w K mg base (CX w) k fa fd [x] sp)
    (hCX : ∀ (w : World) (H : Hp) (s : Shared) (e : Value) (s' : Shared), CX w [] H s (fun _ _ _ => False) e s' → False) :
    PySem.W.WalkO q loose XP YP l.row.toRowW d [] (fun f vs => PySem.call f vs) := by
  refine Att.attach_callB hn hdf fun w s₀ s₁ mg mb fa o pm cd doc a vs ns G Y ho hd hcd hmg hobj hints hlen hbits hg => ?_
  obtain ⟨K, fd, sp, KX, hb, hsp, hF⟩ := F w mg fa _ Y G.T.g hmg
  exact law_call KX G.T.g G.T.b G.T.builtins G.T.nolimit hg hobj hints (Nat.le_trans hlen hn2) hr hF hb (fun H hO hS => hsp H a ns hlen hbits hO hS) fun H e s' => hCX w H s₁ e s'
theorem reps_ints2 {G : Sig} {F : Hp} : ∀ {ns : List Int}, Reps G F (ns.map .int) (ns.map V.int)
  | [] => rfl
  | _ :: ns => Reps.cons rfl (reps_ints2 (ns := ns))
/-- the law's promise, from its function -/
theorem law_sp {G : Sig} {c : Fn} {H : Hp} {a : Addr} {ns : List Int} (hS : SqL G.K H a (ns.map V.int)) (h : (c [.lst (ns.map .int)] (fun _ => none)).wp (fun r _ => r = .imm (.bl true)) (fun _ _ => False)) : lsp G (spF c) [.ref a] H (fun v _ => v = .bl true) (fun _ _ _ => False) := by
  refine ⟨[.lst (ns.map .int)], fun _ => none, H, _, _, Same.refl _, (fun a d q => by cases q), ?_, h, fun r M' v F' H' q _ e => ?_, fun e M' d F' H' q _ _ _ => q⟩
  · refine Reps.cons ?_ rfl
    simp only [Rep]
    exact ⟨a, _, rfl, hS, reps_ints2⟩
  · subst q
    exact e
end
end DL

set_option Elab.async false
set_option linter.all false
set_option maxRecDepth 100000
set_option maxHeartbeats 4000000
namespace DL
open PySem PySem.Spec PyProof.Rows L2 PL
open Tr
/-! FX: the equations by which a body is read -/
/-- trees of answers -/
theorem fxT : (∀ {σ α β : Type} (a : α) (s : σ) (f : α → σ → Tr σ β), (Tr.ret a s).bind f = f a s) ∧ (∀ {σ α β : Type} (e : Exc) (s : σ) (f : α → σ → Tr σ β), (Tr.exc e s).bind f = .exc e s) ∧ (∀ {σ α β : Type} (f : α → σ → Tr σ β), (Tr.bad : Tr σ α).bind f = .bad) ∧
  (∀ {σ α : Type} (a : α) (s : σ) (h : Exc → σ → Tr σ α), (Tr.ret a s).hand h = .ret a s) ∧ (∀ {σ α : Type} (e : Exc) (s : σ) (h : Exc → σ → Tr σ α), (Tr.exc e s).hand h = h e s) ∧ (∀ {σ α : Type} (h : Exc → σ → Tr σ α), (Tr.bad : Tr σ α).hand h = .bad) ∧
  (∀ {σ α : Type} (a : α) (s : σ), (Tr.ret a s).noX = .ret a s) ∧ (∀ {σ α : Type} (e : Exc) (s : σ), (Tr.exc e s : Tr σ α).noX = .bad) ∧ (∀ {σ α : Type} (t : Tr σ α), chk true t = t) ∧ (∀ {σ α : Type} (t : Tr σ α), chk false t = .bad) ∧ (∀ {σ α : Type} (M : DM) (t : Tr σ α), al M (fun _ => t) = t) ∧
  (∀ {σ α β : Type} (a : α) (k : α → Tr σ β), opt (some a) k = k a) ∧ (∀ {σ α β : Type} (k : α → Tr σ β), opt none k = .bad) ∧
  (∀ {σ τ α β : Type} (a : α) (s : σ) (g : σ → τ) (f : α → β), (Tr.ret a s).lift g f = .ret (f a) (g s)) ∧ (∀ {σ τ α β : Type} (e : Exc) (s : σ) (g : σ → τ) (f : α → β), (Tr.exc e s : Tr σ α).lift g f = .exc e (g s)) ∧
  (∀ {σ τ α β : Type} (a : α) (s : σ) (f : α → σ → Tr τ β) (h : Exc → σ → Tr τ β), (Tr.ret a s).both f h = f a s) ∧ (∀ {σ τ α β : Type} (e : Exc) (s : σ) (f : α → σ → Tr τ β) (h : Exc → σ → Tr τ β), (Tr.exc e s).both f h = h e s) ∧ (∀ {σ τ α β : Type} (f : α → σ → Tr τ β) (h : Exc → σ → Tr τ β), (Tr.bad : Tr σ α).both f h = .bad) ∧
  (∀ {α : Type} (x y : α), cnd true x y = x) ∧ (∀ {α : Type} (x y : α), cnd false x y = y) :=
  ⟨fun _ _ _ => rfl, fun _ _ _ => rfl, fun _ => rfl, fun _ _ _ => rfl, fun _ _ _ => rfl, fun _ => rfl, fun _ _ => rfl, fun _ _ => rfl, fun _ => rfl, fun _ => rfl, fun _ _ => al_const, fun _ _ => rfl, fun _ => rfl, fun _ _ _ _ => rfl, fun _ _ _ _ => rfl, fun _ _ _ _ => rfl, fun _ _ _ _ => rfl, fun _ _ => rfl, fun _ _ => rfl, fun _ _ => rfl⟩
/-- statements, expressions -/
theorem fxS : (∀ t u s, fSeq t u s = (t s).bind (nxt u)) ∧ (∀ k s, nxt k .nx s = k s) ∧ (∀ k r s, nxt k (.rt r) s = .ret (.rt r) s) ∧ (∀ k s, nxt k .bk s = .ret .bk s) ∧ (∀ k s, nxt k .ct s = .ret .ct s) ∧
  (∀ t s, fRet t s = (t s).bind fun r s1 => .ret (.rt r) s1) ∧ (∀ s, fRetN s = .ret (.rt (.imm .non)) s) ∧ (∀ t s, fExp t s = (t s).bind fun _ s1 => .ret .nx s1) ∧ (∀ s, fPass s = .ret .nx s) ∧ (∀ s, fBrk s = .ret .bk s) ∧ (∀ s, fCnt s = .ret .ct s) ∧
  (∀ t a b s, fIf t a b s = (t s).bind fun k s1 => cnd k (a s1) (b s1)) ∧ (∀ t g s, fAsg t g s = (t s).bind fun r s1 => (g r s1).bind fun _ s2 => .ret .nx s2) ∧ (∀ it g b s, fFor it g b s = (it s).bind fun j s1 => forF j.ok g b j.xs s1) ∧
  (∀ C s, fRaise C s = .exc ⟨C, []⟩ s) ∧ (∀ C f t s, fRaiseA C f t s = (t s).bind fun r s1 => opt (stF1 s1 r.frz) fun p => .exc ⟨C, [(f, p.1)]⟩ p.2) ∧
  (∀ f o v s, fSetF f o v s = (v s).bind fun rv s1 => opt (stF1 s1 rv.frz) fun p => (o p.2).bind fun ro s3 => opt (refOf ro) fun a => opt ((s3.M a).bind (setF f p.1)) fun e => .ret .nx (s3.wM (up s3.M a e))) ∧
  (∀ sub b h s, fTry sub b h s = (b s).hand fun e s' => cnd (sub e.cls) (h e s').noX (.exc e s')) ∧ (∀ i sub b h s, fTryAs i sub b h s = (b s).hand fun e s' => cnd (sub e.cls) (handF i h e s') (.exc e s')) := by
  refine ⟨?_, ?_, ?_, ?_, ?_, ?_, ?_, ?_, ?_, ?_, ?_, ?_, ?_, ?_, ?_, ?_, ?_, ?_, ?_⟩ <;> intros <;> rfl
theorem fxE : (∀ s, fNil s = .ret [] s) ∧ (∀ t u s, fCons t u s = (t s).bind fun r s1 => (u s1).bind fun rs s2 => .ret (r.frz :: rs) s2) ∧ (∀ p t s, fPrim p t s = (t s).bind fun rs s1 => opt (vwF s1 rs) fun ds => opt (p ds) fun a => .ret a.rv s1) ∧
  (∀ d s, fC d s = .ret (.imm d) s) ∧ (∀ t s, fB t s = (t s).bind fun r s1 => opt (boolOf r) fun b => .ret b s1) ∧ (∀ b, boolOf (.imm (.bl b)) = some b) ∧ (∀ t u s, fAnd t u s = (t s).bind fun b s1 => cnd b (u s1) (.ret false s1)) ∧ (∀ t u s, fOr t u s = (t s).bind fun b s1 => cnd b (.ret true s1) (u s1)) ∧ (∀ t s, fNot t s = (t s).bind fun b s1 => .ret (!b) s1) ∧
  (∀ t u s, fAndV t u s = (t s).bind fun r s1 => opt (boolOf r) fun b => cnd b (u s1) (.ret (.imm (.bl false)) s1)) ∧ (∀ t u s, fOrV t u s = (t s).bind fun r s1 => opt (boolOf r) fun b => cnd b (.ret (.imm (.bl true)) s1) (u s1)) ∧ (∀ t s, fNotV t s = (t s).bind fun r s1 => opt (boolOf r) fun b => .ret (.imm (.bl (!b))) s1) ∧
  (∀ t a b s, fIfE t a b s = (t s).bind fun k s1 => cnd k (a s1) (b s1)) ∧ (∀ t s, fTup t s = (t s).bind fun rs s1 => opt (stF s1 rs) fun p => chk (decide (p.1.length ≤ sizeLine)) (.ret (.imm (.tup p.1)) p.2)) ∧ (∀ t s, fLst t s = (t s).bind fun rs s1 => opt (stF s1 rs) fun p => chk (decide (p.1.length ≤ sizeLine)) (.ret (.new (.lst p.1)) p.2)) ∧
  (∀ c t s, fCall c t s = (t s).bind fun rs s1 => opt (stF s1 rs) fun p => (c p.1 p.2.M).lift p.2.wM AV.rv) ∧ (∀ f t s, fFld f t s = (t s).bind fun r s1 => opt ((view s1 r.frz).bind (fldF f)) fun d => .ret (.imm d) s1) ∧
  (∀ lo hi t s, fSl t lo hi s = (t s).bind fun r s1 => (lo s1).bind fun l s2 => (hi s2).bind fun u s3 => opt ((view s3 r.frz).bind fun d => qSl d l u) fun a => .ret a.rv s3) ∧ (∀ s, fNoP s = .ret none s) ∧ (∀ t s, fPart t s = (t s).bind fun r s1 => opt (intOf r) fun i => .ret (some i) s1) ∧ (∀ i, intOf (.imm (.int i)) = some i) ∧
  (∀ a d f t s, fXf a d f t s = (t s).bind fun r s1 => opt (refOf r) fun b => chk (decide (b = a)) (opt d fun dd => opt ((s1.M dd).bind (xfdOf f)) fun x => .ret (.imm x) s1)) ∧ (∀ a, refOf (.imm (.ref a)) = some a) := by
  refine ⟨?_, ?_, ?_, ?_, ?_, ?_, ?_, ?_, ?_, ?_, ?_, ?_, ?_, ?_, ?_, ?_, ?_, ?_, ?_, ?_, ?_, ?_, ?_⟩ <;> intros <;> rfl
/-- a class made, its arguments known -/
noncomputable def mkK (C : Str) (c : Fn) (ds : List D) (s : DSt) : Tr DSt RV := al s.M fun a => (c (.ref a :: ds) (up s.M a (.ins C [] []))).both (fun r M' => chk (isNonV r) (opt (M' a) fun d => .ret (.new d) (s.wM (res M' a s.M)))) (fun e M' => .exc e (s.wM (res M' a s.M)))
/-- a method called, its thing known -/
def mtK (m : Str) (dp : Fm') (t : FA) (d : D) (q : Str × List Str) (s : DSt) : Tr DSt RV := opt (dp q.1) fun c => chk (!(q.2.contains m)) ((t s).bind fun rs s3 => opt (stF s3 rs) fun p4 => opt ((viewD p4.2.M d).bind clsOf) fun q2 => chk (decide (q2.1 = q.1)) ((c (d :: p4.1) p4.2.M).lift p4.2.wM AV.rv))
def meth (m : Str) (dp : Fm') (t : FA) (d : D) (s : DSt) : Tr DSt RV := opt ((viewD s.M d).bind clsOf) fun q => mtK m dp t d q s
theorem fxM : (∀ C c t s, fMake C c t s = (t s).bind fun rs s1 => opt (stF s1 rs) fun p => mkK C c p.1 p.2) ∧ (∀ m dp o t s, fMeth m dp o t s = (o s).bind fun r s1 => opt (stF1 s1 r.frz) fun p => meth m dp t p.1 p.2) ∧ (∀ m dp t C ns vs s, meth m dp t (.ins C ns vs) s = opt (dp C) fun c => chk (!(ns.contains m)) ((t s).bind fun rs s3 => opt (stF s3 rs) fun p4 => (c (.ins C ns vs :: p4.1) p4.2.M).lift p4.2.wM AV.rv)) ∧ (∀ C ns vs, clsOf (.ins C ns vs) = some (C, ns)) ∧
  (∀ n np b ds M, runB n np b ds M = chk (decide (ds.length = np)) ((b (st0 n ds M)).both (fun o s => endF o s) (fun e s => .exc e s.M))) ∧ (∀ s, endF .nx s = .ret (.imm .non) s.M) ∧ (∀ r s, endF (.rt r) s = opt (outF s r) fun a => .ret a s.M) := by
  refine ⟨fun _ _ _ _ => rfl, fun _ _ _ _ _ => rfl, fun m dp t C ns vs s => ?_, fun _ _ _ => rfl, fun _ _ _ _ _ => rfl, fun _ => rfl, fun _ _ => rfl⟩
  simp only [meth, mtK, viewD, Option.bind_some, clsOf, opt_some]
  rw [show (decide (C = C)) = true from decide_eq_true rfl]
  rfl
/-- values -/
theorem fxV : (∀ d, RV.frz (.imm d) = .imm d) ∧ (∀ d, RV.frz (.new d) = .imm d) ∧ (∀ i, RV.frz (.slot i) = .slot i) ∧ (∀ d, AV.rv (.imm d) = .imm d) ∧ (∀ d, AV.rv (.new d) = .new d) ∧
  (∀ sl M i v, DSt.put ⟨sl, M⟩ i v = ⟨sl.set i (some v), M⟩) ∧ (∀ sl M M', DSt.wM ⟨sl, M⟩ M' = ⟨sl, M'⟩) ∧ (∀ sl M i, DSt.clr ⟨sl, M⟩ i = ⟨sl.set i none, M⟩) ∧
  (∀ s d, view s (.imm d) = viewD s.M d) ∧ (∀ s d, view s (.new d) = some d) ∧ (∀ s d, stF1 s (.imm d) = some (d, s)) ∧ (∀ s d, stF1 s (.new d) = some (d, s)) ∧ (∀ s, stF s [] = some ([], s)) ∧ (∀ s d rs, stF s (.imm d :: rs) = (stF s rs).map fun q => (d :: q.1, q.2)) ∧
  (∀ s, vwF s [] = some []) ∧ (∀ s r rs, vwF s (r :: rs) = (view s r).bind fun d => (vwF s rs).map fun ds => d :: ds) ∧ (∀ s d, outF s (.imm d) = some (.imm d)) ∧ (∀ s d, outF s (.new d) = some (.new d)) := by
  refine ⟨?_, ?_, ?_, ?_, ?_, ?_, ?_, ?_, ?_, ?_, ?_, ?_, ?_, ?_, ?_, ?_, ?_, ?_⟩ <;> intros <;> rfl
theorem fxD : (∀ M, viewD M .non = some .non) ∧ (∀ M b, viewD M (.bl b) = some (.bl b)) ∧ (∀ M b, viewD M (.int b) = some (.int b)) ∧ (∀ M b, viewD M (.str b) = some (.str b)) ∧ (∀ M b, viewD M (.ty b) = some (.ty b)) ∧ (∀ M b, viewD M (.cls b) = some (.cls b)) ∧ (∀ M b, viewD M (.tup b) = some (.tup b)) ∧ (∀ M b, viewD M (.lst b) = some (.lst b)) ∧ (∀ M b c, viewD M (.dic b c) = some (.dic b c)) ∧ (∀ M C b c, viewD M (.ins C b c) = some (.ins C b c)) ∧
  (∀ C b c, viewC (.ins C b c) = some (.ins C b c)) ∧ (∀ b, viewC (.lst b) = some (.lst b)) ∧ (∀ b c, viewC (.dic b c) = some (.dic b c)) ∧ (∀ f C ns vs, fldF f (.ins C ns vs) = getF f ns vs) ∧
  (∀ f n ns d ds, getF f (n :: ns) (d :: ds) = if n = f then some d else getF f ns ds) := by
  refine ⟨?_, ?_, ?_, ?_, ?_, ?_, ?_, ?_, ?_, ?_, ?_, ?_, ?_, ?_, ?_⟩ <;> intros <;> rfl
/-- names: by the slots -/
def vr (o : Option (Option LV)) (i : Nat) (s : DSt) : Tr DSt RV := match o with
  | some (some (.imm d)) => .ret (.imm d) s
  | some (some (.own _)) => .ret (.slot i) s
  | _ => .bad
def vwS (o : Option (Option LV)) (M : DM) : Option D := match o with
  | some (some (.own d)) => viewC d
  | some (some (.imm d)) => viewD M d
  | _ => none
def stS (o : Option (Option LV)) (i : Nat) (s : DSt) : Option (D × DSt) := match o with
  | some (some (.own d)) => some (d, { s with sl := s.sl.set i (some (.imm d)) })
  | some (some (.imm d)) => some (d, s)
  | _ => none
def ouS (o : Option (Option LV)) : Option AV := match o with
  | some (some (.own d)) => some (.new d)
  | some (some (.imm d)) => some (.imm d)
  | _ => none
def geS (o : Option (Option LV)) (M : DM) : Option D := match o with
  | some (some (.own d)) => some d
  | some (some (.imm (.ref a))) => M a
  | _ => none
def puS (o : Option (Option LV)) (i : Nat) (s : DSt) (d : D) : DSt := match o with
  | some (some (.own _)) => s.put i (.own d)
  | some (some (.imm (.ref a))) => s.wM (up s.M a d)
  | _ => s
theorem fxN : (∀ sl M i, fVar i ⟨sl, M⟩ = vr sl[i]? i ⟨sl, M⟩) ∧ (∀ sl M i, view ⟨sl, M⟩ (.slot i) = vwS sl[i]? M) ∧ (∀ sl M i, stF1 ⟨sl, M⟩ (.slot i) = stS sl[i]? i ⟨sl, M⟩) ∧ (∀ sl M i, outF ⟨sl, M⟩ (.slot i) = ouS sl[i]?) ∧ (∀ sl M i, getC ⟨sl, M⟩ (.slot i) = geS sl[i]? M) ∧ (∀ sl M i d, putC ⟨sl, M⟩ (.slot i) d = puS sl[i]? i ⟨sl, M⟩ d) ∧
  (∀ sl M i rs, stF ⟨sl, M⟩ (.slot i :: rs) = (stS sl[i]? i ⟨sl, M⟩).bind fun p => (stF p.2 rs).map fun q => (p.1 :: q.1, q.2)) ∧
  (∀ i s d, vr (some (some (.imm d))) i s = .ret (.imm d) s) ∧ (∀ i s d, vr (some (some (.own d))) i s = .ret (.slot i) s) ∧ (∀ d M, vwS (some (some (.own d))) M = viewC d) ∧ (∀ d M, vwS (some (some (.imm d))) M = viewD M d) ∧
  (∀ d i sl M, stS (some (some (.own d))) i ⟨sl, M⟩ = some (d, ⟨sl.set i (some (.imm d)), M⟩)) ∧ (∀ d i s, stS (some (some (.imm d))) i s = some (d, s)) ∧ (∀ d, ouS (some (some (.own d))) = some (.new d)) ∧ (∀ d, ouS (some (some (.imm d))) = some (.imm d)) ∧
  (∀ d M, geS (some (some (.own d))) M = some d) ∧ (∀ M a, geS (some (some (.imm (.ref a)))) M = M a) ∧ (∀ i s d e, puS (some (some (.own e))) i s d = s.put i (.own d)) ∧ (∀ i s d a, puS (some (some (.imm (.ref a)))) i s d = s.wM (up s.M a d)) ∧ (∀ s a, getC s (.imm (.ref a)) = s.M a) ∧ (∀ s d a, putC s (.imm (.ref a)) d = s.wM (up s.M a d)) := by
  refine ⟨?_, ?_, ?_, ?_, ?_, ?_, ?_, ?_, ?_, ?_, ?_, ?_, ?_, ?_, ?_, ?_, ?_, ?_, ?_, ?_, ?_⟩ <;> intros <;> rfl
/-- lists of slots -/
theorem fxL : (∀ (x : Option LV) xs, (x :: xs)[0]? = some x) ∧ (∀ (x : Option LV) xs n, (x :: xs)[n + 1]? = xs[n]?) ∧ (∀ (x y : Option LV) xs, (x :: xs).set 0 y = y :: xs) ∧ (∀ (x y : Option LV) xs n, (x :: xs).set (n + 1) y = x :: xs.set n y) ∧ (∀ x : Option LV, List.replicate 0 x = []) ∧ (∀ (x : Option LV) n, List.replicate (n + 1) x = x :: List.replicate n x) ∧
  (∀ {α β : Type} (a : α) (f : α → Option β), (some a).bind f = f a) ∧ (∀ {α β : Type} (f : α → Option β), (none : Option α).bind f = none) ∧ (∀ {α β : Type} (a : α) (f : α → β), (some a).map f = some (f a)) ∧ (∀ {α β : Type} (f : α → β), (none : Option α).map f = none) ∧
  (∀ M n, st0 n [] M = ⟨List.replicate n none, M⟩) ∧ (∀ M n d ds, st0 (n + 1) (d :: ds) M = ⟨some (.imm d) :: (st0 n ds M).sl, M⟩) ∧ (∀ M a d, up M a d a = some d) ∧ (∀ M a d e, up (up M a d) a e = up M a e) ∧ (∀ M a d, res (up M a d) a M = M) := by
  refine ⟨?_, ?_, ?_, ?_, ?_, ?_, ?_, ?_, ?_, ?_, ?_, ?_, fun _ _ _ => up_same, fun _ _ _ _ => up_up, fun _ _ _ => res_up⟩ <;> intros <;> first | rfl | simp [st0]
theorem fxG : (∀ s i d, fgN i (.imm d) s = .ret () (s.put i (.imm d))) ∧ (∀ s i ds, fgN i (.new (.tup ds)) s = .ret () (s.put i (.imm (.tup ds)))) ∧ (∀ s i ds, fgN i (.new (.lst ds)) s = .ret () (s.put i (.own (.lst ds)))) ∧ (∀ s i ks vs, fgN i (.new (.dic ks vs)) s = .ret () (s.put i (.own (.dic ks vs)))) ∧ (∀ s i C ns vs, fgN i (.new (.ins C ns vs)) s = .ret () (s.put i (.own (.ins C ns vs)))) ∧
  (∀ s i j, fgN i (.slot j) s = opt (stF1 s (.slot j)) fun p => .ret () (p.2.put i (.imm p.1))) ∧ (∀ s, fgsN [] s = .ret () s) ∧ (∀ s g u d ds, fgsC g u (d :: ds) s = (g (.imm d) s).bind fun _ s1 => u ds s1) ∧ (∀ s n u ds, fgT n u (.imm (.tup ds)) s = chk (decide (ds.length = n)) (u ds s)) ∧ (∀ s n u ds, fgT n u (.new (.tup ds)) s = chk (decide (ds.length = n)) (u ds s)) := by
  refine ⟨?_, ?_, ?_, ?_, ?_, ?_, ?_, ?_, ?_, ?_⟩ <;> intros <;> rfl
/-- isinstance -/
theorem fxI : (∀ (sub : Str → Str → Bool) , isOne sub .non (.ty "int") = some false) ∧ (∀ (sub : Str → Str → Bool) b, isOne sub (.bl b) (.ty "int") = some true) ∧ (∀ (sub : Str → Str → Bool) b, isOne sub (.int b) (.ty "int") = some true) ∧ (∀ (sub : Str → Str → Bool) b, isOne sub (.str b) (.ty "int") = some false) ∧ (∀ (sub : Str → Str → Bool) b, isOne sub (.lst b) (.ty "int") = some false) ∧ (∀ (sub : Str → Str → Bool) b, isOne sub (.tup b) (.ty "int") = some false) ∧ (∀ (sub : Str → Str → Bool) b c, isOne sub (.dic b c) (.ty "int") = some false) ∧ (∀ (sub : Str → Str → Bool) C ns vs, isOne sub (.ins C ns vs) (.ty "int") = some false) ∧ (∀ (sub : Str → Str → Bool) , isOne sub .non (.ty "bool") = some false) ∧ (∀ (sub : Str → Str → Bool) b, isOne sub (.bl b) (.ty "bool") = some true) ∧ (∀ (sub : Str → Str → Bool) b, isOne sub (.int b) (.ty "bool") = some false) ∧ (∀ (sub : Str → Str → Bool) b, isOne sub (.str b) (.ty "bool") = some false) ∧ (∀ (sub : Str → Str → Bool) b, isOne sub (.lst b) (.ty "bool") = some false) ∧ (∀ (sub : Str → Str → Bool) b, isOne sub (.tup b) (.ty "bool") = some false) ∧ (∀ (sub : Str → Str → Bool) b c, isOne sub (.dic b c) (.ty "bool") = some false) ∧ (∀ (sub : Str → Str → Bool) C ns vs, isOne sub (.ins C ns vs) (.ty "bool") = some false) ∧ (∀ (sub : Str → Str → Bool) , isOne sub .non (.ty "str") = some false) ∧ (∀ (sub : Str → Str → Bool) b, isOne sub (.bl b) (.ty "str") = some false) ∧ (∀ (sub : Str → Str → Bool) b, isOne sub (.int b) (.ty "str") = some false) ∧ (∀ (sub : Str → Str → Bool) b, isOne sub (.str b) (.ty "str") = some true) ∧ (∀ (sub : Str → Str → Bool) b, isOne sub (.lst b) (.ty "str") = some false) ∧ (∀ (sub : Str → Str → Bool) b, isOne sub (.tup b) (.ty "str") = some false) ∧ (∀ (sub : Str → Str → Bool) b c, isOne sub (.dic b c) (.ty "str") = some false) ∧ (∀ (sub : Str → Str → Bool) C ns vs, isOne sub (.ins C ns vs) (.ty "str") = some false) ∧ (∀ (sub : Str → Str → Bool) , isOne sub .non (.ty "tuple") = some false) ∧ (∀ (sub : Str → Str → Bool) b, isOne sub (.bl b) (.ty "tuple") = some false) ∧ (∀ (sub : Str → Str → Bool) b, isOne sub (.int b) (.ty "tuple") = some false) ∧ (∀ (sub : Str → Str → Bool) b, isOne sub (.str b) (.ty "tuple") = some false) ∧ (∀ (sub : Str → Str → Bool) b, isOne sub (.lst b) (.ty "tuple") = some false) ∧ (∀ (sub : Str → Str → Bool) b, isOne sub (.tup b) (.ty "tuple") = some true) ∧ (∀ (sub : Str → Str → Bool) b c, isOne sub (.dic b c) (.ty "tuple") = some false) ∧ (∀ (sub : Str → Str → Bool) C ns vs, isOne sub (.ins C ns vs) (.ty "tuple") = some false) ∧ (∀ (sub : Str → Str → Bool) , isOne sub .non (.ty "list") = some false) ∧ (∀ (sub : Str → Str → Bool) b, isOne sub (.bl b) (.ty "list") = some false) ∧ (∀ (sub : Str → Str → Bool) b, isOne sub (.int b) (.ty "list") = some false) ∧ (∀ (sub : Str → Str → Bool) b, isOne sub (.str b) (.ty "list") = some false) ∧ (∀ (sub : Str → Str → Bool) b, isOne sub (.lst b) (.ty "list") = some true) ∧ (∀ (sub : Str → Str → Bool) b, isOne sub (.tup b) (.ty "list") = some false) ∧ (∀ (sub : Str → Str → Bool) b c, isOne sub (.dic b c) (.ty "list") = some false) ∧ (∀ (sub : Str → Str → Bool) C ns vs, isOne sub (.ins C ns vs) (.ty "list") = some false) ∧ (∀ (sub : Str → Str → Bool) , isOne sub .non (.ty "dict") = some false) ∧ (∀ (sub : Str → Str → Bool) b, isOne sub (.bl b) (.ty "dict") = some false) ∧ (∀ (sub : Str → Str → Bool) b, isOne sub (.int b) (.ty "dict") = some false) ∧ (∀ (sub : Str → Str → Bool) b, isOne sub (.str b) (.ty "dict") = some false) ∧ (∀ (sub : Str → Str → Bool) b, isOne sub (.lst b) (.ty "dict") = some false) ∧ (∀ (sub : Str → Str → Bool) b, isOne sub (.tup b) (.ty "dict") = some false) ∧ (∀ (sub : Str → Str → Bool) b c, isOne sub (.dic b c) (.ty "dict") = some true) ∧ (∀ (sub : Str → Str → Bool) C ns vs, isOne sub (.ins C ns vs) (.ty "dict") = some false) ∧ (∀ (sub : Str → Str → Bool)  B, isOne sub .non (.cls B) = some false) ∧ (∀ (sub : Str → Str → Bool) b B, isOne sub (.bl b) (.cls B) = some false) ∧ (∀ (sub : Str → Str → Bool) b B, isOne sub (.int b) (.cls B) = some false) ∧ (∀ (sub : Str → Str → Bool) b B, isOne sub (.str b) (.cls B) = some false) ∧ (∀ (sub : Str → Str → Bool) b B, isOne sub (.lst b) (.cls B) = some false) ∧ (∀ (sub : Str → Str → Bool) b B, isOne sub (.tup b) (.cls B) = some false) ∧ (∀ (sub : Str → Str → Bool) b c B, isOne sub (.dic b c) (.cls B) = some false) ∧ (∀ (sub : Str → Str → Bool) C ns vs B, isOne sub (.ins C ns vs) (.cls B) = some (sub C B)) := by
  refine ⟨?_, ?_, ?_, ?_, ?_, ?_, ?_, ?_, ?_, ?_, ?_, ?_, ?_, ?_, ?_, ?_, ?_, ?_, ?_, ?_, ?_, ?_, ?_, ?_, ?_, ?_, ?_, ?_, ?_, ?_, ?_, ?_, ?_, ?_, ?_, ?_, ?_, ?_, ?_, ?_, ?_, ?_, ?_, ?_, ?_, ?_, ?_, ?_, ?_, ?_, ?_, ?_, ?_, ?_, ?_, ?_⟩ <;> intros <;> first | rfl | decide +kernel | (simp [isOne, tys, tyOf, kb]; done) | (simp [isOne, tys, tyOf, kb]; decide +kernel)
/-- primitives -/
theorem fxP : (∀ i j, qAdd [.int i, .int j] = some (.imm (.int (i + j)))) ∧ (∀ xs ys, qAdd [.lst xs, .lst ys] = if xs.length + ys.length ≤ sizeLine then some (.new (.lst (xs ++ ys))) else none) ∧ (∀ xs ys, qAdd [.tup xs, .tup ys] = if xs.length + ys.length ≤ sizeLine then some (.imm (.tup (xs ++ ys))) else none) ∧ (∀ a b, qAdd [.str a, .str b] = if a.length + b.length ≤ sizeLine then some (.imm (.str (a ++ b))) else none) ∧
  (∀ C g i j, qI C g [.int i, .int j] = if C i j = true then some (.imm (g i j)) else none) ∧ (∀ g i j, qJ g [.int i, .int j] = some (.imm (g i j))) ∧ (∀ i, qNeg [.int i] = some (.imm (.int (-i)))) ∧
  (∀ d, qIs [d, .non] = if isTy d = true then none else some (.imm (.bl (isNon d)))) ∧ (∀ d, qIsNot [d, .non] = if isTy d = true then none else some (.imm (.bl (!isNon d)))) ∧
  (∀ neg a b, qEqG neg [.str a, .str b] = some (.imm (.bl (neg ^^ decide (a = b))))) ∧ (∀ neg a b, qEqG neg [.int a, .int b] = some (.imm (.bl (neg ^^ decide (a = b))))) ∧ (∀ neg a e, qEqG neg [.tup a, e] = if eqCan (.tup a) && eqCan e then some (.imm (.bl (neg ^^ eqD (.tup a) e))) else none) ∧ (∀ neg a e, qEqG neg [.lst a, e] = if eqCan (.lst a) && eqCan e then some (.imm (.bl (neg ^^ eqD (.lst a) e))) else none) ∧ (∀ neg e, qEqG neg [.non, e] = if eqCan .non && eqCan e then some (.imm (.bl (neg ^^ eqD .non e))) else none) ∧ (∀ neg a e, qEqG neg [.bl a, e] = if eqCan (.bl a) && eqCan e then some (.imm (.bl (neg ^^ eqD (.bl a) e))) else none) ∧
  (∀ x, qLen [.str x] = if x.length ≤ sizeLine then some (.imm (.int x.length)) else none) ∧ (∀ xs, qLen [.lst xs] = some (.imm (.int xs.length))) ∧ (∀ xs, qLen [.tup xs] = some (.imm (.int xs.length))) ∧ (∀ xs i, qIx [.lst xs, .int i] = (atI xs i).map .imm) ∧ (∀ xs i, qIx [.tup xs, .int i] = (atI xs i).map .imm) ∧
  (∀ xs, qTuple [.lst xs] = some (.imm (.tup xs))) ∧ (∀ xs, qTuple [.tup xs] = some (.imm (.tup xs))) ∧ (∀ xs, qList [.lst xs] = some (.new (.lst xs))) ∧ (∀ xs, qList [.tup xs] = some (.new (.lst xs))) ∧ (∀ xs, qAll [.lst xs] = (bls xs).map fun bs => .imm (.bl (bs.all id))) ∧ (∀ xs, qAny [.lst xs] = (bls xs).map fun bs => .imm (.bl (bs.any id))) ∧ (∀ xs, qSum [.lst xs] = (nts xs).map fun bs => .imm (.int bs.sum)) ∧
  (∀ sub d T, qIsI sub [d, .ty T] = (isOne sub d (.ty T)).map fun b => .imm (.bl b)) ∧ (∀ sub d T, qIsI sub [d, .cls T] = (isOne sub d (.cls T)).map fun b => .imm (.bl b)) ∧ (∀ sub d T Ts, qIsI sub [d, .tup (T :: Ts)] = (isAll sub d (T :: Ts)).map fun b => .imm (.bl b)) ∧ (∀ (sub : Str → Str → Bool) d, isAll sub d [] = some false) ∧ (∀ (sub : Str → Str → Bool) d T Ts, isAll sub d (T :: Ts) = (isOne sub d T).bind fun b => (isAll sub d Ts).map fun c => b || c) ∧
  (∀ neg x xs, qInG neg [x, .lst xs] = if flatD x && xs.all flatD then some (.imm (.bl (neg ^^ inF x xs))) else none) ∧ (∀ neg x xs, qInG neg [x, .tup xs] = if flatD x && xs.all flatD then some (.imm (.bl (neg ^^ inF x xs))) else none) ∧
  (∀ f d C ns vs, setF f d (.ins C ns vs) = if ns.length < 1000 then some (.ins C (putD f d ns vs).1 (putD f d ns vs).2) else none) ∧ (∀ f d, putD f d [] [] = ([f], [d])) ∧ (∀ f d n ns x xs, putD f d (n :: ns) (x :: xs) = if n = f then (n :: ns, d :: xs) else (n :: (putD f d ns xs).1, x :: (putD f d ns xs).2)) ∧ (isNonV (.imm .non) = true) ∧
  (isNon .non = true) ∧ (∀ i, isNon (.int i) = false) ∧ (∀ i, isNon (.str i) = false) ∧ (∀ i, isNon (.tup i) = false) ∧ (∀ i, isNon (.lst i) = false) ∧ (∀ i, isNon (.bl i) = false) ∧ (∀ a b c, isNon (.ins a b c) = false) ∧ (isTy .non = false) ∧ (∀ i, isTy (.int i) = false) ∧ (∀ i, isTy (.str i) = false) ∧ (∀ i, isTy (.tup i) = false) ∧ (∀ i, isTy (.lst i) = false) ∧ (∀ i, isTy (.bl i) = false) ∧ (∀ a b c, isTy (.ins a b c) = false) := by
  refine ⟨?_, ?_, ?_, ?_, ?_, ?_, ?_, ?_, ?_, ?_, ?_, ?_, ?_, ?_, ?_, ?_, ?_, ?_, ?_, ?_, ?_, ?_, ?_, ?_, ?_, ?_, ?_, ?_, ?_, ?_, ?_, ?_, ?_, ?_, ?_, ?_, ?_, ?_, ?_, ?_, ?_, ?_, ?_, ?_, ?_, ?_, ?_, ?_, ?_, ?_, ?_, ?_⟩ <;> intros <;> rfl
theorem toNat_inj {c d : Char} (h : c.toNat = d.toNat) : c = d := Char.ext (UInt32.toNat_inj.mp h)
theorem map_inj' : ∀ {xs ys : List Char}, xs.map Char.toNat = ys.map Char.toNat → xs = ys
  | [], [], _ => rfl
  | [], _ :: _, h => by cases h
  | _ :: _, [], h => by cases h
  | x :: xs, y :: ys, h => by
    simp only [List.map_cons, List.cons.injEq] at h
    rw [toNat_inj h.1, map_inj' h.2]
theorem ofS (a b : String) : (Str.ofString a = Str.ofString b) = (a = b) := by
  refine propext ⟨fun h => ?_, fun h => by rw [h]⟩
  rw [Str.ofString_eq_toList, Str.ofString_eq_toList] at h
  have h1 : a.toList.map Char.toNat = b.toList.map Char.toNat := by simpa using h
  have h2 : a.toList = b.toList := map_inj' h1
  exact String.toList_inj.mp h2
theorem ofSb (a b : String) : (Str.ofString a == Str.ofString b) = (a == b) := by
  cases h : (Str.ofString a == Str.ofString b) with
  | true =>
    have e := eq_of_beq h
    rw [ofS] at e
    subst e
    exact (beq_self_eq_true a).symm
  | false =>
    have e : a ≠ b := fun e => by
      subst e
      rw [beq_self_eq_true] at h
      cases h
    exact (beq_false_of_ne e).symm
/-- comprehensions, walks -/
theorem fxC : (∀ it g tt te vs s, fLc it g tt te vs s = (it s).bind fun j s1 => cmpF j.ok g tt te vs j.xs [] (s1.wipe vs)) ∧ (∀ t s, fSq t s = (t s).bind fun r s1 => opt (stF1 s1 r.frz) fun p => opt (viewD p.2.M p.1) fun e => itF p.1 p.2 e) ∧ (∀ d s xs, itF d s (.lst xs) = .ret ⟨xs, okB d (.lst xs)⟩ s) ∧ (∀ d s xs, itF d s (.tup xs) = .ret ⟨xs, okB d (.tup xs)⟩ s) ∧ (∀ d s x, itF d s (.str x) = .ret ⟨x.cps.toList.map fun k => .str ⟨#[k]⟩, fun _ => true⟩ s) ∧
  (∀ xs e s, okB (.lst xs) e s = true) ∧ (∀ xs e s, okB (.tup xs) e s = true) ∧ (∀ t s, fRg1 t s = (t s).bind fun rs s1 => opt (vwF s1 rs) fun ds => opt (rg1 ds) fun xs => .ret ⟨xs, fun _ => true⟩ s1) ∧ (∀ t s, fRg2 t s = (t s).bind fun rs s1 => opt (vwF s1 rs) fun ds => opt (rg2 ds) fun xs => .ret ⟨xs, fun _ => true⟩ s1) ∧
  (∀ sl M vs, DSt.wipe ⟨sl, M⟩ vs = ⟨wipeL sl vs, M⟩) ∧ (∀ sl, wipeL sl [] = sl) ∧ (∀ sl i vs, wipeL sl (i :: vs) = (wipeL sl vs).set i none) ∧ (∀ s, fYes s = .ret true s) ∧
  (∀ T m o t s, fMut T m o t s = (o s).bind fun r s1 => opt (getC s1 r) fun d0 => chk (decide (kind d0 = T)) ((t s1).bind fun rs s2 => opt (stF s2 rs) fun p => opt (getC p.2 r) fun d => chk (decide (kind d = T)) (opt (m d p.1) fun q => .ret (.imm q.2) (putC p.2 r q.1)))) ∧ (∀ xs, kind (.lst xs) = "list") ∧ (∀ xs, kind (.tup xs) = "tuple") ∧ (∀ xs, kind (.str xs) = "str") ∧ (∀ xs ys, kind (.dic xs ys) = "dict") ∧
  (∀ Ts p o t s, fBm Ts p o t s = (o s).bind fun r s1 => opt (view s1 r.frz) fun d => chk (Ts.contains (kind d)) ((t s1).bind fun rs s2 => opt (view s2 r.frz) fun d2 => chk (decide (kind d2 = kind d)) (opt (vwF s2 rs) fun ds => opt (p (d2 :: ds)) fun a => .ret a.rv s2))) ∧
  (∀ o i r s, fgIx o i r s = opt (stF1 s r.frz) fun p => (o p.2).bind fun ro s2 => (i s2).bind fun ri s3 => opt (datOf ri) fun k => opt (getC s3 ro) fun d => opt (setI d k p.1) fun d' => .ret () (putC s3 ro d')) ∧ (∀ d, datOf (.imm d) = some d) ∧
  (∀ xs y, nAppend (.lst xs) [y] = if xs.length < sizeLine then some (.lst (xs ++ [y]), .non) else none) ∧ (∀ xs, nReverse (.lst xs) [] = some (.lst xs.reverse, .non)) ∧ (∀ l u xs, qSl (.lst xs) l u = some (.new (.lst (cutD xs l u)))) ∧ (∀ l u xs, qSl (.tup xs) l u = some (.imm (.tup (cutD xs l u)))) ∧
  (∀ i h e s, e.fs = [] → handF i h e s = al s.M fun a => (h e a none (s.put i (.imm (.ref a)))).noX.bind (clrF i none s.M)) ∧ (∀ i h C f x s, handF i h ⟨C, [(f, x)]⟩ s = al s.M fun a => al s.M fun d => (h ⟨C, [(f, x)]⟩ a (some d) ((s.wM (up s.M d (.xfd f x))).put i (.imm (.ref a)))).noX.bind (clrF i (some d) s.M)) ∧
  (∀ i d M0 o s, clrF i d M0 o s = .ret o ((s.clr i).wM (clrM d M0 s.M))) ∧ (∀ a M0 M, clrM (some a) M0 M = res M a M0) ∧ (∀ M0 M, clrM none M0 M = M) ∧ (∀ f x, xfdOf f (.xfd f x) = some x) := by
  refine ⟨?_, ?_, ?_, ?_, ?_, ?_, ?_, ?_, ?_, ?_, ?_, ?_, ?_, ?_, ?_, ?_, ?_, ?_, ?_, ?_, ?_, ?_, ?_, ?_, ?_, ?_, ?_, ?_, ?_, ?_, ?_⟩ <;> intros <;> first | rfl | (simp only [handF, *]) | simp [xfdOf]
theorem divOk_lit {j : Int} (h : 0 < j) (h2 : j < 18446744073709551616) : divOk j = true := by
  refine decide_eq_true ⟨h, ?_⟩
  have h3 : j.natAbs < 2 ^ 64 := by omega
  have h4 : j.natAbs ≠ 0 := by omega
  have := (Nat.log2_lt h4 (k := 64)).mpr h3
  omega
theorem mulOk_r {i j : Int} (h : -18446744073709551616 < j) (h2 : j < 18446744073709551616) : mulOk i j = true := decide_eq_true (.inl (.inr ⟨by omega, by omega⟩))
theorem mulOk_l {i j : Int} (h : -18446744073709551616 < i) (h2 : i < 18446744073709551616) : mulOk i j = true := decide_eq_true (.inl (.inl ⟨by omega, by omega⟩))
theorem powOk_lit {i j : Int} (h : 0 ≤ j) (h2 : j ≤ 1000000) (h3 : -18446744073709551616 < i) (h4 : i < 18446744073709551616) : powOk i j = true := decide_eq_true ⟨h, h2, by omega⟩
end DL

set_option Elab.async false
set_option linter.all false
set_option maxRecDepth 100000
set_option maxHeartbeats 4000000
/-! QU: tests and questions as trees. -/
namespace QU
open PySem L2 PL DL
mutual
inductive Te where
  | within (c : Str) (lo hi : Option Int) | like (c o : Str) | both (a b : Te) | either (a b : Te) | no (t : Te) | among (c : Str) (q : Qu)
inductive Qu where
  | table (n : Str) | whr (t : Te) (q : Qu) | cols (ns : List Str) (q : Qu) | join (a b : Qu) | sums (by_ : List Str) (c : Str) (q : Qu) | ord (ns : List Str) (q : Qu) | first (l : Int) (q : Qu)
end
def bd : Option Int → D
  | none => .non
  | some i => .int i
abbrev nms (ns : List Str) : D := .tup (ns.map .str)
mutual
/-- as things -/
def vT : Te → D
  | .within c lo hi => .ins "Within" ["column", "low", "high"] [.str c, bd lo, bd hi]
  | .like c o => .ins "Like" ["column", "other"] [.str c, .str o]
  | .both a b => .ins "Both" ["one", "other"] [vT a, vT b]
  | .either a b => .ins "Either" ["one", "other"] [vT a, vT b]
  | .no t => .ins "Not" ["test"] [vT t]
  | .among c q => .ins "Among" ["column", "question"] [.str c, vQ q]
def vQ : Qu → D
  | .table n => .ins "Table" ["name"] [.str n]
  | .whr t q => .ins "Where" ["test", "q"] [vT t, vQ q]
  | .cols ns q => .ins "Columns" ["names", "q"] [nms ns, vQ q]
  | .join a b => .ins "Joined" ["one", "other"] [vQ a, vQ b]
  | .sums by_ c q => .ins "Sums" ["by", "column", "q"] [nms by_, .str c, vQ q]
  | .ord ns q => .ins "Ordered" ["names", "q"] [nms ns, vQ q]
  | .first l q => .ins "First" ["limit", "q"] [.int l, vQ q]
end
abbrev tpl (w : String) (xs : List D) : D := .tup (.str w :: xs)
mutual
/-- as told -/
def tT : Te → D
  | .within c lo hi => tpl "within" [.str c, bd lo, bd hi]
  | .like c o => tpl "like" [.str c, .str o]
  | .both a b => tpl "both" [tT a, tT b]
  | .either a b => tpl "either" [tT a, tT b]
  | .no t => tpl "not" [tT t]
  | .among c q => tpl "among" [.str c, tQ q]
def tQ : Qu → D
  | .table n => tpl "table" [.str n]
  | .whr t q => tpl "where" [tT t, tQ q]
  | .cols ns q => tpl "columns" [nms ns, tQ q]
  | .join a b => tpl "joined" [tQ a, tQ b]
  | .sums by_ c q => tpl "sums" [nms by_, .str c, tQ q]
  | .ord ns q => tpl "ordered" [nms ns, tQ q]
  | .first l q => tpl "first" [.int l, tQ q]
end
mutual
def dT : Te → Nat
  | .within _ _ _ => 0
  | .like _ _ => 0
  | .both a b => max (dT a) (dT b) + 1
  | .either a b => max (dT a) (dT b) + 1
  | .no t => dT t + 1
  | .among _ q => dQ q + 1
def dQ : Qu → Nat
  | .table _ => 0
  | .whr t q => max (dT t) (dQ q) + 1
  | .cols _ q => dQ q + 1
  | .join a b => max (dQ a) (dQ b) + 1
  | .sums _ _ q => dQ q + 1
  | .ord _ q => dQ q + 1
  | .first _ q => dQ q + 1
end
mutual
/-- names not too many -/
def oT : Te → Bool
  | .within _ _ _ => true
  | .like _ _ => true
  | .both a b => oT a && oT b
  | .either a b => oT a && oT b
  | .no t => oT t
  | .among _ q => oQ q
def oQ : Qu → Bool
  | .table _ => true
  | .whr t q => oT t && oQ q
  | .cols ns q => decide (ns.length ≤ 1000) && oQ q
  | .join a b => oQ a && oQ b
  | .sums ns _ q => decide (ns.length ≤ 1000) && oQ q
  | .ord ns q => decide (ns.length ≤ 1000) && oQ q
  | .first _ q => oQ q
end
end QU

set_option Elab.async false
set_option linter.all false
set_option maxRecDepth 100000
set_option maxHeartbeats 4000000
namespace DL
open PySem PySem.Spec PyProof.Rows L2 PL
open Tr
/-! FX2: lists, equality, loops -/
theorem atI_lst {α : Type} {xs : List α} (h : xs ≠ []) : atI xs (-1) = xs.getLast? := by
  have hl : 0 < xs.length := List.length_pos_iff.mpr h
  unfold atI ixN
  rw [if_neg (by omega), if_pos (by omega)]
  simp only [Option.bind_some]
  rw [List.getLast?_eq_getElem?]
  congr 1
  omega
theorem atI_at {α : Type} {xs : List α} {i : Int} (h0 : 0 ≤ i) (h1 : i < xs.length) : ∃ x, x ∈ xs ∧ atI xs i = some x := by
  obtain ⟨j, rfl⟩ := Int.eq_ofNat_of_zero_le h0
  have hj : j < xs.length := by exact_mod_cast h1
  refine ⟨xs[j], List.getElem_mem hj, ?_⟩
  unfold atI
  rw [ixN_nat hj]
  simp [hj]
theorem at4 {α : Type} {a b c d e : α} {xs : List α} : atI (a :: b :: c :: d :: e :: xs) 4 = some e := atI_nat (j := 4) rfl
theorem atM1 {α : Type} {x : α} : atI [x] (-1) = some x := by rw [atI_lst (by simp)]; rfl
theorem atM {α : Type} {x y : α} {xs : List α} : atI (x :: y :: xs) (-1) = atI (y :: xs) (-1) := by rw [atI_lst (by simp), atI_lst (by simp)]; rfl
theorem cut_init {α : Type} {xs : List α} : cutD xs none (some (-1)) = xs.dropLast := by
  unfold cutD HT.sIx
  simp only [List.drop_zero]
  rw [List.dropLast_eq_take]
  congr 1
  simp
  omega
theorem cut_tail {α : Type} {x : α} {xs : List α} : cutD (x :: xs) (some 1) none = xs := by
  unfold cutD HT.sIx
  simp
theorem cut_all {α : Type} {xs : List α} : cutD xs none none = xs := by
  unfold cutD HT.sIx
  simp
theorem strOk_ofS (a : String) : PyData.strOk (Str.ofString a) = true := by
  rw [Str.ofString_eq_toList]
  unfold PyData.strOk
  rw [Array.all_eq_true_iff_forall_mem]
  intro x hx
  simp at hx
  obtain ⟨c, _, rfl⟩ := hx
  have := c.valid
  simp only [decide_eq_true_eq]
  rcases c.valid with h | h
  · show c.val.toNat < _; omega
  · show c.val.toNat < _; omega
mutual
theorem eqD_refl : ∀ d : D, eqOk d = true → eqD d d = true
  | .non, _ => rfl
  | .bl _, _ => by simp [eqD]
  | .int _, _ => by simp [eqD]
  | .str _, _ => by simp [eqD]
  | .tup xs, h => by simp only [eqD]; exact eqDs_refl xs (by simpa [eqOk] using h)
  | .lst xs, h => by simp only [eqD]; exact eqDs_refl xs (by simpa [eqOk] using h)
  | .ty _, h => by simp [eqOk] at h
  | .ref _, h => by simp [eqOk] at h
  | .cls _, h => by simp [eqOk] at h
  | .dic _ _, h => by simp [eqOk] at h
  | .ins _ _ _, h => by simp [eqOk] at h
  | .xfd _ _, h => by simp [eqOk] at h
theorem eqDs_refl : ∀ ds : List D, eqOks ds = true → eqDs ds ds = true
  | [], _ => rfl
  | x :: xs, h => by
    simp only [eqOks, Bool.and_eq_true] at h
    simp only [eqDs, eqD_refl x h.1, eqDs_refl xs h.2, Bool.and_self]
end
/-! ### comprehensions -/
def dat : RV → Option D
  | .imm d => some d
  | .new d => some d
  | .slot _ => none
theorem dat_st {r : RV} {d : D} {s : DSt} (h : dat r = some d) : stF1 s r.frz = some (d, s) := by
  cases r <;> simp [dat] at h <;> subst h <;> rfl
theorem cmpF_eq {ok : DSt → Bool} {g : FG} {tt : FT} {te : FE} {vs : List Nat} {s : DSt} (sx : D → DSt) (p : D → Bool) (gr : D → RV) (f : D → D) (hok : ok s = true) : ∀ (xs acc : List D),
    (∀ x ∈ xs, g (.imm x) s = .ret () (sx x) ∧ tt (sx x) = .ret (p x) (sx x) ∧ (sx x).wipe vs = s ∧ (p x = true → te (sx x) = .ret (gr x) (sx x) ∧ dat (gr x) = some (f x))) → acc.length + xs.length ≤ sizeLine →
    cmpF ok g tt te vs xs acc s = .ret (.new (.lst (acc ++ (xs.filter p).map f))) s
  | [], acc, _, _ => by simp [cmpF, hok, chk]
  | x :: xs, acc, h, hl => by
    obtain ⟨h1, h2, h3, h4⟩ := h x List.mem_cons_self
    have hx : ∀ y ∈ xs, _ := fun y hy => h y (List.mem_cons_of_mem _ hy)
    simp only [List.length_cons] at hl
    simp only [cmpF, hok, chk_true, h1, noX_ret, bind_ret, h2]
    cases hp : p x with
    | false =>
      simp only [cnd, h3]
      rw [cmpF_eq sx p gr f hok xs acc hx (by omega)]
      simp [hp]
    | true =>
      obtain ⟨h5, h6⟩ := h4 hp
      simp only [cnd, h5, noX_ret, bind_ret, dat_st h6, opt_some]
      rw [show decide (acc.length < sizeLine) = true from decide_eq_true (by omega), chk_true, h3, cmpF_eq sx p gr f hok xs _ hx (by simp; omega)]
      simp [hp]
/-- without a test -/
theorem cmpF_map {ok : DSt → Bool} {g : FG} {te : FE} {vs : List Nat} {s : DSt} (sx : D → DSt) (gr : D → RV) (f : D → D) (hok : ok s = true) (xs : List D)
    (h : ∀ x ∈ xs, g (.imm x) s = .ret () (sx x) ∧ (sx x).wipe vs = s ∧ te (sx x) = .ret (gr x) (sx x) ∧ dat (gr x) = some (f x)) (hl : xs.length ≤ sizeLine) :
    cmpF ok g fYes te vs xs [] s = .ret (.new (.lst (xs.map f))) s := by
  rw [cmpF_eq (tt := fYes) sx (fun _ => true) gr f hok xs [] (fun x hx => ⟨(h x hx).1, rfl, (h x hx).2.1, fun _ => (h x hx).2.2⟩) (by simpa using hl)]
  rw [List.filter_eq_self.mpr (fun _ _ => rfl)]
  simp
/-! ### for -/
/-- a walk whose state is S a behind the items gone -/
theorem forF_fold {α : Type} {ok : DSt → Bool} {g : FG} {b : FS} (S : α → DSt) (F : α → D → α) : ∀ (xs : List D) (a : α), (∀ a, ok (S a) = true) →
    (∀ a, ∀ x ∈ xs, ∃ s2, g (.imm x) (S a) = .ret () s2 ∧ (b s2 = .ret .nx (S (F a x)) ∨ b s2 = .ret .ct (S (F a x)))) → forF ok g b xs (S a) = .ret .nx (S (xs.foldl F a))
  | [], a, ho, _ => by simp [forF, ho, chk]
  | x :: xs, a, ho, h => by
    obtain ⟨s2, h1, h2⟩ := h a x List.mem_cons_self
    simp only [forF, ho, chk_true, h1, bind_ret, List.foldl_cons]
    rcases h2 with h2 | h2
    · rw [h2]
      simp only [bind_ret, trn]
      exact forF_fold S F xs _ ho fun a y hy => h a y (List.mem_cons_of_mem _ hy)
    · rw [h2]
      simp only [bind_ret, trn]
      exact forF_fold S F xs _ ho fun a y hy => h a y (List.mem_cons_of_mem _ hy)
/-- a walk by an invariant -/
theorem forF_inv {ok : DSt → Bool} {g : FG} {b : FS} (I : DSt → Prop) : ∀ (xs : List D) (s : DSt), I s → (∀ s, I s → ok s = true) →
    (∀ s, I s → ∀ x ∈ xs, ∃ s2 s3, g (.imm x) s = .ret () s2 ∧ (b s2 = .ret .nx s3 ∨ b s2 = .ret .ct s3) ∧ I s3) → ∃ s', forF ok g b xs s = .ret .nx s' ∧ I s'
  | [], s, i, ho, _ => ⟨s, by simp [forF, ho s i, chk], i⟩
  | x :: xs, s, i, ho, h => by
    obtain ⟨s2, s3, h1, h2, i3⟩ := h s i x List.mem_cons_self
    obtain ⟨s', e, i'⟩ := forF_inv I xs s3 i3 ho fun s i y hy => h s i y (List.mem_cons_of_mem _ hy)
    refine ⟨s', ?_, i'⟩
    simp only [forF, ho s i, chk_true, h1, bind_ret]
    rcases h2 with h2 | h2 <;> rw [h2] <;> simp only [bind_ret, trn] <;> exact e
/-! ### lists of one kind -/
theorem bls_map {α : Type} {f : α → Bool} : ∀ xs : List α, bls (xs.map fun x => .bl (f x)) = some (xs.map f)
  | [] => rfl
  | x :: xs => by simp [bls, bls_map xs]
theorem nts_map {α : Type} {f : α → Int} : ∀ xs : List α, nts (xs.map fun x => .int (f x)) = some (xs.map f)
  | [] => rfl
  | x :: xs => by simp [nts, nts_map xs]
theorem sts_map {α : Type} {f : α → Str} : ∀ xs : List α, sts (xs.map fun x => .str (f x)) = some (xs.map f)
  | [] => rfl
  | x :: xs => by simp [sts, sts_map xs]
theorem atI_in {α : Type} {xs : List α} {k : Nat} (h : k < xs.length) : atI xs (k : Int) = some xs[k] := by
  unfold atI
  rw [ixN_nat h]
  simp [h]
theorem qEq_self {d : D} (neg : Bool) (h : eqCan d = true) : qEqG neg [d, d] = some (.imm (.bl (neg ^^ true))) := by
  have e := eqD_refl d (by simp only [eqCan, Bool.and_eq_true] at h; exact h.1)
  cases d <;> simp_all [qEqG, eqD]
end DL
set_option Elab.async false
set_option linter.all false
set_option maxRecDepth 100000
set_option maxHeartbeats 4000000
namespace Law
open PySem PySem.Spec PyProof.Rows L2 PL DL DL.Tr
def ctab : List (Str × List Str) := [("Test", ["Test"]), ("Within", ["Within", "Test"]), ("Like", ["Like", "Test"]), ("Paired", ["Paired", "Test"]), ("Both", ["Both", "Paired", "Test"]), ("Either", ["Either", "Paired", "Test"]), ("Not", ["Not", "Test"]), ("Among", ["Among", "Test"]), ("Question", ["Question"]), ("Table", ["Table", "Question"]), ("Where", ["Where", "Question"]), ("Columns", ["Columns", "Question"]), ("Joined", ["Joined", "Question"]), ("Sums", ["Sums", "Question"]), ("Ordered", ["Ordered", "Question"]), ("First", ["First", "Question"])]
def subC (C T : Str) : Bool := ((ctab.lookup C).getD []).contains T
def xtab : List (Str × List Str) := [("LedgerError", ["LedgerError"]), ("NoQuestion", ["NoQuestion", "LedgerError"])]
def xsub (B C : Str) : Bool := ((xtab.lookup C).getD []).contains B
inductive Fid where
  | Test_told | Within___init | Within_told | Like___init | Like_told | Paired___init | Both_told | Either_told | Not___init | Not_told | Among___init | Among_told | refuse | Question_told | Table___init | Table_told | Where___init | Where_told | Columns___init | Columns_told | Joined___init | Joined_told | Sums___init | Sums_told | Ordered___init | Ordered_told | First___init | First_told | is_name | is_number | is_bound | are_texts | read_test | read_named | read_question | l_cell_at | l_right | l_strange | l_no_test | l_spoilt | l_refused | l_test_refused | law
  deriving DecidableEq
abbrev Tab := Fid → Fn
def tab_told : List (Str × Fid) := [("Test", .Test_told), ("Within", .Within_told), ("Like", .Like_told), ("Paired", .Test_told), ("Both", .Both_told), ("Either", .Either_told), ("Not", .Not_told), ("Among", .Among_told), ("Question", .Question_told), ("Table", .Table_told), ("Where", .Where_told), ("Columns", .Columns_told), ("Joined", .Joined_told), ("Sums", .Sums_told), ("Ordered", .Ordered_told), ("First", .First_told)]
abbrev dp_told (c : Tab) : Fm' := dpL tab_told c
abbrev fam_told : List Str := ["Test", "Within", "Like", "Paired", "Both", "Either", "Not", "Among", "Question", "Table", "Where", "Columns", "Joined", "Sums", "Ordered", "First"]
theorem dpm_told {c : Tab} : ∀ C x, dp_told c C = some x → C ∈ fam_told := fun C x h => dpL_mem h
theorem dp_told_Test {c : Tab} : dpL tab_told c "Test" = some (c .Test_told) := dpL_at (by decide +kernel)
theorem dp_told_Within {c : Tab} : dpL tab_told c "Within" = some (c .Within_told) := dpL_at (by decide +kernel)
theorem dp_told_Like {c : Tab} : dpL tab_told c "Like" = some (c .Like_told) := dpL_at (by decide +kernel)
theorem dp_told_Paired {c : Tab} : dpL tab_told c "Paired" = some (c .Test_told) := dpL_at (by decide +kernel)
theorem dp_told_Both {c : Tab} : dpL tab_told c "Both" = some (c .Both_told) := dpL_at (by decide +kernel)
theorem dp_told_Either {c : Tab} : dpL tab_told c "Either" = some (c .Either_told) := dpL_at (by decide +kernel)
theorem dp_told_Not {c : Tab} : dpL tab_told c "Not" = some (c .Not_told) := dpL_at (by decide +kernel)
theorem dp_told_Among {c : Tab} : dpL tab_told c "Among" = some (c .Among_told) := dpL_at (by decide +kernel)
theorem dp_told_Question {c : Tab} : dpL tab_told c "Question" = some (c .Question_told) := dpL_at (by decide +kernel)
theorem dp_told_Table {c : Tab} : dpL tab_told c "Table" = some (c .Table_told) := dpL_at (by decide +kernel)
theorem dp_told_Where {c : Tab} : dpL tab_told c "Where" = some (c .Where_told) := dpL_at (by decide +kernel)
theorem dp_told_Columns {c : Tab} : dpL tab_told c "Columns" = some (c .Columns_told) := dpL_at (by decide +kernel)
theorem dp_told_Joined {c : Tab} : dpL tab_told c "Joined" = some (c .Joined_told) := dpL_at (by decide +kernel)
theorem dp_told_Sums {c : Tab} : dpL tab_told c "Sums" = some (c .Sums_told) := dpL_at (by decide +kernel)
theorem dp_told_Ordered {c : Tab} : dpL tab_told c "Ordered" = some (c .Ordered_told) := dpL_at (by decide +kernel)
theorem dp_told_First {c : Tab} : dpL tab_told c "First" = some (c .First_told) := dpL_at (by decide +kernel)
noncomputable def fb_Test_told (c : Tab) : FS := (fRet (fTup fNil))
noncomputable def fb_Within___init_2 (c : Tab) : FS := (fSetF "high" (fVar 0) (fVar 3))
noncomputable def fb_Within___init_1 (c : Tab) : FS := (fSeq (fSetF "low" (fVar 0) (fVar 2)) (fb_Within___init_2 c))
noncomputable def fb_Within___init (c : Tab) : FS := (fSeq (fSetF "column" (fVar 0) (fVar 1)) (fb_Within___init_1 c))
noncomputable def fb_Within_told (c : Tab) : FS := (fRet (fTup (fCons (fC (.str "within")) (fCons (fFld "column" (fVar 0)) (fCons (fFld "low" (fVar 0)) (fCons (fFld "high" (fVar 0)) fNil))))))
noncomputable def fb_Like___init_1 (c : Tab) : FS := (fSetF "other" (fVar 0) (fVar 2))
noncomputable def fb_Like___init (c : Tab) : FS := (fSeq (fSetF "column" (fVar 0) (fVar 1)) (fb_Like___init_1 c))
noncomputable def fb_Like_told (c : Tab) : FS := (fRet (fTup (fCons (fC (.str "like")) (fCons (fFld "column" (fVar 0)) (fCons (fFld "other" (fVar 0)) fNil)))))
noncomputable def fb_Paired___init_1 (c : Tab) : FS := (fSetF "other" (fVar 0) (fVar 2))
noncomputable def fb_Paired___init (c : Tab) : FS := (fSeq (fSetF "one" (fVar 0) (fVar 1)) (fb_Paired___init_1 c))
noncomputable def fb_Both_told (c : Tab) : FS := (fRet (fTup (fCons (fC (.str "both")) (fCons (fMeth "told" (dp_told c) (fFld "one" (fVar 0)) fNil) (fCons (fMeth "told" (dp_told c) (fFld "other" (fVar 0)) fNil) fNil)))))
noncomputable def fb_Either_told (c : Tab) : FS := (fRet (fTup (fCons (fC (.str "either")) (fCons (fMeth "told" (dp_told c) (fFld "one" (fVar 0)) fNil) (fCons (fMeth "told" (dp_told c) (fFld "other" (fVar 0)) fNil) fNil)))))
noncomputable def fb_Not___init (c : Tab) : FS := (fSetF "test" (fVar 0) (fVar 1))
noncomputable def fb_Not_told (c : Tab) : FS := (fRet (fTup (fCons (fC (.str "not")) (fCons (fMeth "told" (dp_told c) (fFld "test" (fVar 0)) fNil) fNil))))
noncomputable def fb_Among___init_1 (c : Tab) : FS := (fSetF "question" (fVar 0) (fVar 2))
noncomputable def fb_Among___init (c : Tab) : FS := (fSeq (fSetF "column" (fVar 0) (fVar 1)) (fb_Among___init_1 c))
noncomputable def fb_Among_told (c : Tab) : FS := (fRet (fTup (fCons (fC (.str "among")) (fCons (fFld "column" (fVar 0)) (fCons (fMeth "told" (dp_told c) (fFld "question" (fVar 0)) fNil) fNil)))))
noncomputable def fb_refuse (c : Tab) : FS := (fIf (fNot (fB (fVar 0)))
  (fRaiseA "NoQuestion" "at" (fVar 1))
  fPass)
noncomputable def fb_Question_told (c : Tab) : FS := (fRet (fTup fNil))
noncomputable def fb_Table___init (c : Tab) : FS := (fSetF "name" (fVar 0) (fVar 1))
noncomputable def fb_Table_told (c : Tab) : FS := (fRet (fTup (fCons (fC (.str "table")) (fCons (fFld "name" (fVar 0)) fNil))))
noncomputable def fb_Where___init_1 (c : Tab) : FS := (fSetF "q" (fVar 0) (fVar 2))
noncomputable def fb_Where___init (c : Tab) : FS := (fSeq (fSetF "test" (fVar 0) (fVar 1)) (fb_Where___init_1 c))
noncomputable def fb_Where_told (c : Tab) : FS := (fRet (fTup (fCons (fC (.str "where")) (fCons (fMeth "told" (dp_told c) (fFld "test" (fVar 0)) fNil) (fCons (fMeth "told" (dp_told c) (fFld "q" (fVar 0)) fNil) fNil)))))
noncomputable def fb_Columns___init_1 (c : Tab) : FS := (fSetF "q" (fVar 0) (fVar 2))
noncomputable def fb_Columns___init (c : Tab) : FS := (fSeq (fSetF "names" (fVar 0) (fPrim qTuple (fCons (fVar 1) fNil))) (fb_Columns___init_1 c))
noncomputable def fb_Columns_told (c : Tab) : FS := (fRet (fTup (fCons (fC (.str "columns")) (fCons (fFld "names" (fVar 0)) (fCons (fMeth "told" (dp_told c) (fFld "q" (fVar 0)) fNil) fNil)))))
noncomputable def fb_Joined___init_1 (c : Tab) : FS := (fSetF "other" (fVar 0) (fVar 2))
noncomputable def fb_Joined___init (c : Tab) : FS := (fSeq (fSetF "one" (fVar 0) (fVar 1)) (fb_Joined___init_1 c))
noncomputable def fb_Joined_told (c : Tab) : FS := (fRet (fTup (fCons (fC (.str "joined")) (fCons (fMeth "told" (dp_told c) (fFld "one" (fVar 0)) fNil) (fCons (fMeth "told" (dp_told c) (fFld "other" (fVar 0)) fNil) fNil)))))
noncomputable def fb_Sums___init_2 (c : Tab) : FS := (fSetF "q" (fVar 0) (fVar 3))
noncomputable def fb_Sums___init_1 (c : Tab) : FS := (fSeq (fSetF "column" (fVar 0) (fVar 2)) (fb_Sums___init_2 c))
noncomputable def fb_Sums___init (c : Tab) : FS := (fSeq (fSetF "by" (fVar 0) (fPrim qTuple (fCons (fVar 1) fNil))) (fb_Sums___init_1 c))
noncomputable def fb_Sums_told (c : Tab) : FS := (fRet (fTup (fCons (fC (.str "sums")) (fCons (fFld "by" (fVar 0)) (fCons (fFld "column" (fVar 0)) (fCons (fMeth "told" (dp_told c) (fFld "q" (fVar 0)) fNil) fNil))))))
noncomputable def fb_Ordered___init_1 (c : Tab) : FS := (fSetF "q" (fVar 0) (fVar 2))
noncomputable def fb_Ordered___init (c : Tab) : FS := (fSeq (fSetF "names" (fVar 0) (fPrim qTuple (fCons (fVar 1) fNil))) (fb_Ordered___init_1 c))
noncomputable def fb_Ordered_told (c : Tab) : FS := (fRet (fTup (fCons (fC (.str "ordered")) (fCons (fFld "names" (fVar 0)) (fCons (fMeth "told" (dp_told c) (fFld "q" (fVar 0)) fNil) fNil)))))
noncomputable def fb_First___init_1 (c : Tab) : FS := (fSetF "q" (fVar 0) (fVar 2))
noncomputable def fb_First___init (c : Tab) : FS := (fSeq (fSetF "limit" (fVar 0) (fVar 1)) (fb_First___init_1 c))
noncomputable def fb_First_told (c : Tab) : FS := (fRet (fTup (fCons (fC (.str "first")) (fCons (fFld "limit" (fVar 0)) (fCons (fMeth "told" (dp_told c) (fFld "q" (fVar 0)) fNil) fNil)))))
noncomputable def fb_is_name (c : Tab) : FS := (fRet (fPrim (qIsI subC) (fCons (fVar 0) (fCons (fC (.ty "str")) fNil))))
noncomputable def fb_is_number (c : Tab) : FS := (fRet (fAndV (fPrim (qIsI subC) (fCons (fVar 0) (fCons (fC (.ty "int")) fNil))) (fNotV (fPrim (qIsI subC) (fCons (fVar 0) (fCons (fC (.ty "bool")) fNil))))))
noncomputable def fb_is_bound (c : Tab) : FS := (fRet (fOrV (fPrim qIs (fCons (fVar 0) (fCons (fC .non) fNil))) (fCall (c .is_number) (fCons (fVar 0) fNil))))
noncomputable def fb_are_texts (c : Tab) : FS := (fRet (fAndV (fPrim (qIsI subC) (fCons (fVar 0) (fCons (fC (.ty "tuple")) fNil))) (fPrim qAll (fCons (fLc (fSq (fVar 0)) (fgN 1) fYes (fCall (c .is_name) (fCons (fVar 1) fNil)) [1]) fNil))))
noncomputable def fb_read_test_8 (c : Tab) : FS := (fRet (fMake "Among" (c .Among___init) (fCons (fPrim qIx (fCons (fVar 0) (fCons (fC (.int 1)) fNil))) (fCons (fCall (c .read_question) (fCons (fPrim qIx (fCons (fVar 0) (fCons (fC (.int 2)) fNil))) fNil)) fNil))))
noncomputable def fb_read_test_7 (c : Tab) : FS := (fSeq (fExp (fCall (c .refuse) (fCons (fAndV (fPrim qEq (fCons (fVar 1) (fCons (fC (.str "among")) fNil))) (fAndV (fPrim qEq (fCons (fPrim qLen (fCons (fVar 0) fNil)) (fCons (fC (.int 3)) fNil))) (fCall (c .is_name) (fCons (fPrim qIx (fCons (fVar 0) (fCons (fC (.int 1)) fNil))) fNil)))) (fCons (fTup fNil) fNil)))) (fb_read_test_8 c))
noncomputable def fb_read_test_6 (c : Tab) : FS := (fSeq (fIf (fAnd (fB (fPrim qEq (fCons (fVar 1) (fCons (fC (.str "not")) fNil)))) (fB (fPrim qEq (fCons (fPrim qLen (fCons (fVar 0) fNil)) (fCons (fC (.int 2)) fNil)))))
  (fRet (fMake "Not" (c .Not___init) (fCons (fCall (c .read_test) (fCons (fPrim qIx (fCons (fVar 0) (fCons (fC (.int 1)) fNil))) fNil)) fNil)))
  fPass) (fb_read_test_7 c))
noncomputable def fb_read_test_5 (c : Tab) : FS := (fSeq (fIf (fAnd (fB (fPrim qEq (fCons (fVar 1) (fCons (fC (.str "either")) fNil)))) (fB (fPrim qEq (fCons (fPrim qLen (fCons (fVar 0) fNil)) (fCons (fC (.int 3)) fNil)))))
  (fRet (fMake "Either" (c .Paired___init) (fCons (fCall (c .read_test) (fCons (fPrim qIx (fCons (fVar 0) (fCons (fC (.int 1)) fNil))) fNil)) (fCons (fCall (c .read_test) (fCons (fPrim qIx (fCons (fVar 0) (fCons (fC (.int 2)) fNil))) fNil)) fNil))))
  fPass) (fb_read_test_6 c))
noncomputable def fb_read_test_4 (c : Tab) : FS := (fSeq (fIf (fAnd (fB (fPrim qEq (fCons (fVar 1) (fCons (fC (.str "both")) fNil)))) (fB (fPrim qEq (fCons (fPrim qLen (fCons (fVar 0) fNil)) (fCons (fC (.int 3)) fNil)))))
  (fRet (fMake "Both" (c .Paired___init) (fCons (fCall (c .read_test) (fCons (fPrim qIx (fCons (fVar 0) (fCons (fC (.int 1)) fNil))) fNil)) (fCons (fCall (c .read_test) (fCons (fPrim qIx (fCons (fVar 0) (fCons (fC (.int 2)) fNil))) fNil)) fNil))))
  fPass) (fb_read_test_5 c))
noncomputable def fb_read_test_3 (c : Tab) : FS := (fSeq (fIf (fAnd (fB (fPrim qEq (fCons (fVar 1) (fCons (fC (.str "like")) fNil)))) (fAnd (fB (fPrim qEq (fCons (fPrim qLen (fCons (fVar 0) fNil)) (fCons (fC (.int 3)) fNil)))) (fAnd (fB (fCall (c .is_name) (fCons (fPrim qIx (fCons (fVar 0) (fCons (fC (.int 1)) fNil))) fNil))) (fB (fCall (c .is_name) (fCons (fPrim qIx (fCons (fVar 0) (fCons (fC (.int 2)) fNil))) fNil))))))
  (fRet (fMake "Like" (c .Like___init) (fCons (fPrim qIx (fCons (fVar 0) (fCons (fC (.int 1)) fNil))) (fCons (fPrim qIx (fCons (fVar 0) (fCons (fC (.int 2)) fNil))) fNil))))
  fPass) (fb_read_test_4 c))
noncomputable def fb_read_test_2 (c : Tab) : FS := (fSeq (fIf (fAnd (fB (fPrim qEq (fCons (fVar 1) (fCons (fC (.str "within")) fNil)))) (fAnd (fB (fPrim qEq (fCons (fPrim qLen (fCons (fVar 0) fNil)) (fCons (fC (.int 4)) fNil)))) (fAnd (fB (fCall (c .is_name) (fCons (fPrim qIx (fCons (fVar 0) (fCons (fC (.int 1)) fNil))) fNil))) (fAnd (fB (fCall (c .is_bound) (fCons (fPrim qIx (fCons (fVar 0) (fCons (fC (.int 2)) fNil))) fNil))) (fB (fCall (c .is_bound) (fCons (fPrim qIx (fCons (fVar 0) (fCons (fC (.int 3)) fNil))) fNil)))))))
  (fRet (fMake "Within" (c .Within___init) (fCons (fPrim qIx (fCons (fVar 0) (fCons (fC (.int 1)) fNil))) (fCons (fPrim qIx (fCons (fVar 0) (fCons (fC (.int 2)) fNil))) (fCons (fPrim qIx (fCons (fVar 0) (fCons (fC (.int 3)) fNil))) fNil)))))
  fPass) (fb_read_test_3 c))
noncomputable def fb_read_test_1 (c : Tab) : FS := (fSeq (fAsg (fPrim qIx (fCons (fVar 0) (fCons (fC (.int 0)) fNil))) (fgN 1)) (fb_read_test_2 c))
noncomputable def fb_read_test (c : Tab) : FS := (fSeq (fExp (fCall (c .refuse) (fCons (fAndV (fPrim (qIsI subC) (fCons (fVar 0) (fCons (fC (.ty "tuple")) fNil))) (fPrim qGt (fCons (fPrim qLen (fCons (fVar 0) fNil)) (fCons (fC (.int 1)) fNil)))) (fCons (fTup fNil) fNil)))) (fb_read_test_1 c))
noncomputable def fb_read_named_5 (c : Tab) : FS := (fRet (fMake "Sums" (c .Sums___init) (fCons (fPrim qIx (fCons (fVar 0) (fCons (fC (.int 1)) fNil))) (fCons (fPrim qIx (fCons (fVar 0) (fCons (fC (.int 2)) fNil))) (fCons (fCall (c .read_question) (fCons (fPrim qIx (fCons (fVar 0) (fCons (fC (.int 3)) fNil))) fNil)) fNil)))))
noncomputable def fb_read_named_4 (c : Tab) : FS := (fSeq (fExp (fCall (c .refuse) (fCons (fAndV (fPrim qEq (fCons (fVar 1) (fCons (fC (.str "sums")) fNil))) (fAndV (fPrim qEq (fCons (fPrim qLen (fCons (fVar 0) fNil)) (fCons (fC (.int 4)) fNil))) (fCall (c .is_name) (fCons (fPrim qIx (fCons (fVar 0) (fCons (fC (.int 2)) fNil))) fNil)))) (fCons (fTup fNil) fNil)))) (fb_read_named_5 c))
noncomputable def fb_read_named_3 (c : Tab) : FS := (fSeq (fIf (fAnd (fB (fPrim qEq (fCons (fVar 1) (fCons (fC (.str "ordered")) fNil)))) (fB (fPrim qEq (fCons (fPrim qLen (fCons (fVar 0) fNil)) (fCons (fC (.int 3)) fNil)))))
  (fRet (fMake "Ordered" (c .Ordered___init) (fCons (fPrim qIx (fCons (fVar 0) (fCons (fC (.int 1)) fNil))) (fCons (fCall (c .read_question) (fCons (fPrim qIx (fCons (fVar 0) (fCons (fC (.int 2)) fNil))) fNil)) fNil))))
  fPass) (fb_read_named_4 c))
noncomputable def fb_read_named_2 (c : Tab) : FS := (fSeq (fIf (fAnd (fB (fPrim qEq (fCons (fVar 1) (fCons (fC (.str "columns")) fNil)))) (fB (fPrim qEq (fCons (fPrim qLen (fCons (fVar 0) fNil)) (fCons (fC (.int 3)) fNil)))))
  (fRet (fMake "Columns" (c .Columns___init) (fCons (fPrim qIx (fCons (fVar 0) (fCons (fC (.int 1)) fNil))) (fCons (fCall (c .read_question) (fCons (fPrim qIx (fCons (fVar 0) (fCons (fC (.int 2)) fNil))) fNil)) fNil))))
  fPass) (fb_read_named_3 c))
noncomputable def fb_read_named_1 (c : Tab) : FS := (fSeq (fExp (fCall (c .refuse) (fCons (fAndV (fPrim qGt (fCons (fPrim qLen (fCons (fVar 0) fNil)) (fCons (fC (.int 2)) fNil))) (fCall (c .are_texts) (fCons (fPrim qIx (fCons (fVar 0) (fCons (fC (.int 1)) fNil))) fNil))) (fCons (fTup fNil) fNil)))) (fb_read_named_2 c))
noncomputable def fb_read_named (c : Tab) : FS := (fSeq (fAsg (fPrim qIx (fCons (fVar 0) (fCons (fC (.int 0)) fNil))) (fgN 1)) (fb_read_named_1 c))
noncomputable def fb_read_question_6 (c : Tab) : FS := (fRet (fCall (c .read_named) (fCons (fVar 0) fNil)))
noncomputable def fb_read_question_5 (c : Tab) : FS := (fSeq (fIf (fAnd (fB (fPrim qEq (fCons (fVar 1) (fCons (fC (.str "first")) fNil)))) (fAnd (fB (fPrim qEq (fCons (fPrim qLen (fCons (fVar 0) fNil)) (fCons (fC (.int 3)) fNil)))) (fB (fCall (c .is_number) (fCons (fPrim qIx (fCons (fVar 0) (fCons (fC (.int 1)) fNil))) fNil)))))
  (fRet (fMake "First" (c .First___init) (fCons (fPrim qIx (fCons (fVar 0) (fCons (fC (.int 1)) fNil))) (fCons (fCall (c .read_question) (fCons (fPrim qIx (fCons (fVar 0) (fCons (fC (.int 2)) fNil))) fNil)) fNil))))
  fPass) (fb_read_question_6 c))
noncomputable def fb_read_question_4 (c : Tab) : FS := (fSeq (fIf (fAnd (fB (fPrim qEq (fCons (fVar 1) (fCons (fC (.str "joined")) fNil)))) (fB (fPrim qEq (fCons (fPrim qLen (fCons (fVar 0) fNil)) (fCons (fC (.int 3)) fNil)))))
  (fRet (fMake "Joined" (c .Joined___init) (fCons (fCall (c .read_question) (fCons (fPrim qIx (fCons (fVar 0) (fCons (fC (.int 1)) fNil))) fNil)) (fCons (fCall (c .read_question) (fCons (fPrim qIx (fCons (fVar 0) (fCons (fC (.int 2)) fNil))) fNil)) fNil))))
  fPass) (fb_read_question_5 c))
noncomputable def fb_read_question_3 (c : Tab) : FS := (fSeq (fIf (fAnd (fB (fPrim qEq (fCons (fVar 1) (fCons (fC (.str "where")) fNil)))) (fB (fPrim qEq (fCons (fPrim qLen (fCons (fVar 0) fNil)) (fCons (fC (.int 3)) fNil)))))
  (fRet (fMake "Where" (c .Where___init) (fCons (fCall (c .read_test) (fCons (fPrim qIx (fCons (fVar 0) (fCons (fC (.int 1)) fNil))) fNil)) (fCons (fCall (c .read_question) (fCons (fPrim qIx (fCons (fVar 0) (fCons (fC (.int 2)) fNil))) fNil)) fNil))))
  fPass) (fb_read_question_4 c))
noncomputable def fb_read_question_2 (c : Tab) : FS := (fSeq (fIf (fAnd (fB (fPrim qEq (fCons (fVar 1) (fCons (fC (.str "table")) fNil)))) (fAnd (fB (fPrim qEq (fCons (fPrim qLen (fCons (fVar 0) fNil)) (fCons (fC (.int 2)) fNil)))) (fB (fCall (c .is_name) (fCons (fPrim qIx (fCons (fVar 0) (fCons (fC (.int 1)) fNil))) fNil)))))
  (fRet (fMake "Table" (c .Table___init) (fCons (fPrim qIx (fCons (fVar 0) (fCons (fC (.int 1)) fNil))) fNil)))
  fPass) (fb_read_question_3 c))
noncomputable def fb_read_question_1 (c : Tab) : FS := (fSeq (fAsg (fPrim qIx (fCons (fVar 0) (fCons (fC (.int 0)) fNil))) (fgN 1)) (fb_read_question_2 c))
noncomputable def fb_read_question (c : Tab) : FS := (fSeq (fExp (fCall (c .refuse) (fCons (fAndV (fPrim (qIsI subC) (fCons (fVar 0) (fCons (fC (.ty "tuple")) fNil))) (fPrim qGt (fCons (fPrim qLen (fCons (fVar 0) fNil)) (fCons (fC (.int 1)) fNil)))) (fCons (fTup fNil) fNil)))) (fb_read_question_1 c))
noncomputable def fb_l_cell_at_1 (c : Tab) : FS := (fRet (fC (.int 0)))
noncomputable def fb_l_cell_at (c : Tab) : FS := (fSeq (fIf (fB (fPrim qLt (fCons (fVar 1) (fCons (fPrim qLen (fCons (fVar 0) fNil)) fNil))))
  (fRet (fPrim qIx (fCons (fVar 0) (fCons (fVar 1) fNil))))
  fPass) (fb_l_cell_at_1 c))
noncomputable def fb_l_right_6 (c : Tab) : FS := (fRet (fPrim qAdd (fCons (fVar 3) (fCons (fLst (fCons (fTup (fCons (fC (.str "joined")) (fCons (fVar 2) (fCons (fTup (fCons (fC (.str "where")) (fCons (fVar 1) (fCons (fVar 2) fNil)))) fNil)))) (fCons (fVar 2) fNil))) fNil))))
noncomputable def fb_l_right_5 (c : Tab) : FS := (fSeq (fAsg (fPrim qAdd (fCons (fVar 3) (fCons (fLst (fCons (fTup (fCons (fC (.str "ordered")) (fCons (fTup (fCons (fC (.str "a")) fNil)) (fCons (fVar 2) fNil)))) (fCons (fTup (fCons (fC (.str "first")) (fCons (fPrim qMod (fCons (fPrim qDiv (fCons (fVar 0) (fCons (fC (.int 12)) fNil))) (fCons (fC (.int 5)) fNil))) (fCons (fTup (fCons (fC (.str "ordered")) (fCons (fTup fNil) (fCons (fVar 2) fNil)))) fNil)))) fNil))) fNil))) (fgN 3)) (fb_l_right_6 c))
noncomputable def fb_l_right_4 (c : Tab) : FS := (fSeq (fAsg (fLst (fCons (fTup (fCons (fC (.str "where")) (fCons (fVar 1) (fCons (fVar 2) fNil)))) (fCons (fTup (fCons (fC (.str "columns")) (fCons (fTup (fCons (fC (.str "b")) (fCons (fC (.str "a")) fNil))) (fCons (fVar 2) fNil)))) (fCons (fTup (fCons (fC (.str "sums")) (fCons (fTup fNil) (fCons (fC (.str "a")) (fCons (fVar 2) fNil))))) fNil)))) (fgN 3)) (fb_l_right_5 c))
noncomputable def fb_l_right_3 (c : Tab) : FS := (fSeq (fAsg (fTup (fCons (fC (.str "table")) (fCons (fC (.str "t")) fNil))) (fgN 2)) (fb_l_right_4 c))
noncomputable def fb_l_right_2 (c : Tab) : FS := (fSeq (fIf (fB (fPrim qEq (fCons (fPrim qMod (fCons (fPrim qDiv (fCons (fVar 0) (fCons (fC (.int 4)) fNil))) (fCons (fC (.int 3)) fNil))) (fCons (fC (.int 2)) fNil))))
  (fAsg (fTup (fCons (fC (.str "either")) (fCons (fTup (fCons (fC (.str "among")) (fCons (fC (.str "b")) (fCons (fTup (fCons (fC (.str "table")) (fCons (fC (.str "u")) fNil))) fNil)))) (fCons (fVar 1) fNil)))) (fgN 1))
  fPass) (fb_l_right_3 c))
noncomputable def fb_l_right_1 (c : Tab) : FS := (fSeq (fIf (fB (fPrim qEq (fCons (fPrim qMod (fCons (fPrim qDiv (fCons (fVar 0) (fCons (fC (.int 4)) fNil))) (fCons (fC (.int 3)) fNil))) (fCons (fC (.int 1)) fNil))))
  (fAsg (fTup (fCons (fC (.str "both")) (fCons (fVar 1) (fCons (fTup (fCons (fC (.str "not")) (fCons (fTup (fCons (fC (.str "like")) (fCons (fC (.str "a")) (fCons (fC (.str "b")) fNil)))) fNil))) fNil)))) (fgN 1))
  fPass) (fb_l_right_2 c))
noncomputable def fb_l_right (c : Tab) : FS := (fSeq (fAsg (fTup (fCons (fC (.str "within")) (fCons (fC (.str "a")) (fCons (fPrim qIx (fCons (fLst (fCons (fC .non) (fCons (fPrim qMod (fCons (fVar 0) (fCons (fC (.int 9)) fNil))) fNil))) (fCons (fPrim qMod (fCons (fVar 0) (fCons (fC (.int 2)) fNil))) fNil))) (fCons (fPrim qIx (fCons (fLst (fCons (fC .non) (fCons (fPrim qMod (fCons (fVar 0) (fCons (fC (.int 7)) fNil))) fNil))) (fCons (fPrim qMod (fCons (fPrim qDiv (fCons (fVar 0) (fCons (fC (.int 2)) fNil))) (fCons (fC (.int 2)) fNil))) fNil))) fNil))))) (fgN 1)) (fb_l_right_1 c))
noncomputable def fb_l_strange_10 (c : Tab) : FS := (fRet (fPrim qIx (fCons (fVar 1) (fCons (fPrim qMod (fCons (fVar 0) (fCons (fPrim qLen (fCons (fVar 1) fNil)) fNil))) fNil))))
noncomputable def fb_l_strange_9 (c : Tab) : FS := (fSeq (fAsg (fPrim qAdd (fCons (fVar 1) (fCons (fLst (fCons (fTup (fCons (fC (.str "columns")) (fCons (fTup fNil) (fCons (fVar 2) (fCons (fVar 2) fNil))))) (fCons (fTup (fCons (fC (.str "where")) (fCons (fVar 3) (fCons (fVar 2) (fCons (fVar 2) fNil))))) fNil))) fNil))) (fgN 1)) (fb_l_strange_10 c))
noncomputable def fb_l_strange_8 (c : Tab) : FS := (fSeq (fAsg (fPrim qAdd (fCons (fVar 1) (fCons (fLst (fCons (fTup (fCons (fC (.str "joined")) (fCons (fVar 2) (fCons (fVar 2) (fCons (fVar 2) fNil))))) (fCons (fTup (fCons (fC (.str "ordered")) (fCons (fTup fNil) (fCons (fVar 2) (fCons (fVar 2) fNil))))) (fCons (fTup (fCons (fC (.str "sums")) (fCons (fTup fNil) (fCons (fC (.str "a")) (fCons (fVar 2) (fCons (fVar 2) fNil)))))) (fCons (fTup (fCons (fC (.str "first")) (fCons (fC (.int 1)) (fCons (fVar 2) (fCons (fVar 2) fNil))))) fNil))))) fNil))) (fgN 1)) (fb_l_strange_9 c))
noncomputable def fb_l_strange_7 (c : Tab) : FS := (fSeq (fAsg (fTup (fCons (fC (.str "like")) (fCons (fC (.str "a")) (fCons (fC (.str "b")) fNil)))) (fgN 3)) (fb_l_strange_8 c))
noncomputable def fb_l_strange_6 (c : Tab) : FS := (fSeq (fAsg (fPrim qAdd (fCons (fVar 1) (fCons (fLst (fCons (fTup (fCons (fC (.str "joined")) (fCons (fVar 2) fNil))) (fCons (fTup (fCons (fC (.str "joined")) (fCons (fVar 2) (fCons (fC .non) fNil)))) (fCons (fTup (fCons (fC (.str "joined")) (fCons (fVar 2) (fCons (fC (.str "u")) (fCons (fC (.str "v")) fNil))))) fNil)))) fNil))) (fgN 1)) (fb_l_strange_7 c))
noncomputable def fb_l_strange_5 (c : Tab) : FS := (fSeq (fAsg (fPrim qAdd (fCons (fVar 1) (fCons (fLst (fCons (fTup (fCons (fC (.str "first")) (fCons (fC (.bl true)) (fCons (fVar 2) fNil)))) (fCons (fTup (fCons (fC (.str "first")) (fCons (fC (.str "1")) (fCons (fVar 2) fNil)))) (fCons (fTup (fCons (fC (.str "first")) (fCons (fC .non) (fCons (fVar 2) fNil)))) fNil)))) fNil))) (fgN 1)) (fb_l_strange_6 c))
noncomputable def fb_l_strange_4 (c : Tab) : FS := (fSeq (fAsg (fPrim qAdd (fCons (fVar 1) (fCons (fLst (fCons (fTup (fCons (fC (.str "sums")) (fCons (fTup (fCons (fC (.str "a")) fNil)) (fCons (fVar 2) fNil)))) (fCons (fTup (fCons (fC (.str "sums")) (fCons (fTup fNil) (fCons (fC .non) (fCons (fVar 2) fNil))))) (fCons (fTup (fCons (fC (.str "ordered")) (fCons (fTup fNil) (fCons (fC (.str "t")) (fCons (fTup fNil) fNil))))) fNil)))) fNil))) (fgN 1)) (fb_l_strange_5 c))
noncomputable def fb_l_strange_3 (c : Tab) : FS := (fSeq (fAsg (fPrim qAdd (fCons (fVar 1) (fCons (fLst (fCons (fTup (fCons (fC (.str "columns")) (fCons (fLst (fCons (fC (.str "a")) fNil)) (fCons (fVar 2) fNil)))) (fCons (fTup (fCons (fC (.str "columns")) (fCons (fTup (fCons (fC (.str "a")) (fCons (fC (.int 7)) fNil))) (fCons (fVar 2) fNil)))) (fCons (fTup (fCons (fC (.str "columns")) (fCons (fC (.str "a")) (fCons (fVar 2) fNil)))) fNil)))) fNil))) (fgN 1)) (fb_l_strange_4 c))
noncomputable def fb_l_strange_2 (c : Tab) : FS := (fSeq (fAsg (fPrim qAdd (fCons (fVar 1) (fCons (fLst (fCons (fTup (fCons (fC (.str "where")) (fCons (fVar 2) (fCons (fVar 2) fNil)))) (fCons (fTup (fCons (fC (.str "where")) (fCons (fTup (fCons (fC (.str "within")) (fCons (fC (.str "a")) (fCons (fC (.int 1)) (fCons (fC (.int 2)) fNil))))) fNil))) (fCons (fTup (fCons (fC (.str "not")) (fCons (fTup (fCons (fC (.str "like")) (fCons (fC (.str "a")) (fCons (fC (.str "b")) fNil)))) fNil))) fNil)))) fNil))) (fgN 1)) (fb_l_strange_3 c))
noncomputable def fb_l_strange_1 (c : Tab) : FS := (fSeq (fAsg (fTup (fCons (fC (.str "table")) (fCons (fC (.str "t")) fNil))) (fgN 2)) (fb_l_strange_2 c))
noncomputable def fb_l_strange (c : Tab) : FS := (fSeq (fAsg (fLst (fCons (fC (.str "t")) (fCons (fC (.int 7)) (fCons (fC (.bl true)) (fCons (fC .non) (fCons (fLst (fCons (fC (.str "table")) (fCons (fC (.str "t")) fNil))) (fCons (fTup fNil) (fCons (fTup (fCons (fC (.str "table")) fNil)) (fCons (fTup (fCons (fC (.str "tables")) (fCons (fC (.str "t")) fNil))) (fCons (fTup (fCons (fC (.str "table")) (fCons (fC (.int 7)) fNil))) (fCons (fTup (fCons (fC (.str "table")) (fCons (fC (.str "t")) (fCons (fC (.str "t")) fNil)))) fNil))))))))))) (fgN 1)) (fb_l_strange_1 c))
noncomputable def fb_l_no_test_7 (c : Tab) : FS := (fRet (fPrim qIx (fCons (fVar 2) (fCons (fPrim qMod (fCons (fVar 0) (fCons (fPrim qLen (fCons (fVar 2) fNil)) fNil))) fNil))))
noncomputable def fb_l_no_test_6 (c : Tab) : FS := (fSeq (fAsg (fPrim qAdd (fCons (fVar 2) (fCons (fLst (fCons (fTup (fCons (fC (.str "not")) (fCons (fVar 1) (fCons (fVar 1) fNil)))) (fCons (fTup (fCons (fC (.str "both")) (fCons (fVar 1) (fCons (fVar 1) (fCons (fVar 1) fNil))))) (fCons (fTup (fCons (fC (.str "among")) (fCons (fC (.str "a")) (fCons (fTup (fCons (fC (.str "table")) (fCons (fC (.str "t")) fNil))) (fCons (fC (.int 7)) fNil))))) fNil)))) fNil))) (fgN 2)) (fb_l_no_test_7 c))
noncomputable def fb_l_no_test_5 (c : Tab) : FS := (fSeq (fAsg (fPrim qAdd (fCons (fVar 2) (fCons (fLst (fCons (fTup (fCons (fC (.str "like")) (fCons (fC (.str "a")) (fCons (fC (.str "b")) (fCons (fC (.str "c")) fNil))))) (fCons (fTup (fCons (fC (.str "nor")) (fCons (fVar 1) fNil))) (fCons (fTup (fCons (fC (.str "table")) (fCons (fC (.str "t")) fNil))) fNil)))) fNil))) (fgN 2)) (fb_l_no_test_6 c))
noncomputable def fb_l_no_test_4 (c : Tab) : FS := (fSeq (fAsg (fPrim qAdd (fCons (fVar 2) (fCons (fLst (fCons (fTup (fCons (fC (.str "among")) (fCons (fC .non) (fCons (fTup (fCons (fC (.str "table")) (fCons (fC (.str "t")) fNil))) fNil)))) (fCons (fLst (fCons (fC (.str "like")) (fCons (fC (.str "a")) (fCons (fC (.str "b")) fNil)))) (fCons (fTup (fCons (fC (.str "within")) (fCons (fC (.str "a")) (fCons (fC (.int 1)) (fCons (fC (.int 2)) (fCons (fC (.int 3)) fNil)))))) fNil)))) fNil))) (fgN 2)) (fb_l_no_test_5 c))
noncomputable def fb_l_no_test_3 (c : Tab) : FS := (fSeq (fAsg (fPrim qAdd (fCons (fVar 2) (fCons (fLst (fCons (fTup (fCons (fC (.str "either")) (fCons (fVar 1) (fCons (fC (.int 7)) fNil)))) (fCons (fTup (fCons (fC (.str "not")) (fCons (fC (.str "a")) fNil))) (fCons (fTup (fCons (fC (.str "among")) (fCons (fC (.str "a")) fNil))) (fCons (fTup (fCons (fC (.str "among")) (fCons (fC (.str "a")) (fCons (fC (.str "t")) fNil)))) fNil))))) fNil))) (fgN 2)) (fb_l_no_test_4 c))
noncomputable def fb_l_no_test_2 (c : Tab) : FS := (fSeq (fAsg (fPrim qAdd (fCons (fVar 2) (fCons (fLst (fCons (fTup (fCons (fC (.str "within")) (fCons (fC (.str "a")) (fCons (fC (.str "1")) (fCons (fC .non) fNil))))) (fCons (fTup (fCons (fC (.str "like")) (fCons (fC (.str "a")) fNil))) (fCons (fTup (fCons (fC (.str "like")) (fCons (fC (.str "a")) (fCons (fC .non) fNil)))) (fCons (fTup (fCons (fC (.str "both")) (fCons (fVar 1) fNil))) (fCons (fTup (fCons (fC (.str "not")) fNil)) fNil)))))) fNil))) (fgN 2)) (fb_l_no_test_3 c))
noncomputable def fb_l_no_test_1 (c : Tab) : FS := (fSeq (fAsg (fLst (fCons (fC (.str "a")) (fCons (fC (.int 7)) (fCons (fC .non) (fCons (fTup fNil) (fCons (fTup (fCons (fC (.str "within")) (fCons (fC (.str "a")) (fCons (fC (.int 1)) fNil)))) (fCons (fTup (fCons (fC (.str "within")) (fCons (fC (.str "a")) (fCons (fC (.int 1)) (fCons (fC (.bl true)) fNil))))) (fCons (fTup (fCons (fC (.str "within")) (fCons (fC (.int 7)) (fCons (fC (.int 1)) (fCons (fC (.int 2)) fNil))))) fNil)))))))) (fgN 2)) (fb_l_no_test_2 c))
noncomputable def fb_l_no_test (c : Tab) : FS := (fSeq (fAsg (fTup (fCons (fC (.str "like")) (fCons (fC (.str "a")) (fCons (fC (.str "b")) fNil)))) (fgN 1)) (fb_l_no_test_1 c))
noncomputable def fb_l_spoilt_2 (c : Tab) : FS := (fRet (fPrim qAdd (fCons (fSl (fVar 0) fNoP (fPart (fPrim qNeg (fCons (fC (.int 1)) fNil)))) (fCons (fTup (fCons (fCall (c .l_spoilt) (fCons (fPrim qIx (fCons (fVar 0) (fCons (fPrim qNeg (fCons (fC (.int 1)) fNil)) fNil))) (fCons (fPrim qDiv (fCons (fVar 1) (fCons (fC (.int 3)) fNil))) (fCons (fVar 2) fNil)))) fNil)) fNil))))
noncomputable def fb_l_spoilt_1 (c : Tab) : FS := (fSeq (fIf (fB (fPrim qEq (fCons (fPrim qIx (fCons (fVar 0) (fCons (fC (.int 0)) fNil))) (fCons (fC (.str "joined")) fNil))))
  (fSeq (fIf (fB (fPrim qEq (fCons (fPrim qMod (fCons (fPrim qDiv (fCons (fVar 1) (fCons (fC (.int 3)) fNil))) (fCons (fC (.int 2)) fNil))) (fCons (fC (.int 0)) fNil))))
  (fRet (fTup (fCons (fC (.str "joined")) (fCons (fCall (c .l_spoilt) (fCons (fPrim qIx (fCons (fVar 0) (fCons (fC (.int 1)) fNil))) (fCons (fPrim qDiv (fCons (fVar 1) (fCons (fC (.int 6)) fNil))) (fCons (fVar 2) fNil)))) (fCons (fPrim qIx (fCons (fVar 0) (fCons (fC (.int 2)) fNil))) fNil)))))
  fPass)
  (fRet (fTup (fCons (fC (.str "joined")) (fCons (fPrim qIx (fCons (fVar 0) (fCons (fC (.int 1)) fNil))) (fCons (fCall (c .l_spoilt) (fCons (fPrim qIx (fCons (fVar 0) (fCons (fC (.int 2)) fNil))) (fCons (fPrim qDiv (fCons (fVar 1) (fCons (fC (.int 6)) fNil))) (fCons (fVar 2) fNil)))) fNil))))))
  fPass) (fb_l_spoilt_2 c))
noncomputable def fb_l_spoilt (c : Tab) : FS := (fSeq (fIf (fOr (fB (fPrim qEq (fCons (fPrim qIx (fCons (fVar 0) (fCons (fC (.int 0)) fNil))) (fCons (fC (.str "table")) fNil)))) (fB (fPrim qEq (fCons (fPrim qMod (fCons (fVar 1) (fCons (fC (.int 3)) fNil))) (fCons (fC (.int 0)) fNil)))))
  (fRet (fVar 2))
  fPass) (fb_l_spoilt_1 c))
noncomputable def fb_l_refused_1 (c : Tab) : FS := (fRet (fC (.bl false)))
noncomputable def fb_l_refused (c : Tab) : FS := (fSeq (fTryAs 1 (xsub "NoQuestion") (fExp (fCall (c .read_question) (fCons (fVar 0) fNil))) (fun e a d => (fRet (fPrim qEq (fCons (fXf a d "at" (fVar 1)) (fCons (fTup fNil) fNil)))))) (fb_l_refused_1 c))
noncomputable def fb_l_test_refused_1 (c : Tab) : FS := (fRet (fC (.bl false)))
noncomputable def fb_l_test_refused (c : Tab) : FS := (fSeq (fTryAs 1 (xsub "NoQuestion") (fExp (fCall (c .read_test) (fCons (fVar 0) fNil))) (fun e a d => (fRet (fPrim qEq (fCons (fXf a d "at" (fVar 1)) (fCons (fTup fNil) fNil)))))) (fb_l_test_refused_1 c))
noncomputable def fb_law_8 (c : Tab) : FS := (fRet (fPrim qEq (fCons (fMeth "told" (dp_told c) (fCall (c .read_test) (fCons (fVar 6) fNil)) fNil) (fCons (fVar 6) fNil))))
noncomputable def fb_law_7 (c : Tab) : FS := (fSeq (fIf (fOr (fNot (fB (fCall (c .l_test_refused) (fCons (fVar 7) fNil)))) (fNot (fB (fCall (c .l_refused) (fCons (fTup (fCons (fC (.str "where")) (fCons (fVar 7) (fCons (fTup (fCons (fC (.str "table")) (fCons (fC (.str "t")) fNil))) fNil)))) fNil)))))
  (fRet (fC (.bl false)))
  fPass) (fb_law_8 c))
noncomputable def fb_law_6 (c : Tab) : FS := (fSeq (fAsg (fPrim qIx (fCons (fLst (fCons (fVar 4) (fCons (fTup (fCons (fC (.str "not")) (fCons (fVar 4) fNil))) (fCons (fTup (fCons (fC (.str "both")) (fCons (fVar 6) (fCons (fVar 4) fNil)))) fNil)))) (fCons (fVar 5) fNil))) (fgN 7)) (fb_law_7 c))
noncomputable def fb_law_5 (c : Tab) : FS := (fSeq (fAsg (fTup (fCons (fC (.str "like")) (fCons (fC (.str "a")) (fCons (fC (.str "b")) fNil)))) (fgN 6)) (fb_law_6 c))
noncomputable def fb_law_4 (c : Tab) : FS := (fSeq (fAsg (fPrim qMod (fCons (fCall (c .l_cell_at) (fCons (fVar 0) (fCons (fC (.int 4)) fNil))) (fCons (fC (.int 3)) fNil))) (fgN 5)) (fb_law_5 c))
noncomputable def fb_law_3 (c : Tab) : FS := (fSeq (fAsg (fCall (c .l_no_test) (fCons (fCall (c .l_cell_at) (fCons (fVar 0) (fCons (fC (.int 3)) fNil))) fNil)) (fgN 4)) (fb_law_4 c))
noncomputable def fb_law_2 (c : Tab) : FS := (fSeq (fFor (fSq (fCall (c .l_right) (fCons (fVar 1) fNil))) (fgN 3)
  (fSeq (fIf (fB (fPrim qNe (fCons (fMeth "told" (dp_told c) (fCall (c .read_question) (fCons (fVar 3) fNil)) fNil) (fCons (fVar 3) fNil))))
  (fRet (fC (.bl false)))
  fPass)
  (fIf (fNot (fB (fCall (c .l_refused) (fCons (fCall (c .l_spoilt) (fCons (fVar 3) (fCons (fCall (c .l_cell_at) (fCons (fVar 0) (fCons (fC (.int 2)) fNil))) (fCons (fVar 2) fNil)))) fNil))))
  (fRet (fC (.bl false)))
  fPass))) (fb_law_3 c))
noncomputable def fb_law_1 (c : Tab) : FS := (fSeq (fAsg (fCall (c .l_strange) (fCons (fCall (c .l_cell_at) (fCons (fVar 0) (fCons (fC (.int 1)) fNil))) fNil)) (fgN 2)) (fb_law_2 c))
noncomputable def fb_law (c : Tab) : FS := (fSeq (fAsg (fCall (c .l_cell_at) (fCons (fVar 0) (fCons (fC (.int 0)) fNil))) (fgN 1)) (fb_law_1 c))
noncomputable def step (c : Tab) : Tab
  | .Test_told => runB 1 1 (fb_Test_told c)
  | .Within___init => runB 4 4 (fb_Within___init c)
  | .Within_told => runB 1 1 (fb_Within_told c)
  | .Like___init => runB 3 3 (fb_Like___init c)
  | .Like_told => runB 1 1 (fb_Like_told c)
  | .Paired___init => runB 3 3 (fb_Paired___init c)
  | .Both_told => runB 1 1 (fb_Both_told c)
  | .Either_told => runB 1 1 (fb_Either_told c)
  | .Not___init => runB 2 2 (fb_Not___init c)
  | .Not_told => runB 1 1 (fb_Not_told c)
  | .Among___init => runB 3 3 (fb_Among___init c)
  | .Among_told => runB 1 1 (fb_Among_told c)
  | .refuse => runB 2 2 (fb_refuse c)
  | .Question_told => runB 1 1 (fb_Question_told c)
  | .Table___init => runB 2 2 (fb_Table___init c)
  | .Table_told => runB 1 1 (fb_Table_told c)
  | .Where___init => runB 3 3 (fb_Where___init c)
  | .Where_told => runB 1 1 (fb_Where_told c)
  | .Columns___init => runB 3 3 (fb_Columns___init c)
  | .Columns_told => runB 1 1 (fb_Columns_told c)
  | .Joined___init => runB 3 3 (fb_Joined___init c)
  | .Joined_told => runB 1 1 (fb_Joined_told c)
  | .Sums___init => runB 4 4 (fb_Sums___init c)
  | .Sums_told => runB 1 1 (fb_Sums_told c)
  | .Ordered___init => runB 3 3 (fb_Ordered___init c)
  | .Ordered_told => runB 1 1 (fb_Ordered_told c)
  | .First___init => runB 3 3 (fb_First___init c)
  | .First_told => runB 1 1 (fb_First_told c)
  | .is_name => runB 1 1 (fb_is_name c)
  | .is_number => runB 1 1 (fb_is_number c)
  | .is_bound => runB 1 1 (fb_is_bound c)
  | .are_texts => runB 2 1 (fb_are_texts c)
  | .read_test => runB 2 1 (fb_read_test c)
  | .read_named => runB 2 1 (fb_read_named c)
  | .read_question => runB 2 1 (fb_read_question c)
  | .l_cell_at => runB 2 2 (fb_l_cell_at c)
  | .l_right => runB 4 1 (fb_l_right c)
  | .l_strange => runB 4 1 (fb_l_strange c)
  | .l_no_test => runB 3 1 (fb_l_no_test c)
  | .l_spoilt => runB 3 3 (fb_l_spoilt c)
  | .l_refused => runB 2 1 (fb_l_refused c)
  | .l_test_refused => runB 2 1 (fb_l_test_refused c)
  | .law => runB 8 1 (fb_law c)
noncomputable def call : Nat → Tab
  | 0 => fun _ _ _ => .bad
  | n + 1 => step (call n)
theorem c_Test_told {n : Nat} (h : 0 < n) {ds : List D} {M : DM} : call n .Test_told ds M = runB 1 1 (fb_Test_told (call (n - 1))) ds M := by
  cases n with
  | zero => cases h
  | succ n => rfl
theorem c_Within___init {n : Nat} (h : 0 < n) {ds : List D} {M : DM} : call n .Within___init ds M = runB 4 4 (fb_Within___init (call (n - 1))) ds M := by
  cases n with
  | zero => cases h
  | succ n => rfl
theorem c_Within_told {n : Nat} (h : 0 < n) {ds : List D} {M : DM} : call n .Within_told ds M = runB 1 1 (fb_Within_told (call (n - 1))) ds M := by
  cases n with
  | zero => cases h
  | succ n => rfl
theorem c_Like___init {n : Nat} (h : 0 < n) {ds : List D} {M : DM} : call n .Like___init ds M = runB 3 3 (fb_Like___init (call (n - 1))) ds M := by
  cases n with
  | zero => cases h
  | succ n => rfl
theorem c_Like_told {n : Nat} (h : 0 < n) {ds : List D} {M : DM} : call n .Like_told ds M = runB 1 1 (fb_Like_told (call (n - 1))) ds M := by
  cases n with
  | zero => cases h
  | succ n => rfl
theorem c_Paired___init {n : Nat} (h : 0 < n) {ds : List D} {M : DM} : call n .Paired___init ds M = runB 3 3 (fb_Paired___init (call (n - 1))) ds M := by
  cases n with
  | zero => cases h
  | succ n => rfl
theorem c_Both_told {n : Nat} (h : 0 < n) {ds : List D} {M : DM} : call n .Both_told ds M = runB 1 1 (fb_Both_told (call (n - 1))) ds M := by
  cases n with
  | zero => cases h
  | succ n => rfl
theorem c_Either_told {n : Nat} (h : 0 < n) {ds : List D} {M : DM} : call n .Either_told ds M = runB 1 1 (fb_Either_told (call (n - 1))) ds M := by
  cases n with
  | zero => cases h
  | succ n => rfl
theorem c_Not___init {n : Nat} (h : 0 < n) {ds : List D} {M : DM} : call n .Not___init ds M = runB 2 2 (fb_Not___init (call (n - 1))) ds M := by
  cases n with
  | zero => cases h
  | succ n => rfl
theorem c_Not_told {n : Nat} (h : 0 < n) {ds : List D} {M : DM} : call n .Not_told ds M = runB 1 1 (fb_Not_told (call (n - 1))) ds M := by
  cases n with
  | zero => cases h
  | succ n => rfl
theorem c_Among___init {n : Nat} (h : 0 < n) {ds : List D} {M : DM} : call n .Among___init ds M = runB 3 3 (fb_Among___init (call (n - 1))) ds M := by
  cases n with
  | zero => cases h
  | succ n => rfl
theorem c_Among_told {n : Nat} (h : 0 < n) {ds : List D} {M : DM} : call n .Among_told ds M = runB 1 1 (fb_Among_told (call (n - 1))) ds M := by
  cases n with
  | zero => cases h
  | succ n => rfl
theorem c_refuse {n : Nat} (h : 0 < n) {ds : List D} {M : DM} : call n .refuse ds M = runB 2 2 (fb_refuse (call (n - 1))) ds M := by
  cases n with
  | zero => cases h
  | succ n => rfl
theorem c_Question_told {n : Nat} (h : 0 < n) {ds : List D} {M : DM} : call n .Question_told ds M = runB 1 1 (fb_Question_told (call (n - 1))) ds M := by
  cases n with
  | zero => cases h
  | succ n => rfl
theorem c_Table___init {n : Nat} (h : 0 < n) {ds : List D} {M : DM} : call n .Table___init ds M = runB 2 2 (fb_Table___init (call (n - 1))) ds M := by
  cases n with
  | zero => cases h
  | succ n => rfl
theorem c_Table_told {n : Nat} (h : 0 < n) {ds : List D} {M : DM} : call n .Table_told ds M = runB 1 1 (fb_Table_told (call (n - 1))) ds M := by
  cases n with
  | zero => cases h
  | succ n => rfl
theorem c_Where___init {n : Nat} (h : 0 < n) {ds : List D} {M : DM} : call n .Where___init ds M = runB 3 3 (fb_Where___init (call (n - 1))) ds M := by
  cases n with
  | zero => cases h
  | succ n => rfl
theorem c_Where_told {n : Nat} (h : 0 < n) {ds : List D} {M : DM} : call n .Where_told ds M = runB 1 1 (fb_Where_told (call (n - 1))) ds M := by
  cases n with
  | zero => cases h
  | succ n => rfl
theorem c_Columns___init {n : Nat} (h : 0 < n) {ds : List D} {M : DM} : call n .Columns___init ds M = runB 3 3 (fb_Columns___init (call (n - 1))) ds M := by
  cases n with
  | zero => cases h
  | succ n => rfl
theorem c_Columns_told {n : Nat} (h : 0 < n) {ds : List D} {M : DM} : call n .Columns_told ds M = runB 1 1 (fb_Columns_told (call (n - 1))) ds M := by
  cases n with
  | zero => cases h
  | succ n => rfl
theorem c_Joined___init {n : Nat} (h : 0 < n) {ds : List D} {M : DM} : call n .Joined___init ds M = runB 3 3 (fb_Joined___init (call (n - 1))) ds M := by
  cases n with
  | zero => cases h
  | succ n => rfl
theorem c_Joined_told {n : Nat} (h : 0 < n) {ds : List D} {M : DM} : call n .Joined_told ds M = runB 1 1 (fb_Joined_told (call (n - 1))) ds M := by
  cases n with
  | zero => cases h
  | succ n => rfl
theorem c_Sums___init {n : Nat} (h : 0 < n) {ds : List D} {M : DM} : call n .Sums___init ds M = runB 4 4 (fb_Sums___init (call (n - 1))) ds M := by
  cases n with
  | zero => cases h
  | succ n => rfl
theorem c_Sums_told {n : Nat} (h : 0 < n) {ds : List D} {M : DM} : call n .Sums_told ds M = runB 1 1 (fb_Sums_told (call (n - 1))) ds M := by
  cases n with
  | zero => cases h
  | succ n => rfl
theorem c_Ordered___init {n : Nat} (h : 0 < n) {ds : List D} {M : DM} : call n .Ordered___init ds M = runB 3 3 (fb_Ordered___init (call (n - 1))) ds M := by
  cases n with
  | zero => cases h
  | succ n => rfl
theorem c_Ordered_told {n : Nat} (h : 0 < n) {ds : List D} {M : DM} : call n .Ordered_told ds M = runB 1 1 (fb_Ordered_told (call (n - 1))) ds M := by
  cases n with
  | zero => cases h
  | succ n => rfl
theorem c_First___init {n : Nat} (h : 0 < n) {ds : List D} {M : DM} : call n .First___init ds M = runB 3 3 (fb_First___init (call (n - 1))) ds M := by
  cases n with
  | zero => cases h
  | succ n => rfl
theorem c_First_told {n : Nat} (h : 0 < n) {ds : List D} {M : DM} : call n .First_told ds M = runB 1 1 (fb_First_told (call (n - 1))) ds M := by
  cases n with
  | zero => cases h
  | succ n => rfl
theorem c_is_name {n : Nat} (h : 0 < n) {ds : List D} {M : DM} : call n .is_name ds M = runB 1 1 (fb_is_name (call (n - 1))) ds M := by
  cases n with
  | zero => cases h
  | succ n => rfl
theorem c_is_number {n : Nat} (h : 0 < n) {ds : List D} {M : DM} : call n .is_number ds M = runB 1 1 (fb_is_number (call (n - 1))) ds M := by
  cases n with
  | zero => cases h
  | succ n => rfl
theorem c_is_bound {n : Nat} (h : 0 < n) {ds : List D} {M : DM} : call n .is_bound ds M = runB 1 1 (fb_is_bound (call (n - 1))) ds M := by
  cases n with
  | zero => cases h
  | succ n => rfl
theorem c_are_texts {n : Nat} (h : 0 < n) {ds : List D} {M : DM} : call n .are_texts ds M = runB 2 1 (fb_are_texts (call (n - 1))) ds M := by
  cases n with
  | zero => cases h
  | succ n => rfl
theorem c_read_test {n : Nat} (h : 0 < n) {ds : List D} {M : DM} : call n .read_test ds M = runB 2 1 (fb_read_test (call (n - 1))) ds M := by
  cases n with
  | zero => cases h
  | succ n => rfl
theorem c_read_named {n : Nat} (h : 0 < n) {ds : List D} {M : DM} : call n .read_named ds M = runB 2 1 (fb_read_named (call (n - 1))) ds M := by
  cases n with
  | zero => cases h
  | succ n => rfl
theorem c_read_question {n : Nat} (h : 0 < n) {ds : List D} {M : DM} : call n .read_question ds M = runB 2 1 (fb_read_question (call (n - 1))) ds M := by
  cases n with
  | zero => cases h
  | succ n => rfl
theorem c_l_cell_at {n : Nat} (h : 0 < n) {ds : List D} {M : DM} : call n .l_cell_at ds M = runB 2 2 (fb_l_cell_at (call (n - 1))) ds M := by
  cases n with
  | zero => cases h
  | succ n => rfl
theorem c_l_right {n : Nat} (h : 0 < n) {ds : List D} {M : DM} : call n .l_right ds M = runB 4 1 (fb_l_right (call (n - 1))) ds M := by
  cases n with
  | zero => cases h
  | succ n => rfl
theorem c_l_strange {n : Nat} (h : 0 < n) {ds : List D} {M : DM} : call n .l_strange ds M = runB 4 1 (fb_l_strange (call (n - 1))) ds M := by
  cases n with
  | zero => cases h
  | succ n => rfl
theorem c_l_no_test {n : Nat} (h : 0 < n) {ds : List D} {M : DM} : call n .l_no_test ds M = runB 3 1 (fb_l_no_test (call (n - 1))) ds M := by
  cases n with
  | zero => cases h
  | succ n => rfl
theorem c_l_spoilt {n : Nat} (h : 0 < n) {ds : List D} {M : DM} : call n .l_spoilt ds M = runB 3 3 (fb_l_spoilt (call (n - 1))) ds M := by
  cases n with
  | zero => cases h
  | succ n => rfl
theorem c_l_refused {n : Nat} (h : 0 < n) {ds : List D} {M : DM} : call n .l_refused ds M = runB 2 1 (fb_l_refused (call (n - 1))) ds M := by
  cases n with
  | zero => cases h
  | succ n => rfl
theorem c_l_test_refused {n : Nat} (h : 0 < n) {ds : List D} {M : DM} : call n .l_test_refused ds M = runB 2 1 (fb_l_test_refused (call (n - 1))) ds M := by
  cases n with
  | zero => cases h
  | succ n => rfl
theorem c_law {n : Nat} (h : 0 < n) {ds : List D} {M : DM} : call n .law ds M = runB 8 1 (fb_law (call (n - 1))) ds M := by
  cases n with
  | zero => cases h
  | succ n => rfl
theorem dpF : (∀ c : Tab, dpL tab_told c "Test" = some (c .Test_told)) ∧ (∀ c : Tab, dpL tab_told c "Within" = some (c .Within_told)) ∧ (∀ c : Tab, dpL tab_told c "Like" = some (c .Like_told)) ∧ (∀ c : Tab, dpL tab_told c "Paired" = some (c .Test_told)) ∧ (∀ c : Tab, dpL tab_told c "Both" = some (c .Both_told)) ∧ (∀ c : Tab, dpL tab_told c "Either" = some (c .Either_told)) ∧ (∀ c : Tab, dpL tab_told c "Not" = some (c .Not_told)) ∧ (∀ c : Tab, dpL tab_told c "Among" = some (c .Among_told)) ∧ (∀ c : Tab, dpL tab_told c "Question" = some (c .Question_told)) ∧ (∀ c : Tab, dpL tab_told c "Table" = some (c .Table_told)) ∧ (∀ c : Tab, dpL tab_told c "Where" = some (c .Where_told)) ∧ (∀ c : Tab, dpL tab_told c "Columns" = some (c .Columns_told)) ∧ (∀ c : Tab, dpL tab_told c "Joined" = some (c .Joined_told)) ∧ (∀ c : Tab, dpL tab_told c "Sums" = some (c .Sums_told)) ∧ (∀ c : Tab, dpL tab_told c "Ordered" = some (c .Ordered_told)) ∧ (∀ c : Tab, dpL tab_told c "First" = some (c .First_told)) := ⟨fun _ => dp_told_Test, fun _ => dp_told_Within, fun _ => dp_told_Like, fun _ => dp_told_Paired, fun _ => dp_told_Both, fun _ => dp_told_Either, fun _ => dp_told_Not, fun _ => dp_told_Among, fun _ => dp_told_Question, fun _ => dp_told_Table, fun _ => dp_told_Where, fun _ => dp_told_Columns, fun _ => dp_told_Joined, fun _ => dp_told_Sums, fun _ => dp_told_Ordered, fun _ => dp_told_First⟩
theorem xsubF : xsub "LedgerError" "LedgerError" = true ∧ xsub "NoQuestion" "LedgerError" = false ∧ xsub "LedgerError" "NoQuestion" = true ∧ xsub "NoQuestion" "NoQuestion" = true := by
  refine ⟨?_, ?_, ?_, ?_⟩ <;> decide +kernel
theorem mk_Among {n : Nat} (h : 0 < n) {x_column : D} {x_question : D} {s : DSt} : mkK "Among" (call n .Among___init) [x_column, x_question] s = .ret (.new (.ins "Among" ["column", "question"] [x_column, x_question])) s := by
  obtain ⟨sl, M⟩ := s
  simp only [mkK, c_Among___init h, fb_Among___init, fb_Among___init_1, ↓fxT, ↓fxS, ↓fxE, ↓fxM, fxV, fxD, fxN, fxL, ↓fxG, ↓fxC, fxP, fxI, ofS, String.reduceEq, List.length_cons, List.length_nil, Nat.reduceAdd, Nat.reduceEqDiff, Nat.reduceLT, Nat.reduceLeDiff, decide_true, decide_false, ↓reduceIte, Bool.not_true, Bool.not_false, Bool.false_eq_true, reduceCtorEq, sizeLine_eq, List.contains_cons, List.contains_nil, ofSb, String.reduceBEq, Bool.or_false, Bool.or_self, Bool.false_or, Bool.true_or, Bool.or_true, Bool.and_true, Bool.true_and, Bool.and_false, Bool.false_and, Bool.false_xor, Bool.true_xor, decide_eq_true_eq, at0, at1, at2, at3, Int.cast_ofNat_Int, Int.natCast_zero, Int.natCast_one, Int.reduceLT, Int.reduceLE, Int.reduceEq, Int.reduceAdd, Int.reduceSub, Int.reduceNeg, List.nil_append, List.cons_append, List.all_cons, List.all_nil, List.any_cons, List.any_nil, id_eq, divOk_lit, mulOk_r, mulOk_l, powOk_lit, atM1, atM, Nat.max_self, Nat.zero_le, Nat.reduceSub]
theorem mk_Both {n : Nat} (h : 0 < n) {x_one : D} {x_other : D} {s : DSt} : mkK "Both" (call n .Paired___init) [x_one, x_other] s = .ret (.new (.ins "Both" ["one", "other"] [x_one, x_other])) s := by
  obtain ⟨sl, M⟩ := s
  simp only [mkK, c_Paired___init h, fb_Paired___init, fb_Paired___init_1, ↓fxT, ↓fxS, ↓fxE, ↓fxM, fxV, fxD, fxN, fxL, ↓fxG, ↓fxC, fxP, fxI, ofS, String.reduceEq, List.length_cons, List.length_nil, Nat.reduceAdd, Nat.reduceEqDiff, Nat.reduceLT, Nat.reduceLeDiff, decide_true, decide_false, ↓reduceIte, Bool.not_true, Bool.not_false, Bool.false_eq_true, reduceCtorEq, sizeLine_eq, List.contains_cons, List.contains_nil, ofSb, String.reduceBEq, Bool.or_false, Bool.or_self, Bool.false_or, Bool.true_or, Bool.or_true, Bool.and_true, Bool.true_and, Bool.and_false, Bool.false_and, Bool.false_xor, Bool.true_xor, decide_eq_true_eq, at0, at1, at2, at3, Int.cast_ofNat_Int, Int.natCast_zero, Int.natCast_one, Int.reduceLT, Int.reduceLE, Int.reduceEq, Int.reduceAdd, Int.reduceSub, Int.reduceNeg, List.nil_append, List.cons_append, List.all_cons, List.all_nil, List.any_cons, List.any_nil, id_eq, divOk_lit, mulOk_r, mulOk_l, powOk_lit, atM1, atM, Nat.max_self, Nat.zero_le, Nat.reduceSub]
theorem mk_Columns {n : Nat} (h : 0 < n) {x_names : List D} {x_q : D} {s : DSt} : mkK "Columns" (call n .Columns___init) [.tup x_names, x_q] s = .ret (.new (.ins "Columns" ["names", "q"] [.tup x_names, x_q])) s := by
  obtain ⟨sl, M⟩ := s
  simp only [mkK, c_Columns___init h, fb_Columns___init, fb_Columns___init_1, ↓fxT, ↓fxS, ↓fxE, ↓fxM, fxV, fxD, fxN, fxL, ↓fxG, ↓fxC, fxP, fxI, ofS, String.reduceEq, List.length_cons, List.length_nil, Nat.reduceAdd, Nat.reduceEqDiff, Nat.reduceLT, Nat.reduceLeDiff, decide_true, decide_false, ↓reduceIte, Bool.not_true, Bool.not_false, Bool.false_eq_true, reduceCtorEq, sizeLine_eq, List.contains_cons, List.contains_nil, ofSb, String.reduceBEq, Bool.or_false, Bool.or_self, Bool.false_or, Bool.true_or, Bool.or_true, Bool.and_true, Bool.true_and, Bool.and_false, Bool.false_and, Bool.false_xor, Bool.true_xor, decide_eq_true_eq, at0, at1, at2, at3, Int.cast_ofNat_Int, Int.natCast_zero, Int.natCast_one, Int.reduceLT, Int.reduceLE, Int.reduceEq, Int.reduceAdd, Int.reduceSub, Int.reduceNeg, List.nil_append, List.cons_append, List.all_cons, List.all_nil, List.any_cons, List.any_nil, id_eq, divOk_lit, mulOk_r, mulOk_l, powOk_lit, atM1, atM, Nat.max_self, Nat.zero_le, Nat.reduceSub]
theorem mk_Columns_l {n : Nat} (h : 0 < n) {x_names : List D} {x_q : D} {s : DSt} : mkK "Columns" (call n .Columns___init) [.lst x_names, x_q] s = .ret (.new (.ins "Columns" ["names", "q"] [.tup x_names, x_q])) s := by
  obtain ⟨sl, M⟩ := s
  simp only [mkK, c_Columns___init h, fb_Columns___init, fb_Columns___init_1, ↓fxT, ↓fxS, ↓fxE, ↓fxM, fxV, fxD, fxN, fxL, ↓fxG, ↓fxC, fxP, fxI, ofS, String.reduceEq, List.length_cons, List.length_nil, Nat.reduceAdd, Nat.reduceEqDiff, Nat.reduceLT, Nat.reduceLeDiff, decide_true, decide_false, ↓reduceIte, Bool.not_true, Bool.not_false, Bool.false_eq_true, reduceCtorEq, sizeLine_eq, List.contains_cons, List.contains_nil, ofSb, String.reduceBEq, Bool.or_false, Bool.or_self, Bool.false_or, Bool.true_or, Bool.or_true, Bool.and_true, Bool.true_and, Bool.and_false, Bool.false_and, Bool.false_xor, Bool.true_xor, decide_eq_true_eq, at0, at1, at2, at3, Int.cast_ofNat_Int, Int.natCast_zero, Int.natCast_one, Int.reduceLT, Int.reduceLE, Int.reduceEq, Int.reduceAdd, Int.reduceSub, Int.reduceNeg, List.nil_append, List.cons_append, List.all_cons, List.all_nil, List.any_cons, List.any_nil, id_eq, divOk_lit, mulOk_r, mulOk_l, powOk_lit, atM1, atM, Nat.max_self, Nat.zero_le, Nat.reduceSub]
theorem mk_Either {n : Nat} (h : 0 < n) {x_one : D} {x_other : D} {s : DSt} : mkK "Either" (call n .Paired___init) [x_one, x_other] s = .ret (.new (.ins "Either" ["one", "other"] [x_one, x_other])) s := by
  obtain ⟨sl, M⟩ := s
  simp only [mkK, c_Paired___init h, fb_Paired___init, fb_Paired___init_1, ↓fxT, ↓fxS, ↓fxE, ↓fxM, fxV, fxD, fxN, fxL, ↓fxG, ↓fxC, fxP, fxI, ofS, String.reduceEq, List.length_cons, List.length_nil, Nat.reduceAdd, Nat.reduceEqDiff, Nat.reduceLT, Nat.reduceLeDiff, decide_true, decide_false, ↓reduceIte, Bool.not_true, Bool.not_false, Bool.false_eq_true, reduceCtorEq, sizeLine_eq, List.contains_cons, List.contains_nil, ofSb, String.reduceBEq, Bool.or_false, Bool.or_self, Bool.false_or, Bool.true_or, Bool.or_true, Bool.and_true, Bool.true_and, Bool.and_false, Bool.false_and, Bool.false_xor, Bool.true_xor, decide_eq_true_eq, at0, at1, at2, at3, Int.cast_ofNat_Int, Int.natCast_zero, Int.natCast_one, Int.reduceLT, Int.reduceLE, Int.reduceEq, Int.reduceAdd, Int.reduceSub, Int.reduceNeg, List.nil_append, List.cons_append, List.all_cons, List.all_nil, List.any_cons, List.any_nil, id_eq, divOk_lit, mulOk_r, mulOk_l, powOk_lit, atM1, atM, Nat.max_self, Nat.zero_le, Nat.reduceSub]
theorem mk_First {n : Nat} (h : 0 < n) {x_limit : D} {x_q : D} {s : DSt} : mkK "First" (call n .First___init) [x_limit, x_q] s = .ret (.new (.ins "First" ["limit", "q"] [x_limit, x_q])) s := by
  obtain ⟨sl, M⟩ := s
  simp only [mkK, c_First___init h, fb_First___init, fb_First___init_1, ↓fxT, ↓fxS, ↓fxE, ↓fxM, fxV, fxD, fxN, fxL, ↓fxG, ↓fxC, fxP, fxI, ofS, String.reduceEq, List.length_cons, List.length_nil, Nat.reduceAdd, Nat.reduceEqDiff, Nat.reduceLT, Nat.reduceLeDiff, decide_true, decide_false, ↓reduceIte, Bool.not_true, Bool.not_false, Bool.false_eq_true, reduceCtorEq, sizeLine_eq, List.contains_cons, List.contains_nil, ofSb, String.reduceBEq, Bool.or_false, Bool.or_self, Bool.false_or, Bool.true_or, Bool.or_true, Bool.and_true, Bool.true_and, Bool.and_false, Bool.false_and, Bool.false_xor, Bool.true_xor, decide_eq_true_eq, at0, at1, at2, at3, Int.cast_ofNat_Int, Int.natCast_zero, Int.natCast_one, Int.reduceLT, Int.reduceLE, Int.reduceEq, Int.reduceAdd, Int.reduceSub, Int.reduceNeg, List.nil_append, List.cons_append, List.all_cons, List.all_nil, List.any_cons, List.any_nil, id_eq, divOk_lit, mulOk_r, mulOk_l, powOk_lit, atM1, atM, Nat.max_self, Nat.zero_le, Nat.reduceSub]
theorem mk_Joined {n : Nat} (h : 0 < n) {x_one : D} {x_other : D} {s : DSt} : mkK "Joined" (call n .Joined___init) [x_one, x_other] s = .ret (.new (.ins "Joined" ["one", "other"] [x_one, x_other])) s := by
  obtain ⟨sl, M⟩ := s
  simp only [mkK, c_Joined___init h, fb_Joined___init, fb_Joined___init_1, ↓fxT, ↓fxS, ↓fxE, ↓fxM, fxV, fxD, fxN, fxL, ↓fxG, ↓fxC, fxP, fxI, ofS, String.reduceEq, List.length_cons, List.length_nil, Nat.reduceAdd, Nat.reduceEqDiff, Nat.reduceLT, Nat.reduceLeDiff, decide_true, decide_false, ↓reduceIte, Bool.not_true, Bool.not_false, Bool.false_eq_true, reduceCtorEq, sizeLine_eq, List.contains_cons, List.contains_nil, ofSb, String.reduceBEq, Bool.or_false, Bool.or_self, Bool.false_or, Bool.true_or, Bool.or_true, Bool.and_true, Bool.true_and, Bool.and_false, Bool.false_and, Bool.false_xor, Bool.true_xor, decide_eq_true_eq, at0, at1, at2, at3, Int.cast_ofNat_Int, Int.natCast_zero, Int.natCast_one, Int.reduceLT, Int.reduceLE, Int.reduceEq, Int.reduceAdd, Int.reduceSub, Int.reduceNeg, List.nil_append, List.cons_append, List.all_cons, List.all_nil, List.any_cons, List.any_nil, id_eq, divOk_lit, mulOk_r, mulOk_l, powOk_lit, atM1, atM, Nat.max_self, Nat.zero_le, Nat.reduceSub]
theorem mk_Like {n : Nat} (h : 0 < n) {x_column : D} {x_other : D} {s : DSt} : mkK "Like" (call n .Like___init) [x_column, x_other] s = .ret (.new (.ins "Like" ["column", "other"] [x_column, x_other])) s := by
  obtain ⟨sl, M⟩ := s
  simp only [mkK, c_Like___init h, fb_Like___init, fb_Like___init_1, ↓fxT, ↓fxS, ↓fxE, ↓fxM, fxV, fxD, fxN, fxL, ↓fxG, ↓fxC, fxP, fxI, ofS, String.reduceEq, List.length_cons, List.length_nil, Nat.reduceAdd, Nat.reduceEqDiff, Nat.reduceLT, Nat.reduceLeDiff, decide_true, decide_false, ↓reduceIte, Bool.not_true, Bool.not_false, Bool.false_eq_true, reduceCtorEq, sizeLine_eq, List.contains_cons, List.contains_nil, ofSb, String.reduceBEq, Bool.or_false, Bool.or_self, Bool.false_or, Bool.true_or, Bool.or_true, Bool.and_true, Bool.true_and, Bool.and_false, Bool.false_and, Bool.false_xor, Bool.true_xor, decide_eq_true_eq, at0, at1, at2, at3, Int.cast_ofNat_Int, Int.natCast_zero, Int.natCast_one, Int.reduceLT, Int.reduceLE, Int.reduceEq, Int.reduceAdd, Int.reduceSub, Int.reduceNeg, List.nil_append, List.cons_append, List.all_cons, List.all_nil, List.any_cons, List.any_nil, id_eq, divOk_lit, mulOk_r, mulOk_l, powOk_lit, atM1, atM, Nat.max_self, Nat.zero_le, Nat.reduceSub]
theorem mk_Not {n : Nat} (h : 0 < n) {x_test : D} {s : DSt} : mkK "Not" (call n .Not___init) [x_test] s = .ret (.new (.ins "Not" ["test"] [x_test])) s := by
  obtain ⟨sl, M⟩ := s
  simp only [mkK, c_Not___init h, fb_Not___init, ↓fxT, ↓fxS, ↓fxE, ↓fxM, fxV, fxD, fxN, fxL, ↓fxG, ↓fxC, fxP, fxI, ofS, String.reduceEq, List.length_cons, List.length_nil, Nat.reduceAdd, Nat.reduceEqDiff, Nat.reduceLT, Nat.reduceLeDiff, decide_true, decide_false, ↓reduceIte, Bool.not_true, Bool.not_false, Bool.false_eq_true, reduceCtorEq, sizeLine_eq, List.contains_cons, List.contains_nil, ofSb, String.reduceBEq, Bool.or_false, Bool.or_self, Bool.false_or, Bool.true_or, Bool.or_true, Bool.and_true, Bool.true_and, Bool.and_false, Bool.false_and, Bool.false_xor, Bool.true_xor, decide_eq_true_eq, at0, at1, at2, at3, Int.cast_ofNat_Int, Int.natCast_zero, Int.natCast_one, Int.reduceLT, Int.reduceLE, Int.reduceEq, Int.reduceAdd, Int.reduceSub, Int.reduceNeg, List.nil_append, List.cons_append, List.all_cons, List.all_nil, List.any_cons, List.any_nil, id_eq, divOk_lit, mulOk_r, mulOk_l, powOk_lit, atM1, atM, Nat.max_self, Nat.zero_le, Nat.reduceSub]
theorem mk_Ordered {n : Nat} (h : 0 < n) {x_names : List D} {x_q : D} {s : DSt} : mkK "Ordered" (call n .Ordered___init) [.tup x_names, x_q] s = .ret (.new (.ins "Ordered" ["names", "q"] [.tup x_names, x_q])) s := by
  obtain ⟨sl, M⟩ := s
  simp only [mkK, c_Ordered___init h, fb_Ordered___init, fb_Ordered___init_1, ↓fxT, ↓fxS, ↓fxE, ↓fxM, fxV, fxD, fxN, fxL, ↓fxG, ↓fxC, fxP, fxI, ofS, String.reduceEq, List.length_cons, List.length_nil, Nat.reduceAdd, Nat.reduceEqDiff, Nat.reduceLT, Nat.reduceLeDiff, decide_true, decide_false, ↓reduceIte, Bool.not_true, Bool.not_false, Bool.false_eq_true, reduceCtorEq, sizeLine_eq, List.contains_cons, List.contains_nil, ofSb, String.reduceBEq, Bool.or_false, Bool.or_self, Bool.false_or, Bool.true_or, Bool.or_true, Bool.and_true, Bool.true_and, Bool.and_false, Bool.false_and, Bool.false_xor, Bool.true_xor, decide_eq_true_eq, at0, at1, at2, at3, Int.cast_ofNat_Int, Int.natCast_zero, Int.natCast_one, Int.reduceLT, Int.reduceLE, Int.reduceEq, Int.reduceAdd, Int.reduceSub, Int.reduceNeg, List.nil_append, List.cons_append, List.all_cons, List.all_nil, List.any_cons, List.any_nil, id_eq, divOk_lit, mulOk_r, mulOk_l, powOk_lit, atM1, atM, Nat.max_self, Nat.zero_le, Nat.reduceSub]
theorem mk_Ordered_l {n : Nat} (h : 0 < n) {x_names : List D} {x_q : D} {s : DSt} : mkK "Ordered" (call n .Ordered___init) [.lst x_names, x_q] s = .ret (.new (.ins "Ordered" ["names", "q"] [.tup x_names, x_q])) s := by
  obtain ⟨sl, M⟩ := s
  simp only [mkK, c_Ordered___init h, fb_Ordered___init, fb_Ordered___init_1, ↓fxT, ↓fxS, ↓fxE, ↓fxM, fxV, fxD, fxN, fxL, ↓fxG, ↓fxC, fxP, fxI, ofS, String.reduceEq, List.length_cons, List.length_nil, Nat.reduceAdd, Nat.reduceEqDiff, Nat.reduceLT, Nat.reduceLeDiff, decide_true, decide_false, ↓reduceIte, Bool.not_true, Bool.not_false, Bool.false_eq_true, reduceCtorEq, sizeLine_eq, List.contains_cons, List.contains_nil, ofSb, String.reduceBEq, Bool.or_false, Bool.or_self, Bool.false_or, Bool.true_or, Bool.or_true, Bool.and_true, Bool.true_and, Bool.and_false, Bool.false_and, Bool.false_xor, Bool.true_xor, decide_eq_true_eq, at0, at1, at2, at3, Int.cast_ofNat_Int, Int.natCast_zero, Int.natCast_one, Int.reduceLT, Int.reduceLE, Int.reduceEq, Int.reduceAdd, Int.reduceSub, Int.reduceNeg, List.nil_append, List.cons_append, List.all_cons, List.all_nil, List.any_cons, List.any_nil, id_eq, divOk_lit, mulOk_r, mulOk_l, powOk_lit, atM1, atM, Nat.max_self, Nat.zero_le, Nat.reduceSub]
theorem mk_Sums {n : Nat} (h : 0 < n) {x_by : List D} {x_column : D} {x_q : D} {s : DSt} : mkK "Sums" (call n .Sums___init) [.tup x_by, x_column, x_q] s = .ret (.new (.ins "Sums" ["by", "column", "q"] [.tup x_by, x_column, x_q])) s := by
  obtain ⟨sl, M⟩ := s
  simp only [mkK, c_Sums___init h, fb_Sums___init, fb_Sums___init_1, fb_Sums___init_2, ↓fxT, ↓fxS, ↓fxE, ↓fxM, fxV, fxD, fxN, fxL, ↓fxG, ↓fxC, fxP, fxI, ofS, String.reduceEq, List.length_cons, List.length_nil, Nat.reduceAdd, Nat.reduceEqDiff, Nat.reduceLT, Nat.reduceLeDiff, decide_true, decide_false, ↓reduceIte, Bool.not_true, Bool.not_false, Bool.false_eq_true, reduceCtorEq, sizeLine_eq, List.contains_cons, List.contains_nil, ofSb, String.reduceBEq, Bool.or_false, Bool.or_self, Bool.false_or, Bool.true_or, Bool.or_true, Bool.and_true, Bool.true_and, Bool.and_false, Bool.false_and, Bool.false_xor, Bool.true_xor, decide_eq_true_eq, at0, at1, at2, at3, Int.cast_ofNat_Int, Int.natCast_zero, Int.natCast_one, Int.reduceLT, Int.reduceLE, Int.reduceEq, Int.reduceAdd, Int.reduceSub, Int.reduceNeg, List.nil_append, List.cons_append, List.all_cons, List.all_nil, List.any_cons, List.any_nil, id_eq, divOk_lit, mulOk_r, mulOk_l, powOk_lit, atM1, atM, Nat.max_self, Nat.zero_le, Nat.reduceSub]
theorem mk_Sums_l {n : Nat} (h : 0 < n) {x_by : List D} {x_column : D} {x_q : D} {s : DSt} : mkK "Sums" (call n .Sums___init) [.lst x_by, x_column, x_q] s = .ret (.new (.ins "Sums" ["by", "column", "q"] [.tup x_by, x_column, x_q])) s := by
  obtain ⟨sl, M⟩ := s
  simp only [mkK, c_Sums___init h, fb_Sums___init, fb_Sums___init_1, fb_Sums___init_2, ↓fxT, ↓fxS, ↓fxE, ↓fxM, fxV, fxD, fxN, fxL, ↓fxG, ↓fxC, fxP, fxI, ofS, String.reduceEq, List.length_cons, List.length_nil, Nat.reduceAdd, Nat.reduceEqDiff, Nat.reduceLT, Nat.reduceLeDiff, decide_true, decide_false, ↓reduceIte, Bool.not_true, Bool.not_false, Bool.false_eq_true, reduceCtorEq, sizeLine_eq, List.contains_cons, List.contains_nil, ofSb, String.reduceBEq, Bool.or_false, Bool.or_self, Bool.false_or, Bool.true_or, Bool.or_true, Bool.and_true, Bool.true_and, Bool.and_false, Bool.false_and, Bool.false_xor, Bool.true_xor, decide_eq_true_eq, at0, at1, at2, at3, Int.cast_ofNat_Int, Int.natCast_zero, Int.natCast_one, Int.reduceLT, Int.reduceLE, Int.reduceEq, Int.reduceAdd, Int.reduceSub, Int.reduceNeg, List.nil_append, List.cons_append, List.all_cons, List.all_nil, List.any_cons, List.any_nil, id_eq, divOk_lit, mulOk_r, mulOk_l, powOk_lit, atM1, atM, Nat.max_self, Nat.zero_le, Nat.reduceSub]
theorem mk_Table {n : Nat} (h : 0 < n) {x_name : D} {s : DSt} : mkK "Table" (call n .Table___init) [x_name] s = .ret (.new (.ins "Table" ["name"] [x_name])) s := by
  obtain ⟨sl, M⟩ := s
  simp only [mkK, c_Table___init h, fb_Table___init, ↓fxT, ↓fxS, ↓fxE, ↓fxM, fxV, fxD, fxN, fxL, ↓fxG, ↓fxC, fxP, fxI, ofS, String.reduceEq, List.length_cons, List.length_nil, Nat.reduceAdd, Nat.reduceEqDiff, Nat.reduceLT, Nat.reduceLeDiff, decide_true, decide_false, ↓reduceIte, Bool.not_true, Bool.not_false, Bool.false_eq_true, reduceCtorEq, sizeLine_eq, List.contains_cons, List.contains_nil, ofSb, String.reduceBEq, Bool.or_false, Bool.or_self, Bool.false_or, Bool.true_or, Bool.or_true, Bool.and_true, Bool.true_and, Bool.and_false, Bool.false_and, Bool.false_xor, Bool.true_xor, decide_eq_true_eq, at0, at1, at2, at3, Int.cast_ofNat_Int, Int.natCast_zero, Int.natCast_one, Int.reduceLT, Int.reduceLE, Int.reduceEq, Int.reduceAdd, Int.reduceSub, Int.reduceNeg, List.nil_append, List.cons_append, List.all_cons, List.all_nil, List.any_cons, List.any_nil, id_eq, divOk_lit, mulOk_r, mulOk_l, powOk_lit, atM1, atM, Nat.max_self, Nat.zero_le, Nat.reduceSub]
theorem mk_Where {n : Nat} (h : 0 < n) {x_test : D} {x_q : D} {s : DSt} : mkK "Where" (call n .Where___init) [x_test, x_q] s = .ret (.new (.ins "Where" ["test", "q"] [x_test, x_q])) s := by
  obtain ⟨sl, M⟩ := s
  simp only [mkK, c_Where___init h, fb_Where___init, fb_Where___init_1, ↓fxT, ↓fxS, ↓fxE, ↓fxM, fxV, fxD, fxN, fxL, ↓fxG, ↓fxC, fxP, fxI, ofS, String.reduceEq, List.length_cons, List.length_nil, Nat.reduceAdd, Nat.reduceEqDiff, Nat.reduceLT, Nat.reduceLeDiff, decide_true, decide_false, ↓reduceIte, Bool.not_true, Bool.not_false, Bool.false_eq_true, reduceCtorEq, sizeLine_eq, List.contains_cons, List.contains_nil, ofSb, String.reduceBEq, Bool.or_false, Bool.or_self, Bool.false_or, Bool.true_or, Bool.or_true, Bool.and_true, Bool.true_and, Bool.and_false, Bool.false_and, Bool.false_xor, Bool.true_xor, decide_eq_true_eq, at0, at1, at2, at3, Int.cast_ofNat_Int, Int.natCast_zero, Int.natCast_one, Int.reduceLT, Int.reduceLE, Int.reduceEq, Int.reduceAdd, Int.reduceSub, Int.reduceNeg, List.nil_append, List.cons_append, List.all_cons, List.all_nil, List.any_cons, List.any_nil, id_eq, divOk_lit, mulOk_r, mulOk_l, powOk_lit, atM1, atM, Nat.max_self, Nat.zero_le, Nat.reduceSub]
theorem mk_Within {n : Nat} (h : 0 < n) {x_column : D} {x_low : D} {x_high : D} {s : DSt} : mkK "Within" (call n .Within___init) [x_column, x_low, x_high] s = .ret (.new (.ins "Within" ["column", "low", "high"] [x_column, x_low, x_high])) s := by
  obtain ⟨sl, M⟩ := s
  simp only [mkK, c_Within___init h, fb_Within___init, fb_Within___init_1, fb_Within___init_2, ↓fxT, ↓fxS, ↓fxE, ↓fxM, fxV, fxD, fxN, fxL, ↓fxG, ↓fxC, fxP, fxI, ofS, String.reduceEq, List.length_cons, List.length_nil, Nat.reduceAdd, Nat.reduceEqDiff, Nat.reduceLT, Nat.reduceLeDiff, decide_true, decide_false, ↓reduceIte, Bool.not_true, Bool.not_false, Bool.false_eq_true, reduceCtorEq, sizeLine_eq, List.contains_cons, List.contains_nil, ofSb, String.reduceBEq, Bool.or_false, Bool.or_self, Bool.false_or, Bool.true_or, Bool.or_true, Bool.and_true, Bool.true_and, Bool.and_false, Bool.false_and, Bool.false_xor, Bool.true_xor, decide_eq_true_eq, at0, at1, at2, at3, Int.cast_ofNat_Int, Int.natCast_zero, Int.natCast_one, Int.reduceLT, Int.reduceLE, Int.reduceEq, Int.reduceAdd, Int.reduceSub, Int.reduceNeg, List.nil_append, List.cons_append, List.all_cons, List.all_nil, List.any_cons, List.any_nil, id_eq, divOk_lit, mulOk_r, mulOk_l, powOk_lit, atM1, atM, Nat.max_self, Nat.zero_le, Nat.reduceSub]
def top (i : Nat) : Stmt := PySem.Challenge.pw_planledger_k15_what_tells_no_question.main.body.getD i (.Pass ⟨0, 0, 0, 0⟩)
abbrev cs0 : List Str := ["Test", "Within", "Like", "Paired", "Both", "Either", "Not", "Among", "Question", "Table", "Where", "Columns", "Joined", "Sums", "Ordered", "First"]
abbrev xs0 : List Str := ["LedgerError", "NoQuestion"]
abbrev sg (K : PySem.W.Frag) (Z : Str → Addr) : Sig := ⟨K, Z, cs0, xs0⟩
abbrev s_Test_told : Stmt := inClass (top 7) 5
abbrev N_Test_told : List Str := ["self"]
theorem sc_Test_told : FnScope N_Test_told ["self"] (defScope s_Test_told) := ⟨rfl, rfl, rfl, by decide +kernel, rfl, by decide +kernel, by decide +kernel⟩
abbrev s_Within___init : Stmt := inClass (top 8) 0
abbrev N_Within___init : List Str := ["self", "column", "low", "high"]
theorem sc_Within___init : FnScope N_Within___init ["self", "column", "low", "high"] (defScope s_Within___init) := ⟨rfl, rfl, rfl, by decide +kernel, rfl, by decide +kernel, by decide +kernel⟩
abbrev s_Within_told : Stmt := inClass (top 8) 2
abbrev N_Within_told : List Str := ["self"]
theorem sc_Within_told : FnScope N_Within_told ["self"] (defScope s_Within_told) := ⟨rfl, rfl, rfl, by decide +kernel, rfl, by decide +kernel, by decide +kernel⟩
abbrev s_Like___init : Stmt := inClass (top 9) 0
abbrev N_Like___init : List Str := ["self", "column", "other"]
theorem sc_Like___init : FnScope N_Like___init ["self", "column", "other"] (defScope s_Like___init) := ⟨rfl, rfl, rfl, by decide +kernel, rfl, by decide +kernel, by decide +kernel⟩
abbrev s_Like_told : Stmt := inClass (top 9) 2
abbrev N_Like_told : List Str := ["self"]
theorem sc_Like_told : FnScope N_Like_told ["self"] (defScope s_Like_told) := ⟨rfl, rfl, rfl, by decide +kernel, rfl, by decide +kernel, by decide +kernel⟩
abbrev s_Paired___init : Stmt := inClass (top 10) 0
abbrev N_Paired___init : List Str := ["self", "one", "other"]
theorem sc_Paired___init : FnScope N_Paired___init ["self", "one", "other"] (defScope s_Paired___init) := ⟨rfl, rfl, rfl, by decide +kernel, rfl, by decide +kernel, by decide +kernel⟩
abbrev s_Both_told : Stmt := inClass (top 11) 1
abbrev N_Both_told : List Str := ["self"]
theorem sc_Both_told : FnScope N_Both_told ["self"] (defScope s_Both_told) := ⟨rfl, rfl, rfl, by decide +kernel, rfl, by decide +kernel, by decide +kernel⟩
abbrev s_Either_told : Stmt := inClass (top 12) 1
abbrev N_Either_told : List Str := ["self"]
theorem sc_Either_told : FnScope N_Either_told ["self"] (defScope s_Either_told) := ⟨rfl, rfl, rfl, by decide +kernel, rfl, by decide +kernel, by decide +kernel⟩
abbrev s_Not___init : Stmt := inClass (top 13) 0
abbrev N_Not___init : List Str := ["self", "test"]
theorem sc_Not___init : FnScope N_Not___init ["self", "test"] (defScope s_Not___init) := ⟨rfl, rfl, rfl, by decide +kernel, rfl, by decide +kernel, by decide +kernel⟩
abbrev s_Not_told : Stmt := inClass (top 13) 3
abbrev N_Not_told : List Str := ["self"]
theorem sc_Not_told : FnScope N_Not_told ["self"] (defScope s_Not_told) := ⟨rfl, rfl, rfl, by decide +kernel, rfl, by decide +kernel, by decide +kernel⟩
abbrev s_Among___init : Stmt := inClass (top 14) 0
abbrev N_Among___init : List Str := ["self", "column", "question"]
theorem sc_Among___init : FnScope N_Among___init ["self", "column", "question"] (defScope s_Among___init) := ⟨rfl, rfl, rfl, by decide +kernel, rfl, by decide +kernel, by decide +kernel⟩
abbrev s_Among_told : Stmt := inClass (top 14) 5
abbrev N_Among_told : List Str := ["self"]
theorem sc_Among_told : FnScope N_Among_told ["self"] (defScope s_Among_told) := ⟨rfl, rfl, rfl, by decide +kernel, rfl, by decide +kernel, by decide +kernel⟩
abbrev s_refuse : Stmt := top 17
abbrev N_refuse : List Str := ["good", "path"]
theorem sc_refuse : FnScope N_refuse ["good", "path"] (defScope s_refuse) := ⟨rfl, rfl, rfl, by decide +kernel, rfl, by decide +kernel, by decide +kernel⟩
abbrev s_Question_told : Stmt := inClass (top 20) 2
abbrev N_Question_told : List Str := ["self"]
theorem sc_Question_told : FnScope N_Question_told ["self"] (defScope s_Question_told) := ⟨rfl, rfl, rfl, by decide +kernel, rfl, by decide +kernel, by decide +kernel⟩
abbrev s_Table___init : Stmt := inClass (top 21) 0
abbrev N_Table___init : List Str := ["self", "name"]
theorem sc_Table___init : FnScope N_Table___init ["self", "name"] (defScope s_Table___init) := ⟨rfl, rfl, rfl, by decide +kernel, rfl, by decide +kernel, by decide +kernel⟩
abbrev s_Table_told : Stmt := inClass (top 21) 1
abbrev N_Table_told : List Str := ["self"]
theorem sc_Table_told : FnScope N_Table_told ["self"] (defScope s_Table_told) := ⟨rfl, rfl, rfl, by decide +kernel, rfl, by decide +kernel, by decide +kernel⟩
abbrev s_Where___init : Stmt := inClass (top 22) 0
abbrev N_Where___init : List Str := ["self", "test", "q"]
theorem sc_Where___init : FnScope N_Where___init ["self", "test", "q"] (defScope s_Where___init) := ⟨rfl, rfl, rfl, by decide +kernel, rfl, by decide +kernel, by decide +kernel⟩
abbrev s_Where_told : Stmt := inClass (top 22) 3
abbrev N_Where_told : List Str := ["self"]
theorem sc_Where_told : FnScope N_Where_told ["self"] (defScope s_Where_told) := ⟨rfl, rfl, rfl, by decide +kernel, rfl, by decide +kernel, by decide +kernel⟩
abbrev s_Columns___init : Stmt := inClass (top 23) 0
abbrev N_Columns___init : List Str := ["self", "names", "q"]
theorem sc_Columns___init : FnScope N_Columns___init ["self", "names", "q"] (defScope s_Columns___init) := ⟨rfl, rfl, rfl, by decide +kernel, rfl, by decide +kernel, by decide +kernel⟩
abbrev s_Columns_told : Stmt := inClass (top 23) 3
abbrev N_Columns_told : List Str := ["self"]
theorem sc_Columns_told : FnScope N_Columns_told ["self"] (defScope s_Columns_told) := ⟨rfl, rfl, rfl, by decide +kernel, rfl, by decide +kernel, by decide +kernel⟩
abbrev s_Joined___init : Stmt := inClass (top 24) 0
abbrev N_Joined___init : List Str := ["self", "one", "other"]
theorem sc_Joined___init : FnScope N_Joined___init ["self", "one", "other"] (defScope s_Joined___init) := ⟨rfl, rfl, rfl, by decide +kernel, rfl, by decide +kernel, by decide +kernel⟩
abbrev s_Joined_told : Stmt := inClass (top 24) 3
abbrev N_Joined_told : List Str := ["self"]
theorem sc_Joined_told : FnScope N_Joined_told ["self"] (defScope s_Joined_told) := ⟨rfl, rfl, rfl, by decide +kernel, rfl, by decide +kernel, by decide +kernel⟩
abbrev s_Sums___init : Stmt := inClass (top 25) 0
abbrev N_Sums___init : List Str := ["self", "by", "column", "q"]
theorem sc_Sums___init : FnScope N_Sums___init ["self", "by", "column", "q"] (defScope s_Sums___init) := ⟨rfl, rfl, rfl, by decide +kernel, rfl, by decide +kernel, by decide +kernel⟩
abbrev s_Sums_told : Stmt := inClass (top 25) 3
abbrev N_Sums_told : List Str := ["self"]
theorem sc_Sums_told : FnScope N_Sums_told ["self"] (defScope s_Sums_told) := ⟨rfl, rfl, rfl, by decide +kernel, rfl, by decide +kernel, by decide +kernel⟩
abbrev s_Ordered___init : Stmt := inClass (top 26) 0
abbrev N_Ordered___init : List Str := ["self", "names", "q"]
theorem sc_Ordered___init : FnScope N_Ordered___init ["self", "names", "q"] (defScope s_Ordered___init) := ⟨rfl, rfl, rfl, by decide +kernel, rfl, by decide +kernel, by decide +kernel⟩
abbrev s_Ordered_told : Stmt := inClass (top 26) 3
abbrev N_Ordered_told : List Str := ["self"]
theorem sc_Ordered_told : FnScope N_Ordered_told ["self"] (defScope s_Ordered_told) := ⟨rfl, rfl, rfl, by decide +kernel, rfl, by decide +kernel, by decide +kernel⟩
abbrev s_First___init : Stmt := inClass (top 27) 0
abbrev N_First___init : List Str := ["self", "limit", "q"]
theorem sc_First___init : FnScope N_First___init ["self", "limit", "q"] (defScope s_First___init) := ⟨rfl, rfl, rfl, by decide +kernel, rfl, by decide +kernel, by decide +kernel⟩
abbrev s_First_told : Stmt := inClass (top 27) 3
abbrev N_First_told : List Str := ["self"]
theorem sc_First_told : FnScope N_First_told ["self"] (defScope s_First_told) := ⟨rfl, rfl, rfl, by decide +kernel, rfl, by decide +kernel, by decide +kernel⟩
abbrev s_is_name : Stmt := top 28
abbrev N_is_name : List Str := ["thing"]
theorem sc_is_name : FnScope N_is_name ["thing"] (defScope s_is_name) := ⟨rfl, rfl, rfl, by decide +kernel, rfl, by decide +kernel, by decide +kernel⟩
abbrev s_is_number : Stmt := top 29
abbrev N_is_number : List Str := ["thing"]
theorem sc_is_number : FnScope N_is_number ["thing"] (defScope s_is_number) := ⟨rfl, rfl, rfl, by decide +kernel, rfl, by decide +kernel, by decide +kernel⟩
abbrev s_is_bound : Stmt := top 30
abbrev N_is_bound : List Str := ["thing"]
theorem sc_is_bound : FnScope N_is_bound ["thing"] (defScope s_is_bound) := ⟨rfl, rfl, rfl, by decide +kernel, rfl, by decide +kernel, by decide +kernel⟩
abbrev s_are_texts : Stmt := top 31
abbrev N_are_texts : List Str := ["thing", "name"]
theorem sc_are_texts : FnScope N_are_texts ["thing"] (defScope s_are_texts) := ⟨rfl, rfl, rfl, by decide +kernel, rfl, by decide +kernel, by decide +kernel⟩
abbrev s_read_test : Stmt := top 32
abbrev N_read_test : List Str := ["told", "word"]
theorem sc_read_test : FnScope N_read_test ["told"] (defScope s_read_test) := ⟨rfl, rfl, rfl, by decide +kernel, rfl, by decide +kernel, by decide +kernel⟩
abbrev s_read_named : Stmt := top 33
abbrev N_read_named : List Str := ["told", "word"]
theorem sc_read_named : FnScope N_read_named ["told"] (defScope s_read_named) := ⟨rfl, rfl, rfl, by decide +kernel, rfl, by decide +kernel, by decide +kernel⟩
abbrev s_read_question : Stmt := top 34
abbrev N_read_question : List Str := ["told", "word"]
theorem sc_read_question : FnScope N_read_question ["told"] (defScope s_read_question) := ⟨rfl, rfl, rfl, by decide +kernel, rfl, by decide +kernel, by decide +kernel⟩
abbrev s_l_cell_at : Stmt := top 36
abbrev N_l_cell_at : List Str := ["_law_script", "_law_k"]
theorem sc_l_cell_at : FnScope N_l_cell_at ["_law_script", "_law_k"] (defScope s_l_cell_at) := ⟨rfl, rfl, rfl, by decide +kernel, rfl, by decide +kernel, by decide +kernel⟩
abbrev s_l_right : Stmt := top 37
abbrev N_l_right : List Str := ["_law_number", "_law_test", "_law_table", "_law_some"]
theorem sc_l_right : FnScope N_l_right ["_law_number"] (defScope s_l_right) := ⟨rfl, rfl, rfl, by decide +kernel, rfl, by decide +kernel, by decide +kernel⟩
abbrev s_l_strange : Stmt := top 38
abbrev N_l_strange : List Str := ["_law_number", "_law_some", "_law_t", "_law_like"]
theorem sc_l_strange : FnScope N_l_strange ["_law_number"] (defScope s_l_strange) := ⟨rfl, rfl, rfl, by decide +kernel, rfl, by decide +kernel, by decide +kernel⟩
abbrev s_l_no_test : Stmt := top 39
abbrev N_l_no_test : List Str := ["_law_number", "_law_like", "_law_some"]
theorem sc_l_no_test : FnScope N_l_no_test ["_law_number"] (defScope s_l_no_test) := ⟨rfl, rfl, rfl, by decide +kernel, rfl, by decide +kernel, by decide +kernel⟩
abbrev s_l_spoilt : Stmt := top 40
abbrev N_l_spoilt : List Str := ["_law_tree", "_law_number", "_law_bad"]
theorem sc_l_spoilt : FnScope N_l_spoilt ["_law_tree", "_law_number", "_law_bad"] (defScope s_l_spoilt) := ⟨rfl, rfl, rfl, by decide +kernel, rfl, by decide +kernel, by decide +kernel⟩
abbrev s_l_refused : Stmt := top 41
abbrev N_l_refused : List Str := ["_law_tree", "e"]
theorem sc_l_refused : FnScope N_l_refused ["_law_tree"] (defScope s_l_refused) := ⟨rfl, rfl, rfl, by decide +kernel, rfl, by decide +kernel, by decide +kernel⟩
abbrev s_l_test_refused : Stmt := top 42
abbrev N_l_test_refused : List Str := ["_law_test", "e"]
theorem sc_l_test_refused : FnScope N_l_test_refused ["_law_test"] (defScope s_l_test_refused) := ⟨rfl, rfl, rfl, by decide +kernel, rfl, by decide +kernel, by decide +kernel⟩
abbrev s_law : Stmt := top 43
abbrev N_law : List Str := ["_law_script", "_law_number", "_law_bad", "_law_tree", "_law_test", "_law_deep", "_law_right_here", "_law_held"]
theorem sc_law : FnScope N_law ["_law_script"] (defScope s_law) := ⟨rfl, rfl, rfl, by decide +kernel, rfl, by decide +kernel, by decide +kernel⟩
abbrev s_NoQuestion___init : Stmt := inClass (top 3) 0
abbrev N_NoQuestion___init : List Str := ["self", "at"]
theorem sc_NoQuestion___init : FnScope N_NoQuestion___init ["self", "at"] (defScope s_NoQuestion___init) := ⟨rfl, rfl, rfl, by decide +kernel, rfl, by decide +kernel, by decide +kernel⟩
structure Txt (K : PySem.W.Frag) (mg : Str → Option Value) (Z : Str → Addr) : Prop where
  n_all : mg "all" = none
  n_bool : mg "bool" = none
  n_int : mg "int" = none
  n_isinstance : mg "isinstance" = none
  n_len : mg "len" = none
  n_str : mg "str" = none
  n_tuple : mg "tuple" = none
  g_LedgerError : mg "LedgerError" = some (.ref (Z "LedgerError"))
  g_NoQuestion : mg "NoQuestion" = some (.ref (Z "NoQuestion"))
  g_Test : mg "Test" = some (.ref (Z "Test"))
  g_Within : mg "Within" = some (.ref (Z "Within"))
  g_Like : mg "Like" = some (.ref (Z "Like"))
  g_Paired : mg "Paired" = some (.ref (Z "Paired"))
  g_Both : mg "Both" = some (.ref (Z "Both"))
  g_Either : mg "Either" = some (.ref (Z "Either"))
  g_Not : mg "Not" = some (.ref (Z "Not"))
  g_Among : mg "Among" = some (.ref (Z "Among"))
  g_Question : mg "Question" = some (.ref (Z "Question"))
  g_Table : mg "Table" = some (.ref (Z "Table"))
  g_Where : mg "Where" = some (.ref (Z "Where"))
  g_Columns : mg "Columns" = some (.ref (Z "Columns"))
  g_Joined : mg "Joined" = some (.ref (Z "Joined"))
  g_Sums : mg "Sums" = some (.ref (Z "Sums"))
  g_Ordered : mg "Ordered" = some (.ref (Z "Ordered"))
  g_First : mg "First" = some (.ref (Z "First"))
  f_by : FldOk (sg K Z) "by"
  f_column : FldOk (sg K Z) "column"
  f_high : FldOk (sg K Z) "high"
  f_limit : FldOk (sg K Z) "limit"
  f_low : FldOk (sg K Z) "low"
  f_name : FldOk (sg K Z) "name"
  f_names : FldOk (sg K Z) "names"
  f_one : FldOk (sg K Z) "one"
  f_other : FldOk (sg K Z) "other"
  f_q : FldOk (sg K Z) "q"
  f_question : FldOk (sg K Z) "question"
  f_test : FldOk (sg K Z) "test"
  xf_at : XfOk (sg K Z) "at"
  xm_NoQuestion : XmOk (sg K Z) "NoQuestion" (xsub "NoQuestion")
  isf : IsF (sg K Z) subC
  d_law_cell_at : DefA K mg "_law_cell_at" "_law_cell_at" s_l_cell_at ["_law_script", "_law_k"]
  d_law_no_test : DefA K mg "_law_no_test" "_law_no_test" s_l_no_test ["_law_number"]
  d_law_refused : DefA K mg "_law_refused" "_law_refused" s_l_refused ["_law_tree"]
  d_law_right : DefA K mg "_law_right" "_law_right" s_l_right ["_law_number"]
  d_law_spoilt : DefA K mg "_law_spoilt" "_law_spoilt" s_l_spoilt ["_law_tree", "_law_number", "_law_bad"]
  d_law_strange : DefA K mg "_law_strange" "_law_strange" s_l_strange ["_law_number"]
  d_law_test_refused : DefA K mg "_law_test_refused" "_law_test_refused" s_l_test_refused ["_law_test"]
  d_are_texts : DefA K mg "are_texts" "are_texts" s_are_texts ["thing"]
  d_is_bound : DefA K mg "is_bound" "is_bound" s_is_bound ["thing"]
  d_is_name : DefA K mg "is_name" "is_name" s_is_name ["thing"]
  d_is_number : DefA K mg "is_number" "is_number" s_is_number ["thing"]
  d_read_named : DefA K mg "read_named" "read_named" s_read_named ["told"]
  d_read_question : DefA K mg "read_question" "read_question" s_read_question ["told"]
  d_read_test : DefA K mg "read_test" "read_test" s_read_test ["told"]
  d_refuse : DefA K mg "refuse" "refuse" s_refuse ["good", "path"]
  i_Among : IniF K (Z "Among") "Among.__init__" s_Among___init ["self", "column", "question"]
  i_Both : IniF K (Z "Both") "Paired.__init__" s_Paired___init ["self", "one", "other"]
  i_Columns : IniF K (Z "Columns") "Columns.__init__" s_Columns___init ["self", "names", "q"]
  i_Either : IniF K (Z "Either") "Paired.__init__" s_Paired___init ["self", "one", "other"]
  i_First : IniF K (Z "First") "First.__init__" s_First___init ["self", "limit", "q"]
  i_Joined : IniF K (Z "Joined") "Joined.__init__" s_Joined___init ["self", "one", "other"]
  i_Like : IniF K (Z "Like") "Like.__init__" s_Like___init ["self", "column", "other"]
  i_Not : IniF K (Z "Not") "Not.__init__" s_Not___init ["self", "test"]
  i_Ordered : IniF K (Z "Ordered") "Ordered.__init__" s_Ordered___init ["self", "names", "q"]
  i_Sums : IniF K (Z "Sums") "Sums.__init__" s_Sums___init ["self", "by", "column", "q"]
  i_Table : IniF K (Z "Table") "Table.__init__" s_Table___init ["self", "name"]
  i_Where : IniF K (Z "Where") "Where.__init__" s_Where___init ["self", "test", "q"]
  i_Within : IniF K (Z "Within") "Within.__init__" s_Within___init ["self", "column", "low", "high"]
  m_Test_told : MetF K (Z "Test") "told" "Test.told" s_Test_told ["self"]
  m_Within_told : MetF K (Z "Within") "told" "Within.told" s_Within_told ["self"]
  m_Like_told : MetF K (Z "Like") "told" "Like.told" s_Like_told ["self"]
  m_Paired_told : MetF K (Z "Paired") "told" "Test.told" s_Test_told ["self"]
  m_Both_told : MetF K (Z "Both") "told" "Both.told" s_Both_told ["self"]
  m_Either_told : MetF K (Z "Either") "told" "Either.told" s_Either_told ["self"]
  m_Not_told : MetF K (Z "Not") "told" "Not.told" s_Not_told ["self"]
  m_Among_told : MetF K (Z "Among") "told" "Among.told" s_Among_told ["self"]
  m_Question_told : MetF K (Z "Question") "told" "Question.told" s_Question_told ["self"]
  m_Table_told : MetF K (Z "Table") "told" "Table.told" s_Table_told ["self"]
  m_Where_told : MetF K (Z "Where") "told" "Where.told" s_Where_told ["self"]
  m_Columns_told : MetF K (Z "Columns") "told" "Columns.told" s_Columns_told ["self"]
  m_Joined_told : MetF K (Z "Joined") "told" "Joined.told" s_Joined_told ["self"]
  m_Sums_told : MetF K (Z "Sums") "told" "Sums.told" s_Sums_told ["self"]
  m_Ordered_told : MetF K (Z "Ordered") "told" "Ordered.told" s_Ordered_told ["self"]
  m_First_told : MetF K (Z "First") "told" "First.told" s_First_told ["self"]
  cl_Among : Cls K (Z "Among")
  cl_Both : Cls K (Z "Both")
  cl_Columns : Cls K (Z "Columns")
  cl_Either : Cls K (Z "Either")
  cl_First : Cls K (Z "First")
  cl_Joined : Cls K (Z "Joined")
  cl_Like : Cls K (Z "Like")
  cl_Not : Cls K (Z "Not")
  cl_Ordered : Cls K (Z "Ordered")
  cl_Paired : Cls K (Z "Paired")
  cl_Question : Cls K (Z "Question")
  cl_Sums : Cls K (Z "Sums")
  cl_Table : Cls K (Z "Table")
  cl_Test : Cls K (Z "Test")
  cl_Where : Cls K (Z "Where")
  cl_Within : Cls K (Z "Within")
  xi_NoQuestion : XIniF K (Z "NoQuestion") "NoQuestion.__init__" s_NoQuestion___init "at"
  vi : ∃ mc, PySem.W.readsIn K (Z "LedgerError") mc = true ∧ PySem.W.specialIn K (.ref (Z "LedgerError")) "__getattribute__" = some (some (.builtin "type.__getattribute__")) ∧ PySem.W.findCls K (.ref (Z "LedgerError")) mc "__init__" = some (.val (.builtin "ValueError.__init__"))
section
variable {P : Program} {w : World} {K : PySem.W.Frag} {mg : Str → Option Value} {base : Heap} {Z : Str → Addr}
theorem xa_NoQuestion (T : Txt K mg Z) : XAt P w K mg base 1 "NoQuestion" (Z "NoQuestion") "at" := by
  obtain ⟨mc, h1, h2, h3⟩ := T.vi
  exact xat_of (msg := "no question") T.xi_NoQuestion T.g_NoQuestion sc_NoQuestion___init fun fa cdv A outer s H E => pss_cons (ps_expr (pe_loinit rfl T.g_LedgerError h1 h2 h3 (pa_cons (pv 0) (pa_cons pe_str pa_nil)))) (pss_one (ps_ost (pv 0) (pv 1)))
structure Rec (P : Program) (w : World) (K : PySem.W.Frag) (mg : Str → Option Value) (base : Heap) (Z : Str → Addr) (n : Nat) : Prop where
  c_law_cell_at : Cal P w K mg base (2 * n + 1) "_law_cell_at" (lsp (sg K Z) (spF (call n .l_cell_at)))
  c_law_no_test : Cal P w K mg base (2 * n + 1) "_law_no_test" (lsp (sg K Z) (spF (call n .l_no_test)))
  c_law_refused : Cal P w K mg base (2 * n + 1) "_law_refused" (lsp (sg K Z) (spF (call n .l_refused)))
  c_law_right : Cal P w K mg base (2 * n + 1) "_law_right" (lsp (sg K Z) (spF (call n .l_right)))
  c_law_spoilt : Cal P w K mg base (2 * n + 1) "_law_spoilt" (lsp (sg K Z) (spF (call n .l_spoilt)))
  c_law_strange : Cal P w K mg base (2 * n + 1) "_law_strange" (lsp (sg K Z) (spF (call n .l_strange)))
  c_law_test_refused : Cal P w K mg base (2 * n + 1) "_law_test_refused" (lsp (sg K Z) (spF (call n .l_test_refused)))
  c_are_texts : Cal P w K mg base (2 * n + 1) "are_texts" (lsp (sg K Z) (spF (call n .are_texts)))
  c_is_bound : Cal P w K mg base (2 * n + 1) "is_bound" (lsp (sg K Z) (spF (call n .is_bound)))
  c_is_name : Cal P w K mg base (2 * n + 1) "is_name" (lsp (sg K Z) (spF (call n .is_name)))
  c_is_number : Cal P w K mg base (2 * n + 1) "is_number" (lsp (sg K Z) (spF (call n .is_number)))
  c_read_named : Cal P w K mg base (2 * n + 1) "read_named" (lsp (sg K Z) (spF (call n .read_named)))
  c_read_question : Cal P w K mg base (2 * n + 1) "read_question" (lsp (sg K Z) (spF (call n .read_question)))
  c_read_test : Cal P w K mg base (2 * n + 1) "read_test" (lsp (sg K Z) (spF (call n .read_test)))
  c_refuse : Cal P w K mg base (2 * n + 1) "refuse" (lsp (sg K Z) (spF (call n .refuse)))
  k_Among : Mak P w K mg base (2 * n + 1) "Among" (Z "Among") (lsp (sg K Z) (spF (call n .Among___init)))
  k_Both : Mak P w K mg base (2 * n + 1) "Both" (Z "Both") (lsp (sg K Z) (spF (call n .Paired___init)))
  k_Columns : Mak P w K mg base (2 * n + 1) "Columns" (Z "Columns") (lsp (sg K Z) (spF (call n .Columns___init)))
  k_Either : Mak P w K mg base (2 * n + 1) "Either" (Z "Either") (lsp (sg K Z) (spF (call n .Paired___init)))
  k_First : Mak P w K mg base (2 * n + 1) "First" (Z "First") (lsp (sg K Z) (spF (call n .First___init)))
  k_Joined : Mak P w K mg base (2 * n + 1) "Joined" (Z "Joined") (lsp (sg K Z) (spF (call n .Joined___init)))
  k_Like : Mak P w K mg base (2 * n + 1) "Like" (Z "Like") (lsp (sg K Z) (spF (call n .Like___init)))
  k_Not : Mak P w K mg base (2 * n + 1) "Not" (Z "Not") (lsp (sg K Z) (spF (call n .Not___init)))
  k_Ordered : Mak P w K mg base (2 * n + 1) "Ordered" (Z "Ordered") (lsp (sg K Z) (spF (call n .Ordered___init)))
  k_Sums : Mak P w K mg base (2 * n + 1) "Sums" (Z "Sums") (lsp (sg K Z) (spF (call n .Sums___init)))
  k_Table : Mak P w K mg base (2 * n + 1) "Table" (Z "Table") (lsp (sg K Z) (spF (call n .Table___init)))
  k_Where : Mak P w K mg base (2 * n + 1) "Where" (Z "Where") (lsp (sg K Z) (spF (call n .Where___init)))
  k_Within : Mak P w K mg base (2 * n + 1) "Within" (Z "Within") (lsp (sg K Z) (spF (call n .Within___init)))
  m_told : ∀ C ∈ fam_told, C ∈ (sg K Z).cs → Met P w K mg base (2 * n + 1) (Z C) "told" (lsp (sg K Z) (onC C (spM (dp_told (call n)))))
theorem wk_Test_told (T : Txt K mg Z) {n : Nat} (R : Rec P w K mg base Z n) : Wk P w K mg base (sg K Z) N_Test_told "Test.told" s_Test_told (2 * n + 2) (wS (fb_Test_told (call n))) := fun f cdv A outer s H E hr => (dss_one (eS le_ret (ds_ret (eE le_tup (dl_tup (eA le_nil dl_nil))))))
theorem wk_Within___init (T : Txt K mg Z) {n : Nat} (R : Rec P w K mg base Z n) : Wk P w K mg base (sg K Z) N_Within___init "Within.__init__" s_Within___init (2 * n + 2) (wS (fb_Within___init (call n))) := fun f cdv A outer s H E hr => (eSs le_seq (dss_cons (eS le_setF (ds_setF T.f_column rfl (eE le_var (dl_var (pv 0))) (eE le_var (dl_var (pv 1)))))
  (eSs le_seq (dss_cons (eS le_setF (ds_setF T.f_low rfl (eE le_var (dl_var (pv 0))) (eE le_var (dl_var (pv 2)))))
  (dss_one (eS le_setF (ds_setF T.f_high rfl (eE le_var (dl_var (pv 0))) (eE le_var (dl_var (pv 3))))))))))
theorem wk_Within_told (T : Txt K mg Z) {n : Nat} (R : Rec P w K mg base Z n) : Wk P w K mg base (sg K Z) N_Within_told "Within.told" s_Within_told (2 * n + 2) (wS (fb_Within_told (call n))) := fun f cdv A outer s H E hr => (dss_one (eS le_ret (ds_ret (eE le_tup (dl_tup (eA le_cons (dl_cons (eE le_c dl_str) (eA le_cons (dl_cons (eE le_fld (dl_fld T.f_column rfl (eE le_var (dl_var (pv 0))))) (eA le_cons (dl_cons (eE le_fld (dl_fld T.f_low rfl (eE le_var (dl_var (pv 0))))) (eA le_cons (dl_cons (eE le_fld (dl_fld T.f_high rfl (eE le_var (dl_var (pv 0))))) (eA le_nil dl_nil))))))))))))))
theorem wk_Like___init (T : Txt K mg Z) {n : Nat} (R : Rec P w K mg base Z n) : Wk P w K mg base (sg K Z) N_Like___init "Like.__init__" s_Like___init (2 * n + 2) (wS (fb_Like___init (call n))) := fun f cdv A outer s H E hr => (eSs le_seq (dss_cons (eS le_setF (ds_setF T.f_column rfl (eE le_var (dl_var (pv 0))) (eE le_var (dl_var (pv 1)))))
  (dss_one (eS le_setF (ds_setF T.f_other rfl (eE le_var (dl_var (pv 0))) (eE le_var (dl_var (pv 2))))))))
theorem wk_Like_told (T : Txt K mg Z) {n : Nat} (R : Rec P w K mg base Z n) : Wk P w K mg base (sg K Z) N_Like_told "Like.told" s_Like_told (2 * n + 2) (wS (fb_Like_told (call n))) := fun f cdv A outer s H E hr => (dss_one (eS le_ret (ds_ret (eE le_tup (dl_tup (eA le_cons (dl_cons (eE le_c dl_str) (eA le_cons (dl_cons (eE le_fld (dl_fld T.f_column rfl (eE le_var (dl_var (pv 0))))) (eA le_cons (dl_cons (eE le_fld (dl_fld T.f_other rfl (eE le_var (dl_var (pv 0))))) (eA le_nil dl_nil))))))))))))
theorem wk_Paired___init (T : Txt K mg Z) {n : Nat} (R : Rec P w K mg base Z n) : Wk P w K mg base (sg K Z) N_Paired___init "Paired.__init__" s_Paired___init (2 * n + 2) (wS (fb_Paired___init (call n))) := fun f cdv A outer s H E hr => (eSs le_seq (dss_cons (eS le_setF (ds_setF T.f_one rfl (eE le_var (dl_var (pv 0))) (eE le_var (dl_var (pv 1)))))
  (dss_one (eS le_setF (ds_setF T.f_other rfl (eE le_var (dl_var (pv 0))) (eE le_var (dl_var (pv 2))))))))
theorem wk_Both_told (T : Txt K mg Z) {n : Nat} (R : Rec P w K mg base Z n) : Wk P w K mg base (sg K Z) N_Both_told "Both.told" s_Both_told (2 * n + 2) (wS (fb_Both_told (call n))) := fun f cdv A outer s H E hr => (dss_one (eS le_ret (ds_ret (eE le_tup (dl_tup (eA le_cons (dl_cons (eE le_c dl_str) (eA le_cons (dl_cons (eE (le_meth0 (cs := fam_told) dpm_told) (dl_meth0 (fun C h1 h2 => ⟨_, (by omega), R.m_told C h1 h2⟩) hr (eE le_fld (dl_fld T.f_one rfl (eE le_var (dl_var (pv 0))))))) (eA le_cons (dl_cons (eE (le_meth0 (cs := fam_told) dpm_told) (dl_meth0 (fun C h1 h2 => ⟨_, (by omega), R.m_told C h1 h2⟩) hr (eE le_fld (dl_fld T.f_other rfl (eE le_var (dl_var (pv 0))))))) (eA le_nil dl_nil))))))))))))
theorem wk_Either_told (T : Txt K mg Z) {n : Nat} (R : Rec P w K mg base Z n) : Wk P w K mg base (sg K Z) N_Either_told "Either.told" s_Either_told (2 * n + 2) (wS (fb_Either_told (call n))) := fun f cdv A outer s H E hr => (dss_one (eS le_ret (ds_ret (eE le_tup (dl_tup (eA le_cons (dl_cons (eE le_c dl_str) (eA le_cons (dl_cons (eE (le_meth0 (cs := fam_told) dpm_told) (dl_meth0 (fun C h1 h2 => ⟨_, (by omega), R.m_told C h1 h2⟩) hr (eE le_fld (dl_fld T.f_one rfl (eE le_var (dl_var (pv 0))))))) (eA le_cons (dl_cons (eE (le_meth0 (cs := fam_told) dpm_told) (dl_meth0 (fun C h1 h2 => ⟨_, (by omega), R.m_told C h1 h2⟩) hr (eE le_fld (dl_fld T.f_other rfl (eE le_var (dl_var (pv 0))))))) (eA le_nil dl_nil))))))))))))
theorem wk_Not___init (T : Txt K mg Z) {n : Nat} (R : Rec P w K mg base Z n) : Wk P w K mg base (sg K Z) N_Not___init "Not.__init__" s_Not___init (2 * n + 2) (wS (fb_Not___init (call n))) := fun f cdv A outer s H E hr => (dss_one (eS le_setF (ds_setF T.f_test rfl (eE le_var (dl_var (pv 0))) (eE le_var (dl_var (pv 1))))))
theorem wk_Not_told (T : Txt K mg Z) {n : Nat} (R : Rec P w K mg base Z n) : Wk P w K mg base (sg K Z) N_Not_told "Not.told" s_Not_told (2 * n + 2) (wS (fb_Not_told (call n))) := fun f cdv A outer s H E hr => (dss_one (eS le_ret (ds_ret (eE le_tup (dl_tup (eA le_cons (dl_cons (eE le_c dl_str) (eA le_cons (dl_cons (eE (le_meth0 (cs := fam_told) dpm_told) (dl_meth0 (fun C h1 h2 => ⟨_, (by omega), R.m_told C h1 h2⟩) hr (eE le_fld (dl_fld T.f_test rfl (eE le_var (dl_var (pv 0))))))) (eA le_nil dl_nil))))))))))
theorem wk_Among___init (T : Txt K mg Z) {n : Nat} (R : Rec P w K mg base Z n) : Wk P w K mg base (sg K Z) N_Among___init "Among.__init__" s_Among___init (2 * n + 2) (wS (fb_Among___init (call n))) := fun f cdv A outer s H E hr => (eSs le_seq (dss_cons (eS le_setF (ds_setF T.f_column rfl (eE le_var (dl_var (pv 0))) (eE le_var (dl_var (pv 1)))))
  (dss_one (eS le_setF (ds_setF T.f_question rfl (eE le_var (dl_var (pv 0))) (eE le_var (dl_var (pv 2))))))))
theorem wk_Among_told (T : Txt K mg Z) {n : Nat} (R : Rec P w K mg base Z n) : Wk P w K mg base (sg K Z) N_Among_told "Among.told" s_Among_told (2 * n + 2) (wS (fb_Among_told (call n))) := fun f cdv A outer s H E hr => (dss_one (eS le_ret (ds_ret (eE le_tup (dl_tup (eA le_cons (dl_cons (eE le_c dl_str) (eA le_cons (dl_cons (eE le_fld (dl_fld T.f_column rfl (eE le_var (dl_var (pv 0))))) (eA le_cons (dl_cons (eE (le_meth0 (cs := fam_told) dpm_told) (dl_meth0 (fun C h1 h2 => ⟨_, (by omega), R.m_told C h1 h2⟩) hr (eE le_fld (dl_fld T.f_question rfl (eE le_var (dl_var (pv 0))))))) (eA le_nil dl_nil))))))))))))
theorem wk_refuse (T : Txt K mg Z) {n : Nat} (R : Rec P w K mg base Z n) : Wk P w K mg base (sg K Z) N_refuse "refuse" s_refuse (2 * n + 2) (wS (fb_refuse (call n))) := fun f cdv A outer s H E hr => (dss_one (eS le_if (ds_if (eT le_not (dl_not (eT le_B (dl_val (eE le_var (dl_var (pv 0)))))))
  (dss_one (eS le_raiseA (ds_raiseA rfl (show ("NoQuestion" : Str) ∈ xs0 from by decide +kernel) (pmk_at (xa_NoQuestion T) hr (by omega) rfl (eE le_var (dl_var (pv 1)))))))
  (eSs le_pass dss_nil))))
theorem wk_Question_told (T : Txt K mg Z) {n : Nat} (R : Rec P w K mg base Z n) : Wk P w K mg base (sg K Z) N_Question_told "Question.told" s_Question_told (2 * n + 2) (wS (fb_Question_told (call n))) := fun f cdv A outer s H E hr => (dss_one (eS le_ret (ds_ret (eE le_tup (dl_tup (eA le_nil dl_nil))))))
theorem wk_Table___init (T : Txt K mg Z) {n : Nat} (R : Rec P w K mg base Z n) : Wk P w K mg base (sg K Z) N_Table___init "Table.__init__" s_Table___init (2 * n + 2) (wS (fb_Table___init (call n))) := fun f cdv A outer s H E hr => (dss_one (eS le_setF (ds_setF T.f_name rfl (eE le_var (dl_var (pv 0))) (eE le_var (dl_var (pv 1))))))
theorem wk_Table_told (T : Txt K mg Z) {n : Nat} (R : Rec P w K mg base Z n) : Wk P w K mg base (sg K Z) N_Table_told "Table.told" s_Table_told (2 * n + 2) (wS (fb_Table_told (call n))) := fun f cdv A outer s H E hr => (dss_one (eS le_ret (ds_ret (eE le_tup (dl_tup (eA le_cons (dl_cons (eE le_c dl_str) (eA le_cons (dl_cons (eE le_fld (dl_fld T.f_name rfl (eE le_var (dl_var (pv 0))))) (eA le_nil dl_nil))))))))))
theorem wk_Where___init (T : Txt K mg Z) {n : Nat} (R : Rec P w K mg base Z n) : Wk P w K mg base (sg K Z) N_Where___init "Where.__init__" s_Where___init (2 * n + 2) (wS (fb_Where___init (call n))) := fun f cdv A outer s H E hr => (eSs le_seq (dss_cons (eS le_setF (ds_setF T.f_test rfl (eE le_var (dl_var (pv 0))) (eE le_var (dl_var (pv 1)))))
  (dss_one (eS le_setF (ds_setF T.f_q rfl (eE le_var (dl_var (pv 0))) (eE le_var (dl_var (pv 2))))))))
theorem wk_Where_told (T : Txt K mg Z) {n : Nat} (R : Rec P w K mg base Z n) : Wk P w K mg base (sg K Z) N_Where_told "Where.told" s_Where_told (2 * n + 2) (wS (fb_Where_told (call n))) := fun f cdv A outer s H E hr => (dss_one (eS le_ret (ds_ret (eE le_tup (dl_tup (eA le_cons (dl_cons (eE le_c dl_str) (eA le_cons (dl_cons (eE (le_meth0 (cs := fam_told) dpm_told) (dl_meth0 (fun C h1 h2 => ⟨_, (by omega), R.m_told C h1 h2⟩) hr (eE le_fld (dl_fld T.f_test rfl (eE le_var (dl_var (pv 0))))))) (eA le_cons (dl_cons (eE (le_meth0 (cs := fam_told) dpm_told) (dl_meth0 (fun C h1 h2 => ⟨_, (by omega), R.m_told C h1 h2⟩) hr (eE le_fld (dl_fld T.f_q rfl (eE le_var (dl_var (pv 0))))))) (eA le_nil dl_nil))))))))))))
theorem wk_Columns___init (T : Txt K mg Z) {n : Nat} (R : Rec P w K mg base Z n) : Wk P w K mg base (sg K Z) N_Columns___init "Columns.__init__" s_Columns___init (2 * n + 2) (wS (fb_Columns___init (call n))) := fun f cdv A outer s H E hr => (eSs le_seq (dss_cons (eS le_setF (ds_setF T.f_names rfl (eE le_var (dl_var (pv 0))) (eE le_prim (dl_callTy (call_tupleK rfl) okf_tuple rfl T.n_tuple (by decide +kernel) (eA le_cons (dl_cons (eE le_var (dl_var (pv 1))) (eA le_nil dl_nil)))))))
  (dss_one (eS le_setF (ds_setF T.f_q rfl (eE le_var (dl_var (pv 0))) (eE le_var (dl_var (pv 2))))))))
theorem wk_Columns_told (T : Txt K mg Z) {n : Nat} (R : Rec P w K mg base Z n) : Wk P w K mg base (sg K Z) N_Columns_told "Columns.told" s_Columns_told (2 * n + 2) (wS (fb_Columns_told (call n))) := fun f cdv A outer s H E hr => (dss_one (eS le_ret (ds_ret (eE le_tup (dl_tup (eA le_cons (dl_cons (eE le_c dl_str) (eA le_cons (dl_cons (eE le_fld (dl_fld T.f_names rfl (eE le_var (dl_var (pv 0))))) (eA le_cons (dl_cons (eE (le_meth0 (cs := fam_told) dpm_told) (dl_meth0 (fun C h1 h2 => ⟨_, (by omega), R.m_told C h1 h2⟩) hr (eE le_fld (dl_fld T.f_q rfl (eE le_var (dl_var (pv 0))))))) (eA le_nil dl_nil))))))))))))
theorem wk_Joined___init (T : Txt K mg Z) {n : Nat} (R : Rec P w K mg base Z n) : Wk P w K mg base (sg K Z) N_Joined___init "Joined.__init__" s_Joined___init (2 * n + 2) (wS (fb_Joined___init (call n))) := fun f cdv A outer s H E hr => (eSs le_seq (dss_cons (eS le_setF (ds_setF T.f_one rfl (eE le_var (dl_var (pv 0))) (eE le_var (dl_var (pv 1)))))
  (dss_one (eS le_setF (ds_setF T.f_other rfl (eE le_var (dl_var (pv 0))) (eE le_var (dl_var (pv 2))))))))
theorem wk_Joined_told (T : Txt K mg Z) {n : Nat} (R : Rec P w K mg base Z n) : Wk P w K mg base (sg K Z) N_Joined_told "Joined.told" s_Joined_told (2 * n + 2) (wS (fb_Joined_told (call n))) := fun f cdv A outer s H E hr => (dss_one (eS le_ret (ds_ret (eE le_tup (dl_tup (eA le_cons (dl_cons (eE le_c dl_str) (eA le_cons (dl_cons (eE (le_meth0 (cs := fam_told) dpm_told) (dl_meth0 (fun C h1 h2 => ⟨_, (by omega), R.m_told C h1 h2⟩) hr (eE le_fld (dl_fld T.f_one rfl (eE le_var (dl_var (pv 0))))))) (eA le_cons (dl_cons (eE (le_meth0 (cs := fam_told) dpm_told) (dl_meth0 (fun C h1 h2 => ⟨_, (by omega), R.m_told C h1 h2⟩) hr (eE le_fld (dl_fld T.f_other rfl (eE le_var (dl_var (pv 0))))))) (eA le_nil dl_nil))))))))))))
theorem wk_Sums___init (T : Txt K mg Z) {n : Nat} (R : Rec P w K mg base Z n) : Wk P w K mg base (sg K Z) N_Sums___init "Sums.__init__" s_Sums___init (2 * n + 2) (wS (fb_Sums___init (call n))) := fun f cdv A outer s H E hr => (eSs le_seq (dss_cons (eS le_setF (ds_setF T.f_by rfl (eE le_var (dl_var (pv 0))) (eE le_prim (dl_callTy (call_tupleK rfl) okf_tuple rfl T.n_tuple (by decide +kernel) (eA le_cons (dl_cons (eE le_var (dl_var (pv 1))) (eA le_nil dl_nil)))))))
  (eSs le_seq (dss_cons (eS le_setF (ds_setF T.f_column rfl (eE le_var (dl_var (pv 0))) (eE le_var (dl_var (pv 2)))))
  (dss_one (eS le_setF (ds_setF T.f_q rfl (eE le_var (dl_var (pv 0))) (eE le_var (dl_var (pv 3))))))))))
theorem wk_Sums_told (T : Txt K mg Z) {n : Nat} (R : Rec P w K mg base Z n) : Wk P w K mg base (sg K Z) N_Sums_told "Sums.told" s_Sums_told (2 * n + 2) (wS (fb_Sums_told (call n))) := fun f cdv A outer s H E hr => (dss_one (eS le_ret (ds_ret (eE le_tup (dl_tup (eA le_cons (dl_cons (eE le_c dl_str) (eA le_cons (dl_cons (eE le_fld (dl_fld T.f_by rfl (eE le_var (dl_var (pv 0))))) (eA le_cons (dl_cons (eE le_fld (dl_fld T.f_column rfl (eE le_var (dl_var (pv 0))))) (eA le_cons (dl_cons (eE (le_meth0 (cs := fam_told) dpm_told) (dl_meth0 (fun C h1 h2 => ⟨_, (by omega), R.m_told C h1 h2⟩) hr (eE le_fld (dl_fld T.f_q rfl (eE le_var (dl_var (pv 0))))))) (eA le_nil dl_nil))))))))))))))
theorem wk_Ordered___init (T : Txt K mg Z) {n : Nat} (R : Rec P w K mg base Z n) : Wk P w K mg base (sg K Z) N_Ordered___init "Ordered.__init__" s_Ordered___init (2 * n + 2) (wS (fb_Ordered___init (call n))) := fun f cdv A outer s H E hr => (eSs le_seq (dss_cons (eS le_setF (ds_setF T.f_names rfl (eE le_var (dl_var (pv 0))) (eE le_prim (dl_callTy (call_tupleK rfl) okf_tuple rfl T.n_tuple (by decide +kernel) (eA le_cons (dl_cons (eE le_var (dl_var (pv 1))) (eA le_nil dl_nil)))))))
  (dss_one (eS le_setF (ds_setF T.f_q rfl (eE le_var (dl_var (pv 0))) (eE le_var (dl_var (pv 2))))))))
theorem wk_Ordered_told (T : Txt K mg Z) {n : Nat} (R : Rec P w K mg base Z n) : Wk P w K mg base (sg K Z) N_Ordered_told "Ordered.told" s_Ordered_told (2 * n + 2) (wS (fb_Ordered_told (call n))) := fun f cdv A outer s H E hr => (dss_one (eS le_ret (ds_ret (eE le_tup (dl_tup (eA le_cons (dl_cons (eE le_c dl_str) (eA le_cons (dl_cons (eE le_fld (dl_fld T.f_names rfl (eE le_var (dl_var (pv 0))))) (eA le_cons (dl_cons (eE (le_meth0 (cs := fam_told) dpm_told) (dl_meth0 (fun C h1 h2 => ⟨_, (by omega), R.m_told C h1 h2⟩) hr (eE le_fld (dl_fld T.f_q rfl (eE le_var (dl_var (pv 0))))))) (eA le_nil dl_nil))))))))))))
theorem wk_First___init (T : Txt K mg Z) {n : Nat} (R : Rec P w K mg base Z n) : Wk P w K mg base (sg K Z) N_First___init "First.__init__" s_First___init (2 * n + 2) (wS (fb_First___init (call n))) := fun f cdv A outer s H E hr => (eSs le_seq (dss_cons (eS le_setF (ds_setF T.f_limit rfl (eE le_var (dl_var (pv 0))) (eE le_var (dl_var (pv 1)))))
  (dss_one (eS le_setF (ds_setF T.f_q rfl (eE le_var (dl_var (pv 0))) (eE le_var (dl_var (pv 2))))))))
theorem wk_First_told (T : Txt K mg Z) {n : Nat} (R : Rec P w K mg base Z n) : Wk P w K mg base (sg K Z) N_First_told "First.told" s_First_told (2 * n + 2) (wS (fb_First_told (call n))) := fun f cdv A outer s H E hr => (dss_one (eS le_ret (ds_ret (eE le_tup (dl_tup (eA le_cons (dl_cons (eE le_c dl_str) (eA le_cons (dl_cons (eE le_fld (dl_fld T.f_limit rfl (eE le_var (dl_var (pv 0))))) (eA le_cons (dl_cons (eE (le_meth0 (cs := fam_told) dpm_told) (dl_meth0 (fun C h1 h2 => ⟨_, (by omega), R.m_told C h1 h2⟩) hr (eE le_fld (dl_fld T.f_q rfl (eE le_var (dl_var (pv 0))))))) (eA le_nil dl_nil))))))))))))
theorem wk_is_name (T : Txt K mg Z) {n : Nat} (R : Rec P w K mg base Z n) : Wk P w K mg base (sg K Z) N_is_name "is_name" s_is_name (2 * n + 2) (wS (fb_is_name (call n))) := fun f cdv A outer s H E hr => (dss_one (eS le_ret (ds_ret (eE le_prim (dl_callB (call_isK rfl) (okf_isi T.isf) rfl T.n_isinstance (by decide +kernel) (eA le_cons (dl_cons (eE le_var (dl_var (pv 0))) (eA le_cons (dl_cons (eE le_c (dl_c (pe_bltn (v := .ty "str") (by rfl) T.n_str (by decide +kernel) rfl) (fun _ => rfl))) (eA le_nil dl_nil))))))))))
theorem wk_is_number (T : Txt K mg Z) {n : Nat} (R : Rec P w K mg base Z n) : Wk P w K mg base (sg K Z) N_is_number "is_number" s_is_number (2 * n + 2) (wS (fb_is_number (call n))) := fun f cdv A outer s H E hr => (dss_one (eS le_ret (ds_ret (eE le_andV (dl_andV (eE le_prim (dl_callB (call_isK rfl) (okf_isi T.isf) rfl T.n_isinstance (by decide +kernel) (eA le_cons (dl_cons (eE le_var (dl_var (pv 0))) (eA le_cons (dl_cons (eE le_c (dl_c (pe_bltn (v := .ty "int") (by rfl) T.n_int (by decide +kernel) rfl) (fun _ => rfl))) (eA le_nil dl_nil))))))) (dl_one (eE le_notV (dl_notV (eE le_prim (dl_callB (call_isK rfl) (okf_isi T.isf) rfl T.n_isinstance (by decide +kernel) (eA le_cons (dl_cons (eE le_var (dl_var (pv 0))) (eA le_cons (dl_cons (eE le_c (dl_c (pe_bltn (v := .ty "bool") (by rfl) T.n_bool (by decide +kernel) rfl) (fun _ => rfl))) (eA le_nil dl_nil)))))))))))))))
theorem wk_is_bound (T : Txt K mg Z) {n : Nat} (R : Rec P w K mg base Z n) : Wk P w K mg base (sg K Z) N_is_bound "is_bound" s_is_bound (2 * n + 2) (wS (fb_is_bound (call n))) := fun f cdv A outer s H E hr => (dss_one (eS le_ret (ds_ret (eE le_orV (dl_orV (eE le_p2 (dl_cmp op_isN okf_is (eE le_var (dl_var (pv 0))) (eE le_c dl_non) (nomark _))) (dl_one (eE le_call (dl_call R.c_is_number hr (by omega) rfl (eA le_cons (dl_cons (eE le_var (dl_var (pv 0))) (eA le_nil dl_nil)))))))))))
theorem wk_are_texts (T : Txt K mg Z) {n : Nat} (R : Rec P w K mg base Z n) : Wk P w K mg base (sg K Z) N_are_texts "are_texts" s_are_texts (2 * n + 2) (wS (fb_are_texts (call n))) := fun f cdv A outer s H E hr => (dss_one (eS le_ret (ds_ret (eE le_andV (dl_andV (eE le_prim (dl_callB (call_isK rfl) (okf_isi T.isf) rfl T.n_isinstance (by decide +kernel) (eA le_cons (dl_cons (eE le_var (dl_var (pv 0))) (eA le_cons (dl_cons (eE le_c (dl_c (pe_bltn (v := .ty "tuple") (by rfl) T.n_tuple (by decide +kernel) rfl) (fun _ => rfl))) (eA le_nil dl_nil))))))) (dl_one (eE le_prim (dl_callB (call_allK rfl rfl) okf_all rfl T.n_all (by decide +kernel) (eA le_cons (dl_cons (eE (le_lc le_gN) (dl_lc (own := [("name", 1)]) rfl sc_are_texts.nd (eI' le_sq (dl_sq rfl (eE le_var (dl_var (pv 0))))) (blkOk_by (own := [("name", 1)]) (N := N_are_texts) (sc := defScope s_are_texts) (by decide +kernel)) (fun _ _ _ _ _ => pg_name (i := 1) sc_are_texts.nd rfl (Or.inl rfl)) (tg_name (by decide)) (fun _ _ _ _ _ => ets le_yes dts_nil) (fun _ _ _ _ _ => (eE le_call (dl_call R.c_is_name hr (by omega) rfl (eA le_cons (dl_cons (eE le_var (dl_var (pv 1))) (eA le_nil dl_nil)))))))) (eA le_nil dl_nil)))))))))))
theorem wk_read_test (T : Txt K mg Z) {n : Nat} (R : Rec P w K mg base Z n) : Wk P w K mg base (sg K Z) N_read_test "read_test" s_read_test (2 * n + 2) (wS (fb_read_test (call n))) := fun f cdv A outer s H E hr => (eSs le_seq (dss_cons (eS le_exp (ds_exp (eE le_call (dl_call R.c_refuse hr (by omega) rfl (eA le_cons (dl_cons (eE le_andV (dl_andV (eE le_prim (dl_callB (call_isK rfl) (okf_isi T.isf) rfl T.n_isinstance (by decide +kernel) (eA le_cons (dl_cons (eE le_var (dl_var (pv 0))) (eA le_cons (dl_cons (eE le_c (dl_c (pe_bltn (v := .ty "tuple") (by rfl) T.n_tuple (by decide +kernel) rfl) (fun _ => rfl))) (eA le_nil dl_nil))))))) (dl_one (eE le_p2 (dl_cmp op_gt okf_gt (eE le_prim (dl_callB (call_lenK rfl) okf_len rfl T.n_len (by decide +kernel) (eA le_cons (dl_cons (eE le_var (dl_var (pv 0))) (eA le_nil dl_nil))))) (eE le_c dl_int) (nomark _)))))) (eA le_cons (dl_cons (eE le_tup (dl_tup (eA le_nil dl_nil))) (eA le_nil dl_nil)))))))))
  (eSs le_seq (dss_cons (eS le_asgN (ds_set (i := 1) sc_read_test.nd rfl (Or.inl rfl) (eE le_p2 (dl_ix (ix_K rfl) okf_ix (eE le_var (dl_var (pv 0))) (eE le_c dl_int) (fun _ _ => rfl)))))
  (eSs le_seq (dss_cons (eS le_if (ds_if (PW.pt (eW le_and (dl_and (eT le_B2 (dl_cmpT (op_eqA rfl hr.units) okf_eq (eE le_var (dl_var (pv 1))) (eE le_c dl_str) (nomark _))) (eW le_and (dl_and (eT le_B2 (dl_cmpT (op_eqA rfl hr.units) okf_eq (eE le_prim (dl_callB (call_lenK rfl) okf_len rfl T.n_len (by decide +kernel) (eA le_cons (dl_cons (eE le_var (dl_var (pv 0))) (eA le_nil dl_nil))))) (eE le_c dl_int) (nomark _))) (eW le_and (dl_and (eT le_B (dl_val (eE le_call (dl_call R.c_is_name hr (by omega) rfl (eA le_cons (dl_cons (eE le_p2 (dl_ix (ix_K rfl) okf_ix (eE le_var (dl_var (pv 0))) (eE le_c dl_int) (fun _ _ => rfl))) (eA le_nil dl_nil))))))) (eW le_and (dl_and (eT le_B (dl_val (eE le_call (dl_call R.c_is_bound hr (by omega) rfl (eA le_cons (dl_cons (eE le_p2 (dl_ix (ix_K rfl) okf_ix (eE le_var (dl_var (pv 0))) (eE le_c dl_int) (fun _ _ => rfl))) (eA le_nil dl_nil))))))) (dl_and1 (eT le_B (dl_val (eE le_call (dl_call R.c_is_bound hr (by omega) rfl (eA le_cons (dl_cons (eE le_p2 (dl_ix (ix_K rfl) okf_ix (eE le_var (dl_var (pv 0))) (eE le_c dl_int) (fun _ _ => rfl))) (eA le_nil dl_nil)))))))))))))))))
  (dss_one (eS le_ret (ds_ret (eE le_make (dl_make (show ("Within" : Str) ∈ cs0 from by decide +kernel) R.k_Within hr (by omega) rfl (eA le_cons (dl_cons (eE le_p2 (dl_ix (ix_K rfl) okf_ix (eE le_var (dl_var (pv 0))) (eE le_c dl_int) (fun _ _ => rfl))) (eA le_cons (dl_cons (eE le_p2 (dl_ix (ix_K rfl) okf_ix (eE le_var (dl_var (pv 0))) (eE le_c dl_int) (fun _ _ => rfl))) (eA le_cons (dl_cons (eE le_p2 (dl_ix (ix_K rfl) okf_ix (eE le_var (dl_var (pv 0))) (eE le_c dl_int) (fun _ _ => rfl))) (eA le_nil dl_nil))))))))))))
  (eSs le_pass dss_nil)))
  (eSs le_seq (dss_cons (eS le_if (ds_if (PW.pt (eW le_and (dl_and (eT le_B2 (dl_cmpT (op_eqA rfl hr.units) okf_eq (eE le_var (dl_var (pv 1))) (eE le_c dl_str) (nomark _))) (eW le_and (dl_and (eT le_B2 (dl_cmpT (op_eqA rfl hr.units) okf_eq (eE le_prim (dl_callB (call_lenK rfl) okf_len rfl T.n_len (by decide +kernel) (eA le_cons (dl_cons (eE le_var (dl_var (pv 0))) (eA le_nil dl_nil))))) (eE le_c dl_int) (nomark _))) (eW le_and (dl_and (eT le_B (dl_val (eE le_call (dl_call R.c_is_name hr (by omega) rfl (eA le_cons (dl_cons (eE le_p2 (dl_ix (ix_K rfl) okf_ix (eE le_var (dl_var (pv 0))) (eE le_c dl_int) (fun _ _ => rfl))) (eA le_nil dl_nil))))))) (dl_and1 (eT le_B (dl_val (eE le_call (dl_call R.c_is_name hr (by omega) rfl (eA le_cons (dl_cons (eE le_p2 (dl_ix (ix_K rfl) okf_ix (eE le_var (dl_var (pv 0))) (eE le_c dl_int) (fun _ _ => rfl))) (eA le_nil dl_nil)))))))))))))))
  (dss_one (eS le_ret (ds_ret (eE le_make (dl_make (show ("Like" : Str) ∈ cs0 from by decide +kernel) R.k_Like hr (by omega) rfl (eA le_cons (dl_cons (eE le_p2 (dl_ix (ix_K rfl) okf_ix (eE le_var (dl_var (pv 0))) (eE le_c dl_int) (fun _ _ => rfl))) (eA le_cons (dl_cons (eE le_p2 (dl_ix (ix_K rfl) okf_ix (eE le_var (dl_var (pv 0))) (eE le_c dl_int) (fun _ _ => rfl))) (eA le_nil dl_nil))))))))))
  (eSs le_pass dss_nil)))
  (eSs le_seq (dss_cons (eS le_if (ds_if (PW.pt (eW le_and (dl_and (eT le_B2 (dl_cmpT (op_eqA rfl hr.units) okf_eq (eE le_var (dl_var (pv 1))) (eE le_c dl_str) (nomark _))) (dl_and1 (eT le_B2 (dl_cmpT (op_eqA rfl hr.units) okf_eq (eE le_prim (dl_callB (call_lenK rfl) okf_len rfl T.n_len (by decide +kernel) (eA le_cons (dl_cons (eE le_var (dl_var (pv 0))) (eA le_nil dl_nil))))) (eE le_c dl_int) (nomark _)))))))
  (dss_one (eS le_ret (ds_ret (eE le_make (dl_make (show ("Both" : Str) ∈ cs0 from by decide +kernel) R.k_Both hr (by omega) rfl (eA le_cons (dl_cons (eE le_call (dl_call R.c_read_test hr (by omega) rfl (eA le_cons (dl_cons (eE le_p2 (dl_ix (ix_K rfl) okf_ix (eE le_var (dl_var (pv 0))) (eE le_c dl_int) (fun _ _ => rfl))) (eA le_nil dl_nil))))) (eA le_cons (dl_cons (eE le_call (dl_call R.c_read_test hr (by omega) rfl (eA le_cons (dl_cons (eE le_p2 (dl_ix (ix_K rfl) okf_ix (eE le_var (dl_var (pv 0))) (eE le_c dl_int) (fun _ _ => rfl))) (eA le_nil dl_nil))))) (eA le_nil dl_nil))))))))))
  (eSs le_pass dss_nil)))
  (eSs le_seq (dss_cons (eS le_if (ds_if (PW.pt (eW le_and (dl_and (eT le_B2 (dl_cmpT (op_eqA rfl hr.units) okf_eq (eE le_var (dl_var (pv 1))) (eE le_c dl_str) (nomark _))) (dl_and1 (eT le_B2 (dl_cmpT (op_eqA rfl hr.units) okf_eq (eE le_prim (dl_callB (call_lenK rfl) okf_len rfl T.n_len (by decide +kernel) (eA le_cons (dl_cons (eE le_var (dl_var (pv 0))) (eA le_nil dl_nil))))) (eE le_c dl_int) (nomark _)))))))
  (dss_one (eS le_ret (ds_ret (eE le_make (dl_make (show ("Either" : Str) ∈ cs0 from by decide +kernel) R.k_Either hr (by omega) rfl (eA le_cons (dl_cons (eE le_call (dl_call R.c_read_test hr (by omega) rfl (eA le_cons (dl_cons (eE le_p2 (dl_ix (ix_K rfl) okf_ix (eE le_var (dl_var (pv 0))) (eE le_c dl_int) (fun _ _ => rfl))) (eA le_nil dl_nil))))) (eA le_cons (dl_cons (eE le_call (dl_call R.c_read_test hr (by omega) rfl (eA le_cons (dl_cons (eE le_p2 (dl_ix (ix_K rfl) okf_ix (eE le_var (dl_var (pv 0))) (eE le_c dl_int) (fun _ _ => rfl))) (eA le_nil dl_nil))))) (eA le_nil dl_nil))))))))))
  (eSs le_pass dss_nil)))
  (eSs le_seq (dss_cons (eS le_if (ds_if (PW.pt (eW le_and (dl_and (eT le_B2 (dl_cmpT (op_eqA rfl hr.units) okf_eq (eE le_var (dl_var (pv 1))) (eE le_c dl_str) (nomark _))) (dl_and1 (eT le_B2 (dl_cmpT (op_eqA rfl hr.units) okf_eq (eE le_prim (dl_callB (call_lenK rfl) okf_len rfl T.n_len (by decide +kernel) (eA le_cons (dl_cons (eE le_var (dl_var (pv 0))) (eA le_nil dl_nil))))) (eE le_c dl_int) (nomark _)))))))
  (dss_one (eS le_ret (ds_ret (eE le_make (dl_make (show ("Not" : Str) ∈ cs0 from by decide +kernel) R.k_Not hr (by omega) rfl (eA le_cons (dl_cons (eE le_call (dl_call R.c_read_test hr (by omega) rfl (eA le_cons (dl_cons (eE le_p2 (dl_ix (ix_K rfl) okf_ix (eE le_var (dl_var (pv 0))) (eE le_c dl_int) (fun _ _ => rfl))) (eA le_nil dl_nil))))) (eA le_nil dl_nil))))))))
  (eSs le_pass dss_nil)))
  (eSs le_seq (dss_cons (eS le_exp (ds_exp (eE le_call (dl_call R.c_refuse hr (by omega) rfl (eA le_cons (dl_cons (eE le_andV (dl_andV (eE le_p2 (dl_cmp (op_eqA rfl hr.units) okf_eq (eE le_var (dl_var (pv 1))) (eE le_c dl_str) (nomark _))) (eE le_andV (dl_andV (eE le_p2 (dl_cmp (op_eqA rfl hr.units) okf_eq (eE le_prim (dl_callB (call_lenK rfl) okf_len rfl T.n_len (by decide +kernel) (eA le_cons (dl_cons (eE le_var (dl_var (pv 0))) (eA le_nil dl_nil))))) (eE le_c dl_int) (nomark _))) (dl_one (eE le_call (dl_call R.c_is_name hr (by omega) rfl (eA le_cons (dl_cons (eE le_p2 (dl_ix (ix_K rfl) okf_ix (eE le_var (dl_var (pv 0))) (eE le_c dl_int) (fun _ _ => rfl))) (eA le_nil dl_nil)))))))))) (eA le_cons (dl_cons (eE le_tup (dl_tup (eA le_nil dl_nil))) (eA le_nil dl_nil)))))))))
  (dss_one (eS le_ret (ds_ret (eE le_make (dl_make (show ("Among" : Str) ∈ cs0 from by decide +kernel) R.k_Among hr (by omega) rfl (eA le_cons (dl_cons (eE le_p2 (dl_ix (ix_K rfl) okf_ix (eE le_var (dl_var (pv 0))) (eE le_c dl_int) (fun _ _ => rfl))) (eA le_cons (dl_cons (eE le_call (dl_call R.c_read_question hr (by omega) rfl (eA le_cons (dl_cons (eE le_p2 (dl_ix (ix_K rfl) okf_ix (eE le_var (dl_var (pv 0))) (eE le_c dl_int) (fun _ _ => rfl))) (eA le_nil dl_nil))))) (eA le_nil dl_nil))))))))))))))))))))))))))
theorem wk_read_named (T : Txt K mg Z) {n : Nat} (R : Rec P w K mg base Z n) : Wk P w K mg base (sg K Z) N_read_named "read_named" s_read_named (2 * n + 2) (wS (fb_read_named (call n))) := fun f cdv A outer s H E hr => (eSs le_seq (dss_cons (eS le_asgN (ds_set (i := 1) sc_read_named.nd rfl (Or.inl rfl) (eE le_p2 (dl_ix (ix_K rfl) okf_ix (eE le_var (dl_var (pv 0))) (eE le_c dl_int) (fun _ _ => rfl)))))
  (eSs le_seq (dss_cons (eS le_exp (ds_exp (eE le_call (dl_call R.c_refuse hr (by omega) rfl (eA le_cons (dl_cons (eE le_andV (dl_andV (eE le_p2 (dl_cmp op_gt okf_gt (eE le_prim (dl_callB (call_lenK rfl) okf_len rfl T.n_len (by decide +kernel) (eA le_cons (dl_cons (eE le_var (dl_var (pv 0))) (eA le_nil dl_nil))))) (eE le_c dl_int) (nomark _))) (dl_one (eE le_call (dl_call R.c_are_texts hr (by omega) rfl (eA le_cons (dl_cons (eE le_p2 (dl_ix (ix_K rfl) okf_ix (eE le_var (dl_var (pv 0))) (eE le_c dl_int) (fun _ _ => rfl))) (eA le_nil dl_nil)))))))) (eA le_cons (dl_cons (eE le_tup (dl_tup (eA le_nil dl_nil))) (eA le_nil dl_nil)))))))))
  (eSs le_seq (dss_cons (eS le_if (ds_if (PW.pt (eW le_and (dl_and (eT le_B2 (dl_cmpT (op_eqA rfl hr.units) okf_eq (eE le_var (dl_var (pv 1))) (eE le_c dl_str) (nomark _))) (dl_and1 (eT le_B2 (dl_cmpT (op_eqA rfl hr.units) okf_eq (eE le_prim (dl_callB (call_lenK rfl) okf_len rfl T.n_len (by decide +kernel) (eA le_cons (dl_cons (eE le_var (dl_var (pv 0))) (eA le_nil dl_nil))))) (eE le_c dl_int) (nomark _)))))))
  (dss_one (eS le_ret (ds_ret (eE le_make (dl_make (show ("Columns" : Str) ∈ cs0 from by decide +kernel) R.k_Columns hr (by omega) rfl (eA le_cons (dl_cons (eE le_p2 (dl_ix (ix_K rfl) okf_ix (eE le_var (dl_var (pv 0))) (eE le_c dl_int) (fun _ _ => rfl))) (eA le_cons (dl_cons (eE le_call (dl_call R.c_read_question hr (by omega) rfl (eA le_cons (dl_cons (eE le_p2 (dl_ix (ix_K rfl) okf_ix (eE le_var (dl_var (pv 0))) (eE le_c dl_int) (fun _ _ => rfl))) (eA le_nil dl_nil))))) (eA le_nil dl_nil))))))))))
  (eSs le_pass dss_nil)))
  (eSs le_seq (dss_cons (eS le_if (ds_if (PW.pt (eW le_and (dl_and (eT le_B2 (dl_cmpT (op_eqA rfl hr.units) okf_eq (eE le_var (dl_var (pv 1))) (eE le_c dl_str) (nomark _))) (dl_and1 (eT le_B2 (dl_cmpT (op_eqA rfl hr.units) okf_eq (eE le_prim (dl_callB (call_lenK rfl) okf_len rfl T.n_len (by decide +kernel) (eA le_cons (dl_cons (eE le_var (dl_var (pv 0))) (eA le_nil dl_nil))))) (eE le_c dl_int) (nomark _)))))))
  (dss_one (eS le_ret (ds_ret (eE le_make (dl_make (show ("Ordered" : Str) ∈ cs0 from by decide +kernel) R.k_Ordered hr (by omega) rfl (eA le_cons (dl_cons (eE le_p2 (dl_ix (ix_K rfl) okf_ix (eE le_var (dl_var (pv 0))) (eE le_c dl_int) (fun _ _ => rfl))) (eA le_cons (dl_cons (eE le_call (dl_call R.c_read_question hr (by omega) rfl (eA le_cons (dl_cons (eE le_p2 (dl_ix (ix_K rfl) okf_ix (eE le_var (dl_var (pv 0))) (eE le_c dl_int) (fun _ _ => rfl))) (eA le_nil dl_nil))))) (eA le_nil dl_nil))))))))))
  (eSs le_pass dss_nil)))
  (eSs le_seq (dss_cons (eS le_exp (ds_exp (eE le_call (dl_call R.c_refuse hr (by omega) rfl (eA le_cons (dl_cons (eE le_andV (dl_andV (eE le_p2 (dl_cmp (op_eqA rfl hr.units) okf_eq (eE le_var (dl_var (pv 1))) (eE le_c dl_str) (nomark _))) (eE le_andV (dl_andV (eE le_p2 (dl_cmp (op_eqA rfl hr.units) okf_eq (eE le_prim (dl_callB (call_lenK rfl) okf_len rfl T.n_len (by decide +kernel) (eA le_cons (dl_cons (eE le_var (dl_var (pv 0))) (eA le_nil dl_nil))))) (eE le_c dl_int) (nomark _))) (dl_one (eE le_call (dl_call R.c_is_name hr (by omega) rfl (eA le_cons (dl_cons (eE le_p2 (dl_ix (ix_K rfl) okf_ix (eE le_var (dl_var (pv 0))) (eE le_c dl_int) (fun _ _ => rfl))) (eA le_nil dl_nil)))))))))) (eA le_cons (dl_cons (eE le_tup (dl_tup (eA le_nil dl_nil))) (eA le_nil dl_nil)))))))))
  (dss_one (eS le_ret (ds_ret (eE le_make (dl_make (show ("Sums" : Str) ∈ cs0 from by decide +kernel) R.k_Sums hr (by omega) rfl (eA le_cons (dl_cons (eE le_p2 (dl_ix (ix_K rfl) okf_ix (eE le_var (dl_var (pv 0))) (eE le_c dl_int) (fun _ _ => rfl))) (eA le_cons (dl_cons (eE le_p2 (dl_ix (ix_K rfl) okf_ix (eE le_var (dl_var (pv 0))) (eE le_c dl_int) (fun _ _ => rfl))) (eA le_cons (dl_cons (eE le_call (dl_call R.c_read_question hr (by omega) rfl (eA le_cons (dl_cons (eE le_p2 (dl_ix (ix_K rfl) okf_ix (eE le_var (dl_var (pv 0))) (eE le_c dl_int) (fun _ _ => rfl))) (eA le_nil dl_nil))))) (eA le_nil dl_nil))))))))))))))))))))))
theorem wk_read_question (T : Txt K mg Z) {n : Nat} (R : Rec P w K mg base Z n) : Wk P w K mg base (sg K Z) N_read_question "read_question" s_read_question (2 * n + 2) (wS (fb_read_question (call n))) := fun f cdv A outer s H E hr => (eSs le_seq (dss_cons (eS le_exp (ds_exp (eE le_call (dl_call R.c_refuse hr (by omega) rfl (eA le_cons (dl_cons (eE le_andV (dl_andV (eE le_prim (dl_callB (call_isK rfl) (okf_isi T.isf) rfl T.n_isinstance (by decide +kernel) (eA le_cons (dl_cons (eE le_var (dl_var (pv 0))) (eA le_cons (dl_cons (eE le_c (dl_c (pe_bltn (v := .ty "tuple") (by rfl) T.n_tuple (by decide +kernel) rfl) (fun _ => rfl))) (eA le_nil dl_nil))))))) (dl_one (eE le_p2 (dl_cmp op_gt okf_gt (eE le_prim (dl_callB (call_lenK rfl) okf_len rfl T.n_len (by decide +kernel) (eA le_cons (dl_cons (eE le_var (dl_var (pv 0))) (eA le_nil dl_nil))))) (eE le_c dl_int) (nomark _)))))) (eA le_cons (dl_cons (eE le_tup (dl_tup (eA le_nil dl_nil))) (eA le_nil dl_nil)))))))))
  (eSs le_seq (dss_cons (eS le_asgN (ds_set (i := 1) sc_read_question.nd rfl (Or.inl rfl) (eE le_p2 (dl_ix (ix_K rfl) okf_ix (eE le_var (dl_var (pv 0))) (eE le_c dl_int) (fun _ _ => rfl)))))
  (eSs le_seq (dss_cons (eS le_if (ds_if (PW.pt (eW le_and (dl_and (eT le_B2 (dl_cmpT (op_eqA rfl hr.units) okf_eq (eE le_var (dl_var (pv 1))) (eE le_c dl_str) (nomark _))) (eW le_and (dl_and (eT le_B2 (dl_cmpT (op_eqA rfl hr.units) okf_eq (eE le_prim (dl_callB (call_lenK rfl) okf_len rfl T.n_len (by decide +kernel) (eA le_cons (dl_cons (eE le_var (dl_var (pv 0))) (eA le_nil dl_nil))))) (eE le_c dl_int) (nomark _))) (dl_and1 (eT le_B (dl_val (eE le_call (dl_call R.c_is_name hr (by omega) rfl (eA le_cons (dl_cons (eE le_p2 (dl_ix (ix_K rfl) okf_ix (eE le_var (dl_var (pv 0))) (eE le_c dl_int) (fun _ _ => rfl))) (eA le_nil dl_nil)))))))))))))
  (dss_one (eS le_ret (ds_ret (eE le_make (dl_make (show ("Table" : Str) ∈ cs0 from by decide +kernel) R.k_Table hr (by omega) rfl (eA le_cons (dl_cons (eE le_p2 (dl_ix (ix_K rfl) okf_ix (eE le_var (dl_var (pv 0))) (eE le_c dl_int) (fun _ _ => rfl))) (eA le_nil dl_nil))))))))
  (eSs le_pass dss_nil)))
  (eSs le_seq (dss_cons (eS le_if (ds_if (PW.pt (eW le_and (dl_and (eT le_B2 (dl_cmpT (op_eqA rfl hr.units) okf_eq (eE le_var (dl_var (pv 1))) (eE le_c dl_str) (nomark _))) (dl_and1 (eT le_B2 (dl_cmpT (op_eqA rfl hr.units) okf_eq (eE le_prim (dl_callB (call_lenK rfl) okf_len rfl T.n_len (by decide +kernel) (eA le_cons (dl_cons (eE le_var (dl_var (pv 0))) (eA le_nil dl_nil))))) (eE le_c dl_int) (nomark _)))))))
  (dss_one (eS le_ret (ds_ret (eE le_make (dl_make (show ("Where" : Str) ∈ cs0 from by decide +kernel) R.k_Where hr (by omega) rfl (eA le_cons (dl_cons (eE le_call (dl_call R.c_read_test hr (by omega) rfl (eA le_cons (dl_cons (eE le_p2 (dl_ix (ix_K rfl) okf_ix (eE le_var (dl_var (pv 0))) (eE le_c dl_int) (fun _ _ => rfl))) (eA le_nil dl_nil))))) (eA le_cons (dl_cons (eE le_call (dl_call R.c_read_question hr (by omega) rfl (eA le_cons (dl_cons (eE le_p2 (dl_ix (ix_K rfl) okf_ix (eE le_var (dl_var (pv 0))) (eE le_c dl_int) (fun _ _ => rfl))) (eA le_nil dl_nil))))) (eA le_nil dl_nil))))))))))
  (eSs le_pass dss_nil)))
  (eSs le_seq (dss_cons (eS le_if (ds_if (PW.pt (eW le_and (dl_and (eT le_B2 (dl_cmpT (op_eqA rfl hr.units) okf_eq (eE le_var (dl_var (pv 1))) (eE le_c dl_str) (nomark _))) (dl_and1 (eT le_B2 (dl_cmpT (op_eqA rfl hr.units) okf_eq (eE le_prim (dl_callB (call_lenK rfl) okf_len rfl T.n_len (by decide +kernel) (eA le_cons (dl_cons (eE le_var (dl_var (pv 0))) (eA le_nil dl_nil))))) (eE le_c dl_int) (nomark _)))))))
  (dss_one (eS le_ret (ds_ret (eE le_make (dl_make (show ("Joined" : Str) ∈ cs0 from by decide +kernel) R.k_Joined hr (by omega) rfl (eA le_cons (dl_cons (eE le_call (dl_call R.c_read_question hr (by omega) rfl (eA le_cons (dl_cons (eE le_p2 (dl_ix (ix_K rfl) okf_ix (eE le_var (dl_var (pv 0))) (eE le_c dl_int) (fun _ _ => rfl))) (eA le_nil dl_nil))))) (eA le_cons (dl_cons (eE le_call (dl_call R.c_read_question hr (by omega) rfl (eA le_cons (dl_cons (eE le_p2 (dl_ix (ix_K rfl) okf_ix (eE le_var (dl_var (pv 0))) (eE le_c dl_int) (fun _ _ => rfl))) (eA le_nil dl_nil))))) (eA le_nil dl_nil))))))))))
  (eSs le_pass dss_nil)))
  (eSs le_seq (dss_cons (eS le_if (ds_if (PW.pt (eW le_and (dl_and (eT le_B2 (dl_cmpT (op_eqA rfl hr.units) okf_eq (eE le_var (dl_var (pv 1))) (eE le_c dl_str) (nomark _))) (eW le_and (dl_and (eT le_B2 (dl_cmpT (op_eqA rfl hr.units) okf_eq (eE le_prim (dl_callB (call_lenK rfl) okf_len rfl T.n_len (by decide +kernel) (eA le_cons (dl_cons (eE le_var (dl_var (pv 0))) (eA le_nil dl_nil))))) (eE le_c dl_int) (nomark _))) (dl_and1 (eT le_B (dl_val (eE le_call (dl_call R.c_is_number hr (by omega) rfl (eA le_cons (dl_cons (eE le_p2 (dl_ix (ix_K rfl) okf_ix (eE le_var (dl_var (pv 0))) (eE le_c dl_int) (fun _ _ => rfl))) (eA le_nil dl_nil)))))))))))))
  (dss_one (eS le_ret (ds_ret (eE le_make (dl_make (show ("First" : Str) ∈ cs0 from by decide +kernel) R.k_First hr (by omega) rfl (eA le_cons (dl_cons (eE le_p2 (dl_ix (ix_K rfl) okf_ix (eE le_var (dl_var (pv 0))) (eE le_c dl_int) (fun _ _ => rfl))) (eA le_cons (dl_cons (eE le_call (dl_call R.c_read_question hr (by omega) rfl (eA le_cons (dl_cons (eE le_p2 (dl_ix (ix_K rfl) okf_ix (eE le_var (dl_var (pv 0))) (eE le_c dl_int) (fun _ _ => rfl))) (eA le_nil dl_nil))))) (eA le_nil dl_nil))))))))))
  (eSs le_pass dss_nil)))
  (dss_one (eS le_ret (ds_ret (eE le_call (dl_call R.c_read_named hr (by omega) rfl (eA le_cons (dl_cons (eE le_var (dl_var (pv 0))) (eA le_nil dl_nil))))))))))))))))))))
theorem wk_l_cell_at (T : Txt K mg Z) {n : Nat} (R : Rec P w K mg base Z n) : Wk P w K mg base (sg K Z) N_l_cell_at "_law_cell_at" s_l_cell_at (2 * n + 2) (wS (fb_l_cell_at (call n))) := fun f cdv A outer s H E hr => (eSs le_seq (dss_cons (eS le_if (ds_if (eT le_B2 (dl_cmpT op_lt okf_lt (eE le_var (dl_var (pv 1))) (eE le_prim (dl_callB (call_lenK rfl) okf_len rfl T.n_len (by decide +kernel) (eA le_cons (dl_cons (eE le_var (dl_var (pv 0))) (eA le_nil dl_nil))))) (nomark _)))
  (dss_one (eS le_ret (ds_ret (eE le_p2 (dl_ix (ix_K rfl) okf_ix (eE le_var (dl_var (pv 0))) (eE le_var (dl_var (pv 1))) (fun _ _ => rfl))))))
  (eSs le_pass dss_nil)))
  (dss_one (eS le_ret (ds_ret (eE le_c dl_int))))))
theorem wk_l_right (T : Txt K mg Z) {n : Nat} (R : Rec P w K mg base Z n) : Wk P w K mg base (sg K Z) N_l_right "_law_right" s_l_right (2 * n + 2) (wS (fb_l_right (call n))) := fun f cdv A outer s H E hr => (eSs le_seq (dss_cons (eS le_asgN (ds_set (i := 1) sc_l_right.nd rfl (Or.inl rfl) (eE le_tup (dl_tup (eA le_cons (dl_cons (eE le_c dl_str) (eA le_cons (dl_cons (eE le_c dl_str) (eA le_cons (dl_cons (eE le_p2 (dl_ix (ix_K rfl) okf_ix (eE le_lst (dl_lst (eA le_cons (dl_cons (eE le_c dl_non) (eA le_cons (dl_cons (eE le_p2 (dl_op2 op_mod okf_mod (eE le_var (dl_var (pv 0))) (eE le_c dl_int))) (eA le_nil dl_nil))))))) (eE le_p2 (dl_op2 op_mod okf_mod (eE le_var (dl_var (pv 0))) (eE le_c dl_int))) (fun _ _ => rfl))) (eA le_cons (dl_cons (eE le_p2 (dl_ix (ix_K rfl) okf_ix (eE le_lst (dl_lst (eA le_cons (dl_cons (eE le_c dl_non) (eA le_cons (dl_cons (eE le_p2 (dl_op2 op_mod okf_mod (eE le_var (dl_var (pv 0))) (eE le_c dl_int))) (eA le_nil dl_nil))))))) (eE le_p2 (dl_op2 op_mod okf_mod (eE le_p2 (dl_op2 op_fdivW okf_div (eE le_var (dl_var (pv 0))) (eE le_c dl_int))) (eE le_c dl_int))) (fun _ _ => rfl))) (eA le_nil dl_nil)))))))))))))
  (eSs le_seq (dss_cons (eS le_if (ds_if (eT le_B2 (dl_cmpT (op_eqA rfl hr.units) okf_eq (eE le_p2 (dl_op2 op_mod okf_mod (eE le_p2 (dl_op2 op_fdivW okf_div (eE le_var (dl_var (pv 0))) (eE le_c dl_int))) (eE le_c dl_int))) (eE le_c dl_int) (nomark _)))
  (dss_one (eS le_asgN (ds_set (i := 1) sc_l_right.nd rfl (Or.inl rfl) (eE le_tup (dl_tup (eA le_cons (dl_cons (eE le_c dl_str) (eA le_cons (dl_cons (eE le_var (dl_var (pv 1))) (eA le_cons (dl_cons (eE le_tup (dl_tup (eA le_cons (dl_cons (eE le_c dl_str) (eA le_cons (dl_cons (eE le_tup (dl_tup (eA le_cons (dl_cons (eE le_c dl_str) (eA le_cons (dl_cons (eE le_c dl_str) (eA le_cons (dl_cons (eE le_c dl_str) (eA le_nil dl_nil))))))))) (eA le_nil dl_nil))))))) (eA le_nil dl_nil))))))))))))
  (eSs le_pass dss_nil)))
  (eSs le_seq (dss_cons (eS le_if (ds_if (eT le_B2 (dl_cmpT (op_eqA rfl hr.units) okf_eq (eE le_p2 (dl_op2 op_mod okf_mod (eE le_p2 (dl_op2 op_fdivW okf_div (eE le_var (dl_var (pv 0))) (eE le_c dl_int))) (eE le_c dl_int))) (eE le_c dl_int) (nomark _)))
  (dss_one (eS le_asgN (ds_set (i := 1) sc_l_right.nd rfl (Or.inl rfl) (eE le_tup (dl_tup (eA le_cons (dl_cons (eE le_c dl_str) (eA le_cons (dl_cons (eE le_tup (dl_tup (eA le_cons (dl_cons (eE le_c dl_str) (eA le_cons (dl_cons (eE le_c dl_str) (eA le_cons (dl_cons (eE le_tup (dl_tup (eA le_cons (dl_cons (eE le_c dl_str) (eA le_cons (dl_cons (eE le_c dl_str) (eA le_nil dl_nil))))))) (eA le_nil dl_nil))))))))) (eA le_cons (dl_cons (eE le_var (dl_var (pv 1))) (eA le_nil dl_nil))))))))))))
  (eSs le_pass dss_nil)))
  (eSs le_seq (dss_cons (eS le_asgN (ds_set (i := 2) sc_l_right.nd rfl (Or.inl rfl) (eE le_tup (dl_tup (eA le_cons (dl_cons (eE le_c dl_str) (eA le_cons (dl_cons (eE le_c dl_str) (eA le_nil dl_nil)))))))))
  (eSs le_seq (dss_cons (eS le_asgN (ds_set (i := 3) sc_l_right.nd rfl (Or.inl rfl) (eE le_lst (dl_lst (eA le_cons (dl_cons (eE le_tup (dl_tup (eA le_cons (dl_cons (eE le_c dl_str) (eA le_cons (dl_cons (eE le_var (dl_var (pv 1))) (eA le_cons (dl_cons (eE le_var (dl_var (pv 2))) (eA le_nil dl_nil))))))))) (eA le_cons (dl_cons (eE le_tup (dl_tup (eA le_cons (dl_cons (eE le_c dl_str) (eA le_cons (dl_cons (eE le_tup (dl_tup (eA le_cons (dl_cons (eE le_c dl_str) (eA le_cons (dl_cons (eE le_c dl_str) (eA le_nil dl_nil))))))) (eA le_cons (dl_cons (eE le_var (dl_var (pv 2))) (eA le_nil dl_nil))))))))) (eA le_cons (dl_cons (eE le_tup (dl_tup (eA le_cons (dl_cons (eE le_c dl_str) (eA le_cons (dl_cons (eE le_tup (dl_tup (eA le_nil dl_nil))) (eA le_cons (dl_cons (eE le_c dl_str) (eA le_cons (dl_cons (eE le_var (dl_var (pv 2))) (eA le_nil dl_nil))))))))))) (eA le_nil dl_nil)))))))))))
  (eSs le_seq (dss_cons (eS le_asgN (ds_set (i := 3) sc_l_right.nd rfl (Or.inl rfl) (eE le_p2 (dl_op2 (op_addA rfl) okf_add (eE le_var (dl_var (pv 3))) (eE le_lst (dl_lst (eA le_cons (dl_cons (eE le_tup (dl_tup (eA le_cons (dl_cons (eE le_c dl_str) (eA le_cons (dl_cons (eE le_tup (dl_tup (eA le_cons (dl_cons (eE le_c dl_str) (eA le_nil dl_nil))))) (eA le_cons (dl_cons (eE le_var (dl_var (pv 2))) (eA le_nil dl_nil))))))))) (eA le_cons (dl_cons (eE le_tup (dl_tup (eA le_cons (dl_cons (eE le_c dl_str) (eA le_cons (dl_cons (eE le_p2 (dl_op2 op_mod okf_mod (eE le_p2 (dl_op2 op_fdivW okf_div (eE le_var (dl_var (pv 0))) (eE le_c dl_int))) (eE le_c dl_int))) (eA le_cons (dl_cons (eE le_tup (dl_tup (eA le_cons (dl_cons (eE le_c dl_str) (eA le_cons (dl_cons (eE le_tup (dl_tup (eA le_nil dl_nil))) (eA le_cons (dl_cons (eE le_var (dl_var (pv 2))) (eA le_nil dl_nil))))))))) (eA le_nil dl_nil))))))))) (eA le_nil dl_nil)))))))))))
  (dss_one (eS le_ret (ds_ret (eE le_p2 (dl_op2 (op_addA rfl) okf_add (eE le_var (dl_var (pv 3))) (eE le_lst (dl_lst (eA le_cons (dl_cons (eE le_tup (dl_tup (eA le_cons (dl_cons (eE le_c dl_str) (eA le_cons (dl_cons (eE le_var (dl_var (pv 2))) (eA le_cons (dl_cons (eE le_tup (dl_tup (eA le_cons (dl_cons (eE le_c dl_str) (eA le_cons (dl_cons (eE le_var (dl_var (pv 1))) (eA le_cons (dl_cons (eE le_var (dl_var (pv 2))) (eA le_nil dl_nil))))))))) (eA le_nil dl_nil))))))))) (eA le_cons (dl_cons (eE le_var (dl_var (pv 2))) (eA le_nil dl_nil))))))))))))))))))))))))
theorem wk_l_strange (T : Txt K mg Z) {n : Nat} (R : Rec P w K mg base Z n) : Wk P w K mg base (sg K Z) N_l_strange "_law_strange" s_l_strange (2 * n + 2) (wS (fb_l_strange (call n))) := fun f cdv A outer s H E hr => (eSs le_seq (dss_cons (eS le_asgN (ds_set (i := 1) sc_l_strange.nd rfl (Or.inl rfl) (eE le_lst (dl_lst (eA le_cons (dl_cons (eE le_c dl_str) (eA le_cons (dl_cons (eE le_c dl_int) (eA le_cons (dl_cons (eE le_c dl_bl) (eA le_cons (dl_cons (eE le_c dl_non) (eA le_cons (dl_cons (eE le_lst (dl_lst (eA le_cons (dl_cons (eE le_c dl_str) (eA le_cons (dl_cons (eE le_c dl_str) (eA le_nil dl_nil))))))) (eA le_cons (dl_cons (eE le_tup (dl_tup (eA le_nil dl_nil))) (eA le_cons (dl_cons (eE le_tup (dl_tup (eA le_cons (dl_cons (eE le_c dl_str) (eA le_nil dl_nil))))) (eA le_cons (dl_cons (eE le_tup (dl_tup (eA le_cons (dl_cons (eE le_c dl_str) (eA le_cons (dl_cons (eE le_c dl_str) (eA le_nil dl_nil))))))) (eA le_cons (dl_cons (eE le_tup (dl_tup (eA le_cons (dl_cons (eE le_c dl_str) (eA le_cons (dl_cons (eE le_c dl_int) (eA le_nil dl_nil))))))) (eA le_cons (dl_cons (eE le_tup (dl_tup (eA le_cons (dl_cons (eE le_c dl_str) (eA le_cons (dl_cons (eE le_c dl_str) (eA le_cons (dl_cons (eE le_c dl_str) (eA le_nil dl_nil))))))))) (eA le_nil dl_nil)))))))))))))))))))))))))
  (eSs le_seq (dss_cons (eS le_asgN (ds_set (i := 2) sc_l_strange.nd rfl (Or.inl rfl) (eE le_tup (dl_tup (eA le_cons (dl_cons (eE le_c dl_str) (eA le_cons (dl_cons (eE le_c dl_str) (eA le_nil dl_nil)))))))))
  (eSs le_seq (dss_cons (eS le_asgN (ds_set (i := 1) sc_l_strange.nd rfl (Or.inl rfl) (eE le_p2 (dl_op2 (op_addA rfl) okf_add (eE le_var (dl_var (pv 1))) (eE le_lst (dl_lst (eA le_cons (dl_cons (eE le_tup (dl_tup (eA le_cons (dl_cons (eE le_c dl_str) (eA le_cons (dl_cons (eE le_var (dl_var (pv 2))) (eA le_cons (dl_cons (eE le_var (dl_var (pv 2))) (eA le_nil dl_nil))))))))) (eA le_cons (dl_cons (eE le_tup (dl_tup (eA le_cons (dl_cons (eE le_c dl_str) (eA le_cons (dl_cons (eE le_tup (dl_tup (eA le_cons (dl_cons (eE le_c dl_str) (eA le_cons (dl_cons (eE le_c dl_str) (eA le_cons (dl_cons (eE le_c dl_int) (eA le_cons (dl_cons (eE le_c dl_int) (eA le_nil dl_nil))))))))))) (eA le_nil dl_nil))))))) (eA le_cons (dl_cons (eE le_tup (dl_tup (eA le_cons (dl_cons (eE le_c dl_str) (eA le_cons (dl_cons (eE le_tup (dl_tup (eA le_cons (dl_cons (eE le_c dl_str) (eA le_cons (dl_cons (eE le_c dl_str) (eA le_cons (dl_cons (eE le_c dl_str) (eA le_nil dl_nil))))))))) (eA le_nil dl_nil))))))) (eA le_nil dl_nil)))))))))))))
  (eSs le_seq (dss_cons (eS le_asgN (ds_set (i := 1) sc_l_strange.nd rfl (Or.inl rfl) (eE le_p2 (dl_op2 (op_addA rfl) okf_add (eE le_var (dl_var (pv 1))) (eE le_lst (dl_lst (eA le_cons (dl_cons (eE le_tup (dl_tup (eA le_cons (dl_cons (eE le_c dl_str) (eA le_cons (dl_cons (eE le_lst (dl_lst (eA le_cons (dl_cons (eE le_c dl_str) (eA le_nil dl_nil))))) (eA le_cons (dl_cons (eE le_var (dl_var (pv 2))) (eA le_nil dl_nil))))))))) (eA le_cons (dl_cons (eE le_tup (dl_tup (eA le_cons (dl_cons (eE le_c dl_str) (eA le_cons (dl_cons (eE le_tup (dl_tup (eA le_cons (dl_cons (eE le_c dl_str) (eA le_cons (dl_cons (eE le_c dl_int) (eA le_nil dl_nil))))))) (eA le_cons (dl_cons (eE le_var (dl_var (pv 2))) (eA le_nil dl_nil))))))))) (eA le_cons (dl_cons (eE le_tup (dl_tup (eA le_cons (dl_cons (eE le_c dl_str) (eA le_cons (dl_cons (eE le_c dl_str) (eA le_cons (dl_cons (eE le_var (dl_var (pv 2))) (eA le_nil dl_nil))))))))) (eA le_nil dl_nil)))))))))))))
  (eSs le_seq (dss_cons (eS le_asgN (ds_set (i := 1) sc_l_strange.nd rfl (Or.inl rfl) (eE le_p2 (dl_op2 (op_addA rfl) okf_add (eE le_var (dl_var (pv 1))) (eE le_lst (dl_lst (eA le_cons (dl_cons (eE le_tup (dl_tup (eA le_cons (dl_cons (eE le_c dl_str) (eA le_cons (dl_cons (eE le_tup (dl_tup (eA le_cons (dl_cons (eE le_c dl_str) (eA le_nil dl_nil))))) (eA le_cons (dl_cons (eE le_var (dl_var (pv 2))) (eA le_nil dl_nil))))))))) (eA le_cons (dl_cons (eE le_tup (dl_tup (eA le_cons (dl_cons (eE le_c dl_str) (eA le_cons (dl_cons (eE le_tup (dl_tup (eA le_nil dl_nil))) (eA le_cons (dl_cons (eE le_c dl_non) (eA le_cons (dl_cons (eE le_var (dl_var (pv 2))) (eA le_nil dl_nil))))))))))) (eA le_cons (dl_cons (eE le_tup (dl_tup (eA le_cons (dl_cons (eE le_c dl_str) (eA le_cons (dl_cons (eE le_tup (dl_tup (eA le_nil dl_nil))) (eA le_cons (dl_cons (eE le_c dl_str) (eA le_cons (dl_cons (eE le_tup (dl_tup (eA le_nil dl_nil))) (eA le_nil dl_nil))))))))))) (eA le_nil dl_nil)))))))))))))
  (eSs le_seq (dss_cons (eS le_asgN (ds_set (i := 1) sc_l_strange.nd rfl (Or.inl rfl) (eE le_p2 (dl_op2 (op_addA rfl) okf_add (eE le_var (dl_var (pv 1))) (eE le_lst (dl_lst (eA le_cons (dl_cons (eE le_tup (dl_tup (eA le_cons (dl_cons (eE le_c dl_str) (eA le_cons (dl_cons (eE le_c dl_bl) (eA le_cons (dl_cons (eE le_var (dl_var (pv 2))) (eA le_nil dl_nil))))))))) (eA le_cons (dl_cons (eE le_tup (dl_tup (eA le_cons (dl_cons (eE le_c dl_str) (eA le_cons (dl_cons (eE le_c dl_str) (eA le_cons (dl_cons (eE le_var (dl_var (pv 2))) (eA le_nil dl_nil))))))))) (eA le_cons (dl_cons (eE le_tup (dl_tup (eA le_cons (dl_cons (eE le_c dl_str) (eA le_cons (dl_cons (eE le_c dl_non) (eA le_cons (dl_cons (eE le_var (dl_var (pv 2))) (eA le_nil dl_nil))))))))) (eA le_nil dl_nil)))))))))))))
  (eSs le_seq (dss_cons (eS le_asgN (ds_set (i := 1) sc_l_strange.nd rfl (Or.inl rfl) (eE le_p2 (dl_op2 (op_addA rfl) okf_add (eE le_var (dl_var (pv 1))) (eE le_lst (dl_lst (eA le_cons (dl_cons (eE le_tup (dl_tup (eA le_cons (dl_cons (eE le_c dl_str) (eA le_cons (dl_cons (eE le_var (dl_var (pv 2))) (eA le_nil dl_nil))))))) (eA le_cons (dl_cons (eE le_tup (dl_tup (eA le_cons (dl_cons (eE le_c dl_str) (eA le_cons (dl_cons (eE le_var (dl_var (pv 2))) (eA le_cons (dl_cons (eE le_c dl_non) (eA le_nil dl_nil))))))))) (eA le_cons (dl_cons (eE le_tup (dl_tup (eA le_cons (dl_cons (eE le_c dl_str) (eA le_cons (dl_cons (eE le_var (dl_var (pv 2))) (eA le_cons (dl_cons (eE le_c dl_str) (eA le_cons (dl_cons (eE le_c dl_str) (eA le_nil dl_nil))))))))))) (eA le_nil dl_nil)))))))))))))
  (eSs le_seq (dss_cons (eS le_asgN (ds_set (i := 3) sc_l_strange.nd rfl (Or.inl rfl) (eE le_tup (dl_tup (eA le_cons (dl_cons (eE le_c dl_str) (eA le_cons (dl_cons (eE le_c dl_str) (eA le_cons (dl_cons (eE le_c dl_str) (eA le_nil dl_nil)))))))))))
  (eSs le_seq (dss_cons (eS le_asgN (ds_set (i := 1) sc_l_strange.nd rfl (Or.inl rfl) (eE le_p2 (dl_op2 (op_addA rfl) okf_add (eE le_var (dl_var (pv 1))) (eE le_lst (dl_lst (eA le_cons (dl_cons (eE le_tup (dl_tup (eA le_cons (dl_cons (eE le_c dl_str) (eA le_cons (dl_cons (eE le_var (dl_var (pv 2))) (eA le_cons (dl_cons (eE le_var (dl_var (pv 2))) (eA le_cons (dl_cons (eE le_var (dl_var (pv 2))) (eA le_nil dl_nil))))))))))) (eA le_cons (dl_cons (eE le_tup (dl_tup (eA le_cons (dl_cons (eE le_c dl_str) (eA le_cons (dl_cons (eE le_tup (dl_tup (eA le_nil dl_nil))) (eA le_cons (dl_cons (eE le_var (dl_var (pv 2))) (eA le_cons (dl_cons (eE le_var (dl_var (pv 2))) (eA le_nil dl_nil))))))))))) (eA le_cons (dl_cons (eE le_tup (dl_tup (eA le_cons (dl_cons (eE le_c dl_str) (eA le_cons (dl_cons (eE le_tup (dl_tup (eA le_nil dl_nil))) (eA le_cons (dl_cons (eE le_c dl_str) (eA le_cons (dl_cons (eE le_var (dl_var (pv 2))) (eA le_cons (dl_cons (eE le_var (dl_var (pv 2))) (eA le_nil dl_nil))))))))))))) (eA le_cons (dl_cons (eE le_tup (dl_tup (eA le_cons (dl_cons (eE le_c dl_str) (eA le_cons (dl_cons (eE le_c dl_int) (eA le_cons (dl_cons (eE le_var (dl_var (pv 2))) (eA le_cons (dl_cons (eE le_var (dl_var (pv 2))) (eA le_nil dl_nil))))))))))) (eA le_nil dl_nil)))))))))))))))
  (eSs le_seq (dss_cons (eS le_asgN (ds_set (i := 1) sc_l_strange.nd rfl (Or.inl rfl) (eE le_p2 (dl_op2 (op_addA rfl) okf_add (eE le_var (dl_var (pv 1))) (eE le_lst (dl_lst (eA le_cons (dl_cons (eE le_tup (dl_tup (eA le_cons (dl_cons (eE le_c dl_str) (eA le_cons (dl_cons (eE le_tup (dl_tup (eA le_nil dl_nil))) (eA le_cons (dl_cons (eE le_var (dl_var (pv 2))) (eA le_cons (dl_cons (eE le_var (dl_var (pv 2))) (eA le_nil dl_nil))))))))))) (eA le_cons (dl_cons (eE le_tup (dl_tup (eA le_cons (dl_cons (eE le_c dl_str) (eA le_cons (dl_cons (eE le_var (dl_var (pv 3))) (eA le_cons (dl_cons (eE le_var (dl_var (pv 2))) (eA le_cons (dl_cons (eE le_var (dl_var (pv 2))) (eA le_nil dl_nil))))))))))) (eA le_nil dl_nil)))))))))))
  (dss_one (eS le_ret (ds_ret (eE le_p2 (dl_ix (ix_K rfl) okf_ix (eE le_var (dl_var (pv 1))) (eE le_p2 (dl_op2 op_mod okf_mod (eE le_var (dl_var (pv 0))) (eE le_prim (dl_callB (call_lenK rfl) okf_len rfl T.n_len (by decide +kernel) (eA le_cons (dl_cons (eE le_var (dl_var (pv 1))) (eA le_nil dl_nil))))))) (fun _ _ => rfl))))))))))))))))))))))))))
theorem wk_l_no_test (T : Txt K mg Z) {n : Nat} (R : Rec P w K mg base Z n) : Wk P w K mg base (sg K Z) N_l_no_test "_law_no_test" s_l_no_test (2 * n + 2) (wS (fb_l_no_test (call n))) := fun f cdv A outer s H E hr => (eSs le_seq (dss_cons (eS le_asgN (ds_set (i := 1) sc_l_no_test.nd rfl (Or.inl rfl) (eE le_tup (dl_tup (eA le_cons (dl_cons (eE le_c dl_str) (eA le_cons (dl_cons (eE le_c dl_str) (eA le_cons (dl_cons (eE le_c dl_str) (eA le_nil dl_nil)))))))))))
  (eSs le_seq (dss_cons (eS le_asgN (ds_set (i := 2) sc_l_no_test.nd rfl (Or.inl rfl) (eE le_lst (dl_lst (eA le_cons (dl_cons (eE le_c dl_str) (eA le_cons (dl_cons (eE le_c dl_int) (eA le_cons (dl_cons (eE le_c dl_non) (eA le_cons (dl_cons (eE le_tup (dl_tup (eA le_nil dl_nil))) (eA le_cons (dl_cons (eE le_tup (dl_tup (eA le_cons (dl_cons (eE le_c dl_str) (eA le_cons (dl_cons (eE le_c dl_str) (eA le_cons (dl_cons (eE le_c dl_int) (eA le_nil dl_nil))))))))) (eA le_cons (dl_cons (eE le_tup (dl_tup (eA le_cons (dl_cons (eE le_c dl_str) (eA le_cons (dl_cons (eE le_c dl_str) (eA le_cons (dl_cons (eE le_c dl_int) (eA le_cons (dl_cons (eE le_c dl_bl) (eA le_nil dl_nil))))))))))) (eA le_cons (dl_cons (eE le_tup (dl_tup (eA le_cons (dl_cons (eE le_c dl_str) (eA le_cons (dl_cons (eE le_c dl_int) (eA le_cons (dl_cons (eE le_c dl_int) (eA le_cons (dl_cons (eE le_c dl_int) (eA le_nil dl_nil))))))))))) (eA le_nil dl_nil)))))))))))))))))))
  (eSs le_seq (dss_cons (eS le_asgN (ds_set (i := 2) sc_l_no_test.nd rfl (Or.inl rfl) (eE le_p2 (dl_op2 (op_addA rfl) okf_add (eE le_var (dl_var (pv 2))) (eE le_lst (dl_lst (eA le_cons (dl_cons (eE le_tup (dl_tup (eA le_cons (dl_cons (eE le_c dl_str) (eA le_cons (dl_cons (eE le_c dl_str) (eA le_cons (dl_cons (eE le_c dl_str) (eA le_cons (dl_cons (eE le_c dl_non) (eA le_nil dl_nil))))))))))) (eA le_cons (dl_cons (eE le_tup (dl_tup (eA le_cons (dl_cons (eE le_c dl_str) (eA le_cons (dl_cons (eE le_c dl_str) (eA le_nil dl_nil))))))) (eA le_cons (dl_cons (eE le_tup (dl_tup (eA le_cons (dl_cons (eE le_c dl_str) (eA le_cons (dl_cons (eE le_c dl_str) (eA le_cons (dl_cons (eE le_c dl_non) (eA le_nil dl_nil))))))))) (eA le_cons (dl_cons (eE le_tup (dl_tup (eA le_cons (dl_cons (eE le_c dl_str) (eA le_cons (dl_cons (eE le_var (dl_var (pv 1))) (eA le_nil dl_nil))))))) (eA le_cons (dl_cons (eE le_tup (dl_tup (eA le_cons (dl_cons (eE le_c dl_str) (eA le_nil dl_nil))))) (eA le_nil dl_nil)))))))))))))))))
  (eSs le_seq (dss_cons (eS le_asgN (ds_set (i := 2) sc_l_no_test.nd rfl (Or.inl rfl) (eE le_p2 (dl_op2 (op_addA rfl) okf_add (eE le_var (dl_var (pv 2))) (eE le_lst (dl_lst (eA le_cons (dl_cons (eE le_tup (dl_tup (eA le_cons (dl_cons (eE le_c dl_str) (eA le_cons (dl_cons (eE le_var (dl_var (pv 1))) (eA le_cons (dl_cons (eE le_c dl_int) (eA le_nil dl_nil))))))))) (eA le_cons (dl_cons (eE le_tup (dl_tup (eA le_cons (dl_cons (eE le_c dl_str) (eA le_cons (dl_cons (eE le_c dl_str) (eA le_nil dl_nil))))))) (eA le_cons (dl_cons (eE le_tup (dl_tup (eA le_cons (dl_cons (eE le_c dl_str) (eA le_cons (dl_cons (eE le_c dl_str) (eA le_nil dl_nil))))))) (eA le_cons (dl_cons (eE le_tup (dl_tup (eA le_cons (dl_cons (eE le_c dl_str) (eA le_cons (dl_cons (eE le_c dl_str) (eA le_cons (dl_cons (eE le_c dl_str) (eA le_nil dl_nil))))))))) (eA le_nil dl_nil)))))))))))))))
  (eSs le_seq (dss_cons (eS le_asgN (ds_set (i := 2) sc_l_no_test.nd rfl (Or.inl rfl) (eE le_p2 (dl_op2 (op_addA rfl) okf_add (eE le_var (dl_var (pv 2))) (eE le_lst (dl_lst (eA le_cons (dl_cons (eE le_tup (dl_tup (eA le_cons (dl_cons (eE le_c dl_str) (eA le_cons (dl_cons (eE le_c dl_non) (eA le_cons (dl_cons (eE le_tup (dl_tup (eA le_cons (dl_cons (eE le_c dl_str) (eA le_cons (dl_cons (eE le_c dl_str) (eA le_nil dl_nil))))))) (eA le_nil dl_nil))))))))) (eA le_cons (dl_cons (eE le_lst (dl_lst (eA le_cons (dl_cons (eE le_c dl_str) (eA le_cons (dl_cons (eE le_c dl_str) (eA le_cons (dl_cons (eE le_c dl_str) (eA le_nil dl_nil))))))))) (eA le_cons (dl_cons (eE le_tup (dl_tup (eA le_cons (dl_cons (eE le_c dl_str) (eA le_cons (dl_cons (eE le_c dl_str) (eA le_cons (dl_cons (eE le_c dl_int) (eA le_cons (dl_cons (eE le_c dl_int) (eA le_cons (dl_cons (eE le_c dl_int) (eA le_nil dl_nil))))))))))))) (eA le_nil dl_nil)))))))))))))
  (eSs le_seq (dss_cons (eS le_asgN (ds_set (i := 2) sc_l_no_test.nd rfl (Or.inl rfl) (eE le_p2 (dl_op2 (op_addA rfl) okf_add (eE le_var (dl_var (pv 2))) (eE le_lst (dl_lst (eA le_cons (dl_cons (eE le_tup (dl_tup (eA le_cons (dl_cons (eE le_c dl_str) (eA le_cons (dl_cons (eE le_c dl_str) (eA le_cons (dl_cons (eE le_c dl_str) (eA le_cons (dl_cons (eE le_c dl_str) (eA le_nil dl_nil))))))))))) (eA le_cons (dl_cons (eE le_tup (dl_tup (eA le_cons (dl_cons (eE le_c dl_str) (eA le_cons (dl_cons (eE le_var (dl_var (pv 1))) (eA le_nil dl_nil))))))) (eA le_cons (dl_cons (eE le_tup (dl_tup (eA le_cons (dl_cons (eE le_c dl_str) (eA le_cons (dl_cons (eE le_c dl_str) (eA le_nil dl_nil))))))) (eA le_nil dl_nil)))))))))))))
  (eSs le_seq (dss_cons (eS le_asgN (ds_set (i := 2) sc_l_no_test.nd rfl (Or.inl rfl) (eE le_p2 (dl_op2 (op_addA rfl) okf_add (eE le_var (dl_var (pv 2))) (eE le_lst (dl_lst (eA le_cons (dl_cons (eE le_tup (dl_tup (eA le_cons (dl_cons (eE le_c dl_str) (eA le_cons (dl_cons (eE le_var (dl_var (pv 1))) (eA le_cons (dl_cons (eE le_var (dl_var (pv 1))) (eA le_nil dl_nil))))))))) (eA le_cons (dl_cons (eE le_tup (dl_tup (eA le_cons (dl_cons (eE le_c dl_str) (eA le_cons (dl_cons (eE le_var (dl_var (pv 1))) (eA le_cons (dl_cons (eE le_var (dl_var (pv 1))) (eA le_cons (dl_cons (eE le_var (dl_var (pv 1))) (eA le_nil dl_nil))))))))))) (eA le_cons (dl_cons (eE le_tup (dl_tup (eA le_cons (dl_cons (eE le_c dl_str) (eA le_cons (dl_cons (eE le_c dl_str) (eA le_cons (dl_cons (eE le_tup (dl_tup (eA le_cons (dl_cons (eE le_c dl_str) (eA le_cons (dl_cons (eE le_c dl_str) (eA le_nil dl_nil))))))) (eA le_cons (dl_cons (eE le_c dl_int) (eA le_nil dl_nil))))))))))) (eA le_nil dl_nil)))))))))))))
  (dss_one (eS le_ret (ds_ret (eE le_p2 (dl_ix (ix_K rfl) okf_ix (eE le_var (dl_var (pv 2))) (eE le_p2 (dl_op2 op_mod okf_mod (eE le_var (dl_var (pv 0))) (eE le_prim (dl_callB (call_lenK rfl) okf_len rfl T.n_len (by decide +kernel) (eA le_cons (dl_cons (eE le_var (dl_var (pv 2))) (eA le_nil dl_nil))))))) (fun _ _ => rfl))))))))))))))))))))
theorem wk_l_spoilt (T : Txt K mg Z) {n : Nat} (R : Rec P w K mg base Z n) : Wk P w K mg base (sg K Z) N_l_spoilt "_law_spoilt" s_l_spoilt (2 * n + 2) (wS (fb_l_spoilt (call n))) := fun f cdv A outer s H E hr => (eSs le_seq (dss_cons (eS le_if (ds_if (PW.pt (eW le_or (dl_or (eT le_B2 (dl_cmpT (op_eqA rfl hr.units) okf_eq (eE le_p2 (dl_ix (ix_K rfl) okf_ix (eE le_var (dl_var (pv 0))) (eE le_c dl_int) (fun _ _ => rfl))) (eE le_c dl_str) (nomark _))) (dl_or1 (eT le_B2 (dl_cmpT (op_eqA rfl hr.units) okf_eq (eE le_p2 (dl_op2 op_mod okf_mod (eE le_var (dl_var (pv 1))) (eE le_c dl_int))) (eE le_c dl_int) (nomark _)))))))
  (dss_one (eS le_ret (ds_ret (eE le_var (dl_var (pv 2))))))
  (eSs le_pass dss_nil)))
  (eSs le_seq (dss_cons (eS le_if (ds_if (eT le_B2 (dl_cmpT (op_eqA rfl hr.units) okf_eq (eE le_p2 (dl_ix (ix_K rfl) okf_ix (eE le_var (dl_var (pv 0))) (eE le_c dl_int) (fun _ _ => rfl))) (eE le_c dl_str) (nomark _)))
  (eSs le_seq (dss_cons (eS le_if (ds_if (eT le_B2 (dl_cmpT (op_eqA rfl hr.units) okf_eq (eE le_p2 (dl_op2 op_mod okf_mod (eE le_p2 (dl_op2 op_fdivW okf_div (eE le_var (dl_var (pv 1))) (eE le_c dl_int))) (eE le_c dl_int))) (eE le_c dl_int) (nomark _)))
  (dss_one (eS le_ret (ds_ret (eE le_tup (dl_tup (eA le_cons (dl_cons (eE le_c dl_str) (eA le_cons (dl_cons (eE le_call (dl_call R.c_law_spoilt hr (by omega) rfl (eA le_cons (dl_cons (eE le_p2 (dl_ix (ix_K rfl) okf_ix (eE le_var (dl_var (pv 0))) (eE le_c dl_int) (fun _ _ => rfl))) (eA le_cons (dl_cons (eE le_p2 (dl_op2 op_fdivW okf_div (eE le_var (dl_var (pv 1))) (eE le_c dl_int))) (eA le_cons (dl_cons (eE le_var (dl_var (pv 2))) (eA le_nil dl_nil))))))))) (eA le_cons (dl_cons (eE le_p2 (dl_ix (ix_K rfl) okf_ix (eE le_var (dl_var (pv 0))) (eE le_c dl_int) (fun _ _ => rfl))) (eA le_nil dl_nil))))))))))))
  (eSs le_pass dss_nil)))
  (dss_one (eS le_ret (ds_ret (eE le_tup (dl_tup (eA le_cons (dl_cons (eE le_c dl_str) (eA le_cons (dl_cons (eE le_p2 (dl_ix (ix_K rfl) okf_ix (eE le_var (dl_var (pv 0))) (eE le_c dl_int) (fun _ _ => rfl))) (eA le_cons (dl_cons (eE le_call (dl_call R.c_law_spoilt hr (by omega) rfl (eA le_cons (dl_cons (eE le_p2 (dl_ix (ix_K rfl) okf_ix (eE le_var (dl_var (pv 0))) (eE le_c dl_int) (fun _ _ => rfl))) (eA le_cons (dl_cons (eE le_p2 (dl_op2 op_fdivW okf_div (eE le_var (dl_var (pv 1))) (eE le_c dl_int))) (eA le_cons (dl_cons (eE le_var (dl_var (pv 2))) (eA le_nil dl_nil))))))))) (eA le_nil dl_nil))))))))))))))
  (eSs le_pass dss_nil)))
  (dss_one (eS le_ret (ds_ret (eE le_p2 (dl_op2 (op_addA rfl) okf_add (eE le_sl (dl_sl rfl (eE le_var (dl_var (pv 0))) (eO le_noP dl_noP) (eO le_part (dl_part (eE le_p1 (dl_un un_neg okf_neg (eE le_c dl_int))))))) (eE le_tup (dl_tup (eA le_cons (dl_cons (eE le_call (dl_call R.c_law_spoilt hr (by omega) rfl (eA le_cons (dl_cons (eE le_p2 (dl_ix (ix_K rfl) okf_ix (eE le_var (dl_var (pv 0))) (eE le_p1 (dl_un un_neg okf_neg (eE le_c dl_int))) (fun _ _ => rfl))) (eA le_cons (dl_cons (eE le_p2 (dl_op2 op_fdivW okf_div (eE le_var (dl_var (pv 1))) (eE le_c dl_int))) (eA le_cons (dl_cons (eE le_var (dl_var (pv 2))) (eA le_nil dl_nil))))))))) (eA le_nil dl_nil))))))))))))))
theorem wk_l_refused (T : Txt K mg Z) {n : Nat} (R : Rec P w K mg base Z n) : Wk P w K mg base (sg K Z) N_l_refused "_law_refused" s_l_refused (2 * n + 2) (wS (fb_l_refused (call n))) := fun f cdv A outer s H E hr => (eSs le_seq (dss_cons (eS le_tryAs (ds_wk (ds_try_as (i := 1) (sub := xsub "NoQuestion") rfl rfl sc_l_refused.nd rfl rfl ⟨rfl, by decide, Or.inl T.g_NoQuestion⟩ rfl T.xm_NoQuestion (fun pn xe po => (dss_one (eS le_exp (ds_exp (eE le_call (dl_call R.c_read_question hr (by omega) rfl (eA le_cons (dl_cons (eE le_var (dl_var (pv 0))) (eA le_nil dl_nil))))))))) (fun a oe cls d pn e hz hf hcls hC => (dss_one (eS le_ret (ds_ret (eE le_p2 (dl_cmp (op_eqA rfl hr.units) okf_eq (eE le_xf (dl_xf rfl T.xf_at hz hf hcls hC (eE le_var (dl_var (pv 1))))) (eE le_tup (dl_tup (eA le_nil dl_nil))) (nomark _))))))))))
  (dss_one (eS le_ret (ds_ret (eE le_c dl_bl))))))
theorem wk_l_test_refused (T : Txt K mg Z) {n : Nat} (R : Rec P w K mg base Z n) : Wk P w K mg base (sg K Z) N_l_test_refused "_law_test_refused" s_l_test_refused (2 * n + 2) (wS (fb_l_test_refused (call n))) := fun f cdv A outer s H E hr => (eSs le_seq (dss_cons (eS le_tryAs (ds_wk (ds_try_as (i := 1) (sub := xsub "NoQuestion") rfl rfl sc_l_test_refused.nd rfl rfl ⟨rfl, by decide, Or.inl T.g_NoQuestion⟩ rfl T.xm_NoQuestion (fun pn xe po => (dss_one (eS le_exp (ds_exp (eE le_call (dl_call R.c_read_test hr (by omega) rfl (eA le_cons (dl_cons (eE le_var (dl_var (pv 0))) (eA le_nil dl_nil))))))))) (fun a oe cls d pn e hz hf hcls hC => (dss_one (eS le_ret (ds_ret (eE le_p2 (dl_cmp (op_eqA rfl hr.units) okf_eq (eE le_xf (dl_xf rfl T.xf_at hz hf hcls hC (eE le_var (dl_var (pv 1))))) (eE le_tup (dl_tup (eA le_nil dl_nil))) (nomark _))))))))))
  (dss_one (eS le_ret (ds_ret (eE le_c dl_bl))))))
theorem wk_law (T : Txt K mg Z) {n : Nat} (R : Rec P w K mg base Z n) : Wk P w K mg base (sg K Z) N_law "law" s_law (2 * n + 2) (wS (fb_law (call n))) := fun f cdv A outer s H E hr => (eSs le_seq (dss_cons (eS le_asgN (ds_set (i := 1) sc_law.nd rfl (Or.inl rfl) (eE le_call (dl_call R.c_law_cell_at hr (by omega) rfl (eA le_cons (dl_cons (eE le_var (dl_var (pv 0))) (eA le_cons (dl_cons (eE le_c dl_int) (eA le_nil dl_nil)))))))))
  (eSs le_seq (dss_cons (eS le_asgN (ds_set (i := 2) sc_law.nd rfl (Or.inl rfl) (eE le_call (dl_call R.c_law_strange hr (by omega) rfl (eA le_cons (dl_cons (eE le_call (dl_call R.c_law_cell_at hr (by omega) rfl (eA le_cons (dl_cons (eE le_var (dl_var (pv 0))) (eA le_cons (dl_cons (eE le_c dl_int) (eA le_nil dl_nil))))))) (eA le_nil dl_nil)))))))
  (eSs le_seq (dss_cons (eS le_for (ds_for (passes_of rfl) rfl (eI' le_sq (dl_sq rfl (eE le_call (dl_call R.c_law_right hr (by omega) rfl (eA le_cons (dl_cons (eE le_var (dl_var (pv 1))) (eA le_nil dl_nil))))))) (eG le_gN (dg_name (pg_name (i := 3) sc_law.nd rfl (Or.inl rfl))))
  (eSs le_seq (dss_cons (eS le_if (ds_if (eT le_B2 (dl_cmpT (op_neA rfl hr.units) okf_ne (eE (le_meth0 (cs := fam_told) dpm_told) (dl_meth0 (fun C h1 h2 => ⟨_, (by omega), R.m_told C h1 h2⟩) hr (eE le_call (dl_call R.c_read_question hr (by omega) rfl (eA le_cons (dl_cons (eE le_var (dl_var (pv 3))) (eA le_nil dl_nil))))))) (eE le_var (dl_var (pv 3))) (nomark _)))
  (dss_one (eS le_ret (ds_ret (eE le_c dl_bl))))
  (eSs le_pass dss_nil)))
  (dss_one (eS le_if (ds_if (eT le_not (dl_not (eT le_B (dl_val (eE le_call (dl_call R.c_law_refused hr (by omega) rfl (eA le_cons (dl_cons (eE le_call (dl_call R.c_law_spoilt hr (by omega) rfl (eA le_cons (dl_cons (eE le_var (dl_var (pv 3))) (eA le_cons (dl_cons (eE le_call (dl_call R.c_law_cell_at hr (by omega) rfl (eA le_cons (dl_cons (eE le_var (dl_var (pv 0))) (eA le_cons (dl_cons (eE le_c dl_int) (eA le_nil dl_nil))))))) (eA le_cons (dl_cons (eE le_var (dl_var (pv 2))) (eA le_nil dl_nil))))))))) (eA le_nil dl_nil)))))))))
  (dss_one (eS le_ret (ds_ret (eE le_c dl_bl))))
  (eSs le_pass dss_nil))))))))
  (eSs le_seq (dss_cons (eS le_asgN (ds_set (i := 4) sc_law.nd rfl (Or.inl rfl) (eE le_call (dl_call R.c_law_no_test hr (by omega) rfl (eA le_cons (dl_cons (eE le_call (dl_call R.c_law_cell_at hr (by omega) rfl (eA le_cons (dl_cons (eE le_var (dl_var (pv 0))) (eA le_cons (dl_cons (eE le_c dl_int) (eA le_nil dl_nil))))))) (eA le_nil dl_nil)))))))
  (eSs le_seq (dss_cons (eS le_asgN (ds_set (i := 5) sc_law.nd rfl (Or.inl rfl) (eE le_p2 (dl_op2 op_mod okf_mod (eE le_call (dl_call R.c_law_cell_at hr (by omega) rfl (eA le_cons (dl_cons (eE le_var (dl_var (pv 0))) (eA le_cons (dl_cons (eE le_c dl_int) (eA le_nil dl_nil))))))) (eE le_c dl_int)))))
  (eSs le_seq (dss_cons (eS le_asgN (ds_set (i := 6) sc_law.nd rfl (Or.inl rfl) (eE le_tup (dl_tup (eA le_cons (dl_cons (eE le_c dl_str) (eA le_cons (dl_cons (eE le_c dl_str) (eA le_cons (dl_cons (eE le_c dl_str) (eA le_nil dl_nil)))))))))))
  (eSs le_seq (dss_cons (eS le_asgN (ds_set (i := 7) sc_law.nd rfl (Or.inl rfl) (eE le_p2 (dl_ix (ix_K rfl) okf_ix (eE le_lst (dl_lst (eA le_cons (dl_cons (eE le_var (dl_var (pv 4))) (eA le_cons (dl_cons (eE le_tup (dl_tup (eA le_cons (dl_cons (eE le_c dl_str) (eA le_cons (dl_cons (eE le_var (dl_var (pv 4))) (eA le_nil dl_nil))))))) (eA le_cons (dl_cons (eE le_tup (dl_tup (eA le_cons (dl_cons (eE le_c dl_str) (eA le_cons (dl_cons (eE le_var (dl_var (pv 6))) (eA le_cons (dl_cons (eE le_var (dl_var (pv 4))) (eA le_nil dl_nil))))))))) (eA le_nil dl_nil))))))))) (eE le_var (dl_var (pv 5))) (fun _ _ => rfl)))))
  (eSs le_seq (dss_cons (eS le_if (ds_if (PW.pt (eW le_or (dl_or (eT le_not (dl_not (eT le_B (dl_val (eE le_call (dl_call R.c_law_test_refused hr (by omega) rfl (eA le_cons (dl_cons (eE le_var (dl_var (pv 7))) (eA le_nil dl_nil))))))))) (dl_or1 (eT le_not (dl_not (eT le_B (dl_val (eE le_call (dl_call R.c_law_refused hr (by omega) rfl (eA le_cons (dl_cons (eE le_tup (dl_tup (eA le_cons (dl_cons (eE le_c dl_str) (eA le_cons (dl_cons (eE le_var (dl_var (pv 7))) (eA le_cons (dl_cons (eE le_tup (dl_tup (eA le_cons (dl_cons (eE le_c dl_str) (eA le_cons (dl_cons (eE le_c dl_str) (eA le_nil dl_nil))))))) (eA le_nil dl_nil))))))))) (eA le_nil dl_nil)))))))))))))
  (dss_one (eS le_ret (ds_ret (eE le_c dl_bl))))
  (eSs le_pass dss_nil)))
  (dss_one (eS le_ret (ds_ret (eE le_p2 (dl_cmp (op_eqA rfl hr.units) okf_eq (eE (le_meth0 (cs := fam_told) dpm_told) (dl_meth0 (fun C h1 h2 => ⟨_, (by omega), R.m_told C h1 h2⟩) hr (eE le_call (dl_call R.c_read_test hr (by omega) rfl (eA le_cons (dl_cons (eE le_var (dl_var (pv 6))) (eA le_nil dl_nil))))))) (eE le_var (dl_var (pv 6))) (nomark _))))))))))))))))))))))
theorem recs (T : Txt K mg Z) : ∀ n, Rec P w K mg base Z n
  | 0 => {
    c_law_cell_at := calA_no (k := 0) T.d_law_cell_at sc_l_cell_at (fun _ _ _ _ h => h)
    c_law_no_test := calA_no (k := 0) T.d_law_no_test sc_l_no_test (fun _ _ _ _ h => h)
    c_law_refused := calA_no (k := 0) T.d_law_refused sc_l_refused (fun _ _ _ _ h => h)
    c_law_right := calA_no (k := 0) T.d_law_right sc_l_right (fun _ _ _ _ h => h)
    c_law_spoilt := calA_no (k := 0) T.d_law_spoilt sc_l_spoilt (fun _ _ _ _ h => h)
    c_law_strange := calA_no (k := 0) T.d_law_strange sc_l_strange (fun _ _ _ _ h => h)
    c_law_test_refused := calA_no (k := 0) T.d_law_test_refused sc_l_test_refused (fun _ _ _ _ h => h)
    c_are_texts := calA_no (k := 0) T.d_are_texts sc_are_texts (fun _ _ _ _ h => h)
    c_is_bound := calA_no (k := 0) T.d_is_bound sc_is_bound (fun _ _ _ _ h => h)
    c_is_name := calA_no (k := 0) T.d_is_name sc_is_name (fun _ _ _ _ h => h)
    c_is_number := calA_no (k := 0) T.d_is_number sc_is_number (fun _ _ _ _ h => h)
    c_read_named := calA_no (k := 0) T.d_read_named sc_read_named (fun _ _ _ _ h => h)
    c_read_question := calA_no (k := 0) T.d_read_question sc_read_question (fun _ _ _ _ h => h)
    c_read_test := calA_no (k := 0) T.d_read_test sc_read_test (fun _ _ _ _ h => h)
    c_refuse := calA_no (k := 0) T.d_refuse sc_refuse (fun _ _ _ _ h => h)
    k_Among := mak_no (k := 0) T.i_Among T.g_Among sc_Among___init (fun _ _ _ _ h => h)
    k_Both := mak_no (k := 0) T.i_Both T.g_Both sc_Paired___init (fun _ _ _ _ h => h)
    k_Columns := mak_no (k := 0) T.i_Columns T.g_Columns sc_Columns___init (fun _ _ _ _ h => h)
    k_Either := mak_no (k := 0) T.i_Either T.g_Either sc_Paired___init (fun _ _ _ _ h => h)
    k_First := mak_no (k := 0) T.i_First T.g_First sc_First___init (fun _ _ _ _ h => h)
    k_Joined := mak_no (k := 0) T.i_Joined T.g_Joined sc_Joined___init (fun _ _ _ _ h => h)
    k_Like := mak_no (k := 0) T.i_Like T.g_Like sc_Like___init (fun _ _ _ _ h => h)
    k_Not := mak_no (k := 0) T.i_Not T.g_Not sc_Not___init (fun _ _ _ _ h => h)
    k_Ordered := mak_no (k := 0) T.i_Ordered T.g_Ordered sc_Ordered___init (fun _ _ _ _ h => h)
    k_Sums := mak_no (k := 0) T.i_Sums T.g_Sums sc_Sums___init (fun _ _ _ _ h => h)
    k_Table := mak_no (k := 0) T.i_Table T.g_Table sc_Table___init (fun _ _ _ _ h => h)
    k_Where := mak_no (k := 0) T.i_Where T.g_Where sc_Where___init (fun _ _ _ _ h => h)
    k_Within := mak_no (k := 0) T.i_Within T.g_Within sc_Within___init (fun _ _ _ _ h => h)
    m_told := by
      intro C h1 _
      simp only [List.mem_cons, List.not_mem_nil, or_false] at h1
      rcases h1 with rfl | rfl | rfl | rfl | rfl | rfl | rfl | rfl | rfl | rfl | rfl | rfl | rfl | rfl | rfl | rfl
      · exact met_no (k := 0) T.m_Test_told T.cl_Test sc_Test_told (fun _ _ _ _ h => dpM_no h)
      · exact met_no (k := 0) T.m_Within_told T.cl_Within sc_Within_told (fun _ _ _ _ h => dpM_no h)
      · exact met_no (k := 0) T.m_Like_told T.cl_Like sc_Like_told (fun _ _ _ _ h => dpM_no h)
      · exact met_no (k := 0) T.m_Paired_told T.cl_Paired sc_Test_told (fun _ _ _ _ h => dpM_no h)
      · exact met_no (k := 0) T.m_Both_told T.cl_Both sc_Both_told (fun _ _ _ _ h => dpM_no h)
      · exact met_no (k := 0) T.m_Either_told T.cl_Either sc_Either_told (fun _ _ _ _ h => dpM_no h)
      · exact met_no (k := 0) T.m_Not_told T.cl_Not sc_Not_told (fun _ _ _ _ h => dpM_no h)
      · exact met_no (k := 0) T.m_Among_told T.cl_Among sc_Among_told (fun _ _ _ _ h => dpM_no h)
      · exact met_no (k := 0) T.m_Question_told T.cl_Question sc_Question_told (fun _ _ _ _ h => dpM_no h)
      · exact met_no (k := 0) T.m_Table_told T.cl_Table sc_Table_told (fun _ _ _ _ h => dpM_no h)
      · exact met_no (k := 0) T.m_Where_told T.cl_Where sc_Where_told (fun _ _ _ _ h => dpM_no h)
      · exact met_no (k := 0) T.m_Columns_told T.cl_Columns sc_Columns_told (fun _ _ _ _ h => dpM_no h)
      · exact met_no (k := 0) T.m_Joined_told T.cl_Joined sc_Joined_told (fun _ _ _ _ h => dpM_no h)
      · exact met_no (k := 0) T.m_Sums_told T.cl_Sums sc_Sums_told (fun _ _ _ _ h => dpM_no h)
      · exact met_no (k := 0) T.m_Ordered_told T.cl_Ordered sc_Ordered_told (fun _ _ _ _ h => dpM_no h)
      · exact met_no (k := 0) T.m_First_told T.cl_First sc_First_told (fun _ _ _ _ h => dpM_no h)
  }
  | n + 1 => have R := recs T n; {
    c_law_cell_at := calA_of (k := 2 * n + 2) T.d_law_cell_at sc_l_cell_at run_ln run_vc (wk_l_cell_at T R)
    c_law_no_test := calA_of (k := 2 * n + 2) T.d_law_no_test sc_l_no_test run_ln run_vc (wk_l_no_test T R)
    c_law_refused := calA_of (k := 2 * n + 2) T.d_law_refused sc_l_refused run_ln run_vc (wk_l_refused T R)
    c_law_right := calA_of (k := 2 * n + 2) T.d_law_right sc_l_right run_ln run_vc (wk_l_right T R)
    c_law_spoilt := calA_of (k := 2 * n + 2) T.d_law_spoilt sc_l_spoilt run_ln run_vc (wk_l_spoilt T R)
    c_law_strange := calA_of (k := 2 * n + 2) T.d_law_strange sc_l_strange run_ln run_vc (wk_l_strange T R)
    c_law_test_refused := calA_of (k := 2 * n + 2) T.d_law_test_refused sc_l_test_refused run_ln run_vc (wk_l_test_refused T R)
    c_are_texts := calA_of (k := 2 * n + 2) T.d_are_texts sc_are_texts run_ln run_vc (wk_are_texts T R)
    c_is_bound := calA_of (k := 2 * n + 2) T.d_is_bound sc_is_bound run_ln run_vc (wk_is_bound T R)
    c_is_name := calA_of (k := 2 * n + 2) T.d_is_name sc_is_name run_ln run_vc (wk_is_name T R)
    c_is_number := calA_of (k := 2 * n + 2) T.d_is_number sc_is_number run_ln run_vc (wk_is_number T R)
    c_read_named := calA_of (k := 2 * n + 2) T.d_read_named sc_read_named run_ln run_vc (wk_read_named T R)
    c_read_question := calA_of (k := 2 * n + 2) T.d_read_question sc_read_question run_ln run_vc (wk_read_question T R)
    c_read_test := calA_of (k := 2 * n + 2) T.d_read_test sc_read_test run_ln run_vc (wk_read_test T R)
    c_refuse := calA_of (k := 2 * n + 2) T.d_refuse sc_refuse run_ln run_vc (wk_refuse T R)
    k_Among := mak_of (k := 2 * n + 2) T.i_Among T.g_Among sc_Among___init run_ln run_vc (wk_Among___init T R)
    k_Both := mak_of (k := 2 * n + 2) T.i_Both T.g_Both sc_Paired___init run_ln run_vc (wk_Paired___init T R)
    k_Columns := mak_of (k := 2 * n + 2) T.i_Columns T.g_Columns sc_Columns___init run_ln run_vc (wk_Columns___init T R)
    k_Either := mak_of (k := 2 * n + 2) T.i_Either T.g_Either sc_Paired___init run_ln run_vc (wk_Paired___init T R)
    k_First := mak_of (k := 2 * n + 2) T.i_First T.g_First sc_First___init run_ln run_vc (wk_First___init T R)
    k_Joined := mak_of (k := 2 * n + 2) T.i_Joined T.g_Joined sc_Joined___init run_ln run_vc (wk_Joined___init T R)
    k_Like := mak_of (k := 2 * n + 2) T.i_Like T.g_Like sc_Like___init run_ln run_vc (wk_Like___init T R)
    k_Not := mak_of (k := 2 * n + 2) T.i_Not T.g_Not sc_Not___init run_ln run_vc (wk_Not___init T R)
    k_Ordered := mak_of (k := 2 * n + 2) T.i_Ordered T.g_Ordered sc_Ordered___init run_ln run_vc (wk_Ordered___init T R)
    k_Sums := mak_of (k := 2 * n + 2) T.i_Sums T.g_Sums sc_Sums___init run_ln run_vc (wk_Sums___init T R)
    k_Table := mak_of (k := 2 * n + 2) T.i_Table T.g_Table sc_Table___init run_ln run_vc (wk_Table___init T R)
    k_Where := mak_of (k := 2 * n + 2) T.i_Where T.g_Where sc_Where___init run_ln run_vc (wk_Where___init T R)
    k_Within := mak_of (k := 2 * n + 2) T.i_Within T.g_Within sc_Within___init run_ln run_vc (wk_Within___init T R)
    m_told := by
      intro C h1 _
      simp only [List.mem_cons, List.not_mem_nil, or_false] at h1
      rcases h1 with rfl | rfl | rfl | rfl | rfl | rfl | rfl | rfl | rfl | rfl | rfl | rfl | rfl | rfl | rfl | rfl
      · exact met_of (k := 2 * n + 2) T.m_Test_told T.cl_Test sc_Test_told (run_lnC dp_told_Test) (run_vcC (np := 1) dp_told_Test) (wk_Test_told T R)
      · exact met_of (k := 2 * n + 2) T.m_Within_told T.cl_Within sc_Within_told (run_lnC dp_told_Within) (run_vcC (np := 1) dp_told_Within) (wk_Within_told T R)
      · exact met_of (k := 2 * n + 2) T.m_Like_told T.cl_Like sc_Like_told (run_lnC dp_told_Like) (run_vcC (np := 1) dp_told_Like) (wk_Like_told T R)
      · exact met_of (k := 2 * n + 2) T.m_Paired_told T.cl_Paired sc_Test_told (run_lnC dp_told_Paired) (run_vcC (np := 1) dp_told_Paired) (wk_Test_told T R)
      · exact met_of (k := 2 * n + 2) T.m_Both_told T.cl_Both sc_Both_told (run_lnC dp_told_Both) (run_vcC (np := 1) dp_told_Both) (wk_Both_told T R)
      · exact met_of (k := 2 * n + 2) T.m_Either_told T.cl_Either sc_Either_told (run_lnC dp_told_Either) (run_vcC (np := 1) dp_told_Either) (wk_Either_told T R)
      · exact met_of (k := 2 * n + 2) T.m_Not_told T.cl_Not sc_Not_told (run_lnC dp_told_Not) (run_vcC (np := 1) dp_told_Not) (wk_Not_told T R)
      · exact met_of (k := 2 * n + 2) T.m_Among_told T.cl_Among sc_Among_told (run_lnC dp_told_Among) (run_vcC (np := 1) dp_told_Among) (wk_Among_told T R)
      · exact met_of (k := 2 * n + 2) T.m_Question_told T.cl_Question sc_Question_told (run_lnC dp_told_Question) (run_vcC (np := 1) dp_told_Question) (wk_Question_told T R)
      · exact met_of (k := 2 * n + 2) T.m_Table_told T.cl_Table sc_Table_told (run_lnC dp_told_Table) (run_vcC (np := 1) dp_told_Table) (wk_Table_told T R)
      · exact met_of (k := 2 * n + 2) T.m_Where_told T.cl_Where sc_Where_told (run_lnC dp_told_Where) (run_vcC (np := 1) dp_told_Where) (wk_Where_told T R)
      · exact met_of (k := 2 * n + 2) T.m_Columns_told T.cl_Columns sc_Columns_told (run_lnC dp_told_Columns) (run_vcC (np := 1) dp_told_Columns) (wk_Columns_told T R)
      · exact met_of (k := 2 * n + 2) T.m_Joined_told T.cl_Joined sc_Joined_told (run_lnC dp_told_Joined) (run_vcC (np := 1) dp_told_Joined) (wk_Joined_told T R)
      · exact met_of (k := 2 * n + 2) T.m_Sums_told T.cl_Sums sc_Sums_told (run_lnC dp_told_Sums) (run_vcC (np := 1) dp_told_Sums) (wk_Sums_told T R)
      · exact met_of (k := 2 * n + 2) T.m_Ordered_told T.cl_Ordered sc_Ordered_told (run_lnC dp_told_Ordered) (run_vcC (np := 1) dp_told_Ordered) (wk_Ordered_told T R)
      · exact met_of (k := 2 * n + 2) T.m_First_told T.cl_First sc_First_told (run_lnC dp_told_First) (run_vcC (np := 1) dp_told_First) (wk_First_told T R)
  }
theorem ok_law {f : Addr} {fd : FuncData} {n : Nat} (T : Txt K mg Z) (F : Fun K "law" "law" s_law f fd) : FnOk P w K mg base (L2.CX P w) (2 * n + 3) f fd ["_law_script"] (lsp (sg K Z) (spF (call (n + 1) .law))) :=
  F.okX (k := 2 * n + 2) sc_law (fun vs H Q E h => lsp_len (G := sg K Z) (sp := spF (call (n + 1) .law)) run_ln h) fun cdv A outer s H vs Q E hr h => ⟨_, wk_law T (recs T n) f cdv A outer s H E hr, body_run (sp := spF (call (n + 1) .law)) run_vc (takes_of rfl rfl rfl rfl) h⟩
end
open QU
theorem told_ok : ∀ n : Nat, (∀ (t : Te) (s : DSt), dT t < n → meth "told" (dpL tab_told (call n)) fNil (vT t) s = .ret (.imm (tT t)) s) ∧ (∀ (q : Qu) (s : DSt), dQ q < n → meth "told" (dpL tab_told (call n)) fNil (vQ q) s = .ret (.imm (tQ q)) s)
  | 0 => ⟨fun _ _ h => by omega, fun _ _ h => by omega⟩
  | n + 1 => by
    obtain ⟨iT, iQ⟩ := told_ok n
    refine ⟨fun t s h => ?_, fun q s h => ?_⟩
    · obtain ⟨sl, M⟩ := s
      cases t <;> simp only [dT] at h <;> simp (maxSteps := 2000000) (disch := first | omega | assumption) only [vT, tT, tpl, iT, iQ, List.contains_cons, List.contains_nil, c_Within_told, fb_Within_told, c_Like_told, fb_Like_told, c_Both_told, fb_Both_told, c_Either_told, fb_Either_told, c_Not_told, fb_Not_told, c_Among_told, fb_Among_told, Nat.add_sub_cancel, ↓fxT, ↓fxS, ↓fxE, ↓fxM, fxV, fxD, fxN, fxL, ↓fxG, ↓fxC, fxP, fxI, ofS, String.reduceEq, List.length_cons, List.length_nil, Nat.reduceAdd, Nat.reduceEqDiff, Nat.reduceLT, Nat.reduceLeDiff, decide_true, decide_false, ↓reduceIte, Bool.not_true, Bool.not_false, Bool.false_eq_true, reduceCtorEq, sizeLine_eq, List.contains_cons, List.contains_nil, ofSb, String.reduceBEq, Bool.or_false, Bool.or_self, Bool.false_or, Bool.true_or, Bool.or_true, Bool.and_true, Bool.true_and, Bool.and_false, Bool.false_and, Bool.false_xor, Bool.true_xor, decide_eq_true_eq, at0, at1, at2, at3, Int.cast_ofNat_Int, Int.natCast_zero, Int.natCast_one, Int.reduceLT, Int.reduceLE, Int.reduceEq, Int.reduceAdd, Int.reduceSub, Int.reduceNeg, List.nil_append, List.cons_append, List.all_cons, List.all_nil, List.any_cons, List.any_nil, id_eq, divOk_lit, mulOk_r, mulOk_l, powOk_lit, atM1, atM, Nat.max_self, Nat.zero_le, Nat.reduceSub, dpF, xsubF, mk_Among, mk_Both, mk_Columns, mk_Columns_l, mk_Either, mk_First, mk_Joined, mk_Like, mk_Not, mk_Ordered, mk_Ordered_l, mk_Sums, mk_Sums_l, mk_Table, mk_Where, mk_Within]
      done
    · obtain ⟨sl, M⟩ := s
      cases q <;> simp only [dQ] at h <;> simp (maxSteps := 2000000) (disch := first | omega | assumption) only [vQ, tQ, tpl, nms, iT, iQ, c_Table_told, fb_Table_told, c_Where_told, fb_Where_told, c_Columns_told, fb_Columns_told, c_Joined_told, fb_Joined_told, c_Sums_told, fb_Sums_told, c_Ordered_told, fb_Ordered_told, c_First_told, fb_First_told, Nat.add_sub_cancel, ↓fxT, ↓fxS, ↓fxE, ↓fxM, fxV, fxD, fxN, fxL, ↓fxG, ↓fxC, fxP, fxI, ofS, String.reduceEq, List.length_cons, List.length_nil, Nat.reduceAdd, Nat.reduceEqDiff, Nat.reduceLT, Nat.reduceLeDiff, decide_true, decide_false, ↓reduceIte, Bool.not_true, Bool.not_false, Bool.false_eq_true, reduceCtorEq, sizeLine_eq, List.contains_cons, List.contains_nil, ofSb, String.reduceBEq, Bool.or_false, Bool.or_self, Bool.false_or, Bool.true_or, Bool.or_true, Bool.and_true, Bool.true_and, Bool.and_false, Bool.false_and, Bool.false_xor, Bool.true_xor, decide_eq_true_eq, at0, at1, at2, at3, Int.cast_ofNat_Int, Int.natCast_zero, Int.natCast_one, Int.reduceLT, Int.reduceLE, Int.reduceEq, Int.reduceAdd, Int.reduceSub, Int.reduceNeg, List.nil_append, List.cons_append, List.all_cons, List.all_nil, List.any_cons, List.any_nil, id_eq, divOk_lit, mulOk_r, mulOk_l, powOk_lit, atM1, atM, Nat.max_self, Nat.zero_le, Nat.reduceSub, dpF, xsubF, mk_Among, mk_Both, mk_Columns, mk_Columns_l, mk_Either, mk_First, mk_Joined, mk_Like, mk_Not, mk_Ordered, mk_Ordered_l, mk_Sums, mk_Sums_l, mk_Table, mk_Where, mk_Within]
      done
theorem is_name_ok {n : Nat} (h : 0 < n) {x : Str} {M : DM} : call n .is_name [.str x] M = .ret (.imm (.bl true)) M := by
  simp (maxSteps := 2000000) (disch := first | omega | assumption) only [c_is_name, fb_is_name, ↓fxT, ↓fxS, ↓fxE, ↓fxM, fxV, fxD, fxN, fxL, ↓fxG, ↓fxC, fxP, fxI, ofS, String.reduceEq, List.length_cons, List.length_nil, Nat.reduceAdd, Nat.reduceEqDiff, Nat.reduceLT, Nat.reduceLeDiff, decide_true, decide_false, ↓reduceIte, Bool.not_true, Bool.not_false, Bool.false_eq_true, reduceCtorEq, sizeLine_eq, List.contains_cons, List.contains_nil, ofSb, String.reduceBEq, Bool.or_false, Bool.or_self, Bool.false_or, Bool.true_or, Bool.or_true, Bool.and_true, Bool.true_and, Bool.and_false, Bool.false_and, Bool.false_xor, Bool.true_xor, decide_eq_true_eq, at0, at1, at2, at3, Int.cast_ofNat_Int, Int.natCast_zero, Int.natCast_one, Int.reduceLT, Int.reduceLE, Int.reduceEq, Int.reduceAdd, Int.reduceSub, Int.reduceNeg, List.nil_append, List.cons_append, List.all_cons, List.all_nil, List.any_cons, List.any_nil, id_eq, divOk_lit, mulOk_r, mulOk_l, powOk_lit, atM1, atM, Nat.max_self, Nat.zero_le, Nat.reduceSub, dpF, xsubF, mk_Among, mk_Both, mk_Columns, mk_Columns_l, mk_Either, mk_First, mk_Joined, mk_Like, mk_Not, mk_Ordered, mk_Ordered_l, mk_Sums, mk_Sums_l, mk_Table, mk_Where, mk_Within]
theorem is_bound_ok {n : Nat} (h : 1 < n) {x : Option Int} {M : DM} : call n .is_bound [bd x] M = .ret (.imm (.bl true)) M := by
  cases x <;> simp (maxSteps := 2000000) (disch := first | omega | assumption) only [bd, c_is_bound, fb_is_bound, c_is_number, fb_is_number, ↓fxT, ↓fxS, ↓fxE, ↓fxM, fxV, fxD, fxN, fxL, ↓fxG, ↓fxC, fxP, fxI, ofS, String.reduceEq, List.length_cons, List.length_nil, Nat.reduceAdd, Nat.reduceEqDiff, Nat.reduceLT, Nat.reduceLeDiff, decide_true, decide_false, ↓reduceIte, Bool.not_true, Bool.not_false, Bool.false_eq_true, reduceCtorEq, sizeLine_eq, List.contains_cons, List.contains_nil, ofSb, String.reduceBEq, Bool.or_false, Bool.or_self, Bool.false_or, Bool.true_or, Bool.or_true, Bool.and_true, Bool.true_and, Bool.and_false, Bool.false_and, Bool.false_xor, Bool.true_xor, decide_eq_true_eq, at0, at1, at2, at3, Int.cast_ofNat_Int, Int.natCast_zero, Int.natCast_one, Int.reduceLT, Int.reduceLE, Int.reduceEq, Int.reduceAdd, Int.reduceSub, Int.reduceNeg, List.nil_append, List.cons_append, List.all_cons, List.all_nil, List.any_cons, List.any_nil, id_eq, divOk_lit, mulOk_r, mulOk_l, powOk_lit, atM1, atM, Nat.max_self, Nat.zero_le, Nat.reduceSub, dpF, xsubF, mk_Among, mk_Both, mk_Columns, mk_Columns_l, mk_Either, mk_First, mk_Joined, mk_Like, mk_Not, mk_Ordered, mk_Ordered_l, mk_Sums, mk_Sums_l, mk_Table, mk_Where, mk_Within]
theorem is_number_ok {n : Nat} (h : 0 < n) {x : Int} {M : DM} : call n .is_number [.int x] M = .ret (.imm (.bl true)) M := by
  simp (maxSteps := 2000000) (disch := first | omega | assumption) only [c_is_number, fb_is_number, ↓fxT, ↓fxS, ↓fxE, ↓fxM, fxV, fxD, fxN, fxL, ↓fxG, ↓fxC, fxP, fxI, ofS, String.reduceEq, List.length_cons, List.length_nil, Nat.reduceAdd, Nat.reduceEqDiff, Nat.reduceLT, Nat.reduceLeDiff, decide_true, decide_false, ↓reduceIte, Bool.not_true, Bool.not_false, Bool.false_eq_true, reduceCtorEq, sizeLine_eq, List.contains_cons, List.contains_nil, ofSb, String.reduceBEq, Bool.or_false, Bool.or_self, Bool.false_or, Bool.true_or, Bool.or_true, Bool.and_true, Bool.true_and, Bool.and_false, Bool.false_and, Bool.false_xor, Bool.true_xor, decide_eq_true_eq, at0, at1, at2, at3, Int.cast_ofNat_Int, Int.natCast_zero, Int.natCast_one, Int.reduceLT, Int.reduceLE, Int.reduceEq, Int.reduceAdd, Int.reduceSub, Int.reduceNeg, List.nil_append, List.cons_append, List.all_cons, List.all_nil, List.any_cons, List.any_nil, id_eq, divOk_lit, mulOk_r, mulOk_l, powOk_lit, atM1, atM, Nat.max_self, Nat.zero_le, Nat.reduceSub, dpF, xsubF, mk_Among, mk_Both, mk_Columns, mk_Columns_l, mk_Either, mk_First, mk_Joined, mk_Like, mk_Not, mk_Ordered, mk_Ordered_l, mk_Sums, mk_Sums_l, mk_Table, mk_Where, mk_Within]
abbrev nq : Exc := ⟨"NoQuestion", [("at", .tup [])]⟩
theorem refuse_ok {n : Nat} (h : 0 < n) {d : D} {M : DM} : call n .refuse [.bl true, d] M = .ret (.imm .non) M := by
  simp (maxSteps := 2000000) (disch := first | omega | assumption) only [c_refuse, fb_refuse, ↓fxT, ↓fxS, ↓fxE, ↓fxM, fxV, fxD, fxN, fxL, ↓fxG, ↓fxC, fxP, fxI, ofS, String.reduceEq, List.length_cons, List.length_nil, Nat.reduceAdd, Nat.reduceEqDiff, Nat.reduceLT, Nat.reduceLeDiff, decide_true, decide_false, ↓reduceIte, Bool.not_true, Bool.not_false, Bool.false_eq_true, reduceCtorEq, sizeLine_eq, List.contains_cons, List.contains_nil, ofSb, String.reduceBEq, Bool.or_false, Bool.or_self, Bool.false_or, Bool.true_or, Bool.or_true, Bool.and_true, Bool.true_and, Bool.and_false, Bool.false_and, Bool.false_xor, Bool.true_xor, decide_eq_true_eq, at0, at1, at2, at3, Int.cast_ofNat_Int, Int.natCast_zero, Int.natCast_one, Int.reduceLT, Int.reduceLE, Int.reduceEq, Int.reduceAdd, Int.reduceSub, Int.reduceNeg, List.nil_append, List.cons_append, List.all_cons, List.all_nil, List.any_cons, List.any_nil, id_eq, divOk_lit, mulOk_r, mulOk_l, powOk_lit, atM1, atM, Nat.max_self, Nat.zero_le, Nat.reduceSub, dpF, xsubF, mk_Among, mk_Both, mk_Columns, mk_Columns_l, mk_Either, mk_First, mk_Joined, mk_Like, mk_Not, mk_Ordered, mk_Ordered_l, mk_Sums, mk_Sums_l, mk_Table, mk_Where, mk_Within]
theorem refuse_no {n : Nat} (h : 0 < n) {M : DM} : call n .refuse [.bl false, .tup []] M = .exc nq M := by
  simp (maxSteps := 2000000) (disch := first | omega | assumption) only [c_refuse, fb_refuse, ↓fxT, ↓fxS, ↓fxE, ↓fxM, fxV, fxD, fxN, fxL, ↓fxG, ↓fxC, fxP, fxI, ofS, String.reduceEq, List.length_cons, List.length_nil, Nat.reduceAdd, Nat.reduceEqDiff, Nat.reduceLT, Nat.reduceLeDiff, decide_true, decide_false, ↓reduceIte, Bool.not_true, Bool.not_false, Bool.false_eq_true, reduceCtorEq, sizeLine_eq, List.contains_cons, List.contains_nil, ofSb, String.reduceBEq, Bool.or_false, Bool.or_self, Bool.false_or, Bool.true_or, Bool.or_true, Bool.and_true, Bool.true_and, Bool.and_false, Bool.false_and, Bool.false_xor, Bool.true_xor, decide_eq_true_eq, at0, at1, at2, at3, Int.cast_ofNat_Int, Int.natCast_zero, Int.natCast_one, Int.reduceLT, Int.reduceLE, Int.reduceEq, Int.reduceAdd, Int.reduceSub, Int.reduceNeg, List.nil_append, List.cons_append, List.all_cons, List.all_nil, List.any_cons, List.any_nil, id_eq, divOk_lit, mulOk_r, mulOk_l, powOk_lit, atM1, atM, Nat.max_self, Nat.zero_le, Nat.reduceSub, dpF, xsubF, mk_Among, mk_Both, mk_Columns, mk_Columns_l, mk_Either, mk_First, mk_Joined, mk_Like, mk_Not, mk_Ordered, mk_Ordered_l, mk_Sums, mk_Sums_l, mk_Table, mk_Where, mk_Within]
theorem are_texts_ok {n : Nat} (h : 1 < n) {ns : List Str} (hl : ns.length ≤ 1000) {M : DM} : call n .are_texts [nms ns] M = .ret (.imm (.bl true)) M := by
  simp (maxSteps := 2000000) (disch := first | omega | assumption) only [nms, c_are_texts, fb_are_texts, ↓fxT, ↓fxS, ↓fxE, ↓fxM, fxV, fxD, fxN, fxL, ↓fxG, ↓fxC, fxP, fxI, ofS, String.reduceEq, List.length_cons, List.length_nil, Nat.reduceAdd, Nat.reduceEqDiff, Nat.reduceLT, Nat.reduceLeDiff, decide_true, decide_false, ↓reduceIte, Bool.not_true, Bool.not_false, Bool.false_eq_true, reduceCtorEq, sizeLine_eq, List.contains_cons, List.contains_nil, ofSb, String.reduceBEq, Bool.or_false, Bool.or_self, Bool.false_or, Bool.true_or, Bool.or_true, Bool.and_true, Bool.true_and, Bool.and_false, Bool.false_and, Bool.false_xor, Bool.true_xor, decide_eq_true_eq, at0, at1, at2, at3, Int.cast_ofNat_Int, Int.natCast_zero, Int.natCast_one, Int.reduceLT, Int.reduceLE, Int.reduceEq, Int.reduceAdd, Int.reduceSub, Int.reduceNeg, List.nil_append, List.cons_append, List.all_cons, List.all_nil, List.any_cons, List.any_nil, id_eq, divOk_lit, mulOk_r, mulOk_l, powOk_lit, atM1, atM, Nat.max_self, Nat.zero_le, Nat.reduceSub, dpF, xsubF, mk_Among, mk_Both, mk_Columns, mk_Columns_l, mk_Either, mk_First, mk_Joined, mk_Like, mk_Not, mk_Ordered, mk_Ordered_l, mk_Sums, mk_Sums_l, mk_Table, mk_Where, mk_Within]
  rw [cmpF_map (sx := fun x => ⟨[some (.imm (nms ns)), some (.imm x)], M⟩) (gr := fun _ => .imm (.bl true)) (f := fun _ => .bl true) rfl _ (fun x hx => ?_) (by rw [sizeLine_eq]; simp; omega)]
  · simp (maxSteps := 2000000) (disch := first | omega | assumption) only [bls_map, ↓fxT, ↓fxS, ↓fxE, ↓fxM, fxV, fxD, fxN, fxL, ↓fxG, ↓fxC, fxP, fxI, ofS, String.reduceEq, List.length_cons, List.length_nil, Nat.reduceAdd, Nat.reduceEqDiff, Nat.reduceLT, Nat.reduceLeDiff, decide_true, decide_false, ↓reduceIte, Bool.not_true, Bool.not_false, Bool.false_eq_true, reduceCtorEq, sizeLine_eq, List.contains_cons, List.contains_nil, ofSb, String.reduceBEq, Bool.or_false, Bool.or_self, Bool.false_or, Bool.true_or, Bool.or_true, Bool.and_true, Bool.true_and, Bool.and_false, Bool.false_and, Bool.false_xor, Bool.true_xor, decide_eq_true_eq, at0, at1, at2, at3, Int.cast_ofNat_Int, Int.natCast_zero, Int.natCast_one, Int.reduceLT, Int.reduceLE, Int.reduceEq, Int.reduceAdd, Int.reduceSub, Int.reduceNeg, List.nil_append, List.cons_append, List.all_cons, List.all_nil, List.any_cons, List.any_nil, id_eq, divOk_lit, mulOk_r, mulOk_l, powOk_lit, atM1, atM, Nat.max_self, Nat.zero_le, Nat.reduceSub, dpF, xsubF, mk_Among, mk_Both, mk_Columns, mk_Columns_l, mk_Either, mk_First, mk_Joined, mk_Like, mk_Not, mk_Ordered, mk_Ordered_l, mk_Sums, mk_Sums_l, mk_Table, mk_Where, mk_Within]
    simp
  · obtain ⟨a, _, rfl⟩ := List.mem_map.mp hx
    simp (maxSteps := 2000000) (disch := first | omega | assumption) only [is_name_ok, dat, true_and, ↓fxT, ↓fxS, ↓fxE, ↓fxM, fxV, fxD, fxN, fxL, ↓fxG, ↓fxC, fxP, fxI, ofS, String.reduceEq, List.length_cons, List.length_nil, Nat.reduceAdd, Nat.reduceEqDiff, Nat.reduceLT, Nat.reduceLeDiff, decide_true, decide_false, ↓reduceIte, Bool.not_true, Bool.not_false, Bool.false_eq_true, reduceCtorEq, sizeLine_eq, List.contains_cons, List.contains_nil, ofSb, String.reduceBEq, Bool.or_false, Bool.or_self, Bool.false_or, Bool.true_or, Bool.or_true, Bool.and_true, Bool.true_and, Bool.and_false, Bool.false_and, Bool.false_xor, Bool.true_xor, decide_eq_true_eq, at0, at1, at2, at3, Int.cast_ofNat_Int, Int.natCast_zero, Int.natCast_one, Int.reduceLT, Int.reduceLE, Int.reduceEq, Int.reduceAdd, Int.reduceSub, Int.reduceNeg, List.nil_append, List.cons_append, List.all_cons, List.all_nil, List.any_cons, List.any_nil, id_eq, divOk_lit, mulOk_r, mulOk_l, powOk_lit, atM1, atM, Nat.max_self, Nat.zero_le, Nat.reduceSub, dpF, xsubF, mk_Among, mk_Both, mk_Columns, mk_Columns_l, mk_Either, mk_First, mk_Joined, mk_Like, mk_Not, mk_Ordered, mk_Ordered_l, mk_Sums, mk_Sums_l, mk_Table, mk_Where, mk_Within]
theorem read_ok (n : Nat) : (∀ (t : Te) (M : DM), 3 * dT t + 4 ≤ n → oT t = true → call n .read_test [tT t] M = .ret (.new (vT t)) M) ∧ (∀ (q : Qu) (M : DM), 3 * dQ q + 4 ≤ n → oQ q = true → call n .read_question [tQ q] M = .ret (.new (vQ q)) M) := by
  induction n using Nat.strongRecOn with
  | ind n ih =>
    refine ⟨fun t M h ho => ?_, fun q M h ho => ?_⟩
    · have i1 := (ih (n - 1) (by omega)).1
      have i2 := (ih (n - 1) (by omega)).2
      cases t <;> simp only [dT] at h <;> simp only [oT, Bool.and_eq_true] at ho <;> (try obtain ⟨ho1, ho2⟩ := ho) <;> rw [c_read_test (by omega)] <;> simp (maxSteps := 2000000) (disch := first | omega | assumption) only [tT, vT, tpl, fb_read_test, fb_read_test_1, fb_read_test_2, fb_read_test_3, fb_read_test_4, fb_read_test_5, fb_read_test_6, fb_read_test_7, fb_read_test_8, refuse_ok, is_name_ok, is_bound_ok, i1, i2, ↓fxT, ↓fxS, ↓fxE, ↓fxM, fxV, fxD, fxN, fxL, ↓fxG, ↓fxC, fxP, fxI, ofS, String.reduceEq, List.length_cons, List.length_nil, Nat.reduceAdd, Nat.reduceEqDiff, Nat.reduceLT, Nat.reduceLeDiff, decide_true, decide_false, ↓reduceIte, Bool.not_true, Bool.not_false, Bool.false_eq_true, reduceCtorEq, sizeLine_eq, List.contains_cons, List.contains_nil, ofSb, String.reduceBEq, Bool.or_false, Bool.or_self, Bool.false_or, Bool.true_or, Bool.or_true, Bool.and_true, Bool.true_and, Bool.and_false, Bool.false_and, Bool.false_xor, Bool.true_xor, decide_eq_true_eq, at0, at1, at2, at3, Int.cast_ofNat_Int, Int.natCast_zero, Int.natCast_one, Int.reduceLT, Int.reduceLE, Int.reduceEq, Int.reduceAdd, Int.reduceSub, Int.reduceNeg, List.nil_append, List.cons_append, List.all_cons, List.all_nil, List.any_cons, List.any_nil, id_eq, divOk_lit, mulOk_r, mulOk_l, powOk_lit, atM1, atM, Nat.max_self, Nat.zero_le, Nat.reduceSub, dpF, xsubF, mk_Among, mk_Both, mk_Columns, mk_Columns_l, mk_Either, mk_First, mk_Joined, mk_Like, mk_Not, mk_Ordered, mk_Ordered_l, mk_Sums, mk_Sums_l, mk_Table, mk_Where, mk_Within]
    · have i1 := (ih (n - 1) (by omega)).1
      have i2 := (ih (n - 1) (by omega)).2
      have i3 := (ih (n - 1 - 1) (by omega)).2
      cases q <;> simp only [dQ] at h <;> simp only [oQ, Bool.and_eq_true, decide_eq_true_eq] at ho <;> (try obtain ⟨ho1, ho2⟩ := ho) <;> rw [c_read_question (by omega)] <;> simp (maxSteps := 2000000) (disch := first | omega | assumption) only [tQ, vQ, tpl, fb_read_question, fb_read_question_1, fb_read_question_2, fb_read_question_3, fb_read_question_4, fb_read_question_5, fb_read_question_6, c_read_named, fb_read_named, fb_read_named_1, fb_read_named_2, fb_read_named_3, fb_read_named_4, fb_read_named_5, refuse_ok, is_name_ok, is_number_ok, are_texts_ok, i1, i2, i3, ↓fxT, ↓fxS, ↓fxE, ↓fxM, fxV, fxD, fxN, fxL, ↓fxG, ↓fxC, fxP, fxI, ofS, String.reduceEq, List.length_cons, List.length_nil, Nat.reduceAdd, Nat.reduceEqDiff, Nat.reduceLT, Nat.reduceLeDiff, decide_true, decide_false, ↓reduceIte, Bool.not_true, Bool.not_false, Bool.false_eq_true, reduceCtorEq, sizeLine_eq, List.contains_cons, List.contains_nil, ofSb, String.reduceBEq, Bool.or_false, Bool.or_self, Bool.false_or, Bool.true_or, Bool.or_true, Bool.and_true, Bool.true_and, Bool.and_false, Bool.false_and, Bool.false_xor, Bool.true_xor, decide_eq_true_eq, at0, at1, at2, at3, Int.cast_ofNat_Int, Int.natCast_zero, Int.natCast_one, Int.reduceLT, Int.reduceLE, Int.reduceEq, Int.reduceAdd, Int.reduceSub, Int.reduceNeg, List.nil_append, List.cons_append, List.all_cons, List.all_nil, List.any_cons, List.any_nil, id_eq, divOk_lit, mulOk_r, mulOk_l, powOk_lit, atM1, atM, Nat.max_self, Nat.zero_le, Nat.reduceSub, dpF, xsubF, mk_Among, mk_Both, mk_Columns, mk_Columns_l, mk_Either, mk_First, mk_Joined, mk_Like, mk_Not, mk_Ordered, mk_Ordered_l, mk_Sums, mk_Sums_l, mk_Table, mk_Where, mk_Within]


open QU
/-- what is refused -/
def NQ (k : Nat) (d : D) : Prop := ∀ (n : Nat) (M : DM), k ≤ n → call n .read_question [d] M = .exc nq M
def NT (k : Nat) (d : D) : Prop := ∀ (n : Nat) (M : DM), k ≤ n → call n .read_test [d] M = .exc nq M
abbrev tb : D := tQ (.table "t")
def strangeL : List D := [.str "t", .int 7, .bl true, .non, .lst [.str "table", .str "t"], .tup [], tpl "table" [], tpl "tables" [.str "t"], tpl "table" [.int 7], tpl "table" [.str "t", .str "t"],
  tpl "where" [tb, tb], tpl "where" [tpl "within" [.str "a", .int 1, .int 2]], tpl "not" [tpl "like" [.str "a", .str "b"]],
  tpl "columns" [.lst [.str "a"], tb], tpl "columns" [.tup [.str "a", .int 7], tb], tpl "columns" [.str "a", tb],
  tpl "sums" [.tup [.str "a"], tb], tpl "sums" [.tup [], .non, tb], tpl "ordered" [.tup [], .str "t", .tup []],
  tpl "first" [.bl true, tb], tpl "first" [.str "1", tb], tpl "first" [.non, tb],
  tpl "joined" [tb], tpl "joined" [tb, .non], tpl "joined" [tb, .str "u", .str "v"],
  tpl "joined" [tb, tb, tb], tpl "ordered" [.tup [], tb, tb], tpl "sums" [.tup [], .str "a", tb, tb], tpl "first" [.int 1, tb, tb],
  tpl "columns" [.tup [], tb, tb], tpl "where" [tpl "like" [.str "a", .str "b"], tb, tb]]
theorem strange_ok {n : Nat} (h : 0 < n) {z : Int} {M : DM} : ∃ d, d ∈ strangeL ∧ call n .l_strange [.int z] M = .ret (.imm d) M := by
  obtain ⟨d, hd, e⟩ := atI_at (xs := strangeL) (i := z % 31) (Int.emod_nonneg _ (by decide)) (Int.emod_lt_of_pos _ (by decide))
  refine ⟨d, hd, ?_⟩
  simp only [strangeL, tb, tQ, tpl] at e
  simp (maxSteps := 2000000) (disch := first | omega | assumption) only [c_l_strange, fb_l_strange, fb_l_strange_1, fb_l_strange_2, fb_l_strange_3, fb_l_strange_4, fb_l_strange_5, fb_l_strange_6, fb_l_strange_7, fb_l_strange_8, fb_l_strange_9, fb_l_strange_10, List.cons_append, List.nil_append, e, ↓fxT, ↓fxS, ↓fxE, ↓fxM, fxV, fxD, fxN, fxL, ↓fxG, ↓fxC, fxP, fxI, ofS, String.reduceEq, List.length_cons, List.length_nil, Nat.reduceAdd, Nat.reduceEqDiff, Nat.reduceLT, Nat.reduceLeDiff, decide_true, decide_false, ↓reduceIte, Bool.not_true, Bool.not_false, Bool.false_eq_true, reduceCtorEq, sizeLine_eq, List.contains_cons, List.contains_nil, ofSb, String.reduceBEq, Bool.or_false, Bool.or_self, Bool.false_or, Bool.true_or, Bool.or_true, Bool.and_true, Bool.true_and, Bool.and_false, Bool.false_and, Bool.false_xor, Bool.true_xor, decide_eq_true_eq, at0, at1, at2, at3, Int.cast_ofNat_Int, Int.natCast_zero, Int.natCast_one, Int.reduceLT, Int.reduceLE, Int.reduceEq, Int.reduceAdd, Int.reduceSub, Int.reduceNeg, List.nil_append, List.cons_append, List.all_cons, List.all_nil, List.any_cons, List.any_nil, id_eq, divOk_lit, mulOk_r, mulOk_l, powOk_lit, atM1, atM, Nat.max_self, Nat.zero_le, Nat.reduceSub, dpF, xsubF, mk_Among, mk_Both, mk_Columns, mk_Columns_l, mk_Either, mk_First, mk_Joined, mk_Like, mk_Not, mk_Ordered, mk_Ordered_l, mk_Sums, mk_Sums_l, mk_Table, mk_Where, mk_Within]
abbrev lk : D := tpl "like" [.str "a", .str "b"]
def noTestL : List D := [.str "a", .int 7, .non, .tup [], tpl "within" [.str "a", .int 1], tpl "within" [.str "a", .int 1, .bl true], tpl "within" [.int 7, .int 1, .int 2],
  tpl "within" [.str "a", .str "1", .non], tpl "like" [.str "a"], tpl "like" [.str "a", .non], tpl "both" [lk], tpl "not" [],
  tpl "either" [lk, .int 7], tpl "not" [.str "a"], tpl "among" [.str "a"], tpl "among" [.str "a", .str "t"],
  tpl "among" [.non, tb], .lst [.str "like", .str "a", .str "b"], tpl "within" [.str "a", .int 1, .int 2, .int 3],
  tpl "like" [.str "a", .str "b", .str "c"], tpl "nor" [lk], tb, tpl "not" [lk, lk], tpl "both" [lk, lk, lk], tpl "among" [.str "a", tb, .int 7]]
theorem no_test_ok {n : Nat} (h : 0 < n) {z : Int} {M : DM} : ∃ d, d ∈ noTestL ∧ call n .l_no_test [.int z] M = .ret (.imm d) M := by
  obtain ⟨d, hd, e⟩ := atI_at (xs := noTestL) (i := z % 25) (Int.emod_nonneg _ (by decide)) (Int.emod_lt_of_pos _ (by decide))
  refine ⟨d, hd, ?_⟩
  simp only [noTestL, lk, tb, tQ, tpl] at e
  simp (maxSteps := 2000000) (disch := first | omega | assumption) only [c_l_no_test, fb_l_no_test, fb_l_no_test_1, fb_l_no_test_2, fb_l_no_test_3, fb_l_no_test_4, fb_l_no_test_5, fb_l_no_test_6, fb_l_no_test_7, List.cons_append, List.nil_append, e, ↓fxT, ↓fxS, ↓fxE, ↓fxM, fxV, fxD, fxN, fxL, ↓fxG, ↓fxC, fxP, fxI, ofS, String.reduceEq, List.length_cons, List.length_nil, Nat.reduceAdd, Nat.reduceEqDiff, Nat.reduceLT, Nat.reduceLeDiff, decide_true, decide_false, ↓reduceIte, Bool.not_true, Bool.not_false, Bool.false_eq_true, reduceCtorEq, sizeLine_eq, List.contains_cons, List.contains_nil, ofSb, String.reduceBEq, Bool.or_false, Bool.or_self, Bool.false_or, Bool.true_or, Bool.or_true, Bool.and_true, Bool.true_and, Bool.and_false, Bool.false_and, Bool.false_xor, Bool.true_xor, decide_eq_true_eq, at0, at1, at2, at3, Int.cast_ofNat_Int, Int.natCast_zero, Int.natCast_one, Int.reduceLT, Int.reduceLE, Int.reduceEq, Int.reduceAdd, Int.reduceSub, Int.reduceNeg, List.nil_append, List.cons_append, List.all_cons, List.all_nil, List.any_cons, List.any_nil, id_eq, divOk_lit, mulOk_r, mulOk_l, powOk_lit, atM1, atM, Nat.max_self, Nat.zero_le, Nat.reduceSub, dpF, xsubF, mk_Among, mk_Both, mk_Columns, mk_Columns_l, mk_Either, mk_First, mk_Joined, mk_Like, mk_Not, mk_Ordered, mk_Ordered_l, mk_Sums, mk_Sums_l, mk_Table, mk_Where, mk_Within]
theorem strange_nq : ∀ d ∈ strangeL, NQ 9 d := by
  intro d hd n M h
  simp only [strangeL, tb, tQ, tpl, List.mem_cons, List.not_mem_nil, or_false] at hd
  rcases hd with rfl | rfl | rfl | rfl | rfl | rfl | rfl | rfl | rfl | rfl | rfl | rfl | rfl | rfl | rfl | rfl | rfl | rfl | rfl | rfl | rfl | rfl | rfl | rfl | rfl | rfl | rfl | rfl | rfl | rfl | rfl <;> simp (maxSteps := 2000000) (disch := first | omega | assumption) only [c_read_question, fb_read_question, fb_read_question_1, fb_read_question_2, fb_read_question_3, fb_read_question_4, fb_read_question_5, fb_read_question_6, c_read_named, fb_read_named, fb_read_named_1, fb_read_named_2, fb_read_named_3, fb_read_named_4, fb_read_named_5, c_read_test, fb_read_test, fb_read_test_1, fb_read_test_2, fb_read_test_3, fb_read_test_4, fb_read_test_5, fb_read_test_6, fb_read_test_7, fb_read_test_8, c_is_name, fb_is_name, c_is_bound, fb_is_bound, c_is_number, fb_is_number, c_are_texts, fb_are_texts, refuse_ok, refuse_no, cmpF, bls, ↓fxT, ↓fxS, ↓fxE, ↓fxM, fxV, fxD, fxN, fxL, ↓fxG, ↓fxC, fxP, fxI, ofS, String.reduceEq, List.length_cons, List.length_nil, Nat.reduceAdd, Nat.reduceEqDiff, Nat.reduceLT, Nat.reduceLeDiff, decide_true, decide_false, ↓reduceIte, Bool.not_true, Bool.not_false, Bool.false_eq_true, reduceCtorEq, sizeLine_eq, List.contains_cons, List.contains_nil, ofSb, String.reduceBEq, Bool.or_false, Bool.or_self, Bool.false_or, Bool.true_or, Bool.or_true, Bool.and_true, Bool.true_and, Bool.and_false, Bool.false_and, Bool.false_xor, Bool.true_xor, decide_eq_true_eq, at0, at1, at2, at3, Int.cast_ofNat_Int, Int.natCast_zero, Int.natCast_one, Int.reduceLT, Int.reduceLE, Int.reduceEq, Int.reduceAdd, Int.reduceSub, Int.reduceNeg, List.nil_append, List.cons_append, List.all_cons, List.all_nil, List.any_cons, List.any_nil, id_eq, divOk_lit, mulOk_r, mulOk_l, powOk_lit, atM1, atM, Nat.max_self, Nat.zero_le, Nat.reduceSub, dpF, xsubF, mk_Among, mk_Both, mk_Columns, mk_Columns_l, mk_Either, mk_First, mk_Joined, mk_Like, mk_Not, mk_Ordered, mk_Ordered_l, mk_Sums, mk_Sums_l, mk_Table, mk_Where, mk_Within]
theorem no_test_nt : ∀ d ∈ noTestL, NT 9 d := by
  intro d hd n M h
  simp only [noTestL, lk, tb, tQ, tpl, List.mem_cons, List.not_mem_nil, or_false] at hd
  rcases hd with rfl | rfl | rfl | rfl | rfl | rfl | rfl | rfl | rfl | rfl | rfl | rfl | rfl | rfl | rfl | rfl | rfl | rfl | rfl | rfl | rfl | rfl | rfl | rfl | rfl <;> simp (maxSteps := 2000000) (disch := first | omega | assumption) only [c_read_question, fb_read_question, fb_read_question_1, fb_read_question_2, fb_read_question_3, fb_read_question_4, fb_read_question_5, fb_read_question_6, c_read_named, fb_read_named, fb_read_named_1, fb_read_named_2, fb_read_named_3, fb_read_named_4, fb_read_named_5, c_read_test, fb_read_test, fb_read_test_1, fb_read_test_2, fb_read_test_3, fb_read_test_4, fb_read_test_5, fb_read_test_6, fb_read_test_7, fb_read_test_8, c_is_name, fb_is_name, c_is_bound, fb_is_bound, c_is_number, fb_is_number, c_are_texts, fb_are_texts, refuse_ok, refuse_no, cmpF, bls, ↓fxT, ↓fxS, ↓fxE, ↓fxM, fxV, fxD, fxN, fxL, ↓fxG, ↓fxC, fxP, fxI, ofS, String.reduceEq, List.length_cons, List.length_nil, Nat.reduceAdd, Nat.reduceEqDiff, Nat.reduceLT, Nat.reduceLeDiff, decide_true, decide_false, ↓reduceIte, Bool.not_true, Bool.not_false, Bool.false_eq_true, reduceCtorEq, sizeLine_eq, List.contains_cons, List.contains_nil, ofSb, String.reduceBEq, Bool.or_false, Bool.or_self, Bool.false_or, Bool.true_or, Bool.or_true, Bool.and_true, Bool.true_and, Bool.and_false, Bool.false_and, Bool.false_xor, Bool.true_xor, decide_eq_true_eq, at0, at1, at2, at3, Int.cast_ofNat_Int, Int.natCast_zero, Int.natCast_one, Int.reduceLT, Int.reduceLE, Int.reduceEq, Int.reduceAdd, Int.reduceSub, Int.reduceNeg, List.nil_append, List.cons_append, List.all_cons, List.all_nil, List.any_cons, List.any_nil, id_eq, divOk_lit, mulOk_r, mulOk_l, powOk_lit, atM1, atM, Nat.max_self, Nat.zero_le, Nat.reduceSub, dpF, xsubF, mk_Among, mk_Both, mk_Columns, mk_Columns_l, mk_Either, mk_First, mk_Joined, mk_Like, mk_Not, mk_Ordered, mk_Ordered_l, mk_Sums, mk_Sums_l, mk_Table, mk_Where, mk_Within]

theorem nq_join1 {k : Nat} {x y : D} (hx : NQ k x) : NQ (k + 3) (tpl "joined" [x, y]) := by
  intro n M h
  have h1 := fun M => hx (n - 1) M (by omega)
  rw [c_read_question (by omega)]
  simp (maxSteps := 2000000) (disch := first | omega | assumption) only [tpl, fb_read_question, fb_read_question_1, fb_read_question_2, fb_read_question_3, fb_read_question_4, fb_read_question_5, fb_read_question_6, c_read_named, fb_read_named, fb_read_named_1, fb_read_named_2, fb_read_named_3, fb_read_named_4, fb_read_named_5, refuse_ok, h1, ↓fxT, ↓fxS, ↓fxE, ↓fxM, fxV, fxD, fxN, fxL, ↓fxG, ↓fxC, fxP, fxI, ofS, String.reduceEq, List.length_cons, List.length_nil, Nat.reduceAdd, Nat.reduceEqDiff, Nat.reduceLT, Nat.reduceLeDiff, decide_true, decide_false, ↓reduceIte, Bool.not_true, Bool.not_false, Bool.false_eq_true, reduceCtorEq, sizeLine_eq, List.contains_cons, List.contains_nil, ofSb, String.reduceBEq, Bool.or_false, Bool.or_self, Bool.false_or, Bool.true_or, Bool.or_true, Bool.and_true, Bool.true_and, Bool.and_false, Bool.false_and, Bool.false_xor, Bool.true_xor, decide_eq_true_eq, at0, at1, at2, at3, Int.cast_ofNat_Int, Int.natCast_zero, Int.natCast_one, Int.reduceLT, Int.reduceLE, Int.reduceEq, Int.reduceAdd, Int.reduceSub, Int.reduceNeg, List.nil_append, List.cons_append, List.all_cons, List.all_nil, List.any_cons, List.any_nil, id_eq, divOk_lit, mulOk_r, mulOk_l, powOk_lit, atM1, atM, Nat.max_self, Nat.zero_le, Nat.reduceSub, dpF, xsubF, mk_Among, mk_Both, mk_Columns, mk_Columns_l, mk_Either, mk_First, mk_Joined, mk_Like, mk_Not, mk_Ordered, mk_Ordered_l, mk_Sums, mk_Sums_l, mk_Table, mk_Where, mk_Within]
theorem nq_join2 {k : Nat} {y : D} {q : Qu} (hx : NQ k y) (hq : oQ q = true) (hk : 3 * dQ q + 4 ≤ k) : NQ (k + 3) (tpl "joined" [tQ q, y]) := by
  intro n M h
  have h1 := fun M => hx (n - 1) M (by omega)
  have h2 := fun M => (read_ok (n - 1)).2 q M (by omega) hq
  rw [c_read_question (by omega)]
  simp (maxSteps := 2000000) (disch := first | omega | assumption) only [tpl, fb_read_question, fb_read_question_1, fb_read_question_2, fb_read_question_3, fb_read_question_4, fb_read_question_5, fb_read_question_6, c_read_named, fb_read_named, fb_read_named_1, fb_read_named_2, fb_read_named_3, fb_read_named_4, fb_read_named_5, refuse_ok, h1, h2, ↓fxT, ↓fxS, ↓fxE, ↓fxM, fxV, fxD, fxN, fxL, ↓fxG, ↓fxC, fxP, fxI, ofS, String.reduceEq, List.length_cons, List.length_nil, Nat.reduceAdd, Nat.reduceEqDiff, Nat.reduceLT, Nat.reduceLeDiff, decide_true, decide_false, ↓reduceIte, Bool.not_true, Bool.not_false, Bool.false_eq_true, reduceCtorEq, sizeLine_eq, List.contains_cons, List.contains_nil, ofSb, String.reduceBEq, Bool.or_false, Bool.or_self, Bool.false_or, Bool.true_or, Bool.or_true, Bool.and_true, Bool.true_and, Bool.and_false, Bool.false_and, Bool.false_xor, Bool.true_xor, decide_eq_true_eq, at0, at1, at2, at3, Int.cast_ofNat_Int, Int.natCast_zero, Int.natCast_one, Int.reduceLT, Int.reduceLE, Int.reduceEq, Int.reduceAdd, Int.reduceSub, Int.reduceNeg, List.nil_append, List.cons_append, List.all_cons, List.all_nil, List.any_cons, List.any_nil, id_eq, divOk_lit, mulOk_r, mulOk_l, powOk_lit, atM1, atM, Nat.max_self, Nat.zero_le, Nat.reduceSub, dpF, xsubF, mk_Among, mk_Both, mk_Columns, mk_Columns_l, mk_Either, mk_First, mk_Joined, mk_Like, mk_Not, mk_Ordered, mk_Ordered_l, mk_Sums, mk_Sums_l, mk_Table, mk_Where, mk_Within]
theorem nq_where {k : Nat} {y : D} {t : Te} (hx : NQ k y) (hq : oT t = true) (hk : 3 * dT t + 4 ≤ k) : NQ (k + 3) (tpl "where" [tT t, y]) := by
  intro n M h
  have h1 := fun M => hx (n - 1) M (by omega)
  have h2 := fun M => (read_ok (n - 1)).1 t M (by omega) hq
  rw [c_read_question (by omega)]
  simp (maxSteps := 2000000) (disch := first | omega | assumption) only [tpl, fb_read_question, fb_read_question_1, fb_read_question_2, fb_read_question_3, fb_read_question_4, fb_read_question_5, fb_read_question_6, c_read_named, fb_read_named, fb_read_named_1, fb_read_named_2, fb_read_named_3, fb_read_named_4, fb_read_named_5, refuse_ok, h1, h2, ↓fxT, ↓fxS, ↓fxE, ↓fxM, fxV, fxD, fxN, fxL, ↓fxG, ↓fxC, fxP, fxI, ofS, String.reduceEq, List.length_cons, List.length_nil, Nat.reduceAdd, Nat.reduceEqDiff, Nat.reduceLT, Nat.reduceLeDiff, decide_true, decide_false, ↓reduceIte, Bool.not_true, Bool.not_false, Bool.false_eq_true, reduceCtorEq, sizeLine_eq, List.contains_cons, List.contains_nil, ofSb, String.reduceBEq, Bool.or_false, Bool.or_self, Bool.false_or, Bool.true_or, Bool.or_true, Bool.and_true, Bool.true_and, Bool.and_false, Bool.false_and, Bool.false_xor, Bool.true_xor, decide_eq_true_eq, at0, at1, at2, at3, Int.cast_ofNat_Int, Int.natCast_zero, Int.natCast_one, Int.reduceLT, Int.reduceLE, Int.reduceEq, Int.reduceAdd, Int.reduceSub, Int.reduceNeg, List.nil_append, List.cons_append, List.all_cons, List.all_nil, List.any_cons, List.any_nil, id_eq, divOk_lit, mulOk_r, mulOk_l, powOk_lit, atM1, atM, Nat.max_self, Nat.zero_le, Nat.reduceSub, dpF, xsubF, mk_Among, mk_Both, mk_Columns, mk_Columns_l, mk_Either, mk_First, mk_Joined, mk_Like, mk_Not, mk_Ordered, mk_Ordered_l, mk_Sums, mk_Sums_l, mk_Table, mk_Where, mk_Within]
theorem nq_whereT {k : Nat} {x y : D} (hx : NT k x) : NQ (k + 3) (tpl "where" [x, y]) := by
  intro n M h
  have h1 := fun M => hx (n - 1) M (by omega)
  rw [c_read_question (by omega)]
  simp (maxSteps := 2000000) (disch := first | omega | assumption) only [tpl, fb_read_question, fb_read_question_1, fb_read_question_2, fb_read_question_3, fb_read_question_4, fb_read_question_5, fb_read_question_6, c_read_named, fb_read_named, fb_read_named_1, fb_read_named_2, fb_read_named_3, fb_read_named_4, fb_read_named_5, refuse_ok, h1, ↓fxT, ↓fxS, ↓fxE, ↓fxM, fxV, fxD, fxN, fxL, ↓fxG, ↓fxC, fxP, fxI, ofS, String.reduceEq, List.length_cons, List.length_nil, Nat.reduceAdd, Nat.reduceEqDiff, Nat.reduceLT, Nat.reduceLeDiff, decide_true, decide_false, ↓reduceIte, Bool.not_true, Bool.not_false, Bool.false_eq_true, reduceCtorEq, sizeLine_eq, List.contains_cons, List.contains_nil, ofSb, String.reduceBEq, Bool.or_false, Bool.or_self, Bool.false_or, Bool.true_or, Bool.or_true, Bool.and_true, Bool.true_and, Bool.and_false, Bool.false_and, Bool.false_xor, Bool.true_xor, decide_eq_true_eq, at0, at1, at2, at3, Int.cast_ofNat_Int, Int.natCast_zero, Int.natCast_one, Int.reduceLT, Int.reduceLE, Int.reduceEq, Int.reduceAdd, Int.reduceSub, Int.reduceNeg, List.nil_append, List.cons_append, List.all_cons, List.all_nil, List.any_cons, List.any_nil, id_eq, divOk_lit, mulOk_r, mulOk_l, powOk_lit, atM1, atM, Nat.max_self, Nat.zero_le, Nat.reduceSub, dpF, xsubF, mk_Among, mk_Both, mk_Columns, mk_Columns_l, mk_Either, mk_First, mk_Joined, mk_Like, mk_Not, mk_Ordered, mk_Ordered_l, mk_Sums, mk_Sums_l, mk_Table, mk_Where, mk_Within]
theorem nq_cols {k : Nat} {y : D} {ns : List Str} (hx : NQ k y) (hl : ns.length ≤ 1000) : NQ (k + 6) (tpl "columns" [nms ns, y]) := by
  intro n M h
  have h1 := fun M => hx (n - 1 - 1) M (by omega)
  rw [c_read_question (by omega)]
  simp (maxSteps := 2000000) (disch := first | omega | assumption) only [tpl, fb_read_question, fb_read_question_1, fb_read_question_2, fb_read_question_3, fb_read_question_4, fb_read_question_5, fb_read_question_6, c_read_named, fb_read_named, fb_read_named_1, fb_read_named_2, fb_read_named_3, fb_read_named_4, fb_read_named_5, refuse_ok, are_texts_ok, h1, ↓fxT, ↓fxS, ↓fxE, ↓fxM, fxV, fxD, fxN, fxL, ↓fxG, ↓fxC, fxP, fxI, ofS, String.reduceEq, List.length_cons, List.length_nil, Nat.reduceAdd, Nat.reduceEqDiff, Nat.reduceLT, Nat.reduceLeDiff, decide_true, decide_false, ↓reduceIte, Bool.not_true, Bool.not_false, Bool.false_eq_true, reduceCtorEq, sizeLine_eq, List.contains_cons, List.contains_nil, ofSb, String.reduceBEq, Bool.or_false, Bool.or_self, Bool.false_or, Bool.true_or, Bool.or_true, Bool.and_true, Bool.true_and, Bool.and_false, Bool.false_and, Bool.false_xor, Bool.true_xor, decide_eq_true_eq, at0, at1, at2, at3, Int.cast_ofNat_Int, Int.natCast_zero, Int.natCast_one, Int.reduceLT, Int.reduceLE, Int.reduceEq, Int.reduceAdd, Int.reduceSub, Int.reduceNeg, List.nil_append, List.cons_append, List.all_cons, List.all_nil, List.any_cons, List.any_nil, id_eq, divOk_lit, mulOk_r, mulOk_l, powOk_lit, atM1, atM, Nat.max_self, Nat.zero_le, Nat.reduceSub, dpF, xsubF, mk_Among, mk_Both, mk_Columns, mk_Columns_l, mk_Either, mk_First, mk_Joined, mk_Like, mk_Not, mk_Ordered, mk_Ordered_l, mk_Sums, mk_Sums_l, mk_Table, mk_Where, mk_Within]
theorem nq_ord {k : Nat} {y : D} {ns : List Str} (hx : NQ k y) (hl : ns.length ≤ 1000) : NQ (k + 6) (tpl "ordered" [nms ns, y]) := by
  intro n M h
  have h1 := fun M => hx (n - 1 - 1) M (by omega)
  rw [c_read_question (by omega)]
  simp (maxSteps := 2000000) (disch := first | omega | assumption) only [tpl, fb_read_question, fb_read_question_1, fb_read_question_2, fb_read_question_3, fb_read_question_4, fb_read_question_5, fb_read_question_6, c_read_named, fb_read_named, fb_read_named_1, fb_read_named_2, fb_read_named_3, fb_read_named_4, fb_read_named_5, refuse_ok, are_texts_ok, h1, ↓fxT, ↓fxS, ↓fxE, ↓fxM, fxV, fxD, fxN, fxL, ↓fxG, ↓fxC, fxP, fxI, ofS, String.reduceEq, List.length_cons, List.length_nil, Nat.reduceAdd, Nat.reduceEqDiff, Nat.reduceLT, Nat.reduceLeDiff, decide_true, decide_false, ↓reduceIte, Bool.not_true, Bool.not_false, Bool.false_eq_true, reduceCtorEq, sizeLine_eq, List.contains_cons, List.contains_nil, ofSb, String.reduceBEq, Bool.or_false, Bool.or_self, Bool.false_or, Bool.true_or, Bool.or_true, Bool.and_true, Bool.true_and, Bool.and_false, Bool.false_and, Bool.false_xor, Bool.true_xor, decide_eq_true_eq, at0, at1, at2, at3, Int.cast_ofNat_Int, Int.natCast_zero, Int.natCast_one, Int.reduceLT, Int.reduceLE, Int.reduceEq, Int.reduceAdd, Int.reduceSub, Int.reduceNeg, List.nil_append, List.cons_append, List.all_cons, List.all_nil, List.any_cons, List.any_nil, id_eq, divOk_lit, mulOk_r, mulOk_l, powOk_lit, atM1, atM, Nat.max_self, Nat.zero_le, Nat.reduceSub, dpF, xsubF, mk_Among, mk_Both, mk_Columns, mk_Columns_l, mk_Either, mk_First, mk_Joined, mk_Like, mk_Not, mk_Ordered, mk_Ordered_l, mk_Sums, mk_Sums_l, mk_Table, mk_Where, mk_Within]
theorem nq_sums {k : Nat} {y : D} {ns : List Str} {c : Str} (hx : NQ k y) (hl : ns.length ≤ 1000) : NQ (k + 6) (tpl "sums" [nms ns, .str c, y]) := by
  intro n M h
  have h1 := fun M => hx (n - 1 - 1) M (by omega)
  rw [c_read_question (by omega)]
  simp (maxSteps := 2000000) (disch := first | omega | assumption) only [tpl, fb_read_question, fb_read_question_1, fb_read_question_2, fb_read_question_3, fb_read_question_4, fb_read_question_5, fb_read_question_6, c_read_named, fb_read_named, fb_read_named_1, fb_read_named_2, fb_read_named_3, fb_read_named_4, fb_read_named_5, refuse_ok, are_texts_ok, is_name_ok, h1, ↓fxT, ↓fxS, ↓fxE, ↓fxM, fxV, fxD, fxN, fxL, ↓fxG, ↓fxC, fxP, fxI, ofS, String.reduceEq, List.length_cons, List.length_nil, Nat.reduceAdd, Nat.reduceEqDiff, Nat.reduceLT, Nat.reduceLeDiff, decide_true, decide_false, ↓reduceIte, Bool.not_true, Bool.not_false, Bool.false_eq_true, reduceCtorEq, sizeLine_eq, List.contains_cons, List.contains_nil, ofSb, String.reduceBEq, Bool.or_false, Bool.or_self, Bool.false_or, Bool.true_or, Bool.or_true, Bool.and_true, Bool.true_and, Bool.and_false, Bool.false_and, Bool.false_xor, Bool.true_xor, decide_eq_true_eq, at0, at1, at2, at3, Int.cast_ofNat_Int, Int.natCast_zero, Int.natCast_one, Int.reduceLT, Int.reduceLE, Int.reduceEq, Int.reduceAdd, Int.reduceSub, Int.reduceNeg, List.nil_append, List.cons_append, List.all_cons, List.all_nil, List.any_cons, List.any_nil, id_eq, divOk_lit, mulOk_r, mulOk_l, powOk_lit, atM1, atM, Nat.max_self, Nat.zero_le, Nat.reduceSub, dpF, xsubF, mk_Among, mk_Both, mk_Columns, mk_Columns_l, mk_Either, mk_First, mk_Joined, mk_Like, mk_Not, mk_Ordered, mk_Ordered_l, mk_Sums, mk_Sums_l, mk_Table, mk_Where, mk_Within]
theorem nq_first {k : Nat} {y : D} {l : Int} (hx : NQ k y) : NQ (k + 3) (tpl "first" [.int l, y]) := by
  intro n M h
  have h1 := fun M => hx (n - 1) M (by omega)
  rw [c_read_question (by omega)]
  simp (maxSteps := 2000000) (disch := first | omega | assumption) only [tpl, fb_read_question, fb_read_question_1, fb_read_question_2, fb_read_question_3, fb_read_question_4, fb_read_question_5, fb_read_question_6, c_read_named, fb_read_named, fb_read_named_1, fb_read_named_2, fb_read_named_3, fb_read_named_4, fb_read_named_5, refuse_ok, is_number_ok, h1, ↓fxT, ↓fxS, ↓fxE, ↓fxM, fxV, fxD, fxN, fxL, ↓fxG, ↓fxC, fxP, fxI, ofS, String.reduceEq, List.length_cons, List.length_nil, Nat.reduceAdd, Nat.reduceEqDiff, Nat.reduceLT, Nat.reduceLeDiff, decide_true, decide_false, ↓reduceIte, Bool.not_true, Bool.not_false, Bool.false_eq_true, reduceCtorEq, sizeLine_eq, List.contains_cons, List.contains_nil, ofSb, String.reduceBEq, Bool.or_false, Bool.or_self, Bool.false_or, Bool.true_or, Bool.or_true, Bool.and_true, Bool.true_and, Bool.and_false, Bool.false_and, Bool.false_xor, Bool.true_xor, decide_eq_true_eq, at0, at1, at2, at3, Int.cast_ofNat_Int, Int.natCast_zero, Int.natCast_one, Int.reduceLT, Int.reduceLE, Int.reduceEq, Int.reduceAdd, Int.reduceSub, Int.reduceNeg, List.nil_append, List.cons_append, List.all_cons, List.all_nil, List.any_cons, List.any_nil, id_eq, divOk_lit, mulOk_r, mulOk_l, powOk_lit, atM1, atM, Nat.max_self, Nat.zero_le, Nat.reduceSub, dpF, xsubF, mk_Among, mk_Both, mk_Columns, mk_Columns_l, mk_Either, mk_First, mk_Joined, mk_Like, mk_Not, mk_Ordered, mk_Ordered_l, mk_Sums, mk_Sums_l, mk_Table, mk_Where, mk_Within]
theorem NQ.mono {k j : Nat} {d : D} (h : NQ k d) (hk : k ≤ j) : NQ j d := fun n M hn => h n M (by omega)
theorem nt_not {k : Nat} {x : D} (hx : NT k x) : NT (k + 3) (tpl "not" [x]) := by
  intro n M h
  have h1 := fun M => hx (n - 1) M (by omega)
  rw [c_read_test (by omega)]
  simp (maxSteps := 2000000) (disch := first | omega | assumption) only [tpl, fb_read_test, fb_read_test_1, fb_read_test_2, fb_read_test_3, fb_read_test_4, fb_read_test_5, fb_read_test_6, fb_read_test_7, fb_read_test_8, refuse_ok, h1, ↓fxT, ↓fxS, ↓fxE, ↓fxM, fxV, fxD, fxN, fxL, ↓fxG, ↓fxC, fxP, fxI, ofS, String.reduceEq, List.length_cons, List.length_nil, Nat.reduceAdd, Nat.reduceEqDiff, Nat.reduceLT, Nat.reduceLeDiff, decide_true, decide_false, ↓reduceIte, Bool.not_true, Bool.not_false, Bool.false_eq_true, reduceCtorEq, sizeLine_eq, List.contains_cons, List.contains_nil, ofSb, String.reduceBEq, Bool.or_false, Bool.or_self, Bool.false_or, Bool.true_or, Bool.or_true, Bool.and_true, Bool.true_and, Bool.and_false, Bool.false_and, Bool.false_xor, Bool.true_xor, decide_eq_true_eq, at0, at1, at2, at3, Int.cast_ofNat_Int, Int.natCast_zero, Int.natCast_one, Int.reduceLT, Int.reduceLE, Int.reduceEq, Int.reduceAdd, Int.reduceSub, Int.reduceNeg, List.nil_append, List.cons_append, List.all_cons, List.all_nil, List.any_cons, List.any_nil, id_eq, divOk_lit, mulOk_r, mulOk_l, powOk_lit, atM1, atM, Nat.max_self, Nat.zero_le, Nat.reduceSub, dpF, xsubF, mk_Among, mk_Both, mk_Columns, mk_Columns_l, mk_Either, mk_First, mk_Joined, mk_Like, mk_Not, mk_Ordered, mk_Ordered_l, mk_Sums, mk_Sums_l, mk_Table, mk_Where, mk_Within]
theorem nt_both {k : Nat} {x : D} (hx : NT k x) (hk : 4 ≤ k) : NT (k + 3) (tpl "both" [lk, x]) := by
  intro n M h
  have h1 := fun M => hx (n - 1) M (by omega)
  have h2 := fun M => (read_ok (n - 1)).1 (.like "a" "b") M (by simp only [dT]; omega) rfl
  simp only [tT] at h2
  rw [c_read_test (by omega)]
  simp (maxSteps := 2000000) (disch := first | omega | assumption) only [lk, tpl, fb_read_test, fb_read_test_1, fb_read_test_2, fb_read_test_3, fb_read_test_4, fb_read_test_5, fb_read_test_6, fb_read_test_7, fb_read_test_8, refuse_ok, h1, h2, ↓fxT, ↓fxS, ↓fxE, ↓fxM, fxV, fxD, fxN, fxL, ↓fxG, ↓fxC, fxP, fxI, ofS, String.reduceEq, List.length_cons, List.length_nil, Nat.reduceAdd, Nat.reduceEqDiff, Nat.reduceLT, Nat.reduceLeDiff, decide_true, decide_false, ↓reduceIte, Bool.not_true, Bool.not_false, Bool.false_eq_true, reduceCtorEq, sizeLine_eq, List.contains_cons, List.contains_nil, ofSb, String.reduceBEq, Bool.or_false, Bool.or_self, Bool.false_or, Bool.true_or, Bool.or_true, Bool.and_true, Bool.true_and, Bool.and_false, Bool.false_and, Bool.false_xor, Bool.true_xor, decide_eq_true_eq, at0, at1, at2, at3, Int.cast_ofNat_Int, Int.natCast_zero, Int.natCast_one, Int.reduceLT, Int.reduceLE, Int.reduceEq, Int.reduceAdd, Int.reduceSub, Int.reduceNeg, List.nil_append, List.cons_append, List.all_cons, List.all_nil, List.any_cons, List.any_nil, id_eq, divOk_lit, mulOk_r, mulOk_l, powOk_lit, atM1, atM, Nat.max_self, Nat.zero_le, Nat.reduceSub, dpF, xsubF, mk_Among, mk_Both, mk_Columns, mk_Columns_l, mk_Either, mk_First, mk_Joined, mk_Like, mk_Not, mk_Ordered, mk_Ordered_l, mk_Sums, mk_Sums_l, mk_Table, mk_Where, mk_Within]

open QU
/-- what is spoilt is refused -/
theorem spoilt_ok : ∀ (N : Nat) (q : Qu), dQ q < N → oQ q = true → ∀ (z : Int) (b0 : D), NQ 9 b0 → ∀ (n : Nat) (M : DM), dQ q + 1 ≤ n → ∃ d, call n .l_spoilt [tQ q, .int z, b0] M = .ret (.imm d) M ∧ NQ (6 * dQ q + 9) d
  | 0, q, h, _, _, _, _, _, _, _ => by omega
  | N + 1, q, h, ho, z, b0, hb, n, M, hn => by
    have ih := spoilt_ok N
    rw [c_l_spoilt (by omega)]
    by_cases hz : z % 3 = 0
    · refine ⟨b0, ?_, hb.mono (by omega)⟩
      cases q <;> simp (maxSteps := 2000000) (disch := first | omega | assumption) only [tQ, tpl, fb_l_spoilt, fb_l_spoilt_1, fb_l_spoilt_2, hz, ↓fxT, ↓fxS, ↓fxE, ↓fxM, fxV, fxD, fxN, fxL, ↓fxG, ↓fxC, fxP, fxI, ofS, String.reduceEq, List.length_cons, List.length_nil, Nat.reduceAdd, Nat.reduceEqDiff, Nat.reduceLT, Nat.reduceLeDiff, decide_true, decide_false, ↓reduceIte, Bool.not_true, Bool.not_false, Bool.false_eq_true, reduceCtorEq, sizeLine_eq, List.contains_cons, List.contains_nil, ofSb, String.reduceBEq, Bool.or_false, Bool.or_self, Bool.false_or, Bool.true_or, Bool.or_true, Bool.and_true, Bool.true_and, Bool.and_false, Bool.false_and, Bool.false_xor, Bool.true_xor, decide_eq_true_eq, at0, at1, at2, at3, Int.cast_ofNat_Int, Int.natCast_zero, Int.natCast_one, Int.reduceLT, Int.reduceLE, Int.reduceEq, Int.reduceAdd, Int.reduceSub, Int.reduceNeg, List.nil_append, List.cons_append, List.all_cons, List.all_nil, List.any_cons, List.any_nil, id_eq, divOk_lit, mulOk_r, mulOk_l, powOk_lit, atM1, atM, Nat.max_self, Nat.zero_le, Nat.reduceSub, dpF, xsubF, mk_Among, mk_Both, mk_Columns, mk_Columns_l, mk_Either, mk_First, mk_Joined, mk_Like, mk_Not, mk_Ordered, mk_Ordered_l, mk_Sums, mk_Sums_l, mk_Table, mk_Where, mk_Within]
    cases q with
    | table x =>
      refine ⟨b0, ?_, hb.mono (by omega)⟩
      simp (maxSteps := 2000000) (disch := first | omega | assumption) only [tQ, tpl, fb_l_spoilt, fb_l_spoilt_1, fb_l_spoilt_2, hz, ↓fxT, ↓fxS, ↓fxE, ↓fxM, fxV, fxD, fxN, fxL, ↓fxG, ↓fxC, fxP, fxI, ofS, String.reduceEq, List.length_cons, List.length_nil, Nat.reduceAdd, Nat.reduceEqDiff, Nat.reduceLT, Nat.reduceLeDiff, decide_true, decide_false, ↓reduceIte, Bool.not_true, Bool.not_false, Bool.false_eq_true, reduceCtorEq, sizeLine_eq, List.contains_cons, List.contains_nil, ofSb, String.reduceBEq, Bool.or_false, Bool.or_self, Bool.false_or, Bool.true_or, Bool.or_true, Bool.and_true, Bool.true_and, Bool.and_false, Bool.false_and, Bool.false_xor, Bool.true_xor, decide_eq_true_eq, at0, at1, at2, at3, Int.cast_ofNat_Int, Int.natCast_zero, Int.natCast_one, Int.reduceLT, Int.reduceLE, Int.reduceEq, Int.reduceAdd, Int.reduceSub, Int.reduceNeg, List.nil_append, List.cons_append, List.all_cons, List.all_nil, List.any_cons, List.any_nil, id_eq, divOk_lit, mulOk_r, mulOk_l, powOk_lit, atM1, atM, Nat.max_self, Nat.zero_le, Nat.reduceSub, dpF, xsubF, mk_Among, mk_Both, mk_Columns, mk_Columns_l, mk_Either, mk_First, mk_Joined, mk_Like, mk_Not, mk_Ordered, mk_Ordered_l, mk_Sums, mk_Sums_l, mk_Table, mk_Where, mk_Within]
    | join a b =>
      simp only [dQ] at h hn ⊢
      simp only [oQ, Bool.and_eq_true] at ho
      obtain ⟨ho1, ho2⟩ := ho
      by_cases hy : z / 3 % 2 = 0
      · obtain ⟨d, e, hd⟩ := ih a (by omega) ho1 (z / 6) b0 hb (n - 1) M (by omega)
        refine ⟨tpl "joined" [d, tQ b], ?_, (nq_join1 hd).mono (by omega)⟩
        simp (maxSteps := 2000000) (disch := first | omega | assumption) only [tQ, tpl, fb_l_spoilt, fb_l_spoilt_1, fb_l_spoilt_2, hz, hy, e, ↓fxT, ↓fxS, ↓fxE, ↓fxM, fxV, fxD, fxN, fxL, ↓fxG, ↓fxC, fxP, fxI, ofS, String.reduceEq, List.length_cons, List.length_nil, Nat.reduceAdd, Nat.reduceEqDiff, Nat.reduceLT, Nat.reduceLeDiff, decide_true, decide_false, ↓reduceIte, Bool.not_true, Bool.not_false, Bool.false_eq_true, reduceCtorEq, sizeLine_eq, List.contains_cons, List.contains_nil, ofSb, String.reduceBEq, Bool.or_false, Bool.or_self, Bool.false_or, Bool.true_or, Bool.or_true, Bool.and_true, Bool.true_and, Bool.and_false, Bool.false_and, Bool.false_xor, Bool.true_xor, decide_eq_true_eq, at0, at1, at2, at3, Int.cast_ofNat_Int, Int.natCast_zero, Int.natCast_one, Int.reduceLT, Int.reduceLE, Int.reduceEq, Int.reduceAdd, Int.reduceSub, Int.reduceNeg, List.nil_append, List.cons_append, List.all_cons, List.all_nil, List.any_cons, List.any_nil, id_eq, divOk_lit, mulOk_r, mulOk_l, powOk_lit, atM1, atM, Nat.max_self, Nat.zero_le, Nat.reduceSub, dpF, xsubF, mk_Among, mk_Both, mk_Columns, mk_Columns_l, mk_Either, mk_First, mk_Joined, mk_Like, mk_Not, mk_Ordered, mk_Ordered_l, mk_Sums, mk_Sums_l, mk_Table, mk_Where, mk_Within]
      · obtain ⟨d, e, hd⟩ := ih b (by omega) ho2 (z / 6) b0 hb (n - 1) M (by omega)
        refine ⟨tpl "joined" [tQ a, d], ?_, (nq_join2 (hd.mono (j := max (6 * dQ b + 9) (3 * dQ a + 4)) (by omega)) ho1 (by omega)).mono (by omega)⟩
        simp (maxSteps := 2000000) (disch := first | omega | assumption) only [tQ, tpl, fb_l_spoilt, fb_l_spoilt_1, fb_l_spoilt_2, hz, hy, e, ↓fxT, ↓fxS, ↓fxE, ↓fxM, fxV, fxD, fxN, fxL, ↓fxG, ↓fxC, fxP, fxI, ofS, String.reduceEq, List.length_cons, List.length_nil, Nat.reduceAdd, Nat.reduceEqDiff, Nat.reduceLT, Nat.reduceLeDiff, decide_true, decide_false, ↓reduceIte, Bool.not_true, Bool.not_false, Bool.false_eq_true, reduceCtorEq, sizeLine_eq, List.contains_cons, List.contains_nil, ofSb, String.reduceBEq, Bool.or_false, Bool.or_self, Bool.false_or, Bool.true_or, Bool.or_true, Bool.and_true, Bool.true_and, Bool.and_false, Bool.false_and, Bool.false_xor, Bool.true_xor, decide_eq_true_eq, at0, at1, at2, at3, Int.cast_ofNat_Int, Int.natCast_zero, Int.natCast_one, Int.reduceLT, Int.reduceLE, Int.reduceEq, Int.reduceAdd, Int.reduceSub, Int.reduceNeg, List.nil_append, List.cons_append, List.all_cons, List.all_nil, List.any_cons, List.any_nil, id_eq, divOk_lit, mulOk_r, mulOk_l, powOk_lit, atM1, atM, Nat.max_self, Nat.zero_le, Nat.reduceSub, dpF, xsubF, mk_Among, mk_Both, mk_Columns, mk_Columns_l, mk_Either, mk_First, mk_Joined, mk_Like, mk_Not, mk_Ordered, mk_Ordered_l, mk_Sums, mk_Sums_l, mk_Table, mk_Where, mk_Within]
    | whr t a =>
      simp only [dQ] at h hn ⊢
      simp only [oQ, Bool.and_eq_true, decide_eq_true_eq] at ho
      obtain ⟨d, e, hd⟩ := ih a (by omega) ho.2 (z / 3) b0 hb (n - 1) M (by omega)
      refine ⟨tpl "where" [tT t, d], ?_, (nq_where (hd.mono (j := max (6 * dQ a + 9) (3 * dT t + 4)) (by omega)) ho.1 (by omega)).mono (by omega)⟩
      simp (maxSteps := 2000000) (disch := first | omega | assumption) only [tQ, tpl, fb_l_spoilt, fb_l_spoilt_1, fb_l_spoilt_2, hz, cut_init, List.dropLast, e, ↓fxT, ↓fxS, ↓fxE, ↓fxM, fxV, fxD, fxN, fxL, ↓fxG, ↓fxC, fxP, fxI, ofS, String.reduceEq, List.length_cons, List.length_nil, Nat.reduceAdd, Nat.reduceEqDiff, Nat.reduceLT, Nat.reduceLeDiff, decide_true, decide_false, ↓reduceIte, Bool.not_true, Bool.not_false, Bool.false_eq_true, reduceCtorEq, sizeLine_eq, List.contains_cons, List.contains_nil, ofSb, String.reduceBEq, Bool.or_false, Bool.or_self, Bool.false_or, Bool.true_or, Bool.or_true, Bool.and_true, Bool.true_and, Bool.and_false, Bool.false_and, Bool.false_xor, Bool.true_xor, decide_eq_true_eq, at0, at1, at2, at3, Int.cast_ofNat_Int, Int.natCast_zero, Int.natCast_one, Int.reduceLT, Int.reduceLE, Int.reduceEq, Int.reduceAdd, Int.reduceSub, Int.reduceNeg, List.nil_append, List.cons_append, List.all_cons, List.all_nil, List.any_cons, List.any_nil, id_eq, divOk_lit, mulOk_r, mulOk_l, powOk_lit, atM1, atM, Nat.max_self, Nat.zero_le, Nat.reduceSub, dpF, xsubF, mk_Among, mk_Both, mk_Columns, mk_Columns_l, mk_Either, mk_First, mk_Joined, mk_Like, mk_Not, mk_Ordered, mk_Ordered_l, mk_Sums, mk_Sums_l, mk_Table, mk_Where, mk_Within]
    | cols ns a =>
      simp only [dQ] at h hn ⊢
      simp only [oQ, Bool.and_eq_true, decide_eq_true_eq] at ho
      obtain ⟨d, e, hd⟩ := ih a (by omega) ho.2 (z / 3) b0 hb (n - 1) M (by omega)
      refine ⟨tpl "columns" [nms ns, d], ?_, (nq_cols hd ho.1).mono (by omega)⟩
      simp (maxSteps := 2000000) (disch := first | omega | assumption) only [tQ, tpl, fb_l_spoilt, fb_l_spoilt_1, fb_l_spoilt_2, hz, cut_init, List.dropLast, e, ↓fxT, ↓fxS, ↓fxE, ↓fxM, fxV, fxD, fxN, fxL, ↓fxG, ↓fxC, fxP, fxI, ofS, String.reduceEq, List.length_cons, List.length_nil, Nat.reduceAdd, Nat.reduceEqDiff, Nat.reduceLT, Nat.reduceLeDiff, decide_true, decide_false, ↓reduceIte, Bool.not_true, Bool.not_false, Bool.false_eq_true, reduceCtorEq, sizeLine_eq, List.contains_cons, List.contains_nil, ofSb, String.reduceBEq, Bool.or_false, Bool.or_self, Bool.false_or, Bool.true_or, Bool.or_true, Bool.and_true, Bool.true_and, Bool.and_false, Bool.false_and, Bool.false_xor, Bool.true_xor, decide_eq_true_eq, at0, at1, at2, at3, Int.cast_ofNat_Int, Int.natCast_zero, Int.natCast_one, Int.reduceLT, Int.reduceLE, Int.reduceEq, Int.reduceAdd, Int.reduceSub, Int.reduceNeg, List.nil_append, List.cons_append, List.all_cons, List.all_nil, List.any_cons, List.any_nil, id_eq, divOk_lit, mulOk_r, mulOk_l, powOk_lit, atM1, atM, Nat.max_self, Nat.zero_le, Nat.reduceSub, dpF, xsubF, mk_Among, mk_Both, mk_Columns, mk_Columns_l, mk_Either, mk_First, mk_Joined, mk_Like, mk_Not, mk_Ordered, mk_Ordered_l, mk_Sums, mk_Sums_l, mk_Table, mk_Where, mk_Within]
    | sums ns c a =>
      simp only [dQ] at h hn ⊢
      simp only [oQ, Bool.and_eq_true, decide_eq_true_eq] at ho
      obtain ⟨d, e, hd⟩ := ih a (by omega) ho.2 (z / 3) b0 hb (n - 1) M (by omega)
      refine ⟨tpl "sums" [nms ns, .str c, d], ?_, (nq_sums hd ho.1).mono (by omega)⟩
      simp (maxSteps := 2000000) (disch := first | omega | assumption) only [tQ, tpl, fb_l_spoilt, fb_l_spoilt_1, fb_l_spoilt_2, hz, cut_init, List.dropLast, e, ↓fxT, ↓fxS, ↓fxE, ↓fxM, fxV, fxD, fxN, fxL, ↓fxG, ↓fxC, fxP, fxI, ofS, String.reduceEq, List.length_cons, List.length_nil, Nat.reduceAdd, Nat.reduceEqDiff, Nat.reduceLT, Nat.reduceLeDiff, decide_true, decide_false, ↓reduceIte, Bool.not_true, Bool.not_false, Bool.false_eq_true, reduceCtorEq, sizeLine_eq, List.contains_cons, List.contains_nil, ofSb, String.reduceBEq, Bool.or_false, Bool.or_self, Bool.false_or, Bool.true_or, Bool.or_true, Bool.and_true, Bool.true_and, Bool.and_false, Bool.false_and, Bool.false_xor, Bool.true_xor, decide_eq_true_eq, at0, at1, at2, at3, Int.cast_ofNat_Int, Int.natCast_zero, Int.natCast_one, Int.reduceLT, Int.reduceLE, Int.reduceEq, Int.reduceAdd, Int.reduceSub, Int.reduceNeg, List.nil_append, List.cons_append, List.all_cons, List.all_nil, List.any_cons, List.any_nil, id_eq, divOk_lit, mulOk_r, mulOk_l, powOk_lit, atM1, atM, Nat.max_self, Nat.zero_le, Nat.reduceSub, dpF, xsubF, mk_Among, mk_Both, mk_Columns, mk_Columns_l, mk_Either, mk_First, mk_Joined, mk_Like, mk_Not, mk_Ordered, mk_Ordered_l, mk_Sums, mk_Sums_l, mk_Table, mk_Where, mk_Within]
    | ord ns a =>
      simp only [dQ] at h hn ⊢
      simp only [oQ, Bool.and_eq_true, decide_eq_true_eq] at ho
      obtain ⟨d, e, hd⟩ := ih a (by omega) ho.2 (z / 3) b0 hb (n - 1) M (by omega)
      refine ⟨tpl "ordered" [nms ns, d], ?_, (nq_ord hd ho.1).mono (by omega)⟩
      simp (maxSteps := 2000000) (disch := first | omega | assumption) only [tQ, tpl, fb_l_spoilt, fb_l_spoilt_1, fb_l_spoilt_2, hz, cut_init, List.dropLast, e, ↓fxT, ↓fxS, ↓fxE, ↓fxM, fxV, fxD, fxN, fxL, ↓fxG, ↓fxC, fxP, fxI, ofS, String.reduceEq, List.length_cons, List.length_nil, Nat.reduceAdd, Nat.reduceEqDiff, Nat.reduceLT, Nat.reduceLeDiff, decide_true, decide_false, ↓reduceIte, Bool.not_true, Bool.not_false, Bool.false_eq_true, reduceCtorEq, sizeLine_eq, List.contains_cons, List.contains_nil, ofSb, String.reduceBEq, Bool.or_false, Bool.or_self, Bool.false_or, Bool.true_or, Bool.or_true, Bool.and_true, Bool.true_and, Bool.and_false, Bool.false_and, Bool.false_xor, Bool.true_xor, decide_eq_true_eq, at0, at1, at2, at3, Int.cast_ofNat_Int, Int.natCast_zero, Int.natCast_one, Int.reduceLT, Int.reduceLE, Int.reduceEq, Int.reduceAdd, Int.reduceSub, Int.reduceNeg, List.nil_append, List.cons_append, List.all_cons, List.all_nil, List.any_cons, List.any_nil, id_eq, divOk_lit, mulOk_r, mulOk_l, powOk_lit, atM1, atM, Nat.max_self, Nat.zero_le, Nat.reduceSub, dpF, xsubF, mk_Among, mk_Both, mk_Columns, mk_Columns_l, mk_Either, mk_First, mk_Joined, mk_Like, mk_Not, mk_Ordered, mk_Ordered_l, mk_Sums, mk_Sums_l, mk_Table, mk_Where, mk_Within]
    | first l a =>
      simp only [dQ] at h hn ⊢
      simp only [oQ, Bool.and_eq_true, decide_eq_true_eq] at ho
      obtain ⟨d, e, hd⟩ := ih a (by omega) ho (z / 3) b0 hb (n - 1) M (by omega)
      refine ⟨tpl "first" [.int l, d], ?_, (nq_first hd).mono (by omega)⟩
      simp (maxSteps := 2000000) (disch := first | omega | assumption) only [tQ, tpl, fb_l_spoilt, fb_l_spoilt_1, fb_l_spoilt_2, hz, cut_init, List.dropLast, e, ↓fxT, ↓fxS, ↓fxE, ↓fxM, fxV, fxD, fxN, fxL, ↓fxG, ↓fxC, fxP, fxI, ofS, String.reduceEq, List.length_cons, List.length_nil, Nat.reduceAdd, Nat.reduceEqDiff, Nat.reduceLT, Nat.reduceLeDiff, decide_true, decide_false, ↓reduceIte, Bool.not_true, Bool.not_false, Bool.false_eq_true, reduceCtorEq, sizeLine_eq, List.contains_cons, List.contains_nil, ofSb, String.reduceBEq, Bool.or_false, Bool.or_self, Bool.false_or, Bool.true_or, Bool.or_true, Bool.and_true, Bool.true_and, Bool.and_false, Bool.false_and, Bool.false_xor, Bool.true_xor, decide_eq_true_eq, at0, at1, at2, at3, Int.cast_ofNat_Int, Int.natCast_zero, Int.natCast_one, Int.reduceLT, Int.reduceLE, Int.reduceEq, Int.reduceAdd, Int.reduceSub, Int.reduceNeg, List.nil_append, List.cons_append, List.all_cons, List.all_nil, List.any_cons, List.any_nil, id_eq, divOk_lit, mulOk_r, mulOk_l, powOk_lit, atM1, atM, Nat.max_self, Nat.zero_le, Nat.reduceSub, dpF, xsubF, mk_Among, mk_Both, mk_Columns, mk_Columns_l, mk_Either, mk_First, mk_Joined, mk_Like, mk_Not, mk_Ordered, mk_Ordered_l, mk_Sums, mk_Sums_l, mk_Table, mk_Where, mk_Within]

theorem refused_ok {k : Nat} {d : D} (hd : NQ k d) {n : Nat} (h : k + 1 ≤ n) {M : DM} : call n .l_refused [d] M = .ret (.imm (.bl true)) M := by
  have h1 := fun M => hd (n - 1) M (by omega)
  simp (maxSteps := 2000000) (disch := first | omega | assumption) only [c_l_refused, fb_l_refused, fb_l_refused_1, h1, nq, eqCan, eqOk, eqOks, dpt, dpts, eqD, eqDs, ↓fxT, ↓fxS, ↓fxE, ↓fxM, fxV, fxD, fxN, fxL, ↓fxG, ↓fxC, fxP, fxI, ofS, String.reduceEq, List.length_cons, List.length_nil, Nat.reduceAdd, Nat.reduceEqDiff, Nat.reduceLT, Nat.reduceLeDiff, decide_true, decide_false, ↓reduceIte, Bool.not_true, Bool.not_false, Bool.false_eq_true, reduceCtorEq, sizeLine_eq, List.contains_cons, List.contains_nil, ofSb, String.reduceBEq, Bool.or_false, Bool.or_self, Bool.false_or, Bool.true_or, Bool.or_true, Bool.and_true, Bool.true_and, Bool.and_false, Bool.false_and, Bool.false_xor, Bool.true_xor, decide_eq_true_eq, at0, at1, at2, at3, Int.cast_ofNat_Int, Int.natCast_zero, Int.natCast_one, Int.reduceLT, Int.reduceLE, Int.reduceEq, Int.reduceAdd, Int.reduceSub, Int.reduceNeg, List.nil_append, List.cons_append, List.all_cons, List.all_nil, List.any_cons, List.any_nil, id_eq, divOk_lit, mulOk_r, mulOk_l, powOk_lit, atM1, atM, Nat.max_self, Nat.zero_le, Nat.reduceSub, dpF, xsubF, mk_Among, mk_Both, mk_Columns, mk_Columns_l, mk_Either, mk_First, mk_Joined, mk_Like, mk_Not, mk_Ordered, mk_Ordered_l, mk_Sums, mk_Sums_l, mk_Table, mk_Where, mk_Within]
theorem test_refused_ok {k : Nat} {d : D} (hd : NT k d) {n : Nat} (h : k + 1 ≤ n) {M : DM} : call n .l_test_refused [d] M = .ret (.imm (.bl true)) M := by
  have h1 := fun M => hd (n - 1) M (by omega)
  simp (maxSteps := 2000000) (disch := first | omega | assumption) only [c_l_test_refused, fb_l_test_refused, fb_l_test_refused_1, h1, nq, eqCan, eqOk, eqOks, dpt, dpts, eqD, eqDs, ↓fxT, ↓fxS, ↓fxE, ↓fxM, fxV, fxD, fxN, fxL, ↓fxG, ↓fxC, fxP, fxI, ofS, String.reduceEq, List.length_cons, List.length_nil, Nat.reduceAdd, Nat.reduceEqDiff, Nat.reduceLT, Nat.reduceLeDiff, decide_true, decide_false, ↓reduceIte, Bool.not_true, Bool.not_false, Bool.false_eq_true, reduceCtorEq, sizeLine_eq, List.contains_cons, List.contains_nil, ofSb, String.reduceBEq, Bool.or_false, Bool.or_self, Bool.false_or, Bool.true_or, Bool.or_true, Bool.and_true, Bool.true_and, Bool.and_false, Bool.false_and, Bool.false_xor, Bool.true_xor, decide_eq_true_eq, at0, at1, at2, at3, Int.cast_ofNat_Int, Int.natCast_zero, Int.natCast_one, Int.reduceLT, Int.reduceLE, Int.reduceEq, Int.reduceAdd, Int.reduceSub, Int.reduceNeg, List.nil_append, List.cons_append, List.all_cons, List.all_nil, List.any_cons, List.any_nil, id_eq, divOk_lit, mulOk_r, mulOk_l, powOk_lit, atM1, atM, Nat.max_self, Nat.zero_le, Nat.reduceSub, dpF, xsubF, mk_Among, mk_Both, mk_Columns, mk_Columns_l, mk_Either, mk_First, mk_Joined, mk_Like, mk_Not, mk_Ordered, mk_Ordered_l, mk_Sums, mk_Sums_l, mk_Table, mk_Where, mk_Within]
theorem cell_ok {n : Nat} (h : 0 < n) {ns : List Int} (k : Nat) : ∃ z, ∀ M, call n .l_cell_at [.lst (ns.map .int), .int k] M = .ret (.imm (.int z)) M := by
  by_cases hk : k < ns.length
  · refine ⟨ns[k], fun M => ?_⟩
    have e : atI (ns.map D.int) (k : Int) = some (.int ns[k]) := by rw [atI_in (by simpa using hk)]; simp
    have e2 : decide ((k : Int) < ((ns.map D.int).length : Int)) = true := decide_eq_true (by simp; exact hk)
    simp (maxSteps := 2000000) (disch := first | omega | assumption) only [c_l_cell_at, fb_l_cell_at, fb_l_cell_at_1, e, e2, ↓fxT, ↓fxS, ↓fxE, ↓fxM, fxV, fxD, fxN, fxL, ↓fxG, ↓fxC, fxP, fxI, ofS, String.reduceEq, List.length_cons, List.length_nil, Nat.reduceAdd, Nat.reduceEqDiff, Nat.reduceLT, Nat.reduceLeDiff, decide_true, decide_false, ↓reduceIte, Bool.not_true, Bool.not_false, Bool.false_eq_true, reduceCtorEq, sizeLine_eq, List.contains_cons, List.contains_nil, ofSb, String.reduceBEq, Bool.or_false, Bool.or_self, Bool.false_or, Bool.true_or, Bool.or_true, Bool.and_true, Bool.true_and, Bool.and_false, Bool.false_and, Bool.false_xor, Bool.true_xor, decide_eq_true_eq, at0, at1, at2, at3, Int.cast_ofNat_Int, Int.natCast_zero, Int.natCast_one, Int.reduceLT, Int.reduceLE, Int.reduceEq, Int.reduceAdd, Int.reduceSub, Int.reduceNeg, List.nil_append, List.cons_append, List.all_cons, List.all_nil, List.any_cons, List.any_nil, id_eq, divOk_lit, mulOk_r, mulOk_l, powOk_lit, atM1, atM, Nat.max_self, Nat.zero_le, Nat.reduceSub, dpF, xsubF, mk_Among, mk_Both, mk_Columns, mk_Columns_l, mk_Either, mk_First, mk_Joined, mk_Like, mk_Not, mk_Ordered, mk_Ordered_l, mk_Sums, mk_Sums_l, mk_Table, mk_Where, mk_Within]
  · refine ⟨0, fun M => ?_⟩
    have e2 : decide ((k : Int) < ((ns.map D.int).length : Int)) = false := decide_eq_false (by simp; omega)
    simp (maxSteps := 2000000) (disch := first | omega | assumption) only [c_l_cell_at, fb_l_cell_at, fb_l_cell_at_1, e2, ↓fxT, ↓fxS, ↓fxE, ↓fxM, fxV, fxD, fxN, fxL, ↓fxG, ↓fxC, fxP, fxI, ofS, String.reduceEq, List.length_cons, List.length_nil, Nat.reduceAdd, Nat.reduceEqDiff, Nat.reduceLT, Nat.reduceLeDiff, decide_true, decide_false, ↓reduceIte, Bool.not_true, Bool.not_false, Bool.false_eq_true, reduceCtorEq, sizeLine_eq, List.contains_cons, List.contains_nil, ofSb, String.reduceBEq, Bool.or_false, Bool.or_self, Bool.false_or, Bool.true_or, Bool.or_true, Bool.and_true, Bool.true_and, Bool.and_false, Bool.false_and, Bool.false_xor, Bool.true_xor, decide_eq_true_eq, at0, at1, at2, at3, Int.cast_ofNat_Int, Int.natCast_zero, Int.natCast_one, Int.reduceLT, Int.reduceLE, Int.reduceEq, Int.reduceAdd, Int.reduceSub, Int.reduceNeg, List.nil_append, List.cons_append, List.all_cons, List.all_nil, List.any_cons, List.any_nil, id_eq, divOk_lit, mulOk_r, mulOk_l, powOk_lit, atM1, atM, Nat.max_self, Nat.zero_le, Nat.reduceSub, dpF, xsubF, mk_Among, mk_Both, mk_Columns, mk_Columns_l, mk_Either, mk_First, mk_Joined, mk_Like, mk_Not, mk_Ordered, mk_Ordered_l, mk_Sums, mk_Sums_l, mk_Table, mk_Where, mk_Within]
/-- the right ones -/
def rightL (t : Te) (l : Int) : List Qu := [.whr t (.table "t"), .cols ["b", "a"] (.table "t"), .sums [] "a" (.table "t"), .ord ["a"] (.table "t"), .first l (.ord [] (.table "t")), .join (.table "t") (.whr t (.table "t")), .table "t"]
theorem right_ok {n : Nat} (h : 0 < n) (z : Int) : ∃ t l, (dT t ≤ 2 ∧ oT t = true) ∧ (eqOk (tT t) = true ∧ dpt (tT t) ≤ 10) ∧ ∀ M, call n .l_right [.int z] M = .ret (.new (.lst ((rightL t l).map tQ))) M := by
  have h3 : z / 4 % 3 = 0 ∨ z / 4 % 3 = 1 ∨ z / 4 % 3 = 2 := by omega
  have hw : ∃ lo hi : Option Int, atI [D.non, .int (z % 9)] (z % 2) = some (bd lo) ∧ atI [D.non, .int (z % 7)] (z / 2 % 2) = some (bd hi) := by
    rcases Int.emod_two_eq z with h1 | h1 <;> rcases Int.emod_two_eq (z / 2) with h2 | h2 <;> rw [h1, h2]
    · exact ⟨none, none, rfl, rfl⟩
    · exact ⟨none, some _, rfl, rfl⟩
    · exact ⟨some _, none, rfl, rfl⟩
    · exact ⟨some _, some _, rfl, rfl⟩
  obtain ⟨lo, hi, e1, e2⟩ := hw
  have b1 : ∀ x : Option Int, eqOk (bd x) = true ∧ dpt (bd x) = 0 := fun x => by cases x <;> exact ⟨rfl, rfl⟩
  rcases h3 with h3 | h3 | h3
  · refine ⟨.within "a" lo hi, z / 12 % 5, ⟨by simp [dT, dQ], rfl⟩, ⟨by simp [tT, eqOk, eqOks, strOk_ofS, b1], by simp [tT, dpt, dpts, b1]⟩, fun M => ?_⟩
    simp (maxSteps := 2000000) (disch := first | omega | assumption) only [c_l_right, fb_l_right, fb_l_right_1, fb_l_right_2, fb_l_right_3, fb_l_right_4, fb_l_right_5, fb_l_right_6, e1, e2, h3, rightL, List.map_cons, List.map_nil, tQ, tT, tpl, nms, ↓fxT, ↓fxS, ↓fxE, ↓fxM, fxV, fxD, fxN, fxL, ↓fxG, ↓fxC, fxP, fxI, ofS, String.reduceEq, List.length_cons, List.length_nil, Nat.reduceAdd, Nat.reduceEqDiff, Nat.reduceLT, Nat.reduceLeDiff, decide_true, decide_false, ↓reduceIte, Bool.not_true, Bool.not_false, Bool.false_eq_true, reduceCtorEq, sizeLine_eq, List.contains_cons, List.contains_nil, ofSb, String.reduceBEq, Bool.or_false, Bool.or_self, Bool.false_or, Bool.true_or, Bool.or_true, Bool.and_true, Bool.true_and, Bool.and_false, Bool.false_and, Bool.false_xor, Bool.true_xor, decide_eq_true_eq, at0, at1, at2, at3, Int.cast_ofNat_Int, Int.natCast_zero, Int.natCast_one, Int.reduceLT, Int.reduceLE, Int.reduceEq, Int.reduceAdd, Int.reduceSub, Int.reduceNeg, List.nil_append, List.cons_append, List.all_cons, List.all_nil, List.any_cons, List.any_nil, id_eq, divOk_lit, mulOk_r, mulOk_l, powOk_lit, atM1, atM, Nat.max_self, Nat.zero_le, Nat.reduceSub, dpF, xsubF, mk_Among, mk_Both, mk_Columns, mk_Columns_l, mk_Either, mk_First, mk_Joined, mk_Like, mk_Not, mk_Ordered, mk_Ordered_l, mk_Sums, mk_Sums_l, mk_Table, mk_Where, mk_Within]
  · refine ⟨.both (.within "a" lo hi) (.no (.like "a" "b")), z / 12 % 5, ⟨by simp [dT, dQ], rfl⟩, ⟨by simp [tT, eqOk, eqOks, strOk_ofS, b1], by simp [tT, dpt, dpts, b1]⟩, fun M => ?_⟩
    simp (maxSteps := 2000000) (disch := first | omega | assumption) only [c_l_right, fb_l_right, fb_l_right_1, fb_l_right_2, fb_l_right_3, fb_l_right_4, fb_l_right_5, fb_l_right_6, e1, e2, h3, rightL, List.map_cons, List.map_nil, tQ, tT, tpl, nms, ↓fxT, ↓fxS, ↓fxE, ↓fxM, fxV, fxD, fxN, fxL, ↓fxG, ↓fxC, fxP, fxI, ofS, String.reduceEq, List.length_cons, List.length_nil, Nat.reduceAdd, Nat.reduceEqDiff, Nat.reduceLT, Nat.reduceLeDiff, decide_true, decide_false, ↓reduceIte, Bool.not_true, Bool.not_false, Bool.false_eq_true, reduceCtorEq, sizeLine_eq, List.contains_cons, List.contains_nil, ofSb, String.reduceBEq, Bool.or_false, Bool.or_self, Bool.false_or, Bool.true_or, Bool.or_true, Bool.and_true, Bool.true_and, Bool.and_false, Bool.false_and, Bool.false_xor, Bool.true_xor, decide_eq_true_eq, at0, at1, at2, at3, Int.cast_ofNat_Int, Int.natCast_zero, Int.natCast_one, Int.reduceLT, Int.reduceLE, Int.reduceEq, Int.reduceAdd, Int.reduceSub, Int.reduceNeg, List.nil_append, List.cons_append, List.all_cons, List.all_nil, List.any_cons, List.any_nil, id_eq, divOk_lit, mulOk_r, mulOk_l, powOk_lit, atM1, atM, Nat.max_self, Nat.zero_le, Nat.reduceSub, dpF, xsubF, mk_Among, mk_Both, mk_Columns, mk_Columns_l, mk_Either, mk_First, mk_Joined, mk_Like, mk_Not, mk_Ordered, mk_Ordered_l, mk_Sums, mk_Sums_l, mk_Table, mk_Where, mk_Within]
  · refine ⟨.either (.among "b" (.table "u")) (.within "a" lo hi), z / 12 % 5, ⟨by simp [dT, dQ], rfl⟩, ⟨by simp [tT, tQ, eqOk, eqOks, strOk_ofS, b1], by simp [tT, tQ, dpt, dpts, b1]⟩, fun M => ?_⟩
    simp (maxSteps := 2000000) (disch := first | omega | assumption) only [c_l_right, fb_l_right, fb_l_right_1, fb_l_right_2, fb_l_right_3, fb_l_right_4, fb_l_right_5, fb_l_right_6, e1, e2, h3, rightL, List.map_cons, List.map_nil, tQ, tT, tpl, nms, ↓fxT, ↓fxS, ↓fxE, ↓fxM, fxV, fxD, fxN, fxL, ↓fxG, ↓fxC, fxP, fxI, ofS, String.reduceEq, List.length_cons, List.length_nil, Nat.reduceAdd, Nat.reduceEqDiff, Nat.reduceLT, Nat.reduceLeDiff, decide_true, decide_false, ↓reduceIte, Bool.not_true, Bool.not_false, Bool.false_eq_true, reduceCtorEq, sizeLine_eq, List.contains_cons, List.contains_nil, ofSb, String.reduceBEq, Bool.or_false, Bool.or_self, Bool.false_or, Bool.true_or, Bool.or_true, Bool.and_true, Bool.true_and, Bool.and_false, Bool.false_and, Bool.false_xor, Bool.true_xor, decide_eq_true_eq, at0, at1, at2, at3, Int.cast_ofNat_Int, Int.natCast_zero, Int.natCast_one, Int.reduceLT, Int.reduceLE, Int.reduceEq, Int.reduceAdd, Int.reduceSub, Int.reduceNeg, List.nil_append, List.cons_append, List.all_cons, List.all_nil, List.any_cons, List.any_nil, id_eq, divOk_lit, mulOk_r, mulOk_l, powOk_lit, atM1, atM, Nat.max_self, Nat.zero_le, Nat.reduceSub, dpF, xsubF, mk_Among, mk_Both, mk_Columns, mk_Columns_l, mk_Either, mk_First, mk_Joined, mk_Like, mk_Not, mk_Ordered, mk_Ordered_l, mk_Sums, mk_Sums_l, mk_Table, mk_Where, mk_Within]

open QU
/-- one of the right ones -/
theorem one_ok {n : Nat} (h : 35 ≤ n) {t : Te} {l : Int} (ht : dT t ≤ 2 ∧ oT t = true) (he : eqOk (tT t) = true ∧ dpt (tT t) ≤ 10) {q : Qu} (hq : q ∈ rightL t l) : dQ q ≤ 4 ∧ oQ q = true ∧ eqCan (tQ q) = true := by
  obtain ⟨h1, h2⟩ := ht
  obtain ⟨h3, h4⟩ := he
  simp only [rightL, List.mem_cons, List.not_mem_nil, or_false] at hq
  rcases hq with rfl | rfl | rfl | rfl | rfl | rfl | rfl <;> (refine ⟨by simp only [dQ]; omega, by simp [oQ, h2], ?_⟩; simp [eqCan, tQ, tpl, nms, eqOk, eqOks, dpt, dpts, strOk_ofS, h3]; try omega)
theorem told_q {n : Nat} {q : Qu} {s : DSt} (h : dQ q < n) : meth "told" (dpL tab_told (call n)) fNil (vQ q) s = .ret (.imm (tQ q)) s := (told_ok n).2 q s h
theorem told_t {n : Nat} {q : Te} {s : DSt} (h : dT q < n) : meth "told" (dpL tab_told (call n)) fNil (vT q) s = .ret (.imm (tT q)) s := (told_ok n).1 q s h
theorem read_q {n : Nat} {q : Qu} {M : DM} (h : 3 * dQ q + 4 ≤ n) (ho : oQ q = true) : call n .read_question [tQ q] M = .ret (.new (vQ q)) M := (read_ok n).2 q M h ho
theorem view_tQ {q : Qu} {M : DM} : viewD M (tQ q) = some (tQ q) := by cases q <;> rfl
theorem law_n {n : Nat} (h : 40 ≤ n) (ns : List Int) : call n .law [.lst (ns.map .int)] (fun _ => none) = .ret (.imm (.bl true)) (fun _ => none) := by
  obtain ⟨z0, e0⟩ := cell_ok (n := n - 1) (by omega) (ns := ns) 0
  obtain ⟨z1, e1⟩ := cell_ok (n := n - 1) (by omega) (ns := ns) 1
  obtain ⟨z2, e2⟩ := cell_ok (n := n - 1) (by omega) (ns := ns) 2
  obtain ⟨z3, e3⟩ := cell_ok (n := n - 1) (by omega) (ns := ns) 3
  obtain ⟨z4, e4⟩ := cell_ok (n := n - 1) (by omega) (ns := ns) 4
  simp only [Int.cast_ofNat_Int, Int.natCast_zero, Int.natCast_one] at e0 e1 e2 e3 e4
  obtain ⟨b0, hb0, eb⟩ := strange_ok (n := n - 1) (by omega) (z := z1) (M := fun _ => none)
  obtain ⟨t, l, ht, he, er⟩ := right_ok (n := n - 1) (by omega) z0
  have hq0 := strange_nq b0 hb0
  rw [c_law (by omega)]
  simp (maxSteps := 2000000) (disch := first | omega | assumption) only [fb_law, fb_law_1, fb_law_2, e0, e1, eb, er, Nat.reduceSub, ↓fxT, ↓fxS, ↓fxE, ↓fxM, fxV, fxD, fxN, fxL, ↓fxG, ↓fxC, fxP, fxI, ofS, String.reduceEq, List.length_cons, List.length_nil, Nat.reduceAdd, Nat.reduceEqDiff, Nat.reduceLT, Nat.reduceLeDiff, decide_true, decide_false, ↓reduceIte, Bool.not_true, Bool.not_false, Bool.false_eq_true, reduceCtorEq, sizeLine_eq, List.contains_cons, List.contains_nil, ofSb, String.reduceBEq, Bool.or_false, Bool.or_self, Bool.false_or, Bool.true_or, Bool.or_true, Bool.and_true, Bool.true_and, Bool.and_false, Bool.false_and, Bool.false_xor, Bool.true_xor, decide_eq_true_eq, at0, at1, at2, at3, Int.cast_ofNat_Int, Int.natCast_zero, Int.natCast_one, Int.reduceLT, Int.reduceLE, Int.reduceEq, Int.reduceAdd, Int.reduceSub, Int.reduceNeg, List.nil_append, List.cons_append, List.all_cons, List.all_nil, List.any_cons, List.any_nil, id_eq, divOk_lit, mulOk_r, mulOk_l, powOk_lit, atM1, atM, Nat.max_self, Nat.zero_le, Nat.reduceSub, dpF, xsubF, mk_Among, mk_Both, mk_Columns, mk_Columns_l, mk_Either, mk_First, mk_Joined, mk_Like, mk_Not, mk_Ordered, mk_Ordered_l, mk_Sums, mk_Sums_l, mk_Table, mk_Where, mk_Within]
  have hI := forF_inv (ok := okB (D.lst (List.map tQ (rightL t l))) (D.lst (List.map tQ (rightL t l)))) (g := fgN 3) (b := fSeq (fIf (fB (fPrim qNe (fCons (fMeth "told" (dp_told (call (n - 1))) (fCall (call (n - 1) .read_question) (fCons (fVar 3) fNil)) fNil) (fCons (fVar 3) fNil)))) (fRet (fC (.bl false))) fPass) (fIf (fNot (fB (fCall (call (n - 1) .l_refused) (fCons (fCall (call (n - 1) .l_spoilt) (fCons (fVar 3) (fCons (fCall (call (n - 1) .l_cell_at) (fCons (fVar 0) (fCons (fC (.int 2)) fNil))) (fCons (fVar 2) fNil)))) fNil)))) (fRet (fC (.bl false))) fPass))
    (fun s => ∃ x, s = ⟨[some (.imm (.lst (ns.map .int))), some (.imm (.int z0)), some (.imm b0), x, none, none, none, none], fun _ => none⟩) ((rightL t l).map tQ) ⟨[some (.imm (.lst (ns.map .int))), some (.imm (.int z0)), some (.imm b0), none, none, none, none, none], fun _ => none⟩ ⟨none, rfl⟩ (fun s _ => rfl) (fun s ⟨x, hs⟩ y hy => by
      subst hs
      obtain ⟨q, hq, rfl⟩ := List.mem_map.mp hy
      obtain ⟨h1, h2, h3⟩ := one_ok (n := n - 1) (by omega) ht he hq
      obtain ⟨d, e, hd⟩ := spoilt_ok 40 q (by omega) h2 z2 b0 hq0 (n - 1) (fun _ => none) (by omega)
      have hr := fun M => refused_ok hd (n := n - 1) (by omega) (M := M)
      refine ⟨_, ⟨[some (.imm (.lst (ns.map .int))), some (.imm (.int z0)), some (.imm b0), some (.imm (tQ q)), none, none, none, none], fun _ => none⟩, rfl, .inl ?_, _, rfl⟩
      simp (maxSteps := 2000000) (disch := first | omega | assumption) only [read_q, told_q, view_tQ, qEq_self, e2, e, hr, ↓fxT, ↓fxS, ↓fxE, ↓fxM, fxV, fxD, fxN, fxL, ↓fxG, ↓fxC, fxP, fxI, ofS, String.reduceEq, List.length_cons, List.length_nil, Nat.reduceAdd, Nat.reduceEqDiff, Nat.reduceLT, Nat.reduceLeDiff, decide_true, decide_false, ↓reduceIte, Bool.not_true, Bool.not_false, Bool.false_eq_true, reduceCtorEq, sizeLine_eq, List.contains_cons, List.contains_nil, ofSb, String.reduceBEq, Bool.or_false, Bool.or_self, Bool.false_or, Bool.true_or, Bool.or_true, Bool.and_true, Bool.true_and, Bool.and_false, Bool.false_and, Bool.false_xor, Bool.true_xor, decide_eq_true_eq, at0, at1, at2, at3, Int.cast_ofNat_Int, Int.natCast_zero, Int.natCast_one, Int.reduceLT, Int.reduceLE, Int.reduceEq, Int.reduceAdd, Int.reduceSub, Int.reduceNeg, List.nil_append, List.cons_append, List.all_cons, List.all_nil, List.any_cons, List.any_nil, id_eq, divOk_lit, mulOk_r, mulOk_l, powOk_lit, atM1, atM, Nat.max_self, Nat.zero_le, Nat.reduceSub, dpF, xsubF, mk_Among, mk_Both, mk_Columns, mk_Columns_l, mk_Either, mk_First, mk_Joined, mk_Like, mk_Not, mk_Ordered, mk_Ordered_l, mk_Sums, mk_Sums_l, mk_Table, mk_Where, mk_Within])
  obtain ⟨s', eF, x, rfl⟩ := hI
  rw [eF]
  obtain ⟨t3, ht3, et3⟩ := no_test_ok (n := n - 1) (by omega) (z := z3) (M := fun _ => none)
  have hn := no_test_nt t3 ht3
  have hh : ∃ d, atI [t3, tpl "not" [t3], tpl "both" [lk, t3]] (z4 % 3) = some d ∧ NT 12 d := by
    have h3 : z4 % 3 = 0 ∨ z4 % 3 = 1 ∨ z4 % 3 = 2 := by omega
    rcases h3 with h3 | h3 | h3 <;> rw [h3]
    · exact ⟨_, rfl, fun m M h => hn m M (by omega)⟩
    · exact ⟨_, rfl, nt_not hn⟩
    · exact ⟨_, rfl, nt_both hn (by decide)⟩
  obtain ⟨d, ed, hd⟩ := hh
  have r1 := fun M => test_refused_ok hd (n := n - 1) (by omega) (M := M)
  have r2 := fun M => refused_ok (nq_whereT (y := tb) hd) (n := n - 1) (by omega) (M := M)
  have r3 := fun M => (read_ok (n - 1)).1 (.like "a" "b") M (by simp only [dT]; omega) rfl
  have r4 := fun s => told_t (n := n - 1) (q := .like "a" "b") (s := s) (by simp only [dT]; omega)
  simp only [lk, tb, tQ, tT, tpl] at ed r2 r3 r4
  simp (maxSteps := 2000000) (disch := first | omega | assumption) only [fb_law_3, fb_law_4, fb_law_5, fb_law_6, fb_law_7, fb_law_8, e3, e4, et3, ed, r1, r2, r3, r4, eqCan, eqOk, eqOks, dpt, dpts, eqD, eqDs, strOk_ofS, beq_self_eq_true, ↓fxT, ↓fxS, ↓fxE, ↓fxM, fxV, fxD, fxN, fxL, ↓fxG, ↓fxC, fxP, fxI, ofS, String.reduceEq, List.length_cons, List.length_nil, Nat.reduceAdd, Nat.reduceEqDiff, Nat.reduceLT, Nat.reduceLeDiff, decide_true, decide_false, ↓reduceIte, Bool.not_true, Bool.not_false, Bool.false_eq_true, reduceCtorEq, sizeLine_eq, List.contains_cons, List.contains_nil, ofSb, String.reduceBEq, Bool.or_false, Bool.or_self, Bool.false_or, Bool.true_or, Bool.or_true, Bool.and_true, Bool.true_and, Bool.and_false, Bool.false_and, Bool.false_xor, Bool.true_xor, decide_eq_true_eq, at0, at1, at2, at3, Int.cast_ofNat_Int, Int.natCast_zero, Int.natCast_one, Int.reduceLT, Int.reduceLE, Int.reduceEq, Int.reduceAdd, Int.reduceSub, Int.reduceNeg, List.nil_append, List.cons_append, List.all_cons, List.all_nil, List.any_cons, List.any_nil, id_eq, divOk_lit, mulOk_r, mulOk_l, powOk_lit, atM1, atM, Nat.max_self, Nat.zero_le, Nat.reduceSub, dpF, xsubF, mk_Among, mk_Both, mk_Columns, mk_Columns_l, mk_Either, mk_First, mk_Joined, mk_Like, mk_Not, mk_Ordered, mk_Ordered_l, mk_Sums, mk_Sums_l, mk_Table, mk_Where, mk_Within]
theorem law_ok (ns : List Int) (hl : ns.length ≤ 63) (hb : ∀ z ∈ ns, Builtin.Int.intBits z ≤ 1048576) : (call 40 .law [.lst (ns.map .int)] (fun _ => none)).wp (fun r _ => r = .imm (.bl true)) (fun _ _ => False) := by
  rw [law_n (Nat.le_refl 40)]
  exact rfl

def o2 (P : Params) : Obj := ⟨.none, none, (.dict (List.toArray []) 0), (List.toArray [])⟩
def o3 (P : Params) : Obj := ⟨(.type "dict"), none, (.dict (List.toArray [⟨PyData.keyHash P "__name__", (.str "__name__" 165), (.str "law_planledger_k15_what_tells_no_question" 1226)⟩, ⟨PyData.keyHash P "__doc__", (.str "__doc__" 166), .none⟩, ⟨PyData.keyHash P "__package__", (.str "__package__" 167), .none⟩, ⟨PyData.keyHash P "__loader__", (.str "__loader__" 168), (.builtin "__main__.__loader__#opaque")⟩, ⟨PyData.keyHash P "__spec__", (.str "__spec__" 169), .none⟩, ⟨PyData.keyHash P "__annotations__", (.str "__annotations__" 170), (.ref 6)⟩, ⟨PyData.keyHash P "__builtins__", (.str "__builtins__" 171), (.ref 4)⟩, ⟨PyData.keyHash P "__file__", (.str "__file__" 173), (.str "/claim/cut.py" 172)⟩, ⟨PyData.keyHash P "__cached__", (.str "__cached__" 174), .none⟩, ⟨PyData.keyHash P "_wall", (.str "_wall" 193), (.ref 21)⟩, ⟨PyData.keyHash P "LedgerError", (.str "LedgerError" 213), (.ref 31)⟩, ⟨PyData.keyHash P "NoQuestion", (.str "NoQuestion" 238), (.ref 51)⟩, ⟨PyData.keyHash P "is_within", (.str "is_within" 249), (.ref 60)⟩, ⟨PyData.keyHash P "value_in", (.str "value_in" 258), (.ref 67)⟩, ⟨PyData.keyHash P "Test", (.str "Test" 331), (.ref 122)⟩, ⟨PyData.keyHash P "Within", (.str "Within" 384), (.ref 164)⟩, ⟨PyData.keyHash P "Like", (.str "Like" 435), (.ref 204)⟩, ⟨PyData.keyHash P "Paired", (.str "Paired" 477), (.ref 237)⟩, ⟨PyData.keyHash P "Both", (.str "Both" 518), (.ref 270)⟩, ⟨PyData.keyHash P "Either", (.str "Either" 559), (.ref 303)⟩, ⟨PyData.keyHash P "Not", (.str "Not" 616), (.ref 350)⟩, ⟨PyData.keyHash P "Among", (.str "Among" 689), (.ref 411)⟩, ⟨PyData.keyHash P "COUNTED", (.str "COUNTED" 694), (.ref 414)⟩, ⟨PyData.keyHash P "refuse", (.str "refuse" 702), (.ref 421)⟩, ⟨PyData.keyHash P "are_names", (.str "are_names" 711), (.ref 428)⟩, ⟨PyData.keyHash P "is_proper", (.str "is_proper" 718), (.ref 435)⟩, ⟨PyData.keyHash P "Question", (.str "Question" 784), (.ref 485)⟩, ⟨PyData.keyHash P "Table", (.str "Table" 826), (.ref 520)⟩, ⟨PyData.keyHash P "Where", (.str "Where" 881), (.ref 565)⟩, ⟨PyData.keyHash P "Columns", (.str "Columns" 940), (.ref 612)⟩, ⟨PyData.keyHash P "Joined", (.str "Joined" 995), (.ref 657)⟩, ⟨PyData.keyHash P "Sums", (.str "Sums" 1056), (.ref 704)⟩, ⟨PyData.keyHash P "Ordered", (.str "Ordered" 1115), (.ref 751)⟩, ⟨PyData.keyHash P "First", (.str "First" 1174), (.ref 798)⟩, ⟨PyData.keyHash P "is_name", (.str "is_name" 1181), (.ref 807)⟩, ⟨PyData.keyHash P "is_number", (.str "is_number" 1188), (.ref 814)⟩, ⟨PyData.keyHash P "is_bound", (.str "is_bound" 1195), (.ref 821)⟩, ⟨PyData.keyHash P "are_texts", (.str "are_texts" 1201), (.ref 826)⟩, ⟨PyData.keyHash P "read_test", (.str "read_test" 1209), (.ref 833)⟩, ⟨PyData.keyHash P "read_named", (.str "read_named" 1217), (.ref 840)⟩, ⟨PyData.keyHash P "read_question", (.str "read_question" 1225), (.ref 847)⟩, ⟨PyData.keyHash P "_law_cell_at", (.str "_law_cell_at" 1235), (.ref 854)⟩, ⟨PyData.keyHash P "_law_right", (.str "_law_right" 1245), (.ref 861)⟩, ⟨PyData.keyHash P "_law_strange", (.str "_law_strange" 1255), (.ref 868)⟩, ⟨PyData.keyHash P "_law_no_test", (.str "_law_no_test" 1264), (.ref 875)⟩, ⟨PyData.keyHash P "_law_spoilt", (.str "_law_spoilt" 1273), (.ref 882)⟩, ⟨PyData.keyHash P "_law_refused", (.str "_law_refused" 1281), (.ref 889)⟩, ⟨PyData.keyHash P "_law_test_refused", (.str "_law_test_refused" 1289), (.ref 896)⟩, ⟨PyData.keyHash P "law", (.str "law" 1303), (.ref 903)⟩]) 49), (List.toArray [])⟩
def o30 (P : Params) : Obj := ⟨(.type "dict"), none, (.dict (List.toArray [⟨PyData.keyHash P "__module__", (.str "__module__" 203), (.str "planledger.errors" 194)⟩, ⟨PyData.keyHash P "__firstlineno__", (.str "__firstlineno__" 207), (.int (5) 206)⟩, ⟨PyData.keyHash P "__static_attributes__", (.str "__static_attributes__" 208), (.ref 29)⟩, ⟨PyData.keyHash P "__weakref__", (.str "__weakref__" 210), (.ref 32)⟩, ⟨PyData.keyHash P "__doc__", (.str "__doc__" 211), .none⟩]) 3), (List.toArray [])⟩
def o31 (P : Params) : Obj := ⟨(.type "type"), none, (.cls ⟨"LedgerError", [(.type "ValueError")], [(.ref 31), (.type "ValueError"), (.type "Exception"), (.type "BaseException"), (.type "object")], 30, "LedgerError", true, [], [(.ref 51)], false, none, false⟩), (List.toArray [(some (.ref 22)), none, (some (.str "LedgerError" 196)), (some (.str "LedgerError" 204)), (some (.builtin "ValueError.__new__")), (some (.bool true))])⟩
def o47 (P : Params) : Obj := ⟨(.type "code"), none, (.fields (List.toArray [(.str "__init__" 226), (.str "NoQuestion.__init__" 227), (.str "/claim/cut.py" 228), (.int (9) 0), (.int (2) 0), (.int (0) 0), (.int (0) 0), (.int (3) 0), (.ref 42), (.bool true), (.int (181) 0), (.ref 43), .none, (.ref 44), (.ref 45), (.ref 46), (.int (231) 0), (.int (9) 0), (.str "/claim/cut.py" 232)])), (List.toArray [])⟩
def o48 (P : Params) : Obj := ⟨(.type "function"), none, (.func ⟨"__init__", "NoQuestion.__init__", defArgs s_NoQuestion___init, .stmts (defBody s_NoQuestion___init), defScope s_NoQuestion___init, 3, [], .none, .none, .none, (.str "planledger.errors" 194), none, (.ref 47), .none, 0⟩), (List.toArray [])⟩
def o50 (P : Params) : Obj := ⟨(.type "dict"), none, (.dict (List.toArray [⟨PyData.keyHash P "__module__", (.str "__module__" 221), (.str "planledger.errors" 194)⟩, ⟨PyData.keyHash P "__firstlineno__", (.str "__firstlineno__" 225), (.int (7) 224)⟩, ⟨PyData.keyHash P "__init__", (.str "__init__" 233), (.ref 48)⟩, ⟨PyData.keyHash P "__static_attributes__", (.str "__static_attributes__" 235), (.ref 49)⟩, ⟨PyData.keyHash P "__doc__", (.str "__doc__" 236), .none⟩]) 2), (List.toArray [])⟩
def o51 (P : Params) : Obj := ⟨(.type "type"), none, (.cls ⟨"NoQuestion", [(.ref 31)], [(.ref 51), (.ref 31), (.type "ValueError"), (.type "Exception"), (.type "BaseException"), (.type "object")], 50, "NoQuestion", true, [], [], false, none, false⟩), (List.toArray [(some (.ref 35)), none, (some (.str "NoQuestion" 214)), (some (.str "NoQuestion" 222)), (some (.builtin "ValueError.__new__")), (some (.bool true))])⟩
def o111 (P : Params) : Obj := ⟨(.type "code"), none, (.fields (List.toArray [(.str "told" 307), (.str "Test.told" 308), (.str "/claim/cut.py" 309), (.int (40) 0), (.int (1) 0), (.int (0) 0), (.int (0) 0), (.int (3) 0), (.ref 106), (.bool true), (.int (181) 0), (.ref 107), .none, (.ref 108), (.ref 109), (.ref 110), (.int (311) 0), (.int (40) 0), (.str "/claim/cut.py" 312)])), (List.toArray [])⟩
def o112 (P : Params) : Obj := ⟨(.type "function"), none, (.func ⟨"told", "Test.told", defArgs s_Test_told, .stmts (defBody s_Test_told), defScope s_Test_told, 3, [], .none, .none, .none, (.str "planledger.trials" 239), none, (.ref 111), .none, 0⟩), (List.toArray [])⟩
def o121 (P : Params) : Obj := ⟨(.type "dict"), none, (.dict (List.toArray [⟨PyData.keyHash P "__module__", (.str "__module__" 266), (.str "planledger.trials" 239)⟩, ⟨PyData.keyHash P "__firstlineno__", (.str "__firstlineno__" 270), (.int (17) 269)⟩, ⟨PyData.keyHash P "parts", (.str "parts" 277), (.ref 81)⟩, ⟨PyData.keyHash P "needs", (.str "needs" 283), (.ref 86)⟩, ⟨PyData.keyHash P "plain", (.str "plain" 289), (.ref 91)⟩, ⟨PyData.keyHash P "questions", (.str "questions" 298), (.ref 98)⟩, ⟨PyData.keyHash P "with_questions", (.str "with_questions" 306), (.ref 105)⟩, ⟨PyData.keyHash P "told", (.str "told" 313), (.ref 112)⟩, ⟨PyData.keyHash P "holds", (.str "holds" 323), (.ref 119)⟩, ⟨PyData.keyHash P "__static_attributes__", (.str "__static_attributes__" 324), (.ref 120)⟩, ⟨PyData.keyHash P "__dict__", (.str "__dict__" 326), (.ref 123)⟩, ⟨PyData.keyHash P "__weakref__", (.str "__weakref__" 328), (.ref 124)⟩, ⟨PyData.keyHash P "__doc__", (.str "__doc__" 329), .none⟩]) 4), (List.toArray [])⟩
def o122 (P : Params) : Obj := ⟨(.type "type"), none, (.cls ⟨"Test", [(.type "object")], [(.ref 122), (.type "object")], 121, "Test", true, [], [(.ref 164), (.ref 204), (.ref 237), (.ref 350), (.ref 411)], false, none, false⟩), (List.toArray [none, none, (some (.str "Test" 259)), (some (.str "Test" 267)), (some (.builtin "object.__new__")), (some (.bool true))])⟩
def o139 (P : Params) : Obj := ⟨(.type "code"), none, (.fields (List.toArray [(.str "__init__" 344), (.str "Within.__init__" 345), (.str "/claim/cut.py" 346), (.int (47) 0), (.int (4) 0), (.int (0) 0), (.int (0) 0), (.int (3) 0), (.ref 134), (.bool true), (.int (181) 0), (.ref 135), .none, (.ref 136), (.ref 137), (.ref 138), (.int (351) 0), (.int (47) 0), (.str "/claim/cut.py" 352)])), (List.toArray [])⟩
def o140 (P : Params) : Obj := ⟨(.type "function"), none, (.func ⟨"__init__", "Within.__init__", defArgs s_Within___init, .stmts (defBody s_Within___init), defScope s_Within___init, 3, [], .none, .none, .none, (.str "planledger.trials" 239), none, (.ref 139), .none, 0⟩), (List.toArray [])⟩
def o153 (P : Params) : Obj := ⟨(.type "code"), none, (.fields (List.toArray [(.str "told" 361), (.str "Within.told" 362), (.str "/claim/cut.py" 363), (.int (55) 0), (.int (1) 0), (.int (0) 0), (.int (0) 0), (.int (3) 0), (.ref 148), (.bool true), (.int (181) 0), (.ref 149), .none, (.ref 150), (.ref 151), (.ref 152), (.int (365) 0), (.int (55) 0), (.str "/claim/cut.py" 366)])), (List.toArray [])⟩
def o154 (P : Params) : Obj := ⟨(.type "function"), none, (.func ⟨"told", "Within.told", defArgs s_Within_told, .stmts (defBody s_Within_told), defScope s_Within_told, 3, [], .none, .none, .none, (.str "planledger.trials" 239), none, (.ref 153), .none, 0⟩), (List.toArray [])⟩
def o163 (P : Params) : Obj := ⟨(.type "dict"), none, (.dict (List.toArray [⟨PyData.keyHash P "__module__", (.str "__module__" 339), (.str "planledger.trials" 239)⟩, ⟨PyData.keyHash P "__firstlineno__", (.str "__firstlineno__" 343), (.int (45) 342)⟩, ⟨PyData.keyHash P "__init__", (.str "__init__" 353), (.ref 140)⟩, ⟨PyData.keyHash P "needs", (.str "needs" 360), (.ref 147)⟩, ⟨PyData.keyHash P "told", (.str "told" 367), (.ref 154)⟩, ⟨PyData.keyHash P "holds", (.str "holds" 377), (.ref 161)⟩, ⟨PyData.keyHash P "__static_attributes__", (.str "__static_attributes__" 381), (.ref 162)⟩, ⟨PyData.keyHash P "__doc__", (.str "__doc__" 382), .none⟩]) 2), (List.toArray [])⟩
def o164 (P : Params) : Obj := ⟨(.type "type"), none, (.cls ⟨"Within", [(.ref 122)], [(.ref 164), (.ref 122), (.type "object")], 163, "Within", true, [], [], false, none, false⟩), (List.toArray [(some (.ref 127)), none, (some (.str "Within" 332)), (some (.str "Within" 340)), (some (.builtin "object.__new__")), (some (.bool true))])⟩
def o179 (P : Params) : Obj := ⟨(.type "code"), none, (.fields (List.toArray [(.str "__init__" 397), (.str "Like.__init__" 398), (.str "/claim/cut.py" 399), (.int (62) 0), (.int (3) 0), (.int (0) 0), (.int (0) 0), (.int (3) 0), (.ref 174), (.bool true), (.int (181) 0), (.ref 175), .none, (.ref 176), (.ref 177), (.ref 178), (.int (403) 0), (.int (62) 0), (.str "/claim/cut.py" 404)])), (List.toArray [])⟩
def o180 (P : Params) : Obj := ⟨(.type "function"), none, (.func ⟨"__init__", "Like.__init__", defArgs s_Like___init, .stmts (defBody s_Like___init), defScope s_Like___init, 3, [], .none, .none, .none, (.str "planledger.trials" 239), none, (.ref 179), .none, 0⟩), (List.toArray [])⟩
def o193 (P : Params) : Obj := ⟨(.type "code"), none, (.fields (List.toArray [(.str "told" 413), (.str "Like.told" 414), (.str "/claim/cut.py" 415), (.int (71) 0), (.int (1) 0), (.int (0) 0), (.int (0) 0), (.int (3) 0), (.ref 188), (.bool true), (.int (181) 0), (.ref 189), .none, (.ref 190), (.ref 191), (.ref 192), (.int (417) 0), (.int (71) 0), (.str "/claim/cut.py" 418)])), (List.toArray [])⟩
def o194 (P : Params) : Obj := ⟨(.type "function"), none, (.func ⟨"told", "Like.told", defArgs s_Like_told, .stmts (defBody s_Like_told), defScope s_Like_told, 3, [], .none, .none, .none, (.str "planledger.trials" 239), none, (.ref 193), .none, 0⟩), (List.toArray [])⟩
def o203 (P : Params) : Obj := ⟨(.type "dict"), none, (.dict (List.toArray [⟨PyData.keyHash P "__module__", (.str "__module__" 392), (.str "planledger.trials" 239)⟩, ⟨PyData.keyHash P "__firstlineno__", (.str "__firstlineno__" 396), (.int (60) 395)⟩, ⟨PyData.keyHash P "__init__", (.str "__init__" 405), (.ref 180)⟩, ⟨PyData.keyHash P "needs", (.str "needs" 412), (.ref 187)⟩, ⟨PyData.keyHash P "told", (.str "told" 419), (.ref 194)⟩, ⟨PyData.keyHash P "holds", (.str "holds" 429), (.ref 201)⟩, ⟨PyData.keyHash P "__static_attributes__", (.str "__static_attributes__" 432), (.ref 202)⟩, ⟨PyData.keyHash P "__doc__", (.str "__doc__" 433), .none⟩]) 2), (List.toArray [])⟩
def o204 (P : Params) : Obj := ⟨(.type "type"), none, (.cls ⟨"Like", [(.ref 122)], [(.ref 204), (.ref 122), (.type "object")], 203, "Like", true, [], [], false, none, false⟩), (List.toArray [(some (.ref 167)), none, (some (.str "Like" 385)), (some (.str "Like" 393)), (some (.builtin "object.__new__")), (some (.bool true))])⟩
def o219 (P : Params) : Obj := ⟨(.type "code"), none, (.fields (List.toArray [(.str "__init__" 448), (.str "Paired.__init__" 449), (.str "/claim/cut.py" 450), (.int (78) 0), (.int (3) 0), (.int (0) 0), (.int (0) 0), (.int (3) 0), (.ref 214), (.bool true), (.int (181) 0), (.ref 215), .none, (.ref 216), (.ref 217), (.ref 218), (.int (454) 0), (.int (78) 0), (.str "/claim/cut.py" 455)])), (List.toArray [])⟩
def o220 (P : Params) : Obj := ⟨(.type "function"), none, (.func ⟨"__init__", "Paired.__init__", defArgs s_Paired___init, .stmts (defBody s_Paired___init), defScope s_Paired___init, 3, [], .none, .none, .none, (.str "planledger.trials" 239), none, (.ref 219), .none, 0⟩), (List.toArray [])⟩
def o236 (P : Params) : Obj := ⟨(.type "dict"), none, (.dict (List.toArray [⟨PyData.keyHash P "__module__", (.str "__module__" 443), (.str "planledger.trials" 239)⟩, ⟨PyData.keyHash P "__firstlineno__", (.str "__firstlineno__" 447), (.int (76) 446)⟩, ⟨PyData.keyHash P "__init__", (.str "__init__" 456), (.ref 220)⟩, ⟨PyData.keyHash P "parts", (.str "parts" 463), (.ref 227)⟩, ⟨PyData.keyHash P "halves", (.str "halves" 471), (.ref 234)⟩, ⟨PyData.keyHash P "__static_attributes__", (.str "__static_attributes__" 474), (.ref 235)⟩, ⟨PyData.keyHash P "__doc__", (.str "__doc__" 475), .none⟩]) 2), (List.toArray [])⟩
def o237 (P : Params) : Obj := ⟨(.type "type"), none, (.cls ⟨"Paired", [(.ref 122)], [(.ref 237), (.ref 122), (.type "object")], 236, "Paired", true, [], [(.ref 270), (.ref 303)], false, none, false⟩), (List.toArray [(some (.ref 207)), none, (some (.str "Paired" 436)), (some (.str "Paired" 444)), (some (.builtin "object.__new__")), (some (.bool true))])⟩
def o259 (P : Params) : Obj := ⟨(.type "code"), none, (.fields (List.toArray [(.str "told" 498), (.str "Both.told" 499), (.str "/claim/cut.py" 500), (.int (92) 0), (.int (1) 0), (.int (0) 0), (.int (0) 0), (.int (3) 0), (.ref 254), (.bool true), (.int (181) 0), (.ref 255), .none, (.ref 256), (.ref 257), (.ref 258), (.int (502) 0), (.int (92) 0), (.str "/claim/cut.py" 503)])), (List.toArray [])⟩
def o260 (P : Params) : Obj := ⟨(.type "function"), none, (.func ⟨"told", "Both.told", defArgs s_Both_told, .stmts (defBody s_Both_told), defScope s_Both_told, 3, [], .none, .none, .none, (.str "planledger.trials" 239), none, (.ref 259), .none, 0⟩), (List.toArray [])⟩
def o269 (P : Params) : Obj := ⟨(.type "dict"), none, (.dict (List.toArray [⟨PyData.keyHash P "__module__", (.str "__module__" 485), (.str "planledger.trials" 239)⟩, ⟨PyData.keyHash P "__firstlineno__", (.str "__firstlineno__" 489), (.int (87) 488)⟩, ⟨PyData.keyHash P "with_questions", (.str "with_questions" 497), (.ref 253)⟩, ⟨PyData.keyHash P "told", (.str "told" 504), (.ref 260)⟩, ⟨PyData.keyHash P "holds", (.str "holds" 514), (.ref 267)⟩, ⟨PyData.keyHash P "__static_attributes__", (.str "__static_attributes__" 515), (.ref 268)⟩, ⟨PyData.keyHash P "__doc__", (.str "__doc__" 516), .none⟩]) 2), (List.toArray [])⟩
def o270 (P : Params) : Obj := ⟨(.type "type"), none, (.cls ⟨"Both", [(.ref 237)], [(.ref 270), (.ref 237), (.ref 122), (.type "object")], 269, "Both", true, [], [], false, none, false⟩), (List.toArray [(some (.ref 240)), none, (some (.str "Both" 478)), (some (.str "Both" 486)), (some (.builtin "object.__new__")), (some (.bool true))])⟩
def o292 (P : Params) : Obj := ⟨(.type "code"), none, (.fields (List.toArray [(.str "told" 539), (.str "Either.told" 540), (.str "/claim/cut.py" 541), (.int (102) 0), (.int (1) 0), (.int (0) 0), (.int (0) 0), (.int (3) 0), (.ref 287), (.bool true), (.int (181) 0), (.ref 288), .none, (.ref 289), (.ref 290), (.ref 291), (.int (543) 0), (.int (102) 0), (.str "/claim/cut.py" 544)])), (List.toArray [])⟩
def o293 (P : Params) : Obj := ⟨(.type "function"), none, (.func ⟨"told", "Either.told", defArgs s_Either_told, .stmts (defBody s_Either_told), defScope s_Either_told, 3, [], .none, .none, .none, (.str "planledger.trials" 239), none, (.ref 292), .none, 0⟩), (List.toArray [])⟩
def o302 (P : Params) : Obj := ⟨(.type "dict"), none, (.dict (List.toArray [⟨PyData.keyHash P "__module__", (.str "__module__" 526), (.str "planledger.trials" 239)⟩, ⟨PyData.keyHash P "__firstlineno__", (.str "__firstlineno__" 530), (.int (97) 529)⟩, ⟨PyData.keyHash P "with_questions", (.str "with_questions" 538), (.ref 286)⟩, ⟨PyData.keyHash P "told", (.str "told" 545), (.ref 293)⟩, ⟨PyData.keyHash P "holds", (.str "holds" 555), (.ref 300)⟩, ⟨PyData.keyHash P "__static_attributes__", (.str "__static_attributes__" 556), (.ref 301)⟩, ⟨PyData.keyHash P "__doc__", (.str "__doc__" 557), .none⟩]) 2), (List.toArray [])⟩
def o303 (P : Params) : Obj := ⟨(.type "type"), none, (.cls ⟨"Either", [(.ref 237)], [(.ref 303), (.ref 237), (.ref 122), (.type "object")], 302, "Either", true, [], [], false, none, false⟩), (List.toArray [(some (.ref 273)), none, (some (.str "Either" 519)), (some (.str "Either" 527)), (some (.builtin "object.__new__")), (some (.bool true))])⟩
def o318 (P : Params) : Obj := ⟨(.type "code"), none, (.fields (List.toArray [(.str "__init__" 572), (.str "Not.__init__" 573), (.str "/claim/cut.py" 574), (.int (109) 0), (.int (2) 0), (.int (0) 0), (.int (0) 0), (.int (3) 0), (.ref 313), (.bool true), (.int (181) 0), (.ref 314), .none, (.ref 315), (.ref 316), (.ref 317), (.int (577) 0), (.int (109) 0), (.str "/claim/cut.py" 578)])), (List.toArray [])⟩
def o319 (P : Params) : Obj := ⟨(.type "function"), none, (.func ⟨"__init__", "Not.__init__", defArgs s_Not___init, .stmts (defBody s_Not___init), defScope s_Not___init, 3, [], .none, .none, .none, (.str "planledger.trials" 239), none, (.ref 318), .none, 0⟩), (List.toArray [])⟩
def o339 (P : Params) : Obj := ⟨(.type "code"), none, (.fields (List.toArray [(.str "told" 595), (.str "Not.told" 596), (.str "/claim/cut.py" 597), (.int (118) 0), (.int (1) 0), (.int (0) 0), (.int (0) 0), (.int (3) 0), (.ref 334), (.bool true), (.int (181) 0), (.ref 335), .none, (.ref 336), (.ref 337), (.ref 338), (.int (599) 0), (.int (118) 0), (.str "/claim/cut.py" 600)])), (List.toArray [])⟩
def o340 (P : Params) : Obj := ⟨(.type "function"), none, (.func ⟨"told", "Not.told", defArgs s_Not_told, .stmts (defBody s_Not_told), defScope s_Not_told, 3, [], .none, .none, .none, (.str "planledger.trials" 239), none, (.ref 339), .none, 0⟩), (List.toArray [])⟩
def o349 (P : Params) : Obj := ⟨(.type "dict"), none, (.dict (List.toArray [⟨PyData.keyHash P "__module__", (.str "__module__" 567), (.str "planledger.trials" 239)⟩, ⟨PyData.keyHash P "__firstlineno__", (.str "__firstlineno__" 571), (.int (107) 570)⟩, ⟨PyData.keyHash P "__init__", (.str "__init__" 579), (.ref 319)⟩, ⟨PyData.keyHash P "parts", (.str "parts" 586), (.ref 326)⟩, ⟨PyData.keyHash P "with_questions", (.str "with_questions" 594), (.ref 333)⟩, ⟨PyData.keyHash P "told", (.str "told" 601), (.ref 340)⟩, ⟨PyData.keyHash P "holds", (.str "holds" 611), (.ref 347)⟩, ⟨PyData.keyHash P "__static_attributes__", (.str "__static_attributes__" 613), (.ref 348)⟩, ⟨PyData.keyHash P "__doc__", (.str "__doc__" 614), .none⟩]) 2), (List.toArray [])⟩
def o350 (P : Params) : Obj := ⟨(.type "type"), none, (.cls ⟨"Not", [(.ref 122)], [(.ref 350), (.ref 122), (.type "object")], 349, "Not", true, [], [], false, none, false⟩), (List.toArray [(some (.ref 306)), none, (some (.str "Not" 560)), (some (.str "Not" 568)), (some (.builtin "object.__new__")), (some (.bool true))])⟩
def o365 (P : Params) : Obj := ⟨(.type "code"), none, (.fields (List.toArray [(.str "__init__" 629), (.str "Among.__init__" 630), (.str "/claim/cut.py" 631), (.int (125) 0), (.int (3) 0), (.int (0) 0), (.int (0) 0), (.int (3) 0), (.ref 360), (.bool true), (.int (181) 0), (.ref 361), .none, (.ref 362), (.ref 363), (.ref 364), (.int (635) 0), (.int (125) 0), (.str "/claim/cut.py" 636)])), (List.toArray [])⟩
def o366 (P : Params) : Obj := ⟨(.type "function"), none, (.func ⟨"__init__", "Among.__init__", defArgs s_Among___init, .stmts (defBody s_Among___init), defScope s_Among___init, 3, [], .none, .none, .none, (.str "planledger.trials" 239), none, (.ref 365), .none, 0⟩), (List.toArray [])⟩
def o400 (P : Params) : Obj := ⟨(.type "code"), none, (.fields (List.toArray [(.str "told" 667), (.str "Among.told" 668), (.str "/claim/cut.py" 669), (.int (141) 0), (.int (1) 0), (.int (0) 0), (.int (0) 0), (.int (3) 0), (.ref 395), (.bool true), (.int (181) 0), (.ref 396), .none, (.ref 397), (.ref 398), (.ref 399), (.int (671) 0), (.int (141) 0), (.str "/claim/cut.py" 672)])), (List.toArray [])⟩
def o401 (P : Params) : Obj := ⟨(.type "function"), none, (.func ⟨"told", "Among.told", defArgs s_Among_told, .stmts (defBody s_Among_told), defScope s_Among_told, 3, [], .none, .none, .none, (.str "planledger.trials" 239), none, (.ref 400), .none, 0⟩), (List.toArray [])⟩
def o410 (P : Params) : Obj := ⟨(.type "dict"), none, (.dict (List.toArray [⟨PyData.keyHash P "__module__", (.str "__module__" 624), (.str "planledger.trials" 239)⟩, ⟨PyData.keyHash P "__firstlineno__", (.str "__firstlineno__" 628), (.int (123) 627)⟩, ⟨PyData.keyHash P "__init__", (.str "__init__" 637), (.ref 366)⟩, ⟨PyData.keyHash P "needs", (.str "needs" 644), (.ref 373)⟩, ⟨PyData.keyHash P "plain", (.str "plain" 651), (.ref 380)⟩, ⟨PyData.keyHash P "questions", (.str "questions" 658), (.ref 387)⟩, ⟨PyData.keyHash P "with_questions", (.str "with_questions" 666), (.ref 394)⟩, ⟨PyData.keyHash P "told", (.str "told" 673), (.ref 401)⟩, ⟨PyData.keyHash P "holds", (.str "holds" 683), (.ref 408)⟩, ⟨PyData.keyHash P "__static_attributes__", (.str "__static_attributes__" 686), (.ref 409)⟩, ⟨PyData.keyHash P "__doc__", (.str "__doc__" 687), .none⟩]) 2), (List.toArray [])⟩
def o411 (P : Params) : Obj := ⟨(.type "type"), none, (.cls ⟨"Among", [(.ref 122)], [(.ref 411), (.ref 122), (.type "object")], 410, "Among", true, [], [], false, none, false⟩), (List.toArray [(some (.ref 353)), none, (some (.str "Among" 617)), (some (.str "Among" 625)), (some (.builtin "object.__new__")), (some (.bool true))])⟩
def o420 (P : Params) : Obj := ⟨(.type "code"), none, (.fields (List.toArray [(.str "refuse" 695), (.str "refuse" 696), (.str "/claim/cut.py" 697), (.int (148) 0), (.int (2) 0), (.int (0) 0), (.int (0) 0), (.int (3) 0), (.ref 415), (.bool true), (.int (181) 0), (.ref 416), .none, (.ref 417), (.ref 418), (.ref 419), (.int (700) 0), (.int (148) 0), (.str "/claim/cut.py" 701)])), (List.toArray [])⟩
def o421 (P : Params) : Obj := ⟨(.type "function"), none, (.func ⟨"refuse", "refuse", defArgs s_refuse, .stmts (defBody s_refuse), defScope s_refuse, 3, [], .none, .none, .none, (.str "planledger.questions" 690), none, (.ref 420), .none, 0⟩), (List.toArray [])⟩
def o462 (P : Params) : Obj := ⟨(.type "code"), none, (.fields (List.toArray [(.str "told" 746), (.str "Question.told" 747), (.str "/claim/cut.py" 748), (.int (170) 0), (.int (1) 0), (.int (0) 0), (.int (0) 0), (.int (3) 0), (.ref 457), (.bool true), (.int (181) 0), (.ref 458), .none, (.ref 459), (.ref 460), (.ref 461), (.int (750) 0), (.int (170) 0), (.str "/claim/cut.py" 751)])), (List.toArray [])⟩
def o463 (P : Params) : Obj := ⟨(.type "function"), none, (.func ⟨"told", "Question.told", defArgs s_Question_told, .stmts (defBody s_Question_told), defScope s_Question_told, 3, [], .none, .none, .none, (.str "planledger.questions" 690), none, (.ref 462), .none, 0⟩), (List.toArray [])⟩
def o484 (P : Params) : Obj := ⟨(.type "dict"), none, (.dict (List.toArray [⟨PyData.keyHash P "__module__", (.str "__module__" 726), (.str "planledger.questions" 690)⟩, ⟨PyData.keyHash P "__firstlineno__", (.str "__firstlineno__" 730), (.int (162) 729)⟩, ⟨PyData.keyHash P "children", (.str "children" 737), (.ref 449)⟩, ⟨PyData.keyHash P "with_children", (.str "with_children" 745), (.ref 456)⟩, ⟨PyData.keyHash P "told", (.str "told" 752), (.ref 463)⟩, ⟨PyData.keyHash P "formed", (.str "formed" 762), (.ref 470)⟩, ⟨PyData.keyHash P "columns_at", (.str "columns_at" 768), (.ref 475)⟩, ⟨PyData.keyHash P "columns", (.str "columns" 776), (.ref 482)⟩, ⟨PyData.keyHash P "__static_attributes__", (.str "__static_attributes__" 777), (.ref 483)⟩, ⟨PyData.keyHash P "__dict__", (.str "__dict__" 779), (.ref 486)⟩, ⟨PyData.keyHash P "__weakref__", (.str "__weakref__" 781), (.ref 487)⟩, ⟨PyData.keyHash P "__doc__", (.str "__doc__" 782), .none⟩]) 4), (List.toArray [])⟩
def o485 (P : Params) : Obj := ⟨(.type "type"), none, (.cls ⟨"Question", [(.type "object")], [(.ref 485), (.type "object")], 484, "Question", true, [], [(.ref 520), (.ref 565), (.ref 612), (.ref 657), (.ref 704), (.ref 751), (.ref 798)], false, none, false⟩), (List.toArray [none, none, (some (.str "Question" 719)), (some (.str "Question" 727)), (some (.builtin "object.__new__")), (some (.bool true))])⟩
def o502 (P : Params) : Obj := ⟨(.type "code"), none, (.fields (List.toArray [(.str "__init__" 797), (.str "Table.__init__" 798), (.str "/claim/cut.py" 799), (.int (185) 0), (.int (2) 0), (.int (0) 0), (.int (0) 0), (.int (3) 0), (.ref 497), (.bool true), (.int (181) 0), (.ref 498), .none, (.ref 499), (.ref 500), (.ref 501), (.int (802) 0), (.int (185) 0), (.str "/claim/cut.py" 803)])), (List.toArray [])⟩
def o503 (P : Params) : Obj := ⟨(.type "function"), none, (.func ⟨"__init__", "Table.__init__", defArgs s_Table___init, .stmts (defBody s_Table___init), defScope s_Table___init, 3, [], .none, .none, .none, (.str "planledger.questions" 690), none, (.ref 502), .none, 0⟩), (List.toArray [])⟩
def o509 (P : Params) : Obj := ⟨(.type "code"), none, (.fields (List.toArray [(.str "told" 805), (.str "Table.told" 806), (.str "/claim/cut.py" 807), (.int (188) 0), (.int (1) 0), (.int (0) 0), (.int (0) 0), (.int (3) 0), (.ref 504), (.bool true), (.int (181) 0), (.ref 505), .none, (.ref 506), (.ref 507), (.ref 508), (.int (809) 0), (.int (188) 0), (.str "/claim/cut.py" 810)])), (List.toArray [])⟩
def o510 (P : Params) : Obj := ⟨(.type "function"), none, (.func ⟨"told", "Table.told", defArgs s_Table_told, .stmts (defBody s_Table_told), defScope s_Table_told, 3, [], .none, .none, .none, (.str "planledger.questions" 690), none, (.ref 509), .none, 0⟩), (List.toArray [])⟩
def o519 (P : Params) : Obj := ⟨(.type "dict"), none, (.dict (List.toArray [⟨PyData.keyHash P "__module__", (.str "__module__" 792), (.str "planledger.questions" 690)⟩, ⟨PyData.keyHash P "__firstlineno__", (.str "__firstlineno__" 796), (.int (183) 795)⟩, ⟨PyData.keyHash P "__init__", (.str "__init__" 804), (.ref 503)⟩, ⟨PyData.keyHash P "told", (.str "told" 811), (.ref 510)⟩, ⟨PyData.keyHash P "formed", (.str "formed" 821), (.ref 517)⟩, ⟨PyData.keyHash P "__static_attributes__", (.str "__static_attributes__" 823), (.ref 518)⟩, ⟨PyData.keyHash P "__doc__", (.str "__doc__" 824), .none⟩]) 2), (List.toArray [])⟩
def o520 (P : Params) : Obj := ⟨(.type "type"), none, (.cls ⟨"Table", [(.ref 485)], [(.ref 520), (.ref 485), (.type "object")], 519, "Table", true, [], [], false, none, false⟩), (List.toArray [(some (.ref 490)), none, (some (.str "Table" 785)), (some (.str "Table" 793)), (some (.builtin "object.__new__")), (some (.bool true))])⟩
def o535 (P : Params) : Obj := ⟨(.type "code"), none, (.fields (List.toArray [(.str "__init__" 839), (.str "Where.__init__" 840), (.str "/claim/cut.py" 841), (.int (196) 0), (.int (3) 0), (.int (0) 0), (.int (0) 0), (.int (3) 0), (.ref 530), (.bool true), (.int (181) 0), (.ref 531), .none, (.ref 532), (.ref 533), (.ref 534), (.int (845) 0), (.int (196) 0), (.str "/claim/cut.py" 846)])), (List.toArray [])⟩
def o536 (P : Params) : Obj := ⟨(.type "function"), none, (.func ⟨"__init__", "Where.__init__", defArgs s_Where___init, .stmts (defBody s_Where___init), defScope s_Where___init, 3, [], .none, .none, .none, (.str "planledger.questions" 690), none, (.ref 535), .none, 0⟩), (List.toArray [])⟩
def o556 (P : Params) : Obj := ⟨(.type "code"), none, (.fields (List.toArray [(.str "told" 863), (.str "Where.told" 864), (.str "/claim/cut.py" 865), (.int (206) 0), (.int (1) 0), (.int (0) 0), (.int (0) 0), (.int (3) 0), (.ref 551), (.bool true), (.int (181) 0), (.ref 552), .none, (.ref 553), (.ref 554), (.ref 555), (.int (867) 0), (.int (206) 0), (.str "/claim/cut.py" 868)])), (List.toArray [])⟩
def o557 (P : Params) : Obj := ⟨(.type "function"), none, (.func ⟨"told", "Where.told", defArgs s_Where_told, .stmts (defBody s_Where_told), defScope s_Where_told, 3, [], .none, .none, .none, (.str "planledger.questions" 690), none, (.ref 556), .none, 0⟩), (List.toArray [])⟩
def o564 (P : Params) : Obj := ⟨(.type "dict"), none, (.dict (List.toArray [⟨PyData.keyHash P "__module__", (.str "__module__" 834), (.str "planledger.questions" 690)⟩, ⟨PyData.keyHash P "__firstlineno__", (.str "__firstlineno__" 838), (.int (194) 837)⟩, ⟨PyData.keyHash P "__init__", (.str "__init__" 847), (.ref 536)⟩, ⟨PyData.keyHash P "children", (.str "children" 854), (.ref 543)⟩, ⟨PyData.keyHash P "with_children", (.str "with_children" 862), (.ref 550)⟩, ⟨PyData.keyHash P "told", (.str "told" 869), (.ref 557)⟩, ⟨PyData.keyHash P "formed", (.str "formed" 875), (.ref 562)⟩, ⟨PyData.keyHash P "__static_attributes__", (.str "__static_attributes__" 878), (.ref 563)⟩, ⟨PyData.keyHash P "__doc__", (.str "__doc__" 879), .none⟩]) 2), (List.toArray [])⟩
def o565 (P : Params) : Obj := ⟨(.type "type"), none, (.cls ⟨"Where", [(.ref 485)], [(.ref 565), (.ref 485), (.type "object")], 564, "Where", true, [], [], false, none, false⟩), (List.toArray [(some (.ref 523)), none, (some (.str "Where" 827)), (some (.str "Where" 835)), (some (.builtin "object.__new__")), (some (.bool true))])⟩
def o580 (P : Params) : Obj := ⟨(.type "code"), none, (.fields (List.toArray [(.str "__init__" 894), (.str "Columns.__init__" 895), (.str "/claim/cut.py" 896), (.int (216) 0), (.int (3) 0), (.int (0) 0), (.int (0) 0), (.int (3) 0), (.ref 575), (.bool true), (.int (181) 0), (.ref 576), .none, (.ref 577), (.ref 578), (.ref 579), (.int (900) 0), (.int (216) 0), (.str "/claim/cut.py" 901)])), (List.toArray [])⟩
def o581 (P : Params) : Obj := ⟨(.type "function"), none, (.func ⟨"__init__", "Columns.__init__", defArgs s_Columns___init, .stmts (defBody s_Columns___init), defScope s_Columns___init, 3, [], .none, .none, .none, (.str "planledger.questions" 690), none, (.ref 580), .none, 0⟩), (List.toArray [])⟩
def o601 (P : Params) : Obj := ⟨(.type "code"), none, (.fields (List.toArray [(.str "told" 918), (.str "Columns.told" 919), (.str "/claim/cut.py" 920), (.int (226) 0), (.int (1) 0), (.int (0) 0), (.int (0) 0), (.int (3) 0), (.ref 596), (.bool true), (.int (181) 0), (.ref 597), .none, (.ref 598), (.ref 599), (.ref 600), (.int (922) 0), (.int (226) 0), (.str "/claim/cut.py" 923)])), (List.toArray [])⟩
def o602 (P : Params) : Obj := ⟨(.type "function"), none, (.func ⟨"told", "Columns.told", defArgs s_Columns_told, .stmts (defBody s_Columns_told), defScope s_Columns_told, 3, [], .none, .none, .none, (.str "planledger.questions" 690), none, (.ref 601), .none, 0⟩), (List.toArray [])⟩
def o611 (P : Params) : Obj := ⟨(.type "dict"), none, (.dict (List.toArray [⟨PyData.keyHash P "__module__", (.str "__module__" 889), (.str "planledger.questions" 690)⟩, ⟨PyData.keyHash P "__firstlineno__", (.str "__firstlineno__" 893), (.int (214) 892)⟩, ⟨PyData.keyHash P "__init__", (.str "__init__" 902), (.ref 581)⟩, ⟨PyData.keyHash P "children", (.str "children" 909), (.ref 588)⟩, ⟨PyData.keyHash P "with_children", (.str "with_children" 917), (.ref 595)⟩, ⟨PyData.keyHash P "told", (.str "told" 924), (.ref 602)⟩, ⟨PyData.keyHash P "formed", (.str "formed" 934), (.ref 609)⟩, ⟨PyData.keyHash P "__static_attributes__", (.str "__static_attributes__" 937), (.ref 610)⟩, ⟨PyData.keyHash P "__doc__", (.str "__doc__" 938), .none⟩]) 2), (List.toArray [])⟩
def o612 (P : Params) : Obj := ⟨(.type "type"), none, (.cls ⟨"Columns", [(.ref 485)], [(.ref 612), (.ref 485), (.type "object")], 611, "Columns", true, [], [], false, none, false⟩), (List.toArray [(some (.ref 568)), none, (some (.str "Columns" 882)), (some (.str "Columns" 890)), (some (.builtin "object.__new__")), (some (.bool true))])⟩
def o627 (P : Params) : Obj := ⟨(.type "code"), none, (.fields (List.toArray [(.str "__init__" 953), (.str "Joined.__init__" 954), (.str "/claim/cut.py" 955), (.int (234) 0), (.int (3) 0), (.int (0) 0), (.int (0) 0), (.int (3) 0), (.ref 622), (.bool true), (.int (181) 0), (.ref 623), .none, (.ref 624), (.ref 625), (.ref 626), (.int (959) 0), (.int (234) 0), (.str "/claim/cut.py" 960)])), (List.toArray [])⟩
def o628 (P : Params) : Obj := ⟨(.type "function"), none, (.func ⟨"__init__", "Joined.__init__", defArgs s_Joined___init, .stmts (defBody s_Joined___init), defScope s_Joined___init, 3, [], .none, .none, .none, (.str "planledger.questions" 690), none, (.ref 627), .none, 0⟩), (List.toArray [])⟩
def o648 (P : Params) : Obj := ⟨(.type "code"), none, (.fields (List.toArray [(.str "told" 977), (.str "Joined.told" 978), (.str "/claim/cut.py" 979), (.int (244) 0), (.int (1) 0), (.int (0) 0), (.int (0) 0), (.int (3) 0), (.ref 643), (.bool true), (.int (181) 0), (.ref 644), .none, (.ref 645), (.ref 646), (.ref 647), (.int (981) 0), (.int (244) 0), (.str "/claim/cut.py" 982)])), (List.toArray [])⟩
def o649 (P : Params) : Obj := ⟨(.type "function"), none, (.func ⟨"told", "Joined.told", defArgs s_Joined_told, .stmts (defBody s_Joined_told), defScope s_Joined_told, 3, [], .none, .none, .none, (.str "planledger.questions" 690), none, (.ref 648), .none, 0⟩), (List.toArray [])⟩
def o656 (P : Params) : Obj := ⟨(.type "dict"), none, (.dict (List.toArray [⟨PyData.keyHash P "__module__", (.str "__module__" 948), (.str "planledger.questions" 690)⟩, ⟨PyData.keyHash P "__firstlineno__", (.str "__firstlineno__" 952), (.int (232) 951)⟩, ⟨PyData.keyHash P "__init__", (.str "__init__" 961), (.ref 628)⟩, ⟨PyData.keyHash P "children", (.str "children" 968), (.ref 635)⟩, ⟨PyData.keyHash P "with_children", (.str "with_children" 976), (.ref 642)⟩, ⟨PyData.keyHash P "told", (.str "told" 983), (.ref 649)⟩, ⟨PyData.keyHash P "formed", (.str "formed" 989), (.ref 654)⟩, ⟨PyData.keyHash P "__static_attributes__", (.str "__static_attributes__" 992), (.ref 655)⟩, ⟨PyData.keyHash P "__doc__", (.str "__doc__" 993), .none⟩]) 2), (List.toArray [])⟩
def o657 (P : Params) : Obj := ⟨(.type "type"), none, (.cls ⟨"Joined", [(.ref 485)], [(.ref 657), (.ref 485), (.type "object")], 656, "Joined", true, [], [], false, none, false⟩), (List.toArray [(some (.ref 615)), none, (some (.str "Joined" 941)), (some (.str "Joined" 949)), (some (.builtin "object.__new__")), (some (.bool true))])⟩
def o672 (P : Params) : Obj := ⟨(.type "code"), none, (.fields (List.toArray [(.str "__init__" 1008), (.str "Sums.__init__" 1009), (.str "/claim/cut.py" 1010), (.int (251) 0), (.int (4) 0), (.int (0) 0), (.int (0) 0), (.int (3) 0), (.ref 667), (.bool true), (.int (181) 0), (.ref 668), .none, (.ref 669), (.ref 670), (.ref 671), (.int (1015) 0), (.int (251) 0), (.str "/claim/cut.py" 1016)])), (List.toArray [])⟩
def o673 (P : Params) : Obj := ⟨(.type "function"), none, (.func ⟨"__init__", "Sums.__init__", defArgs s_Sums___init, .stmts (defBody s_Sums___init), defScope s_Sums___init, 3, [], .none, .none, .none, (.str "planledger.questions" 690), none, (.ref 672), .none, 0⟩), (List.toArray [])⟩
def o693 (P : Params) : Obj := ⟨(.type "code"), none, (.fields (List.toArray [(.str "told" 1033), (.str "Sums.told" 1034), (.str "/claim/cut.py" 1035), (.int (262) 0), (.int (1) 0), (.int (0) 0), (.int (0) 0), (.int (3) 0), (.ref 688), (.bool true), (.int (181) 0), (.ref 689), .none, (.ref 690), (.ref 691), (.ref 692), (.int (1037) 0), (.int (262) 0), (.str "/claim/cut.py" 1038)])), (List.toArray [])⟩
def o694 (P : Params) : Obj := ⟨(.type "function"), none, (.func ⟨"told", "Sums.told", defArgs s_Sums_told, .stmts (defBody s_Sums_told), defScope s_Sums_told, 3, [], .none, .none, .none, (.str "planledger.questions" 690), none, (.ref 693), .none, 0⟩), (List.toArray [])⟩
def o703 (P : Params) : Obj := ⟨(.type "dict"), none, (.dict (List.toArray [⟨PyData.keyHash P "__module__", (.str "__module__" 1003), (.str "planledger.questions" 690)⟩, ⟨PyData.keyHash P "__firstlineno__", (.str "__firstlineno__" 1007), (.int (249) 1006)⟩, ⟨PyData.keyHash P "__init__", (.str "__init__" 1017), (.ref 673)⟩, ⟨PyData.keyHash P "children", (.str "children" 1024), (.ref 680)⟩, ⟨PyData.keyHash P "with_children", (.str "with_children" 1032), (.ref 687)⟩, ⟨PyData.keyHash P "told", (.str "told" 1039), (.ref 694)⟩, ⟨PyData.keyHash P "formed", (.str "formed" 1049), (.ref 701)⟩, ⟨PyData.keyHash P "__static_attributes__", (.str "__static_attributes__" 1053), (.ref 702)⟩, ⟨PyData.keyHash P "__doc__", (.str "__doc__" 1054), .none⟩]) 2), (List.toArray [])⟩
def o704 (P : Params) : Obj := ⟨(.type "type"), none, (.cls ⟨"Sums", [(.ref 485)], [(.ref 704), (.ref 485), (.type "object")], 703, "Sums", true, [], [], false, none, false⟩), (List.toArray [(some (.ref 660)), none, (some (.str "Sums" 996)), (some (.str "Sums" 1004)), (some (.builtin "object.__new__")), (some (.bool true))])⟩
def o719 (P : Params) : Obj := ⟨(.type "code"), none, (.fields (List.toArray [(.str "__init__" 1069), (.str "Ordered.__init__" 1070), (.str "/claim/cut.py" 1071), (.int (271) 0), (.int (3) 0), (.int (0) 0), (.int (0) 0), (.int (3) 0), (.ref 714), (.bool true), (.int (181) 0), (.ref 715), .none, (.ref 716), (.ref 717), (.ref 718), (.int (1075) 0), (.int (271) 0), (.str "/claim/cut.py" 1076)])), (List.toArray [])⟩
def o720 (P : Params) : Obj := ⟨(.type "function"), none, (.func ⟨"__init__", "Ordered.__init__", defArgs s_Ordered___init, .stmts (defBody s_Ordered___init), defScope s_Ordered___init, 3, [], .none, .none, .none, (.str "planledger.questions" 690), none, (.ref 719), .none, 0⟩), (List.toArray [])⟩
def o740 (P : Params) : Obj := ⟨(.type "code"), none, (.fields (List.toArray [(.str "told" 1093), (.str "Ordered.told" 1094), (.str "/claim/cut.py" 1095), (.int (281) 0), (.int (1) 0), (.int (0) 0), (.int (0) 0), (.int (3) 0), (.ref 735), (.bool true), (.int (181) 0), (.ref 736), .none, (.ref 737), (.ref 738), (.ref 739), (.int (1097) 0), (.int (281) 0), (.str "/claim/cut.py" 1098)])), (List.toArray [])⟩
def o741 (P : Params) : Obj := ⟨(.type "function"), none, (.func ⟨"told", "Ordered.told", defArgs s_Ordered_told, .stmts (defBody s_Ordered_told), defScope s_Ordered_told, 3, [], .none, .none, .none, (.str "planledger.questions" 690), none, (.ref 740), .none, 0⟩), (List.toArray [])⟩
def o750 (P : Params) : Obj := ⟨(.type "dict"), none, (.dict (List.toArray [⟨PyData.keyHash P "__module__", (.str "__module__" 1064), (.str "planledger.questions" 690)⟩, ⟨PyData.keyHash P "__firstlineno__", (.str "__firstlineno__" 1068), (.int (269) 1067)⟩, ⟨PyData.keyHash P "__init__", (.str "__init__" 1077), (.ref 720)⟩, ⟨PyData.keyHash P "children", (.str "children" 1084), (.ref 727)⟩, ⟨PyData.keyHash P "with_children", (.str "with_children" 1092), (.ref 734)⟩, ⟨PyData.keyHash P "told", (.str "told" 1099), (.ref 741)⟩, ⟨PyData.keyHash P "formed", (.str "formed" 1109), (.ref 748)⟩, ⟨PyData.keyHash P "__static_attributes__", (.str "__static_attributes__" 1112), (.ref 749)⟩, ⟨PyData.keyHash P "__doc__", (.str "__doc__" 1113), .none⟩]) 2), (List.toArray [])⟩
def o751 (P : Params) : Obj := ⟨(.type "type"), none, (.cls ⟨"Ordered", [(.ref 485)], [(.ref 751), (.ref 485), (.type "object")], 750, "Ordered", true, [], [], false, none, false⟩), (List.toArray [(some (.ref 707)), none, (some (.str "Ordered" 1057)), (some (.str "Ordered" 1065)), (some (.builtin "object.__new__")), (some (.bool true))])⟩
def o766 (P : Params) : Obj := ⟨(.type "code"), none, (.fields (List.toArray [(.str "__init__" 1128), (.str "First.__init__" 1129), (.str "/claim/cut.py" 1130), (.int (289) 0), (.int (3) 0), (.int (0) 0), (.int (0) 0), (.int (3) 0), (.ref 761), (.bool true), (.int (181) 0), (.ref 762), .none, (.ref 763), (.ref 764), (.ref 765), (.int (1134) 0), (.int (289) 0), (.str "/claim/cut.py" 1135)])), (List.toArray [])⟩
def o767 (P : Params) : Obj := ⟨(.type "function"), none, (.func ⟨"__init__", "First.__init__", defArgs s_First___init, .stmts (defBody s_First___init), defScope s_First___init, 3, [], .none, .none, .none, (.str "planledger.questions" 690), none, (.ref 766), .none, 0⟩), (List.toArray [])⟩
def o787 (P : Params) : Obj := ⟨(.type "code"), none, (.fields (List.toArray [(.str "told" 1152), (.str "First.told" 1153), (.str "/claim/cut.py" 1154), (.int (299) 0), (.int (1) 0), (.int (0) 0), (.int (0) 0), (.int (3) 0), (.ref 782), (.bool true), (.int (181) 0), (.ref 783), .none, (.ref 784), (.ref 785), (.ref 786), (.int (1156) 0), (.int (299) 0), (.str "/claim/cut.py" 1157)])), (List.toArray [])⟩
def o788 (P : Params) : Obj := ⟨(.type "function"), none, (.func ⟨"told", "First.told", defArgs s_First_told, .stmts (defBody s_First_told), defScope s_First_told, 3, [], .none, .none, .none, (.str "planledger.questions" 690), none, (.ref 787), .none, 0⟩), (List.toArray [])⟩
def o797 (P : Params) : Obj := ⟨(.type "dict"), none, (.dict (List.toArray [⟨PyData.keyHash P "__module__", (.str "__module__" 1123), (.str "planledger.questions" 690)⟩, ⟨PyData.keyHash P "__firstlineno__", (.str "__firstlineno__" 1127), (.int (287) 1126)⟩, ⟨PyData.keyHash P "__init__", (.str "__init__" 1136), (.ref 767)⟩, ⟨PyData.keyHash P "children", (.str "children" 1143), (.ref 774)⟩, ⟨PyData.keyHash P "with_children", (.str "with_children" 1151), (.ref 781)⟩, ⟨PyData.keyHash P "told", (.str "told" 1158), (.ref 788)⟩, ⟨PyData.keyHash P "formed", (.str "formed" 1168), (.ref 795)⟩, ⟨PyData.keyHash P "__static_attributes__", (.str "__static_attributes__" 1171), (.ref 796)⟩, ⟨PyData.keyHash P "__doc__", (.str "__doc__" 1172), .none⟩]) 2), (List.toArray [])⟩
def o798 (P : Params) : Obj := ⟨(.type "type"), none, (.cls ⟨"First", [(.ref 485)], [(.ref 798), (.ref 485), (.type "object")], 797, "First", true, [], [], false, none, false⟩), (List.toArray [(some (.ref 754)), none, (some (.str "First" 1116)), (some (.str "First" 1124)), (some (.builtin "object.__new__")), (some (.bool true))])⟩
def o806 (P : Params) : Obj := ⟨(.type "code"), none, (.fields (List.toArray [(.str "is_name" 1175), (.str "is_name" 1176), (.str "/claim/cut.py" 1177), (.int (305) 0), (.int (1) 0), (.int (0) 0), (.int (0) 0), (.int (3) 0), (.ref 801), (.bool true), (.int (181) 0), (.ref 802), .none, (.ref 803), (.ref 804), (.ref 805), (.int (1179) 0), (.int (305) 0), (.str "/claim/cut.py" 1180)])), (List.toArray [])⟩
def o807 (P : Params) : Obj := ⟨(.type "function"), none, (.func ⟨"is_name", "is_name", defArgs s_is_name, .stmts (defBody s_is_name), defScope s_is_name, 3, [], .none, .none, .none, (.str "planledger.questions" 690), none, (.ref 806), .none, 0⟩), (List.toArray [])⟩
def o813 (P : Params) : Obj := ⟨(.type "code"), none, (.fields (List.toArray [(.str "is_number" 1182), (.str "is_number" 1183), (.str "/claim/cut.py" 1184), (.int (307) 0), (.int (1) 0), (.int (0) 0), (.int (0) 0), (.int (3) 0), (.ref 808), (.bool true), (.int (181) 0), (.ref 809), .none, (.ref 810), (.ref 811), (.ref 812), (.int (1186) 0), (.int (307) 0), (.str "/claim/cut.py" 1187)])), (List.toArray [])⟩
def o814 (P : Params) : Obj := ⟨(.type "function"), none, (.func ⟨"is_number", "is_number", defArgs s_is_number, .stmts (defBody s_is_number), defScope s_is_number, 3, [], .none, .none, .none, (.str "planledger.questions" 690), none, (.ref 813), .none, 0⟩), (List.toArray [])⟩
def o820 (P : Params) : Obj := ⟨(.type "code"), none, (.fields (List.toArray [(.str "is_bound" 1189), (.str "is_bound" 1190), (.str "/claim/cut.py" 1191), (.int (309) 0), (.int (1) 0), (.int (0) 0), (.int (0) 0), (.int (3) 0), (.ref 815), (.bool true), (.int (181) 0), (.ref 816), .none, (.ref 817), (.ref 818), (.ref 819), (.int (1193) 0), (.int (309) 0), (.str "/claim/cut.py" 1194)])), (List.toArray [])⟩
def o821 (P : Params) : Obj := ⟨(.type "function"), none, (.func ⟨"is_bound", "is_bound", defArgs s_is_bound, .stmts (defBody s_is_bound), defScope s_is_bound, 3, [], .none, .none, .none, (.str "planledger.questions" 690), none, (.ref 820), .none, 0⟩), (List.toArray [])⟩
def o825 (P : Params) : Obj := ⟨(.type "code"), none, (.fields (List.toArray [(.str "are_texts" 1196), (.str "are_texts" 1197), (.str "/claim/cut.py" 1198), (.int (311) 0), (.int (1) 0), (.int (0) 0), (.int (0) 0), (.int (3) 0), (.ref 822), (.bool true), (.int (181) 0), (.ref 823), .none, .none, .none, (.ref 824), (.int (1199) 0), (.int (311) 0), (.str "/claim/cut.py" 1200)])), (List.toArray [])⟩
def o826 (P : Params) : Obj := ⟨(.type "function"), none, (.func ⟨"are_texts", "are_texts", defArgs s_are_texts, .stmts (defBody s_are_texts), defScope s_are_texts, 3, [], .none, .none, .none, (.str "planledger.questions" 690), none, (.ref 825), .none, 0⟩), (List.toArray [])⟩
def o832 (P : Params) : Obj := ⟨(.type "code"), none, (.fields (List.toArray [(.str "read_test" 1202), (.str "read_test" 1203), (.str "/claim/cut.py" 1204), (.int (313) 0), (.int (1) 0), (.int (0) 0), (.int (0) 0), (.int (3) 0), (.ref 827), (.bool true), (.int (181) 0), (.ref 828), .none, (.ref 829), (.ref 830), (.ref 831), (.int (1207) 0), (.int (313) 0), (.str "/claim/cut.py" 1208)])), (List.toArray [])⟩
def o833 (P : Params) : Obj := ⟨(.type "function"), none, (.func ⟨"read_test", "read_test", defArgs s_read_test, .stmts (defBody s_read_test), defScope s_read_test, 3, [], .none, .none, .none, (.str "planledger.questions" 690), none, (.ref 832), .none, 0⟩), (List.toArray [])⟩
def o839 (P : Params) : Obj := ⟨(.type "code"), none, (.fields (List.toArray [(.str "read_named" 1210), (.str "read_named" 1211), (.str "/claim/cut.py" 1212), (.int (328) 0), (.int (1) 0), (.int (0) 0), (.int (0) 0), (.int (3) 0), (.ref 834), (.bool true), (.int (181) 0), (.ref 835), .none, (.ref 836), (.ref 837), (.ref 838), (.int (1215) 0), (.int (328) 0), (.str "/claim/cut.py" 1216)])), (List.toArray [])⟩
def o840 (P : Params) : Obj := ⟨(.type "function"), none, (.func ⟨"read_named", "read_named", defArgs s_read_named, .stmts (defBody s_read_named), defScope s_read_named, 3, [], .none, .none, .none, (.str "planledger.questions" 690), none, (.ref 839), .none, 0⟩), (List.toArray [])⟩
def o846 (P : Params) : Obj := ⟨(.type "code"), none, (.fields (List.toArray [(.str "read_question" 1218), (.str "read_question" 1219), (.str "/claim/cut.py" 1220), (.int (337) 0), (.int (1) 0), (.int (0) 0), (.int (0) 0), (.int (3) 0), (.ref 841), (.bool true), (.int (181) 0), (.ref 842), .none, (.ref 843), (.ref 844), (.ref 845), (.int (1223) 0), (.int (337) 0), (.str "/claim/cut.py" 1224)])), (List.toArray [])⟩
def o847 (P : Params) : Obj := ⟨(.type "function"), none, (.func ⟨"read_question", "read_question", defArgs s_read_question, .stmts (defBody s_read_question), defScope s_read_question, 3, [], .none, .none, .none, (.str "planledger.questions" 690), none, (.ref 846), .none, 0⟩), (List.toArray [])⟩
def o853 (P : Params) : Obj := ⟨(.type "code"), none, (.fields (List.toArray [(.str "_law_cell_at" 1228), (.str "_law_cell_at" 1229), (.str "/claim/cut.py" 1230), (.int (350) 0), (.int (2) 0), (.int (0) 0), (.int (0) 0), (.int (3) 0), (.ref 848), (.bool true), (.int (181) 0), (.ref 849), .none, (.ref 850), (.ref 851), (.ref 852), (.int (1233) 0), (.int (350) 0), (.str "/claim/cut.py" 1234)])), (List.toArray [])⟩
def o854 (P : Params) : Obj := ⟨(.type "function"), none, (.func ⟨"_law_cell_at", "_law_cell_at", defArgs s_l_cell_at, .stmts (defBody s_l_cell_at), defScope s_l_cell_at, 3, [], .none, .none, .none, (.str "law_planledger_k15_what_tells_no_question" 1226), none, (.ref 853), .none, 0⟩), (List.toArray [])⟩
def o860 (P : Params) : Obj := ⟨(.type "code"), none, (.fields (List.toArray [(.str "_law_right" 1236), (.str "_law_right" 1237), (.str "/claim/cut.py" 1238), (.int (354) 0), (.int (1) 0), (.int (0) 0), (.int (0) 0), (.int (3) 0), (.ref 855), (.bool true), (.int (181) 0), (.ref 856), .none, (.ref 857), (.ref 858), (.ref 859), (.int (1243) 0), (.int (354) 0), (.str "/claim/cut.py" 1244)])), (List.toArray [])⟩
def o861 (P : Params) : Obj := ⟨(.type "function"), none, (.func ⟨"_law_right", "_law_right", defArgs s_l_right, .stmts (defBody s_l_right), defScope s_l_right, 3, [], .none, .none, .none, (.str "law_planledger_k15_what_tells_no_question" 1226), none, (.ref 860), .none, 0⟩), (List.toArray [])⟩
def o867 (P : Params) : Obj := ⟨(.type "code"), none, (.fields (List.toArray [(.str "_law_strange" 1246), (.str "_law_strange" 1247), (.str "/claim/cut.py" 1248), (.int (364) 0), (.int (1) 0), (.int (0) 0), (.int (0) 0), (.int (3) 0), (.ref 862), (.bool true), (.int (181) 0), (.ref 863), .none, (.ref 864), (.ref 865), (.ref 866), (.int (1253) 0), (.int (364) 0), (.str "/claim/cut.py" 1254)])), (List.toArray [])⟩
def o868 (P : Params) : Obj := ⟨(.type "function"), none, (.func ⟨"_law_strange", "_law_strange", defArgs s_l_strange, .stmts (defBody s_l_strange), defScope s_l_strange, 3, [], .none, .none, .none, (.str "law_planledger_k15_what_tells_no_question" 1226), none, (.ref 867), .none, 0⟩), (List.toArray [])⟩
def o874 (P : Params) : Obj := ⟨(.type "code"), none, (.fields (List.toArray [(.str "_law_no_test" 1256), (.str "_law_no_test" 1257), (.str "/claim/cut.py" 1258), (.int (376) 0), (.int (1) 0), (.int (0) 0), (.int (0) 0), (.int (3) 0), (.ref 869), (.bool true), (.int (181) 0), (.ref 870), .none, (.ref 871), (.ref 872), (.ref 873), (.int (1262) 0), (.int (376) 0), (.str "/claim/cut.py" 1263)])), (List.toArray [])⟩
def o875 (P : Params) : Obj := ⟨(.type "function"), none, (.func ⟨"_law_no_test", "_law_no_test", defArgs s_l_no_test, .stmts (defBody s_l_no_test), defScope s_l_no_test, 3, [], .none, .none, .none, (.str "law_planledger_k15_what_tells_no_question" 1226), none, (.ref 874), .none, 0⟩), (List.toArray [])⟩
def o881 (P : Params) : Obj := ⟨(.type "code"), none, (.fields (List.toArray [(.str "_law_spoilt" 1265), (.str "_law_spoilt" 1266), (.str "/claim/cut.py" 1267), (.int (385) 0), (.int (3) 0), (.int (0) 0), (.int (0) 0), (.int (3) 0), (.ref 876), (.bool true), (.int (181) 0), (.ref 877), .none, (.ref 878), (.ref 879), (.ref 880), (.int (1271) 0), (.int (385) 0), (.str "/claim/cut.py" 1272)])), (List.toArray [])⟩
def o882 (P : Params) : Obj := ⟨(.type "function"), none, (.func ⟨"_law_spoilt", "_law_spoilt", defArgs s_l_spoilt, .stmts (defBody s_l_spoilt), defScope s_l_spoilt, 3, [], .none, .none, .none, (.str "law_planledger_k15_what_tells_no_question" 1226), none, (.ref 881), .none, 0⟩), (List.toArray [])⟩
def o888 (P : Params) : Obj := ⟨(.type "code"), none, (.fields (List.toArray [(.str "_law_refused" 1274), (.str "_law_refused" 1275), (.str "/claim/cut.py" 1276), (.int (393) 0), (.int (1) 0), (.int (0) 0), (.int (0) 0), (.int (3) 0), (.ref 883), (.bool true), (.int (181) 0), (.ref 884), .none, (.ref 885), (.ref 886), (.ref 887), (.int (1279) 0), (.int (393) 0), (.str "/claim/cut.py" 1280)])), (List.toArray [])⟩
def o889 (P : Params) : Obj := ⟨(.type "function"), none, (.func ⟨"_law_refused", "_law_refused", defArgs s_l_refused, .stmts (defBody s_l_refused), defScope s_l_refused, 3, [], .none, .none, .none, (.str "law_planledger_k15_what_tells_no_question" 1226), none, (.ref 888), .none, 0⟩), (List.toArray [])⟩
def o895 (P : Params) : Obj := ⟨(.type "code"), none, (.fields (List.toArray [(.str "_law_test_refused" 1282), (.str "_law_test_refused" 1283), (.str "/claim/cut.py" 1284), (.int (399) 0), (.int (1) 0), (.int (0) 0), (.int (0) 0), (.int (3) 0), (.ref 890), (.bool true), (.int (181) 0), (.ref 891), .none, (.ref 892), (.ref 893), (.ref 894), (.int (1287) 0), (.int (399) 0), (.str "/claim/cut.py" 1288)])), (List.toArray [])⟩
def o896 (P : Params) : Obj := ⟨(.type "function"), none, (.func ⟨"_law_test_refused", "_law_test_refused", defArgs s_l_test_refused, .stmts (defBody s_l_test_refused), defScope s_l_test_refused, 3, [], .none, .none, .none, (.str "law_planledger_k15_what_tells_no_question" 1226), none, (.ref 895), .none, 0⟩), (List.toArray [])⟩
def o902 (P : Params) : Obj := ⟨(.type "code"), none, (.fields (List.toArray [(.str "law" 1290), (.str "law" 1291), (.str "/claim/cut.py" 1292), (.int (405) 0), (.int (1) 0), (.int (0) 0), (.int (0) 0), (.int (3) 0), (.ref 897), (.bool true), (.int (181) 0), (.ref 898), .none, (.ref 899), (.ref 900), (.ref 901), (.int (1301) 0), (.int (405) 0), (.str "/claim/cut.py" 1302)])), (List.toArray [])⟩
def o903 (P : Params) : Obj := ⟨(.type "function"), none, (.func ⟨"law", "law", defArgs s_law, .stmts (defBody s_law), defScope s_law, 3, [], .none, .none, .none, (.str "law_planledger_k15_what_tells_no_question" 1226), none, (.ref 902), .none, 0⟩), (List.toArray [])⟩
def K0 (P : Params) : PySem.W.Frag := [(2, o2 P), (3, o3 P), (30, o30 P), (31, o31 P), (47, o47 P), (48, o48 P), (50, o50 P), (51, o51 P), (111, o111 P), (112, o112 P), (121, o121 P), (122, o122 P), (139, o139 P), (140, o140 P), (153, o153 P), (154, o154 P), (163, o163 P), (164, o164 P), (179, o179 P), (180, o180 P), (193, o193 P), (194, o194 P), (203, o203 P), (204, o204 P), (219, o219 P), (220, o220 P), (236, o236 P), (237, o237 P), (259, o259 P), (260, o260 P), (269, o269 P), (270, o270 P), (292, o292 P), (293, o293 P), (302, o302 P), (303, o303 P), (318, o318 P), (319, o319 P), (339, o339 P), (340, o340 P), (349, o349 P), (350, o350 P), (365, o365 P), (366, o366 P), (400, o400 P), (401, o401 P), (410, o410 P), (411, o411 P), (420, o420 P), (421, o421 P), (462, o462 P), (463, o463 P), (484, o484 P), (485, o485 P), (502, o502 P), (503, o503 P), (509, o509 P), (510, o510 P), (519, o519 P), (520, o520 P), (535, o535 P), (536, o536 P), (556, o556 P), (557, o557 P), (564, o564 P), (565, o565 P), (580, o580 P), (581, o581 P), (601, o601 P), (602, o602 P), (611, o611 P), (612, o612 P), (627, o627 P), (628, o628 P), (648, o648 P), (649, o649 P), (656, o656 P), (657, o657 P), (672, o672 P), (673, o673 P), (693, o693 P), (694, o694 P), (703, o703 P), (704, o704 P), (719, o719 P), (720, o720 P), (740, o740 P), (741, o741 P), (750, o750 P), (751, o751 P), (766, o766 P), (767, o767 P), (787, o787 P), (788, o788 P), (797, o797 P), (798, o798 P), (806, o806 P), (807, o807 P), (813, o813 P), (814, o814 P), (820, o820 P), (821, o821 P), (825, o825 P), (826, o826 P), (832, o832 P), (833, o833 P), (839, o839 P), (840, o840 P), (846, o846 P), (847, o847 P), (853, o853 P), (854, o854 P), (860, o860 P), (861, o861 P), (867, o867 P), (868, o868 P), (874, o874 P), (875, o875 P), (881, o881 P), (882, o882 P), (888, o888 P), (889, o889 P), (895, o895 P), (896, o896 P), (902, o902 P), (903, o903 P)]
def as0 : List Addr := [2, 3, 30, 31, 47, 48, 50, 51, 111, 112, 121, 122, 139, 140, 153, 154, 163, 164, 179, 180, 193, 194, 203, 204, 219, 220, 236, 237, 259, 260, 269, 270, 292, 293, 302, 303, 318, 319, 339, 340, 349, 350, 365, 366, 400, 401, 410, 411, 420, 421, 462, 463, 484, 485, 502, 503, 509, 510, 519, 520, 535, 536, 556, 557, 564, 565, 580, 581, 601, 602, 611, 612, 627, 628, 648, 649, 656, 657, 672, 673, 693, 694, 703, 704, 719, 720, 740, 741, 750, 751, 766, 767, 787, 788, 797, 798, 806, 807, 813, 814, 820, 821, 825, 826, 832, 833, 839, 840, 846, 847, 853, 854, 860, 861, 867, 868, 874, 875, 881, 882, 888, 889, 895, 896, 902, 903]
theorem as0_eq : ∀ P, as0 = (K0 P).map (·.1) := fun _ => rfl
abbrev RO : PySem.W.OpenRow := PySem.W.OpenLaw.row PySem.Challenge.rw_planledger_k15_what_tells_no_question
abbrev hk : PySem.W.Hook := PySem.W.kHook K0 as0 as0_eq
def ob (s : PySem.W.SharedT) : List (Option Obj) := as0.map (HandSHeadRun.getT s)
theorem ob_eq (s : PySem.W.SharedT) : ob s = hk.obs s.abs := by
  have e : HandSHeadRun.getT s = s.abs.heap.get? := funext (HandSHeadRun.getT_eq s)
  unfold ob
  rw [e]
  rfl
def names0 : List PySem.Str := ["_wall", "LedgerError", "NoQuestion", "is_within", "value_in", "Test", "Within", "Like", "Paired", "Both", "Either", "Not", "Among", "COUNTED", "refuse", "are_names", "is_proper", "Question", "Table", "Where", "Columns", "Joined", "Sums", "Ordered", "First", "is_name", "is_number", "is_bound", "are_texts", "read_test"]
def names1 : List PySem.Str := ["read_named", "read_question", "_law_cell_at", "_law_right", "_law_strange", "_law_no_test", "_law_spoilt", "_law_refused", "_law_test_refused"]
def names : List PySem.Str := names0 ++ names1
theorem run (w : World) : HandSHeadRun.RunEq RO (PySem.W.view RO.prog [43]) hk ob 20000 names w := by
  intro os
  kernel_rfl
theorem ck0 (P : Params) : (fun K => (He.Fa.free "all").ok K) (K0 P) = true := by kernel_rfl
theorem ck1 (P : Params) : (fun K => (He.Fa.free "bool").ok K) (K0 P) = true := by kernel_rfl
theorem ck2 (P : Params) : (fun K => (He.Fa.free "int").ok K) (K0 P) = true := by kernel_rfl
theorem ck3 (P : Params) : (fun K => (He.Fa.free "isinstance").ok K) (K0 P) = true := by kernel_rfl
theorem ck4 (P : Params) : (fun K => (He.Fa.free "len").ok K) (K0 P) = true := by kernel_rfl
theorem ck5 (P : Params) : (fun K => (He.Fa.free "str").ok K) (K0 P) = true := by kernel_rfl
theorem ck6 (P : Params) : (fun K => (He.Fa.free "tuple").ok K) (K0 P) = true := by kernel_rfl
theorem ck7 (P : Params) : (fun K => (He.Fa.glo "LedgerError").ok K) (K0 P) = true := by kernel_rfl
theorem ck8 (P : Params) : (fun K => (He.Fa.glo "NoQuestion").ok K) (K0 P) = true := by kernel_rfl
theorem ck9 (P : Params) : (fun K => (He.Fa.glo "Test").ok K) (K0 P) = true := by kernel_rfl
theorem ck10 (P : Params) : (fun K => (He.Fa.glo "Within").ok K) (K0 P) = true := by kernel_rfl
theorem ck11 (P : Params) : (fun K => (He.Fa.glo "Like").ok K) (K0 P) = true := by kernel_rfl
theorem ck12 (P : Params) : (fun K => (He.Fa.glo "Paired").ok K) (K0 P) = true := by kernel_rfl
theorem ck13 (P : Params) : (fun K => (He.Fa.glo "Both").ok K) (K0 P) = true := by kernel_rfl
theorem ck14 (P : Params) : (fun K => (He.Fa.glo "Either").ok K) (K0 P) = true := by kernel_rfl
theorem ck15 (P : Params) : (fun K => (He.Fa.glo "Not").ok K) (K0 P) = true := by kernel_rfl
theorem ck16 (P : Params) : (fun K => (He.Fa.glo "Among").ok K) (K0 P) = true := by kernel_rfl
theorem ck17 (P : Params) : (fun K => (He.Fa.glo "Question").ok K) (K0 P) = true := by kernel_rfl
theorem ck18 (P : Params) : (fun K => (He.Fa.glo "Table").ok K) (K0 P) = true := by kernel_rfl
theorem ck19 (P : Params) : (fun K => (He.Fa.glo "Where").ok K) (K0 P) = true := by kernel_rfl
theorem ck20 (P : Params) : (fun K => (He.Fa.glo "Columns").ok K) (K0 P) = true := by kernel_rfl
theorem ck21 (P : Params) : (fun K => (He.Fa.glo "Joined").ok K) (K0 P) = true := by kernel_rfl
theorem ck22 (P : Params) : (fun K => (He.Fa.glo "Sums").ok K) (K0 P) = true := by kernel_rfl
theorem ck23 (P : Params) : (fun K => (He.Fa.glo "Ordered").ok K) (K0 P) = true := by kernel_rfl
theorem ck24 (P : Params) : (fun K => (He.Fa.glo "First").ok K) (K0 P) = true := by kernel_rfl
theorem ck25 (P : Params) : (fldB cs0 "by") (K0 P) = true := by kernel_rfl
theorem ck26 (P : Params) : (fldB cs0 "column") (K0 P) = true := by kernel_rfl
theorem ck27 (P : Params) : (fldB cs0 "high") (K0 P) = true := by kernel_rfl
theorem ck28 (P : Params) : (fldB cs0 "limit") (K0 P) = true := by kernel_rfl
theorem ck29 (P : Params) : (fldB cs0 "low") (K0 P) = true := by kernel_rfl
theorem ck30 (P : Params) : (fldB cs0 "name") (K0 P) = true := by kernel_rfl
theorem ck31 (P : Params) : (fldB cs0 "names") (K0 P) = true := by kernel_rfl
theorem ck32 (P : Params) : (fldB cs0 "one") (K0 P) = true := by kernel_rfl
theorem ck33 (P : Params) : (fldB cs0 "other") (K0 P) = true := by kernel_rfl
theorem ck34 (P : Params) : (fldB cs0 "q") (K0 P) = true := by kernel_rfl
theorem ck35 (P : Params) : (fldB cs0 "question") (K0 P) = true := by kernel_rfl
theorem ck36 (P : Params) : (fldB cs0 "test") (K0 P) = true := by kernel_rfl
theorem ck37 (P : Params) : (xfBs xs0 "at") (K0 P) = true := by kernel_rfl
theorem ck38 (P : Params) : (xmB xs0 "NoQuestion" (xsub "NoQuestion")) (K0 P) = true := by kernel_rfl
theorem ck39 (P : Params) : (isfB cs0 subC) (K0 P) = true := by kernel_rfl
theorem ck40 (P : Params) : (fun K => (He.Fa.glo "_law_cell_at").ok K) (K0 P) = true := by kernel_rfl
theorem ck41 (P : Params) : (fun K => (He.Fa.glo "_law_no_test").ok K) (K0 P) = true := by kernel_rfl
theorem ck42 (P : Params) : (fun K => (He.Fa.glo "_law_refused").ok K) (K0 P) = true := by kernel_rfl
theorem ck43 (P : Params) : (fun K => (He.Fa.glo "_law_right").ok K) (K0 P) = true := by kernel_rfl
theorem ck44 (P : Params) : (fun K => (He.Fa.glo "_law_spoilt").ok K) (K0 P) = true := by kernel_rfl
theorem ck45 (P : Params) : (fun K => (He.Fa.glo "_law_strange").ok K) (K0 P) = true := by kernel_rfl
theorem ck46 (P : Params) : (fun K => (He.Fa.glo "_law_test_refused").ok K) (K0 P) = true := by kernel_rfl
theorem ck47 (P : Params) : (fun K => (He.Fa.glo "are_texts").ok K) (K0 P) = true := by kernel_rfl
theorem ck48 (P : Params) : (fun K => (He.Fa.glo "is_bound").ok K) (K0 P) = true := by kernel_rfl
theorem ck49 (P : Params) : (fun K => (He.Fa.glo "is_name").ok K) (K0 P) = true := by kernel_rfl
theorem ck50 (P : Params) : (fun K => (He.Fa.glo "is_number").ok K) (K0 P) = true := by kernel_rfl
theorem ck51 (P : Params) : (fun K => (He.Fa.glo "read_named").ok K) (K0 P) = true := by kernel_rfl
theorem ck52 (P : Params) : (fun K => (He.Fa.glo "read_question").ok K) (K0 P) = true := by kernel_rfl
theorem ck53 (P : Params) : (fun K => (He.Fa.glo "read_test").ok K) (K0 P) = true := by kernel_rfl
theorem ck54 (P : Params) : (fun K => (He.Fa.glo "refuse").ok K) (K0 P) = true := by kernel_rfl
theorem ck55 (P : Params) : (fun K => (He.Fa.mkr "Among").ok K) (K0 P) = true := by kernel_rfl
theorem ck56 (P : Params) : (fun K => (He.Fa.mkr "Both").ok K) (K0 P) = true := by kernel_rfl
theorem ck57 (P : Params) : (fun K => (He.Fa.mkr "Columns").ok K) (K0 P) = true := by kernel_rfl
theorem ck58 (P : Params) : (fun K => (He.Fa.mkr "Either").ok K) (K0 P) = true := by kernel_rfl
theorem ck59 (P : Params) : (fun K => (He.Fa.mkr "First").ok K) (K0 P) = true := by kernel_rfl
theorem ck60 (P : Params) : (fun K => (He.Fa.mkr "Joined").ok K) (K0 P) = true := by kernel_rfl
theorem ck61 (P : Params) : (fun K => (He.Fa.mkr "Like").ok K) (K0 P) = true := by kernel_rfl
theorem ck62 (P : Params) : (fun K => (He.Fa.mkr "Not").ok K) (K0 P) = true := by kernel_rfl
theorem ck63 (P : Params) : (fun K => (He.Fa.mkr "Ordered").ok K) (K0 P) = true := by kernel_rfl
theorem ck64 (P : Params) : (fun K => (He.Fa.mkr "Sums").ok K) (K0 P) = true := by kernel_rfl
theorem ck65 (P : Params) : (fun K => (He.Fa.mkr "Table").ok K) (K0 P) = true := by kernel_rfl
theorem ck66 (P : Params) : (fun K => (He.Fa.mkr "Where").ok K) (K0 P) = true := by kernel_rfl
theorem ck67 (P : Params) : (fun K => (He.Fa.mkr "Within").ok K) (K0 P) = true := by kernel_rfl
theorem ck68 (P : Params) : (fun K => (He.Fa.meth "Test" "told").ok K) (K0 P) = true := by kernel_rfl
theorem ck69 (P : Params) : (fun K => (He.Fa.meth "Within" "told").ok K) (K0 P) = true := by kernel_rfl
theorem ck70 (P : Params) : (fun K => (He.Fa.meth "Like" "told").ok K) (K0 P) = true := by kernel_rfl
theorem ck71 (P : Params) : (fun K => (He.Fa.meth "Paired" "told").ok K) (K0 P) = true := by kernel_rfl
theorem ck72 (P : Params) : (fun K => (He.Fa.meth "Both" "told").ok K) (K0 P) = true := by kernel_rfl
theorem ck73 (P : Params) : (fun K => (He.Fa.meth "Either" "told").ok K) (K0 P) = true := by kernel_rfl
theorem ck74 (P : Params) : (fun K => (He.Fa.meth "Not" "told").ok K) (K0 P) = true := by kernel_rfl
theorem ck75 (P : Params) : (fun K => (He.Fa.meth "Among" "told").ok K) (K0 P) = true := by kernel_rfl
theorem ck76 (P : Params) : (fun K => (He.Fa.meth "Question" "told").ok K) (K0 P) = true := by kernel_rfl
theorem ck77 (P : Params) : (fun K => (He.Fa.meth "Table" "told").ok K) (K0 P) = true := by kernel_rfl
theorem ck78 (P : Params) : (fun K => (He.Fa.meth "Where" "told").ok K) (K0 P) = true := by kernel_rfl
theorem ck79 (P : Params) : (fun K => (He.Fa.meth "Columns" "told").ok K) (K0 P) = true := by kernel_rfl
theorem ck80 (P : Params) : (fun K => (He.Fa.meth "Joined" "told").ok K) (K0 P) = true := by kernel_rfl
theorem ck81 (P : Params) : (fun K => (He.Fa.meth "Sums" "told").ok K) (K0 P) = true := by kernel_rfl
theorem ck82 (P : Params) : (fun K => (He.Fa.meth "Ordered" "told").ok K) (K0 P) = true := by kernel_rfl
theorem ck83 (P : Params) : (fun K => (He.Fa.meth "First" "told").ok K) (K0 P) = true := by kernel_rfl
theorem ck84 (P : Params) : (fun K => (He.Fa.cls "Among").ok K) (K0 P) = true := by kernel_rfl
theorem ck85 (P : Params) : (fun K => (He.Fa.cls "Both").ok K) (K0 P) = true := by kernel_rfl
theorem ck86 (P : Params) : (fun K => (He.Fa.cls "Columns").ok K) (K0 P) = true := by kernel_rfl
theorem ck87 (P : Params) : (fun K => (He.Fa.cls "Either").ok K) (K0 P) = true := by kernel_rfl
theorem ck88 (P : Params) : (fun K => (He.Fa.cls "First").ok K) (K0 P) = true := by kernel_rfl
theorem ck89 (P : Params) : (fun K => (He.Fa.cls "Joined").ok K) (K0 P) = true := by kernel_rfl
theorem ck90 (P : Params) : (fun K => (He.Fa.cls "Like").ok K) (K0 P) = true := by kernel_rfl
theorem ck91 (P : Params) : (fun K => (He.Fa.cls "Not").ok K) (K0 P) = true := by kernel_rfl
theorem ck92 (P : Params) : (fun K => (He.Fa.cls "Ordered").ok K) (K0 P) = true := by kernel_rfl
theorem ck93 (P : Params) : (fun K => (He.Fa.cls "Paired").ok K) (K0 P) = true := by kernel_rfl
theorem ck94 (P : Params) : (fun K => (He.Fa.cls "Question").ok K) (K0 P) = true := by kernel_rfl
theorem ck95 (P : Params) : (fun K => (He.Fa.cls "Sums").ok K) (K0 P) = true := by kernel_rfl
theorem ck96 (P : Params) : (fun K => (He.Fa.cls "Table").ok K) (K0 P) = true := by kernel_rfl
theorem ck97 (P : Params) : (fun K => (He.Fa.cls "Test").ok K) (K0 P) = true := by kernel_rfl
theorem ck98 (P : Params) : (fun K => (He.Fa.cls "Where").ok K) (K0 P) = true := by kernel_rfl
theorem ck99 (P : Params) : (fun K => (He.Fa.cls "Within").ok K) (K0 P) = true := by kernel_rfl
theorem ck100 (P : Params) : (xinB "NoQuestion" "at") (K0 P) = true := by kernel_rfl
theorem ck101 (P : Params) : (viB "LedgerError") (K0 P) = true := by kernel_rfl
theorem ck102 (P : Params) : (fun K => (He.Fa.glo "law").ok K) (K0 P) = true := by kernel_rfl
theorem fv0 (P : Params) : He.fnW (K0 P) (dD ("_law_cell_at", none) "_law_cell_at" "_law_cell_at" s_l_cell_at).at_ = (dD ("_law_cell_at", none) "_law_cell_at" "_law_cell_at" s_l_cell_at).val := by kernel_rfl
theorem fo0 (P : Params) : (dD ("_law_cell_at", none) "_law_cell_at" "_law_cell_at" s_l_cell_at).ok (K0 P) = true := by kernel_rfl
theorem fv1 (P : Params) : He.fnW (K0 P) (dD ("_law_no_test", none) "_law_no_test" "_law_no_test" s_l_no_test).at_ = (dD ("_law_no_test", none) "_law_no_test" "_law_no_test" s_l_no_test).val := by kernel_rfl
theorem fo1 (P : Params) : (dD ("_law_no_test", none) "_law_no_test" "_law_no_test" s_l_no_test).ok (K0 P) = true := by kernel_rfl
theorem fv2 (P : Params) : He.fnW (K0 P) (dD ("_law_refused", none) "_law_refused" "_law_refused" s_l_refused).at_ = (dD ("_law_refused", none) "_law_refused" "_law_refused" s_l_refused).val := by kernel_rfl
theorem fo2 (P : Params) : (dD ("_law_refused", none) "_law_refused" "_law_refused" s_l_refused).ok (K0 P) = true := by kernel_rfl
theorem fv3 (P : Params) : He.fnW (K0 P) (dD ("_law_right", none) "_law_right" "_law_right" s_l_right).at_ = (dD ("_law_right", none) "_law_right" "_law_right" s_l_right).val := by kernel_rfl
theorem fo3 (P : Params) : (dD ("_law_right", none) "_law_right" "_law_right" s_l_right).ok (K0 P) = true := by kernel_rfl
theorem fv4 (P : Params) : He.fnW (K0 P) (dD ("_law_spoilt", none) "_law_spoilt" "_law_spoilt" s_l_spoilt).at_ = (dD ("_law_spoilt", none) "_law_spoilt" "_law_spoilt" s_l_spoilt).val := by kernel_rfl
theorem fo4 (P : Params) : (dD ("_law_spoilt", none) "_law_spoilt" "_law_spoilt" s_l_spoilt).ok (K0 P) = true := by kernel_rfl
theorem fv5 (P : Params) : He.fnW (K0 P) (dD ("_law_strange", none) "_law_strange" "_law_strange" s_l_strange).at_ = (dD ("_law_strange", none) "_law_strange" "_law_strange" s_l_strange).val := by kernel_rfl
theorem fo5 (P : Params) : (dD ("_law_strange", none) "_law_strange" "_law_strange" s_l_strange).ok (K0 P) = true := by kernel_rfl
theorem fv6 (P : Params) : He.fnW (K0 P) (dD ("_law_test_refused", none) "_law_test_refused" "_law_test_refused" s_l_test_refused).at_ = (dD ("_law_test_refused", none) "_law_test_refused" "_law_test_refused" s_l_test_refused).val := by kernel_rfl
theorem fo6 (P : Params) : (dD ("_law_test_refused", none) "_law_test_refused" "_law_test_refused" s_l_test_refused).ok (K0 P) = true := by kernel_rfl
theorem fv7 (P : Params) : He.fnW (K0 P) (dD ("are_texts", none) "are_texts" "are_texts" s_are_texts).at_ = (dD ("are_texts", none) "are_texts" "are_texts" s_are_texts).val := by kernel_rfl
theorem fo7 (P : Params) : (dD ("are_texts", none) "are_texts" "are_texts" s_are_texts).ok (K0 P) = true := by kernel_rfl
theorem fv8 (P : Params) : He.fnW (K0 P) (dD ("is_bound", none) "is_bound" "is_bound" s_is_bound).at_ = (dD ("is_bound", none) "is_bound" "is_bound" s_is_bound).val := by kernel_rfl
theorem fo8 (P : Params) : (dD ("is_bound", none) "is_bound" "is_bound" s_is_bound).ok (K0 P) = true := by kernel_rfl
theorem fv9 (P : Params) : He.fnW (K0 P) (dD ("is_name", none) "is_name" "is_name" s_is_name).at_ = (dD ("is_name", none) "is_name" "is_name" s_is_name).val := by kernel_rfl
theorem fo9 (P : Params) : (dD ("is_name", none) "is_name" "is_name" s_is_name).ok (K0 P) = true := by kernel_rfl
theorem fv10 (P : Params) : He.fnW (K0 P) (dD ("is_number", none) "is_number" "is_number" s_is_number).at_ = (dD ("is_number", none) "is_number" "is_number" s_is_number).val := by kernel_rfl
theorem fo10 (P : Params) : (dD ("is_number", none) "is_number" "is_number" s_is_number).ok (K0 P) = true := by kernel_rfl
theorem fv11 (P : Params) : He.fnW (K0 P) (dD ("read_named", none) "read_named" "read_named" s_read_named).at_ = (dD ("read_named", none) "read_named" "read_named" s_read_named).val := by kernel_rfl
theorem fo11 (P : Params) : (dD ("read_named", none) "read_named" "read_named" s_read_named).ok (K0 P) = true := by kernel_rfl
theorem fv12 (P : Params) : He.fnW (K0 P) (dD ("read_question", none) "read_question" "read_question" s_read_question).at_ = (dD ("read_question", none) "read_question" "read_question" s_read_question).val := by kernel_rfl
theorem fo12 (P : Params) : (dD ("read_question", none) "read_question" "read_question" s_read_question).ok (K0 P) = true := by kernel_rfl
theorem fv13 (P : Params) : He.fnW (K0 P) (dD ("read_test", none) "read_test" "read_test" s_read_test).at_ = (dD ("read_test", none) "read_test" "read_test" s_read_test).val := by kernel_rfl
theorem fo13 (P : Params) : (dD ("read_test", none) "read_test" "read_test" s_read_test).ok (K0 P) = true := by kernel_rfl
theorem fv14 (P : Params) : He.fnW (K0 P) (dD ("refuse", none) "refuse" "refuse" s_refuse).at_ = (dD ("refuse", none) "refuse" "refuse" s_refuse).val := by kernel_rfl
theorem fo14 (P : Params) : (dD ("refuse", none) "refuse" "refuse" s_refuse).ok (K0 P) = true := by kernel_rfl
theorem fv15 (P : Params) : He.fnW (K0 P) (dD ("Among", some "__init__") "__init__" "Among.__init__" s_Among___init).at_ = (dD ("Among", some "__init__") "__init__" "Among.__init__" s_Among___init).val := by kernel_rfl
theorem fo15 (P : Params) : (dD ("Among", some "__init__") "__init__" "Among.__init__" s_Among___init).ok (K0 P) = true := by kernel_rfl
theorem fv16 (P : Params) : He.fnW (K0 P) (dD ("Both", some "__init__") "__init__" "Paired.__init__" s_Paired___init).at_ = (dD ("Both", some "__init__") "__init__" "Paired.__init__" s_Paired___init).val := by kernel_rfl
theorem fo16 (P : Params) : (dD ("Both", some "__init__") "__init__" "Paired.__init__" s_Paired___init).ok (K0 P) = true := by kernel_rfl
theorem fv17 (P : Params) : He.fnW (K0 P) (dD ("Columns", some "__init__") "__init__" "Columns.__init__" s_Columns___init).at_ = (dD ("Columns", some "__init__") "__init__" "Columns.__init__" s_Columns___init).val := by kernel_rfl
theorem fo17 (P : Params) : (dD ("Columns", some "__init__") "__init__" "Columns.__init__" s_Columns___init).ok (K0 P) = true := by kernel_rfl
theorem fv18 (P : Params) : He.fnW (K0 P) (dD ("Either", some "__init__") "__init__" "Paired.__init__" s_Paired___init).at_ = (dD ("Either", some "__init__") "__init__" "Paired.__init__" s_Paired___init).val := by kernel_rfl
theorem fo18 (P : Params) : (dD ("Either", some "__init__") "__init__" "Paired.__init__" s_Paired___init).ok (K0 P) = true := by kernel_rfl
theorem fv19 (P : Params) : He.fnW (K0 P) (dD ("First", some "__init__") "__init__" "First.__init__" s_First___init).at_ = (dD ("First", some "__init__") "__init__" "First.__init__" s_First___init).val := by kernel_rfl
theorem fo19 (P : Params) : (dD ("First", some "__init__") "__init__" "First.__init__" s_First___init).ok (K0 P) = true := by kernel_rfl
theorem fv20 (P : Params) : He.fnW (K0 P) (dD ("Joined", some "__init__") "__init__" "Joined.__init__" s_Joined___init).at_ = (dD ("Joined", some "__init__") "__init__" "Joined.__init__" s_Joined___init).val := by kernel_rfl
theorem fo20 (P : Params) : (dD ("Joined", some "__init__") "__init__" "Joined.__init__" s_Joined___init).ok (K0 P) = true := by kernel_rfl
theorem fv21 (P : Params) : He.fnW (K0 P) (dD ("Like", some "__init__") "__init__" "Like.__init__" s_Like___init).at_ = (dD ("Like", some "__init__") "__init__" "Like.__init__" s_Like___init).val := by kernel_rfl
theorem fo21 (P : Params) : (dD ("Like", some "__init__") "__init__" "Like.__init__" s_Like___init).ok (K0 P) = true := by kernel_rfl
theorem fv22 (P : Params) : He.fnW (K0 P) (dD ("Not", some "__init__") "__init__" "Not.__init__" s_Not___init).at_ = (dD ("Not", some "__init__") "__init__" "Not.__init__" s_Not___init).val := by kernel_rfl
theorem fo22 (P : Params) : (dD ("Not", some "__init__") "__init__" "Not.__init__" s_Not___init).ok (K0 P) = true := by kernel_rfl
theorem fv23 (P : Params) : He.fnW (K0 P) (dD ("Ordered", some "__init__") "__init__" "Ordered.__init__" s_Ordered___init).at_ = (dD ("Ordered", some "__init__") "__init__" "Ordered.__init__" s_Ordered___init).val := by kernel_rfl
theorem fo23 (P : Params) : (dD ("Ordered", some "__init__") "__init__" "Ordered.__init__" s_Ordered___init).ok (K0 P) = true := by kernel_rfl
theorem fv24 (P : Params) : He.fnW (K0 P) (dD ("Sums", some "__init__") "__init__" "Sums.__init__" s_Sums___init).at_ = (dD ("Sums", some "__init__") "__init__" "Sums.__init__" s_Sums___init).val := by kernel_rfl
theorem fo24 (P : Params) : (dD ("Sums", some "__init__") "__init__" "Sums.__init__" s_Sums___init).ok (K0 P) = true := by kernel_rfl
theorem fv25 (P : Params) : He.fnW (K0 P) (dD ("Table", some "__init__") "__init__" "Table.__init__" s_Table___init).at_ = (dD ("Table", some "__init__") "__init__" "Table.__init__" s_Table___init).val := by kernel_rfl
theorem fo25 (P : Params) : (dD ("Table", some "__init__") "__init__" "Table.__init__" s_Table___init).ok (K0 P) = true := by kernel_rfl
theorem fv26 (P : Params) : He.fnW (K0 P) (dD ("Where", some "__init__") "__init__" "Where.__init__" s_Where___init).at_ = (dD ("Where", some "__init__") "__init__" "Where.__init__" s_Where___init).val := by kernel_rfl
theorem fo26 (P : Params) : (dD ("Where", some "__init__") "__init__" "Where.__init__" s_Where___init).ok (K0 P) = true := by kernel_rfl
theorem fv27 (P : Params) : He.fnW (K0 P) (dD ("Within", some "__init__") "__init__" "Within.__init__" s_Within___init).at_ = (dD ("Within", some "__init__") "__init__" "Within.__init__" s_Within___init).val := by kernel_rfl
theorem fo27 (P : Params) : (dD ("Within", some "__init__") "__init__" "Within.__init__" s_Within___init).ok (K0 P) = true := by kernel_rfl
theorem fv28 (P : Params) : He.fnW (K0 P) (dD ("Test", some "told") "told" "Test.told" s_Test_told).at_ = (dD ("Test", some "told") "told" "Test.told" s_Test_told).val := by kernel_rfl
theorem fo28 (P : Params) : (dD ("Test", some "told") "told" "Test.told" s_Test_told).ok (K0 P) = true := by kernel_rfl
theorem fv29 (P : Params) : He.fnW (K0 P) (dD ("Within", some "told") "told" "Within.told" s_Within_told).at_ = (dD ("Within", some "told") "told" "Within.told" s_Within_told).val := by kernel_rfl
theorem fo29 (P : Params) : (dD ("Within", some "told") "told" "Within.told" s_Within_told).ok (K0 P) = true := by kernel_rfl
theorem fv30 (P : Params) : He.fnW (K0 P) (dD ("Like", some "told") "told" "Like.told" s_Like_told).at_ = (dD ("Like", some "told") "told" "Like.told" s_Like_told).val := by kernel_rfl
theorem fo30 (P : Params) : (dD ("Like", some "told") "told" "Like.told" s_Like_told).ok (K0 P) = true := by kernel_rfl
theorem fv31 (P : Params) : He.fnW (K0 P) (dD ("Paired", some "told") "told" "Test.told" s_Test_told).at_ = (dD ("Paired", some "told") "told" "Test.told" s_Test_told).val := by kernel_rfl
theorem fo31 (P : Params) : (dD ("Paired", some "told") "told" "Test.told" s_Test_told).ok (K0 P) = true := by kernel_rfl
theorem fv32 (P : Params) : He.fnW (K0 P) (dD ("Both", some "told") "told" "Both.told" s_Both_told).at_ = (dD ("Both", some "told") "told" "Both.told" s_Both_told).val := by kernel_rfl
theorem fo32 (P : Params) : (dD ("Both", some "told") "told" "Both.told" s_Both_told).ok (K0 P) = true := by kernel_rfl
theorem fv33 (P : Params) : He.fnW (K0 P) (dD ("Either", some "told") "told" "Either.told" s_Either_told).at_ = (dD ("Either", some "told") "told" "Either.told" s_Either_told).val := by kernel_rfl
theorem fo33 (P : Params) : (dD ("Either", some "told") "told" "Either.told" s_Either_told).ok (K0 P) = true := by kernel_rfl
theorem fv34 (P : Params) : He.fnW (K0 P) (dD ("Not", some "told") "told" "Not.told" s_Not_told).at_ = (dD ("Not", some "told") "told" "Not.told" s_Not_told).val := by kernel_rfl
theorem fo34 (P : Params) : (dD ("Not", some "told") "told" "Not.told" s_Not_told).ok (K0 P) = true := by kernel_rfl
theorem fv35 (P : Params) : He.fnW (K0 P) (dD ("Among", some "told") "told" "Among.told" s_Among_told).at_ = (dD ("Among", some "told") "told" "Among.told" s_Among_told).val := by kernel_rfl
theorem fo35 (P : Params) : (dD ("Among", some "told") "told" "Among.told" s_Among_told).ok (K0 P) = true := by kernel_rfl
theorem fv36 (P : Params) : He.fnW (K0 P) (dD ("Question", some "told") "told" "Question.told" s_Question_told).at_ = (dD ("Question", some "told") "told" "Question.told" s_Question_told).val := by kernel_rfl
theorem fo36 (P : Params) : (dD ("Question", some "told") "told" "Question.told" s_Question_told).ok (K0 P) = true := by kernel_rfl
theorem fv37 (P : Params) : He.fnW (K0 P) (dD ("Table", some "told") "told" "Table.told" s_Table_told).at_ = (dD ("Table", some "told") "told" "Table.told" s_Table_told).val := by kernel_rfl
theorem fo37 (P : Params) : (dD ("Table", some "told") "told" "Table.told" s_Table_told).ok (K0 P) = true := by kernel_rfl
theorem fv38 (P : Params) : He.fnW (K0 P) (dD ("Where", some "told") "told" "Where.told" s_Where_told).at_ = (dD ("Where", some "told") "told" "Where.told" s_Where_told).val := by kernel_rfl
theorem fo38 (P : Params) : (dD ("Where", some "told") "told" "Where.told" s_Where_told).ok (K0 P) = true := by kernel_rfl
theorem fv39 (P : Params) : He.fnW (K0 P) (dD ("Columns", some "told") "told" "Columns.told" s_Columns_told).at_ = (dD ("Columns", some "told") "told" "Columns.told" s_Columns_told).val := by kernel_rfl
theorem fo39 (P : Params) : (dD ("Columns", some "told") "told" "Columns.told" s_Columns_told).ok (K0 P) = true := by kernel_rfl
theorem fv40 (P : Params) : He.fnW (K0 P) (dD ("Joined", some "told") "told" "Joined.told" s_Joined_told).at_ = (dD ("Joined", some "told") "told" "Joined.told" s_Joined_told).val := by kernel_rfl
theorem fo40 (P : Params) : (dD ("Joined", some "told") "told" "Joined.told" s_Joined_told).ok (K0 P) = true := by kernel_rfl
theorem fv41 (P : Params) : He.fnW (K0 P) (dD ("Sums", some "told") "told" "Sums.told" s_Sums_told).at_ = (dD ("Sums", some "told") "told" "Sums.told" s_Sums_told).val := by kernel_rfl
theorem fo41 (P : Params) : (dD ("Sums", some "told") "told" "Sums.told" s_Sums_told).ok (K0 P) = true := by kernel_rfl
theorem fv42 (P : Params) : He.fnW (K0 P) (dD ("Ordered", some "told") "told" "Ordered.told" s_Ordered_told).at_ = (dD ("Ordered", some "told") "told" "Ordered.told" s_Ordered_told).val := by kernel_rfl
theorem fo42 (P : Params) : (dD ("Ordered", some "told") "told" "Ordered.told" s_Ordered_told).ok (K0 P) = true := by kernel_rfl
theorem fv43 (P : Params) : He.fnW (K0 P) (dD ("First", some "told") "told" "First.told" s_First_told).at_ = (dD ("First", some "told") "told" "First.told" s_First_told).val := by kernel_rfl
theorem fo43 (P : Params) : (dD ("First", some "told") "told" "First.told" s_First_told).ok (K0 P) = true := by kernel_rfl
theorem fv44 (P : Params) : He.fnW (K0 P) (dD ("NoQuestion", some "__init__") "__init__" "NoQuestion.__init__" s_NoQuestion___init).at_ = (dD ("NoQuestion", some "__init__") "__init__" "NoQuestion.__init__" s_NoQuestion___init).val := by kernel_rfl
theorem fo44 (P : Params) : (dD ("NoQuestion", some "__init__") "__init__" "NoQuestion.__init__" s_NoQuestion___init).ok (K0 P) = true := by kernel_rfl
theorem fv45 (P : Params) : He.fnW (K0 P) (dD ("law", none) "law" "law" s_law).at_ = (dD ("law", none) "law" "law" s_law).val := by kernel_rfl
theorem fo45 (P : Params) : (dD ("law", none) "law" "law" s_law).ok (K0 P) = true := by kernel_rfl
theorem txt {P : Params} {h : Heap} {mg : Str → Option Value} (X : (K0 P).In h) (G : h.Ns mainGlobals mg) : Txt (K0 P) mg (He.ga (K0 P)) where
  n_all := He.free_ok X G (ck0 P)
  n_bool := He.free_ok X G (ck1 P)
  n_int := He.free_ok X G (ck2 P)
  n_isinstance := He.free_ok X G (ck3 P)
  n_len := He.free_ok X G (ck4 P)
  n_str := He.free_ok X G (ck5 P)
  n_tuple := He.free_ok X G (ck6 P)
  g_LedgerError := He.glo_ok X G (ck7 P)
  g_NoQuestion := He.glo_ok X G (ck8 P)
  g_Test := He.glo_ok X G (ck9 P)
  g_Within := He.glo_ok X G (ck10 P)
  g_Like := He.glo_ok X G (ck11 P)
  g_Paired := He.glo_ok X G (ck12 P)
  g_Both := He.glo_ok X G (ck13 P)
  g_Either := He.glo_ok X G (ck14 P)
  g_Not := He.glo_ok X G (ck15 P)
  g_Among := He.glo_ok X G (ck16 P)
  g_Question := He.glo_ok X G (ck17 P)
  g_Table := He.glo_ok X G (ck18 P)
  g_Where := He.glo_ok X G (ck19 P)
  g_Columns := He.glo_ok X G (ck20 P)
  g_Joined := He.glo_ok X G (ck21 P)
  g_Sums := He.glo_ok X G (ck22 P)
  g_Ordered := He.glo_ok X G (ck23 P)
  g_First := He.glo_ok X G (ck24 P)
  f_by := fld_ok (ck25 P)
  f_column := fld_ok (ck26 P)
  f_high := fld_ok (ck27 P)
  f_limit := fld_ok (ck28 P)
  f_low := fld_ok (ck29 P)
  f_name := fld_ok (ck30 P)
  f_names := fld_ok (ck31 P)
  f_one := fld_ok (ck32 P)
  f_other := fld_ok (ck33 P)
  f_q := fld_ok (ck34 P)
  f_question := fld_ok (ck35 P)
  f_test := fld_ok (ck36 P)
  xf_at := xf_ok (ck37 P)
  xm_NoQuestion := xm_ok (ck38 P)
  isf := isf_ok (ck39 P)
  d_law_cell_at := defAK (fv0 P) (fo0 P) X G  (ck40 P) (fun _ _ _ _ _ _ us hl => match us, hl with | [_, _], _ => rfl)
  d_law_no_test := defAK (fv1 P) (fo1 P) X G  (ck41 P) (fun _ _ _ _ _ _ us hl => match us, hl with | [_], _ => rfl)
  d_law_refused := defAK (fv2 P) (fo2 P) X G  (ck42 P) (fun _ _ _ _ _ _ us hl => match us, hl with | [_], _ => rfl)
  d_law_right := defAK (fv3 P) (fo3 P) X G  (ck43 P) (fun _ _ _ _ _ _ us hl => match us, hl with | [_], _ => rfl)
  d_law_spoilt := defAK (fv4 P) (fo4 P) X G  (ck44 P) (fun _ _ _ _ _ _ us hl => match us, hl with | [_, _, _], _ => rfl)
  d_law_strange := defAK (fv5 P) (fo5 P) X G  (ck45 P) (fun _ _ _ _ _ _ us hl => match us, hl with | [_], _ => rfl)
  d_law_test_refused := defAK (fv6 P) (fo6 P) X G  (ck46 P) (fun _ _ _ _ _ _ us hl => match us, hl with | [_], _ => rfl)
  d_are_texts := defAK (fv7 P) (fo7 P) X G  (ck47 P) (fun _ _ _ _ _ _ us hl => match us, hl with | [_], _ => rfl)
  d_is_bound := defAK (fv8 P) (fo8 P) X G  (ck48 P) (fun _ _ _ _ _ _ us hl => match us, hl with | [_], _ => rfl)
  d_is_name := defAK (fv9 P) (fo9 P) X G  (ck49 P) (fun _ _ _ _ _ _ us hl => match us, hl with | [_], _ => rfl)
  d_is_number := defAK (fv10 P) (fo10 P) X G  (ck50 P) (fun _ _ _ _ _ _ us hl => match us, hl with | [_], _ => rfl)
  d_read_named := defAK (fv11 P) (fo11 P) X G  (ck51 P) (fun _ _ _ _ _ _ us hl => match us, hl with | [_], _ => rfl)
  d_read_question := defAK (fv12 P) (fo12 P) X G  (ck52 P) (fun _ _ _ _ _ _ us hl => match us, hl with | [_], _ => rfl)
  d_read_test := defAK (fv13 P) (fo13 P) X G  (ck53 P) (fun _ _ _ _ _ _ us hl => match us, hl with | [_], _ => rfl)
  d_refuse := defAK (fv14 P) (fo14 P) X G  (ck54 P) (fun _ _ _ _ _ _ us hl => match us, hl with | [_, _], _ => rfl)
  i_Among := iniFK (fv15 P) (fo15 P)  (ck55 P) (fun _ _ _ _ _ _ us hl => match us, hl with | [_, _, _], _ => rfl)
  i_Both := iniFK (fv16 P) (fo16 P)  (ck56 P) (fun _ _ _ _ _ _ us hl => match us, hl with | [_, _, _], _ => rfl)
  i_Columns := iniFK (fv17 P) (fo17 P)  (ck57 P) (fun _ _ _ _ _ _ us hl => match us, hl with | [_, _, _], _ => rfl)
  i_Either := iniFK (fv18 P) (fo18 P)  (ck58 P) (fun _ _ _ _ _ _ us hl => match us, hl with | [_, _, _], _ => rfl)
  i_First := iniFK (fv19 P) (fo19 P)  (ck59 P) (fun _ _ _ _ _ _ us hl => match us, hl with | [_, _, _], _ => rfl)
  i_Joined := iniFK (fv20 P) (fo20 P)  (ck60 P) (fun _ _ _ _ _ _ us hl => match us, hl with | [_, _, _], _ => rfl)
  i_Like := iniFK (fv21 P) (fo21 P)  (ck61 P) (fun _ _ _ _ _ _ us hl => match us, hl with | [_, _, _], _ => rfl)
  i_Not := iniFK (fv22 P) (fo22 P)  (ck62 P) (fun _ _ _ _ _ _ us hl => match us, hl with | [_, _], _ => rfl)
  i_Ordered := iniFK (fv23 P) (fo23 P)  (ck63 P) (fun _ _ _ _ _ _ us hl => match us, hl with | [_, _, _], _ => rfl)
  i_Sums := iniFK (fv24 P) (fo24 P)  (ck64 P) (fun _ _ _ _ _ _ us hl => match us, hl with | [_, _, _, _], _ => rfl)
  i_Table := iniFK (fv25 P) (fo25 P)  (ck65 P) (fun _ _ _ _ _ _ us hl => match us, hl with | [_, _], _ => rfl)
  i_Where := iniFK (fv26 P) (fo26 P)  (ck66 P) (fun _ _ _ _ _ _ us hl => match us, hl with | [_, _, _], _ => rfl)
  i_Within := iniFK (fv27 P) (fo27 P)  (ck67 P) (fun _ _ _ _ _ _ us hl => match us, hl with | [_, _, _, _], _ => rfl)
  m_Test_told := metFK (fv28 P) (fo28 P)  (ck68 P) (fun _ _ _ _ _ _ us hl => match us, hl with | [_], _ => rfl)
  m_Within_told := metFK (fv29 P) (fo29 P)  (ck69 P) (fun _ _ _ _ _ _ us hl => match us, hl with | [_], _ => rfl)
  m_Like_told := metFK (fv30 P) (fo30 P)  (ck70 P) (fun _ _ _ _ _ _ us hl => match us, hl with | [_], _ => rfl)
  m_Paired_told := metFK (fv31 P) (fo31 P)  (ck71 P) (fun _ _ _ _ _ _ us hl => match us, hl with | [_], _ => rfl)
  m_Both_told := metFK (fv32 P) (fo32 P)  (ck72 P) (fun _ _ _ _ _ _ us hl => match us, hl with | [_], _ => rfl)
  m_Either_told := metFK (fv33 P) (fo33 P)  (ck73 P) (fun _ _ _ _ _ _ us hl => match us, hl with | [_], _ => rfl)
  m_Not_told := metFK (fv34 P) (fo34 P)  (ck74 P) (fun _ _ _ _ _ _ us hl => match us, hl with | [_], _ => rfl)
  m_Among_told := metFK (fv35 P) (fo35 P)  (ck75 P) (fun _ _ _ _ _ _ us hl => match us, hl with | [_], _ => rfl)
  m_Question_told := metFK (fv36 P) (fo36 P)  (ck76 P) (fun _ _ _ _ _ _ us hl => match us, hl with | [_], _ => rfl)
  m_Table_told := metFK (fv37 P) (fo37 P)  (ck77 P) (fun _ _ _ _ _ _ us hl => match us, hl with | [_], _ => rfl)
  m_Where_told := metFK (fv38 P) (fo38 P)  (ck78 P) (fun _ _ _ _ _ _ us hl => match us, hl with | [_], _ => rfl)
  m_Columns_told := metFK (fv39 P) (fo39 P)  (ck79 P) (fun _ _ _ _ _ _ us hl => match us, hl with | [_], _ => rfl)
  m_Joined_told := metFK (fv40 P) (fo40 P)  (ck80 P) (fun _ _ _ _ _ _ us hl => match us, hl with | [_], _ => rfl)
  m_Sums_told := metFK (fv41 P) (fo41 P)  (ck81 P) (fun _ _ _ _ _ _ us hl => match us, hl with | [_], _ => rfl)
  m_Ordered_told := metFK (fv42 P) (fo42 P)  (ck82 P) (fun _ _ _ _ _ _ us hl => match us, hl with | [_], _ => rfl)
  m_First_told := metFK (fv43 P) (fo43 P)  (ck83 P) (fun _ _ _ _ _ _ us hl => match us, hl with | [_], _ => rfl)
  cl_Among := He.cls_ok (ck84 P)
  cl_Both := He.cls_ok (ck85 P)
  cl_Columns := He.cls_ok (ck86 P)
  cl_Either := He.cls_ok (ck87 P)
  cl_First := He.cls_ok (ck88 P)
  cl_Joined := He.cls_ok (ck89 P)
  cl_Like := He.cls_ok (ck90 P)
  cl_Not := He.cls_ok (ck91 P)
  cl_Ordered := He.cls_ok (ck92 P)
  cl_Paired := He.cls_ok (ck93 P)
  cl_Question := He.cls_ok (ck94 P)
  cl_Sums := He.cls_ok (ck95 P)
  cl_Table := He.cls_ok (ck96 P)
  cl_Test := He.cls_ok (ck97 P)
  cl_Where := He.cls_ok (ck98 P)
  cl_Within := He.cls_ok (ck99 P)
  xi_NoQuestion := xin_okK (fv44 P) (fo44 P)  (ck100 P) (fun _ _ _ _ _ _ us hl => match us, hl with | [_, _], _ => rfl)
  vi := vi_ok (ck101 P)
end Law
open PySem PySem.W PySem.Calls PyProof.Rows
set_option maxHeartbeats 0 in
theorem PySem.Challenge.cw_planledger_k15_what_tells_no_question_holds : PySem.Challenge.rw_planledger_k15_what_tells_no_question.Holds := by
  w_on; o_law
  refine HandSHeadRun.head_any (r := OpenLaw.row PySem.Challenge.rw_planledger_k15_what_tells_no_question) (q := view (OpenLaw.row PySem.Challenge.rw_planledger_k15_what_tells_no_question).prog [43]) (H := Law.hk) (ob := Law.ob) (M := 20000) (loose := Law.names) (d := HandSHeadRun.topDef (OpenLaw.row PySem.Challenge.rw_planledger_k15_what_tells_no_question).prog 43) (kwd := []) Law.ob_eq
    (by kernel_rfl) (fun s => by kernel_rfl) Law.run (by kernel_rfl) (by kernel_rfl) (by kernel_rfl) (by rfl) (by first | assumption | decide +kernel) (by decide +kernel) ⟨rfl, rfl, rfl, rfl, rfl, by decide +kernel⟩ ?hw ?hc
  case hw => w_witness2
  case hc =>
    refine DL.walk_end (l := PySem.Challenge.rw_planledger_k15_what_tells_no_question) (n := 63) (k := 81) (x := "_law_script") (CX := fun w => L2.CX (PySem.Challenge.rw_planledger_k15_what_tells_no_question).prog w) rfl (by decide) (by kernel_rfl) ⟨rfl, by decide, by decide⟩ ?F (fun w H s e s' z => by
      obtain ⟨_, _, _, _, _, _, _, _, _, _, _, _, z⟩ := z
      exact z.elim)
    intro w mg fa h Y G hmg0
    have KX : (Law.K0 w.params).In h := Y
    have hmg : mg ("law" : PySem.Str) = some (.ref fa) := by
      have e : (HandSHeadRun.topDef (OpenLaw.row PySem.Challenge.rw_planledger_k15_what_tells_no_question).prog 43).name = ("law" : PySem.Str) := by kernel_rfl
      rw [← e]
      exact hmg0
    have e := hmg.symm.trans (He.glo_ok KX G (Law.ck102 w.params))
    cases e
    obtain ⟨fd, F⟩ := He.DefD.funD (Law.fv45 w.params) (Law.fo45 w.params)
    have F := DL.fun_of (x := "law") (qual := "law") (st := Law.s_law) F
    refine ⟨Law.K0 w.params, fd, _, KX, fun s v => ?_, fun H a ns hl hb _ hS => DL.law_sp (G := Law.sg (Law.K0 w.params) (He.ga (Law.K0 w.params))) (c := Law.call 40 .law) hS (Law.law_ok ns hl hb), fun base _ _ => Law.ok_law (n := 39) (Law.txt KX G) F⟩
    obtain ⟨oc, od, kV, dc, pm, an, cdv, ct, osl, efd, lk, hcd⟩ := F.ex
    subst efd
    exact .of_eq rfl
