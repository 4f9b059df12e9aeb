import PyProof.Rows.All
import Wide.All
import OpenK.AllK
import Wide.FinOn
import HandS.ForMost
import HandS.ForExc
import HandS.IsInst
import HandS.ExcIs
import HandS.EndBits
import HandS.Wide
import HandS.More
import HandS.TupAny
import HandS.Deep

import PySem.Challenge.RW_planledger_k02_rows_of_tables

set_option Elab.async false
set_option linter.all false
set_option maxRecDepth 100000
set_option maxHeartbeats 4000000
/-! PL: bundles of promises, calls, heaps. -/
namespace PL
open PySem L2
abbrev CXX := L2.CX
/-- a def by its name, a method of C, a class by its __init__: their promises -/
structure Cal (P : Program) (w : World) (K : PySem.W.Frag) (mg : Str → Option Value) (base : Heap) (k : Nat) (x : Str) (sp : Sp) : Prop where
  ex : ∃ (f : Addr) (fd : FuncData) (ps : List Str), FnOk P w K mg base (L2.CX P w) k f fd ps sp ∧ mg x = some (.ref f) ∧ PySem.W.keepIn K (.ref f) = true ∧ Binds K fd ps []
structure Met (P : Program) (w : World) (K : PySem.W.Frag) (mg : Str → Option Value) (base : Heap) (k : Nat) (C : Addr) (m : Str) (sp : Sp) : Prop where
  ex : ∃ (f : Addr) (fd : FuncData) (ps : List Str), Cls K C ∧ Meth K C m f ∧ FnOk P w K mg base (L2.CX P w) k f fd ps sp ∧ Binds K fd ps []
structure Mak (P : Program) (w : World) (K : PySem.W.Frag) (mg : Str → Option Value) (base : Heap) (k : Nat) (x : Str) (C : Addr) (sp : Sp) : Prop where
  ex : ∃ (f : Addr) (fd : FuncData) (ps : List Str), Mk K C f ∧ FnOk P w K mg base (L2.CX P w) k f fd ps sp ∧ mg x = some (.ref C) ∧ Binds K fd ps []
/-- what the text says of a def -/
structure DefF (K : PySem.W.Frag) (mg : Str → Option Value) (x : Str) (st : Stmt) (ps : List Str) : Prop where
  ex : ∃ (f : Addr) (fd : FuncData), Fun K x x st f fd ∧ Binds K fd ps [] ∧ mg x = some (.ref f)
structure MetF (K : PySem.W.Frag) (C : Addr) (m qual : Str) (st : Stmt) (ps : List Str) : Prop where
  ex : ∃ (f : Addr) (fd : FuncData), Fun K m qual st f fd ∧ Binds K fd ps [] ∧ Meth K C m f
structure IniF (K : PySem.W.Frag) (C : Addr) (qual : Str) (st : Stmt) (ps : List Str) : Prop where
  ex : ∃ (f : Addr) (fd : FuncData), Fun K "__init__" qual st f fd ∧ Binds K fd ps [] ∧ Mk K C f
section
variable {P : Program} {w : World} {K : PySem.W.Frag} {mg : Str → Option Value} {base : Heap} {N ps : List Str} {k : Nat} {sp : Sp} {x qual m : Str} {st : Stmt} {C : Addr}
/-- the body's reading: what is asked of a def -/
def Body (P : Program) (w : World) (K : PySem.W.Frag) (mg : Str → Option Value) (base : Heap) (N : List Str) (qual : Str) (st : Stmt) (k : Nat) (sp : Sp) : Prop :=
  ∀ (f : Addr) (cdv : Value) (A : Around) (outer : List Env) (s : Shared) (H : Hp) (vs : List V) (Q : VK) (E : XK), Room k (A.deeper (PyProof.Rows.envOfC qual (defScope st) s.heap.objs.size f cdv)) → sp vs H Q E →
      ∃ t, PSs (cxOf (L2.CX P w) P w K mg base N qual (defScope st) f cdv A outer s H E) (defBody st) t ∧ t { nx := fun _ H' => Q .non H', rt := Q } (start N vs) H
theorem DefF.cal (F : DefF K mg x st ps) (S : FnScope N ps (defScope st)) (len : ∀ vs H Q E, sp vs H Q E → vs.length = ps.length) (hbody : Body P w K mg base N x st k sp) : Cal P w K mg base (k + 1) x sp := by
  obtain ⟨f, fd, F, b, g⟩ := F.ex
  exact ⟨f, fd, ps, F.okX S len (fun cdv A outer s H vs Q E hr h => hbody f cdv A outer s H vs Q E hr h), g, F.kp, b⟩
theorem MetF.met (F : MetF K C m qual st ps) (c : Cls K C) (S : FnScope N ps (defScope st)) (len : ∀ vs H Q E, sp vs H Q E → vs.length = ps.length) (hbody : Body P w K mg base N qual st k sp) : Met P w K mg base (k + 1) C m sp := by
  obtain ⟨f, fd, F, b, g⟩ := F.ex
  exact ⟨f, fd, ps, c, g, F.okX S len (fun cdv A outer s H vs Q E hr h => hbody f cdv A outer s H vs Q E hr h), b⟩
theorem IniF.mak (F : IniF K C qual st ps) (g : mg x = some (.ref C)) (S : FnScope N ps (defScope st)) (len : ∀ vs H Q E, sp vs H Q E → vs.length = ps.length) (hbody : Body P w K mg base N qual st k sp) : Mak P w K mg base (k + 1) x C sp := by
  obtain ⟨f, fd, F, b, M⟩ := F.ex
  exact ⟨f, fd, ps, M, F.okX S len (fun cdv A outer s H vs Q E hr h => hbody f cdv A outer s H vs Q E hr h), g, b⟩
end
section
variable {X : Cx} {k j : Nat} {C : Addr} {x m : Str} {sp : Sp} {p pos apos : Pos} {e o : Expr} {es : List Expr} {ta : TE} {t : TA} {W : WX}
theorem pass00 (σ : St) : PassesAt (L2.CX X.prog X.w) X σ E0 := fun _ _ _ _ _ _ h => by
  obtain ⟨_, _, _, _, _, _, _, _, _, _, _, _, z⟩ := h
  exact z.elim
theorem pe_c (c : Cal X.prog X.w X.K X.mg X.base k x sp) (hr : Room j X.A) (hk : k ≤ j) (hg : Gl X x) (ha : PA X (e :: es) t)
    (hdb : (x == ("__debug__" : Str)) = false := by decide) (he : starEach (e :: es) X.env = (false, eval e X.env) :: starEach es X.env := by rfl) (hpl : (backTo pos (starEach es X.env)).any (·.1) = false := by rfl) :
    PE X (.Call (.Name x p) (e :: es) [] pos) (tCallS sp (fun _ => E0) t) := by
  obtain ⟨f, fd, ps, F, hm, kp, b⟩ := c.ex
  exact pe_callS F (hr.mono hk) hg hm kp b pass00 ha hdb he hpl
theorem pe_cX (c : Cal X.prog X.w X.K X.mg X.base k x sp) (hr : Room j X.A) (hk : k ≤ j) (hg : Gl X x) (tk : Takes X W) (ha : PA X (e :: es) t)
    (hdb : (x == ("__debug__" : Str)) = false := by decide) (he : starEach (e :: es) X.env = (false, eval e X.env) :: starEach es X.env := by rfl) (hpl : (backTo pos (starEach es X.env)).any (·.1) = false := by rfl) :
    PE X (.Call (.Name x p) (e :: es) [] pos) (tCallS sp (WE W) t) := by
  obtain ⟨f, fd, ps, F, hm, kp, b⟩ := c.ex
  exact pe_callS F (hr.mono hk) hg hm kp b (fun σ => passAt tk σ) ha hdb he hpl
/-- a method call, by E at the slots -/
def tMt (C : Addr) (m : Str) (sp : Sp) (E : St → XK) (ta : TE) (t : TA) : TE := fun σ H Q => ta σ H fun x H1 => ∃ a dx fs, x = .ref a ∧ H1 a = some (.ins C dx fs) ∧ fs.lookup m = none ∧ t σ H1 fun vs H2 => sp (.ref a :: vs) H2 Q (E σ)
theorem pe_mtG {pl : Sem Bool} {E : St → XK} (c : Met X.prog X.w X.K X.mg X.base k C m sp) (hr : Room j X.A) (hk : k ≤ j) (hx : ∀ σ, PassesAt (L2.CX X.prog X.w) X σ (E σ)) (he : PE X o ta) (ha : PA X (e :: es) t)
    (hst : starEach (e :: es) X.env = (false, eval e X.env) :: starEach es X.env := by rfl) (hpl : (backTo pos (starEach es X.env)).any (·.1) = false := by rfl)
    (ht : eval (.Call (.Attribute o m apos) (e :: es) [] pos) X.env = (do
      let ov ← eval o X.env
      standAt apos.atName
      let (f, first) ← holding [ov] (getMethod ov m pl)
      callWith pos f first (backTo pos (starEach (e :: es) X.env)) (backToKw pos (keywordEach [] X.env))) := by rfl) :
    PE X (.Call (.Attribute o m apos) (e :: es) [] pos) (tMt C m sp E ta t) := by
  obtain ⟨f, fd, ps, cl, hm, F, b⟩ := c.ex
  refine ⟨fun pins s σ H Q I h => ?_⟩
  refine PySem.W.methodCall_KW (pl := pl) (thn (he.run pins s σ H _ I h) fun u s1 ⟨x, H1, I1, rx, a, dx, fs, ex, ea, l, q⟩ => ?_) ht
  subst ex
  obtain rfl : u = Value.ref a := rx
  refine getmeth_ok I1 ea cl hm l ?_
  refine PySem.W.callWith_K (first := [.ref a]) (h₀ := X.base) I.ok.mod.kin hm.kp (thn (ha.run pos pins s1 σ H1 _ I1 q) fun us s2 ⟨vs, H2, I2, r, q2⟩ => ⟨I2.kIn, ?_⟩) hst hpl
  exact run_fnS (us := .ref a :: us) (vs := .ref a :: vs) F (hr.mono hk) b (hx σ) I2 (.cons rfl r) q2
theorem pe_mtG0 {pl : Sem Bool} {E : St → XK} (c : Met X.prog X.w X.K X.mg X.base k C m sp) (hr : Room j X.A) (hk : k ≤ j) (hx : ∀ σ, PassesAt (L2.CX X.prog X.w) X σ (E σ)) (he : PE X o ta)
    (ht : eval (.Call (.Attribute o m apos) [] [] pos) X.env = (do
      let ov ← eval o X.env
      standAt apos.atName
      let (f, first) ← holding [ov] (getMethod ov m pl)
      callWith pos f first (backTo pos (starEach [] X.env)) (backToKw pos (keywordEach [] X.env))) := by rfl) :
    PE X (.Call (.Attribute o m apos) [] [] pos) (tMt C m sp E ta tNil) := by
  obtain ⟨f, fd, ps, cl, hm, F, b⟩ := c.ex
  refine ⟨fun pins s σ H Q I h => ?_⟩
  refine PySem.W.methodCall_KW (pl := pl) (thn (he.run pins s σ H _ I h) fun u s1 ⟨x, H1, I1, rx, a, dx, fs, ex, ea, l, q⟩ => ?_) ht
  subst ex
  obtain rfl : u = Value.ref a := rx
  refine getmeth_ok I1 ea cl hm l ?_
  exact PySem.W.callWith_K0 (first := [.ref a]) I1.kIn hm.kp (run_fnS (us := [.ref a]) (vs := [.ref a]) F (hr.mono hk) b (hx σ) I1 (.cons rfl .nil) q)
/-- a class made -/
def tMkG (C : Addr) (sp : Sp) (E : St → XK) (t : TA) : TE := fun σ H Q => t σ H fun vs H1 => ∀ x dx, H1 x = none → H1 dx = none → dx ≠ x → sp (.ref x :: vs) (upd (upd H1 dx (.own x)) x (.ins C dx [])) (fun v H2 => v = .non ∧ Q (.ref x) H2) (E σ)
theorem run_makeS {f : Addr} {fd : FuncData} {ps : List Str} {E : St → XK} {pins : List (Addr × Obj)} {σ : St} {H : Hp} {s : Shared} {Q : VK} {us : List Value} {vs : List V} (M : Mk X.K C f) (F : FnOk X.prog X.w X.K X.mg X.base (L2.CX X.prog X.w) k f fd ps sp) (hr : Room (k + 1) X.A) (hb : Binds X.K fd ps [])
    (hx : PassesAt (L2.CX X.prog X.w) X σ (E σ)) (I : Inv X pins σ H s) (r : Vals vs us)
    (h : ∀ x dx, H x = none → H dx = none → dx ≠ x → sp (.ref x :: vs) (upd (upd H dx (.own x)) x (.ins C dx [])) (fun v H2 => v = .non ∧ Q (.ref x) H2) (E σ)) :
    wpAny (model X.prog X.w) X.A (call (.ref C) us) (EP X pins σ Q) X.xe s := by
  have hq := h (s.heap.objs.size + 1) s.heap.objs.size (I.hok.fresh (Nat.le_succ _)) (I.hok.fresh (Nat.le_refl _)) (Nat.ne_of_lt (Nat.lt_succ_self _))
  have I2 := Inv.made (C := C) I
  have r2 : Vals (V.ref (s.heap.objs.size + 1) :: vs) (Value.ref (s.heap.objs.size + 1) :: us) := .cons rfl r
  have hl : (Value.ref (s.heap.objs.size + 1) :: us).length = ps.length := by
    have e := r2.length
    rw [F.len _ _ _ _ hq] at e
    exact e.symm
  have b := hb _ (Value.ref (s.heap.objs.size + 1) :: us) I2.kIn (by rw [List.append_nil]; exact hl)
  rw [List.append_nil] at b
  refine wpAny_call (make_map (f := f) I.kIn M.makes M.init (beq_iff_eq.mp M.fn) (codeAny_mono (F.run _ X.stack _ _ ⟨Value.ref (s.heap.objs.size + 1) :: us, []⟩ (Value.ref (s.heap.objs.size + 1) :: us) _ _ (E σ) (hr.make C us [])
    (I2.env0.make C us []) b r2 hq) fun r s' hq' => ?_))
  cases r with
  | error e => exact hx pins _ _ e s' I2 hq'
  | ok fl =>
    cases fl with
    | ret u =>
      obtain ⟨v, H', I3, rv, ev, q3⟩ := I2.after hq'
      subst ev
      exact ⟨rv, ⟨V.ref (s.heap.objs.size + 1), H', I3, rfl, q3⟩⟩
    | next => exact False.elim hq'
    | brk => exact False.elim hq'
    | cont => exact False.elim hq'
theorem pe_mkG {E : St → XK} (c : Mak X.prog X.w X.K X.mg X.base k x C sp) (hr : Room j X.A) (hk : k + 1 ≤ j) (hg : Gl X x) (hx : ∀ σ, PassesAt (L2.CX X.prog X.w) X σ (E σ)) (ha : PA X (e :: es) t)
    (hdb : (x == ("__debug__" : Str)) = false := by decide) (he : starEach (e :: es) X.env = (false, eval e X.env) :: starEach es X.env := by rfl) (hpl : (backTo pos (starEach es X.env)).any (·.1) = false := by rfl) :
    PE X (.Call (.Name x p) (e :: es) [] pos) (tMkG C sp E t) := by
  obtain ⟨f, fd, ps, M, F, hm, b⟩ := c.ex
  refine ⟨fun pins s σ H Q I h => ?_⟩
  refine wpAny_Call_Name_kw (ld_glob I hg hm ?_ hdb)
  refine PySem.W.callWith_K (h₀ := X.base) I.ok.mod.kin M.kp (thn (ha.run pos pins s σ H _ I h) fun us s1 ⟨vs, H1, I1, r, q⟩ => ⟨I1.kIn, ?_⟩) he hpl
  exact run_makeS M F (hr.mono hk) b (hx σ) I1 r q
theorem pe_mkG0 {E : St → XK} (c : Mak X.prog X.w X.K X.mg X.base k x C sp) (hr : Room j X.A) (hk : k + 1 ≤ j) (hg : Gl X x) (hx : ∀ σ, PassesAt (L2.CX X.prog X.w) X σ (E σ))
    (hdb : (x == ("__debug__" : Str)) = false := by decide) : PE X (.Call (.Name x p) [] [] pos) (tMkG C sp E tNil) := by
  obtain ⟨f, fd, ps, M, F, hm, b⟩ := c.ex
  refine ⟨fun pins s σ H Q I h => ?_⟩
  refine wpAny_Call_Name_kw (ld_glob I hg hm ?_ hdb)
  exact PySem.W.callWith_K0 I.kIn M.kp (run_makeS (us := []) M F (hr.mono hk) b (hx σ) I .nil h)
theorem pe_gc {v : V} (hg : Gl X x) (h : ∃ u, X.mg x = some u ∧ RelV v u) (hd : (x == ("__debug__" : Str)) = false := by decide) : PE X (.Name x pos) (tC v) := by
  obtain ⟨u, hm, r⟩ := h
  exact pe_glob hg hm r hd
/-- either of two readings -/
theorem PE.orr {e : Expr} {t u : TE} (h : PE X e t) (h' : PE X e u) : PE X e (fun σ H Q => t σ H Q ∨ u σ H Q) :=
  ⟨fun pins s σ H Q I q => q.elim (h.run pins s σ H Q I) (h'.run pins s σ H Q I)⟩
end
section
variable {X : Cx} {a : Addr} {oe : Obj} {pn : List (Addr × Obj)} {cls : Value} {d : Option Addr}
/-- isinstance(e, c), e the exception that the suite holds, whatever its class -/
def rIsX (K : PySem.W.Frag) (cls : Value) (d : Option Addr) (a : Addr) : List V → Hp → VK → Prop := fun xs H Q => ∃ (D : Addr) (c : V) (cv : Value) (b : Bool), cls = .ref D ∧ d = none ∧ ExcC K D ∧ xs = [.ref a, c] ∧ (∀ u, RelV c u → u = cv) ∧ PySem.W.kitOne K (.ref D) cv = some b ∧ Q (.bl b) H
theorem call_isX (hz : Zc cls d oe) (hf : ∃ vs, oe.data = .fields vs) : CallR (X.suite a ((a, oe) :: pn)) (.builtin "isinstance") (rIsX X.K cls d a) := by
  intro pins s σ H xs us Q I r h
  obtain ⟨D, c, cv, b, rfl, rfl, C, rfl, hcv, e, q⟩ := h
  exact call_isE C hz hf pins s σ H _ us Q I r ⟨c, cv, b, rfl, hcv, e, q⟩
/-- isinstance(e, (c1, c2, ..)) -/
def rIsXT (K : PySem.W.Frag) (cls : Value) (d : Option Addr) (a : Addr) : List V → Hp → VK → Prop := fun xs H Q => ∃ (D tp : Addr) (cs : List V) (us : List Value) (b : Bool), cls = .ref D ∧ d = none ∧ ExcC K D ∧ xs = [.ref a, .ref tp] ∧ H tp = some (.tup cs) ∧ Paired ClsV cs us ∧ PySem.W.kitAny K (.ref D) us = some b ∧ Q (.bl b) H
theorem call_isXT (hz : Zc cls d oe) (hf : ∃ vs, oe.data = .fields vs) : CallR (X.suite a ((a, oe) :: pn)) (.builtin "isinstance") (rIsXT X.K cls d a) := by
  intro pins s σ H xs us Q I r h
  obtain ⟨D, tp, cs, ws, b, rfl, rfl, C, rfl, hT, k, e, q⟩ := h
  obtain ⟨u1, u2, rfl, r1, r2⟩ := vals2 r
  cases (show u1 = Value.ref a from r1)
  cases (show u2 = Value.ref tp from r2)
  obtain ⟨hget, _⟩ := I.pin (a, oe) (List.mem_append.mpr (.inl List.mem_cons_self))
  obtain ⟨vs, hv⟩ := hf
  have J : PySem.W.InstAt s.heap a oe D none := by
    obtain ⟨oc, od, oda, osl⟩ := oe
    obtain ⟨h1, h2⟩ := hz
    dsimp only at h1 h2 hv
    subst h1 h2 hv
    exact ⟨hget, rfl, rfl, trivial⟩
  obtain ⟨_, its, rv, o, h1, h2, n, h3⟩ := (show ObjOk _ _ H s.heap tp (.tup cs) from I.hok tp _ hT)
  have e3 := ClsV.all k rv
  subst e3
  obtain ⟨oc, od, dt, sl⟩ := o
  simp only at h2 h3
  subst h2 h3
  exact PySem.W.kia_tup (PySem.W.handS_kitx_exc C.hg C.hk C.hs C.hd C.ha C.hn C.ht C.hm) I.kIn J h1 e (fun z => nomatch z) fun tk => ⟨.bl b, H, I.kept (t' := tk) fun _ _ z => z, rfl, q⟩
end
/-- a place where ways meet: P holds there, and the rest follows from P -/
theorem seq_cut {A rest : TS} {D : Ends} {σ : St} {H : Hp} (P : St → Hp → Prop) (h2 : ∀ σ' H', P σ' H' → rest D σ' H') (h1 : (∀ σ' H', P σ' H' → rest D σ' H') → A { D with nx := rest D } σ H) : tSeq A rest D σ H := h1 h2
theorem s_name {i : Nat} {v : V} {σ : St} {H : Hp} {R : St → Hp → Prop} (h : R (σ.set i (some v)) H) : gName i v σ H R := h
theorem s_setc {i : Nat} {v : V} {u : TS} {D : Ends} {σ : St} {H : Hp} (h : u D (σ.set i (some v)) H) : tSeq (tAsg (tC v) (gName i)) u D σ H := h
/-! ### heaps -/
theorem same_upd {H : Hp} {p : Addr} {o : HO} (n : H p = none) : Same H (upd H p o) := fun b u e => by rw [upd_ne (ne_of_none e n)]; exact e
theorem up_new {H : Hp} {p a : Addr} {o u : HO} (n : H p = none) (h : H a = some u) : upd H p o a = some u := same_upd n a u h
theorem up_ne {H : Hp} {p a : Addr} {o u : HO} (n : a ≠ p) (h : H a = some u) : upd H p o a = some u := by rw [upd_ne n]; exact h
/-- all but the objects at F are as they were -/
def Frm (F : List Addr) (H H' : Hp) : Prop := ∀ b o, H b = some o → b ∉ F → H' b = some o
theorem Frm.refl (F : List Addr) (H : Hp) : Frm F H H := fun _ _ e _ => e
theorem Frm.of_same {F : List Addr} {H H' : Hp} (s : Same H H') : Frm F H H' := fun b o e _ => s b o e
theorem Frm.same {H H' : Hp} (s : Frm [] H H') : Same H H' := fun b o e => s b o e (by simp)
theorem Frm.trans {F : List Addr} {H H1 H2 : Hp} (a : Frm F H H1) (b : Frm F H1 H2) : Frm F H H2 := fun c o e n => b c o (a c o e n) n
/-- the second step may also change what the first one made -/
theorem Frm.trans' {F G : List Addr} {H H1 H2 : Hp} (a : Frm F H H1) (b : Frm G H1 H2) (g : ∀ x, x ∈ G → x ∈ F ∨ H x = none) : Frm F H H2 := fun c o e n => b c o (a c o e n) fun z => (g c z).elim n fun q => by rw [q] at e; cases e
theorem Frm.upd {F : List Addr} {H H' : Hp} {p : Addr} {o : HO} (a : Frm F H H') (hp : p ∈ F ∨ H p = none) : Frm F H (upd H' p o) := fun c u e n => by
  have : c ≠ p := fun z => by subst z; exact hp.elim n fun q => by rw [q] at e; cases e
  rw [upd_ne this]; exact a c u e n
theorem Frm.at {F : List Addr} {H H' : Hp} {a : Addr} {o : HO} (f : Frm F H H') (n : a ∉ F) (h : H a = some o) : H' a = some o := f a o h n
theorem Frm.mono {F G : List Addr} {H H' : Hp} (f : Frm F H H') (g : ∀ x, x ∈ F → x ∈ G) : Frm G H H' := fun b o e n => f b o e fun z => n (g b z)
theorem Frm.free {F : List Addr} {H H' : Hp} (f : Frm F H H') {l : Addr} (h : H' l = none) (n : l ∉ F) : H l = none := by
  cases q : H l with
  | none => rfl
  | some o => rw [f l o q n] at h; cases h
/-- what never changes: tuples, and what is locked -/
def immO : HO → Bool
  | .tup _ => true
  | .frz _ _ => true
  | _ => false
def Imm (H H' : Hp) : Prop := ∀ b o, H b = some o → immO o = true → H' b = some o
theorem Imm.refl (H : Hp) : Imm H H := fun _ _ e _ => e
theorem Imm.trans {H H1 H2 : Hp} (a : Imm H H1) (b : Imm H1 H2) : Imm H H2 := fun c o e i => b c o (a c o e i) i
theorem Imm.of_same {H H' : Hp} (s : Same H H') : Imm H H' := fun b o e _ => s b o e
theorem Frm.imm {F : List Addr} {H H' : Hp} (f : Frm F H H') (n : ∀ p ∈ F, ∀ o, H p = some o → immO o = false) : Imm H H' := fun b o e i => f b o e fun z => by rw [n b z o e] at i; cases i
theorem Imm.upd {H H' : Hp} {p : Addr} {o u : HO} (a : Imm H H') (e : H' p = some u) (h : immO u = false) : Imm H (upd H' p o) := fun c w z i => by
  have : c ≠ p := fun q => by
    subst q
    rw [a c w z i] at e
    cases e
    rw [h] at i
    cases i
  rw [upd_ne this]; exact a c w z i
theorem Imm.sqT {K : PySem.W.Frag} {H H' : Hp} {a : Addr} {xs : List V} (m : Imm H H') (h : SqT K H a xs) : SqT K H' a xs := by
  rcases h with (h | ⟨o, h⟩) | h
  · exact .inl (.inl (m _ _ h rfl))
  · exact .inl (.inr ⟨o, m _ _ h rfl⟩)
  · exact .inr h
mutual
/-- data without lists and dicts -/
def tupD : PyData → Bool
  | .tuple xs => tupDs xs
  | .list _ => false
  | .dict _ => false
  | _ => true
def tupDs : List PyData → Bool
  | [] => true
  | x :: xs => tupD x && tupDs xs
end
mutual
theorem Dp.imm {K : PySem.W.Frag} {H H' : Hp} (m : Imm H H') : ∀ (d : PyData) (v : V), tupD d = true → Dp K H v d → Dp K H' v d
  | .none, _, _, h => by cases h; exact .non
  | .bool b, _, _, h => by cases h; exact .bl b
  | .int i, _, _, h => by cases h; exact .int i
  | .str x, _, _, h => by cases h; exact .str x
  | .list _, _, t, _ => by simp [tupD] at t
  | .dict _, _, t, _ => by simp [tupD] at t
  | .tuple ds, _, t, h => by
    cases h with
    | tup hs ha => exact .tup (m.sqT hs) (DpAll.imm m ds _ (by simpa [tupD] using t) ha)
theorem DpAll.imm {K : PySem.W.Frag} {H H' : Hp} (m : Imm H H') : ∀ (ds : List PyData) (vs : List V), tupDs ds = true → DpAll K H vs ds → DpAll K H' vs ds
  | [], _, _, h => by cases h; exact .nil
  | d :: ds, _, t, h => by
    have t' : tupD d = true ∧ tupDs ds = true := by simpa [tupDs] using t
    cases h with
    | cons a b => exact .cons (Dp.imm m d _ t'.1 a) (DpAll.imm m ds _ t'.2 b)
end
theorem nodup_len {α : Type} [DecidableEq α] : ∀ {a b : List α}, a.Nodup → (∀ x ∈ a, x ∈ b) → a.length ≤ b.length
  | [], _, _, _ => Nat.zero_le _
  | x :: a, b, nd, h => by
    obtain ⟨n1, n2⟩ := List.nodup_cons.mp nd
    have hx : x ∈ b := h x (by simp)
    have h2 := nodup_len (a := a) (b := b.erase x) n2 fun y hy => (List.mem_erase_of_ne fun z => n1 (by rw [← z]; exact hy)).mpr (h y (by simp [hy]))
    rw [List.length_erase_of_mem hx] at h2
    have := List.length_pos_of_mem hx
    rw [List.length_cons]
    omega
theorem map_set {α β : Type} (f : α → β) (l : List α) (j : Nat) (a : α) : (l.map f).set j (f a) = (l.set j a).map f := by rw [List.map_set]
theorem ixN_nat {n j : Nat} (h : j < n) : ixN n (j : Int) = some j := by unfold ixN; rw [if_pos (by omega), if_pos (by omega)]; simp
theorem isint {ns : List Int} {i : Nat} {y : V} (h : (ns.map V.int)[i]? = some y) : ∃ z, y = V.int z ∧ ns[i]? = some z := by
  rw [List.getElem?_map] at h
  cases e : ns[i]? with
  | none => rw [e] at h; cases h
  | some z => rw [e] at h; exact ⟨z, (Option.some.inj h).symm, rfl⟩
end PL
namespace PL
open PySem L2
theorem units65 {k : Nat} {A : Around} (r : Room k A) : A.units + 65 < cLine := by have := r.un; omega
section
variable {X : Cx} {K : PySem.W.Frag}
/-- in a comprehension's block the written part is said by its name -/
theorem kx_ix {F : PySem.W.Frag → R2} (h : X.K = K) (r : IxR X (F X.K)) : IxR X (F K) := h ▸ r
theorem kx_call {f : Value} {F : PySem.W.Frag → List V → Hp → VK → Prop} (h : X.K = K) (r : CallR X f (F X.K)) : CallR X f (F K) := h ▸ r
theorem kx_op {f : Value → Value → Sem Value} {F : PySem.W.Frag → R2} (h : X.K = K) (r : OpR X f (F X.K)) : OpR X f (F K) := h ▸ r
theorem kx_sl {F : PySem.W.Frag → V → Option Int → Option Int → Hp → VK → Prop} (h : X.K = K) (r : SlR X (F X.K)) : SlR X (F K) := h ▸ r
theorem kx_fld {e : Expr} {f : Str} {pos : Pos} {ta : TE} (h : X.K = K) (he : PE X e ta) (hb : attributeBase e f X.env (eval e X.env) = eval e X.env) : PE X (.Attribute e f pos) (tFld K ta f) := h ▸ pe_fld he hb
end
theorem sqT_ty {K : PySem.W.Frag} {H : Hp} {a : Addr} {xs : List V} (h : SqT K H a xs) : TyX K H (.ref a) (.type "tuple") := by
  rcases h with (h | ⟨o, h⟩) | ⟨o, its, n, h1, h2, _⟩
  · exact .base (.tup h)
  · exact .fTuple h
  · exact .kTuple h1 h2
/-- what stood at the beginning stands, where only new things are changed -/
theorem Same.frm {F : List Addr} {H0 H H' : Hp} (s : Same H0 H) (f : Frm F H H') (n : ∀ x ∈ F, H0 x = none) : Same H0 H' := fun b o e => f b o (s b o e) fun z => by rw [n b z] at e; cases e
/-- isinstance, except: from what the classes' rows say -/
theorem kit_sub {K : PySem.W.Frag} {A B : Addr} {b : Bool} (h1 : PySem.W.isClsIn K B = true) (h2 : PySem.W.typeIn K (.ref B) = some (.type "type")) (h3 : PySem.W.subIn K (.ref A) (.ref B) = some b) (hn : (Value.ref A == Value.ref B) = false) : PySem.W.kitOne K (.ref A) (.ref B) = some b := by
  unfold PySem.W.kitOne PySem.W.kitCls
  rw [hn]
  simp only [Bool.false_eq_true, if_false]
  have h1' : (PySem.W.clsIn K B).isSome = true := h1
  rw [h1', h2]
  simp only [beq_self_eq_true, Bool.and_self, if_true]
  exact h3
theorem kit_self {K : PySem.W.Frag} {A : Addr} (h : (Value.ref A == Value.ref A) = true) : PySem.W.kitOne K (.ref A) (.ref A) = some true := by
  unfold PySem.W.kitOne
  rw [if_pos h]
theorem kit_type {K : PySem.W.Frag} {A : Addr} {T : String} {b : Bool} (h1 : PySem.W.kitMeta T = true) (h3 : PySem.W.subIn K (.ref A) (.type T) = some b) (hn : (Value.ref A == Value.type T) = false) : PySem.W.kitOne K (.ref A) (.type T) = some b := by
  unfold PySem.W.kitOne PySem.W.kitCls
  rw [hn]
  simp only [Bool.false_eq_true, if_false]
  rw [if_pos h1]
  exact h3
theorem exm_sub {K : PySem.W.Frag} {A B : Addr} {b : Bool} (h0 : PySem.W.subIn K (.ref B) (.type "BaseException") = some true) (h1 : PySem.W.isClsIn K B = true) (h2 : PySem.W.typeIn K (.ref B) = some (.type "type")) (h3 : PySem.W.subIn K (.ref A) (.ref B) = some b) : PySem.W.exmOne K (.ref A) (.ref B) = some b := by
  unfold PySem.W.exmOne PySem.W.kitCls
  have h1' : (PySem.W.clsIn K B).isSome = true := h1
  rw [h0, if_pos (by simp)]
  simp only [h1', h2, beq_self_eq_true, Bool.and_self, if_true]
  exact h3
/-- a comprehension over a text, sign by sign -/
theorem lc_str {x : Str} {g : TG} {tt : TT} {te : TE} {vs : List Nat} {σ : St} {H1 : Hp} {D : Addr} {Qd : Hp → Prop} (Pv : Nat → Hp → Prop) (h0 : Pv 0 (upd H1 D (.lst [])))
    (hs : ∀ i c H, x.cps[i]? = some c → Pv i H → g (.str ⟨#[c]⟩) (wipe σ vs) H fun σ2 H2 => wipe σ2 vs = wipe σ vs ∧ tt σ2 H2 fun b H3 =>
      if b = true then te σ2 H3 fun y H4 => ∃ acc, H4 D = some (.lst acc) ∧ acc.length < sizeLine ∧ Pv (i + 1) (upd H4 D (.lst (acc ++ [y]))) else Pv (i + 1) H3) (hd : ∀ H, Pv x.cps.size H → Qd H) :
    ∃ W : Nat → Nat → Hp → Prop, (∃ m, W 0 m (upd H1 D (.lst []))) ∧ ∀ i m H, W i m H →
      ((Its x).stop i H ∧ Qd H) ∨ ((Its x).go i H ∧ ∃ Nx : Hp → Prop, (∀ H', Nx H' → ∃ m', m' < m ∧ W (i + 1) m' H') ∧ ∀ y H', (Its x).yld i H y H' → g y (wipe σ vs) H' fun σ2 H2 => wipe σ2 vs = wipe σ vs ∧ tt σ2 H2 fun b H3 =>
        if b = true then te σ2 H3 fun y H4 => ∃ acc, H4 D = some (.lst acc) ∧ acc.length < sizeLine ∧ Nx (upd H4 D (.lst (acc ++ [y]))) else Nx H3) := by
  refine ⟨fun i m H => m = x.cps.size - i ∧ i ≤ x.cps.size ∧ Pv i H, ⟨x.cps.size, by simp, Nat.zero_le _, h0⟩, ?_⟩
  rintro i m H ⟨rfl, hi, p⟩
  by_cases hlt : i < x.cps.size
  · refine .inr ⟨hlt, Pv (i + 1), fun H' p' => ⟨x.cps.size - (i + 1), by omega, rfl, hlt, p'⟩, fun y H' e => ?_⟩
    obtain ⟨e, c, hc, ey⟩ := e
    subst e ey
    exact hs i c _ hc p
  · have e : i = x.cps.size := by omega
    subst e
    exact .inl ⟨Nat.le_refl _, hd H p⟩
/-- a tuple that the top wrote -/
def TupIn (K : PySem.W.Frag) (a : Addr) (xs : List V) : Prop := ∃ (o : Obj) (its : Array Value) (n : Nat), K.lookup a = some o ∧ o.cls = .type "tuple" ∧ o.data = .seq its n ∧ its.size ≤ sizeLine ∧ Vals xs its.toList
theorem TupIn.sq {K : PySem.W.Frag} {a : Addr} {xs : List V} (h : TupIn K a xs) (H : Hp) : SqT K H a xs := .inr h
theorem tupIn2 {K : PySem.W.Frag} {a : Addr} {x y : Str} {t u : Tok} {od : Option Addr} {n : Nat} {sl : Array (Option Value)} (h : K.lookup a = some ⟨.type "tuple", od, .seq #[.str x t, .str y u] n, sl⟩) : TupIn K a [.str x, .str y] :=
  ⟨_, _, _, h, rfl, rfl, by show 2 ≤ sizeLine; decide, .cons ⟨t, rfl⟩ (.cons ⟨u, rfl⟩ .nil)⟩
/-- the type of data -/
def tyD : PyData → String
  | .none => "NoneType"
  | .bool _ => "bool"
  | .int _ => "int"
  | .str _ => "str"
  | .list _ => "list"
  | .tuple _ => "tuple"
  | .dict _ => "dict"
theorem sqL_ty {K : PySem.W.Frag} {H : Hp} {a : Addr} {xs : List V} (h : SqL K H a xs) : TyX K H (.ref a) (.type "list") := by
  rcases h with (h | ⟨o, h⟩) | ⟨o, its, n, h1, h2, _⟩
  · exact .base (.lst h)
  · exact .base (.frz h)
  · exact .kList h1 h2
theorem dp_ty {K : PySem.W.Frag} {H : Hp} {v : V} {d : PyData} (h : Dp K H v d) : TyX K H v (.type (tyD d)) := by
  cases h with
  | non => exact .base .non
  | bl b => exact .base (.bl b)
  | int i => exact .base (.int i)
  | str x => exact .base (.str x)
  | lst hs _ => exact sqL_ty hs
  | tup hs _ => exact sqT_ty hs
/-- isinstance of data, by the type's name -/
def isD (T : String) (d : PyData) : Bool := match kitB (tyD d) T with
  | some b => b
  | none => false
theorem isD_kit {K : PySem.W.Frag} {T : String} {d : PyData} (h : ∀ t ∈ ["NoneType", "bool", "int", "str", "list", "tuple", "dict"], (kitB t T).isSome = true) : PySem.W.kitOne K (.type (tyD d)) (.type T) = some (isD T d) := by
  have hm : (kitB (tyD d) T).isSome = true := h _ (by cases d <;> simp [tyD])
  refine kit_ty ?_
  unfold isD
  cases e : kitB (tyD d) T with
  | none => rw [e] at hm; cases hm
  | some b => rfl
theorem all7 {T : String} (h : (["NoneType", "bool", "int", "str", "list", "tuple", "dict"].all fun t => (kitB t T).isSome) = true) : ∀ t ∈ ["NoneType", "bool", "int", "str", "list", "tuple", "dict"], (kitB t T).isSome = true := List.all_eq_true.mp h
theorem kitBs : (["int", "bool", "str", "tuple", "list"].all fun T => ["NoneType", "bool", "int", "str", "list", "tuple", "dict"].all fun t => (kitB t T).isSome) = true := by decide +kernel
/-- for k in a locked dict -/
theorem for_keys {d : Addr} {o : Obj} {kvs : List (Key × V)} {g : TG} {tb : TS} {D : Ends} {σ : St} {H : Hp} (Pv : Nat → St → Hp → Prop) (h0 : Pv 0 σ H) (hl : ∀ i σ H, i ≤ kvs.length → Pv i σ H → H d = some (.frz o (.dK kvs)))
    (hs : ∀ i k v σ H, kvs[i]? = some (k, v) → Pv i σ H → g (kV k) σ H fun σ2 H2 => tb { D with nx := Pv (i + 1), ct := Pv (i + 1), bk := D.nx } σ2 H2) (hd : ∀ σ H, Pv kvs.length σ H → D.nx σ H) :
    ∃ W : Nat → Nat → St → Hp → Prop, (∃ m, W 0 m σ H) ∧ ∀ i m σ H, W i m σ H →
      ((Itk d o kvs).stop i H ∧ D.nx σ H) ∨ ((Itk d o kvs).go i H ∧ ∃ N : St → Hp → Prop, (∀ σ' H', N σ' H' → ∃ m', m' < m ∧ W (i + 1) m' σ' H') ∧ ∀ x H', (Itk d o kvs).yld i H x H' → g x σ H' fun σ2 H2 => tb { D with nx := N, ct := N, bk := D.nx } σ2 H2) := by
  refine ⟨fun i m σ H => m = kvs.length - i ∧ i ≤ kvs.length ∧ Pv i σ H, ⟨kvs.length, by simp, Nat.zero_le _, h0⟩, ?_⟩
  rintro i m σ H ⟨rfl, hi, p⟩
  have q := hl i σ H hi p
  by_cases hlt : i < kvs.length
  · refine .inr ⟨⟨q, hlt⟩, Pv (i + 1), fun σ' H' p' => ⟨kvs.length - (i + 1), by omega, rfl, hlt, p'⟩, fun x H' y => ?_⟩
    obtain ⟨e, k, v, hk, ex⟩ := y
    subst e ex
    exact hs i k v σ _ hk p
  · have e : i = kvs.length := by omega
    subst e
    exact .inl ⟨⟨q, Nat.le_refl _⟩, hd σ H p⟩
theorem same_sqL {K : PySem.W.Frag} {H H' : Hp} {a : Addr} {xs : List V} (e : Same H H') (h : SqL K H a xs) : SqL K H' a xs := e.seq h
mutual
theorem Dp.samA {K : PySem.W.Frag} {H H' : Hp} (m : Same H H') : ∀ (d : PyData) (v : V), Dp K H v d → Dp K H' v d
  | .none, _, h => by cases h; exact .non
  | .bool b, _, h => by cases h; exact .bl b
  | .int i, _, h => by cases h; exact .int i
  | .str x, _, h => by cases h; exact .str x
  | .dict _, _, h => by cases h
  | .list ds, _, h => by
    cases h with
    | lst hs ha => exact .lst (m.seq hs) (DpAll.samA m ds _ ha)
  | .tuple ds, _, h => by
    cases h with
    | tup hs ha => exact .tup ((Imm.of_same m).sqT hs) (DpAll.samA m ds _ ha)
theorem DpAll.samA {K : PySem.W.Frag} {H H' : Hp} (m : Same H H') : ∀ (ds : List PyData) (vs : List V), DpAll K H vs ds → DpAll K H' vs ds
  | [], _, h => by cases h; exact .nil
  | d :: ds, _, h => by
    cases h with
    | cons a b => exact .cons (Dp.samA m d _ a) (DpAll.samA m ds _ b)
end
end PL

set_option Elab.async false
set_option linter.all false
set_option maxRecDepth 100000
set_option maxHeartbeats 4000000
/-! LawBase: what many laws' own helpers ask. -/
namespace PL
open PySem L2
/-- a well: a list of four whole numbers -/
def WellAt (H : Hp) (p : Addr) : Prop := ∃ ws : List Int, ws.length = 4 ∧ H p = some (.lst (ws.map V.int))
theorem WellAt.same {H H' : Hp} {p : Addr} (h : WellAt H p) (s : Same H H') : WellAt H' p := let ⟨ws, e, q⟩ := h; ⟨ws, e, s _ _ q⟩
theorem WellAt.upd {H : Hp} {p q : Addr} {o : HO} (h : WellAt H p) (n : p ≠ q) : WellAt (upd H q o) p := let ⟨ws, e, z⟩ := h; ⟨ws, e, by rw [upd_ne n]; exact z⟩
theorem WellAt.frm {F : List Addr} {H H' : Hp} {p : Addr} (h : WellAt H p) (s : Frm F H H') (n : p ∉ F) : WellAt H' p := let ⟨ws, e, q⟩ := h; ⟨ws, e, s.at n q⟩
/-- a well changes, tuples don't -/
theorem WellAt.imm {H H' : Hp} {p : Addr} (h : WellAt H p) (f : Frm [p] H H') : Imm H H' := f.imm fun q hq o e => by
  have : q = p := by simpa using hq
  subst this
  obtain ⟨ws, _, h⟩ := h
  rw [h] at e
  cases e
  rfl
theorem small64 {r : Int} (h0 : 0 ≤ r) (h1 : r < 2147483647) : -(2 ^ 64) < r ∧ r < 2 ^ 64 := ⟨by omega, by omega⟩
end PL
namespace L2
open PySem PL
/-! ### lists of data -/
section
variable {K : PySem.W.Frag} {H : Hp}
theorem DpAll.len : ∀ {vs : List V} {ds : List PyData}, DpAll K H vs ds → vs.length = ds.length
  | _, _, .nil => rfl
  | _, _, .cons _ t => by rw [List.length_cons, List.length_cons, DpAll.len t]
theorem DpAll.get : ∀ {vs : List V} {ds : List PyData} {i : Nat} {d : PyData}, DpAll K H vs ds → ds[i]? = some d → ∃ v, vs[i]? = some v ∧ Dp K H v d
  | _, _, i, _, .nil, e => by simp at e
  | _, _, 0, _, .cons r _, e => by simp at e; subst e; exact ⟨_, rfl, r⟩
  | _, _, i + 1, d, .cons _ t, e => by
    obtain ⟨v, h1, h2⟩ := DpAll.get (i := i) (d := d) t (by simpa using e)
    exact ⟨v, by simpa using h1, h2⟩
theorem DpAll.app : ∀ {vs ws : List V} {ds es : List PyData}, DpAll K H vs ds → DpAll K H ws es → DpAll K H (vs ++ ws) (ds ++ es)
  | _, _, _, _, .nil, s => s
  | _, _, _, _, .cons r t, s => .cons r (DpAll.app t s)
theorem DpAll.take : ∀ {vs : List V} {ds : List PyData} (n : Nat), DpAll K H vs ds → DpAll K H (vs.take n) (ds.take n)
  | _, _, 0, _ => .nil
  | _, _, _ + 1, .nil => .nil
  | _, _, n + 1, .cons r t => .cons r (DpAll.take n t)
theorem DpAll.drop : ∀ {vs : List V} {ds : List PyData} (n : Nat), DpAll K H vs ds → DpAll K H (vs.drop n) (ds.drop n)
  | _, _, 0, r => r
  | _, _, _ + 1, .nil => .nil
  | _, _, n + 1, .cons _ t => DpAll.drop n t
theorem DpAll.erase : ∀ {vs : List V} {ds : List PyData} (n : Nat), DpAll K H vs ds → DpAll K H (vs.eraseIdx n) (ds.eraseIdx n)
  | _, _, _, .nil => .nil
  | _, _, 0, .cons _ t => t
  | _, _, n + 1, .cons r t => .cons r (DpAll.erase n t)
theorem DpAll.of_paired {β : Type} {enc : β → PyData} {R : V → β → Prop} (f : ∀ y b, R y b → Dp K H y (enc b)) : ∀ {ys : List V} {bs : List β}, Paired R ys bs → DpAll K H ys (bs.map enc)
  | _, _, .nil => .nil
  | _, _, .cons r t => .cons (f _ _ r) (DpAll.of_paired f t)
theorem DpAll.paired {β : Type} {enc : β → PyData} : ∀ {ys : List V} {bs : List β}, DpAll K H ys (bs.map enc) → Paired (fun y b => Dp K H y (enc b)) ys bs
  | [], [], _ => .nil
  | [], b :: bs, h => by cases h
  | y :: ys, [], h => by cases h
  | y :: ys, b :: bs, h => by cases h with | cons r t => exact .cons r (DpAll.paired t)
end
end L2
namespace PL
open PySem L2
theorem Dp.same {K : PySem.W.Frag} {H H' : Hp} (s : Same H H') {d : PyData} {v : V} (t : tupD d = true) (h : Dp K H v d) : Dp K H' v d := Dp.imm (Imm.of_same s) d v t h
theorem tupDs_map {β : Type} {enc : β → PyData} (h : ∀ b, tupD (enc b) = true) : ∀ bs : List β, tupDs (bs.map enc) = true
  | [] => rfl
  | b :: bs => by simp [tupDs, h b, tupDs_map h bs]
theorem tupDs_mem : ∀ {ds : List PyData} {d : PyData}, tupDs ds = true → d ∈ ds → tupD d = true
  | x :: xs, d, h, m => by
    have h' : tupD x = true ∧ tupDs xs = true := by simpa [tupDs] using h
    rcases List.mem_cons.mp m with e | e
    · rw [e]; exact h'.1
    · exact tupDs_mem h'.2 e
end PL

set_option Elab.async false
set_option linter.all false
set_option maxRecDepth 100000
set_option maxHeartbeats 4000000
/-! Sch: names, columns, schemas as data. -/
namespace PL
open PySem L2
abbrev smallS : Str := "abcdefghijklmnopqrstuvwxyz"
abbrev figS : Str := "0123456789"
/-- a name: one to eight small letters and figures, a letter first -/
def isNameB (x : Str) : Bool := match x.cps.toList with
  | [] => false
  | c :: r => decide (x.length ≤ 8) && decide (c ∈ smallS.cps.toList) && (c :: r).all fun z => decide (z ∈ (smallS ++ figS).cps.toList)
def nameD : PyData → Bool
  | .str x => isNameB x
  | _ => false
/-- unlike names, those of pre being there already -/
def namesGo (pre : List PyData) : List PyData → Bool
  | [] => true
  | d :: r => nameD d && !(pre.any fun z => PyData.eqv z d) && namesGo (pre ++ [d]) r
abbrev namesD (ds : List PyData) : Bool := namesGo [] ds
def itemsD : PyData → List PyData
  | .tuple ds => ds
  | .list ds => ds
  | _ => []
def resD (d : PyData) : Bool := PyData.eqv (.str "many") d || PyData.eqv (.str "sum") d
def colsD : PyData → Bool
  | .tuple ds => decide (1 ≤ ds.length) && decide (ds.length ≤ 5) && (namesD ds && !(ds.any resD))
  | _ => false
def pairD : PyData → Bool
  | .tuple [c, .tuple is] => colsD c && (namesD is && is.all fun n => (itemsD c).any fun z => PyData.eqv z n)
  | _ => false
mutual
/-- texts and rows of no great length -/
def okD : PyData → Bool
  | .str x => decide (x.length ≤ 1000)
  | .list xs => decide (xs.length ≤ 1000) && okDs xs
  | .tuple xs => decide (xs.length ≤ 1000) && okDs xs
  | _ => true
def okDs : List PyData → Bool
  | [] => true
  | x :: xs => okD x && okDs xs
end
theorem okDs_mem : ∀ {ds : List PyData} {d : PyData}, okDs ds = true → d ∈ ds → okD d = true
  | x :: xs, d, h, m => by
    have h' : okD x = true ∧ okDs xs = true := by simpa [okDs] using h
    rcases List.mem_cons.mp m with e | e
    · rw [e]; exact h'.1
    · exact okDs_mem h'.2 e
theorem namesGo_app : ∀ (pre a b : List PyData), namesGo pre (a ++ b) = (namesGo pre a && namesGo (pre ++ a) b)
  | pre, [], b => by simp [namesGo]
  | pre, d :: a, b => by
    simp only [List.cons_append, namesGo, namesGo_app (pre ++ [d]) a b, List.append_assoc, List.singleton_append, List.cons_append, List.nil_append, Bool.and_assoc]
theorem namesGo_take {ds : List PyData} {i : Nat} {d : PyData} (h : namesD (ds.take i) = true) (hd : ds[i]? = some d) : namesD (ds.take (i + 1)) = (nameD d && !((ds.take i).any fun z => PyData.eqv z d)) := by
  rw [List.take_add_one, hd]
  show namesGo [] (ds.take i ++ [d]) = _
  have h' : namesGo [] (ds.take i) = true := h
  rw [namesGo_app, h', Bool.true_and, List.nil_append]
  simp [namesGo]
theorem namesGo_false {ds : List PyData} {i : Nat} (h : namesD (ds.take i) = false) : namesD ds = false := by
  have e : ds = ds.take i ++ ds.drop i := (List.take_append_drop i ds).symm
  rw [e]
  show namesGo [] (ds.take i ++ ds.drop i) = false
  have h' : namesGo [] (ds.take i) = false := h
  rw [namesGo_app, h', Bool.false_and]
/-- names are texts -/
theorem namesGo_strs : ∀ {pre ds : List PyData}, namesGo pre ds = true → ∃ xs : List Str, ds = xs.map .str
  | _, [], _ => ⟨[], rfl⟩
  | pre, d :: r, h => by
    have h' : (nameD d = true ∧ (pre.any fun z => PyData.eqv z d) = false) ∧ namesGo (pre ++ [d]) r = true := by simpa [namesGo] using h
    obtain ⟨xs, e⟩ := namesGo_strs h'.2
    cases d with
    | str x => exact ⟨x :: xs, by rw [e]; rfl⟩
    | _ => simp [nameD] at h'
theorem dpall_strs {K : PySem.W.Frag} {H : Hp} : ∀ {xs : List Str} {vs : List V}, DpAll K H vs (xs.map .str) → vs = xs.map V.str
  | [], _, h => by cases h; rfl
  | x :: xs, _, h => by
    cases h with
    | cons a b =>
      cases a
      rw [dpall_strs b]
      rfl
theorem inV_strs (y : Str) : ∀ xs : List Str, inV (.str y) (xs.map V.str) = ((xs.map PyData.str).any fun z => PyData.eqv z (.str y))
  | [] => rfl
  | x :: xs => by
    have ih := inV_strs y xs
    unfold inV at ih ⊢
    rw [List.map_cons, List.map_cons, List.any_cons, List.any_cons, ih]
    congr 1
theorem flat_strs : ∀ xs : List Str, (xs.map V.str).all flatV = true
  | [] => rfl
  | x :: xs => by simp [flatV]
theorem isD_str (d : PyData) : isD "str" d = (match d with | .str _ => true | _ => false) := by
  cases d <;> (unfold isD; simp only [tyD]) <;> decide +kernel
theorem isD_tuple (d : PyData) : isD "tuple" d = (match d with | .tuple _ => true | _ => false) := by
  cases d <;> (unfold isD; simp only [tyD]) <;> decide +kernel
theorem isD_int (d : PyData) : isD "int" d = (match d with | .int _ => true | .bool _ => true | _ => false) := by
  cases d <;> (unfold isD; simp only [tyD]) <;> decide +kernel
theorem isD_bool (d : PyData) : isD "bool" d = (match d with | .bool _ => true | _ => false) := by
  cases d <;> (unfold isD; simp only [tyD]) <;> decide +kernel
theorem isD_list (d : PyData) : isD "list" d = (match d with | .list _ => true | _ => false) := by
  cases d <;> (unfold isD; simp only [tyD]) <;> decide +kernel
def wholeD : PyData → Bool
  | .int _ => true
  | _ => false
/-- a row of n whole numbers -/
def rowD (n : Nat) : PyData → Bool
  | .tuple ds => decide (ds.length = n) && ds.all wholeD
  | _ => false
theorem isis {T : String} (h : T ∈ ["int", "bool", "str", "tuple", "list"]) (K : PySem.W.Frag) (d : PyData) : PySem.W.kitOne K (.type (tyD d)) (.type T) = some (isD T d) := isD_kit (all7 (List.all_eq_true.mp kitBs T h))
/-- the entries of a dict of tables -/
abbrev TabV (K : PySem.W.Frag) (H : Hp) (kvs : List (Key × V)) (tbs : List (Str × PyData)) : Prop := Paired (fun (kv : Key × V) (tb : Str × PyData) => kv.1 = Sum.inr tb.1 ∧ Dp K H kv.2 tb.2) kvs tbs
def lookD (tbs : List (Str × PyData)) (x : Str) : Option PyData := (tbs.find? fun t => decide (t.1 = x)).map (·.2)
theorem TabV.find {K : PySem.W.Frag} {H : Hp} (x : Str) : ∀ {kvs : List (Key × V)} {tbs : List (Str × PyData)}, TabV K H kvs tbs → (valV kvs (Sum.inr x : Key) = none ∧ lookD tbs x = none) ∨ ∃ v d, valV kvs (Sum.inr x : Key) = some v ∧ lookD tbs x = some d ∧ Dp K H v d
  | _, _, .nil => .inl ⟨rfl, rfl⟩
  | (k, v) :: kvs, (y, d) :: tbs, .cons ⟨e, h⟩ t => by
    have e' : k = Sum.inr y := e
    subst e'
    by_cases hy : y = x
    · subst hy
      exact .inr ⟨v, d, valV_pos rfl, by simp [lookD], h⟩
    · rw [valV_neg (fun z => hy (Sum.inr.inj z))]
      have : lookD ((y, d) :: tbs) x = lookD tbs x := by simp [lookD, hy]
      rw [this]
      exact TabV.find x t
theorem TabV.get {K : PySem.W.Frag} {H : Hp} : ∀ {kvs : List (Key × V)} {tbs : List (Str × PyData)} {i : Nat} {k : Key} {v : V}, TabV K H kvs tbs → kvs[i]? = some (k, v) → ∃ x d, tbs[i]? = some (x, d) ∧ k = Sum.inr x ∧ Dp K H v d
  | _, _, i, _, _, .nil, e => by simp at e
  | _, (y, d) :: _, 0, _, _, .cons ⟨a, b⟩ _, e => by simp at e; subst e; exact ⟨y, d, rfl, a, b⟩
  | _, _, i + 1, k, v, .cons _ t, e => by
    obtain ⟨x, d, h1, h2⟩ := TabV.get (i := i) (k := k) (v := v) t (by simpa using e)
    exact ⟨x, d, by simpa using h1, h2⟩
theorem lookD_at {tbs : List (Str × PyData)} (nd : (tbs.map (·.1)).Nodup) {i : Nat} {x : Str} {d : PyData} (h : tbs[i]? = some (x, d)) : lookD tbs x = some d := by
  induction tbs generalizing i with
  | nil => simp at h
  | cons t tbs ih =>
    obtain ⟨n1, n2⟩ := List.nodup_cons.mp nd
    cases i with
    | zero => simp at h; subst h; simp [lookD]
    | succ i =>
      have h' : tbs[i]? = some (x, d) := by simpa using h
      have : ¬ t.1 = x := fun z => n1 (List.mem_map.mpr ⟨(x, d), List.mem_of_getElem? h', z.symm⟩)
      have e : lookD (t :: tbs) x = lookD tbs x := by simp [lookD, this]
      rw [e]
      exact ih n2 h'
theorem TabV.val {K : PySem.W.Frag} {H : Hp} : ∀ {kvs : List (Key × V)} {tbs : List (Str × PyData)}, TabV K H kvs tbs → (tbs.map (·.1)).Nodup → ∀ {i : Nat} {k : Key} {v : V}, kvs[i]? = some (k, v) → some v = valV kvs k
  | _, _, .nil, _, i, _, _, e => by simp at e
  | (k0, v0) :: kvs, (y, d) :: tbs, .cons ⟨a, b⟩ t, nd, 0, k, v, e => by
    simp at e
    obtain ⟨rfl, rfl⟩ := e
    rw [valV_pos rfl]
  | (k0, v0) :: kvs, (y, d) :: tbs, .cons ⟨a, b⟩ t, nd, i + 1, k, v, e => by
    obtain ⟨n1, n2⟩ := List.nodup_cons.mp nd
    have e' : kvs[i]? = some (k, v) := by simpa using e
    obtain ⟨x, d', h1, h2, _⟩ := TabV.get t e'
    have a' : k0 = Sum.inr y := a
    have : ¬ k0 = k := fun z => by
      rw [a', h2] at z
      have z' : y = x := Sum.inr.inj z
      exact n1 (List.mem_map.mpr ⟨(x, d'), List.mem_of_getElem? h1, z'.symm⟩)
    rw [valV_neg this]
    exact TabV.val t n2 e'
theorem TabV.same {K : PySem.W.Frag} {H H' : Hp} (s : Same H H') {kvs : List (Key × V)} {tbs : List (Str × PyData)} (h : TabV K H kvs tbs) : TabV K H' kvs tbs := L2.Paired.mapP h fun _ _ ⟨a, b⟩ => ⟨a, Dp.samA s _ _ b⟩
theorem TabV.imm {K : PySem.W.Frag} {H H' : Hp} (s : Imm H H') {kvs : List (Key × V)} {tbs : List (Str × PyData)} (ht : ∀ t ∈ tbs, tupD t.2 = true) (h : TabV K H kvs tbs) : TabV K H' kvs tbs := by
  induction h with
  | nil => exact .nil
  | cons r _ ih => exact .cons ⟨r.1, Dp.imm s _ _ (ht _ (by simp)) r.2⟩ (ih fun t m => ht t (by simp [m]))
/-- columns and indexed ones, as data -/
def pairOf (t : List Str × List Str) : PyData := .tuple [.tuple (t.1.map .str), .tuple (t.2.map .str)]
/-- good tables -/
def goodTabs (tbs : List (Str × PyData)) : Bool := decide (1 ≤ tbs.length) && decide (tbs.length ≤ 5) && tbs.all fun t => isNameB t.1 && pairD t.2
/-- a schema at p -/
structure SchemaAt (K : PySem.W.Frag) (C : Addr) (H : Hp) (p : Addr) (tbs : List (Str × (List Str × List Str))) : Prop where
  ex : ∃ dx q kvs, H p = some (.ins C dx [("tables", .ref q)]) ∧ H q = some (.dK kvs) ∧ TabV K H kvs (tbs.map fun t => (t.1, pairOf t.2))
theorem pairOf_tup (t : List Str × List Str) : tupD (pairOf t) = true := by
  have h : ∀ l : List Str, tupDs (l.map PyData.str) = true := fun l => by induction l with | nil => rfl | cons a l ih => simp [tupDs, tupD, ih]
  simp [pairOf, tupD, tupDs, h]
theorem SchemaAt.frm {K : PySem.W.Frag} {C : Addr} {H H' : Hp} {p : Addr} {tbs : List (Str × (List Str × List Str))} {F : List Addr} (h : SchemaAt K C H p tbs) (f : Frm F H H') (m : Imm H H') (n : ∀ x ∈ F, ∃ l, H x = some (.lst l)) : SchemaAt K C H' p tbs := by
  obtain ⟨dx, q, kvs, h1, h2, h3⟩ := h.ex
  refine ⟨dx, q, kvs, f.at (fun z => ?_) h1, f.at (fun z => ?_) h2, h3.imm m fun t ht => ?_⟩
  · obtain ⟨l, e⟩ := n _ z
    rw [h1] at e
    cases e
  · obtain ⟨l, e⟩ := n _ z
    rw [h2] at e
    cases e
  · obtain ⟨u, _, rfl⟩ := List.mem_map.mp ht
    exact pairOf_tup _
theorem SchemaAt.same {K : PySem.W.Frag} {C : Addr} {H H' : Hp} {p : Addr} {tbs : List (Str × (List Str × List Str))} (h : SchemaAt K C H p tbs) (s : Same H H') : SchemaAt K C H' p tbs := h.frm (F := []) (Frm.of_same s) (Imm.of_same s) (by simp)
def tfind (tbs : List (Str × (List Str × List Str))) (x : Str) : Option (List Str × List Str) := (tbs.find? fun t => decide (t.1 = x)).map (·.2)
theorem look_pair (x : Str) : ∀ tbs : List (Str × (List Str × List Str)), lookD (tbs.map fun t => (t.1, pairOf t.2)) x = (tfind tbs x).map pairOf
  | [] => rfl
  | t :: tbs => by
    have ih := look_pair x tbs
    by_cases h : t.1 = x
    · simp [lookD, tfind, h]
    · have e1 : lookD ((t :: tbs).map fun t => (t.1, pairOf t.2)) x = lookD (tbs.map fun t => (t.1, pairOf t.2)) x := by simp [lookD, h]
      have e2 : tfind (t :: tbs) x = tfind tbs x := by simp [tfind, h]
      rw [e1, e2, ih]
theorem dpall_len2 {K : PySem.W.Frag} {H : Hp} {vs : List V} {a b : PyData} (h : DpAll K H vs [a, b]) : ∃ x y, vs = [x, y] ∧ Dp K H x a ∧ Dp K H y b := by
  cases h with
  | cons h1 h2 =>
    cases h2 with
    | cons h3 h4 =>
      cases h4
      exact ⟨_, _, rfl, h1, h3⟩
/-- short and shallow things, of no list -/
structure SmD (d : PyData) : Prop where
  ok : okD d = true
  cl : PyData.canLay0 d = true
  dp : PyData.depth d ≤ 10
  tp : tupD d = true
theorem smds {ds : List PyData} (h : ∀ d ∈ ds, SmD d) : okDs ds = true ∧ PyData.canLayAll0 ds = true ∧ PyData.depthAll ds ≤ 10 := by
  induction ds with
  | nil => exact ⟨rfl, rfl, Nat.zero_le _⟩
  | cons d ds ih =>
    obtain ⟨a, b, c⟩ := ih fun x m => h x (by simp [m])
    obtain ⟨e, f, g, _⟩ := h d (by simp)
    exact ⟨by simp [okDs, a, e], by simp [PyData.canLayAll0, b, f], by simp only [PyData.depthAll]; omega⟩
theorem smd_tup {ds : List PyData} (h : ∀ d ∈ ds, SmD d) (hl : ds.length ≤ 1000) : okD (.tuple ds) = true ∧ SeqAt.shaped (.tuple ds) = true := by
  obtain ⟨a, b, c⟩ := smds h
  refine ⟨by simp [okD, a, hl], ?_⟩
  show (PyData.canLay0 (.tuple ds) && decide (PyData.depth (.tuple ds) ≤ 64)) = true
  rw [Bool.and_eq_true]
  exact ⟨by simpa [PyData.canLay0] using b, decide_eq_true (by simp only [PyData.depth]; omega)⟩
theorem smd_lst {ds : List PyData} (h : ∀ d ∈ ds, SmD d) (hl : ds.length ≤ 1000) : okD (.list ds) = true ∧ SeqAt.shaped (.list ds) = true := by
  obtain ⟨a, b, c⟩ := smds h
  refine ⟨by simp [okD, a, hl], ?_⟩
  show (PyData.canLay0 (.list ds) && decide (PyData.depth (.list ds) ≤ 64)) = true
  rw [Bool.and_eq_true]
  exact ⟨by simpa [PyData.canLay0] using b, decide_eq_true (by simp only [PyData.depth]; omega)⟩
theorem smd_int (z : Int) : SmD (.int z) := ⟨rfl, rfl, Nat.zero_le _, rfl⟩
theorem smd_tups : ∀ {ds : List PyData}, (∀ d ∈ ds, SmD d) → tupDs ds = true
  | [], _ => rfl
  | d :: ds, h => by simp [tupDs, (h d (by simp)).tp, smd_tups (ds := ds) fun x m => h x (by simp [m])]
theorem dpall_set {K : PySem.W.Frag} {H : Hp} : ∀ {vs : List V} {ds : List PyData} (j : Nat) {v : V} {d : PyData}, DpAll K H vs ds → Dp K H v d → DpAll K H (vs.set j v) (ds.set j d)
  | _, _, _, _, _, .nil, _ => .nil
  | _, _, 0, _, _, .cons _ t, h => .cons h t
  | _, _, j + 1, _, _, .cons r t, h => .cons r (dpall_set j t h)
theorem dpall_ints {K : PySem.W.Frag} {H : Hp} : ∀ zs : List Int, DpAll K H (zs.map V.int) (zs.map PyData.int)
  | [] => .nil
  | z :: zs => .cons (.int z) (dpall_ints zs)
theorem valV_no {kvs : List (Key × V)} {k : Key} (h : k ∉ kvs.map (·.1)) : valV kvs k = none := by
  induction kvs with
  | nil => rfl
  | cons kv kvs ih =>
    obtain ⟨k0, v0⟩ := kv
    have h1 : ¬ k0 = k := fun z => h (by simp [z])
    rw [valV_neg h1]
    exact ih fun z => h (by simp only [List.map_cons, List.mem_cons]; exact .inr z)
theorem mergeK_new : ∀ (more pre : List (Key × V)), ((pre ++ more).map (·.1)).Nodup → mergeK pre more = pre ++ more
  | [], pre, _ => by simp [mergeK]
  | (k, v) :: more, pre, h => by
    have hk : k ∉ pre.map (·.1) := by
      rw [List.map_append, List.nodup_append] at h
      intro hm
      exact h.2.2 k hm k (by simp) rfl
    show mergeK (putK pre k v) more = _
    rw [putK_new v (valV_no hk), mergeK_new more (pre ++ [(k, v)]) (by simpa using h)]
    simp
theorem TabV.keys {K : PySem.W.Frag} {H : Hp} : ∀ {kvs : List (Key × V)} {tbs : List (Str × PyData)}, TabV K H kvs tbs → kvs.map (·.1) = tbs.map fun t => (Sum.inr t.1 : Key)
  | _, _, .nil => rfl
  | _, _, .cons ⟨a, _⟩ t => by rw [List.map_cons, List.map_cons, TabV.keys t, a]
theorem TabV.merge {K : PySem.W.Frag} {H : Hp} {kvs : List (Key × V)} {tbs : List (Str × PyData)} (h : TabV K H kvs tbs) (nd : (tbs.map (·.1)).Nodup) : mergeK [] kvs = kvs := by
  have : ((([] : List (Key × V)) ++ kvs).map (·.1)).Nodup := by
    rw [List.nil_append, TabV.keys h, show (fun t : Str × PyData => (Sum.inr t.1 : Key)) = (Sum.inr ∘ fun t : Str × PyData => t.1) from rfl, ← List.map_map]
    exact nd.map Sum.inr (fun a b hab hc => hab (Sum.inr.inj hc))
  rw [mergeK_new kvs [] this, List.nil_append]
theorem dpall_str {K : PySem.W.Frag} {H : Hp} : ∀ xs : List Str, DpAll K H (xs.map V.str) (xs.map PyData.str)
  | [] => .nil
  | x :: xs => .cons (.str x) (dpall_str xs)
theorem paired_app {α β : Type} {R : α → β → Prop} : ∀ {a c : List α} {b d : List β}, Paired R a b → Paired R c d → Paired R (a ++ c) (b ++ d)
  | _, _, _, _, .nil, h => h
  | _, _, _, _, .cons r t, h => .cons r (paired_app t h)
end PL

set_option Elab.async false
set_option linter.all false
set_option maxRecDepth 100000
set_option maxHeartbeats 4000000
namespace Toy
open PySem L2 PL
def top (i : Nat) : Stmt := PySem.Challenge.pw_planledger_k02_rows_of_tables.main.body.getD i (.Pass ⟨0, 0, 0, 0⟩)

/-- where the classes stand -/
structure Ad where
  C_LedgerError : Addr
  C_NoSchema : Addr
  C_NoTable : Addr
  C_NoRow : Addr
  C_Schema : Addr
  A_RESERVED : Addr

abbrev s_is_name : Stmt := top 13

abbrev N_is_name : List Str := ["thing", "sign"]

theorem sc_is_name : FnScope N_is_name ["thing"] (defScope s_is_name) := ⟨rfl, rfl, rfl, by decide +kernel, rfl, by decide +kernel, by decide +kernel⟩

abbrev s_are_names : Stmt := top 15

abbrev N_are_names : List Str := ["names", "at"]

theorem sc_are_names : FnScope N_are_names ["names"] (defScope s_are_names) := ⟨rfl, rfl, rfl, by decide +kernel, rfl, by decide +kernel, by decide +kernel⟩

abbrev s_are_columns : Stmt := top 14

abbrev N_are_columns : List Str := ["names", "name"]

theorem sc_are_columns : FnScope N_are_columns ["names"] (defScope s_are_columns) := ⟨rfl, rfl, rfl, by decide +kernel, rfl, by decide +kernel, by decide +kernel⟩

abbrev s_is_pair : Stmt := top 16

abbrev N_is_pair : List Str := ["told", "name"]

theorem sc_is_pair : FnScope N_is_pair ["told"] (defScope s_is_pair) := ⟨rfl, rfl, rfl, by decide +kernel, rfl, by decide +kernel, by decide +kernel⟩

abbrev s_Schema___init : Stmt := inClass (top 17) 0

abbrev N_Schema___init : List Str := ["self", "tables", "name"]

theorem sc_Schema___init : FnScope N_Schema___init ["self", "tables"] (defScope s_Schema___init) := ⟨rfl, rfl, rfl, by decide +kernel, rfl, by decide +kernel, by decide +kernel⟩

abbrev s_Schema_pair : Stmt := inClass (top 17) 1

abbrev N_Schema_pair : List Str := ["self", "table"]

theorem sc_Schema_pair : FnScope N_Schema_pair ["self", "table"] (defScope s_Schema_pair) := ⟨rfl, rfl, rfl, by decide +kernel, rfl, by decide +kernel, by decide +kernel⟩

abbrev s_Schema_columns : Stmt := inClass (top 17) 2

abbrev N_Schema_columns : List Str := ["self", "table"]

theorem sc_Schema_columns : FnScope N_Schema_columns ["self", "table"] (defScope s_Schema_columns) := ⟨rfl, rfl, rfl, by decide +kernel, rfl, by decide +kernel, by decide +kernel⟩

abbrev s_is_whole : Stmt := top 12

abbrev N_is_whole : List Str := ["thing"]

theorem sc_is_whole : FnScope N_is_whole ["thing"] (defScope s_is_whole) := ⟨rfl, rfl, rfl, by decide +kernel, rfl, by decide +kernel, by decide +kernel⟩

abbrev s_Schema_is_row : Stmt := inClass (top 17) 4

abbrev N_Schema_is_row : List Str := ["self", "table", "thing", "many", "value"]

theorem sc_Schema_is_row : FnScope N_Schema_is_row ["self", "table", "thing"] (defScope s_Schema_is_row) := ⟨rfl, rfl, rfl, by decide +kernel, rfl, by decide +kernel, by decide +kernel⟩

abbrev s_l_mixed : Stmt := top 20

abbrev N_l_mixed : List Str := ["_law_cell_here", "_law_k", "_law_number"]

theorem sc_l_mixed : FnScope N_l_mixed ["_law_cell_here", "_law_k"] (defScope s_l_mixed) := ⟨rfl, rfl, rfl, by decide +kernel, rfl, by decide +kernel, by decide +kernel⟩

abbrev s_l_twice : Stmt := top 21

abbrev N_l_twice : List Str := ["_law_cell_here", "_law_k", "_law_number"]

theorem sc_l_twice : FnScope N_l_twice ["_law_cell_here", "_law_k"] (defScope s_l_twice) := ⟨rfl, rfl, rfl, by decide +kernel, rfl, by decide +kernel, by decide +kernel⟩

abbrev s_l_draw : Stmt := top 23

abbrev N_l_draw : List Str := ["_law_well_here", "_law_most", "_law_number"]

theorem sc_l_draw : FnScope N_l_draw ["_law_well_here", "_law_most"] (defScope s_l_draw) := ⟨rfl, rfl, rfl, by decide +kernel, rfl, by decide +kernel, by decide +kernel⟩

abbrev s_l_good : Stmt := top 25

abbrev N_l_good : List Str := ["_law_thing_here", "_law_many", "_law_one"]

theorem sc_l_good : FnScope N_l_good ["_law_thing_here", "_law_many"] (defScope s_l_good) := ⟨rfl, rfl, rfl, by decide +kernel, rfl, by decide +kernel, by decide +kernel⟩

abbrev s_l_refused : Stmt := top 26

abbrev N_l_refused : List Str := ["_law_schema", "_law_thing_here", "e"]

theorem sc_l_refused : FnScope N_l_refused ["_law_schema", "_law_thing_here"] (defScope s_l_refused) := ⟨rfl, rfl, rfl, by decide +kernel, rfl, by decide +kernel, by decide +kernel⟩

abbrev s_l_thing : Stmt := top 24

abbrev N_l_thing : List Str := ["_law_well_here", "_law_many", "_law_count", "_law_values", "_law_k", "_law_way"]

theorem sc_l_thing : FnScope N_l_thing ["_law_well_here", "_law_many"] (defScope s_l_thing) := ⟨rfl, rfl, rfl, by decide +kernel, rfl, by decide +kernel, by decide +kernel⟩

abbrev s_l_cell : Stmt := top 19

abbrev N_l_cell : List Str := ["_law_script", "_law_k"]

theorem sc_l_cell : FnScope N_l_cell ["_law_script", "_law_k"] (defScope s_l_cell) := ⟨rfl, rfl, rfl, by decide +kernel, rfl, by decide +kernel, by decide +kernel⟩

abbrev s_l_well : Stmt := top 22

abbrev N_l_well : List Str := ["_law_script", "_law_k"]

theorem sc_l_well : FnScope N_l_well ["_law_script", "_law_k"] (defScope s_l_well) := ⟨rfl, rfl, rfl, by decide +kernel, rfl, by decide +kernel, by decide +kernel⟩

abbrev s_law : Stmt := top 27

abbrev N_law : List Str := ["_law_script", "_law_well_here", "_law_counts", "_law_k", "_law_tables", "_law_schema", "_law_j", "_law_thing_here", "_law_found"]

theorem sc_law : FnScope N_law ["_law_script"] (defScope s_law) := ⟨rfl, rfl, rfl, by decide +kernel, rfl, by decide +kernel, by decide +kernel⟩

structure Txt (K : PySem.W.Frag) (mg : Str → Option Value) (Z : Ad) : Prop where
  n_all : mg "all" = none
  n_any : mg "any" = none
  n_bool : mg "bool" = none
  n_dict : mg "dict" = none
  n_int : mg "int" = none
  n_isinstance : mg "isinstance" = none
  n_len : mg "len" = none
  n_range : mg "range" = none
  n_str : mg "str" = none
  n_tuple : mg "tuple" = none
  g_SMALL : ∃ u, mg "SMALL" = some u ∧ RelV (.str "abcdefghijklmnopqrstuvwxyz") u
  g_FIGURES : ∃ u, mg "FIGURES" = some u ∧ RelV (.str "0123456789") u
  g_MOST_SIGNS : ∃ u, mg "MOST_SIGNS" = some u ∧ RelV (.int 8) u
  g_MOST_COLUMNS : ∃ u, mg "MOST_COLUMNS" = some u ∧ RelV (.int 5) u
  g_MOST_TABLES : ∃ u, mg "MOST_TABLES" = some u ∧ RelV (.int 5) u
  g_RESERVED : ∃ u, mg "RESERVED" = some u ∧ RelV (.ref Z.A_RESERVED) u
  t_RESERVED : ∀ H, SqT K H Z.A_RESERVED [.str "many", .str "sum"]
  g_LedgerError : mg "LedgerError" = some (.ref Z.C_LedgerError)
  g_NoSchema : mg "NoSchema" = some (.ref Z.C_NoSchema)
  x_NoSchema : PySem.W.excIn K Z.C_NoSchema [.type "ValueError", .type "Exception", .type "BaseException", .type "object"] "ValueError.__new__" = true
  k_NoSchema : PySem.W.keepIn K (.ref Z.C_NoSchema) = true
  b_NoSchema : PySem.W.subIn K (.ref Z.C_NoSchema) (.type "BaseException") = some true
  t_NoSchema : PySem.W.typeIn K (.ref Z.C_NoSchema) = some (.type "type")
  g_NoTable : mg "NoTable" = some (.ref Z.C_NoTable)
  x_NoTable : PySem.W.excIn K Z.C_NoTable [.type "ValueError", .type "Exception", .type "BaseException", .type "object"] "ValueError.__new__" = true
  k_NoTable : PySem.W.keepIn K (.ref Z.C_NoTable) = true
  b_NoTable : PySem.W.subIn K (.ref Z.C_NoTable) (.type "BaseException") = some true
  t_NoTable : PySem.W.typeIn K (.ref Z.C_NoTable) = some (.type "type")
  ec_NoTable : ExcC K Z.C_NoTable
  g_NoRow : mg "NoRow" = some (.ref Z.C_NoRow)
  g_Schema : mg "Schema" = some (.ref Z.C_Schema)
  cl_Schema : Cls K Z.C_Schema
  na_Schema_tables : NoAttr K Z.C_Schema "tables"
  em_NoTable_LedgerError : PySem.W.exmOne K (.ref Z.C_NoTable) (.ref Z.C_LedgerError) = some true
  ki_NoTable_NoTable : PySem.W.kitOne K (.ref Z.C_NoTable) (.ref Z.C_NoTable) = some true
  ki_NoTable_NoRow : PySem.W.kitOne K (.ref Z.C_NoTable) (.ref Z.C_NoRow) = some false
  ki_NoTable_NoSchema : PySem.W.kitOne K (.ref Z.C_NoTable) (.ref Z.C_NoSchema) = some false
  d_is_name : DefF K mg "is_name" s_is_name ["thing"]
  d_are_names : DefF K mg "are_names" s_are_names ["names"]
  d_are_columns : DefF K mg "are_columns" s_are_columns ["names"]
  d_is_pair : DefF K mg "is_pair" s_is_pair ["told"]
  d_Schema___init : IniF K Z.C_Schema "Schema.__init__" s_Schema___init ["self", "tables"]
  d_Schema_pair : MetF K Z.C_Schema "pair" "Schema.pair" s_Schema_pair ["self", "table"]
  d_Schema_columns : MetF K Z.C_Schema "columns" "Schema.columns" s_Schema_columns ["self", "table"]
  d_is_whole : DefF K mg "is_whole" s_is_whole ["thing"]
  d_Schema_is_row : MetF K Z.C_Schema "is_row" "Schema.is_row" s_Schema_is_row ["self", "table", "thing"]
  d_l_mixed : DefF K mg "_law_mixed" s_l_mixed ["_law_cell_here", "_law_k"]
  d_l_twice : DefF K mg "_law_twice" s_l_twice ["_law_cell_here", "_law_k"]
  d_l_draw : DefF K mg "_law_draw" s_l_draw ["_law_well_here", "_law_most"]
  d_l_good : DefF K mg "_law_good" s_l_good ["_law_thing_here", "_law_many"]
  d_l_refused : DefF K mg "_law_refused" s_l_refused ["_law_schema", "_law_thing_here"]
  d_l_thing : DefF K mg "_law_thing" s_l_thing ["_law_well_here", "_law_many"]
  d_l_cell : DefF K mg "_law_cell" s_l_cell ["_law_script", "_law_k"]
  d_l_well : DefF K mg "_law_well" s_l_well ["_law_script", "_law_k"]

section
variable {P : Program} {w : World} {K : PySem.W.Frag} {mg : Str → Option Value} {base : Heap} {Z : Ad}

def sp_isName (K : PySem.W.Frag) : Sp := fun vs H Q _ => ∃ (v : V) (d : PyData), vs = [v] ∧ Dp K H v d ∧ okD d = true ∧ ∀ H', Same H H' → Q (.bl (nameD d)) H'

theorem ok_is_name (T : Txt K mg Z) : Cal P w K mg base 1 "is_name" (sp_isName K) := by
  refine T.d_is_name.cal sc_is_name (fun vs H Q E h => ?_) (fun f cdv A outer s H vs Q E hr h => ?_)
  · obtain ⟨v, d, rfl, _⟩ := h
    rfl
  · obtain ⟨v, d, rfl, h⟩ := h
    refine ⟨_, (pss_cons (ps_if (PW.pt (pw_or (pt_not (pt_val (pe_callB call_isi (by rfl) T.n_isinstance (by decide +kernel) (pa_cons (pv 0) (pa_cons (pe_bltn (v := .ty "str") (by rfl) T.n_str (by decide +kernel) rfl) pa_nil))))) (pw_or (pt_cmpR op_eq (pv 0) pe_str (nomark _)) (pw_or (pt_cmpR op_gt (pe_callB call_len (by rfl) T.n_len (by decide +kernel) (pa_cons (pv 0) pa_nil)) (pe_gc rfl T.g_MOST_SIGNS) (nomark _)) (pw_or1 (pt_cmpR op_notIn_sign (pe_ix ix_str (pv 0) pe_int (fun _ _ => rfl)) (pe_gc rfl T.g_SMALL) (by rfl)))))))
      (pss_one (ps_ret pe_bl))
      pss_nil)
      (pss_one (ps_ret (pe_callB (cr_all rfl) (by rfl) T.n_all (by decide +kernel) (pa_cons (pe_lc (own := [("sign", 1)]) (g := gName 1) (tt := tYes) (by rfl) sc_is_name.nd (pi_str (pv 0)) (blkOk_by (own := [("sign", 1)]) (N := N_is_name) (sc := defScope s_is_name) (by decide +kernel)) (fun _ _ _ _ _ => pg_name (i := 1) sc_is_name.nd rfl (Or.inl rfl)) (fun _ _ _ _ _ => pts_nil) (fun _ _ _ _ _ => (pe_cmpR op_in_sign (pv 1) (pe_op op_add_str (pe_gc rfl T.g_SMALL) (pe_gc rfl T.g_FIGURES)) (by rfl)))) pa_nil))))), ?_⟩
    obtain ⟨hd, ho, q⟩ := h
    refine ⟨_, rfl, _, _, _, _, _, rfl, .ty "str", dp_ty hd, isis (by simp) K d, _, rfl, ?_⟩
    rw [isD_str]
    cases d with
    | str x =>
      cases hd
      have hx : x.length ≤ 1000 := by simpa [okD] using ho
      have hxs : x.cps.toList.length = x.length := by simp [Str.length]
      have hz : x.length ≤ sizeLine := Nat.le_of_lt (small1000 hx)
      refine ⟨_, rfl, rfl, _, rfl, ?_⟩
      have ee : decide (V.str x = V.str "") = x.cps.toList.isEmpty := by
        rw [dec_str, Bool.eq_iff_iff, beq_iff_eq, List.isEmpty_iff]
        constructor
        · intro e
          subst e
          rfl
        · intro e
          obtain ⟨c⟩ := x
          have : c = #[] := by simpa using e
          subst this
          rfl
      rw [ee]
      have hq : nameD (.str x) = isNameB x := rfl
      cases hc : x.cps.toList with
      | nil =>
        have : isNameB x = false := by unfold isNameB; rw [hc]
        rw [this] at hq
        have := q H (Same.refl H)
        rw [hq] at this
        exact this
      | cons c r =>
        have e0 : isNameB x = (decide (x.length ≤ 8) && decide (c ∈ smallS.cps.toList) && (c :: r).all fun z => decide (z ∈ (smallS ++ figS).cps.toList)) := by unfold isNameB; rw [hc]
        refine ⟨_, rfl, _, x.length, rfl, ⟨hz, rfl⟩, _, _, rfl, rfl, _, rfl, ?_⟩
        by_cases h8 : x.length ≤ 8
        · rw [decide_eq_false (show ¬ (8 : Int) < (x.length : Nat) by omega)]
          refine iteF ?_
          refine ⟨_, rfl, x, 0, c, rfl, rfl, hz, by rw [hc]; exact atI_nat (j := 0) rfl, c, smallS, rfl, rfl, _, rfl, ?_⟩
          by_cases hs : c ∈ smallS.cps.toList
          · rw [decide_eq_true hs]
            refine iteF ?_
            refine ⟨_, rfl, x, rfl, fun D hD => lc_str (fun i H3 => Same H H3 ∧ H3 D = some (.lst ((((c :: r).take i).map fun z => decide (z ∈ (smallS ++ figS).cps.toList)).map V.bl)) ∧ i ≤ x.length) ⟨same_upd hD, upd_same, Nat.zero_le _⟩ ?_ ?_⟩
            · rintro i z H3 hz3 ⟨s3, hD3, hi⟩
              have hil : i < x.length := (Array.getElem?_eq_some_iff.mp hz3).1
              have hz4 : (c :: r)[i]? = some z := by rw [← hc, Array.getElem?_toList]; exact hz3
              refine ⟨rfl, _, rfl, smallS, figS, rfl, rfl, by decide +kernel, z, smallS ++ figS, rfl, rfl, _, hD3, ?_, ?_⟩
              · rw [List.length_map, List.length_map, List.length_take]
                exact small1000 (by omega)
              · have nD : ∀ b o, H b = some o → b ≠ D := fun b o e => ne_of_none e hD
                refine ⟨fun b o e => by rw [upd_ne (nD b o e)]; exact s3 b o e, ?_, hil⟩
                rw [upd_same, List.take_add_one, hz4, List.map_append, List.map_append]
                rfl
            · rintro H3 ⟨s3, hD3, hi⟩
              have el : (c :: r).take x.cps.size = c :: r := by
                rw [List.take_of_length_le]
                rw [← hc]
                simp
              rw [el] at hD3
              refine ⟨D, _, rfl, SqL.of hD3, ?_⟩
              have e1 : nameD (.str x) = (((c :: r).map fun z => decide (z ∈ (smallS ++ figS).cps.toList)).all id) := by
                rw [hq, e0, decide_eq_true h8, decide_eq_true hs, List.all_map]
                rfl
              rw [← e1]
              exact q H3 s3
          · rw [decide_eq_false hs]
            refine iteT ?_
            have e1 : nameD (.str x) = false := by rw [hq, e0, decide_eq_false hs]; simp
            have := q H (Same.refl H)
            rw [e1] at this
            exact this
        · rw [decide_eq_true (show (8 : Int) < (x.length : Nat) by omega)]
          refine iteT ?_
          have e1 : nameD (.str x) = false := by rw [hq, e0, decide_eq_false h8]; simp
          have := q H (Same.refl H)
          rw [e1] at this
          exact this
    | none => exact q H (Same.refl H)
    | bool b => exact q H (Same.refl H)
    | int b => exact q H (Same.refl H)
    | list b => exact q H (Same.refl H)
    | tuple b => exact q H (Same.refl H)
    | dict b => exact q H (Same.refl H)


def sp_areNames (K : PySem.W.Frag) : Sp := fun vs H Q _ => ∃ (v : V) (ds : List PyData), vs = [v] ∧ Dp K H v (.tuple ds) ∧ okD (.tuple ds) = true ∧ ∀ H', Same H H' → Q (.bl (namesD ds)) H'

theorem ok_are_names (T : Txt K mg Z) : Cal P w K mg base 2 "are_names" (sp_areNames K) := by
  refine T.d_are_names.cal sc_are_names (fun vs H Q E h => ?_) (fun f cdv A outer s H vs Q E hr h => ?_)
  · obtain ⟨v, ds, rfl, _⟩ := h
    rfl
  · obtain ⟨v, ds, rfl, h⟩ := h
    refine ⟨_, (pss_cons (ps_for (passes_of rfl) rfl (pi_range1 rfl T.n_range (pa_cons (pe_callB call_len (by rfl) T.n_len (by decide +kernel) (pa_cons (pv 0) pa_nil)) pa_nil)) (pg_name (i := 1) sc_are_names.nd rfl (Or.inl rfl))
      (pss_one (ps_if (PW.pt (pw_or (pt_not (pt_val (pe_c (ok_is_name T) hr (by decide) rfl (pa_cons (pe_ix ix_tup (pv 0) (pv 1) (fun _ _ => rfl)) pa_nil)))) (pw_or1 (pt_cmpR op_in_seq (pe_ix ix_tup (pv 0) (pv 1) (fun _ _ => rfl)) (pe_slice sl_tupA (pv 0) po_none (po_some (pv 1))) (by rfl)))))
        (pss_one (ps_ret pe_bl))
        pss_nil)))
      (pss_one (ps_ret pe_bl))), ?_⟩
    obtain ⟨hd, ho, q⟩ := h
    have ho' : ds.length ≤ 1000 ∧ okDs ds = true := by simpa [okD] using ho
    cases hd with
    | tup hs ha =>
      rename_i a vs
      have hlen : vs.length = ds.length := ha.len
      refine ⟨_, rfl, _, vs.length, rfl, .inr ⟨_, hs, rfl⟩, _, rfl, by omega, by omega, for_range (n := vs.length) (fun i σ H1 => ∃ o, σ = [some (.ref a), o] ∧ Same H H1 ∧ namesD (ds.take i) = true) ⟨none, rfl, Same.refl H, rfl⟩ ?_ ?_⟩
      · rintro i σ H1 hi ⟨o, rfl, s1, hn⟩
        have hil : i < ds.length := by omega
        have gi : ds[i]? = some ds[i] := List.getElem?_eq_getElem hil
        obtain ⟨u, hu, du⟩ := ha.get gi
        have ez : (0 + (i : Int)) = (i : Int) := by omega
        have du1 := Dp.samA s1 _ _ du
        refine ⟨_, rfl, _, rfl, a, _, _, _, rfl, rfl, (Imm.of_same s1).sqT hs, at_of ez hu, u, ds[i], rfl, du1, okDs_mem ho'.2 (List.mem_of_getElem? gi), fun H2 s2 => ⟨_, rfl, ?_⟩⟩
        have s12 := s1.trans s2
        have step := namesGo_take hn gi
        cases hnm : nameD ds[i] with
        | false =>
          refine iteT ?_
          have : namesD ds = false := namesGo_false (i := i + 1) (by rw [step, hnm, Bool.false_and])
          have := q H2 s12
          rw [‹namesD ds = false›] at this
          exact this
        | true =>
          refine iteF ?_
          -- names[at] in names[:at]
          obtain ⟨y, hy⟩ : ∃ y, ds[i] = .str y := by
            cases e : ds[i] with
            | str y => exact ⟨y, rfl⟩
            | _ => rw [e] at hnm; simp [nameD] at hnm
          rw [hy] at du
          cases du
          obtain ⟨xs, hxs⟩ := namesGo_strs hn
          have hvx : vs.take i = xs.map V.str := dpall_strs (hxs ▸ ha.take i)
          refine ⟨_, rfl, _, rfl, a, _, _, _, rfl, rfl, (Imm.of_same s12).sqT hs, at_of ez hu, _, rfl, _, rfl, (0 + (i : Int)), rfl, a, vs, rfl, (Imm.of_same s12).sqT hs, ?_, fun _ p hp => ?_⟩
          · rintro ⟨_, z⟩
            rw [ez, HT.sIx_nat] at z
            omega
          · have ecut : cutV vs none (some (0 + (i : Int))) = xs.map V.str := by
              unfold cutV
              rw [ez, HT.sIx_none, HT.sIx_nat, Nat.min_eq_left (by omega), List.drop_zero, Nat.sub_zero]
              exact hvx
            rw [ecut]
            refine ⟨p, _, rfl, .inr (SqT.of upd_same), rfl, flat_strs xs, _, rfl, ?_⟩
            have s3 := s12.trans (same_upd (o := .tup (xs.map V.str)) hp)
            have ein : inV (.str y) (xs.map V.str) = ((ds.take i).any fun z => PyData.eqv z ds[i]) := by rw [inV_strs, hxs, hy]
            show if inV (.str y) (xs.map V.str) = true then _ else _
            rw [ein]
            cases hany : ((ds.take i).any fun z => PyData.eqv z ds[i]) with
            | true =>
              refine iteT ?_
              have : namesD ds = false := namesGo_false (i := i + 1) (by rw [step, hany, hnm]; rfl)
              have := q _ s3
              rw [‹namesD ds = false›] at this
              exact this
            | false =>
              refine iteF ?_
              exact ⟨_, rfl, s3, by rw [step, hany, hnm]; rfl⟩
      · rintro σ H1 ⟨o, rfl, s1, hn⟩
        rw [hlen, List.take_length] at hn
        have := q H1 s1
        rw [hn] at this
        exact this


def sp_areColumns (K : PySem.W.Frag) : Sp := fun vs H Q _ => ∃ (v : V) (d : PyData), vs = [v] ∧ Dp K H v d ∧ okD d = true ∧ ∀ H', Same H H' → Q (.bl (colsD d)) H'

theorem ok_are_columns (T : Txt K mg Z) : Cal P w K mg base 3 "are_columns" (sp_areColumns K) := by
  refine T.d_are_columns.cal sc_are_columns (fun vs H Q E h => ?_) (fun f cdv A outer s H vs Q E hr h => ?_)
  · obtain ⟨v, d, rfl, _⟩ := h
    rfl
  · obtain ⟨v, d, rfl, h⟩ := h
    refine ⟨_, (pss_cons (ps_if (PW.pt (pw_or (pt_not (pt_val (pe_callB call_isi (by rfl) T.n_isinstance (by decide +kernel) (pa_cons (pv 0) (pa_cons (pe_bltn (v := .ty "tuple") (by rfl) T.n_tuple (by decide +kernel) rfl) pa_nil))))) (pw_or (pt_cmpR op_lt (pe_callB call_len (by rfl) T.n_len (by decide +kernel) (pa_cons (pv 0) pa_nil)) pe_int (nomark _)) (pw_or1 (pt_cmpR op_gt (pe_callB call_len (by rfl) T.n_len (by decide +kernel) (pa_cons (pv 0) pa_nil)) (pe_gc rfl T.g_MOST_COLUMNS) (nomark _))))))
      (pss_one (ps_ret pe_bl))
      pss_nil)
      (pss_one (ps_ret (pe_and (pe_c (ok_are_names T) hr (by decide) rfl (pa_cons (pv 0) pa_nil)) (pe_one (pe_not (pe_callB (cr_any rfl) (by rfl) T.n_any (by decide +kernel) (pa_cons (pe_lc (own := [("name", 1)]) (g := gName 1) (tt := tYes) (by rfl) sc_are_columns.nd (pi_tup (pv 0)) (blkOk_by (own := [("name", 1)]) (N := N_are_columns) (sc := defScope s_are_columns) (by decide +kernel)) (fun _ _ _ _ _ => pg_name (i := 1) sc_are_columns.nd rfl (Or.inl rfl)) (fun _ _ _ _ _ => pts_nil) (fun _ _ _ _ _ => (pe_cmpR (kx_op (F := fun K => rIn K false) (K := K) rfl op_in_seq) (pv 1) (pe_gc rfl T.g_RESERVED) (by rfl)))) pa_nil)))))))), ?_⟩
    obtain ⟨hd, ho, q⟩ := h
    refine ⟨_, rfl, _, _, _, _, _, rfl, .ty "tuple", dp_ty hd, isis (by simp) K d, _, rfl, ?_⟩
    rw [isD_tuple]
    cases d with
    | tuple ds =>
      have ho' : ds.length ≤ 1000 ∧ okDs ds = true := by simpa [okD] using ho
      cases hd with
      | tup hs ha =>
        rename_i a vs
        have hlen : vs.length = ds.length := ha.len
        have hd : Dp K H (.ref a) (.tuple ds) := .tup hs ha
        refine ⟨_, rfl, _, vs.length, rfl, .inr ⟨_, hs, rfl⟩, _, _, rfl, rfl, _, rfl, ?_⟩
        by_cases h1 : 1 ≤ ds.length
        · rw [decide_eq_false (show ¬ ((vs.length : Nat) : Int) < 1 by omega)]
          refine iteF ?_
          refine ⟨_, rfl, _, vs.length, rfl, .inr ⟨_, hs, rfl⟩, _, _, rfl, rfl, _, rfl, ?_⟩
          by_cases h5 : ds.length ≤ 5
          · rw [decide_eq_false (show ¬ (5 : Int) < ((vs.length : Nat) : Int) by omega)]
            refine iteF ?_
            have ec : colsD (.tuple ds) = (namesD ds && !(ds.any resD)) := by simp [colsD, h1, h5]
            refine ⟨_, rfl, _, ds, rfl, hd, ho, fun H1 s1 => ⟨_, rfl, ?_⟩⟩
            cases hn : namesD ds with
            | false =>
              refine iteF ?_
              have := q H1 s1
              rw [ec, hn, Bool.false_and] at this
              exact this
            | true =>
              refine iteT ?_
              obtain ⟨xs, hxs⟩ := namesGo_strs hn
              have hvx : vs = xs.map V.str := dpall_strs (hxs ▸ ha)
              refine ⟨_, rfl, a, rfl, ⟨_, (Imm.of_same s1).sqT hs⟩, fun D hD => lc_tup (K := K) (a := a) (xs := vs) (fun i H3 => Same H1 H3 ∧ H3 D = some (.lst (((ds.take i).map resD).map V.bl)) ∧ i ≤ ds.length) ⟨same_upd hD, upd_same, Nat.zero_le _⟩ (fun i H3 _ p => (Imm.of_same (s1.trans p.1)).sqT hs) ?_ ?_⟩
              · rintro i x H3 hx ⟨s3, hD3, hi⟩
                have hil : i < ds.length := by have := (List.getElem?_eq_some_iff.mp hx).1; omega
                have hix : i < xs.length := by rw [hvx] at hx; have := (List.getElem?_eq_some_iff.mp hx).1; simpa using this
                have ex : x = V.str xs[i] := by
                  rw [hvx, List.getElem?_map, List.getElem?_eq_getElem hix] at hx
                  exact (Option.some.inj hx).symm
                have ed : ds[i]? = some (.str xs[i]) := by rw [hxs, List.getElem?_map, List.getElem?_eq_getElem hix]; rfl
                subst ex
                refine ⟨rfl, _, rfl, Z.A_RESERVED, _, rfl, .inr (T.t_RESERVED H3), rfl, rfl, _, hD3, ?_, ?_⟩
                · rw [List.length_map, List.length_map, List.length_take]
                  exact small1000 (by omega)
                · have nD : ∀ b o, H1 b = some o → b ≠ D := fun b o e => ne_of_none e hD
                  refine ⟨fun b o e => by rw [upd_ne (nD b o e)]; exact s3 b o e, ?_, hil⟩
                  have er : inV (V.str xs[i]) [.str "many", .str "sum"] = resD (.str xs[i]) := by
                    simp [inV, eqV, resD, PyData.eqv]
                  rw [upd_same, List.take_add_one, ed, List.map_append, List.map_append]
                  show some (HO.lst (_ ++ [V.bl (inV (V.str xs[i]) [.str "many", .str "sum"])])) = _
                  rw [er]
                  rfl
              · rintro H3 ⟨s3, hD3, hi⟩
                rw [hlen, List.take_length] at hD3
                refine ⟨D, _, rfl, SqL.of hD3, _, rfl, ?_⟩
                have := q H3 (s1.trans s3)
                rw [ec, hn, Bool.true_and] at this
                rw [List.any_map]
                exact this
          · rw [decide_eq_true (show (5 : Int) < ((vs.length : Nat) : Int) by omega)]
            refine iteT ?_
            have ec : colsD (.tuple ds) = false := by simp [colsD, h5]
            have := q H (Same.refl H)
            rw [ec] at this
            exact this
        · rw [decide_eq_true (show ((vs.length : Nat) : Int) < 1 by omega)]
          refine iteT ?_
          have ec : colsD (.tuple ds) = false := by simp [colsD, h1]
          have := q H (Same.refl H)
          rw [ec] at this
          exact this
    | none => exact q H (Same.refl H)
    | bool b => exact q H (Same.refl H)
    | int b => exact q H (Same.refl H)
    | list b => exact q H (Same.refl H)
    | str b => exact q H (Same.refl H)
    | dict b => exact q H (Same.refl H)


theorem pairD_len {ds : List PyData} (h : ds.length ≠ 2) : pairD (.tuple ds) = false := by
  match ds, h with
  | [], _ => rfl
  | [_], _ => rfl
  | [_, _], h => exact absurd rfl h
  | _ :: _ :: _ :: _, _ => simp [pairD]
def sp_isPair (K : PySem.W.Frag) : Sp := fun vs H Q _ => ∃ (v : V) (d : PyData), vs = [v] ∧ Dp K H v d ∧ okD d = true ∧ ∀ H', Same H H' → Q (.bl (pairD d)) H'

theorem ok_is_pair (T : Txt K mg Z) : Cal P w K mg base 4 "is_pair" (sp_isPair K) := by
  refine T.d_is_pair.cal sc_is_pair (fun vs H Q E h => ?_) (fun f cdv A outer s H vs Q E hr h => ?_)
  · obtain ⟨v, d, rfl, _⟩ := h
    rfl
  · obtain ⟨v, d, rfl, h⟩ := h
    refine ⟨_, (pss_cons (ps_if (PW.pt (pw_or (pt_not (pt_val (pe_callB call_isi (by rfl) T.n_isinstance (by decide +kernel) (pa_cons (pv 0) (pa_cons (pe_bltn (v := .ty "tuple") (by rfl) T.n_tuple (by decide +kernel) rfl) pa_nil))))) (pw_or (pt_cmpR op_ne (pe_callB call_len (by rfl) T.n_len (by decide +kernel) (pa_cons (pv 0) pa_nil)) pe_int (nomark _)) (pw_or1 (pt_not (pt_val (pe_c (ok_are_columns T) hr (by decide) rfl (pa_cons (pe_ix ix_tup (pv 0) pe_int (fun _ _ => rfl)) pa_nil))))))))
      (pss_one (ps_ret pe_bl))
      pss_nil)
      (pss_cons (ps_if (PW.pt (pw_or (pt_not (pt_val (pe_callB call_isi (by rfl) T.n_isinstance (by decide +kernel) (pa_cons (pe_ix ix_tup (pv 0) pe_int (fun _ _ => rfl)) (pa_cons (pe_bltn (v := .ty "tuple") (by rfl) T.n_tuple (by decide +kernel) rfl) pa_nil))))) (pw_or1 (pt_not (pt_val (pe_c (ok_are_names T) hr (by decide) rfl (pa_cons (pe_ix ix_tup (pv 0) pe_int (fun _ _ => rfl)) pa_nil)))))))
      (pss_one (ps_ret pe_bl))
      pss_nil)
      (pss_one (ps_ret (pe_callB (cr_all rfl) (by rfl) T.n_all (by decide +kernel) (pa_cons (pe_lc (own := [("name", 1)]) (g := gName 1) (tt := tYes) (by rfl) sc_is_pair.nd (pi_tup (pe_ix ix_tup (pv 0) pe_int (fun _ _ => rfl))) (blkOk_by (own := [("name", 1)]) (N := N_is_pair) (sc := defScope s_is_pair) (by decide +kernel)) (fun _ _ _ _ _ => pg_name (i := 1) sc_is_pair.nd rfl (Or.inl rfl)) (fun _ _ _ _ _ => pts_nil) (fun _ _ _ _ _ => (pe_cmpR (kx_op (F := fun K => rIn K false) (K := K) rfl op_in_seq) (pv 1) (pe_ix (kx_ix (F := rIxT) (K := K) rfl ix_tup) (pv 0) pe_int (fun _ _ => rfl)) (by rfl)))) pa_nil)))))), ?_⟩
    obtain ⟨hd, ho, q⟩ := h
    refine ⟨_, rfl, _, _, _, _, _, rfl, .ty "tuple", dp_ty hd, isis (by simp) K d, _, rfl, ?_⟩
    rw [isD_tuple]
    cases d with
    | tuple ds =>
      have ho' : ds.length ≤ 1000 ∧ okDs ds = true := by simpa [okD] using ho
      cases hd with
      | tup hs ha =>
        rename_i a vs
        have hlen : vs.length = ds.length := ha.len
        refine ⟨_, rfl, _, vs.length, rfl, .inr ⟨_, hs, rfl⟩, rfl, _, rfl, ?_⟩
        by_cases h2 : ds.length = 2
        · rw [dec_int, show (((vs.length : Nat) : Int) == 2) = true from beq_iff_eq.mpr (by omega)]
          refine iteF ?_
          obtain ⟨c, i, rfl⟩ : ∃ c i, ds = [c, i] := by
            match ds, h2 with
            | [c, i], _ => exact ⟨c, i, rfl⟩
          obtain ⟨x, y, rfl, hx, hy⟩ := dpall_len2 ha
          have oc : okD c = true := okDs_mem ho'.2 (by simp)
          have oi : okD i = true := okDs_mem ho'.2 (by simp)
          refine ⟨_, rfl, a, _, _, _, rfl, rfl, hs, atI_nat (j := 0) rfl, x, c, rfl, hx, oc, fun H1 s1 => ⟨_, rfl, ?_⟩⟩
          have hs1 := (Imm.of_same s1).sqT hs
          cases hc : colsD c with
          | false =>
            refine iteT ?_
            have e : pairD (.tuple [c, i]) = false := by cases i <;> simp [pairD, hc]
            have := q H1 s1
            rw [e] at this
            exact this
          | true =>
            refine iteF ?_
            have hy1 := Dp.samA s1 _ _ hy
            refine ⟨_, rfl, a, _, _, _, rfl, rfl, hs1, atI_nat (j := 1) rfl, _, _, _, _, _, rfl, .ty "tuple", dp_ty hy1, isis (by simp) K i, _, rfl, ?_⟩
            rw [isD_tuple]
            cases i with
            | tuple is =>
              refine iteF ?_
              refine ⟨_, rfl, a, _, _, _, rfl, rfl, hs1, atI_nat (j := 1) rfl, y, is, rfl, hy1, oi, fun H2 s2 => ⟨_, rfl, ?_⟩⟩
              have s12 := s1.trans s2
              have hs2 := (Imm.of_same s12).sqT hs
              cases hn : namesD is with
              | false =>
                refine iteT ?_
                have e : pairD (.tuple [c, .tuple is]) = false := by simp [pairD, hc, hn]
                have := q H2 s12
                rw [e] at this
                exact this
              | true =>
                refine iteF ?_
                have e : pairD (.tuple [c, .tuple is]) = is.all fun n => (itemsD c).any fun z => PyData.eqv z n := by simp [pairD, hc, hn]
                obtain ⟨xs, hxs⟩ := namesGo_strs hn
                obtain ⟨cs, hcs⟩ : ∃ cs : List Str, c = .tuple (cs.map .str) := by
                  cases c with
                  | tuple ds =>
                    have : namesD ds = true := by
                      simp only [colsD, Bool.and_eq_true] at hc
                      exact hc.2.1
                    obtain ⟨cs, e⟩ := namesGo_strs this
                    exact ⟨cs, by rw [e]⟩
                  | _ => simp [colsD] at hc
                subst hcs
                cases hy with
                | tup hsy hay =>
                  rename_i ay vy
                  cases hx with
                  | tup hsx hax =>
                    rename_i ax vx
                    have hvy : vy = xs.map V.str := dpall_strs (hxs ▸ hay)
                    have hvx : vx = cs.map V.str := dpall_strs hax
                    subst hvx
                    have hli : vy.length = is.length := hay.len
                    refine ⟨_, rfl, a, _, _, _, rfl, rfl, hs2, atI_nat (j := 1) rfl, ay, rfl, ⟨_, (Imm.of_same s12).sqT hsy⟩, fun D hD => lc_tup (K := K) (a := ay) (xs := vy) (fun i H3 => Same H2 H3 ∧ H3 D = some (.lst (((is.take i).map fun n => (cs.map PyData.str).any fun z => PyData.eqv z n).map V.bl)) ∧ i ≤ is.length) ⟨same_upd hD, upd_same, Nat.zero_le _⟩ (fun i H3 _ p => (Imm.of_same (s12.trans p.1)).sqT hsy) ?_ ?_⟩
                    · rintro i x H3 hx3 ⟨s3, hD3, hi⟩
                      have hil : i < is.length := by have := (List.getElem?_eq_some_iff.mp hx3).1; omega
                      have hix : i < xs.length := by rw [hvy] at hx3; have := (List.getElem?_eq_some_iff.mp hx3).1; simpa using this
                      have ex : x = V.str xs[i] := by
                        rw [hvy, List.getElem?_map, List.getElem?_eq_getElem hix] at hx3
                        exact (Option.some.inj hx3).symm
                      have ed : is[i]? = some (.str xs[i]) := by rw [hxs, List.getElem?_map, List.getElem?_eq_getElem hix]; rfl
                      subst ex
                      have s13 := s12.trans s3
                      refine ⟨rfl, _, rfl, _, rfl, a, _, _, _, rfl, rfl, (Imm.of_same s13).sqT hs, atI_nat (j := 0) rfl, ax, _, rfl, .inr ((Imm.of_same s13).sqT hsx), rfl, flat_strs cs, _, hD3, ?_, ?_⟩
                      · rw [List.length_map, List.length_map, List.length_take]
                        have := (show is.length ≤ 1000 ∧ okDs is = true by simpa [okD] using oi).1
                        exact small1000 (by omega)
                      · have nD : ∀ b o, H2 b = some o → b ≠ D := fun b o e => ne_of_none e hD
                        refine ⟨fun b o e => by rw [upd_ne (nD b o e)]; exact s3 b o e, ?_, hil⟩
                        rw [upd_same, List.take_add_one, ed, List.map_append, List.map_append]
                        show some (HO.lst (_ ++ [V.bl (inV (V.str xs[i]) (cs.map V.str))])) = _
                        rw [inV_strs]
                        rfl
                    · rintro H3 ⟨s3, hD3, hi⟩
                      rw [hli, List.take_length] at hD3
                      refine ⟨D, _, rfl, SqL.of hD3, ?_⟩
                      have := q H3 (s12.trans s3)
                      rw [e] at this
                      rw [List.all_map]
                      exact this
            | none => exact q H1 s1
            | bool b => exact q H1 s1
            | int b => exact q H1 s1
            | list b => exact q H1 s1
            | str b => exact q H1 s1
            | dict b => exact q H1 s1
        · rw [dec_int, show (((vs.length : Nat) : Int) == 2) = false from beq_eq_false_iff_ne.mpr (by omega)]
          refine iteT ?_
          have := q H (Same.refl H)
          rw [pairD_len h2] at this
          exact this
    | none => exact q H (Same.refl H)
    | bool b => exact q H (Same.refl H)
    | int b => exact q H (Same.refl H)
    | list b => exact q H (Same.refl H)
    | str b => exact q H (Same.refl H)
    | dict b => exact q H (Same.refl H)


def sp_schInit (K : PySem.W.Frag) (C N : Addr) : Sp := fun vs H Q E => ∃ (p t dx : Addr) (kvs : List (Key × V)) (tbs : List (Str × PyData)), vs = [.ref p, .ref t] ∧ H p = some (.ins C dx []) ∧ H t = some (.dK kvs) ∧ TabV K H kvs tbs ∧ (tbs.map (·.1)).Nodup ∧ (∀ t ∈ tbs, okD (.str t.1) = true ∧ okD t.2 = true ∧ tupD t.2 = true) ∧
  (goodTabs tbs = true → ∀ q H', H q = none → Frm [p] H H' → Imm H H' → H' p = some (.ins C dx [("tables", .ref q)]) → H' q = some (.dK kvs) → Q .non H') ∧ (goodTabs tbs = false → ∀ H', Frm [t] H H' → Imm H H' → E (.ref N) none H')

theorem ok_Schema___init (T : Txt K mg Z) : Mak P w K mg base 5 "Schema" Z.C_Schema (sp_schInit K Z.C_Schema Z.C_NoSchema) := by
  refine T.d_Schema___init.mak T.g_Schema sc_Schema___init (fun vs H Q E h => ?_) (fun f cdv A outer s H vs Q E hr h => ?_)
  · obtain ⟨p, t, dx, kvs, tbs, rfl, _⟩ := h
    rfl
  · obtain ⟨p, t, dx, kvs, tbs, rfl, h⟩ := h
    have tk := takes_of (X := cxOf (L2.CX P w) P w K mg base N_Schema___init "Schema.__init__" (defScope s_Schema___init) f cdv A outer s H E) rfl rfl rfl rfl
    refine ⟨_, (pss_cons (ps_if (PW.pt (pw_or (pt_cmpR op_lt (pe_callB call_lenD (by rfl) T.n_len (by decide +kernel) (pa_cons (pv 1) pa_nil)) pe_int (nomark _)) (pw_or1 (pt_cmpR op_gt (pe_callB call_lenD (by rfl) T.n_len (by decide +kernel) (pa_cons (pv 1) pa_nil)) (pe_gc rfl T.g_MOST_TABLES) (nomark _)))))
      (pss_one (ps_raise rfl tk (pmk_own PySem.F.excBase_ValueError T.x_NoSchema T.g_NoSchema T.k_NoSchema (raises_own T.b_NoSchema T.t_NoSchema) rfl)))
      pss_nil)
      (pss_cons (ps_lock (ps_for (passes_of rfl) rfl (pi_keys (pv 1)) (pg_name (i := 2) sc_Schema___init.nd rfl (Or.inl rfl))
      (pss_one (ps_if (PW.pt (pw_or (pt_not (pt_val (pe_c (ok_is_name T) hr (by decide) rfl (pa_cons (pv 2) pa_nil)))) (pw_or1 (pt_not (pt_val (pe_c (ok_is_pair T) hr (by decide) rfl (pa_cons (pe_dget (hu_of hr) (pv 1) (pv 2) (fun _ _ => rfl)) pa_nil)))))))
        (pss_one (ps_raise rfl tk (pmk_own PySem.F.excBase_ValueError T.x_NoSchema T.g_NoSchema T.k_NoSchema (raises_own T.b_NoSchema T.t_NoSchema) rfl)))
        pss_nil))))
      (pss_one (ps_fld (pv 0) (pe_callTy call_dictD (by rfl) T.n_dict (by decide +kernel) (pa_cons (pv 1) pa_nil)) rfl)))), ?_⟩
    obtain ⟨h1, ht, htab, hnd, hok, q, qE⟩ := h
    have hlen : kvs.length = tbs.length := htab.length
    have npt : p ≠ t := ne_of h1 ht (by intro z; cases z)
    refine ⟨_, rfl, t, kvs, rfl, ht, _, _, rfl, rfl, _, rfl, ?_⟩
    by_cases c1 : 1 ≤ tbs.length
    · rw [decide_eq_false (show ¬ ((kvs.length : Nat) : Int) < 1 by omega)]
      refine iteF ?_
      refine ⟨_, rfl, t, kvs, rfl, ht, _, _, rfl, rfl, _, rfl, ?_⟩
      by_cases c5 : tbs.length ≤ 5
      · rw [decide_eq_false (show ¬ (5 : Int) < ((kvs.length : Nat) : Int) by omega)]
        refine iteF ?_
        -- for name in tables
        refine ⟨t, .dK kvs, ht, trivial, fun od => ?_⟩
        have im0 : Imm H (upd H t (.frz od (.dK kvs))) := (Imm.refl H).upd ht rfl
        have fr0 : Frm [t] H (upd H t (.frz od (.dK kvs))) := (Frm.refl _ _).upd (.inl (by simp))
        refine ⟨_, rfl, t, od, rfl, .inl ⟨kvs, upd_same, for_keys (d := t) (o := od) (kvs := kvs) (fun i σ H1 => ∃ o, σ = [some (.ref p), some (.ref t), o] ∧ Same (upd H t (.frz od (.dK kvs))) H1 ∧ (tbs.take i).all (fun t => isNameB t.1 && pairD t.2) = true) ⟨none, rfl, Same.refl _, rfl⟩ (fun i σ H1 _ ⟨_, _, s, _⟩ => s _ _ upd_same) ?_ ?_⟩⟩
        · rintro i k v σ H1 hk ⟨o, rfl, s1, hall⟩
          obtain ⟨x, d, hx, rfl, dv⟩ := htab.get hk
          have hil : i < tbs.length := (List.getElem?_eq_some_iff.mp hx).1
          obtain ⟨ok1, ok2, ok3⟩ := hok _ (List.mem_of_getElem? hx)
          have bad : (isNameB x && pairD d) = false → goodTabs tbs = false := fun e => by
            have : tbs.all (fun t => isNameB t.1 && pairD t.2) = false := by
              rw [List.all_eq_false]
              exact ⟨_, List.mem_of_getElem? hx, by rw [e]; simp⟩
            simp [goodTabs, this]
          refine ⟨_, rfl, _, .str x, rfl, .str x, ok1, fun H2 s2 => ⟨_, rfl, ?_⟩⟩
          have s12 := s1.trans s2
          cases hn : nameD (.str x) with
          | false => exact qE (bad (by show (nameD (.str x) && _) = false; rw [hn]; rfl)) _ (fr0.trans (Frm.of_same s12)) (im0.trans (Imm.of_same s12))
          | true =>
            refine iteF ?_
            have dg : DGet H2 t (.str x) (some v) := by
              rcases htab.find x with ⟨e1, e2⟩ | ⟨v', d', e1, e2, _⟩
              · rw [lookD_at hnd hx] at e2
                cases e2
              · refine .inl ⟨kvs, Sum.inr x, .inr ⟨od, s12 _ _ upd_same⟩, rfl, ?_⟩
                rw [TabV.val htab hnd hk]
            refine ⟨_, rfl, _, rfl, t, v, rfl, dg, v, d, rfl, Dp.imm (im0.trans (Imm.of_same s12)) _ _ ok3 dv, ok2, fun H3 s3 => ⟨_, rfl, ?_⟩⟩
            have s13 := s12.trans s3
            cases hp : pairD d with
            | false => exact qE (bad (by rw [hp, Bool.and_false])) _ (fr0.trans (Frm.of_same s13)) (im0.trans (Imm.of_same s13))
            | true =>
              refine iteF ?_
              refine ⟨_, rfl, s13, ?_⟩
              rw [List.take_add_one, hx, List.all_append, hall]
              show (true && ((isNameB x && pairD d) && true)) = true
              rw [hp, show isNameB x = true from hn]
              rfl
        · rintro σ H1 ⟨o, rfl, s1, hall⟩
          rw [hlen, List.take_length] at hall
          refine ⟨s1 _ _ upd_same, ?_⟩
          have good : goodTabs tbs = true := by simp [goodTabs, c1, c5, hall]
          -- unlocked again
          have s2 : Same H (upd H1 t (.dK kvs)) := fun b o e => by
            by_cases hb : b = t
            · subst hb
              rw [ht] at e
              cases e
              exact upd_same
            · rw [upd_ne hb]
              exact s1 _ _ (by rw [upd_ne hb]; exact e)
          refine ⟨_, rfl, t, kvs, rfl, .inl upd_same, fun r hr' => ?_⟩
          have s3 := s2.trans (same_upd (o := .dK kvs) hr')
          refine ⟨_, rfl, p, Z.C_Schema, dx, _, rfl, s3 _ _ h1, T.cl_Schema, T.na_Schema_tables, by show 0 < 1000; decide, ?_⟩
          have npr : r ≠ p := (ne_of_none (s2 _ _ h1) hr').symm
          refine q good r _ (s2.free hr') ((Frm.of_same s3).upd (.inl (by simp))) ((Imm.of_same s3).upd (s3 _ _ h1) rfl) upd_same ?_
          rw [upd_ne npr, upd_same]
      · rw [decide_eq_true (show (5 : Int) < ((kvs.length : Nat) : Int) by omega)]
        refine iteT ?_
        exact qE (by simp [goodTabs, c5]) _ (Frm.refl _ _) (Imm.refl _)
    · rw [decide_eq_true (show ((kvs.length : Nat) : Int) < 1 by omega)]
      refine iteT ?_
      exact qE (by simp [goodTabs, c1]) _ (Frm.refl _ _) (Imm.refl _)


def sp_schPair (K : PySem.W.Frag) (C N : Addr) : Sp := fun vs H Q E => ∃ (p : Addr) (x : Str) (tbs : List (Str × (List Str × List Str))), vs = [.ref p, .str x] ∧ SchemaAt K C H p tbs ∧ (tfind tbs x = none → E (.ref N) none H) ∧ (∀ t v, tfind tbs x = some t → Dp K H v (pairOf t) → Q v H)

theorem ok_Schema_pair (T : Txt K mg Z) : Met P w K mg base 1 Z.C_Schema "pair" (sp_schPair K Z.C_Schema Z.C_NoTable) := by
  refine T.d_Schema_pair.met T.cl_Schema sc_Schema_pair (fun vs H Q E h => ?_) (fun f cdv A outer s H vs Q E hr h => ?_)
  · obtain ⟨p, x, tbs, rfl, _⟩ := h
    rfl
  · obtain ⟨p, x, tbs, rfl, h⟩ := h
    have tk := takes_of (X := cxOf (L2.CX P w) P w K mg base N_Schema_pair "Schema.pair" (defScope s_Schema_pair) f cdv A outer s H E) rfl rfl rfl rfl
    refine ⟨_, (pss_cons (ps_if (pt_cmp (pc_dnotin (hu_of hr) (pv 1) (pe_fld (pv 0) rfl)))
      (pss_one (ps_raise rfl tk (pmk_own PySem.F.excBase_ValueError T.x_NoTable T.g_NoTable T.k_NoTable (raises_own T.b_NoTable T.t_NoTable) rfl)))
      pss_nil)
      (pss_one (ps_ret (pe_dget (hu_of hr) (pe_fld (pv 0) rfl) (pv 1) (fun _ _ => rfl))))), ?_⟩
    obtain ⟨S, qE, q⟩ := h
    obtain ⟨dx, r, kvs, h1, h2, h3⟩ := S.ex
    have hf := h3.find x
    rw [look_pair] at hf
    refine ⟨_, rfl, _, rfl, p, Z.C_Schema, dx, _, _, rfl, h1, T.cl_Schema, T.na_Schema_tables, rfl, r, _, rfl, DGet.k (k := Sum.inr x) h2, _, rfl, ?_⟩
    rcases hf with ⟨e1, e2⟩ | ⟨v, d, e1, e2, dv⟩
    · rw [e1]
      have : tfind tbs x = none := by
        cases e : tfind tbs x with
        | none => rfl
        | some t => rw [e] at e2; cases e2
      exact qE this
    · rw [e1]
      refine iteF ?_
      obtain ⟨t, et, rfl⟩ : ∃ t, tfind tbs x = some t ∧ d = pairOf t := by
        cases e : tfind tbs x with
        | none => rw [e] at e2; cases e2
        | some t => rw [e] at e2; exact ⟨t, rfl, (Option.some.inj e2).symm⟩
      refine ⟨_, rfl, p, Z.C_Schema, dx, _, _, rfl, h1, T.cl_Schema, T.na_Schema_tables, rfl, _, rfl, r, v, rfl, ?_, q t v et dv⟩
      rw [← e1]
      exact DGet.k (k := Sum.inr x) h2


def sp_schColumns (K : PySem.W.Frag) (C N : Addr) : Sp := fun vs H Q E => ∃ (p : Addr) (x : Str) (tbs : List (Str × (List Str × List Str))), vs = [.ref p, .str x] ∧ SchemaAt K C H p tbs ∧ (tfind tbs x = none → E (.ref N) none H) ∧ (∀ t a, tfind tbs x = some t → SqT K H a (t.1.map V.str) → Q (.ref a) H)
theorem pairOf_inv {K : PySem.W.Frag} {H : Hp} {v : V} {t : List Str × List Str} (h : Dp K H v (pairOf t)) : ∃ a b c, v = .ref a ∧ SqT K H a [.ref b, .ref c] ∧ SqT K H b (t.1.map V.str) ∧ SqT K H c (t.2.map V.str) := by
  unfold pairOf at h
  cases h with
  | tup hs ha =>
    obtain ⟨x, y, rfl, hx, hy⟩ := dpall_len2 ha
    cases hx with
    | tup h1 h2 =>
      cases hy with
      | tup h3 h4 =>
        have e1 := dpall_strs h2
        have e2 := dpall_strs h4
        subst e1 e2
        exact ⟨_, _, _, rfl, hs, h1, h3⟩

theorem ok_Schema_columns (T : Txt K mg Z) : Met P w K mg base 2 Z.C_Schema "columns" (sp_schColumns K Z.C_Schema Z.C_NoTable) := by
  refine T.d_Schema_columns.met T.cl_Schema sc_Schema_columns (fun vs H Q E h => ?_) (fun f cdv A outer s H vs Q E hr h => ?_)
  · obtain ⟨p, x, tbs, rfl, _⟩ := h
    rfl
  · obtain ⟨p, x, tbs, rfl, h⟩ := h
    have tk := takes_of (X := cxOf (L2.CX P w) P w K mg base N_Schema_columns "Schema.columns" (defScope s_Schema_columns) f cdv A outer s H E) rfl rfl rfl rfl
    refine ⟨_, (pss_one (ps_ret (pe_ix ix_tup (pe_mtG (ok_Schema_pair T) hr (by decide) (fun σ => passAt tk σ) (pv 0) (pa_cons (pv 1) pa_nil)) pe_int (fun _ _ => rfl)))), ?_⟩
    obtain ⟨S, qE, q⟩ := h
    obtain ⟨dx, r, kvs, h1, h2, h3⟩ := S.ex
    refine ⟨_, rfl, p, dx, _, rfl, h1, rfl, _, rfl, p, x, tbs, rfl, S, qE, fun t v et dv => ?_⟩
    obtain ⟨a, b, c, rfl, g1, g2, g3⟩ := pairOf_inv dv
    exact ⟨a, _, _, _, rfl, rfl, g1, atI_nat (j := 0) rfl, q t b et g2⟩


def sp_isWhole (K : PySem.W.Frag) : Sp := fun vs H Q _ => ∃ (v : V) (d : PyData), vs = [v] ∧ Dp K H v d ∧ Q (.bl (wholeD d)) H

theorem ok_is_whole (T : Txt K mg Z) : Cal P w K mg base 1 "is_whole" (sp_isWhole K) := by
  refine T.d_is_whole.cal sc_is_whole (fun vs H Q E h => ?_) (fun f cdv A outer s H vs Q E hr h => ?_)
  · obtain ⟨v, d, rfl, _⟩ := h
    rfl
  · obtain ⟨v, d, rfl, h⟩ := h
    refine ⟨_, (pss_one (ps_ret (pe_and (pe_callB call_isi (by rfl) T.n_isinstance (by decide +kernel) (pa_cons (pv 0) (pa_cons (pe_bltn (v := .ty "int") (by rfl) T.n_int (by decide +kernel) rfl) pa_nil))) (pe_one (pe_not (pe_callB call_isi (by rfl) T.n_isinstance (by decide +kernel) (pa_cons (pv 0) (pa_cons (pe_bltn (v := .ty "bool") (by rfl) T.n_bool (by decide +kernel) rfl) pa_nil)))))))), ?_⟩
    obtain ⟨hd, q⟩ := h
    refine ⟨_, rfl, _, _, _, _, _, rfl, .ty "int", dp_ty hd, isis (by simp) K d, _, rfl, ?_⟩
    rw [isD_int]
    have second : ∀ b, isD "bool" d = b → wholeD d = !b → tNotV (tCB (rIsi K) (tCons (tVar 0) (tCons (tC (.ty "bool")) tNil))) [some v] H Q := fun b e1 e2 => by
      refine ⟨_, rfl, _, _, _, _, _, rfl, .ty "bool", dp_ty hd, isis (by simp) K d, _, rfl, ?_⟩
      rw [e1, ← e2]
      exact q
    cases d with
    | int i => exact second false (by rw [isD_bool]) rfl
    | bool b => exact second true (by rw [isD_bool]) rfl
    | none => exact q
    | str x => exact q
    | list x => exact q
    | tuple x => exact q
    | dict x => exact q


def sp_schIsRow (K : PySem.W.Frag) (C N : Addr) : Sp := fun vs H Q E => ∃ (p : Addr) (x : Str) (v : V) (d : PyData) (tbs : List (Str × (List Str × List Str))), vs = [.ref p, .str x, v] ∧ SchemaAt K C H p tbs ∧ Dp K H v d ∧ okD d = true ∧ (∀ t ∈ tbs, t.2.1.length ≤ 1000) ∧ (tfind tbs x = none → E (.ref N) none H) ∧ (∀ t H', tfind tbs x = some t → Same H H' → Q (.bl (rowD t.1.length d)) H')

theorem ok_Schema_is_row (T : Txt K mg Z) : Met P w K mg base 3 Z.C_Schema "is_row" (sp_schIsRow K Z.C_Schema Z.C_NoTable) := by
  refine T.d_Schema_is_row.met T.cl_Schema sc_Schema_is_row (fun vs H Q E h => ?_) (fun f cdv A outer s H vs Q E hr h => ?_)
  · obtain ⟨p, x, v, d, tbs, rfl, _⟩ := h
    rfl
  · obtain ⟨p, x, v, d, tbs, rfl, h⟩ := h
    have tk := takes_of (X := cxOf (L2.CX P w) P w K mg base N_Schema_is_row "Schema.is_row" (defScope s_Schema_is_row) f cdv A outer s H E) rfl rfl rfl rfl
    refine ⟨_, (pss_cons (ps_set (i := 3) sc_Schema_is_row.nd rfl (Or.inl rfl) (pe_callB call_len (by rfl) T.n_len (by decide +kernel) (pa_cons (pe_mtG (ok_Schema_columns T) hr (by decide) (fun σ => passAt tk σ) (pv 0) (pa_cons (pv 1) pa_nil)) pa_nil)))
      (pss_cons (ps_if (PW.pt (pw_or (pt_not (pt_val (pe_callB call_isi (by rfl) T.n_isinstance (by decide +kernel) (pa_cons (pv 2) (pa_cons (pe_bltn (v := .ty "tuple") (by rfl) T.n_tuple (by decide +kernel) rfl) pa_nil))))) (pw_or1 (pt_cmpR op_ne (pe_callB call_len (by rfl) T.n_len (by decide +kernel) (pa_cons (pv 2) pa_nil)) (pv 3) (nomark _)))))
      (pss_one (ps_ret pe_bl))
      pss_nil)
      (pss_one (ps_ret (pe_callB (cr_all rfl) (by rfl) T.n_all (by decide +kernel) (pa_cons (pe_lc (own := [("value", 4)]) (g := gName 4) (tt := tYes) (by rfl) sc_Schema_is_row.nd (pi_tup (pv 2)) (blkOk_by (own := [("value", 4)]) (N := N_Schema_is_row) (sc := defScope s_Schema_is_row) (by decide +kernel)) (fun _ _ _ _ _ => pg_name (i := 4) sc_Schema_is_row.nd rfl (Or.inl rfl)) (fun _ _ _ _ _ => pts_nil) (fun _ _ _ _ _ => (pe_c (ok_is_whole T) hr (by decide) rfl (pa_cons (pv 4) pa_nil)))) pa_nil)))))), ?_⟩
    obtain ⟨S, hd, ho, hsz, qE, q⟩ := h
    obtain ⟨dx, r, kvs, h1, h2, h3⟩ := S.ex
    refine ⟨_, rfl, p, dx, _, rfl, h1, rfl, _, rfl, p, x, tbs, rfl, S, qE, fun t a et ha => ?_⟩
    refine ⟨_, _, rfl, .inr ⟨_, ha, rfl⟩, ?_⟩
    rw [List.length_map]
    have q' := fun H' => q t H' et
    refine ⟨_, rfl, _, _, _, _, _, rfl, .ty "tuple", dp_ty hd, isis (by simp) K d, _, rfl, ?_⟩
    rw [isD_tuple]
    cases d with
    | tuple ds =>
      have ho' : ds.length ≤ 1000 ∧ okDs ds = true := by simpa [okD] using ho
      cases hd with
      | tup hs ha =>
        rename_i av vs
        have hlen : vs.length = ds.length := ha.len
        refine ⟨_, rfl, _, vs.length, rfl, .inr ⟨_, hs, rfl⟩, _, rfl, rfl, _, rfl, ?_⟩
        rw [dec_int]
        by_cases hl : ds.length = t.1.length
        · rw [show (((vs.length : Nat) : Int) == ((t.1.length : Nat) : Int)) = true from beq_iff_eq.mpr (by omega)]
          refine iteF ?_
          refine ⟨_, rfl, av, rfl, ⟨_, hs⟩, fun D hD => lc_tup (K := K) (a := av) (xs := vs) (fun i H3 => Same H H3 ∧ H3 D = some (.lst (((ds.take i).map wholeD).map V.bl)) ∧ i ≤ ds.length) ⟨same_upd hD, upd_same, Nat.zero_le _⟩ (fun i H3 _ p => (Imm.of_same p.1).sqT hs) ?_ ?_⟩
          · rintro i u H3 hu ⟨s3, hD3, hi⟩
            have hil : i < ds.length := by have := (List.getElem?_eq_some_iff.mp hu).1; omega
            have gi : ds[i]? = some ds[i] := List.getElem?_eq_getElem hil
            obtain ⟨u', hu', du⟩ := ha.get gi
            rw [hu] at hu'
            cases hu'
            refine ⟨rfl, _, rfl, u, ds[i], rfl, Dp.samA s3 _ _ du, _, hD3, ?_, ?_⟩
            · rw [List.length_map, List.length_map, List.length_take]
              exact small1000 (by omega)
            · have nD : ∀ b o, H b = some o → b ≠ D := fun b o e => ne_of_none e hD
              refine ⟨fun b o e => by rw [upd_ne (nD b o e)]; exact s3 b o e, ?_, hil⟩
              rw [upd_same, List.take_add_one, gi, List.map_append, List.map_append]
              rfl
          · rintro H3 ⟨s3, hD3, hi⟩
            rw [hlen, List.take_length] at hD3
            refine ⟨D, _, rfl, SqL.of hD3, ?_⟩
            have := q' H3 s3
            have e : rowD t.1.length (.tuple ds) = (ds.map wholeD).all id := by
              rw [List.all_map]
              simp [rowD, hl]
            rw [e] at this
            exact this
        · rw [show (((vs.length : Nat) : Int) == ((t.1.length : Nat) : Int)) = false from beq_eq_false_iff_ne.mpr (by omega)]
          refine iteT ?_
          have := q' H (Same.refl H)
          have e : rowD t.1.length (.tuple ds) = false := by simp [rowD, hl]
          rw [e] at this
          exact this
    | none => exact q' H (Same.refl H)
    | bool b => exact q' H (Same.refl H)
    | int b => exact q' H (Same.refl H)
    | list b => exact q' H (Same.refl H)
    | str b => exact q' H (Same.refl H)
    | dict b => exact q' H (Same.refl H)


def sp_mixed : Sp := fun vs H Q _ => ∃ (c k : Int), vs = [.int c, .int k] ∧ ∀ r : Int, 0 ≤ r → r < 2147483647 → Q (.int r) H

theorem ok_l_mixed (T : Txt K mg Z) : Cal P w K mg base 1 "_law_mixed" (sp_mixed) := by
  refine T.d_l_mixed.cal sc_l_mixed (fun vs H Q E h => ?_) (fun f cdv A outer s H vs Q E hr h => ?_)
  · obtain ⟨c, k, rfl, _⟩ := h
    rfl
  · obtain ⟨c, k, rfl, h⟩ := h
    refine ⟨_, (pss_cons (ps_set (i := 2) sc_l_mixed.nd rfl (Or.inl rfl) (pe_op op_mod (pe_op op_mul (pe_op op_add (pe_op op_add (pv 0) (pe_op op_mul pe_int (pv 1))) pe_int) pe_int) pe_int))
      (pss_one (ps_ret (pe_op op_mod (pe_op op_mul (pv 2) (pe_op op_add (pe_op op_fdivW (pv 2) pe_int) pe_int)) pe_int)))), ?_⟩
    refine ⟨_, rfl, _, rfl, _, _, rfl, rfl, .inl ⟨by decide, by decide⟩, _, _, rfl, rfl, _, _, rfl, rfl, _, _, rfl, rfl, .inr ⟨by decide, by decide⟩, _, _, rfl, rfl, by show (0 : Int) < 2147483647; decide, ?_⟩
    generalize (c + 7919 * k + 1) * 48271 = z
    have h0 : 0 ≤ z % 2147483647 := Int.emod_nonneg _ (by decide)
    have h1 : z % 2147483647 < 2147483647 := Int.emod_lt_of_pos _ (by decide)
    refine ⟨_, rfl, _, rfl, _, _, rfl, rfl, ⟨by decide, by decide⟩, _, _, rfl, rfl, _, _, rfl, rfl, .inl (small64 h0 h1), _, _, rfl, rfl, by show (0 : Int) < 2147483647; decide, ?_⟩
    exact h _ (Int.emod_nonneg _ (by decide)) (Int.emod_lt_of_pos _ (by decide))


def sp_twice : Sp := fun vs H Q _ => ∃ (c k : Int), vs = [.int c, .int k] ∧ ∀ r : Int, 0 ≤ r → r < 2147483647 → Q (.int r) H

theorem ok_l_twice (T : Txt K mg Z) : Cal P w K mg base 2 "_law_twice" (sp_twice) := by
  refine T.d_l_twice.cal sc_l_twice (fun vs H Q E h => ?_) (fun f cdv A outer s H vs Q E hr h => ?_)
  · obtain ⟨c, k, rfl, _⟩ := h
    rfl
  · obtain ⟨c, k, rfl, h⟩ := h
    refine ⟨_, (pss_cons (ps_set (i := 2) sc_l_twice.nd rfl (Or.inl rfl) (pe_op op_mod (pe_op op_mul (pe_op op_add (pe_op op_add (pe_c (ok_l_mixed T) hr (by decide) rfl (pa_cons (pv 0) (pa_cons (pv 1) pa_nil))) (pe_op op_mul pe_int (pv 1))) pe_int) pe_int) pe_int))
      (pss_one (ps_ret (pe_op op_mod (pe_op op_mul (pv 2) (pe_op op_add (pe_op op_fdivW (pv 2) pe_int) pe_int)) pe_int)))), ?_⟩
    refine ⟨_, rfl, _, rfl, c, k, rfl, fun r _ _ => ?_⟩
    refine ⟨_, rfl, _, _, rfl, rfl, .inl ⟨by decide, by decide⟩, _, _, rfl, rfl, _, _, rfl, rfl, _, _, rfl, rfl, .inr ⟨by decide, by decide⟩, _, _, rfl, rfl, by show (0 : Int) < 2147483647; decide, ?_⟩
    generalize (r + 104729 * k + 11) * 69621 = z
    have h0 : 0 ≤ z % 2147483647 := Int.emod_nonneg _ (by decide)
    have h1 : z % 2147483647 < 2147483647 := Int.emod_lt_of_pos _ (by decide)
    refine ⟨_, rfl, _, rfl, _, _, rfl, rfl, ⟨by decide, by decide⟩, _, _, rfl, rfl, _, _, rfl, rfl, .inl (small64 h0 h1), _, _, rfl, rfl, by show (0 : Int) < 2147483647; decide, ?_⟩
    exact h _ (Int.emod_nonneg _ (by decide)) (Int.emod_lt_of_pos _ (by decide))


def sp_draw : Sp := fun vs H Q _ => ∃ (p : Addr) (m : Int), vs = [.ref p, .int m] ∧ WellAt H p ∧ (0 < m ∧ m.natAbs.log2 < 9000) ∧ ∀ (r : Int) (H' : Hp), 0 ≤ r → r < m → Frm [p] H H' → WellAt H' p → Q (.int r) H'

theorem ok_l_draw (T : Txt K mg Z) : Cal P w K mg base 3 "_law_draw" (sp_draw) := by
  refine T.d_l_draw.cal sc_l_draw (fun vs H Q E h => ?_) (fun f cdv A outer s H vs Q E hr h => ?_)
  · obtain ⟨p, m, rfl, _⟩ := h
    rfl
  · obtain ⟨p, m, rfl, h⟩ := h
    refine ⟨_, (pss_cons (ps_if (PW.pt (pw_and (pt_cmpR op_eq (pe_ix ix_list (pv 0) pe_int (fun _ _ => rfl)) pe_int (nomark _)) (pw_and1 (pt_cmpR op_notIn_seq (pe_ix ix_list (pv 0) pe_int (fun _ _ => rfl)) (pe_tup (pa_cons pe_int (pa_cons (pe_un un_neg pe_int) pa_nil))) (by rfl)))))
      (pss_cons (ps_set (i := 2) sc_l_draw.nd rfl (Or.inl rfl) (pe_op op_mod (pe_ix ix_list (pv 0) pe_int (fun _ _ => rfl)) (pv 1)))
        (pss_cons (ps_asg (pe_op op_fdivW (pe_ix ix_list (pv 0) pe_int (fun _ _ => rfl)) (pv 1)) (pg_sub (pv 0) pe_int set_list))
        (pss_one (ps_ret (pv 2)))))
      pss_nil)
      (pss_cons (ps_asg (pe_op op_add (pe_ix ix_list (pv 0) pe_int (fun _ _ => rfl)) pe_int) (pg_sub (pv 0) pe_int set_list))
      (pss_one (ps_ret (pe_op op_mod (pe_c (ok_l_twice T) hr (by decide) rfl (pa_cons (pe_ix ix_list (pv 0) pe_int (fun _ _ => rfl)) (pa_cons (pe_ix ix_list (pv 0) pe_int (fun _ _ => rfl)) pa_nil))) (pv 1)))))), ?_⟩
    obtain ⟨⟨ws, hl, hw⟩, hm, q⟩ := h
    have last : ∀ (H1 : Hp) (w0 w1 w2 w3 : Int) (o : Option V), Frm [p] H H1 → H1 p = some (.lst [.int w0, .int w1, .int w2, .int w3]) →
        tSeq (tAsg (tOp (rI0 fun i j => .int (i + j)) (tOp (rIxL K) (tVar 0) (tC (.int 2))) (tC (.int 1))) (gSub (tVar 0) (tC (.int 2)) rSetL))
          (tRet (tOp (rI (fun _ j => 0 < j) fun i j => .int (i % j)) (tCallS sp_twice (fun _ => E0) (tCons (tOp (rIxL K) (tVar 0) (tC (.int 3))) (tCons (tOp (rIxL K) (tVar 0) (tC (.int 2))) tNil))) (tVar 1)))
          { nx := fun _ H' => Q .non H', rt := Q } [some (.ref p), some (.int m), o] H1 := by
      intro H1 w0 w1 w2 w3 o f1 h1
      refine ⟨_, rfl, p, _, _, _, rfl, rfl, SqL.of h1, atI_nat (j := 2) rfl, _, _, rfl, rfl, _, rfl, p, _, _, 2, rfl, rfl, h1, ixN_nat (j := 2) (by show 2 < 4; decide), ?_⟩
      have h2 : upd H1 p (.lst [.int w0, .int w1, .int (w2 + 1), .int w3]) p = _ := upd_same
      refine ⟨_, rfl, p, _, _, _, rfl, rfl, SqL.of h2, atI_nat (j := 3) rfl, _, rfl, p, _, _, _, rfl, rfl, SqL.of h2, atI_nat (j := 2) rfl, _, _, rfl, fun r _ _ => ⟨_, rfl, _, _, rfl, rfl, hm.1, ?_⟩⟩
      exact q _ _ (Int.emod_nonneg _ (by omega)) (Int.emod_lt_of_pos _ hm.1) (f1.upd (.inl (by simp))) ⟨[w0, w1, w2 + 1, w3], rfl, upd_same⟩
    match ws, hl, hw with
    | [w0, w1, w2, w3], _, hw =>
      refine ⟨_, rfl, p, _, _, _, rfl, rfl, SqL.of hw, atI_nat (j := 0) rfl, rfl, _, rfl, ?_⟩
      refine ite2 (fun _ => ?_) (fun _ => ?_)
      · refine ⟨_, rfl, p, _, _, _, rfl, rfl, SqL.of hw, atI_nat (j := 1) rfl, _, rfl, by show 2 ≤ sizeLine; decide, fun t ht => ?_⟩
        have hw1 := up_new (o := .tup [.int 0, .int (-1)]) ht hw
        refine ⟨t, _, rfl, .inr (SqT.of upd_same), rfl, rfl, _, rfl, ?_⟩
        refine ite2 (fun _ => ?_) (fun _ => ?_)
        · refine ⟨_, rfl, p, _, _, _, rfl, rfl, SqL.of hw1, atI_nat (j := 1) rfl, _, rfl, _, _, rfl, rfl, hm.1, ?_⟩
          refine ⟨_, rfl, p, _, _, _, rfl, rfl, SqL.of hw1, atI_nat (j := 1) rfl, _, rfl, _, _, rfl, rfl, hm, _, rfl, p, _, _, 1, rfl, rfl, hw1, ixN_nat (j := 1) (by show 1 < 4; decide), ?_⟩
          refine ⟨_, rfl, ?_⟩
          exact q _ _ (Int.emod_nonneg _ (by omega)) (Int.emod_lt_of_pos _ hm.1) ((Frm.of_same (same_upd ht)).upd (.inl (by simp))) ⟨[w0, w1 / m, w2, w3], rfl, upd_same⟩
        · exact last _ w0 w1 w2 w3 _ (Frm.of_same (same_upd ht)) hw1
      · exact last _ w0 w1 w2 w3 _ (Frm.refl _ _) hw


def sp_k02good (K : PySem.W.Frag) : Sp := fun vs H Q _ => ∃ (v : V) (n : Nat) (d : PyData), vs = [v, .int (n : Nat)] ∧ Dp K H v d ∧ okD d = true ∧ SeqAt.shaped d = true ∧ ∀ H', Same H H' → Q (.bl (rowD n d)) H'
theorem shaped_items {ds : List PyData} (h : SeqAt.shaped (.tuple ds) = true) (p : PyData → Bool) : SeqAt.shaped (.list (ds.filter p)) = true := by
  have h1 : PyData.canLayAll0 ds = true := by have := SeqAt.canLay_of_shaped h; simpa [PyData.canLay0] using this
  have h2 : PyData.depthAll ds + 1 ≤ 64 := by have := SeqAt.depth_of_shaped h; simpa [PyData.depth] using this
  have a1 : ∀ l : List PyData, PyData.canLayAll0 l = true → PyData.canLayAll0 (l.filter p) = true := fun l => by
    induction l with
    | nil => exact fun h => h
    | cons x l ih =>
      intro h
      have h' : x.canLay0 = true ∧ PyData.canLayAll0 l = true := by simpa [PyData.canLayAll0] using h
      rw [List.filter_cons]
      split
      · simp [PyData.canLayAll0, h'.1, ih h'.2]
      · exact ih h'.2
  have a2 : ∀ l : List PyData, PyData.depthAll (l.filter p) ≤ PyData.depthAll l := fun l => by
    induction l with
    | nil => exact Nat.le_refl _
    | cons x l ih =>
      rw [List.filter_cons]
      split
      · simp only [PyData.depthAll]; omega
      · simp only [PyData.depthAll]; omega
  have a3 := a2 ds
  show (PyData.canLay0 (.list (ds.filter p)) && decide (PyData.depth (.list (ds.filter p)) ≤ 64)) = true
  rw [Bool.and_eq_true]
  exact ⟨by simpa [PyData.canLay0] using a1 ds h1, decide_eq_true (by simp only [PyData.depth]; omega)⟩

theorem ok_l_good (T : Txt K mg Z) : Cal P w K mg base 1 "_law_good" (sp_k02good K) := by
  refine T.d_l_good.cal sc_l_good (fun vs H Q E h => ?_) (fun f cdv A outer s H vs Q E hr h => ?_)
  · obtain ⟨v, n, d, rfl, _⟩ := h
    rfl
  · obtain ⟨v, n, d, rfl, h⟩ := h
    refine ⟨_, (pss_cons (ps_if (PW.pt (pw_or (pt_not (pt_val (pe_callB call_isi (by rfl) T.n_isinstance (by decide +kernel) (pa_cons (pv 0) (pa_cons (pe_bltn (v := .ty "tuple") (by rfl) T.n_tuple (by decide +kernel) rfl) pa_nil))))) (pw_or1 (pt_cmpR op_ne (pe_callB call_len (by rfl) T.n_len (by decide +kernel) (pa_cons (pv 0) pa_nil)) (pv 1) (nomark _)))))
      (pss_one (ps_ret pe_bl))
      pss_nil)
      (pss_one (ps_ret (pe_cmpR (op_eqD hr.units) (pe_lc (own := [("_law_one", 2)]) (g := gName 2) (by rfl) sc_l_good.nd (pi_tup (pv 0)) (blkOk_by (own := [("_law_one", 2)]) (N := N_l_good) (sc := defScope s_l_good) (by decide +kernel)) (fun _ _ _ _ _ => pg_name (i := 2) sc_l_good.nd rfl (Or.inl rfl)) (fun _ _ _ _ _ => pts_one (PW.pt (pw_or (pt_not (pt_val (pe_callB (kx_call (F := rIsi) (K := K) rfl call_isi) (by rfl) T.n_isinstance (by decide +kernel) (pa_cons (pv 2) (pa_cons (pe_bltn (v := .ty "int") (by rfl) T.n_int (by decide +kernel) rfl) pa_nil))))) (pw_or1 (pt_val (pe_callB (kx_call (F := rIsi) (K := K) rfl call_isi) (by rfl) T.n_isinstance (by decide +kernel) (pa_cons (pv 2) (pa_cons (pe_bltn (v := .ty "bool") (by rfl) T.n_bool (by decide +kernel) rfl) pa_nil)))))))) (fun _ _ _ _ _ => (pv 2))) (pe_lst pa_nil) (nomark _))))), ?_⟩
    obtain ⟨hd, ho, hsh, q⟩ := h
    refine ⟨_, rfl, _, _, _, _, _, rfl, .ty "tuple", dp_ty hd, isis (by simp) K d, _, rfl, ?_⟩
    rw [isD_tuple]
    cases d with
    | tuple ds =>
      have ho' : ds.length ≤ 1000 ∧ okDs ds = true := by simpa [okD] using ho
      cases hd with
      | tup hs ha =>
        rename_i av vs
        have hlen : vs.length = ds.length := ha.len
        refine ⟨_, rfl, _, vs.length, rfl, .inr ⟨_, hs, rfl⟩, _, rfl, rfl, _, rfl, ?_⟩
        rw [dec_int]
        by_cases hl : ds.length = n
        · rw [show (((vs.length : Nat) : Int) == ((n : Nat) : Int)) = true from beq_iff_eq.mpr (by omega)]
          refine iteF ?_
          refine ⟨_, rfl, av, rfl, ⟨_, hs⟩, fun D hD => lc_tup (K := K) (a := av) (xs := vs) (fun i H3 => Same H H3 ∧ (∃ ys, H3 D = some (.lst ys) ∧ DpAll K H ys ((ds.take i).filter fun z => !wholeD z) ∧ ys.length ≤ i) ∧ i ≤ ds.length) ⟨same_upd hD, ⟨[], upd_same, .nil, Nat.le_refl _⟩, Nat.zero_le _⟩ (fun i H3 _ p => (Imm.of_same p.1).sqT hs) ?_ ?_⟩
          · rintro i u H3 hu ⟨s3, ⟨ys, hD3, dy, hy⟩, hi⟩
            have hil : i < ds.length := by have := (List.getElem?_eq_some_iff.mp hu).1; omega
            have gi : ds[i]? = some ds[i] := List.getElem?_eq_getElem hil
            obtain ⟨u', hu', du⟩ := ha.get gi
            rw [hu] at hu'
            cases hu'
            have du3 := Dp.samA s3 _ _ du
            have et : (ds.take (i + 1)).filter (fun z => !wholeD z) = (ds.take i).filter (fun z => !wholeD z) ++ (if (!wholeD ds[i]) = true then [ds[i]] else []) := by
              rw [List.take_add_one, gi, List.filter_append]
              congr 1
              show List.filter _ [ds[i]] = _
              rw [List.filter_cons]
              rfl
            have keep : wholeD ds[i] = false → Same H (upd H3 D (.lst (ys ++ [u]))) ∧ (∃ ys', (upd H3 D (.lst (ys ++ [u]))) D = some (.lst ys') ∧ DpAll K H ys' ((ds.take (i + 1)).filter fun z => !wholeD z) ∧ ys'.length ≤ i + 1) ∧ i + 1 ≤ ds.length := fun hw => by
              have nD : ∀ b o, H b = some o → b ≠ D := fun b o e => ne_of_none e hD
              refine ⟨fun b o e => by rw [upd_ne (nD b o e)]; exact s3 b o e, ⟨_, upd_same, ?_, by rw [List.length_append]; show ys.length + 1 ≤ i + 1; omega⟩, hil⟩
              rw [et, if_pos (by rw [hw]; rfl)]
              exact dy.app (.cons du .nil)
            have skip : wholeD ds[i] = true → Same H H3 ∧ (∃ ys', H3 D = some (.lst ys') ∧ DpAll K H ys' ((ds.take (i + 1)).filter fun z => !wholeD z) ∧ ys'.length ≤ i + 1) ∧ i + 1 ≤ ds.length := fun hw => by
              refine ⟨s3, ⟨ys, hD3, ?_, by omega⟩, hil⟩
              rw [et, if_neg (by rw [hw]; simp), List.append_nil]
              exact dy
            refine ⟨rfl, _, rfl, _, _, _, _, _, rfl, .ty "int", dp_ty du3, isis (by simp) K ds[i], _, rfl, ?_⟩
            rw [isD_int]
            generalize hx : ds[i] = x at *
            cases x with
            | int z =>
              refine iteF ?_
              refine ⟨_, rfl, _, _, _, _, _, rfl, .ty "bool", dp_ty du3, isis (by simp) K (.int z), _, rfl, ?_⟩
              rw [isD_bool]
              exact skip rfl
            | bool z =>
              refine iteF ?_
              refine ⟨_, rfl, _, _, _, _, _, rfl, .ty "bool", dp_ty du3, isis (by simp) K (.bool z), _, rfl, ?_⟩
              rw [isD_bool]
              exact ⟨_, rfl, ys, hD3, small1000 (by omega), keep rfl⟩
            | none => exact ⟨_, rfl, ys, hD3, small1000 (by omega), keep rfl⟩
            | str z => exact ⟨_, rfl, ys, hD3, small1000 (by omega), keep rfl⟩
            | list z => exact ⟨_, rfl, ys, hD3, small1000 (by omega), keep rfl⟩
            | tuple z => exact ⟨_, rfl, ys, hD3, small1000 (by omega), keep rfl⟩
            | dict z => exact ⟨_, rfl, ys, hD3, small1000 (by omega), keep rfl⟩
          · rintro H3 ⟨s3, ⟨ys, hD3, dy, hy⟩, hi⟩
            rw [hlen, List.take_length] at dy
            refine ⟨by show 0 ≤ sizeLine; decide, fun e he => ?_⟩
            have s4 := same_upd (o := .lst []) he
            refine ⟨_, _, .lst (SqL.of (s4 _ _ hD3)) (DpAll.samA (s3.trans s4) _ _ dy), .lst (SqL.of upd_same) .nil, shaped_items hsh _, by decide +kernel, ?_⟩
            have ee : PyData.eqv (.list (ds.filter fun z => !wholeD z)) (.list []) = rowD n (.tuple ds) := by
              have h1 : rowD n (.tuple ds) = ds.all wholeD := by simp [rowD, hl]
              rw [h1]
              cases hf : ds.filter (fun z => !wholeD z) with
              | nil =>
                have : ds.all wholeD = true := by
                  rw [List.all_eq_true]
                  intro x hx
                  have := List.filter_eq_nil_iff.mp hf x hx
                  simpa using this
                rw [this]
                simp [PyData.eqv, PyData.eqvAll]
              | cons y l =>
                have hy : y ∈ ds.filter (fun z => !wholeD z) := by rw [hf]; simp
                obtain ⟨h2, h3⟩ := List.mem_filter.mp hy
                have : ds.all wholeD = false := by
                  rw [List.all_eq_false]
                  exact ⟨y, h2, by simpa using h3⟩
                rw [this]
                simp [PyData.eqv, PyData.eqvAll]
            rw [ee]
            exact q _ (s3.trans s4)
        · rw [show (((vs.length : Nat) : Int) == ((n : Nat) : Int)) = false from beq_eq_false_iff_ne.mpr (by omega)]
          refine iteT ?_
          have := q H (Same.refl H)
          have e : rowD n (.tuple ds) = false := by simp [rowD, hl]
          rw [e] at this
          exact this
    | none => exact q H (Same.refl H)
    | bool b => exact q H (Same.refl H)
    | int b => exact q H (Same.refl H)
    | list b => exact q H (Same.refl H)
    | str b => exact q H (Same.refl H)
    | dict b => exact q H (Same.refl H)


def sp_k02refused (K : PySem.W.Frag) (C : Addr) : Sp := fun vs H Q _ => ∃ (p : Addr) (v : V) (d : PyData) (tbs : List (Str × (List Str × List Str))), vs = [.ref p, v] ∧ SchemaAt K C H p tbs ∧ Dp K H v d ∧ okD d = true ∧ (∀ t ∈ tbs, t.2.1.length ≤ 1000) ∧ tfind tbs "absent" = none ∧ ∀ H', Same H H' → Q (.bl true) H'

theorem ok_l_refused (T : Txt K mg Z) : Cal P w K mg base 4 "_law_refused" (sp_k02refused K Z.C_Schema) := by
  refine T.d_l_refused.cal sc_l_refused (fun vs H Q E h => ?_) (fun f cdv A outer s H vs Q E hr h => ?_)
  · obtain ⟨p, v, d, tbs, rfl, _⟩ := h
    rfl
  · obtain ⟨p, v, d, tbs, rfl, h⟩ := h
    refine ⟨_, (pss_cons (ps_try_as (i := 2) rfl rfl sc_l_refused.nd rfl rfl ⟨rfl, by decide, .inl T.g_LedgerError⟩ takes0 (fun W pn xe tk _ =>
      (pss_one (ps_expr (pe_mtG (ok_Schema_is_row T) hr (by decide) (fun σ => passAt tk σ) (pv 0) (pa_cons pe_str (pa_cons (pv 1) pa_nil))))))
      (fun a oe cls dd pn hz hf =>
      (pss_one (ps_ret (pe_and (pe_callB (call_isX hz hf) (by rfl) T.n_isinstance (by decide +kernel) (pa_cons (pv 2) (pa_cons (pe_glob (v := .ref Z.C_NoTable) rfl T.g_NoTable rfl) pa_nil))) (pe_one (pe_not (pe_callB (call_isXT hz hf) (by rfl) T.n_isinstance (by decide +kernel) (pa_cons (pv 2) (pa_cons (pe_tup (pa_cons (pe_glob (v := .ref Z.C_NoRow) rfl T.g_NoRow rfl) (pa_cons (pe_glob (v := .ref Z.C_NoSchema) rfl T.g_NoSchema rfl) pa_nil))) pa_nil))))))))))
      (pss_one (ps_ret pe_bl))), ?_⟩
    obtain ⟨S, hd, ho, hsz, hno, q⟩ := h
    obtain ⟨dx, r, kvs, h1, h2, h3⟩ := S.ex
    refine ⟨_, rfl, p, dx, _, rfl, h1, rfl, _, rfl, p, "absent", v, d, tbs, rfl, S, hd, ho, hsz, fun _ => ?_, fun t H' z => by rw [hno] at z; cases z⟩
    refine ⟨true, T.em_NoTable_LedgerError, fun _ a ha => ?_, (fun z => nomatch z)⟩
    refine ⟨_, rfl, Z.C_NoTable, _, _, _, rfl, rfl, T.ec_NoTable, rfl, (fun _ r => r), T.ki_NoTable_NoTable, _, rfl, iteT ?_⟩
    refine ⟨_, rfl, by show 2 ≤ sizeLine; decide, fun tp htp => ⟨Z.C_NoTable, tp, _, [.ref Z.C_NoRow, .ref Z.C_NoSchema], false, rfl, rfl, T.ec_NoTable, rfl, upd_same, .cons (.own _) (.cons (.own _) .nil), kitAny_cons T.ki_NoTable_NoRow (fun _ => kitAny_cons T.ki_NoTable_NoSchema (fun _ => L2.kitAny_nil) (fun z => nomatch z)) (fun z => nomatch z), _, rfl, ?_⟩⟩
    exact q _ (same_upd htp)


def sp_k02thing (K : PySem.W.Frag) : Sp := fun vs H Q _ => ∃ (w : Addr) (n : Nat), vs = [.ref w, .int (n : Nat)] ∧ WellAt H w ∧ n ≤ 10 ∧ ∀ (v : V) (d : PyData) (H' : Hp), Frm [w] H H' → WellAt H' w → Dp K H' v d → okD d = true → SeqAt.shaped d = true → Q v H'

theorem ok_l_thing (T : Txt K mg Z) : Cal P w K mg base 4 "_law_thing" (sp_k02thing K) := by
  refine T.d_l_thing.cal sc_l_thing (fun vs H Q E h => ?_) (fun f cdv A outer s H vs Q E hr h => ?_)
  · obtain ⟨w, n, rfl, _⟩ := h
    rfl
  · obtain ⟨w, n, rfl, h⟩ := h
    refine ⟨_, (pss_cons (ps_set (i := 2) sc_l_thing.nd rfl (Or.inl rfl) (pe_ix ix_list (pe_lst (pa_cons (pv 1) (pa_cons (pe_c (ok_l_draw T) hr (by decide) rfl (pa_cons (pv 0) (pa_cons pe_int pa_nil))) pa_nil))) (pe_c (ok_l_draw T) hr (by decide) rfl (pa_cons (pv 0) (pa_cons pe_int pa_nil))) (fun _ _ => rfl)))
      (pss_cons (ps_setLc (i := 3) (own := [("_law_k", 4)]) (g := gName 4) (tt := tYes) (by rfl) sc_l_thing.nd rfl rfl (sw_true rfl rfl rfl (by decide +kernel)) (pi_range1 rfl T.n_range (pa_cons (pv 2) pa_nil)) (blkOk_by (own := [("_law_k", 4)]) (N := N_l_thing) (sc := defScope s_l_thing) (by decide +kernel)) (fun _ _ _ _ _ => pg_name (i := 4) sc_l_thing.nd rfl (Or.inl rfl)) (fun _ _ _ _ _ => pts_nil) (fun _ _ _ _ _ => (pe_op op_add (pe_op op_sub (pe_c (ok_l_draw T) hr (by decide) rfl (pa_cons (pv 0) (pa_cons (pe_op op_sub (pe_op op_mul pe_int (pe_op op_pow pe_int pe_int)) pe_int) pa_nil))) (pe_op op_pow pe_int pe_int)) pe_int)))
      (pss_cons (ps_set (i := 5) sc_l_thing.nd rfl (Or.inl rfl) (pe_c (ok_l_draw T) hr (by decide) rfl (pa_cons (pv 0) (pa_cons pe_int pa_nil))))
      (pss_cons (ps_if (PW.pt (pw_and (pt_cmpR op_lt (pv 5) pe_int (nomark _)) (pw_and1 (pt_cmpR op_gt (pv 2) pe_int (nomark _)))))
      (pss_one (ps_asg (pe_ix ix_list (pe_lst (pa_cons pe_bl (pa_cons pe_str (pa_cons pe_non (pa_cons (pe_tup (pa_cons pe_int pa_nil)) pa_nil))))) (pv 5) (fun _ _ => rfl)) (pg_sub (pv 3) (pe_c (ok_l_draw T) hr (by decide) rfl (pa_cons (pv 0) (pa_cons (pv 2) pa_nil))) set_list)))
      pss_nil)
      (pss_cons (ps_if (pt_cmpR op_eq (pv 5) pe_int (nomark _))
      (pss_one (ps_ret (pe_ix ix_list (pe_lst (pa_cons (pv 3) (pa_cons pe_str (pa_cons pe_non (pa_cons pe_int pa_nil))))) (pe_c (ok_l_draw T) hr (by decide) rfl (pa_cons (pv 0) (pa_cons pe_int pa_nil))) (fun _ _ => rfl))))
      pss_nil)
      (pss_one (ps_ret (pe_callTy call_tuple_of (by rfl) T.n_tuple (by decide +kernel) (pa_cons (pv 3) pa_nil))))))))), ?_⟩
    obtain ⟨hw, hn, q⟩ := h
    refine ⟨_, rfl, _, rfl, w, 8, rfl, hw, ⟨by decide, by decide⟩, fun r1 H1 a1 b1 f1 w1 => ⟨by show 2 ≤ sizeLine; decide, fun l hl => ?_⟩⟩
    have nw : w ≠ l := by obtain ⟨ws, _, z⟩ := w1; exact ne_of_none z hl
    refine ⟨_, rfl, w, 2, rfl, w1.upd nw, ⟨by decide, by decide⟩, fun r2 H2 a2 b2 f2 w2 => ?_⟩
    have hl2 : H2 l = some (.lst [.int (n : Nat), .int r1]) := f2.at (by simpa using nw.symm) upd_same
    have F2 : Frm [w] H H2 := f1.trans ((Frm.of_same (same_upd hl)).trans f2)
    have hc : ∃ c : Nat, c ≤ 10 ∧ atI [V.int (n : Nat), .int r1] r2 = some (V.int (c : Nat)) := by
      have hz : r2 = 0 ∨ r2 = 1 := by omega
      rcases hz with e | e
      · exact ⟨n, hn, at_of (j := 0) e rfl⟩
      · refine ⟨r1.toNat, by omega, ?_⟩
        rw [show ((r1.toNat : Nat) : Int) = r1 by omega]
        exact at_of (j := 1) e rfl
    obtain ⟨c, hc10, hat⟩ := hc
    refine ⟨l, _, _, _, rfl, rfl, SqL.of hl2, hat, ?_⟩
    refine s_name ?_
    refine ⟨_, rfl, ((c : Nat) : Int), rfl, by omega, by omega, fun D hD => lc_range (lo := 0) (n := ((c : Nat) : Int).toNat) (fun i H3 => Frm [w] H H3 ∧ WellAt H3 w ∧ D ≠ w ∧ ∃ zs : List Int, H3 D = some (.lst (zs.map V.int)) ∧ zs.length = i) ?_ ?_ ?_⟩
    · have nD : w ≠ D := by obtain ⟨ws, _, z⟩ := w2; exact ne_of_none z hD
      exact ⟨F2.trans (Frm.of_same (same_upd hD)), w2.upd nD, nD.symm, [], upd_same, rfl⟩
    · rintro i H3 hi ⟨f3, w3, nD, zs, hD3, hz⟩
      refine ⟨rfl, _, rfl, _, _, rfl, rfl, ⟨by decide, by decide, by decide⟩, _, _, rfl, rfl, .inl ⟨by decide, by decide⟩, _, _, rfl, rfl, w, _, rfl, w3, ⟨by decide, by decide⟩, fun r4 H4 a4 b4 f4 w4 => ?_⟩
      have hD4 : H4 D = some (.lst (zs.map V.int)) := f4.at (by simpa using nD) hD3
      refine ⟨_, _, rfl, rfl, ⟨by decide, by decide, by decide⟩, _, _, rfl, rfl, _, _, rfl, rfl, _, hD4, ?_, ?_⟩
      · rw [List.length_map]
        exact small1000 (by omega)
      · refine ⟨(f3.trans f4).upd (.inr ?_), w4.upd nD.symm, nD, zs ++ [_], by rw [upd_same, List.map_append]; rfl, by rw [List.length_append]; simp [hz]⟩
        exact F2.free hD (by simpa using nD)
    · rintro H3 ⟨f3, w3, nD, zs, hD3, hz⟩
      have hzc : zs.length = c := by omega
      refine s_name ?_
      refine ⟨_, rfl, w, 10, rfl, w3, ⟨by decide, by decide⟩, fun way H4 a4 b4 f4 w4 => ?_⟩
      have hD4 : H4 D = some (.lst (zs.map V.int)) := f4.at (by simpa using nD) hD3
      have F4 := f3.trans f4
      have fD : H D = none := F2.free hD (by simpa using nD)
      refine s_name ?_
      with_reducible refine seq_cut (fun σ' H' => ∃ (ys : List V) (ds : List PyData), σ' = [some (.ref w), some (.int (n : Nat)), some (.int (c : Nat)), some (.ref D), none, some (.int way)] ∧ Frm [w] H H' ∧ WellAt H' w ∧ H' D = some (.lst ys) ∧ DpAll K H' ys ds ∧ ds.length = c ∧ ∀ d ∈ ds, SmD d) ?_ (fun go => ?_)
      · rintro σ' H5 ⟨ys, ds, rfl, f5, w5, hD5, d5, hd5, sm5⟩
        refine ⟨_, rfl, rfl, _, rfl, ?_⟩
        rw [dec_int]
        by_cases h4 : way = 4
        · rw [show ((way : Int) == 4) = true from beq_iff_eq.mpr h4]
          refine iteT ?_
          refine ⟨_, rfl, by show 4 ≤ sizeLine; decide, fun l6 hl6 => ?_⟩
          have s6 := same_upd (o := .lst [.ref D, .str "row", .non, .int 7]) hl6
          have n6 : w ≠ l6 := by obtain ⟨ws, _, z⟩ := w5; exact ne_of_none z hl6
          refine ⟨_, rfl, w, 4, rfl, w5.same s6, ⟨by decide, by decide⟩, fun r7 H7 a7 b7 f7 w7 => ?_⟩
          have hl7 : H7 l6 = some (.lst [.ref D, .str "row", .non, .int 7]) := f7.at (by simpa using n6.symm) upd_same
          have hD7 : H7 D = some (.lst ys) := f7.at (by simpa using nD) (s6 _ _ hD5)
          have F7 := (f5.trans (Frm.of_same s6)).trans f7
          have hz : r7 = 0 ∨ r7 = 1 ∨ r7 = 2 ∨ r7 = 3 := by omega
          rcases hz with e | e | e | e
          · obtain ⟨k1, k2⟩ := smd_lst sm5 (by omega)
            exact ⟨l6, _, _, _, rfl, rfl, SqL.of hl7, at_of (j := 0) e rfl, q _ (.list ds) _ F7 w7 (.lst (SqL.of hD7) (DpAll.imm ((Imm.of_same s6).trans ((w5.same s6).imm f7)) _ _ (smd_tups sm5) d5)) k1 k2⟩
          · exact ⟨l6, _, _, _, rfl, rfl, SqL.of hl7, at_of (j := 1) e rfl, q _ (.str "row") _ F7 w7 (.str _) (by decide +kernel) (by decide +kernel)⟩
          · exact ⟨l6, _, _, _, rfl, rfl, SqL.of hl7, at_of (j := 2) e rfl, q _ .none _ F7 w7 .non rfl (by decide +kernel)⟩
          · exact ⟨l6, _, _, _, rfl, rfl, SqL.of hl7, at_of (j := 3) e rfl, q _ (.int 7) _ F7 w7 (.int _) rfl (by decide +kernel)⟩
        · rw [show ((way : Int) == 4) = false from beq_eq_false_iff_ne.mpr h4]
          refine iteF ?_
          refine ⟨_, rfl, D, ys, rfl, .inl ⟨SqL.of hD5, fun l6 hl6 => ?_⟩⟩
          have s6 := same_upd (o := .tup ys) hl6
          obtain ⟨k1, k2⟩ := smd_tup sm5 (by omega)
          exact q _ (.tuple ds) _ (f5.trans (Frm.of_same s6)) (w5.same s6) (.tup (SqT.of upd_same) (DpAll.samA s6 _ _ d5)) k1 k2
      · have base := go [some (.ref w), some (.int (n : Nat)), some (.int (c : Nat)), some (.ref D), none, some (.int way)] H4 ⟨zs.map V.int, zs.map .int, rfl, F4, w4, hD4, dpall_ints zs, by rw [List.length_map]; exact hzc, fun d hd => by obtain ⟨z, _, rfl⟩ := List.mem_map.mp hd; exact smd_int z⟩
        refine ⟨_, rfl, _, _, rfl, rfl, _, rfl, ?_⟩
        by_cases hw4 : way < 4
        · rw [decide_eq_true hw4]
          refine ⟨_, rfl, _, _, rfl, rfl, _, rfl, ?_⟩
          by_cases hc0 : (0 : Int) < (c : Nat)
          · rw [decide_eq_true hc0]
            refine iteT ?_
            refine ⟨by show 1 ≤ sizeLine; decide, fun lt hlt => ⟨by show 4 ≤ sizeLine; decide, fun l6 hl6 => ?_⟩⟩
            have s5 := same_upd (o := .tup [.int 7]) hlt
            have s6 := same_upd (o := .lst [.bl true, .str "7", .non, .ref lt]) hl6
            have s56 := s5.trans s6
            have hl7 := SqL.of (K := K) (upd_same (H := upd H4 lt (.tup [.int 7])) (a := l6) (o := .lst [.bl true, .str "7", .non, .ref lt]))
            have hv : ∃ (v : V) (d : PyData), atI [.bl true, .str "7", .non, .ref lt] way = some v ∧ SmD d ∧ Dp K (upd (upd H4 lt (.tup [.int 7])) l6 (.lst [.bl true, .str "7", .non, .ref lt])) v d := by
              have hz : way = 0 ∨ way = 1 ∨ way = 2 ∨ way = 3 := by omega
              rcases hz with e | e | e | e
              · exact ⟨_, .bool true, at_of (j := 0) e rfl, ⟨rfl, rfl, Nat.zero_le _, rfl⟩, .bl _⟩
              · exact ⟨_, .str "7", at_of (j := 1) e rfl, ⟨by decide +kernel, by decide +kernel, Nat.zero_le _, rfl⟩, .str _⟩
              · exact ⟨_, .none, at_of (j := 2) e rfl, ⟨rfl, rfl, Nat.zero_le _, rfl⟩, .non⟩
              · exact ⟨_, .tuple [.int 7], at_of (j := 3) e rfl, ⟨by decide +kernel, by decide +kernel, by decide +kernel, rfl⟩, .tup (SqT.of (s6 _ _ upd_same)) (.cons (.int _) .nil)⟩
            obtain ⟨v, d, hv1, smv, dv⟩ := hv
            refine ⟨_, rfl, l6, _, _, _, rfl, rfl, hl7, hv1, _, rfl, _, rfl, _, rfl, w, _, rfl, w4.same s56, ⟨hc0, ?_⟩, fun r8 H8 a8 b8 f8 w8 => ?_⟩
            · show (c : Nat).log2 < 9000
              exact Nat.lt_of_le_of_lt (Nat.log2_le_self c) (by omega)
            · have i8 := (w4.same s56).imm f8
              have hD8 : H8 D = some (.lst (zs.map V.int)) := f8.at (by simpa using nD) (s56 _ _ hD4)
              refine ⟨D, _, _, r8.toNat, rfl, rfl, hD8, ?_, ?_⟩
              · rw [List.length_map, hzc]
                have := ixN_nat (n := c) (j := r8.toNat) (by omega)
                rw [show ((r8.toNat : Nat) : Int) = r8 by omega] at this
                exact this
              · refine go _ _ ⟨_, (zs.map PyData.int).set r8.toNat d, rfl, ((F4.trans (Frm.of_same s56)).trans f8).upd (.inr fD), w8.upd nD.symm, upd_same, ?_, by rw [List.length_set, List.length_map]; exact hzc, fun x hx => ?_⟩
                · have iu : Imm H8 (upd H8 D (.lst ((zs.map V.int).set r8.toNat v))) := (Imm.refl H8).upd hD8 rfl
                  exact dpall_set _ (dpall_ints zs) (Dp.imm (i8.trans iu) _ _ smv.tp dv)
                · rcases List.mem_or_eq_of_mem_set hx with m | m
                  · obtain ⟨z, _, rfl⟩ := List.mem_map.mp m
                    exact smd_int z
                  · rw [m]; exact smv
          · rw [decide_eq_false hc0]
            exact base
        · rw [decide_eq_false hw4]
          exact base


/-- the k-th cell of the script, or 0 -/
def sp_cell (K : PySem.W.Frag) : Sp := fun vs H Q _ => ∃ (a : Addr) (k : Int) (ns : List Int), vs = [.ref a, .int k] ∧ SqL K H a (ns.map V.int) ∧ 0 ≤ k ∧ Q (.int (ns.getD k.toNat 0)) H

theorem ok_l_cell (T : Txt K mg Z) : Cal P w K mg base 1 "_law_cell" (sp_cell K) := by
  refine T.d_l_cell.cal sc_l_cell (fun vs H Q E h => ?_) (fun f cdv A outer s H vs Q E hr h => ?_)
  · obtain ⟨a, k, ns, rfl, _⟩ := h
    rfl
  · obtain ⟨a, k, ns, rfl, h⟩ := h
    refine ⟨_, (pss_cons (ps_if (pt_cmpR op_lt (pv 1) (pe_callB call_len (by rfl) T.n_len (by decide +kernel) (pa_cons (pv 0) pa_nil)) (nomark _))
      (pss_one (ps_ret (pe_ix ix_list (pv 0) (pv 1) (fun _ _ => rfl))))
      pss_nil)
      (pss_one (ps_ret pe_int))), ?_⟩
    obtain ⟨hS, h0, q⟩ := h
    refine ⟨_, rfl, _, rfl, V.ref a, (ns.map V.int).length, rfl, .inl ⟨_, hS, rfl⟩, _, _, rfl, rfl, _, rfl, ?_⟩
    refine ite2 (fun e => ?_) (fun e => ?_)
    · have e' := of_decide_eq_true e
      rw [List.length_map] at e'
      have hk : k.toNat < ns.length := by omega
      refine ⟨_, rfl, _, rfl, a, _, _, _, rfl, rfl, hS, at_of (j := k.toNat) (v := V.int (ns.getD k.toNat 0)) (by omega) ?_, q⟩
      rw [List.getElem?_map, List.getElem?_eq_getElem hk, List.getD_eq_getElem?_getD, List.getElem?_eq_getElem hk]
      rfl
    · have e' : ¬ (k < ((ns.map V.int).length : Int)) := fun z => e (decide_eq_true z)
      rw [List.length_map] at e'
      have : ns.getD k.toNat 0 = 0 := by
        rw [List.getD_eq_getElem?_getD, List.getElem?_eq_none (by omega)]
        rfl
      rw [this] at q
      exact q


def sp_well (K : PySem.W.Frag) : Sp := fun vs H Q _ => ∃ (a : Addr) (k : Int) (ns : List Int), vs = [.ref a, .int k] ∧ SqL K H a (ns.map V.int) ∧ 0 ≤ k ∧ ∀ p H', H p = none → Same H H' → WellAt H' p → Q (.ref p) H'

theorem ok_l_well (T : Txt K mg Z) : Cal P w K mg base 2 "_law_well" (sp_well K) := by
  refine T.d_l_well.cal sc_l_well (fun vs H Q E h => ?_) (fun f cdv A outer s H vs Q E hr h => ?_)
  · obtain ⟨a, k, ns, rfl, _⟩ := h
    rfl
  · obtain ⟨a, k, ns, rfl, h⟩ := h
    refine ⟨_, (pss_one (ps_ret (pe_lst (pa_cons (pe_op op_mod (pe_c (ok_l_cell T) hr (by decide) rfl (pa_cons (pv 0) (pa_cons pe_int pa_nil))) pe_int) (pa_cons (pe_c (ok_l_cell T) hr (by decide) rfl (pa_cons (pv 0) (pa_cons (pv 1) pa_nil))) (pa_cons pe_int (pa_cons (pe_op op_add (pe_c (ok_l_cell T) hr (by decide) rfl (pa_cons (pv 0) (pa_cons (pv 1) pa_nil))) (pv 1)) pa_nil))))))), ?_⟩
    obtain ⟨hS, h0, q⟩ := h
    refine ⟨_, rfl, a, 0, ns, rfl, hS, by decide, _, _, rfl, rfl, by show (0 : Int) < 2; decide, ?_⟩
    refine ⟨_, rfl, _, rfl, a, k, ns, rfl, hS, h0, _, rfl, _, rfl, a, k, ns, rfl, hS, h0, _, rfl, _, _, rfl, rfl, by show 4 ≤ sizeLine; decide, fun p hp => ?_⟩
    exact q p _ hp (same_upd hp) ⟨[_, _, _, _], rfl, upd_same⟩


abbrev tName (k : Int) : Str := "t" ++ Str.ofString (toString k)
abbrev colsOf (c : Nat) : List Str := (["a", "b", "c", "d", "e"] : List Str).take c
def tabsOf (cs : List Nat) : List (Str × (List Str × List Str)) := cs.mapIdx fun k c => (tName (k : Nat), (colsOf c, []))
theorem tabs_len (cs : List Nat) : (tabsOf cs).length = cs.length := by simp [tabsOf]
theorem tabs_snoc (cs : List Nat) (c : Nat) : tabsOf (cs ++ [c]) = tabsOf cs ++ [(tName (cs.length : Nat), (colsOf c, []))] := by simp [tabsOf, List.mapIdx_append]
theorem three {cs : List Nat} (h : cs.length ≤ 3) : cs = [] ∨ (∃ a, cs = [a]) ∨ (∃ a b, cs = [a, b]) ∨ ∃ a b c, cs = [a, b, c] := by
  match cs, h with
  | [], _ => exact .inl rfl
  | [a], _ => exact .inr (.inl ⟨a, rfl⟩)
  | [a, b], _ => exact .inr (.inr (.inl ⟨a, b, rfl⟩))
  | [a, b, c], _ => exact .inr (.inr (.inr ⟨a, b, c, rfl⟩))
  | _ :: _ :: _ :: _ :: _, h => simp at h
theorem names3 : [tName 0, tName 1, tName 2].Nodup ∧ isNameB (tName 0) = true ∧ isNameB (tName 1) = true ∧ isNameB (tName 2) = true ∧ ("absent" : Str) ∉ [tName 0, tName 1, tName 2] := by decide +kernel
theorem tabs_nd {cs : List Nat} (h : cs.length ≤ 3) : ((tabsOf cs).map (·.1)).Nodup := by
  have e : (tabsOf cs).map (·.1) = [tName 0, tName 1, tName 2].take cs.length := by
    rcases three h with rfl | ⟨a, rfl⟩ | ⟨a, b, rfl⟩ | ⟨a, b, c, rfl⟩ <;> rfl
  rw [e]
  exact names3.1.sublist (List.take_sublist _ _)
theorem pair_ok : ∀ c : Nat, 1 ≤ c → c ≤ 5 → pairD (pairOf (colsOf c, [])) = true := by
  intro c h1 h2
  have : ∀ c : Fin 6, 1 ≤ c.val → pairD (pairOf (colsOf c.val, [])) = true := by decide +kernel
  exact this ⟨c, by omega⟩ h1
theorem tabs_good {cs : List Nat} (h1 : 1 ≤ cs.length) (h : cs.length ≤ 3) (hc : ∀ c ∈ cs, 1 ≤ c ∧ c ≤ 5) : goodTabs ((tabsOf cs).map fun t => (t.1, pairOf t.2)) = true := by
  obtain ⟨_, n0, n1, n2, _⟩ := names3
  rcases three h with rfl | ⟨a, rfl⟩ | ⟨a, b, rfl⟩ | ⟨a, b, c, rfl⟩
  · simp at h1
  · have ha := hc a (by simp)
    show (decide (1 ≤ 1) && decide (1 ≤ 5) && ((isNameB (tName 0) && pairD (pairOf (colsOf a, []))) && true)) = true
    rw [n0, pair_ok a ha.1 ha.2]; rfl
  · have ha := hc a (by simp); have hb := hc b (by simp)
    show (decide (1 ≤ 2) && decide (2 ≤ 5) && ((isNameB (tName 0) && pairD (pairOf (colsOf a, []))) && ((isNameB (tName 1) && pairD (pairOf (colsOf b, []))) && true))) = true
    rw [n0, n1, pair_ok a ha.1 ha.2, pair_ok b hb.1 hb.2]; rfl
  · have ha := hc a (by simp); have hb := hc b (by simp); have hd := hc c (by simp)
    show (decide (1 ≤ 3) && decide (3 ≤ 5) && ((isNameB (tName 0) && pairD (pairOf (colsOf a, []))) && ((isNameB (tName 1) && pairD (pairOf (colsOf b, []))) && ((isNameB (tName 2) && pairD (pairOf (colsOf c, []))) && true)))) = true
    rw [n0, n1, n2, pair_ok a ha.1 ha.2, pair_ok b hb.1 hb.2, pair_ok c hd.1 hd.2]; rfl
theorem tfind_of {tbs : List (Str × (List Str × List Str))} (nd : (tbs.map (·.1)).Nodup) : ∀ {i : Nat} {x : Str} {t : List Str × List Str}, tbs[i]? = some (x, t) → tfind tbs x = some t := by
  induction tbs with
  | nil => intro i x t h; simp at h
  | cons u tbs ih =>
    intro i x t h
    obtain ⟨n1, n2⟩ := List.nodup_cons.mp nd
    cases i with
    | zero => simp at h; subst h; simp [tfind]
    | succ i =>
      have h' : tbs[i]? = some (x, t) := by simpa using h
      have : ¬ u.1 = x := fun z => n1 (List.mem_map.mpr ⟨(x, t), List.mem_of_getElem? h', z.symm⟩)
      have e : tfind (u :: tbs) x = tfind tbs x := by simp [tfind, this]
      rw [e]
      exact ih n2 h'
theorem tfind_no : ∀ {tbs : List (Str × (List Str × List Str))} {x : Str}, x ∉ tbs.map (·.1) → tfind tbs x = none
  | [], _, _ => rfl
  | u :: tbs, x, h => by
    have h1 : ¬ u.1 = x := fun z => h (by simp [z])
    have e : tfind (u :: tbs) x = tfind tbs x := by simp [tfind, h1]
    rw [e]
    exact tfind_no fun z => h (by simp only [List.map_cons, List.mem_cons]; exact .inr z)
theorem tabs_find {cs : List Nat} (h : cs.length ≤ 3) {k c : Nat} (hk : cs[k]? = some c) : tfind (tabsOf cs) (tName (k : Nat)) = some (colsOf c, []) := by
  refine tfind_of (tabs_nd h) (i := k) ?_
  unfold tabsOf
  rw [List.getElem?_mapIdx, hk]
  rfl
theorem tabs_absent {cs : List Nat} (h : cs.length ≤ 3) : tfind (tabsOf cs) "absent" = none := by
  refine tfind_no ?_
  have e : (tabsOf cs).map (·.1) = [tName 0, tName 1, tName 2].take cs.length := by
    rcases three h with rfl | ⟨a, rfl⟩ | ⟨a, b, rfl⟩ | ⟨a, b, c, rfl⟩ <;> rfl
  rw [e]
  exact fun z => names3.2.2.2.2 (List.mem_of_mem_take z)
theorem cols_len {c : Nat} (h : c ≤ 5) : (colsOf c).length = c := by simp [colsOf]; omega
theorem tabs_sz {cs : List Nat} : ∀ t ∈ tabsOf cs, t.2.1.length ≤ 1000 := by
  intro t ht
  obtain ⟨i, hi, e⟩ := List.mem_mapIdx.mp ht
  rw [← e]
  show (List.take _ _).length ≤ 1000
  rw [List.length_take]
  show min _ 5 ≤ 1000
  omega
theorem oks_strs : ∀ xs : List Str, (∀ x ∈ xs, x.length ≤ 1000) → okDs (xs.map .str) = true
  | [], _ => rfl
  | x :: xs, h => by simp [okDs, okD, h x (by simp), oks_strs xs fun y m => h y (by simp [m])]
theorem tabs_ok {cs : List Nat} (h : cs.length ≤ 3) : ∀ t ∈ (tabsOf cs).map (fun t => (t.1, pairOf t.2)), okD (.str t.1) = true ∧ okD t.2 = true ∧ tupD t.2 = true := by
  intro t ht
  obtain ⟨u, hu, rfl⟩ := List.mem_map.mp ht
  obtain ⟨i, hi, e⟩ := List.mem_mapIdx.mp hu
  rw [← e]
  refine ⟨?_, ?_, pairOf_tup _⟩
  · have : i = 0 ∨ i = 1 ∨ i = 2 := by omega
    have h3 : okD (.str (tName 0)) = true ∧ okD (.str (tName 1)) = true ∧ okD (.str (tName 2)) = true := by decide +kernel
    rcases this with rfl | rfl | rfl
    · exact h3.1
    · exact h3.2.1
    · exact h3.2.2
  · have hs : ∀ x ∈ (["a", "b", "c", "d", "e"] : List Str), x.length ≤ 1000 := by decide +kernel
    have h1 := oks_strs (colsOf cs[i]) fun x m => hs x (List.mem_of_mem_take m)
    have h2 : (colsOf cs[i]).length ≤ 1000 := by rw [List.length_take]; show min _ 5 ≤ 1000; omega
    show okD (.tuple [.tuple ((colsOf cs[i]).map .str), .tuple []]) = true
    simp only [okD, okDs, List.length_map, h1, decide_eq_true h2]
    rfl
def sp_law (K : PySem.W.Frag) : Sp := fun vs H Q _ => ∃ (a : Addr) (ns : List Int), vs = [.ref a] ∧ SqL K H a (ns.map V.int) ∧ ns.length ≤ 63 ∧ (∀ z ∈ ns, Builtin.Int.intBits z ≤ 1048576) ∧ ∀ H', Q (.bl true) H'

theorem ok_law {f : Addr} {fd : FuncData} (T : Txt K mg Z) (F : Fun K "law" "law" s_law f fd) : FnOk P w K mg base (L2.CX P w) 7 f fd ["_law_script"] (sp_law K) := by
  refine F.okX sc_law (fun vs H Q E h => ?_) (fun cdv A outer s H vs Q E hr h => ?_)
  · obtain ⟨a, ns, rfl, _⟩ := h
    rfl
  · obtain ⟨a, ns, rfl, h⟩ := h
    refine ⟨_, (pss_cons (ps_set (i := 1) sc_law.nd rfl (Or.inr rfl) (pe_c (ok_l_well T) hr (by decide) rfl (pa_cons (pv 0) (pa_cons pe_int pa_nil))))
      (pss_cons (ps_set (i := 2) sc_law.nd rfl (Or.inr rfl) (pe_lc (own := [("_law_k", 3)]) (g := gName 3) (tt := tYes) (by rfl) sc_law.nd (pi_range1 rfl T.n_range (pa_cons (pe_op op_add pe_int (pe_c (ok_l_draw T) hr (by decide) rfl (pa_cons (pv 1) (pa_cons pe_int pa_nil)))) pa_nil)) (blkOk_by (own := [("_law_k", 3)]) (N := N_law) (sc := defScope s_law) (by decide +kernel)) (fun _ _ _ _ _ => pg_name (i := 3) sc_law.nd rfl (Or.inl rfl)) (fun _ _ _ _ _ => pts_nil) (fun _ _ _ _ _ => (pe_op op_add pe_int (pe_c (ok_l_draw T) hr (by decide) rfl (pa_cons (pv 1) (pa_cons pe_int pa_nil)))))))
      (pss_cons (ps_set (i := 4) sc_law.nd rfl (Or.inl rfl) (pe_callTy (call_dictP rfl) (by rfl) T.n_dict (by decide +kernel) (pa_cons (pe_lc (own := [("_law_k", 3)]) (g := gName 3) (tt := tYes) (by rfl) sc_law.nd (pi_range1 rfl T.n_range (pa_cons (pe_callB call_len (by rfl) T.n_len (by decide +kernel) (pa_cons (pv 2) pa_nil)) pa_nil)) (blkOk_by (own := [("_law_k", 3)]) (N := N_law) (sc := defScope s_law) (by decide +kernel)) (fun _ _ _ _ _ => pg_name (i := 3) sc_law.nd rfl (Or.inl rfl)) (fun _ _ _ _ _ => pts_nil) (fun _ _ _ _ _ => (pe_tup (pa_cons (pe_op op_add_str pe_str (pe_callTy call_str_int (by rfl) T.n_str (by decide +kernel) (pa_cons (pv 3) pa_nil))) (pa_cons (pe_tup (pa_cons (pe_slice (kx_sl (F := rSlA) (K := K) rfl sl_tupA) (pe_tup (pa_cons pe_str (pa_cons pe_str (pa_cons pe_str (pa_cons pe_str (pa_cons pe_str pa_nil)))))) po_none (po_some (pe_ix (kx_ix (F := rIxL) (K := K) rfl ix_list) (pv 2) (pv 3) (fun _ _ => rfl)))) (pa_cons (pe_tup pa_nil) pa_nil))) pa_nil))))) pa_nil)))
      (pss_cons (ps_set (i := 5) sc_law.nd rfl (Or.inl rfl) (pe_mkG (ok_Schema___init T) hr (by decide) rfl pass00 (pa_cons (pv 4) pa_nil)))
      (pss_cons (ps_for (passes_of rfl) rfl (pi_range1 rfl T.n_range (pa_cons (pe_callB call_len (by rfl) T.n_len (by decide +kernel) (pa_cons (pv 2) pa_nil)) pa_nil)) (pg_name (i := 3) sc_law.nd rfl (Or.inl rfl))
      (pss_one (ps_for (passes_of rfl) rfl (pi_range1 rfl T.n_range (pa_cons pe_int pa_nil)) (pg_name (i := 6) sc_law.nd rfl (Or.inl rfl))
        (pss_cons (ps_set (i := 7) sc_law.nd rfl (Or.inl rfl) (pe_c (ok_l_thing T) hr (by decide) rfl (pa_cons (pe_c (ok_l_well T) hr (by decide) rfl (pa_cons (pv 0) (pa_cons (pe_op op_add (pe_op op_add pe_int (pe_op op_mul pe_int (pv 3))) (pv 6)) pa_nil))) (pa_cons (pe_ix ix_list (pv 2) (pv 3) (fun _ _ => rfl)) pa_nil))))
          (pss_cons (ps_set (i := 8) sc_law.nd rfl (Or.inl rfl) (pe_mtG (ok_Schema_is_row T) hr (by decide) pass00 (pv 5) (pa_cons (pe_op op_add_str pe_str (pe_callTy call_str_int (by rfl) T.n_str (by decide +kernel) (pa_cons (pv 3) pa_nil))) (pa_cons (pv 7) pa_nil))))
          (pss_cons (ps_if (PW.pt (pw_or (pt_not (pt_val (pe_callB call_isi (by rfl) T.n_isinstance (by decide +kernel) (pa_cons (pv 8) (pa_cons (pe_bltn (v := .ty "bool") (by rfl) T.n_bool (by decide +kernel) rfl) pa_nil))))) (pw_or1 (pt_cmpR op_ne (pv 8) (pe_c (ok_l_good T) hr (by decide) rfl (pa_cons (pv 7) (pa_cons (pe_ix ix_list (pv 2) (pv 3) (fun _ _ => rfl)) pa_nil))) (nomark _)))))
          (pss_one (ps_ret pe_bl))
          pss_nil)
          (pss_one (ps_if (pt_not (pt_val (pe_c (ok_l_refused T) hr (by decide) rfl (pa_cons (pv 5) (pa_cons (pv 7) pa_nil)))))
          (pss_one (ps_ret pe_bl))
          pss_nil))))))))
      (pss_one (ps_ret pe_bl))))))), ?_⟩
    obtain ⟨hS, hlen, _, q⟩ := h
    refine ⟨_, rfl, a, 1, ns, rfl, hS, by decide, fun w H1 hw s1 w1 => ?_⟩
    refine s_name ?_
    -- how many columns each table has
    refine ⟨_, rfl, w, 3, rfl, w1, ⟨by decide, by decide⟩, fun r2 H2 a2 b2 f2 w2 => ⟨_, _, rfl, rfl, _, rfl, by omega, by omega, fun L hL => lc_range (lo := 0) (n := (1 + r2).toNat) (fun i H3 => Same H H3 ∧ WellAt H3 w ∧ L ≠ w ∧ ∃ cs : List Nat, H3 L = some (.lst (cs.map fun (c : Nat) => V.int (c : Nat))) ∧ cs.length = i ∧ ∀ c ∈ cs, 1 ≤ c ∧ c ≤ 5) ?_ ?_ ?_⟩⟩
    · have nD : w ≠ L := by obtain ⟨ws, _, z⟩ := w2; exact ne_of_none z hL
      exact ⟨(Same.frm s1 f2 (by simpa using hw)).trans (same_upd hL), w2.upd nD, nD.symm, [], upd_same, rfl, by simp⟩
    · rintro i H3 hi ⟨s3, w3, nL, cs, hL3, hc3, hb3⟩
      refine ⟨rfl, _, rfl, w, 5, rfl, w3, ⟨by decide, by decide⟩, fun r4 H4 a4 b4 f4 w4 => ?_⟩
      have hL4 : H4 L = some (.lst (cs.map fun (c : Nat) => V.int (c : Nat))) := f4.at (by simpa using nL) hL3
      have s4 := Same.frm s3 f4 (by simpa using hw)
      refine ⟨_, _, rfl, rfl, _, hL4, ?_, ?_⟩
      · rw [List.length_map]
        exact small1000 (by omega)
      · have hHL : H L = none := (Same.frm s1 f2 (by simpa using hw)).free hL
        refine ⟨fun b o e => by rw [upd_ne (ne_of_none e hHL)]; exact s4 b o e, w4.upd nL.symm, nL, cs ++ [(1 + r4).toNat], ?_, by rw [List.length_append]; simp [hc3], fun c hc => ?_⟩
        · rw [upd_same, List.map_append]
          show some (HO.lst (_ ++ [V.int (1 + r4)])) = some (HO.lst (_ ++ [V.int (((1 + r4).toNat : Nat) : Int)]))
          rw [show (((1 + r4).toNat : Nat) : Int) = 1 + r4 by omega]
        · rcases List.mem_append.mp hc with m | m
          · exact hb3 c m
          · have : c = (1 + r4).toNat := by simpa using m
            omega
    rintro H3 ⟨s3, w3, nL, cs, hL3, hc3, hb3⟩
    have hm1 : 1 ≤ cs.length := by omega
    have hm3 : cs.length ≤ 3 := by omega
    refine s_name ?_
    refine ⟨_, rfl, _, _, rfl, .inl ⟨_, SqL.of hL3, rfl⟩, _, rfl, by rw [List.length_map]; omega, by rw [List.length_map]; omega, fun D hD => lc_range (lo := 0) (n := _) (fun i H5 => Same H3 H5 ∧ ∃ (ps : List Addr) (kvs : List (Key × V)), H5 D = some (.lst (ps.map V.ref)) ∧ ps.length = i ∧ Paired (fun p (kv : Key × V) => SqT K H5 p [kV kv.1, kv.2]) ps kvs ∧ TabV K H5 kvs ((tabsOf (cs.take i)).map fun t => (t.1, pairOf t.2))) ⟨same_upd hD, [], [], upd_same, rfl, .nil, .nil⟩ ?_ ?_⟩
    · rintro i H5 hi ⟨s5, ps, kvs, hD5, hp5, P5, T5⟩
      have hic : i < cs.length := by rw [List.length_map] at hi; omega
      have gi : cs[i]? = some cs[i] := List.getElem?_eq_getElem hic
      have gm : (cs.map fun (c : Nat) => V.int (c : Nat))[i]? = some (V.int (cs[i] : Nat)) := by rw [List.getElem?_map, gi]; rfl
      have hb := hb3 cs[i] (List.getElem_mem hic)
      have hL5 := s5 _ _ hL3
      have ez : (0 : Int) + (i : Nat) = (i : Nat) := by omega
      rw [ez]
      refine ⟨rfl, _, rfl, _, rfl, ?_, _, _, rfl, rfl, ?_, by show 5 ≤ sizeLine; decide, fun t5 ht5 => ?_⟩
      · show (i : Nat).log2 < 1920
        exact Nat.lt_of_le_of_lt (Nat.log2_le_self i) (by omega)
      · have : i = 0 ∨ i = 1 ∨ i = 2 := by omega
        rcases this with rfl | rfl | rfl <;> decide +kernel
      have s6 := same_upd (o := .tup [.str "a", .str "b", .str "c", .str "d", .str "e"]) ht5
      have step : ∀ (p : Addr) (H7 : Hp), Same H5 H7 → SqT K H7 p ((colsOf cs[i]).map V.str) → ∀ t0, H7 t0 = none → ∀ t1, (upd H7 t0 (.tup [])) t1 = none → ∀ t2, (upd (upd H7 t0 (.tup [])) t1 (.tup [.ref p, .ref t0])) t2 = none → ∃ acc, (upd (upd (upd H7 t0 (.tup [])) t1 (.tup [.ref p, .ref t0])) t2 (.tup [.str (tName (i : Nat)), .ref t1])) D = some (.lst acc) ∧ acc.length < sizeLine ∧
          (Same H3 (upd (upd (upd (upd H7 t0 (.tup [])) t1 (.tup [.ref p, .ref t0])) t2 (.tup [.str (tName (i : Nat)), .ref t1])) D (.lst (acc ++ [.ref t2]))) ∧ ∃ (ps : List Addr) (kvs : List (Key × V)), (upd (upd (upd (upd H7 t0 (.tup [])) t1 (.tup [.ref p, .ref t0])) t2 (.tup [.str (tName (i : Nat)), .ref t1])) D (.lst (acc ++ [.ref t2]))) D = some (.lst (ps.map V.ref)) ∧ ps.length = i + 1 ∧ Paired (fun pp (kv : Key × V) => SqT K (upd (upd (upd (upd H7 t0 (.tup [])) t1 (.tup [.ref p, .ref t0])) t2 (.tup [.str (tName (i : Nat)), .ref t1])) D (.lst (acc ++ [.ref t2]))) pp [kV kv.1, kv.2]) ps kvs ∧ TabV K (upd (upd (upd (upd H7 t0 (.tup [])) t1 (.tup [.ref p, .ref t0])) t2 (.tup [.str (tName (i : Nat)), .ref t1])) D (.lst (acc ++ [.ref t2]))) kvs ((tabsOf (cs.take (i + 1))).map fun t => (t.1, pairOf t.2))) := by
        intro p H7 s7 hp t0 ht0 t1 ht1 t2 ht2
        have r0 := same_upd (o := .tup []) ht0
        have r1 := same_upd (o := .tup [.ref p, .ref t0]) ht1
        have r2 := same_upd (o := .tup [.str (tName (i : Nat)), .ref t1]) ht2
        have r := (r0.trans r1).trans r2
        have hD8 := r _ _ (s7 _ _ hD5)
        have iu := (Imm.refl _).upd (o := .lst (ps.map V.ref ++ [V.ref t2])) hD8 rfl
        have i8 := (Imm.of_same (s7.trans r)).trans iu
        refine ⟨_, hD8, by rw [List.length_map]; exact small1000 (by omega), ?_, ps ++ [t2], kvs ++ [(Sum.inr (tName (i : Nat)), .ref t1)], by rw [upd_same, List.map_append]; rfl, by rw [List.length_append, hp5]; rfl, ?_, ?_⟩
        · have hD0 : H3 D = none := hD
          exact fun b o e => by rw [upd_ne (ne_of_none e hD0)]; exact (s5.trans (s7.trans r)) b o e
        · exact paired_app (L2.Paired.mapP P5 fun _ _ h => i8.sqT h) (.cons (iu.sqT (SqT.of upd_same)) .nil)
        · rw [List.take_add_one, gi]
          show TabV K _ _ ((tabsOf (cs.take i ++ [cs[i]])).map _)
          rw [tabs_snoc, List.map_append, List.length_take, Nat.min_eq_left (by omega)]
          refine paired_app (TabV.imm i8 (fun t ht => ?_) T5) (.cons ⟨rfl, ?_⟩ .nil)
          · obtain ⟨u, _, rfl⟩ := List.mem_map.mp ht
            exact pairOf_tup _
          · refine .tup (iu.sqT (SqT.of (r2 _ _ upd_same))) (.cons (.tup ((Imm.of_same r).trans iu |>.sqT hp) (dpall_str _)) (.cons (.tup (iu.sqT (SqT.of ((r1.trans r2) _ _ upd_same))) .nil) .nil))
      refine ⟨_, rfl, _, rfl, L, _, _, _, rfl, rfl, SqL.of (s6 _ _ hL5), at_of rfl gm, _, rfl, t5, _, rfl, SqT.of upd_same, fun hh => ?_, fun hh p7 hp7 => ?_⟩
      · have e5 : colsOf cs[i] = (["a", "b", "c", "d", "e"] : List Str) := by
          have := hh.2
          rw [HT.sIx_nat] at this
          have : min cs[i] 5 = 5 := this
          rw [show cs[i] = 5 by omega]
          rfl
        exact ⟨by show 0 ≤ sizeLine; decide, fun t0 ht0 => ⟨by show 2 ≤ sizeLine; decide, fun t1 ht1 => ⟨by show 2 ≤ sizeLine; decide, fun t2 ht2 => step t5 _ s6 (by rw [e5]; exact SqT.of upd_same) t0 ht0 t1 ht1 t2 ht2⟩⟩⟩
      · have ec : cutV [.str "a", .str "b", .str "c", .str "d", .str "e"] none (some ((cs[i] : Nat) : Int)) = (colsOf cs[i]).map V.str := by
          unfold cutV
          rw [HT.sIx_none, HT.sIx_nat, List.drop_zero, Nat.sub_zero, List.map_take]
          show List.take (min cs[i] 5) _ = _
          rw [Nat.min_eq_left (by omega)]
          rfl
        rw [ec]
        exact ⟨by show 0 ≤ sizeLine; decide, fun t0 ht0 => ⟨by show 2 ≤ sizeLine; decide, fun t1 ht1 => ⟨by show 2 ≤ sizeLine; decide, fun t2 ht2 => step p7 _ (s6.trans (same_upd hp7)) (SqT.of upd_same) t0 ht0 t1 ht1 t2 ht2⟩⟩⟩
    rintro H5 ⟨s5, ps, kvs, hD5, hp5, P5, T5⟩
    rw [List.length_map] at T5
    have T5 : TabV K H5 kvs ((tabsOf cs).map fun t => (t.1, pairOf t.2)) := by
      have e : (((cs.length : Nat) : Int)).toNat = cs.length := by omega
      rw [e, List.take_length] at T5
      exact T5
    have nd : (((tabsOf cs).map fun t => (t.1, pairOf t.2)).map (·.1)).Nodup := by
      rw [List.map_map]
      exact tabs_nd hm3
    refine ⟨D, ps, kvs, rfl, SqL.of hD5, P5, fun tb htb => ?_⟩
    rw [TabV.merge T5 nd]
    have s6 := same_upd (o := .dK kvs) htb
    refine s_name ?_
    refine ⟨_, rfl, fun x dx nx ndx ne => ?_⟩
    have r1 : Same (upd H5 tb (.dK kvs)) (upd (upd (upd H5 tb (.dK kvs)) dx (.own x)) x (.ins Z.C_Schema dx [])) := (same_upd ndx).trans (same_upd (by rw [upd_ne ne.symm]; exact nx))
    have T6 := TabV.same (s6.trans r1) T5
    refine ⟨x, tb, dx, kvs, (tabsOf cs).map (fun (t : Str × (List Str × List Str)) => (t.1, pairOf t.2)), rfl, upd_same, r1 _ _ upd_same, T6, nd, tabs_ok hm3, fun _ q1 H7 hq1 f7 i7 h7 hq7 => ⟨rfl, ?_⟩, fun z => by rw [tabs_good hm1 hm3 hb3] at z; cases z⟩
    have hx3 : H3 x = none := (s5.trans s6).free nx
    have s7 : Same H3 H7 := Same.frm ((s5.trans s6).trans r1) f7 (by simpa using hx3)
    have S7 : SchemaAt K Z.C_Schema H7 x (tabsOf cs) := ⟨dx, q1, kvs, h7, hq7, TabV.imm i7 (fun t ht => (tabs_ok hm3 t ht).2.2) (TabV.same (s6.trans r1) T5)⟩
    have hL7 := s7 _ _ hL3
    have hS7 := (s3.trans s7).seq hS
    refine s_name ?_
    refine ⟨_, rfl, _, _, rfl, .inl ⟨_, SqL.of hL7, rfl⟩, _, rfl, by rw [List.length_map]; omega, by rw [List.length_map]; omega, ?_⟩
    refine for_range (fun i σ H8 => ∃ (o3 o6 o7 o8 : Option V), σ = [some (.ref a), some (.ref w), some (.ref L), o3, some (.ref tb), some (.ref x), o6, o7, o8] ∧ Same H7 H8) ⟨_, _, _, _, rfl, Same.refl _⟩ ?_ ?_
    · rintro i σ H8 hi ⟨o3, o6, o7, o8, rfl, s8⟩
      have hic : i < cs.length := by rw [List.length_map] at hi; omega
      have gi : cs[i]? = some cs[i] := List.getElem?_eq_getElem hic
      have gm : (cs.map fun (c : Nat) => V.int (c : Nat))[i]? = some (V.int (cs[i] : Nat)) := by rw [List.getElem?_map, gi]; rfl
      have hb := hb3 cs[i] (List.getElem_mem hic)
      have ez : (0 : Int) + (i : Nat) = (i : Nat) := by omega
      rw [ez]
      refine ⟨3, rfl, by decide, by decide, ?_⟩
      refine for_range (fun j σ H9 => ∃ (o6 o7 o8 : Option V), σ = [some (.ref a), some (.ref w), some (.ref L), some (.int (i : Nat)), some (.ref tb), some (.ref x), o6, o7, o8] ∧ Same H7 H9) ⟨_, _, _, rfl, s8⟩ ?_ ?_
      · rintro j σ H9 hj ⟨p6, p7, p8, rfl, s9⟩
        have hj3 : j < 3 := hj
        refine ⟨_, rfl, _, rfl, _, _, rfl, rfl, .inl ⟨by decide, by decide⟩, _, _, rfl, rfl, _, rfl, _, _, rfl, rfl, a, _, ns, rfl, s9.seq hS7, by omega, fun wl H10 hw10 s10 w10 => ?_⟩
        have fw : H7 wl = none := s9.free hw10
        refine ⟨_, rfl, _, rfl, L, _, _, _, rfl, rfl, SqL.of ((s9.trans s10) _ _ hL7), at_of rfl gm, wl, cs[i], rfl, w10, by omega, fun v d H11 f11 w11 dv okv shv => ?_⟩
        have s11 : Same H7 H11 := Same.frm (s9.trans s10) f11 (by simpa using fw)
        have S11 := S7.same s11
        refine s_name ?_
        refine ⟨_, rfl, x, dx, _, rfl, s11 _ _ h7, rfl, _, rfl, _, rfl, ?_, _, _, rfl, rfl, ?_, _, rfl, x, _, v, d, tabsOf cs, rfl, S11, dv, okv, tabs_sz, (fun z => by rw [tabs_find hm3 gi] at z; cases z), fun t H12 et s12 => ?_⟩
        · show (i : Nat).log2 < 1920
          exact Nat.lt_of_le_of_lt (Nat.log2_le_self i) (by omega)
        · have : i = 0 ∨ i = 1 ∨ i = 2 := by omega
          rcases this with rfl | rfl | rfl <;> decide +kernel
        rw [tabs_find hm3 gi] at et
        cases et
        have S12 := S11.same s12
        have dv12 := Dp.samA s12 _ _ dv
        rw [cols_len hb.2]
        refine s_name ?_
        refine ⟨_, rfl, _, _, _, _, true, rfl, .ty "bool", .base (.bl _), kit_ty (by decide +kernel), _, rfl, iteF ?_⟩
        refine ⟨_, rfl, _, rfl, _, rfl, _, rfl, L, _, _, _, rfl, rfl, SqL.of ((s11.trans s12) _ _ hL7), at_of rfl gm, v, cs[i], d, rfl, dv12, okv, shv, fun H13 s13 => ⟨rfl, _, rfl, ?_⟩⟩
        rw [decide_eq_true rfl]
        refine iteF ?_
        refine ⟨_, rfl, _, rfl, x, v, d, tabsOf cs, rfl, S12.same s13, Dp.samA s13 _ _ dv12, okv, tabs_sz, tabs_absent hm3, fun H14 s14 => ⟨_, rfl, iteF ?_⟩⟩
        exact ⟨_, _, _, rfl, ((s11.trans s12).trans s13).trans s14⟩
      · rintro σ H9 ⟨p6, p7, p8, rfl, s9⟩
        exact ⟨_, _, _, _, rfl, s9⟩
    · rintro σ H8 ⟨o3, o6, o7, o8, rfl, s8⟩
      exact q _


end

theorem all_mk {l : PySem.W.OpenLaw} {w : World} {K : PySem.W.Frag} {h : Heap} {mg : Str → Option Value} {fa : Addr} {cd_LedgerError cd_NoSchema cd_NoTable cd_NoRow cd_Schema ad_RESERVED : Addr} (X : K.In h) (G : h.Ns mainGlobals mg) (hfa : mg "law" = some (.ref fa))
    {od_is_name an_is_name : Option Addr} {sl_is_name : Array (Option Value)} {oc_is_name kV_is_name dc_is_name pm_is_name cd_is_name ct_is_name : Value} {f_is_name : Addr}
    {od_are_names an_are_names : Option Addr} {sl_are_names : Array (Option Value)} {oc_are_names kV_are_names dc_are_names pm_are_names cd_are_names ct_are_names : Value} {f_are_names : Addr}
    {od_are_columns an_are_columns : Option Addr} {sl_are_columns : Array (Option Value)} {oc_are_columns kV_are_columns dc_are_columns pm_are_columns cd_are_columns ct_are_columns : Value} {f_are_columns : Addr}
    {od_is_pair an_is_pair : Option Addr} {sl_is_pair : Array (Option Value)} {oc_is_pair kV_is_pair dc_is_pair pm_is_pair cd_is_pair ct_is_pair : Value} {f_is_pair : Addr}
    {od_Schema___init an_Schema___init : Option Addr} {sl_Schema___init : Array (Option Value)} {oc_Schema___init kV_Schema___init dc_Schema___init pm_Schema___init cd_Schema___init ct_Schema___init : Value} {f_Schema___init : Addr}
    {od_Schema_pair an_Schema_pair : Option Addr} {sl_Schema_pair : Array (Option Value)} {oc_Schema_pair kV_Schema_pair dc_Schema_pair pm_Schema_pair cd_Schema_pair ct_Schema_pair : Value} {f_Schema_pair : Addr}
    {od_Schema_columns an_Schema_columns : Option Addr} {sl_Schema_columns : Array (Option Value)} {oc_Schema_columns kV_Schema_columns dc_Schema_columns pm_Schema_columns cd_Schema_columns ct_Schema_columns : Value} {f_Schema_columns : Addr}
    {od_is_whole an_is_whole : Option Addr} {sl_is_whole : Array (Option Value)} {oc_is_whole kV_is_whole dc_is_whole pm_is_whole cd_is_whole ct_is_whole : Value} {f_is_whole : Addr}
    {od_Schema_is_row an_Schema_is_row : Option Addr} {sl_Schema_is_row : Array (Option Value)} {oc_Schema_is_row kV_Schema_is_row dc_Schema_is_row pm_Schema_is_row cd_Schema_is_row ct_Schema_is_row : Value} {f_Schema_is_row : Addr}
    {od_l_mixed an_l_mixed : Option Addr} {sl_l_mixed : Array (Option Value)} {oc_l_mixed kV_l_mixed dc_l_mixed pm_l_mixed cd_l_mixed ct_l_mixed : Value} {f_l_mixed : Addr}
    {od_l_twice an_l_twice : Option Addr} {sl_l_twice : Array (Option Value)} {oc_l_twice kV_l_twice dc_l_twice pm_l_twice cd_l_twice ct_l_twice : Value} {f_l_twice : Addr}
    {od_l_draw an_l_draw : Option Addr} {sl_l_draw : Array (Option Value)} {oc_l_draw kV_l_draw dc_l_draw pm_l_draw cd_l_draw ct_l_draw : Value} {f_l_draw : Addr}
    {od_l_good an_l_good : Option Addr} {sl_l_good : Array (Option Value)} {oc_l_good kV_l_good dc_l_good pm_l_good cd_l_good ct_l_good : Value} {f_l_good : Addr}
    {od_l_refused an_l_refused : Option Addr} {sl_l_refused : Array (Option Value)} {oc_l_refused kV_l_refused dc_l_refused pm_l_refused cd_l_refused ct_l_refused : Value} {f_l_refused : Addr}
    {od_l_thing an_l_thing : Option Addr} {sl_l_thing : Array (Option Value)} {oc_l_thing kV_l_thing dc_l_thing pm_l_thing cd_l_thing ct_l_thing : Value} {f_l_thing : Addr}
    {od_l_cell an_l_cell : Option Addr} {sl_l_cell : Array (Option Value)} {oc_l_cell kV_l_cell dc_l_cell pm_l_cell cd_l_cell ct_l_cell : Value} {f_l_cell : Addr}
    {od_l_well an_l_well : Option Addr} {sl_l_well : Array (Option Value)} {oc_l_well kV_l_well dc_l_well pm_l_well cd_l_well ct_l_well : Value} {f_l_well : Addr}
    {od_law an_law : Option Addr} {sl_law : Array (Option Value)} {oc_law kV_law dc_law pm_law cd_law ct_law : Value} {f_law : Addr}
    (z_all : PySem.W.nsIn K mainGlobals "all" = some none)
    (z_any : PySem.W.nsIn K mainGlobals "any" = some none)
    (z_bool : PySem.W.nsIn K mainGlobals "bool" = some none)
    (z_dict : PySem.W.nsIn K mainGlobals "dict" = some none)
    (z_int : PySem.W.nsIn K mainGlobals "int" = some none)
    (z_isinstance : PySem.W.nsIn K mainGlobals "isinstance" = some none)
    (z_len : PySem.W.nsIn K mainGlobals "len" = some none)
    (z_range : PySem.W.nsIn K mainGlobals "range" = some none)
    (z_str : PySem.W.nsIn K mainGlobals "str" = some none)
    (z_tuple : PySem.W.nsIn K mainGlobals "tuple" = some none)
    (a_SMALL : ∃ tk, PySem.W.nsIn K mainGlobals "SMALL" = some (some (.str "abcdefghijklmnopqrstuvwxyz" tk)))
    (a_FIGURES : ∃ tk, PySem.W.nsIn K mainGlobals "FIGURES" = some (some (.str "0123456789" tk)))
    (a_MOST_SIGNS : ∃ tk, PySem.W.nsIn K mainGlobals "MOST_SIGNS" = some (some (.int 8 tk)))
    (a_MOST_COLUMNS : ∃ tk, PySem.W.nsIn K mainGlobals "MOST_COLUMNS" = some (some (.int 5 tk)))
    (a_MOST_TABLES : ∃ tk, PySem.W.nsIn K mainGlobals "MOST_TABLES" = some (some (.int 5 tk)))
    (a_RESERVED : PySem.W.nsIn K mainGlobals "RESERVED" = some (some (.ref ad_RESERVED)))
    (l_RESERVED : TupIn K ad_RESERVED [.str "many", .str "sum"])
    (a_LedgerError : PySem.W.nsIn K mainGlobals "LedgerError" = some (some (.ref cd_LedgerError)))
    (a_NoSchema : PySem.W.nsIn K mainGlobals "NoSchema" = some (some (.ref cd_NoSchema)))
    (x_NoSchema : PySem.W.excIn K cd_NoSchema [.type "ValueError", .type "Exception", .type "BaseException", .type "object"] "ValueError.__new__" = true)
    (k_NoSchema : PySem.W.keepIn K (.ref cd_NoSchema) = true)
    (b_NoSchema : PySem.W.subIn K (.ref cd_NoSchema) (.type "BaseException") = some true)
    (t_NoSchema : PySem.W.typeIn K (.ref cd_NoSchema) = some (.type "type"))
    (a_NoTable : PySem.W.nsIn K mainGlobals "NoTable" = some (some (.ref cd_NoTable)))
    (x_NoTable : PySem.W.excIn K cd_NoTable [.type "ValueError", .type "Exception", .type "BaseException", .type "object"] "ValueError.__new__" = true)
    (k_NoTable : PySem.W.keepIn K (.ref cd_NoTable) = true)
    (b_NoTable : PySem.W.subIn K (.ref cd_NoTable) (.type "BaseException") = some true)
    (t_NoTable : PySem.W.typeIn K (.ref cd_NoTable) = some (.type "type"))
    (echg_NoTable : PySem.W.findIn K (.ref cd_NoTable) "__getattribute__" = some (some (.builtin "BaseException.__getattribute__")))
    (echk_NoTable : PySem.W.findIn K (.ref cd_NoTable) "__getattr__" = some none)
    (echs_NoTable : PySem.W.subIn K (.ref cd_NoTable) (.type "BaseException") = some true)
    (echd_NoTable : PySem.W.hasDictIn K cd_NoTable = true)
    (echa_NoTable : PySem.W.findIn K (.ref cd_NoTable) "__class__" = some (some (.builtin "object.__class__")))
    (echn_NoTable : PySem.W.specialIn K (.builtin "object.__class__") "__get__" = some (some (.builtin "getset_descriptor.__get__")))
    (echt_NoTable : PySem.W.takesIn K (.builtin "object.__class__") = some true)
    (echm_NoTable : PySem.W.mroIn K cd_NoTable (.type "object") = some true)
    (a_NoRow : PySem.W.nsIn K mainGlobals "NoRow" = some (some (.ref cd_NoRow)))
    (a_Schema : PySem.W.nsIn K mainGlobals "Schema" = some (some (.ref cd_Schema)))
    (clpg_Schema : PySem.W.plainGet K cd_Schema Str.empty = true)
    (clhd_Schema : PySem.W.hasDictIn K cd_Schema = true)
    (clpo_Schema : PySem.W.plainOver K cd_Schema = true)
    (clsa_Schema : PySem.W.findIn K (.ref cd_Schema) "__setattr__" = some (some (.builtin "object.__setattr__")))
    (na_Schema_tables : PySem.W.findIn K (.ref cd_Schema) "tables" = some none)
    (em_NoTable_LedgerError : PySem.W.exmOne K (.ref cd_NoTable) (.ref cd_LedgerError) = some true)
    (ki_NoTable_NoTable : PySem.W.kitOne K (.ref cd_NoTable) (.ref cd_NoTable) = some true)
    (ki_NoTable_NoRow : PySem.W.kitOne K (.ref cd_NoTable) (.ref cd_NoRow) = some false)
    (ki_NoTable_NoSchema : PySem.W.kitOne K (.ref cd_NoTable) (.ref cd_NoSchema) = some false)
    (a_is_name : PySem.W.nsIn K mainGlobals "is_name" = some (some (.ref f_is_name)))
    (l_is_name : K.lookup f_is_name = some ⟨oc_is_name, od_is_name, .func (PySem.W.fnOf "is_name" "is_name" (defArgs s_is_name) (defBody s_is_name) (defScope s_is_name) .none kV_is_name dc_is_name pm_is_name an_is_name cd_is_name ct_is_name), sl_is_name⟩)
    (c_is_name : PySem.W.codeIn K cd_is_name "is_name" = true)
    (k_is_name : PySem.W.keepIn K (.ref f_is_name) = true)
    (a_are_names : PySem.W.nsIn K mainGlobals "are_names" = some (some (.ref f_are_names)))
    (l_are_names : K.lookup f_are_names = some ⟨oc_are_names, od_are_names, .func (PySem.W.fnOf "are_names" "are_names" (defArgs s_are_names) (defBody s_are_names) (defScope s_are_names) .none kV_are_names dc_are_names pm_are_names an_are_names cd_are_names ct_are_names), sl_are_names⟩)
    (c_are_names : PySem.W.codeIn K cd_are_names "are_names" = true)
    (k_are_names : PySem.W.keepIn K (.ref f_are_names) = true)
    (a_are_columns : PySem.W.nsIn K mainGlobals "are_columns" = some (some (.ref f_are_columns)))
    (l_are_columns : K.lookup f_are_columns = some ⟨oc_are_columns, od_are_columns, .func (PySem.W.fnOf "are_columns" "are_columns" (defArgs s_are_columns) (defBody s_are_columns) (defScope s_are_columns) .none kV_are_columns dc_are_columns pm_are_columns an_are_columns cd_are_columns ct_are_columns), sl_are_columns⟩)
    (c_are_columns : PySem.W.codeIn K cd_are_columns "are_columns" = true)
    (k_are_columns : PySem.W.keepIn K (.ref f_are_columns) = true)
    (a_is_pair : PySem.W.nsIn K mainGlobals "is_pair" = some (some (.ref f_is_pair)))
    (l_is_pair : K.lookup f_is_pair = some ⟨oc_is_pair, od_is_pair, .func (PySem.W.fnOf "is_pair" "is_pair" (defArgs s_is_pair) (defBody s_is_pair) (defScope s_is_pair) .none kV_is_pair dc_is_pair pm_is_pair an_is_pair cd_is_pair ct_is_pair), sl_is_pair⟩)
    (c_is_pair : PySem.W.codeIn K cd_is_pair "is_pair" = true)
    (k_is_pair : PySem.W.keepIn K (.ref f_is_pair) = true)
    (a_Schema___init : PySem.W.findIn K (.ref cd_Schema) "__init__" = some (some (.ref f_Schema___init)))
    (i_Schema___init : PySem.W.isFn K (.ref f_Schema___init) = true)
    (l_Schema___init : K.lookup f_Schema___init = some ⟨oc_Schema___init, od_Schema___init, .func (PySem.W.fnOf "__init__" "Schema.__init__" (defArgs s_Schema___init) (defBody s_Schema___init) (defScope s_Schema___init) .none kV_Schema___init dc_Schema___init pm_Schema___init an_Schema___init cd_Schema___init ct_Schema___init), sl_Schema___init⟩)
    (c_Schema___init : PySem.W.codeIn K cd_Schema___init "Schema.__init__" = true)
    (k_Schema___init : PySem.W.keepIn K (.ref f_Schema___init) = true)
    (mk_Schema : PySem.W.makesIn K cd_Schema = true)
    (kc_Schema : PySem.W.keepIn K (.ref cd_Schema) = true)
    (a_Schema_pair : PySem.W.findIn K (.ref cd_Schema) "pair" = some (some (.ref f_Schema_pair)))
    (i_Schema_pair : PySem.W.isFn K (.ref f_Schema_pair) = true)
    (l_Schema_pair : K.lookup f_Schema_pair = some ⟨oc_Schema_pair, od_Schema_pair, .func (PySem.W.fnOf "pair" "Schema.pair" (defArgs s_Schema_pair) (defBody s_Schema_pair) (defScope s_Schema_pair) .none kV_Schema_pair dc_Schema_pair pm_Schema_pair an_Schema_pair cd_Schema_pair ct_Schema_pair), sl_Schema_pair⟩)
    (c_Schema_pair : PySem.W.codeIn K cd_Schema_pair "Schema.pair" = true)
    (k_Schema_pair : PySem.W.keepIn K (.ref f_Schema_pair) = true)
    (a_Schema_columns : PySem.W.findIn K (.ref cd_Schema) "columns" = some (some (.ref f_Schema_columns)))
    (i_Schema_columns : PySem.W.isFn K (.ref f_Schema_columns) = true)
    (l_Schema_columns : K.lookup f_Schema_columns = some ⟨oc_Schema_columns, od_Schema_columns, .func (PySem.W.fnOf "columns" "Schema.columns" (defArgs s_Schema_columns) (defBody s_Schema_columns) (defScope s_Schema_columns) .none kV_Schema_columns dc_Schema_columns pm_Schema_columns an_Schema_columns cd_Schema_columns ct_Schema_columns), sl_Schema_columns⟩)
    (c_Schema_columns : PySem.W.codeIn K cd_Schema_columns "Schema.columns" = true)
    (k_Schema_columns : PySem.W.keepIn K (.ref f_Schema_columns) = true)
    (a_is_whole : PySem.W.nsIn K mainGlobals "is_whole" = some (some (.ref f_is_whole)))
    (l_is_whole : K.lookup f_is_whole = some ⟨oc_is_whole, od_is_whole, .func (PySem.W.fnOf "is_whole" "is_whole" (defArgs s_is_whole) (defBody s_is_whole) (defScope s_is_whole) .none kV_is_whole dc_is_whole pm_is_whole an_is_whole cd_is_whole ct_is_whole), sl_is_whole⟩)
    (c_is_whole : PySem.W.codeIn K cd_is_whole "is_whole" = true)
    (k_is_whole : PySem.W.keepIn K (.ref f_is_whole) = true)
    (a_Schema_is_row : PySem.W.findIn K (.ref cd_Schema) "is_row" = some (some (.ref f_Schema_is_row)))
    (i_Schema_is_row : PySem.W.isFn K (.ref f_Schema_is_row) = true)
    (l_Schema_is_row : K.lookup f_Schema_is_row = some ⟨oc_Schema_is_row, od_Schema_is_row, .func (PySem.W.fnOf "is_row" "Schema.is_row" (defArgs s_Schema_is_row) (defBody s_Schema_is_row) (defScope s_Schema_is_row) .none kV_Schema_is_row dc_Schema_is_row pm_Schema_is_row an_Schema_is_row cd_Schema_is_row ct_Schema_is_row), sl_Schema_is_row⟩)
    (c_Schema_is_row : PySem.W.codeIn K cd_Schema_is_row "Schema.is_row" = true)
    (k_Schema_is_row : PySem.W.keepIn K (.ref f_Schema_is_row) = true)
    (a_l_mixed : PySem.W.nsIn K mainGlobals "_law_mixed" = some (some (.ref f_l_mixed)))
    (l_l_mixed : K.lookup f_l_mixed = some ⟨oc_l_mixed, od_l_mixed, .func (PySem.W.fnOf "_law_mixed" "_law_mixed" (defArgs s_l_mixed) (defBody s_l_mixed) (defScope s_l_mixed) .none kV_l_mixed dc_l_mixed pm_l_mixed an_l_mixed cd_l_mixed ct_l_mixed), sl_l_mixed⟩)
    (c_l_mixed : PySem.W.codeIn K cd_l_mixed "_law_mixed" = true)
    (k_l_mixed : PySem.W.keepIn K (.ref f_l_mixed) = true)
    (a_l_twice : PySem.W.nsIn K mainGlobals "_law_twice" = some (some (.ref f_l_twice)))
    (l_l_twice : K.lookup f_l_twice = some ⟨oc_l_twice, od_l_twice, .func (PySem.W.fnOf "_law_twice" "_law_twice" (defArgs s_l_twice) (defBody s_l_twice) (defScope s_l_twice) .none kV_l_twice dc_l_twice pm_l_twice an_l_twice cd_l_twice ct_l_twice), sl_l_twice⟩)
    (c_l_twice : PySem.W.codeIn K cd_l_twice "_law_twice" = true)
    (k_l_twice : PySem.W.keepIn K (.ref f_l_twice) = true)
    (a_l_draw : PySem.W.nsIn K mainGlobals "_law_draw" = some (some (.ref f_l_draw)))
    (l_l_draw : K.lookup f_l_draw = some ⟨oc_l_draw, od_l_draw, .func (PySem.W.fnOf "_law_draw" "_law_draw" (defArgs s_l_draw) (defBody s_l_draw) (defScope s_l_draw) .none kV_l_draw dc_l_draw pm_l_draw an_l_draw cd_l_draw ct_l_draw), sl_l_draw⟩)
    (c_l_draw : PySem.W.codeIn K cd_l_draw "_law_draw" = true)
    (k_l_draw : PySem.W.keepIn K (.ref f_l_draw) = true)
    (a_l_good : PySem.W.nsIn K mainGlobals "_law_good" = some (some (.ref f_l_good)))
    (l_l_good : K.lookup f_l_good = some ⟨oc_l_good, od_l_good, .func (PySem.W.fnOf "_law_good" "_law_good" (defArgs s_l_good) (defBody s_l_good) (defScope s_l_good) .none kV_l_good dc_l_good pm_l_good an_l_good cd_l_good ct_l_good), sl_l_good⟩)
    (c_l_good : PySem.W.codeIn K cd_l_good "_law_good" = true)
    (k_l_good : PySem.W.keepIn K (.ref f_l_good) = true)
    (a_l_refused : PySem.W.nsIn K mainGlobals "_law_refused" = some (some (.ref f_l_refused)))
    (l_l_refused : K.lookup f_l_refused = some ⟨oc_l_refused, od_l_refused, .func (PySem.W.fnOf "_law_refused" "_law_refused" (defArgs s_l_refused) (defBody s_l_refused) (defScope s_l_refused) .none kV_l_refused dc_l_refused pm_l_refused an_l_refused cd_l_refused ct_l_refused), sl_l_refused⟩)
    (c_l_refused : PySem.W.codeIn K cd_l_refused "_law_refused" = true)
    (k_l_refused : PySem.W.keepIn K (.ref f_l_refused) = true)
    (a_l_thing : PySem.W.nsIn K mainGlobals "_law_thing" = some (some (.ref f_l_thing)))
    (l_l_thing : K.lookup f_l_thing = some ⟨oc_l_thing, od_l_thing, .func (PySem.W.fnOf "_law_thing" "_law_thing" (defArgs s_l_thing) (defBody s_l_thing) (defScope s_l_thing) .none kV_l_thing dc_l_thing pm_l_thing an_l_thing cd_l_thing ct_l_thing), sl_l_thing⟩)
    (c_l_thing : PySem.W.codeIn K cd_l_thing "_law_thing" = true)
    (k_l_thing : PySem.W.keepIn K (.ref f_l_thing) = true)
    (a_l_cell : PySem.W.nsIn K mainGlobals "_law_cell" = some (some (.ref f_l_cell)))
    (l_l_cell : K.lookup f_l_cell = some ⟨oc_l_cell, od_l_cell, .func (PySem.W.fnOf "_law_cell" "_law_cell" (defArgs s_l_cell) (defBody s_l_cell) (defScope s_l_cell) .none kV_l_cell dc_l_cell pm_l_cell an_l_cell cd_l_cell ct_l_cell), sl_l_cell⟩)
    (c_l_cell : PySem.W.codeIn K cd_l_cell "_law_cell" = true)
    (k_l_cell : PySem.W.keepIn K (.ref f_l_cell) = true)
    (a_l_well : PySem.W.nsIn K mainGlobals "_law_well" = some (some (.ref f_l_well)))
    (l_l_well : K.lookup f_l_well = some ⟨oc_l_well, od_l_well, .func (PySem.W.fnOf "_law_well" "_law_well" (defArgs s_l_well) (defBody s_l_well) (defScope s_l_well) .none kV_l_well dc_l_well pm_l_well an_l_well cd_l_well ct_l_well), sl_l_well⟩)
    (c_l_well : PySem.W.codeIn K cd_l_well "_law_well" = true)
    (k_l_well : PySem.W.keepIn K (.ref f_l_well) = true)
    (a_law : PySem.W.nsIn K mainGlobals "law" = some (some (.ref f_law)))
    (l_law : K.lookup f_law = some ⟨oc_law, od_law, .func (PySem.W.fnOf "law" "law" (defArgs s_law) (defBody s_law) (defScope s_law) .none kV_law dc_law pm_law an_law cd_law ct_law), sl_law⟩)
    (c_law : PySem.W.codeIn K cd_law "law" = true)
    (k_law : PySem.W.keepIn K (.ref f_law) = true) :
    ∃ fd : FuncData, (∀ (s : Shared) (v : Value), BindsTo s fd ⟨[v], []⟩ [("_law_script", v)]) ∧ ∀ base : Heap, K.In base → base.Ns mainGlobals mg → FnOk l.prog w K mg base (L2.CX l.prog w) 7 fa fd ["_law_script"] (sp_law K) := by

  have T : Txt K mg ⟨cd_LedgerError, cd_NoSchema, cd_NoTable, cd_NoRow, cd_Schema, ad_RESERVED⟩ := ⟨PySem.W.mg_none_of X G z_all, PySem.W.mg_none_of X G z_any, PySem.W.mg_none_of X G z_bool, PySem.W.mg_none_of X G z_dict, PySem.W.mg_none_of X G z_int, PySem.W.mg_none_of X G z_isinstance, PySem.W.mg_none_of X G z_len, PySem.W.mg_none_of X G z_range, PySem.W.mg_none_of X G z_str, PySem.W.mg_none_of X G z_tuple, (match a_SMALL with | ⟨tk, a⟩ => ⟨_, PySem.W.mg_of X G a, ⟨tk, rfl⟩⟩), (match a_FIGURES with | ⟨tk, a⟩ => ⟨_, PySem.W.mg_of X G a, ⟨tk, rfl⟩⟩), (match a_MOST_SIGNS with | ⟨tk, a⟩ => ⟨_, PySem.W.mg_of X G a, ⟨tk, rfl⟩⟩), (match a_MOST_COLUMNS with | ⟨tk, a⟩ => ⟨_, PySem.W.mg_of X G a, ⟨tk, rfl⟩⟩), (match a_MOST_TABLES with | ⟨tk, a⟩ => ⟨_, PySem.W.mg_of X G a, ⟨tk, rfl⟩⟩), ⟨_, PySem.W.mg_of X G a_RESERVED, rfl⟩, fun H => l_RESERVED.sq H, PySem.W.mg_of X G a_LedgerError, PySem.W.mg_of X G a_NoSchema, x_NoSchema, k_NoSchema, b_NoSchema, t_NoSchema, PySem.W.mg_of X G a_NoTable, x_NoTable, k_NoTable, b_NoTable, t_NoTable, ⟨echg_NoTable, echk_NoTable, echs_NoTable, echd_NoTable, echa_NoTable, echn_NoTable, echt_NoTable, echm_NoTable⟩, PySem.W.mg_of X G a_NoRow, PySem.W.mg_of X G a_Schema, ⟨clpg_Schema, clhd_Schema, clpo_Schema, clsa_Schema⟩, na_Schema_tables, em_NoTable_LedgerError, ki_NoTable_NoTable, ki_NoTable_NoRow, ki_NoTable_NoSchema, ⟨f_is_name, _, (fun_mk (st := s_is_name) l_is_name c_is_name k_is_name), (Fun.binds (ps := ["thing"]) (fun_mk (st := s_is_name) l_is_name c_is_name k_is_name) (fun _ _ _ _ _ _ us hl => match us, hl with | [_], _ => rfl)), PySem.W.mg_of X G a_is_name⟩, ⟨f_are_names, _, (fun_mk (st := s_are_names) l_are_names c_are_names k_are_names), (Fun.binds (ps := ["names"]) (fun_mk (st := s_are_names) l_are_names c_are_names k_are_names) (fun _ _ _ _ _ _ us hl => match us, hl with | [_], _ => rfl)), PySem.W.mg_of X G a_are_names⟩, ⟨f_are_columns, _, (fun_mk (st := s_are_columns) l_are_columns c_are_columns k_are_columns), (Fun.binds (ps := ["names"]) (fun_mk (st := s_are_columns) l_are_columns c_are_columns k_are_columns) (fun _ _ _ _ _ _ us hl => match us, hl with | [_], _ => rfl)), PySem.W.mg_of X G a_are_columns⟩, ⟨f_is_pair, _, (fun_mk (st := s_is_pair) l_is_pair c_is_pair k_is_pair), (Fun.binds (ps := ["told"]) (fun_mk (st := s_is_pair) l_is_pair c_is_pair k_is_pair) (fun _ _ _ _ _ _ us hl => match us, hl with | [_], _ => rfl)), PySem.W.mg_of X G a_is_pair⟩, ⟨f_Schema___init, _, (fun_mk (st := s_Schema___init) l_Schema___init c_Schema___init k_Schema___init), (Fun.binds (ps := ["self", "tables"]) (fun_mk (st := s_Schema___init) l_Schema___init c_Schema___init k_Schema___init) (fun _ _ _ _ _ _ us hl => match us, hl with | [_, _], _ => rfl)), ⟨mk_Schema, a_Schema___init, i_Schema___init, kc_Schema⟩⟩, ⟨f_Schema_pair, _, (fun_mk (st := s_Schema_pair) l_Schema_pair c_Schema_pair k_Schema_pair), (Fun.binds (ps := ["self", "table"]) (fun_mk (st := s_Schema_pair) l_Schema_pair c_Schema_pair k_Schema_pair) (fun _ _ _ _ _ _ us hl => match us, hl with | [_, _], _ => rfl)), ⟨a_Schema_pair, i_Schema_pair, k_Schema_pair⟩⟩, ⟨f_Schema_columns, _, (fun_mk (st := s_Schema_columns) l_Schema_columns c_Schema_columns k_Schema_columns), (Fun.binds (ps := ["self", "table"]) (fun_mk (st := s_Schema_columns) l_Schema_columns c_Schema_columns k_Schema_columns) (fun _ _ _ _ _ _ us hl => match us, hl with | [_, _], _ => rfl)), ⟨a_Schema_columns, i_Schema_columns, k_Schema_columns⟩⟩, ⟨f_is_whole, _, (fun_mk (st := s_is_whole) l_is_whole c_is_whole k_is_whole), (Fun.binds (ps := ["thing"]) (fun_mk (st := s_is_whole) l_is_whole c_is_whole k_is_whole) (fun _ _ _ _ _ _ us hl => match us, hl with | [_], _ => rfl)), PySem.W.mg_of X G a_is_whole⟩, ⟨f_Schema_is_row, _, (fun_mk (st := s_Schema_is_row) l_Schema_is_row c_Schema_is_row k_Schema_is_row), (Fun.binds (ps := ["self", "table", "thing"]) (fun_mk (st := s_Schema_is_row) l_Schema_is_row c_Schema_is_row k_Schema_is_row) (fun _ _ _ _ _ _ us hl => match us, hl with | [_, _, _], _ => rfl)), ⟨a_Schema_is_row, i_Schema_is_row, k_Schema_is_row⟩⟩, ⟨f_l_mixed, _, (fun_mk (st := s_l_mixed) l_l_mixed c_l_mixed k_l_mixed), (Fun.binds (ps := ["_law_cell_here", "_law_k"]) (fun_mk (st := s_l_mixed) l_l_mixed c_l_mixed k_l_mixed) (fun _ _ _ _ _ _ us hl => match us, hl with | [_, _], _ => rfl)), PySem.W.mg_of X G a_l_mixed⟩, ⟨f_l_twice, _, (fun_mk (st := s_l_twice) l_l_twice c_l_twice k_l_twice), (Fun.binds (ps := ["_law_cell_here", "_law_k"]) (fun_mk (st := s_l_twice) l_l_twice c_l_twice k_l_twice) (fun _ _ _ _ _ _ us hl => match us, hl with | [_, _], _ => rfl)), PySem.W.mg_of X G a_l_twice⟩, ⟨f_l_draw, _, (fun_mk (st := s_l_draw) l_l_draw c_l_draw k_l_draw), (Fun.binds (ps := ["_law_well_here", "_law_most"]) (fun_mk (st := s_l_draw) l_l_draw c_l_draw k_l_draw) (fun _ _ _ _ _ _ us hl => match us, hl with | [_, _], _ => rfl)), PySem.W.mg_of X G a_l_draw⟩, ⟨f_l_good, _, (fun_mk (st := s_l_good) l_l_good c_l_good k_l_good), (Fun.binds (ps := ["_law_thing_here", "_law_many"]) (fun_mk (st := s_l_good) l_l_good c_l_good k_l_good) (fun _ _ _ _ _ _ us hl => match us, hl with | [_, _], _ => rfl)), PySem.W.mg_of X G a_l_good⟩, ⟨f_l_refused, _, (fun_mk (st := s_l_refused) l_l_refused c_l_refused k_l_refused), (Fun.binds (ps := ["_law_schema", "_law_thing_here"]) (fun_mk (st := s_l_refused) l_l_refused c_l_refused k_l_refused) (fun _ _ _ _ _ _ us hl => match us, hl with | [_, _], _ => rfl)), PySem.W.mg_of X G a_l_refused⟩, ⟨f_l_thing, _, (fun_mk (st := s_l_thing) l_l_thing c_l_thing k_l_thing), (Fun.binds (ps := ["_law_well_here", "_law_many"]) (fun_mk (st := s_l_thing) l_l_thing c_l_thing k_l_thing) (fun _ _ _ _ _ _ us hl => match us, hl with | [_, _], _ => rfl)), PySem.W.mg_of X G a_l_thing⟩, ⟨f_l_cell, _, (fun_mk (st := s_l_cell) l_l_cell c_l_cell k_l_cell), (Fun.binds (ps := ["_law_script", "_law_k"]) (fun_mk (st := s_l_cell) l_l_cell c_l_cell k_l_cell) (fun _ _ _ _ _ _ us hl => match us, hl with | [_, _], _ => rfl)), PySem.W.mg_of X G a_l_cell⟩, ⟨f_l_well, _, (fun_mk (st := s_l_well) l_l_well c_l_well k_l_well), (Fun.binds (ps := ["_law_script", "_law_k"]) (fun_mk (st := s_l_well) l_l_well c_l_well k_l_well) (fun _ _ _ _ _ _ us hl => match us, hl with | [_, _], _ => rfl)), PySem.W.mg_of X G a_l_well⟩⟩

  have e := hfa.symm.trans (PySem.W.mg_of X G a_law)
  cases e
  refine ⟨PySem.W.fnOf "law" "law" (defArgs s_law) (defBody s_law) (defScope s_law) .none kV_law dc_law pm_law an_law cd_law ct_law, fun s v => .of_eq rfl, fun base _ _ => ?_⟩
  exact ok_law T (fun_mk (st := s_law) l_law c_law k_law)

theorem walk {l : PySem.W.OpenLaw} {q : Program} {loose : List Str} {XP : (Str → Option Value) → Heap → Prop} {YP : World → Heap → Prop} {d : DefRec} {K : Params → PySem.W.Frag} (hn : l.most = some 63) (hdf : d.params.defaults = [])
    (hY : ∀ (w : World) (h : Heap), YP w h → (K w.params).In h)
    (F : ∀ (w : World) (mg : Str → Option Value) (fa : Addr) (h : Heap), (K w.params).In h → h.Ns mainGlobals mg → mg d.name = some (.ref fa) →
      ∃ fd : FuncData, (∀ (s : Shared) (u : Value), BindsTo s fd ⟨[u], []⟩ [("_law_script", u)]) ∧ ∀ base : Heap, (K w.params).In base → base.Ns mainGlobals mg → FnOk l.prog w (K w.params) mg base (L2.CX l.prog w) 7 fa fd ["_law_script"] (sp_law (K w.params))) :
    PySem.W.WalkO q loose XP YP l.row.toRowW d [] (fun f vs => PySem.call f vs) :=
  L2.walk_ofB (n := 63) (k := 7) (x := "_law_script") (CX := fun w => L2.CX l.prog w) (sp := fun w => sp_law (K w.params)) hn (by decide) hdf ⟨rfl, by decide, by decide⟩ hY F (fun _ _ a ns hl hb _ hS => ⟨a, ns, rfl, hS, hl, hb, fun _ => rfl⟩) fun w H s e s' z => by
    obtain ⟨_, _, _, _, _, _, _, _, _, _, _, _, z⟩ := z
    exact z.elim
end Toy
open PySem PySem.W PyProof.Rows
set_option maxRecDepth 100000 in
set_option maxHeartbeats 0 in
theorem PySem.Challenge.cw_planledger_k02_rows_of_tables_holds : PySem.Challenge.rw_planledger_k02_rows_of_tables.Holds := by
  w_on; o_law; k_head; (case hw => w_witness2)
  k_fill
  refine Toy.walk (l := PySem.Challenge.rw_planledger_k02_rows_of_tables) rfl rfl (fun w h Y => PySem.W.kIn_of Y) ?F
  case F =>
    intro w mg fa h KX G hmg
    refine' Toy.all_mk KX G hmg ?z_all ?z_any ?z_bool ?z_dict ?z_int ?z_isinstance ?z_len ?z_range ?z_str ?z_tuple ?a_SMALL ?a_FIGURES ?a_MOST_SIGNS ?a_MOST_COLUMNS ?a_MOST_TABLES ?a_RESERVED ?l_RESERVED ?a_LedgerError ?a_NoSchema ?x_NoSchema ?k_NoSchema ?b_NoSchema ?t_NoSchema ?a_NoTable ?x_NoTable ?k_NoTable ?b_NoTable ?t_NoTable ?echg_NoTable ?echk_NoTable ?echs_NoTable ?echd_NoTable ?echa_NoTable ?echn_NoTable ?echt_NoTable ?echm_NoTable ?a_NoRow ?a_Schema ?clpg_Schema ?clhd_Schema ?clpo_Schema ?clsa_Schema ?na_Schema_tables ?em_NoTable_LedgerError ?ki_NoTable_NoTable ?ki_NoTable_NoRow ?ki_NoTable_NoSchema ?a_is_name ?l_is_name ?c_is_name ?k_is_name ?a_are_names ?l_are_names ?c_are_names ?k_are_names ?a_are_columns ?l_are_columns ?c_are_columns ?k_are_columns ?a_is_pair ?l_is_pair ?c_is_pair ?k_is_pair ?a_Schema___init ?i_Schema___init ?l_Schema___init ?c_Schema___init ?k_Schema___init ?mk_Schema ?kc_Schema ?a_Schema_pair ?i_Schema_pair ?l_Schema_pair ?c_Schema_pair ?k_Schema_pair ?a_Schema_columns ?i_Schema_columns ?l_Schema_columns ?c_Schema_columns ?k_Schema_columns ?a_is_whole ?l_is_whole ?c_is_whole ?k_is_whole ?a_Schema_is_row ?i_Schema_is_row ?l_Schema_is_row ?c_Schema_is_row ?k_Schema_is_row ?a_l_mixed ?l_l_mixed ?c_l_mixed ?k_l_mixed ?a_l_twice ?l_l_twice ?c_l_twice ?k_l_twice ?a_l_draw ?l_l_draw ?c_l_draw ?k_l_draw ?a_l_good ?l_l_good ?c_l_good ?k_l_good ?a_l_refused ?l_l_refused ?c_l_refused ?k_l_refused ?a_l_thing ?l_l_thing ?c_l_thing ?k_l_thing ?a_l_cell ?l_l_cell ?c_l_cell ?k_l_cell ?a_l_well ?l_l_well ?c_l_well ?k_l_well ?a_law ?l_law ?c_law ?k_law

    (case a_SMALL => exact ⟨_, by k_is⟩)

    (case a_FIGURES => exact ⟨_, by k_is⟩)

    (case a_MOST_SIGNS => exact ⟨_, by k_is⟩)

    (case a_MOST_COLUMNS => exact ⟨_, by k_is⟩)

    (case a_MOST_TABLES => exact ⟨_, by k_is⟩)

    (case a_RESERVED => k_is)

    (case a_LedgerError => k_is)

    (case a_NoSchema => k_is)

    (case a_NoTable => k_is)

    (case a_NoRow => k_is)

    (case a_Schema => k_is)

    (case a_is_name => k_is)

    (case a_are_names => k_is)

    (case a_are_columns => k_is)

    (case a_is_pair => k_is)

    (case a_is_whole => k_is)

    (case a_l_mixed => k_is)

    (case a_l_twice => k_is)

    (case a_l_draw => k_is)

    (case a_l_good => k_is)

    (case a_l_refused => k_is)

    (case a_l_thing => k_is)

    (case a_l_cell => k_is)

    (case a_l_well => k_is)

    (case a_law => k_is)

    (case z_all => k_is)

    (case z_any => k_is)

    (case z_bool => k_is)

    (case z_dict => k_is)

    (case z_int => k_is)

    (case z_isinstance => k_is)

    (case z_len => k_is)

    (case z_range => k_is)

    (case z_str => k_is)

    (case z_tuple => k_is)

    (case l_RESERVED => exact PL.tupIn2 (by k_is))

    (case x_NoSchema => k_exc)

    (case k_NoSchema => k_is)

    (case b_NoSchema => k_is)

    (case t_NoSchema => k_is)

    (case x_NoTable => k_exc)

    (case k_NoTable => k_is)

    (case b_NoTable => k_is)

    (case t_NoTable => k_is)

    (case echg_NoTable => k_is)

    (case echk_NoTable => k_is)

    (case echs_NoTable => k_is)

    (case echd_NoTable => k_is)

    (case echa_NoTable => k_is)

    (case echn_NoTable => k_is)

    (case echt_NoTable => k_is)

    (case echm_NoTable => k_is)

    (case clpg_Schema => k_is)

    (case clhd_Schema => k_is)

    (case clpo_Schema => k_is)

    (case clsa_Schema => k_is)

    (case na_Schema_tables => k_is)

    (case em_NoTable_LedgerError => refine PL.exm_sub (by k_is) (by k_is) (by k_is) (by k_is))

    (case ki_NoTable_NoTable => exact PL.kit_self (by decide))

    (case ki_NoTable_NoRow => refine PL.kit_sub (by k_is) (by k_is) (by k_is) (by decide))

    (case ki_NoTable_NoSchema => refine PL.kit_sub (by k_is) (by k_is) (by k_is) (by decide))

    (case l_is_name => k_is)

    (case c_is_name => k_is)

    (case k_is_name => k_is)

    (case l_are_names => k_is)

    (case c_are_names => k_is)

    (case k_are_names => k_is)

    (case l_are_columns => k_is)

    (case c_are_columns => k_is)

    (case k_are_columns => k_is)

    (case l_is_pair => k_is)

    (case c_is_pair => k_is)

    (case k_is_pair => k_is)

    (case a_Schema___init => k_is)

    (case i_Schema___init => k_is)

    (case l_Schema___init => k_is)

    (case c_Schema___init => k_is)

    (case k_Schema___init => k_is)

    (case mk_Schema => k_is)

    (case kc_Schema => k_is)

    (case a_Schema_pair => k_is)

    (case i_Schema_pair => k_is)

    (case l_Schema_pair => k_is)

    (case c_Schema_pair => k_is)

    (case k_Schema_pair => k_is)

    (case a_Schema_columns => k_is)

    (case i_Schema_columns => k_is)

    (case l_Schema_columns => k_is)

    (case c_Schema_columns => k_is)

    (case k_Schema_columns => k_is)

    (case l_is_whole => k_is)

    (case c_is_whole => k_is)

    (case k_is_whole => k_is)

    (case a_Schema_is_row => k_is)

    (case i_Schema_is_row => k_is)

    (case l_Schema_is_row => k_is)

    (case c_Schema_is_row => k_is)

    (case k_Schema_is_row => k_is)

    (case l_l_mixed => k_is)

    (case c_l_mixed => k_is)

    (case k_l_mixed => k_is)

    (case l_l_twice => k_is)

    (case c_l_twice => k_is)

    (case k_l_twice => k_is)

    (case l_l_draw => k_is)

    (case c_l_draw => k_is)

    (case k_l_draw => k_is)

    (case l_l_good => k_is)

    (case c_l_good => k_is)

    (case k_l_good => k_is)

    (case l_l_refused => k_is)

    (case c_l_refused => k_is)

    (case k_l_refused => k_is)

    (case l_l_thing => k_is)

    (case c_l_thing => k_is)

    (case k_l_thing => k_is)

    (case l_l_cell => k_is)

    (case c_l_cell => k_is)

    (case k_l_cell => k_is)

    (case l_l_well => k_is)

    (case c_l_well => k_is)

    (case k_l_well => k_is)

    (case l_law => k_is)

    (case c_law => k_is)

    (case k_law => k_is)
