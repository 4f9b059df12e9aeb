import PyProof.Rows.All
import Wide.All
import OpenK.AllK
import Wide.FinOn
import HandS.ForMost
import HandS.ForExc
import HandS.IsInst
import HandS.ExcIs
import HandS.EndBits
import HandS.Wide
import HandS.More
import HandS.TupLe
import HandS.SortOrd
import HandS.Deep
import HandS.TupAny
import HandS.SetFor
import KE.SortData

import PySem.Challenge.RW_planledger_k21_an_index

set_option Elab.async false
set_option linter.all false
set_option maxRecDepth 100000
set_option maxHeartbeats 4000000
/-! PL: bundles of promises, calls, heaps. -/
namespace PL
open PySem L2
abbrev CXX := L2.CX
/-- a def by its name, a method of C, a class by its __init__: their promises -/
structure Cal (P : Program) (w : World) (K : PySem.W.Frag) (mg : Str → Option Value) (base : Heap) (k : Nat) (x : Str) (sp : Sp) : Prop where
  ex : ∃ (f : Addr) (fd : FuncData) (ps : List Str), FnOk P w K mg base (L2.CX P w) k f fd ps sp ∧ mg x = some (.ref f) ∧ PySem.W.keepIn K (.ref f) = true ∧ Binds K fd ps []
structure Met (P : Program) (w : World) (K : PySem.W.Frag) (mg : Str → Option Value) (base : Heap) (k : Nat) (C : Addr) (m : Str) (sp : Sp) : Prop where
  ex : ∃ (f : Addr) (fd : FuncData) (ps : List Str), Cls K C ∧ Meth K C m f ∧ FnOk P w K mg base (L2.CX P w) k f fd ps sp ∧ Binds K fd ps []
structure Mak (P : Program) (w : World) (K : PySem.W.Frag) (mg : Str → Option Value) (base : Heap) (k : Nat) (x : Str) (C : Addr) (sp : Sp) : Prop where
  ex : ∃ (f : Addr) (fd : FuncData) (ps : List Str), Mk K C f ∧ FnOk P w K mg base (L2.CX P w) k f fd ps sp ∧ mg x = some (.ref C) ∧ Binds K fd ps []
/-- what the text says of a def -/
structure DefF (K : PySem.W.Frag) (mg : Str → Option Value) (x : Str) (st : Stmt) (ps : List Str) : Prop where
  ex : ∃ (f : Addr) (fd : FuncData), Fun K x x st f fd ∧ Binds K fd ps [] ∧ mg x = some (.ref f)
structure MetF (K : PySem.W.Frag) (C : Addr) (m qual : Str) (st : Stmt) (ps : List Str) : Prop where
  ex : ∃ (f : Addr) (fd : FuncData), Fun K m qual st f fd ∧ Binds K fd ps [] ∧ Meth K C m f
structure IniF (K : PySem.W.Frag) (C : Addr) (qual : Str) (st : Stmt) (ps : List Str) : Prop where
  ex : ∃ (f : Addr) (fd : FuncData), Fun K "__init__" qual st f fd ∧ Binds K fd ps [] ∧ Mk K C f
section
variable {P : Program} {w : World} {K : PySem.W.Frag} {mg : Str → Option Value} {base : Heap} {N ps : List Str} {k : Nat} {sp : Sp} {x qual m : Str} {st : Stmt} {C : Addr}
/-- the body's reading: what is asked of a def -/
def Body (P : Program) (w : World) (K : PySem.W.Frag) (mg : Str → Option Value) (base : Heap) (N : List Str) (qual : Str) (st : Stmt) (k : Nat) (sp : Sp) : Prop :=
  ∀ (f : Addr) (cdv : Value) (A : Around) (outer : List Env) (s : Shared) (H : Hp) (vs : List V) (Q : VK) (E : XK), Room k (A.deeper (PyProof.Rows.envOfC qual (defScope st) s.heap.objs.size f cdv)) → sp vs H Q E →
      ∃ t, PSs (cxOf (L2.CX P w) P w K mg base N qual (defScope st) f cdv A outer s H E) (defBody st) t ∧ t { nx := fun _ H' => Q .non H', rt := Q } (start N vs) H
theorem DefF.cal (F : DefF K mg x st ps) (S : FnScope N ps (defScope st)) (len : ∀ vs H Q E, sp vs H Q E → vs.length = ps.length) (hbody : Body P w K mg base N x st k sp) : Cal P w K mg base (k + 1) x sp := by
  obtain ⟨f, fd, F, b, g⟩ := F.ex
  exact ⟨f, fd, ps, F.okX S len (fun cdv A outer s H vs Q E hr h => hbody f cdv A outer s H vs Q E hr h), g, F.kp, b⟩
theorem MetF.met (F : MetF K C m qual st ps) (c : Cls K C) (S : FnScope N ps (defScope st)) (len : ∀ vs H Q E, sp vs H Q E → vs.length = ps.length) (hbody : Body P w K mg base N qual st k sp) : Met P w K mg base (k + 1) C m sp := by
  obtain ⟨f, fd, F, b, g⟩ := F.ex
  exact ⟨f, fd, ps, c, g, F.okX S len (fun cdv A outer s H vs Q E hr h => hbody f cdv A outer s H vs Q E hr h), b⟩
theorem IniF.mak (F : IniF K C qual st ps) (g : mg x = some (.ref C)) (S : FnScope N ps (defScope st)) (len : ∀ vs H Q E, sp vs H Q E → vs.length = ps.length) (hbody : Body P w K mg base N qual st k sp) : Mak P w K mg base (k + 1) x C sp := by
  obtain ⟨f, fd, F, b, M⟩ := F.ex
  exact ⟨f, fd, ps, M, F.okX S len (fun cdv A outer s H vs Q E hr h => hbody f cdv A outer s H vs Q E hr h), g, b⟩
end
section
variable {X : Cx} {k j : Nat} {C : Addr} {x m : Str} {sp : Sp} {p pos apos : Pos} {e o : Expr} {es : List Expr} {ta : TE} {t : TA} {W : WX}
theorem pass00 (σ : St) : PassesAt (L2.CX X.prog X.w) X σ E0 := fun _ _ _ _ _ _ h => by
  obtain ⟨_, _, _, _, _, _, _, _, _, _, _, _, z⟩ := h
  exact z.elim
theorem pe_c (c : Cal X.prog X.w X.K X.mg X.base k x sp) (hr : Room j X.A) (hk : k ≤ j) (hg : Gl X x) (ha : PA X (e :: es) t)
    (hdb : (x == ("__debug__" : Str)) = false := by decide) (he : starEach (e :: es) X.env = (false, eval e X.env) :: starEach es X.env := by rfl) (hpl : (backTo pos (starEach es X.env)).any (·.1) = false := by rfl) :
    PE X (.Call (.Name x p) (e :: es) [] pos) (tCallS sp (fun _ => E0) t) := by
  obtain ⟨f, fd, ps, F, hm, kp, b⟩ := c.ex
  exact pe_callS F (hr.mono hk) hg hm kp b pass00 ha hdb he hpl
theorem pe_cX (c : Cal X.prog X.w X.K X.mg X.base k x sp) (hr : Room j X.A) (hk : k ≤ j) (hg : Gl X x) (tk : Takes X W) (ha : PA X (e :: es) t)
    (hdb : (x == ("__debug__" : Str)) = false := by decide) (he : starEach (e :: es) X.env = (false, eval e X.env) :: starEach es X.env := by rfl) (hpl : (backTo pos (starEach es X.env)).any (·.1) = false := by rfl) :
    PE X (.Call (.Name x p) (e :: es) [] pos) (tCallS sp (WE W) t) := by
  obtain ⟨f, fd, ps, F, hm, kp, b⟩ := c.ex
  exact pe_callS F (hr.mono hk) hg hm kp b (fun σ => passAt tk σ) ha hdb he hpl
/-- a method call, by E at the slots -/
def tMt (C : Addr) (m : Str) (sp : Sp) (E : St → XK) (ta : TE) (t : TA) : TE := fun σ H Q => ta σ H fun x H1 => ∃ a dx fs, x = .ref a ∧ H1 a = some (.ins C dx fs) ∧ fs.lookup m = none ∧ t σ H1 fun vs H2 => sp (.ref a :: vs) H2 Q (E σ)
theorem pe_mtG {pl : Sem Bool} {E : St → XK} (c : Met X.prog X.w X.K X.mg X.base k C m sp) (hr : Room j X.A) (hk : k ≤ j) (hx : ∀ σ, PassesAt (L2.CX X.prog X.w) X σ (E σ)) (he : PE X o ta) (ha : PA X (e :: es) t)
    (hst : starEach (e :: es) X.env = (false, eval e X.env) :: starEach es X.env := by rfl) (hpl : (backTo pos (starEach es X.env)).any (·.1) = false := by rfl)
    (ht : eval (.Call (.Attribute o m apos) (e :: es) [] pos) X.env = (do
      let ov ← eval o X.env
      standAt apos.atName
      let (f, first) ← holding [ov] (getMethod ov m pl)
      callWith pos f first (backTo pos (starEach (e :: es) X.env)) (backToKw pos (keywordEach [] X.env))) := by rfl) :
    PE X (.Call (.Attribute o m apos) (e :: es) [] pos) (tMt C m sp E ta t) := by
  obtain ⟨f, fd, ps, cl, hm, F, b⟩ := c.ex
  refine ⟨fun pins s σ H Q I h => ?_⟩
  refine PySem.W.methodCall_KW (pl := pl) (thn (he.run pins s σ H _ I h) fun u s1 ⟨x, H1, I1, rx, a, dx, fs, ex, ea, l, q⟩ => ?_) ht
  subst ex
  obtain rfl : u = Value.ref a := rx
  refine getmeth_ok I1 ea cl hm l ?_
  refine PySem.W.callWith_K (first := [.ref a]) (h₀ := X.base) I.ok.mod.kin hm.kp (thn (ha.run pos pins s1 σ H1 _ I1 q) fun us s2 ⟨vs, H2, I2, r, q2⟩ => ⟨I2.kIn, ?_⟩) hst hpl
  exact run_fnS (us := .ref a :: us) (vs := .ref a :: vs) F (hr.mono hk) b (hx σ) I2 (.cons rfl r) q2
theorem pe_mtG0 {pl : Sem Bool} {E : St → XK} (c : Met X.prog X.w X.K X.mg X.base k C m sp) (hr : Room j X.A) (hk : k ≤ j) (hx : ∀ σ, PassesAt (L2.CX X.prog X.w) X σ (E σ)) (he : PE X o ta)
    (ht : eval (.Call (.Attribute o m apos) [] [] pos) X.env = (do
      let ov ← eval o X.env
      standAt apos.atName
      let (f, first) ← holding [ov] (getMethod ov m pl)
      callWith pos f first (backTo pos (starEach [] X.env)) (backToKw pos (keywordEach [] X.env))) := by rfl) :
    PE X (.Call (.Attribute o m apos) [] [] pos) (tMt C m sp E ta tNil) := by
  obtain ⟨f, fd, ps, cl, hm, F, b⟩ := c.ex
  refine ⟨fun pins s σ H Q I h => ?_⟩
  refine PySem.W.methodCall_KW (pl := pl) (thn (he.run pins s σ H _ I h) fun u s1 ⟨x, H1, I1, rx, a, dx, fs, ex, ea, l, q⟩ => ?_) ht
  subst ex
  obtain rfl : u = Value.ref a := rx
  refine getmeth_ok I1 ea cl hm l ?_
  exact PySem.W.callWith_K0 (first := [.ref a]) I1.kIn hm.kp (run_fnS (us := [.ref a]) (vs := [.ref a]) F (hr.mono hk) b (hx σ) I1 (.cons rfl .nil) q)
/-- a class made -/
def tMkG (C : Addr) (sp : Sp) (E : St → XK) (t : TA) : TE := fun σ H Q => t σ H fun vs H1 => ∀ x dx, H1 x = none → H1 dx = none → dx ≠ x → sp (.ref x :: vs) (upd (upd H1 dx (.own x)) x (.ins C dx [])) (fun v H2 => v = .non ∧ Q (.ref x) H2) (E σ)
theorem run_makeS {f : Addr} {fd : FuncData} {ps : List Str} {E : St → XK} {pins : List (Addr × Obj)} {σ : St} {H : Hp} {s : Shared} {Q : VK} {us : List Value} {vs : List V} (M : Mk X.K C f) (F : FnOk X.prog X.w X.K X.mg X.base (L2.CX X.prog X.w) k f fd ps sp) (hr : Room (k + 1) X.A) (hb : Binds X.K fd ps [])
    (hx : PassesAt (L2.CX X.prog X.w) X σ (E σ)) (I : Inv X pins σ H s) (r : Vals vs us)
    (h : ∀ x dx, H x = none → H dx = none → dx ≠ x → sp (.ref x :: vs) (upd (upd H dx (.own x)) x (.ins C dx [])) (fun v H2 => v = .non ∧ Q (.ref x) H2) (E σ)) :
    wpAny (model X.prog X.w) X.A (call (.ref C) us) (EP X pins σ Q) X.xe s := by
  have hq := h (s.heap.objs.size + 1) s.heap.objs.size (I.hok.fresh (Nat.le_succ _)) (I.hok.fresh (Nat.le_refl _)) (Nat.ne_of_lt (Nat.lt_succ_self _))
  have I2 := Inv.made (C := C) I
  have r2 : Vals (V.ref (s.heap.objs.size + 1) :: vs) (Value.ref (s.heap.objs.size + 1) :: us) := .cons rfl r
  have hl : (Value.ref (s.heap.objs.size + 1) :: us).length = ps.length := by
    have e := r2.length
    rw [F.len _ _ _ _ hq] at e
    exact e.symm
  have b := hb _ (Value.ref (s.heap.objs.size + 1) :: us) I2.kIn (by rw [List.append_nil]; exact hl)
  rw [List.append_nil] at b
  refine wpAny_call (make_map (f := f) I.kIn M.makes M.init (beq_iff_eq.mp M.fn) (codeAny_mono (F.run _ X.stack _ _ ⟨Value.ref (s.heap.objs.size + 1) :: us, []⟩ (Value.ref (s.heap.objs.size + 1) :: us) _ _ (E σ) (hr.make C us [])
    (I2.env0.make C us []) b r2 hq) fun r s' hq' => ?_))
  cases r with
  | error e => exact hx pins _ _ e s' I2 hq'
  | ok fl =>
    cases fl with
    | ret u =>
      obtain ⟨v, H', I3, rv, ev, q3⟩ := I2.after hq'
      subst ev
      exact ⟨rv, ⟨V.ref (s.heap.objs.size + 1), H', I3, rfl, q3⟩⟩
    | next => exact False.elim hq'
    | brk => exact False.elim hq'
    | cont => exact False.elim hq'
theorem pe_mkG {E : St → XK} (c : Mak X.prog X.w X.K X.mg X.base k x C sp) (hr : Room j X.A) (hk : k + 1 ≤ j) (hg : Gl X x) (hx : ∀ σ, PassesAt (L2.CX X.prog X.w) X σ (E σ)) (ha : PA X (e :: es) t)
    (hdb : (x == ("__debug__" : Str)) = false := by decide) (he : starEach (e :: es) X.env = (false, eval e X.env) :: starEach es X.env := by rfl) (hpl : (backTo pos (starEach es X.env)).any (·.1) = false := by rfl) :
    PE X (.Call (.Name x p) (e :: es) [] pos) (tMkG C sp E t) := by
  obtain ⟨f, fd, ps, M, F, hm, b⟩ := c.ex
  refine ⟨fun pins s σ H Q I h => ?_⟩
  refine wpAny_Call_Name_kw (ld_glob I hg hm ?_ hdb)
  refine PySem.W.callWith_K (h₀ := X.base) I.ok.mod.kin M.kp (thn (ha.run pos pins s σ H _ I h) fun us s1 ⟨vs, H1, I1, r, q⟩ => ⟨I1.kIn, ?_⟩) he hpl
  exact run_makeS M F (hr.mono hk) b (hx σ) I1 r q
theorem pe_mkG0 {E : St → XK} (c : Mak X.prog X.w X.K X.mg X.base k x C sp) (hr : Room j X.A) (hk : k + 1 ≤ j) (hg : Gl X x) (hx : ∀ σ, PassesAt (L2.CX X.prog X.w) X σ (E σ))
    (hdb : (x == ("__debug__" : Str)) = false := by decide) : PE X (.Call (.Name x p) [] [] pos) (tMkG C sp E tNil) := by
  obtain ⟨f, fd, ps, M, F, hm, b⟩ := c.ex
  refine ⟨fun pins s σ H Q I h => ?_⟩
  refine wpAny_Call_Name_kw (ld_glob I hg hm ?_ hdb)
  exact PySem.W.callWith_K0 I.kIn M.kp (run_makeS (us := []) M F (hr.mono hk) b (hx σ) I .nil h)
theorem pe_gc {v : V} (hg : Gl X x) (h : ∃ u, X.mg x = some u ∧ RelV v u) (hd : (x == ("__debug__" : Str)) = false := by decide) : PE X (.Name x pos) (tC v) := by
  obtain ⟨u, hm, r⟩ := h
  exact pe_glob hg hm r hd
/-- either of two readings -/
theorem PE.orr {e : Expr} {t u : TE} (h : PE X e t) (h' : PE X e u) : PE X e (fun σ H Q => t σ H Q ∨ u σ H Q) :=
  ⟨fun pins s σ H Q I q => q.elim (h.run pins s σ H Q I) (h'.run pins s σ H Q I)⟩
end
section
variable {X : Cx} {a : Addr} {oe : Obj} {pn : List (Addr × Obj)} {cls : Value} {d : Option Addr}
/-- isinstance(e, c), e the exception that the suite holds, whatever its class -/
def rIsX (K : PySem.W.Frag) (cls : Value) (d : Option Addr) (a : Addr) : List V → Hp → VK → Prop := fun xs H Q => ∃ (D : Addr) (c : V) (cv : Value) (b : Bool), cls = .ref D ∧ d = none ∧ ExcC K D ∧ xs = [.ref a, c] ∧ (∀ u, RelV c u → u = cv) ∧ PySem.W.kitOne K (.ref D) cv = some b ∧ Q (.bl b) H
theorem call_isX (hz : Zc cls d oe) (hf : ∃ vs, oe.data = .fields vs) : CallR (X.suite a ((a, oe) :: pn)) (.builtin "isinstance") (rIsX X.K cls d a) := by
  intro pins s σ H xs us Q I r h
  obtain ⟨D, c, cv, b, rfl, rfl, C, rfl, hcv, e, q⟩ := h
  exact call_isE C hz hf pins s σ H _ us Q I r ⟨c, cv, b, rfl, hcv, e, q⟩
/-- isinstance(e, (c1, c2, ..)) -/
def rIsXT (K : PySem.W.Frag) (cls : Value) (d : Option Addr) (a : Addr) : List V → Hp → VK → Prop := fun xs H Q => ∃ (D tp : Addr) (cs : List V) (us : List Value) (b : Bool), cls = .ref D ∧ d = none ∧ ExcC K D ∧ xs = [.ref a, .ref tp] ∧ H tp = some (.tup cs) ∧ Paired ClsV cs us ∧ PySem.W.kitAny K (.ref D) us = some b ∧ Q (.bl b) H
theorem call_isXT (hz : Zc cls d oe) (hf : ∃ vs, oe.data = .fields vs) : CallR (X.suite a ((a, oe) :: pn)) (.builtin "isinstance") (rIsXT X.K cls d a) := by
  intro pins s σ H xs us Q I r h
  obtain ⟨D, tp, cs, ws, b, rfl, rfl, C, rfl, hT, k, e, q⟩ := h
  obtain ⟨u1, u2, rfl, r1, r2⟩ := vals2 r
  cases (show u1 = Value.ref a from r1)
  cases (show u2 = Value.ref tp from r2)
  obtain ⟨hget, _⟩ := I.pin (a, oe) (List.mem_append.mpr (.inl List.mem_cons_self))
  obtain ⟨vs, hv⟩ := hf
  have J : PySem.W.InstAt s.heap a oe D none := by
    obtain ⟨oc, od, oda, osl⟩ := oe
    obtain ⟨h1, h2⟩ := hz
    dsimp only at h1 h2 hv
    subst h1 h2 hv
    exact ⟨hget, rfl, rfl, trivial⟩
  obtain ⟨_, its, rv, o, h1, h2, n, h3⟩ := (show ObjOk _ _ H s.heap tp (.tup cs) from I.hok tp _ hT)
  have e3 := ClsV.all k rv
  subst e3
  obtain ⟨oc, od, dt, sl⟩ := o
  simp only at h2 h3
  subst h2 h3
  exact PySem.W.kia_tup (PySem.W.handS_kitx_exc C.hg C.hk C.hs C.hd C.ha C.hn C.ht C.hm) I.kIn J h1 e (fun z => nomatch z) fun tk => ⟨.bl b, H, I.kept (t' := tk) fun _ _ z => z, rfl, q⟩
end
/-- a place where ways meet: P holds there, and the rest follows from P -/
theorem seq_cut {A rest : TS} {D : Ends} {σ : St} {H : Hp} (P : St → Hp → Prop) (h2 : ∀ σ' H', P σ' H' → rest D σ' H') (h1 : (∀ σ' H', P σ' H' → rest D σ' H') → A { D with nx := rest D } σ H) : tSeq A rest D σ H := h1 h2
theorem s_name {i : Nat} {v : V} {σ : St} {H : Hp} {R : St → Hp → Prop} (h : R (σ.set i (some v)) H) : gName i v σ H R := h
theorem s_setc {i : Nat} {v : V} {u : TS} {D : Ends} {σ : St} {H : Hp} (h : u D (σ.set i (some v)) H) : tSeq (tAsg (tC v) (gName i)) u D σ H := h
/-! ### heaps -/
theorem same_upd {H : Hp} {p : Addr} {o : HO} (n : H p = none) : Same H (upd H p o) := fun b u e => by rw [upd_ne (ne_of_none e n)]; exact e
theorem up_new {H : Hp} {p a : Addr} {o u : HO} (n : H p = none) (h : H a = some u) : upd H p o a = some u := same_upd n a u h
theorem up_ne {H : Hp} {p a : Addr} {o u : HO} (n : a ≠ p) (h : H a = some u) : upd H p o a = some u := by rw [upd_ne n]; exact h
/-- all but the objects at F are as they were -/
def Frm (F : List Addr) (H H' : Hp) : Prop := ∀ b o, H b = some o → b ∉ F → H' b = some o
theorem Frm.refl (F : List Addr) (H : Hp) : Frm F H H := fun _ _ e _ => e
theorem Frm.of_same {F : List Addr} {H H' : Hp} (s : Same H H') : Frm F H H' := fun b o e _ => s b o e
theorem Frm.same {H H' : Hp} (s : Frm [] H H') : Same H H' := fun b o e => s b o e (by simp)
theorem Frm.trans {F : List Addr} {H H1 H2 : Hp} (a : Frm F H H1) (b : Frm F H1 H2) : Frm F H H2 := fun c o e n => b c o (a c o e n) n
/-- the second step may also change what the first one made -/
theorem Frm.trans' {F G : List Addr} {H H1 H2 : Hp} (a : Frm F H H1) (b : Frm G H1 H2) (g : ∀ x, x ∈ G → x ∈ F ∨ H x = none) : Frm F H H2 := fun c o e n => b c o (a c o e n) fun z => (g c z).elim n fun q => by rw [q] at e; cases e
theorem Frm.upd {F : List Addr} {H H' : Hp} {p : Addr} {o : HO} (a : Frm F H H') (hp : p ∈ F ∨ H p = none) : Frm F H (upd H' p o) := fun c u e n => by
  have : c ≠ p := fun z => by subst z; exact hp.elim n fun q => by rw [q] at e; cases e
  rw [upd_ne this]; exact a c u e n
theorem Frm.at {F : List Addr} {H H' : Hp} {a : Addr} {o : HO} (f : Frm F H H') (n : a ∉ F) (h : H a = some o) : H' a = some o := f a o h n
theorem Frm.mono {F G : List Addr} {H H' : Hp} (f : Frm F H H') (g : ∀ x, x ∈ F → x ∈ G) : Frm G H H' := fun b o e n => f b o e fun z => n (g b z)
theorem Frm.free {F : List Addr} {H H' : Hp} (f : Frm F H H') {l : Addr} (h : H' l = none) (n : l ∉ F) : H l = none := by
  cases q : H l with
  | none => rfl
  | some o => rw [f l o q n] at h; cases h
/-- what never changes: tuples, and what is locked -/
def immO : HO → Bool
  | .tup _ => true
  | .frz _ _ => true
  | _ => false
def Imm (H H' : Hp) : Prop := ∀ b o, H b = some o → immO o = true → H' b = some o
theorem Imm.refl (H : Hp) : Imm H H := fun _ _ e _ => e
theorem Imm.trans {H H1 H2 : Hp} (a : Imm H H1) (b : Imm H1 H2) : Imm H H2 := fun c o e i => b c o (a c o e i) i
theorem Imm.of_same {H H' : Hp} (s : Same H H') : Imm H H' := fun b o e _ => s b o e
theorem Frm.imm {F : List Addr} {H H' : Hp} (f : Frm F H H') (n : ∀ p ∈ F, ∀ o, H p = some o → immO o = false) : Imm H H' := fun b o e i => f b o e fun z => by rw [n b z o e] at i; cases i
theorem Imm.upd {H H' : Hp} {p : Addr} {o u : HO} (a : Imm H H') (e : H' p = some u) (h : immO u = false) : Imm H (upd H' p o) := fun c w z i => by
  have : c ≠ p := fun q => by
    subst q
    rw [a c w z i] at e
    cases e
    rw [h] at i
    cases i
  rw [upd_ne this]; exact a c w z i
theorem Imm.sqT {K : PySem.W.Frag} {H H' : Hp} {a : Addr} {xs : List V} (m : Imm H H') (h : SqT K H a xs) : SqT K H' a xs := by
  rcases h with (h | ⟨o, h⟩) | h
  · exact .inl (.inl (m _ _ h rfl))
  · exact .inl (.inr ⟨o, m _ _ h rfl⟩)
  · exact .inr h
mutual
/-- data without lists and dicts -/
def tupD : PyData → Bool
  | .tuple xs => tupDs xs
  | .list _ => false
  | .dict _ => false
  | _ => true
def tupDs : List PyData → Bool
  | [] => true
  | x :: xs => tupD x && tupDs xs
end
mutual
theorem Dp.imm {K : PySem.W.Frag} {H H' : Hp} (m : Imm H H') : ∀ (d : PyData) (v : V), tupD d = true → Dp K H v d → Dp K H' v d
  | .none, _, _, h => by cases h; exact .non
  | .bool b, _, _, h => by cases h; exact .bl b
  | .int i, _, _, h => by cases h; exact .int i
  | .str x, _, _, h => by cases h; exact .str x
  | .list _, _, t, _ => by simp [tupD] at t
  | .dict _, _, t, _ => by simp [tupD] at t
  | .tuple ds, _, t, h => by
    cases h with
    | tup hs ha => exact .tup (m.sqT hs) (DpAll.imm m ds _ (by simpa [tupD] using t) ha)
theorem DpAll.imm {K : PySem.W.Frag} {H H' : Hp} (m : Imm H H') : ∀ (ds : List PyData) (vs : List V), tupDs ds = true → DpAll K H vs ds → DpAll K H' vs ds
  | [], _, _, h => by cases h; exact .nil
  | d :: ds, _, t, h => by
    have t' : tupD d = true ∧ tupDs ds = true := by simpa [tupDs] using t
    cases h with
    | cons a b => exact .cons (Dp.imm m d _ t'.1 a) (DpAll.imm m ds _ t'.2 b)
end
theorem nodup_len {α : Type} [DecidableEq α] : ∀ {a b : List α}, a.Nodup → (∀ x ∈ a, x ∈ b) → a.length ≤ b.length
  | [], _, _, _ => Nat.zero_le _
  | x :: a, b, nd, h => by
    obtain ⟨n1, n2⟩ := List.nodup_cons.mp nd
    have hx : x ∈ b := h x (by simp)
    have h2 := nodup_len (a := a) (b := b.erase x) n2 fun y hy => (List.mem_erase_of_ne fun z => n1 (by rw [← z]; exact hy)).mpr (h y (by simp [hy]))
    rw [List.length_erase_of_mem hx] at h2
    have := List.length_pos_of_mem hx
    rw [List.length_cons]
    omega
theorem map_set {α β : Type} (f : α → β) (l : List α) (j : Nat) (a : α) : (l.map f).set j (f a) = (l.set j a).map f := by rw [List.map_set]
theorem ixN_nat {n j : Nat} (h : j < n) : ixN n (j : Int) = some j := by unfold ixN; rw [if_pos (by omega), if_pos (by omega)]; simp
theorem isint {ns : List Int} {i : Nat} {y : V} (h : (ns.map V.int)[i]? = some y) : ∃ z, y = V.int z ∧ ns[i]? = some z := by
  rw [List.getElem?_map] at h
  cases e : ns[i]? with
  | none => rw [e] at h; cases h
  | some z => rw [e] at h; exact ⟨z, (Option.some.inj h).symm, rfl⟩
end PL
namespace PL
open PySem L2
theorem units65 {k : Nat} {A : Around} (r : Room k A) : A.units + 65 < cLine := by have := r.un; omega
section
variable {X : Cx} {K : PySem.W.Frag}
/-- in a comprehension's block the written part is said by its name -/
theorem kx_ix {F : PySem.W.Frag → R2} (h : X.K = K) (r : IxR X (F X.K)) : IxR X (F K) := h ▸ r
theorem kx_call {f : Value} {F : PySem.W.Frag → List V → Hp → VK → Prop} (h : X.K = K) (r : CallR X f (F X.K)) : CallR X f (F K) := h ▸ r
theorem kx_op {f : Value → Value → Sem Value} {F : PySem.W.Frag → R2} (h : X.K = K) (r : OpR X f (F X.K)) : OpR X f (F K) := h ▸ r
theorem kx_sl {F : PySem.W.Frag → V → Option Int → Option Int → Hp → VK → Prop} (h : X.K = K) (r : SlR X (F X.K)) : SlR X (F K) := h ▸ r
theorem kx_fld {e : Expr} {f : Str} {pos : Pos} {ta : TE} (h : X.K = K) (he : PE X e ta) (hb : attributeBase e f X.env (eval e X.env) = eval e X.env) : PE X (.Attribute e f pos) (tFld K ta f) := h ▸ pe_fld he hb
end
theorem sqT_ty {K : PySem.W.Frag} {H : Hp} {a : Addr} {xs : List V} (h : SqT K H a xs) : TyX K H (.ref a) (.type "tuple") := by
  rcases h with (h | ⟨o, h⟩) | ⟨o, its, n, h1, h2, _⟩
  · exact .base (.tup h)
  · exact .fTuple h
  · exact .kTuple h1 h2
/-- what stood at the beginning stands, where only new things are changed -/
theorem Same.frm {F : List Addr} {H0 H H' : Hp} (s : Same H0 H) (f : Frm F H H') (n : ∀ x ∈ F, H0 x = none) : Same H0 H' := fun b o e => f b o (s b o e) fun z => by rw [n b z] at e; cases e
/-- isinstance, except: from what the classes' rows say -/
theorem kit_sub {K : PySem.W.Frag} {A B : Addr} {b : Bool} (h1 : PySem.W.isClsIn K B = true) (h2 : PySem.W.typeIn K (.ref B) = some (.type "type")) (h3 : PySem.W.subIn K (.ref A) (.ref B) = some b) (hn : (Value.ref A == Value.ref B) = false) : PySem.W.kitOne K (.ref A) (.ref B) = some b := by
  unfold PySem.W.kitOne PySem.W.kitCls
  rw [hn]
  simp only [Bool.false_eq_true, if_false]
  have h1' : (PySem.W.clsIn K B).isSome = true := h1
  rw [h1', h2]
  simp only [beq_self_eq_true, Bool.and_self, if_true]
  exact h3
theorem kit_self {K : PySem.W.Frag} {A : Addr} (h : (Value.ref A == Value.ref A) = true) : PySem.W.kitOne K (.ref A) (.ref A) = some true := by
  unfold PySem.W.kitOne
  rw [if_pos h]
theorem kit_type {K : PySem.W.Frag} {A : Addr} {T : String} {b : Bool} (h1 : PySem.W.kitMeta T = true) (h3 : PySem.W.subIn K (.ref A) (.type T) = some b) (hn : (Value.ref A == Value.type T) = false) : PySem.W.kitOne K (.ref A) (.type T) = some b := by
  unfold PySem.W.kitOne PySem.W.kitCls
  rw [hn]
  simp only [Bool.false_eq_true, if_false]
  rw [if_pos h1]
  exact h3
theorem exm_sub {K : PySem.W.Frag} {A B : Addr} {b : Bool} (h0 : PySem.W.subIn K (.ref B) (.type "BaseException") = some true) (h1 : PySem.W.isClsIn K B = true) (h2 : PySem.W.typeIn K (.ref B) = some (.type "type")) (h3 : PySem.W.subIn K (.ref A) (.ref B) = some b) : PySem.W.exmOne K (.ref A) (.ref B) = some b := by
  unfold PySem.W.exmOne PySem.W.kitCls
  have h1' : (PySem.W.clsIn K B).isSome = true := h1
  rw [h0, if_pos (by simp)]
  simp only [h1', h2, beq_self_eq_true, Bool.and_self, if_true]
  exact h3
end PL

set_option Elab.async false
set_option linter.all false
set_option maxRecDepth 100000
set_option maxHeartbeats 4000000
/-! LawBase: what many laws' own helpers ask. -/
namespace PL
open PySem L2
/-- a well: a list of four whole numbers -/
def WellAt (H : Hp) (p : Addr) : Prop := ∃ ws : List Int, ws.length = 4 ∧ H p = some (.lst (ws.map V.int))
theorem WellAt.same {H H' : Hp} {p : Addr} (h : WellAt H p) (s : Same H H') : WellAt H' p := let ⟨ws, e, q⟩ := h; ⟨ws, e, s _ _ q⟩
theorem WellAt.upd {H : Hp} {p q : Addr} {o : HO} (h : WellAt H p) (n : p ≠ q) : WellAt (upd H q o) p := let ⟨ws, e, z⟩ := h; ⟨ws, e, by rw [upd_ne n]; exact z⟩
theorem WellAt.frm {F : List Addr} {H H' : Hp} {p : Addr} (h : WellAt H p) (s : Frm F H H') (n : p ∉ F) : WellAt H' p := let ⟨ws, e, q⟩ := h; ⟨ws, e, s.at n q⟩
theorem small64 {r : Int} (h0 : 0 ≤ r) (h1 : r < 2147483647) : -(2 ^ 64) < r ∧ r < 2 ^ 64 := ⟨by omega, by omega⟩
end PL
namespace L2
open PySem PL
/-! ### lists of data -/
section
variable {K : PySem.W.Frag} {H : Hp}
theorem DpAll.len : ∀ {vs : List V} {ds : List PyData}, DpAll K H vs ds → vs.length = ds.length
  | _, _, .nil => rfl
  | _, _, .cons _ t => by rw [List.length_cons, List.length_cons, DpAll.len t]
theorem DpAll.get : ∀ {vs : List V} {ds : List PyData} {i : Nat} {d : PyData}, DpAll K H vs ds → ds[i]? = some d → ∃ v, vs[i]? = some v ∧ Dp K H v d
  | _, _, i, _, .nil, e => by simp at e
  | _, _, 0, _, .cons r _, e => by simp at e; subst e; exact ⟨_, rfl, r⟩
  | _, _, i + 1, d, .cons _ t, e => by
    obtain ⟨v, h1, h2⟩ := DpAll.get (i := i) (d := d) t (by simpa using e)
    exact ⟨v, by simpa using h1, h2⟩
theorem DpAll.app : ∀ {vs ws : List V} {ds es : List PyData}, DpAll K H vs ds → DpAll K H ws es → DpAll K H (vs ++ ws) (ds ++ es)
  | _, _, _, _, .nil, s => s
  | _, _, _, _, .cons r t, s => .cons r (DpAll.app t s)
theorem DpAll.take : ∀ {vs : List V} {ds : List PyData} (n : Nat), DpAll K H vs ds → DpAll K H (vs.take n) (ds.take n)
  | _, _, 0, _ => .nil
  | _, _, _ + 1, .nil => .nil
  | _, _, n + 1, .cons r t => .cons r (DpAll.take n t)
theorem DpAll.drop : ∀ {vs : List V} {ds : List PyData} (n : Nat), DpAll K H vs ds → DpAll K H (vs.drop n) (ds.drop n)
  | _, _, 0, r => r
  | _, _, _ + 1, .nil => .nil
  | _, _, n + 1, .cons _ t => DpAll.drop n t
theorem DpAll.erase : ∀ {vs : List V} {ds : List PyData} (n : Nat), DpAll K H vs ds → DpAll K H (vs.eraseIdx n) (ds.eraseIdx n)
  | _, _, _, .nil => .nil
  | _, _, 0, .cons _ t => t
  | _, _, n + 1, .cons r t => .cons r (DpAll.erase n t)
theorem DpAll.of_paired {β : Type} {enc : β → PyData} {R : V → β → Prop} (f : ∀ y b, R y b → Dp K H y (enc b)) : ∀ {ys : List V} {bs : List β}, Paired R ys bs → DpAll K H ys (bs.map enc)
  | _, _, .nil => .nil
  | _, _, .cons r t => .cons (f _ _ r) (DpAll.of_paired f t)
theorem DpAll.paired {β : Type} {enc : β → PyData} : ∀ {ys : List V} {bs : List β}, DpAll K H ys (bs.map enc) → Paired (fun y b => Dp K H y (enc b)) ys bs
  | [], [], _ => .nil
  | [], b :: bs, h => by cases h
  | y :: ys, [], h => by cases h
  | y :: ys, b :: bs, h => by cases h with | cons r t => exact .cons r (DpAll.paired t)
end
end L2
namespace PL
open PySem L2
theorem Dp.same {K : PySem.W.Frag} {H H' : Hp} (s : Same H H') {d : PyData} {v : V} (t : tupD d = true) (h : Dp K H v d) : Dp K H' v d := Dp.imm (Imm.of_same s) d v t h
theorem tupDs_map {β : Type} {enc : β → PyData} (h : ∀ b, tupD (enc b) = true) : ∀ bs : List β, tupDs (bs.map enc) = true
  | [] => rfl
  | b :: bs => by simp [tupDs, h b, tupDs_map h bs]
end PL

set_option Elab.async false
set_option linter.all false
set_option maxRecDepth 100000
set_option maxHeartbeats 4000000
/-! Ord: the order of nested data, sorted lists of tuples, list.remove of data. -/
namespace PL
open PySem L2
section
variable {X : Cx}
/-- x < y of data -/
def rLtD (K : PySem.W.Frag) : R2 := fun x y H Q => ∃ d e, Dp K H x d ∧ Dp K H y e ∧ PySem.W.alike d e = true ∧ d ≠ .none ∧ d.depth ≤ 60 ∧ Q (.bl (PySem.W.dataLt d e)) H
theorem op_ltD (hu : X.A.units + 64 < cLine) : OpR X (compareOp .Lt) (rLtD X.K) := by
  intro pins s σ H x y v u Q I rx ry h
  obtain ⟨d, e, hd, he, ha, hn, hz, q⟩ := h
  obtain ⟨as, r1⟩ := Dp.reads I d x v hd rx
  obtain ⟨bs, r2⟩ := Dp.reads I e y u he ry
  exact PySem.W.rcLt_alike d e X.A s v u as bs r1 r2 ha hn (by omega) X.prog X.w _ _ ⟨.bl _, H, I, rfl, q⟩
/-- sorted(xs), xs a list; R is whatever the items stand for -/
def rSortD (K : PySem.W.Frag) : List V → Hp → VK → Prop := fun xs H Q => ∃ (p : Addr) (vs : List V) (β : Type) (enc : β → PyData) (bs : List β) (R : V → β → Prop), xs = [.ref p] ∧ (SqL K H p vs) ∧ Paired R vs bs ∧ (∀ y b, R y b → Dp K H y (enc b)) ∧
  PySem.W.AllAlike (bs.map enc) ∧ PySem.W.Sortable (bs.map enc) ∧ (∀ b ∈ bs, (enc b).depth ≤ 60) ∧ ∀ q ys, H q = none → Paired R ys (bs.mergeSort (PySem.W.dataLe false enc)) → Q (.ref q) (upd H q (.lst ys))
theorem each_of {β : Type} {R : V → β → Prop} : ∀ {vs : List V} {us : List Value} {bs : List β}, Vals vs us → Paired R vs bs → PySem.W.EachIs (fun u b => ∃ y, RelV y u ∧ R y b) us bs
  | _, _, _, .nil, .nil => .nil
  | _, _, _, .cons r t, .cons q u => .cons ⟨_, r, q⟩ (each_of t u)
theorem of_each {β : Type} {R : V → β → Prop} : ∀ {us : List Value} {bs : List β}, PySem.W.EachIs (fun u b => ∃ y, RelV y u ∧ R y b) us bs → ∃ ys, Vals ys us ∧ Paired R ys bs
  | _, _, .nil => ⟨[], .nil, .nil⟩
  | _, _, .cons ⟨y, r, q⟩ t => let ⟨ys, a, b⟩ := of_each t; ⟨y :: ys, .cons r a, .cons q b⟩
theorem call_sortD (hu : X.A.units + 64 < cLine) : CallR X (.builtin "sorted") (rSortD X.K) := by
  intro pins s σ H xs us Q I r h
  obtain ⟨p, vs, β, enc, bs, R, rfl, hS, hR, hD, hal, hk, hz, q⟩ := h
  obtain ⟨u, rfl, ru⟩ := vals1 r
  cases (show u = Value.ref p from ru)
  obtain ⟨its, rv, pl, hlen⟩ := I.list hS
  have e1 := each_of rv hR
  have l1 := rv.length
  have l2 := hR.length
  refine PySem.W.sorted_data (enc := enc) pl.isList e1 (e1.mono fun u b ⟨y, a, c⟩ => Dp.reads I _ y u (hD y b c) a) hal hk (by omega) (fun b hb => by have := hz b hb; omega) fun out hl e2 => ?_
  obtain ⟨ys, r3, p3⟩ := of_each e2
  have l3 := r3.length
  refine ⟨.ref (s.heap.objs.size + 1), upd H (s.heap.objs.size + 1) (.lst ys), I.laid (t' := s.toks) (fun b o e => PyProof.Rows.sortedAll_old e) (Nat.le_succ _) ?_, rfl, q _ ys (I.hok.fresh (Nat.le_succ _)) p3⟩
  obtain ⟨n, e⟩ := PyProof.Rows.sortedAll_at s.heap its out.toArray
  exact ⟨by omega, out, n, r3, e⟩
end
end PL
namespace PL
open PySem PySem.MeetsSeq PySem.SeqAt
open PySem.AutoSeq1 (wpAny_loadPart')
theorem remove_loopAt (l : Addr) (items : Array Value) (n : Nat) (x : Value) (e : Value → Bool) (j : Nat) (hj : j < items.size) (hit : e items[j] = true) (k : Nat) (hs1 : items.size ≤ sizeLine) :
    ∀ i : Nat, j - i = k → i ≤ j → (∀ m (hm : m < items.size), i ≤ m → m < j → e items[m] = false) → Meets (Builtin.«list.remove.loop» ⟨[.ref l, x, rawInt i], []⟩)
      (fun A R s => s.heap.get? l = some { cls := .type "list", dict := none, data := .seq items n, slots := #[] } ∧ (∀ y, y ∈ items → EqAt A.in1 s y x (e y)) ∧ R (.ok (.ret .none)) { s with heap := s.heap.update l (Obj.mapSeq fun xs => xs.eraseIdxIfInBounds j) }) := by
  induction k with
  | zero =>
    intro i hk hij hno prog w A R s h
    obtain ⟨hp, g, d, tk, os⟩ := s; obtain ⟨hl, he, h⟩ := h
    have hij' : i = j := by omega
    subst hij'
    wp_walk using wpAny_loadPart' hl
    have hi : items[((i : Nat) : Int).toNat]? = some items[i] := by simp [hj]
    rw [hi]
    refine wpAny_bind (he _ (Array.getElem_mem hj) prog w _ _ ?_)
    rw [hit]
    have hz' : (items.eraseIdxIfInBounds i).size ≤ sizeLine + 1 := Nat.le_trans (size_erased items _) (Nat.le_succ_of_le hs1)
    wp_walk using (wpAny_updateSeq hl rfl (hz := hs1) (_hz' := hz')), wpAny_loadPart' hl
    simpa using h
  | succ k ih =>
    intro i hk hij hno prog w A R s h
    obtain ⟨hp, g, d, tk, os⟩ := s; obtain ⟨hl, he, h⟩ := h
    have hlt : i < items.size := by omega
    wp_walk using wpAny_loadPart' hl
    have hi : items[((i : Nat) : Int).toNat]? = some items[i] := by simp [hlt]
    have hc : ((i : Int) + 1) = ((i + 1 : Nat) : Int) := by push_cast; rfl
    rw [hi]
    refine wpAny_bind (he _ (Array.getElem_mem hlt) prog w _ _ ?_)
    rw [hno i hlt (Nat.le_refl _) (by omega)]
    wp_walk
    rw [hc]
    exact ⟨plainId_quiet plain_remove_loop _, codeAny_builtin entry_remove_loop (by
      rw [Around.under_plainId plain_remove_loop _]
      exact ih (i + 1) (by omega) (by omega) (fun m hm h1 h2 => hno m hm (by omega) h2) prog w A R _ ⟨hl, he, h⟩)⟩
theorem list_removeAt (l : Addr) (items : Array Value) (n : Nat) (x : Value) (e : Value → Bool) (j : Nat) (hj : j < items.size)
    (hit : e items[j] = true) (hno : ∀ m (hm : m < items.size), m < j → e items[m] = false) (hs1 : items.size ≤ sizeLine) :
    Meets (Builtin.«list.remove» ⟨[.ref l, x], []⟩)
      (fun A R s => s.heap.get? l = some { cls := .type "list", dict := none, data := .seq items n, slots := #[] } ∧ (∀ y, y ∈ items → EqAt A.in1 s y x (e y)) ∧ R (.ok (.ret .none)) { s with heap := s.heap.update l (Obj.mapSeq fun xs => xs.eraseIdxIfInBounds j) }) := by
  intro prog w A R s h
  obtain ⟨hp, g, d, tk, os⟩ := s; obtain ⟨hl, he, h⟩ := h
  wp_walk using wpAny_loadPart' hl
  exact ⟨plainId_quiet plain_remove_loop _, codeAny_builtin entry_remove_loop (by
    rw [Around.under_plainId plain_remove_loop _]
    exact remove_loopAt l items n x e j hj hit _ hs1 0 rfl (Nat.zero_le _) (fun m hm _ h2 => hno m hm h2) prog w A R _ ⟨hl, he, h⟩)⟩
end PL
namespace PL
open PySem L2 PySem.Spec PyProof.Rows
section
variable {X : Cx}
/-- l.remove(x) of data that is there -/
def rRemD (K : PySem.W.Frag) : V → List V → Hp → VK → Prop := fun x xs H Q => ∃ (l : Addr) (vs : List V) (y : V) (d : PyData) (ds : List PyData) (j : Nat) (z : PyData), x = V.ref l ∧ xs = [y] ∧ H l = some (.lst vs) ∧ DpAll K H vs ds ∧ Dp K H y d ∧
  SeqAt.shaped (.list ds) = true ∧ SeqAt.shaped d = true ∧ ds[j]? = some z ∧ PyData.eqv z d = true ∧ (∀ (m : Nat) (z' : PyData), m < j → ds[m]? = some z' → PyData.eqv z' d = false) ∧ Q .non (upd H l (.lst (vs.eraseIdx j)))
theorem mt_removeD (hu : X.A.units + 65 < cLine) : MtM X "list.remove" (rRemD X.K) := by
  intro pins s σ H x xs v us Q I rx rxs h
  obtain ⟨l, vs, y, d, ds, j, z, rfl, rfl, hH, ha, hy, sl, sd, hz, hzj, hno, q⟩ := h
  cases rx
  obtain ⟨uy, rfl, ry⟩ := rxs.one
  obtain ⟨bs, r1⟩ := Dp.reads I d y uy hy ry
  have hxs : PyData.canLayAll0 ds = true := SeqAt.canLay_of_shaped sl
  have hroom : X.A.units + 1 + min (PyData.depthAll ds) d.depth < cLine := room_in_shaped sd hu
  obtain ⟨zz, its, n, r, hl, e⟩ := I.lstM hH
  obtain ⟨as, h4⟩ := Dp.readsAll I ds _ its ha r
  have hn : its.length = ds.length := SeqAt.ReadsAll.length ds its as h4
  have hmap : its.map (SeqAt.readOf s.heap) = ds := SeqAt.readsAll_map ds its as hxs h4
  obtain ⟨hjd, _⟩ := List.getElem?_eq_some_iff.mp hz
  have hjl : j < its.length := by omega
  have hj : j < its.toArray.size := by simpa using hjl
  have at_ : ∀ (m : Nat) (hm : m < its.toArray.size) (z' : PyData), ds[m]? = some z' → SeqAt.readOf s.heap its.toArray[m] = z' := by
    intro m hm z' hz'
    have hml : m < its.length := by simpa using hm
    rw [← hmap, List.getElem?_map, List.getElem?_eq_getElem hml] at hz'
    have e1 : SeqAt.readOf s.heap its[m] = z' := Option.some.inj (show some (SeqAt.readOf s.heap its[m]) = some z' from hz')
    simpa using e1
  refine call_meets PySem.F.slot_list_remove ⟨_, e, rfl⟩ PySem.F.entry_list_remove (PySem.F.args_list_remove_2 _ _)
    (list_removeAt l its.toArray n uy (fun u => PyData.eqv (SeqAt.readOf s.heap u) d) j hj ?_ ?_ (by rw [List.size_toArray]; omega)) ⟨e, SeqAt.items_eqAt (vs := its.toArray) (show ReadsAll s.heap its.toArray.toList ds as from h4) r1 hxs (SeqAt.canLay_of_shaped sd) hroom, ?_⟩
  · show PyData.eqv (SeqAt.readOf s.heap its.toArray[j]) d = true
    rw [at_ j hj z hz]
    exact hzj
  · intro m hm hmj
    have hmd : m < ds.length := by have : m < its.length := by simpa using hm
                                   omega
    have hz' : ds[m]? = some ds[m] := List.getElem?_eq_getElem hmd
    show PyData.eqv (SeqAt.readOf s.heap its.toArray[m]) d = false
    rw [at_ m hm _ hz']
    exact hno m _ hmj hz'
  · have rr := r.eraseIdx j
    refine ⟨.non, _, I.lset (its' := its.eraseIdx j) (t' := s.toks) hH e ?_ rr ?_, rfl, q⟩
    · show its.toArray.eraseIdxIfInBounds j = (its.eraseIdx j).toArray
      rw [List.eraseIdxIfInBounds_toArray]
    · have := List.length_eraseIdx_le vs j
      omega
end
end PL

set_option Elab.async false
set_option linter.all false
set_option maxRecDepth 100000
set_option maxHeartbeats 4000000
/-! Ent: entries of an index: a value and a row's number. -/
namespace PL
open PySem L2
/-- a value, a number -/
abbrev Ent := Int × (Int × Int)
def entD (e : Ent) : PyData := .tuple [.int e.1, .tuple [.int e.2.1, .int e.2.2]]
/-- the order of entries -/
def elt (a b : Ent) : Prop := a.1 < b.1 ∨ (a.1 = b.1 ∧ (a.2.1 < b.2.1 ∨ (a.2.1 = b.2.1 ∧ a.2.2 < b.2.2)))
instance (a b : Ent) : Decidable (elt a b) := by unfold elt; infer_instance
theorem elt_irr (a : Ent) : ¬ elt a a := by unfold elt; omega
theorem elt_tr {a b c : Ent} (h : elt a b) (k : elt b c) : elt a c := by unfold elt at *; omega
theorem elt_tot {a b : Ent} (h : ¬ elt a b) (k : ¬ elt b a) : a = b := by
  obtain ⟨a1, a2, a3⟩ := a
  obtain ⟨b1, b2, b3⟩ := b
  unfold elt at h k
  simp only at h k
  have e1 : a1 = b1 := by omega
  have e2 : a2 = b2 := by omega
  have e3 : a3 = b3 := by omega
  rw [e1, e2, e3]
theorem elt_as {a b : Ent} (h : elt a b) : ¬ elt b a := fun k => elt_irr _ (elt_tr h k)
theorem entD_alike (a b : Ent) : PySem.W.alike (entD a) (entD b) = true := by simp [entD, PySem.W.alike, PySem.W.alikeAll]
theorem entD_eqv (a b : Ent) : PyData.eqv (entD a) (entD b) = decide (a = b) := by
  obtain ⟨a1, a2, a3⟩ := a
  obtain ⟨b1, b2, b3⟩ := b
  simp only [entD, PyData.eqv, PyData.eqvAll, Bool.and_true]
  by_cases h1 : a1 = b1
  · by_cases h2 : a2 = b2
    · by_cases h3 : a3 = b3
      · subst h1 h2 h3; simp
      · simp [h3]
    · simp [h2]
  · simp [h1]
theorem entD_lt (a b : Ent) : PySem.W.dataLt (entD a) (entD b) = decide (elt a b) := by
  obtain ⟨a1, a2, a3⟩ := a
  obtain ⟨b1, b2, b3⟩ := b
  unfold entD
  rw [PySem.W.dataLt_pair (by simp [PySem.W.alike]) (by simp [PySem.W.alike, PySem.W.alikeAll]), PySem.W.dataLt_int, PySem.W.dataLt_ii]
  simp only [PyData.eqv, PyData.eqvAll, Bool.and_true]
  by_cases h1 : a1 = b1
  · subst h1
    rw [if_pos (by simp)]
    by_cases h : a2 = b2 ∧ a3 = b3
    · obtain ⟨h2, h3⟩ := h
      subst h2 h3
      rw [if_pos (by simp)]
      exact (decide_eq_false (elt_irr _)).symm
    · rw [if_neg (by simp; omega)]
      refine decide_eq_decide.mpr ?_
      unfold elt
      simp
  · rw [if_neg (by simpa using h1)]
    refine decide_eq_decide.mpr ?_
    unfold elt
    simp only
    omega
theorem entD_tup (a : Ent) : tupD (entD a) = true := by simp [entD, tupD, tupDs]
theorem entD_shaped (a : Ent) : SeqAt.shaped (entD a) = true := by
  simp [entD, SeqAt.shaped, PyData.canLay0, PyData.canLayAll0, PyData.depth, PyData.depthAll]
theorem entD_depth (a : Ent) : (entD a).depth = 2 := by simp [entD, PyData.depth, PyData.depthAll]
theorem entDs_shaped (es : List Ent) : SeqAt.shaped (.list (es.map entD)) = true := by
  have h1 : ∀ l : List Ent, PyData.canLayAll0 (l.map entD) = true := fun l => by
    induction l with
    | nil => rfl
    | cons a l ih => simp [PyData.canLayAll0, ih, entD, PyData.canLay0]
  have h2 : ∀ l : List Ent, PyData.depthAll (l.map entD) ≤ 2 := fun l => by
    induction l with
    | nil => exact Nat.zero_le _
    | cons a l ih =>
      simp only [List.map_cons, PyData.depthAll, entD_depth]
      omega
  have h3 := h2 es
  show (PyData.canLay0 (.list (es.map entD)) && decide (PyData.depth (.list (es.map entD)) ≤ 64)) = true
  rw [Bool.and_eq_true]
  refine ⟨by simp only [PyData.canLay0]; exact h1 es, decide_eq_true ?_⟩
  simp only [PyData.depth]
  omega
theorem entDs_eqv : ∀ (a b : List Ent), PyData.eqvAll (a.map entD) (b.map entD) = decide (a = b)
  | [], [] => rfl
  | [], _ :: _ => rfl
  | _ :: _, [] => rfl
  | x :: a, y :: b => by
    simp only [List.map_cons, PyData.eqvAll, entD_eqv, entDs_eqv a b]
    by_cases h : x = y <;> by_cases k : a = b <;> simp [h, k]
/-- rising entries -/
abbrev Rise (es : List Ent) : Prop := es.Pairwise elt
theorem Rise.nodup {es : List Ent} (h : Rise es) : es.Nodup := h.imp fun {a b} r e => by subst e; exact elt_irr _ r
/-- two rising lists of the same entries are one -/
theorem Rise.eq : ∀ {a b : List Ent}, Rise a → Rise b → (∀ x, x ∈ a ↔ x ∈ b) → a = b
  | [], [], _, _, _ => rfl
  | [], y :: b, _, _, h => absurd ((h y).mpr (by simp)) (by simp)
  | x :: a, [], _, _, h => absurd ((h x).mp (by simp)) (by simp)
  | x :: a, y :: b, ha, hb, h => by
    obtain ⟨xa, ha'⟩ := List.pairwise_cons.mp ha
    obtain ⟨yb, hb'⟩ := List.pairwise_cons.mp hb
    have e : x = y := by
      rcases List.mem_cons.mp ((h x).mp (by simp)) with e | e
      · exact e
      · rcases List.mem_cons.mp ((h y).mpr (by simp)) with e' | e'
        · exact e'.symm
        · exact absurd (elt_tr (yb x e) (xa y e')) (elt_irr _)
    subst e
    refine congrArg _ (Rise.eq ha' hb' fun z => ⟨fun m => ?_, fun m => ?_⟩)
    · rcases List.mem_cons.mp ((h z).mp (by simp [m])) with e | e
      · subst e; exact absurd (xa z m) (elt_irr _)
      · exact e
    · rcases List.mem_cons.mp ((h z).mpr (by simp [m])) with e | e
      · subst e; exact absurd (yb z m) (elt_irr _)
      · exact e
/-- sorted by the program's own order -/
theorem sort_rise {ks : List Ent} (nd : ks.Nodup) : Rise (ks.mergeSort (PySem.W.dataLe false entD)) := by
  have hle : PySem.W.dataLe false entD = fun a b => !decide (elt b a) := by
    funext a b
    show (!PySem.W.dataLt (entD b) (entD a)) = _
    rw [entD_lt]
  have hp := List.mergeSort_perm ks (PySem.W.dataLe false entD)
  have hs : (ks.mergeSort (PySem.W.dataLe false entD)).Pairwise fun a b => PySem.W.dataLe false entD a b = true := by
    refine List.pairwise_mergeSort (fun a b c h1 h2 => ?_) (fun a b => ?_) ks
    · rw [hle] at *
      simp only [Bool.not_eq_true', decide_eq_false_iff_not] at *
      intro q
      by_cases z : elt b a
      · exact h1 z
      · by_cases y : elt c b
        · exact h2 y
        · by_cases x : elt a b
          · exact h2 (elt_tr q x)
          · have : a = b := elt_tot x z
            subst this
            exact y q
    · rw [hle]
      by_cases z : elt b a
      · have := elt_as z; simp [z, this]
      · simp [z]
  have hn : (ks.mergeSort (PySem.W.dataLe false entD)).Nodup := hp.nodup_iff.mpr nd
  have h2 := hs.and hn
  refine h2.imp fun {a b} h => ?_
  obtain ⟨h, ne⟩ := h
  rw [hle] at h
  simp only [Bool.not_eq_true', decide_eq_false_iff_not] at h
  by_cases z : elt a b
  · exact z
  · exact absurd (elt_tot z h) ne
/-- the place of an entry among rising ones -/
def AtPlace (es : List Ent) (e : Ent) (k : Nat) : Prop := k ≤ es.length ∧ ∀ i x, es[i]? = some x → (i < k ↔ elt x e)
theorem AtPlace.get {es : List Ent} {e : Ent} {k : Nat} (h : AtPlace es e k) (r : Rise es) : es[k]? = some e ↔ e ∈ es := by
  constructor
  · exact List.mem_of_getElem?
  · intro m
    obtain ⟨i, hi⟩ := List.getElem?_of_mem m
    have h1 := (h.2 i e hi)
    have n1 : ¬ i < k := fun z => elt_irr _ (h1.mp z)
    rcases Nat.lt_or_ge k i with z | z
    · have hl : i < es.length := (List.getElem?_eq_some_iff.mp hi).1
      have hk : es[k]? = some es[k] := List.getElem?_eq_getElem (by omega)
      have h2 := h.2 k _ hk
      have : elt es[k] e := by
        have := List.pairwise_iff_getElem.mp r k i (by omega) hl z
        rw [(List.getElem?_eq_some_iff.mp hi).2] at this
        exact this
      exact absurd (h2.mpr this) (Nat.lt_irrefl _)
    · have : i = k := by omega
      rw [← this]; exact hi
theorem AtPlace.ins {es : List Ent} {e : Ent} {k : Nat} (h : AtPlace es e k) (r : Rise es) (n : e ∉ es) : Rise (es.take k ++ [e] ++ es.drop k) := by
  have ht : ∀ x ∈ es.take k, elt x e := fun x m => by
    obtain ⟨i, hi⟩ := List.getElem?_of_mem m
    have hl : i < k := by
      have := (List.getElem?_eq_some_iff.mp hi).1
      rw [List.length_take] at this
      omega
    rw [List.getElem?_take_of_lt hl] at hi
    exact (h.2 i x hi).mp hl
  have hd : ∀ x ∈ es.drop k, elt e x := fun x m => by
    obtain ⟨i, hi⟩ := List.getElem?_of_mem m
    rw [List.getElem?_drop] at hi
    have h1 := h.2 (k + i) x hi
    have h2 : ¬ elt x e := fun z => by have := h1.mpr z; omega
    by_cases z : elt e x
    · exact z
    · have := elt_tot h2 z
      subst this
      exact absurd (List.mem_of_getElem? hi) n
  have rr : Rise (es.take k ++ es.drop k) := by rw [List.take_append_drop]; exact r
  obtain ⟨r1, r2, r3⟩ := List.pairwise_append.mp rr
  rw [List.append_assoc]
  refine List.pairwise_append.mpr ⟨r1, List.pairwise_cons.mpr ⟨hd, r2⟩, fun a ha b hb => ?_⟩
  rcases List.mem_cons.mp hb with e | hb
  · subst e; exact ht a ha
  · exact r3 a ha b hb
theorem ins_mem {es : List Ent} {e : Ent} (k : Nat) (x : Ent) : x ∈ es.take k ++ [e] ++ es.drop k ↔ x = e ∨ x ∈ es := by
  have h : x ∈ es ↔ x ∈ es.take k ∨ x ∈ es.drop k := by
    rw [← List.mem_append, List.take_append_drop]
  simp only [List.mem_append, List.mem_singleton, h]
  constructor
  · rintro ((h | h) | h)
    · exact .inr (.inl h)
    · exact .inl h
    · exact .inr (.inr h)
  · rintro (h | h | h)
    · exact .inl (.inr h)
    · exact .inl (.inl h)
    · exact .inr h
theorem Rise.erase {es : List Ent} (r : Rise es) (k : Nat) : Rise (es.eraseIdx k) := r.sublist (List.eraseIdx_sublist es k)
theorem erase_mem {es : List Ent} {e : Ent} {k : Nat} (r : Rise es) (h : es[k]? = some e) (x : Ent) : x ∈ es.eraseIdx k ↔ x ∈ es ∧ x ≠ e := by
  have nd := r.nodup
  rw [List.mem_eraseIdx_iff_getElem?]
  constructor
  · rintro ⟨i, hne, hi⟩
    refine ⟨List.mem_of_getElem? hi, fun q => hne ?_⟩
    subst q
    exact nd_ix nd hi h
  · rintro ⟨m, ne⟩
    obtain ⟨i, hi⟩ := List.getElem?_of_mem m
    exact ⟨i, fun q => by subst q; rw [hi] at h; exact ne (Option.some.inj h), hi⟩
/-- an index at p, its list at l, its entries -/
structure IndexAt (K : PySem.W.Frag) (C : Addr) (H : Hp) (p l : Addr) (es : List Ent) : Prop where
  ob : ∃ dx, H p = some (.ins C dx [("entries", .ref l)])
  ls : ∃ vs, H l = some (.lst vs) ∧ DpAll K H vs (es.map entD)
  up : Rise es
  sz : es.length ≤ 1000
theorem IndexAt.frm {K : PySem.W.Frag} {C : Addr} {H H' : Hp} {p l : Addr} {es : List Ent} {F : List Addr} (h : IndexAt K C H p l es) (f : Frm F H H') (m : Imm H H') (np : p ∉ F) (nl : l ∉ F) : IndexAt K C H' p l es := by
  obtain ⟨⟨dx, h1⟩, ⟨vs, h2, h3⟩, h4, h5⟩ := h
  exact ⟨⟨dx, f.at np h1⟩, ⟨vs, f.at nl h2, DpAll.imm m _ _ (tupDs_map entD_tup _) h3⟩, h4, h5⟩
theorem IndexAt.same {K : PySem.W.Frag} {C : Addr} {H H' : Hp} {p l : Addr} {es : List Ent} (h : IndexAt K C H p l es) (s : Same H H') : IndexAt K C H' p l es := h.frm (F := []) (Frm.of_same s) (Imm.of_same s) (by simp) (by simp)
theorem map_take {α β : Type} (f : α → β) (l : List α) (n : Nat) : (l.map f).take n = (l.take n).map f := by rw [List.map_take]
/-- a bound: None or a whole number -/
def bV : Option Int → V
  | none => .non
  | some z => .int z
def loOk : Option Int → Int → Prop
  | none, _ => True
  | some z, x => z ≤ x
def hiOk : Option Int → Int → Prop
  | none, _ => True
  | some z, x => x ≤ z
instance (o : Option Int) (x : Int) : Decidable (loOk o x) := by cases o <;> (unfold loOk; infer_instance)
instance (o : Option Int) (x : Int) : Decidable (hiOk o x) := by cases o <;> (unfold hiOk; infer_instance)
def inB (lo hi : Option Int) (e : Ent) : Bool := decide (loOk lo e.1) && decide (hiOk hi e.1)
def FromPlace (es : List Ent) (x : Int) (k : Nat) : Prop := k ≤ es.length ∧ ∀ i y, es[i]? = some y → (i < k ↔ y.1 < x)
def LoPlace (es : List Ent) (lo : Option Int) (k : Nat) : Prop := k ≤ es.length ∧ ∀ i y, es[i]? = some y → (i < k ↔ ¬ loOk lo y.1)
def HiPlace (es : List Ent) (hi : Option Int) (k : Nat) : Prop := k ≤ es.length ∧ ∀ i y, es[i]? = some y → (i < k ↔ hiOk hi y.1)
theorem cut_nat {xs : List V} {s e : Nat} (h1 : s ≤ xs.length) (h2 : e ≤ xs.length) : cutV xs (some (s : Int)) (some (e : Int)) = (xs.drop s).take (e - s) := by
  unfold cutV
  rw [HT.sIx_nat, HT.sIx_nat, Nat.min_eq_left h1, Nat.min_eq_left h2]
theorem cut_in {es : List Ent} {lo hi : Option Int} {s e : Nat} (up : Rise es) (hs : LoPlace es lo s) (he : HiPlace es hi e) : (es.drop s).take (e - s) = es.filter (inB lo hi) := by
  refine Rise.eq (up.sublist ((List.take_sublist _ _).trans (List.drop_sublist _ _))) (up.sublist (List.filter_sublist)) fun x => ?_
  rw [List.mem_filter]
  unfold inB
  rw [Bool.and_eq_true, decide_eq_true_eq, decide_eq_true_eq]
  constructor
  · intro m
    obtain ⟨i, hi⟩ := List.getElem?_of_mem m
    have hl : i < e - s := by
      have := (List.getElem?_eq_some_iff.mp hi).1
      rw [List.length_take] at this
      omega
    rw [List.getElem?_take_of_lt hl, List.getElem?_drop] at hi
    refine ⟨List.mem_of_getElem? hi, ?_, (he.2 _ _ hi).mp (by omega)⟩
    have := hs.2 _ _ hi
    by_cases z : loOk lo x.1
    · exact z
    · exact absurd (this.mpr z) (by omega)
  · rintro ⟨m, h1, h2⟩
    obtain ⟨i, hi⟩ := List.getElem?_of_mem m
    have a := (he.2 _ _ hi).mpr h2
    have b : ¬ i < s := fun z => (hs.2 _ _ hi).mp z h1
    have : ((es.drop s).take (e - s))[i - s]? = some x := by
      rw [List.getElem?_take_of_lt (by omega), List.getElem?_drop, show s + (i - s) = i by omega]
      exact hi
    exact List.mem_of_getElem? this
theorem entD_inv {K : PySem.W.Frag} {H : Hp} {v : V} {e : Ent} (h : Dp K H v (entD e)) : ∃ a u, v = .ref a ∧ SqT K H a [.int e.1, u] ∧ Dp K H u (.tuple [.int e.2.1, .int e.2.2]) := by
  unfold entD at h
  cases h with
  | tup hs ha =>
    cases ha with
    | cons h1 h2 =>
      cases h1
      cases h2 with
      | cons h3 h4 =>
        cases h4
        exact ⟨_, _, rfl, hs, h3⟩
theorem map_eraseIdx {α β : Type} (f : α → β) : ∀ (l : List α) (n : Nat), (l.map f).eraseIdx n = (l.eraseIdx n).map f
  | [], _ => rfl
  | _ :: _, 0 => rfl
  | a :: l, n + 1 => by simp [map_eraseIdx f l n]
/-- a list of entries at l -/
structure KeptAt (K : PySem.W.Frag) (H : Hp) (l : Addr) (ks : List Ent) : Prop where
  ex : ∃ vs, H l = some (.lst vs) ∧ DpAll K H vs (ks.map entD)
theorem KeptAt.frm {K : PySem.W.Frag} {H H' : Hp} {l : Addr} {ks : List Ent} {F : List Addr} (h : KeptAt K H l ks) (f : Frm F H H') (m : Imm H H') (n : l ∉ F) : KeptAt K H' l ks := by
  obtain ⟨vs, h1, h2⟩ := h.ex
  exact ⟨vs, f.at n h1, DpAll.imm m _ _ (tupDs_map entD_tup _) h2⟩
theorem KeptAt.same {K : PySem.W.Frag} {H H' : Hp} {l : Addr} {ks : List Ent} (h : KeptAt K H l ks) (s : Same H H') : KeptAt K H' l ks := h.frm (F := []) (Frm.of_same s) (Imm.of_same s) (by simp)
theorem KeptAt.dp {K : PySem.W.Frag} {H : Hp} {l : Addr} {ks : List Ent} (h : KeptAt K H l ks) : Dp K H (.ref l) (.list (ks.map entD)) := by
  obtain ⟨vs, h1, h2⟩ := h.ex
  exact .lst (SqL.of h1) h2
/-- a well changes, tuples don't -/
theorem WellAt.imm {H H' : Hp} {p : Addr} (h : WellAt H p) (f : Frm [p] H H') : Imm H H' := f.imm fun q hq o e => by
  have : q = p := by simpa using hq
  subst this
  obtain ⟨ws, _, h⟩ := h
  rw [h] at e
  cases e
  rfl
/-- the index and the plain list have the same entries -/
structure Both2 (K : PySem.W.Frag) (C : Addr) (H : Hp) (p l lk : Addr) (es ks : List Ent) : Prop where
  ix : IndexAt K C H p l es
  kp : KeptAt K H lk ks
  nd : ks.Nodup
  mm : ∀ x, x ∈ es ↔ x ∈ ks
  ne : l ≠ lk
theorem Both2.frm {K : PySem.W.Frag} {C : Addr} {H H' : Hp} {p l lk : Addr} {es ks : List Ent} {F : List Addr} (h : Both2 K C H p l lk es ks) (f : Frm F H H') (m : Imm H H') (n1 : p ∉ F) (n2 : l ∉ F) (n3 : lk ∉ F) : Both2 K C H' p l lk es ks :=
  ⟨h.ix.frm f m n1 n2, h.kp.frm f m n3, h.nd, h.mm, h.ne⟩
theorem Both2.same {K : PySem.W.Frag} {C : Addr} {H H' : Hp} {p l lk : Addr} {es ks : List Ent} (h : Both2 K C H p l lk es ks) (s : Same H H') : Both2 K C H' p l lk es ks := h.frm (F := []) (Frm.of_same s) (Imm.of_same s) (by simp) (by simp) (by simp)
end PL

set_option Elab.async false
set_option linter.all false
set_option maxRecDepth 100000
set_option maxHeartbeats 4000000
namespace Toy
open PySem L2 PL
def top (i : Nat) : Stmt := PySem.Challenge.pw_planledger_k21_an_index.main.body.getD i (.Pass ⟨0, 0, 0, 0⟩)

/-- where the classes stand -/
structure Ad where
  C_LedgerError : Addr
  C_NoTable : Addr
  C_NoEntry : Addr
  C_NoIndex : Addr
  C_NoRow : Addr
  C_NoNumber : Addr
  C_Index : Addr

abbrev s_Index___init : Stmt := inClass (top 8) 0

abbrev N_Index___init : List Str := ["self"]

theorem sc_Index___init : FnScope N_Index___init ["self"] (defScope s_Index___init) := ⟨rfl, rfl, rfl, by decide +kernel, rfl, by decide +kernel, by decide +kernel⟩

abbrev s_Index_first_from : Stmt := inClass (top 8) 5

abbrev N_Index_first_from : List Str := ["self", "value", "low", "high", "middle"]

theorem sc_Index_first_from : FnScope N_Index_first_from ["self", "value"] (defScope s_Index_first_from) := ⟨rfl, rfl, rfl, by decide +kernel, rfl, by decide +kernel, by decide +kernel⟩

abbrev s_Index_between : Stmt := inClass (top 8) 6

abbrev N_Index_between : List Str := ["self", "low", "high", "start", "end"]

theorem sc_Index_between : FnScope N_Index_between ["self", "low", "high"] (defScope s_Index_between) := ⟨rfl, rfl, rfl, by decide +kernel, rfl, by decide +kernel, by decide +kernel⟩

abbrev s_Index_place_of : Stmt := inClass (top 8) 1

abbrev N_Index_place_of : List Str := ["self", "entry", "low", "high", "middle"]

theorem sc_Index_place_of : FnScope N_Index_place_of ["self", "entry"] (defScope s_Index_place_of) := ⟨rfl, rfl, rfl, by decide +kernel, rfl, by decide +kernel, by decide +kernel⟩

abbrev s_Index_stands_at : Stmt := inClass (top 8) 2

abbrev N_Index_stands_at : List Str := ["self", "at", "entry"]

theorem sc_Index_stands_at : FnScope N_Index_stands_at ["self", "at", "entry"] (defScope s_Index_stands_at) := ⟨rfl, rfl, rfl, by decide +kernel, rfl, by decide +kernel, by decide +kernel⟩

abbrev s_Index_put : Stmt := inClass (top 8) 3

abbrev N_Index_put : List Str := ["self", "value", "number", "at"]

theorem sc_Index_put : FnScope N_Index_put ["self", "value", "number"] (defScope s_Index_put) := ⟨rfl, rfl, rfl, by decide +kernel, rfl, by decide +kernel, by decide +kernel⟩

abbrev s_l_within : Stmt := top 18

abbrev N_l_within : List Str := ["_law_value_here", "_law_low", "_law_high"]

theorem sc_l_within : FnScope N_l_within ["_law_value_here", "_law_low", "_law_high"] (defScope s_l_within) := ⟨rfl, rfl, rfl, by decide +kernel, rfl, by decide +kernel, by decide +kernel⟩

abbrev s_l_asked : Stmt := top 19

abbrev N_l_asked : List Str := ["_law_index", "_law_kept", "_law_low", "_law_high", "_law_due", "_law_entry", "_law_found"]

theorem sc_l_asked : FnScope N_l_asked ["_law_index", "_law_kept", "_law_low", "_law_high"] (defScope s_l_asked) := ⟨rfl, rfl, rfl, by decide +kernel, rfl, by decide +kernel, by decide +kernel⟩

abbrev s_l_mixed : Stmt := top 11

abbrev N_l_mixed : List Str := ["_law_cell_here", "_law_k", "_law_number"]

theorem sc_l_mixed : FnScope N_l_mixed ["_law_cell_here", "_law_k"] (defScope s_l_mixed) := ⟨rfl, rfl, rfl, by decide +kernel, rfl, by decide +kernel, by decide +kernel⟩

abbrev s_l_twice : Stmt := top 12

abbrev N_l_twice : List Str := ["_law_cell_here", "_law_k", "_law_number"]

theorem sc_l_twice : FnScope N_l_twice ["_law_cell_here", "_law_k"] (defScope s_l_twice) := ⟨rfl, rfl, rfl, by decide +kernel, rfl, by decide +kernel, by decide +kernel⟩

abbrev s_l_draw : Stmt := top 14

abbrev N_l_draw : List Str := ["_law_well_here", "_law_most", "_law_number"]

theorem sc_l_draw : FnScope N_l_draw ["_law_well_here", "_law_most"] (defScope s_l_draw) := ⟨rfl, rfl, rfl, by decide +kernel, rfl, by decide +kernel, by decide +kernel⟩

abbrev s_l_value : Stmt := top 15

abbrev N_l_value : List Str := ["_law_well_here"]

theorem sc_l_value : FnScope N_l_value ["_law_well_here"] (defScope s_l_value) := ⟨rfl, rfl, rfl, by decide +kernel, rfl, by decide +kernel, by decide +kernel⟩

abbrev s_l_bound : Stmt := top 17

abbrev N_l_bound : List Str := ["_law_well_here", "_law_kept", "_law_some", "_law_entry"]

theorem sc_l_bound : FnScope N_l_bound ["_law_well_here", "_law_kept"] (defScope s_l_bound) := ⟨rfl, rfl, rfl, by decide +kernel, rfl, by decide +kernel, by decide +kernel⟩

abbrev s_Index_take : Stmt := inClass (top 8) 4

abbrev N_Index_take : List Str := ["self", "value", "number", "at"]

theorem sc_Index_take : FnScope N_Index_take ["self", "value", "number"] (defScope s_Index_take) := ⟨rfl, rfl, rfl, by decide +kernel, rfl, by decide +kernel, by decide +kernel⟩

abbrev s_l_deed : Stmt := top 16

abbrev N_l_deed : List Str := ["_law_index", "_law_kept", "_law_well_here", "_law_entry", "_law_way", "_law_refused", "e"]

theorem sc_l_deed : FnScope N_l_deed ["_law_index", "_law_kept", "_law_well_here"] (defScope s_l_deed) := ⟨rfl, rfl, rfl, by decide +kernel, rfl, by decide +kernel, by decide +kernel⟩

abbrev s_l_cell : Stmt := top 10

abbrev N_l_cell : List Str := ["_law_script", "_law_k"]

theorem sc_l_cell : FnScope N_l_cell ["_law_script", "_law_k"] (defScope s_l_cell) := ⟨rfl, rfl, rfl, by decide +kernel, rfl, by decide +kernel, by decide +kernel⟩

abbrev s_l_well : Stmt := top 13

abbrev N_l_well : List Str := ["_law_script", "_law_k"]

theorem sc_l_well : FnScope N_l_well ["_law_script", "_law_k"] (defScope s_l_well) := ⟨rfl, rfl, rfl, by decide +kernel, rfl, by decide +kernel, by decide +kernel⟩

abbrev s_law : Stmt := top 20

abbrev N_law : List Str := ["_law_script", "_law_other", "_law_index", "_law_kept", "_law_k", "_law_well_here", "_law_low", "_law_high"]

theorem sc_law : FnScope N_law ["_law_script"] (defScope s_law) := ⟨rfl, rfl, rfl, by decide +kernel, rfl, by decide +kernel, by decide +kernel⟩

structure Txt (K : PySem.W.Frag) (mg : Str → Option Value) (Z : Ad) : Prop where
  n_bool : mg "bool" = none
  n_isinstance : mg "isinstance" = none
  n_len : mg "len" = none
  n_list : mg "list" = none
  n_max : mg "max" = none
  n_min : mg "min" = none
  n_range : mg "range" = none
  n_sorted : mg "sorted" = none
  n_tuple : mg "tuple" = none
  g_LedgerError : mg "LedgerError" = some (.ref Z.C_LedgerError)
  g_NoTable : mg "NoTable" = some (.ref Z.C_NoTable)
  g_NoEntry : mg "NoEntry" = some (.ref Z.C_NoEntry)
  x_NoEntry : PySem.W.excIn K Z.C_NoEntry [.type "ValueError", .type "Exception", .type "BaseException", .type "object"] "ValueError.__new__" = true
  k_NoEntry : PySem.W.keepIn K (.ref Z.C_NoEntry) = true
  b_NoEntry : PySem.W.subIn K (.ref Z.C_NoEntry) (.type "BaseException") = some true
  t_NoEntry : PySem.W.typeIn K (.ref Z.C_NoEntry) = some (.type "type")
  ec_NoEntry : ExcC K Z.C_NoEntry
  g_NoIndex : mg "NoIndex" = some (.ref Z.C_NoIndex)
  g_NoRow : mg "NoRow" = some (.ref Z.C_NoRow)
  g_NoNumber : mg "NoNumber" = some (.ref Z.C_NoNumber)
  g_Index : mg "Index" = some (.ref Z.C_Index)
  cl_Index : Cls K Z.C_Index
  na_Index_entries : NoAttr K Z.C_Index "entries"
  em_NoEntry_LedgerError : PySem.W.exmOne K (.ref Z.C_NoEntry) (.ref Z.C_LedgerError) = some true
  ki_NoEntry_NoEntry : PySem.W.kitOne K (.ref Z.C_NoEntry) (.ref Z.C_NoEntry) = some true
  ki_NoEntry_NoIndex : PySem.W.kitOne K (.ref Z.C_NoEntry) (.ref Z.C_NoIndex) = some false
  ki_NoEntry_NoNumber : PySem.W.kitOne K (.ref Z.C_NoEntry) (.ref Z.C_NoNumber) = some false
  ki_NoEntry_NoRow : PySem.W.kitOne K (.ref Z.C_NoEntry) (.ref Z.C_NoRow) = some false
  ki_NoEntry_NoTable : PySem.W.kitOne K (.ref Z.C_NoEntry) (.ref Z.C_NoTable) = some false
  d_Index___init : IniF K Z.C_Index "Index.__init__" s_Index___init ["self"]
  d_Index_first_from : MetF K Z.C_Index "first_from" "Index.first_from" s_Index_first_from ["self", "value"]
  d_Index_between : MetF K Z.C_Index "between" "Index.between" s_Index_between ["self", "low", "high"]
  d_Index_place_of : MetF K Z.C_Index "place_of" "Index.place_of" s_Index_place_of ["self", "entry"]
  d_Index_stands_at : MetF K Z.C_Index "stands_at" "Index.stands_at" s_Index_stands_at ["self", "at", "entry"]
  d_Index_put : MetF K Z.C_Index "put" "Index.put" s_Index_put ["self", "value", "number"]
  d_l_within : DefF K mg "_law_within" s_l_within ["_law_value_here", "_law_low", "_law_high"]
  d_l_asked : DefF K mg "_law_asked" s_l_asked ["_law_index", "_law_kept", "_law_low", "_law_high"]
  d_l_mixed : DefF K mg "_law_mixed" s_l_mixed ["_law_cell_here", "_law_k"]
  d_l_twice : DefF K mg "_law_twice" s_l_twice ["_law_cell_here", "_law_k"]
  d_l_draw : DefF K mg "_law_draw" s_l_draw ["_law_well_here", "_law_most"]
  d_l_value : DefF K mg "_law_value" s_l_value ["_law_well_here"]
  d_l_bound : DefF K mg "_law_bound" s_l_bound ["_law_well_here", "_law_kept"]
  d_Index_take : MetF K Z.C_Index "take" "Index.take" s_Index_take ["self", "value", "number"]
  d_l_deed : DefF K mg "_law_deed" s_l_deed ["_law_index", "_law_kept", "_law_well_here"]
  d_l_cell : DefF K mg "_law_cell" s_l_cell ["_law_script", "_law_k"]
  d_l_well : DefF K mg "_law_well" s_l_well ["_law_script", "_law_k"]

section
variable {P : Program} {w : World} {K : PySem.W.Frag} {mg : Str → Option Value} {base : Heap} {Z : Ad}

def sp_ixInit (K : PySem.W.Frag) (C : Addr) : Sp := fun vs H Q _ => ∃ (p dx : Addr), vs = [.ref p] ∧ H p = some (.ins C dx []) ∧ ∀ l H', H l = none → Frm [p] H H' → IndexAt K C H' p l [] → Q .non H'

theorem ok_Index___init (T : Txt K mg Z) : Mak P w K mg base 1 "Index" Z.C_Index (sp_ixInit K Z.C_Index) := by
  refine T.d_Index___init.mak T.g_Index sc_Index___init (fun vs H Q E h => ?_) (fun f cdv A outer s H vs Q E hr h => ?_)
  · obtain ⟨p, dx, rfl, _⟩ := h
    rfl
  · obtain ⟨p, dx, rfl, h⟩ := h
    refine ⟨_, (pss_one (ps_fld (pv 0) (pe_lst pa_nil) rfl)), ?_⟩
    obtain ⟨h1, k⟩ := h
    refine ⟨by show 0 ≤ sizeLine; decide, fun l hl => ?_⟩
    have npl : p ≠ l := ne_of_none h1 hl
    refine ⟨_, rfl, p, Z.C_Index, dx, _, rfl, up_new hl h1, T.cl_Index, T.na_Index_entries, by show 0 < 1000; decide, ?_⟩
    refine k l _ hl ((Frm.of_same (same_upd hl)).upd (.inl (by simp))) ⟨⟨dx, upd_same⟩, ⟨[], up_ne npl.symm upd_same, .nil⟩, List.Pairwise.nil, by decide⟩


def sp_ixFirst (K : PySem.W.Frag) (C : Addr) : Sp := fun vs H Q _ => ∃ (p : Addr) (x : Int) (l : Addr) (es : List Ent), vs = [.ref p, .int x] ∧ IndexAt K C H p l es ∧ ∀ k : Nat, FromPlace es x k → Q (.int (k : Nat)) H

theorem ok_Index_first_from (T : Txt K mg Z) : Met P w K mg base 1 Z.C_Index "first_from" (sp_ixFirst K Z.C_Index) := by
  refine T.d_Index_first_from.met T.cl_Index sc_Index_first_from (fun vs H Q E h => ?_) (fun f cdv A outer s H vs Q E hr h => ?_)
  · obtain ⟨p, x, l, es, rfl, _⟩ := h
    rfl
  · obtain ⟨p, x, l, es, rfl, h⟩ := h
    refine ⟨_, (pss_cons (ps_set (i := 2) sc_Index_first_from.nd rfl (Or.inl rfl) pe_int)
      (pss_cons (ps_set (i := 3) sc_Index_first_from.nd rfl (Or.inl rfl) (pe_callB call_len (by rfl) T.n_len (by decide +kernel) (pa_cons (pe_fld (pv 0) rfl) pa_nil)))
      (pss_cons (ps_while (passes_of rfl) (pt_cmpR op_lt (pv 2) (pv 3) (nomark _))
      (pss_cons (ps_set (i := 4) sc_Index_first_from.nd rfl (Or.inl rfl) (pe_op op_fdivW (pe_op op_add (pv 2) (pv 3)) pe_int))
        (pss_one (ps_if (pt_cmpR op_lt (pe_ix ix_tup (pe_ix ix_list (pe_fld (pv 0) rfl) (pv 4) (fun _ _ => rfl)) pe_int (fun _ _ => rfl)) (pv 1) (nomark _))
        (pss_one (ps_set (i := 2) sc_Index_first_from.nd rfl (Or.inl rfl) (pe_op op_add (pv 4) pe_int)))
        (pss_one (ps_set (i := 3) sc_Index_first_from.nd rfl (Or.inl rfl) (pv 4)))))))
      (pss_one (ps_ret (pv 2)))))), ?_⟩
    obtain ⟨IX, q⟩ := h
    obtain ⟨⟨dx, h1⟩, ⟨ws, h2, h3⟩, up, sz⟩ := IX
    have hlen : ws.length = es.length := by have := h3.len; rw [List.length_map] at this; exact this
    have mono : ∀ (i j : Nat) (y z : Ent), es[i]? = some y → es[j]? = some z → i < j → y.1 ≤ z.1 := fun i j y z hi hj hl => by
      have := List.pairwise_iff_getElem.mp up i j (List.getElem?_eq_some_iff.mp hi).1 (List.getElem?_eq_some_iff.mp hj).1 hl
      rw [(List.getElem?_eq_some_iff.mp hi).2, (List.getElem?_eq_some_iff.mp hj).2] at this
      unfold elt at this
      omega
    refine ⟨_, rfl, p, Z.C_Index, dx, _, _, rfl, h1, T.cl_Index, T.na_Index_entries, rfl, _, ws.length, rfl, .inl ⟨_, SqL.of h2, rfl⟩, ?_⟩
    refine ⟨fun m σ H1 => ∃ (lo hi : Nat) (o : Option V), σ = [some (.ref p), some (.int x), some (.int (lo : Nat)), some (.int (hi : Nat)), o] ∧ H1 = H ∧ m = hi - lo ∧ lo ≤ hi ∧ hi ≤ es.length ∧ (∀ i y, es[i]? = some y → i < lo → y.1 < x) ∧ (∀ i y, es[i]? = some y → hi ≤ i → ¬ y.1 < x),
      ⟨ws.length, 0, ws.length, none, rfl, rfl, by omega, by omega, by omega, fun i x _ z => absurd z (Nat.not_lt_zero _), fun i x z y => absurd (List.getElem?_eq_some_iff.mp z).1 (by omega)⟩, ?_⟩
    rintro m σ H1 ⟨lo, hi, o, rfl, rfl, rfl, hlh, hhn, ha, hb⟩
    refine ⟨_, rfl, _, rfl, _, _, rfl, rfl, _, rfl, ?_⟩
    refine ite2 (fun c => ?_) (fun c => ?_)
    · have c' : (lo : Int) < (hi : Int) := of_decide_eq_true c
      have em : ((lo : Int) + (hi : Int)) / 2 = (((lo + hi) / 2 : Nat) : Int) := by omega
      have hm : (lo + hi) / 2 < es.length := by omega
      have gx : es[(lo + hi) / 2]? = some es[(lo + hi) / 2] := List.getElem?_eq_getElem hm
      obtain ⟨u, hu, du⟩ := h3.get (i := (lo + hi) / 2) (d := entD es[(lo + hi) / 2]) (by rw [List.getElem?_map, gx]; rfl)
      obtain ⟨ta, u2, rfl, du, _⟩ := entD_inv du
      refine ⟨fun σ' H' => ∃ (lo' hi' : Nat) (o : Option V), σ' = [some (.ref p), some (.int x), some (.int (lo' : Nat)), some (.int (hi' : Nat)), o] ∧ H' = H1 ∧ hi' - lo' < hi - lo ∧ lo' ≤ hi' ∧ hi' ≤ es.length ∧ (∀ i y, es[i]? = some y → i < lo' → y.1 < x) ∧ (∀ i y, es[i]? = some y → hi' ≤ i → ¬ y.1 < x),
        fun σ' H' ⟨lo', hi', o, a1, a2, a3, a4, a5, a6, a7⟩ => ⟨hi' - lo', a3, lo', hi', o, a1, a2, rfl, a4, a5, a6, a7⟩, ?_⟩
      refine ⟨_, rfl, _, rfl, _, _, rfl, rfl, _, _, rfl, rfl, ⟨by decide, by decide⟩, ?_⟩
      refine ⟨_, rfl, p, Z.C_Index, dx, _, _, rfl, h1, T.cl_Index, T.na_Index_entries, rfl, _, rfl, l, _, _, _, rfl, rfl, SqL.of h2, at_of em hu, ta, _, _, _, rfl, rfl, du, atI_nat (j := 0) rfl, _, rfl, _, _, rfl, rfl, _, rfl, ?_⟩
      refine ite2 (fun d => ?_) (fun d => ?_)
      · have d' := of_decide_eq_true d
        have e2 : ((lo : Int) + (hi : Int)) / 2 + 1 = (((lo + hi) / 2 + 1 : Nat) : Int) := by omega
        refine ⟨_, rfl, _, _, rfl, rfl, (lo + hi) / 2 + 1, hi, some (V.int (((lo : Int) + (hi : Int)) / 2)), congrArg (fun z => [some (V.ref p), some (V.int x), some (V.int z), some (V.int (hi : Int)), some (V.int (((lo : Int) + (hi : Int)) / 2))]) e2, rfl, by omega, by omega, hhn, fun i y hi' z => ?_, hb⟩
        rcases Nat.lt_or_ge i ((lo + hi) / 2) with w | w
        · have := mono _ _ _ _ hi' gx w
          omega
        · have : i = (lo + hi) / 2 := by omega
          subst this
          rw [gx] at hi'
          cases hi'
          exact d'
      · have d' : ¬ es[(lo + hi) / 2].1 < x := fun z => d (decide_eq_true z)
        refine ⟨_, rfl, lo, (lo + hi) / 2, some (V.int (((lo : Int) + (hi : Int)) / 2)), congrArg (fun z => [some (V.ref p), some (V.int x), some (V.int (lo : Int)), some (V.int z), some (V.int (((lo : Int) + (hi : Int)) / 2))]) em, rfl, by omega, by omega, by omega, ha, fun i y hi' z w => ?_⟩
        rcases Nat.lt_or_ge ((lo + hi) / 2) i with v | v
        · have := mono _ _ _ _ gx hi' v
          omega
        · have : i = (lo + hi) / 2 := by omega
          subst this
          rw [gx] at hi'
          cases hi'
          exact d' w
    · have c' : ¬ (lo : Int) < (hi : Int) := fun z => c (decide_eq_true z)
      have : lo = hi := by omega
      subst this
      refine ⟨_, rfl, q lo ⟨hhn, fun i y hy => ⟨fun z => ha i y hy z, fun z => ?_⟩⟩⟩
      rcases Nat.lt_or_ge i lo with w | w
      · exact w
      · exact absurd z (hb i y hy w)


def sp_ixBetween (K : PySem.W.Frag) (C : Addr) : Sp := fun vs H Q _ => ∃ (p : Addr) (lo hi : Option Int) (l : Addr) (es : List Ent), vs = [.ref p, bV lo, bV hi] ∧ IndexAt K C H p l es ∧
  ∀ q ys, H q = none → DpAll K H ys ((es.filter (inB lo hi)).map entD) → Q (.ref q) (upd H q (.lst ys))

theorem ok_Index_between (T : Txt K mg Z) : Met P w K mg base 2 Z.C_Index "between" (sp_ixBetween K Z.C_Index) := by
  refine T.d_Index_between.met T.cl_Index sc_Index_between (fun vs H Q E h => ?_) (fun f cdv A outer s H vs Q E hr h => ?_)
  · obtain ⟨p, lo, hi, l, es, rfl, _⟩ := h
    rfl
  · obtain ⟨p, lo, hi, l, es, rfl, h⟩ := h
    refine ⟨_, (pss_cons (ps_set (i := 3) sc_Index_between.nd rfl (Or.inl rfl) pe_int)
      (pss_cons (ps_set (i := 4) sc_Index_between.nd rfl (Or.inl rfl) (pe_callB call_len (by rfl) T.n_len (by decide +kernel) (pa_cons (pe_fld (pv 0) rfl) pa_nil)))
      (pss_cons (ps_if (pt_cmpR op_notN (pv 1) pe_non (nomark _))
      (pss_one (ps_set (i := 3) sc_Index_between.nd rfl (Or.inl rfl) (pe_mtG (ok_Index_first_from T) hr (by decide) pass00 (pv 0) (pa_cons (pv 1) pa_nil))))
      pss_nil)
      (pss_cons (ps_if (pt_cmpR op_notN (pv 2) pe_non (nomark _))
      (pss_one (ps_set (i := 4) sc_Index_between.nd rfl (Or.inl rfl) (pe_mtG (ok_Index_first_from T) hr (by decide) pass00 (pv 0) (pa_cons (pe_op op_add (pv 2) pe_int) pa_nil))))
      pss_nil)
      (pss_one (ps_ret (pe_slice sl_list (pe_fld (pv 0) rfl) (po_some (pv 3)) (po_some (pv 4))))))))), ?_⟩
    obtain ⟨IX, q⟩ := h
    obtain ⟨⟨dx, h1⟩, ⟨ws, h2, h3⟩, up, sz⟩ := id IX
    have hlen : ws.length = es.length := by have := h3.len; rw [List.length_map] at this; exact this
    have last : ∀ (s e : Nat), LoPlace es lo s → HiPlace es hi e → tRet (tSl (rSlL K) (tFld K (tVar 0) "entries") (tPart (tVar 3)) (tPart (tVar 4))) { nx := fun _ H' => Q .non H', rt := Q } [some (.ref p), some (bV lo), some (bV hi), some (.int (s : Nat)), some (.int (e : Nat))] H := fun s e hs he => by
      refine ⟨_, rfl, p, Z.C_Index, dx, _, _, rfl, h1, T.cl_Index, T.na_Index_entries, rfl, _, rfl, (s : Nat), rfl, _, rfl, (e : Nat), rfl, l, ws, rfl, SqL.of h2, fun r hr' => ?_⟩
      refine q r _ hr' ?_
      rw [cut_nat (by rw [hlen]; exact hs.1) (by rw [hlen]; exact he.1), ← cut_in up hs he, List.map_take, List.map_drop]
      exact (h3.drop s).take (e - s)
    refine ⟨_, rfl, p, Z.C_Index, dx, _, _, rfl, h1, T.cl_Index, T.na_Index_entries, rfl, _, ws.length, rfl, .inl ⟨_, SqL.of h2, rfl⟩, ?_⟩
    have second : ∀ (s : Nat), LoPlace es lo s → tSeq (tIfS (tTest (tOp (fun x y H Q => y = .non ∧ Q (.bl (!decide (x = .non))) H) (tVar 2) (tC .non))) (tAsg (tMt Z.C_Index "first_from" (sp_ixFirst K Z.C_Index) (fun _ => E0) (tVar 0) (tCons (tOp (rI0 fun i j => .int (i + j)) (tVar 2) (tC (.int 1))) tNil)) (gName 4)) tNext)
        (tRet (tSl (rSlL K) (tFld K (tVar 0) "entries") (tPart (tVar 3)) (tPart (tVar 4)))) { nx := fun _ H' => Q .non H', rt := Q } [some (.ref p), some (bV lo), some (bV hi), some (.int (s : Nat)), some (.int (ws.length : Nat))] H := fun s hs => by
      cases hi with
      | none =>
        refine ⟨_, rfl, rfl, _, rfl, iteF ?_⟩
        exact last s ws.length hs (by rw [hlen]; exact ⟨Nat.le_refl _, fun i y hy => ⟨fun _ => trivial, fun _ => (List.getElem?_eq_some_iff.mp hy).1⟩⟩)
      | some z =>
        refine ⟨_, rfl, rfl, _, rfl, iteT ?_⟩
        refine ⟨_, rfl, p, dx, _, rfl, h1, rfl, _, rfl, _, _, rfl, rfl, p, _, l, es, rfl, IX, fun k hk => ?_⟩
        refine last s k hs ⟨hk.1, fun i y hy => ?_⟩
        rw [hk.2 i y hy]
        show y.1 < z + 1 ↔ y.1 ≤ z
        omega
    cases lo with
    | none =>
      refine ⟨_, rfl, rfl, _, rfl, iteF ?_⟩
      exact second 0 ⟨Nat.zero_le _, fun i y hy => ⟨fun z => absurd z (Nat.not_lt_zero _), fun z => absurd trivial z⟩⟩
    | some z =>
      refine ⟨_, rfl, rfl, _, rfl, iteT ?_⟩
      refine ⟨_, rfl, p, dx, _, rfl, h1, rfl, _, rfl, p, _, l, es, rfl, IX, fun k hk => ?_⟩
      refine second k ⟨hk.1, fun i y hy => ?_⟩
      rw [hk.2 i y hy]
      show y.1 < z ↔ ¬ z ≤ y.1
      omega


def sp_ixPlace (K : PySem.W.Frag) (C : Addr) : Sp := fun vs H Q _ => ∃ (p : Addr) (v : V) (l : Addr) (es : List Ent) (e : Ent), vs = [.ref p, v] ∧ IndexAt K C H p l es ∧ Dp K H v (entD e) ∧ ∀ k : Nat, AtPlace es e k → Q (.int (k : Nat)) H

theorem ok_Index_place_of (T : Txt K mg Z) : Met P w K mg base 1 Z.C_Index "place_of" (sp_ixPlace K Z.C_Index) := by
  refine T.d_Index_place_of.met T.cl_Index sc_Index_place_of (fun vs H Q E h => ?_) (fun f cdv A outer s H vs Q E hr h => ?_)
  · obtain ⟨p, v, l, es, e, rfl, _⟩ := h
    rfl
  · obtain ⟨p, v, l, es, e, rfl, h⟩ := h
    refine ⟨_, (pss_cons (ps_set (i := 2) sc_Index_place_of.nd rfl (Or.inl rfl) pe_int)
      (pss_cons (ps_set (i := 3) sc_Index_place_of.nd rfl (Or.inl rfl) (pe_callB call_len (by rfl) T.n_len (by decide +kernel) (pa_cons (pe_fld (pv 0) rfl) pa_nil)))
      (pss_cons (ps_while (passes_of rfl) (pt_cmpR op_lt (pv 2) (pv 3) (nomark _))
      (pss_cons (ps_set (i := 4) sc_Index_place_of.nd rfl (Or.inl rfl) (pe_op op_fdivW (pe_op op_add (pv 2) (pv 3)) pe_int))
        (pss_one (ps_if (pt_cmpR (op_ltD hr.units) (pe_ix ix_list (pe_fld (pv 0) rfl) (pv 4) (fun _ _ => rfl)) (pv 1) (nomark _))
        (pss_one (ps_set (i := 2) sc_Index_place_of.nd rfl (Or.inl rfl) (pe_op op_add (pv 4) pe_int)))
        (pss_one (ps_set (i := 3) sc_Index_place_of.nd rfl (Or.inl rfl) (pv 4)))))))
      (pss_one (ps_ret (pv 2)))))), ?_⟩
    obtain ⟨IX, hv, q⟩ := h
    obtain ⟨⟨dx, h1⟩, ⟨ws, h2, h3⟩, up, sz⟩ := IX
    have hlen : ws.length = es.length := by have := h3.len; rw [List.length_map] at this; exact this
    refine ⟨_, rfl, p, Z.C_Index, dx, _, _, rfl, h1, T.cl_Index, T.na_Index_entries, rfl, _, ws.length, rfl, .inl ⟨_, SqL.of h2, rfl⟩, ?_⟩
    refine ⟨fun m σ H1 => ∃ (lo hi : Nat) (o : Option V), σ = [some (.ref p), some v, some (.int (lo : Nat)), some (.int (hi : Nat)), o] ∧ H1 = H ∧ m = hi - lo ∧ lo ≤ hi ∧ hi ≤ es.length ∧ (∀ i x, es[i]? = some x → i < lo → elt x e) ∧ (∀ i x, es[i]? = some x → hi ≤ i → ¬ elt x e),
      ⟨ws.length, 0, ws.length, none, rfl, rfl, by omega, by omega, by omega, fun i x _ z => absurd z (Nat.not_lt_zero _), fun i x z y => absurd (List.getElem?_eq_some_iff.mp z).1 (by omega)⟩, ?_⟩
    rintro m σ H1 ⟨lo, hi, o, rfl, rfl, rfl, hlh, hhn, ha, hb⟩
    refine ⟨_, rfl, _, rfl, _, _, rfl, rfl, _, rfl, ?_⟩
    refine ite2 (fun c => ?_) (fun c => ?_)
    · have c' : (lo : Int) < (hi : Int) := of_decide_eq_true c
      have em : ((lo : Int) + (hi : Int)) / 2 = (((lo + hi) / 2 : Nat) : Int) := by omega
      have hm : (lo + hi) / 2 < es.length := by omega
      have gx : es[(lo + hi) / 2]? = some es[(lo + hi) / 2] := List.getElem?_eq_getElem hm
      obtain ⟨u, hu, du⟩ := h3.get (i := (lo + hi) / 2) (d := entD es[(lo + hi) / 2]) (by rw [List.getElem?_map, gx]; rfl)
      refine ⟨fun σ' H' => ∃ (lo' hi' : Nat) (o : Option V), σ' = [some (.ref p), some v, some (.int (lo' : Nat)), some (.int (hi' : Nat)), o] ∧ H' = H1 ∧ hi' - lo' < hi - lo ∧ lo' ≤ hi' ∧ hi' ≤ es.length ∧ (∀ i x, es[i]? = some x → i < lo' → elt x e) ∧ (∀ i x, es[i]? = some x → hi' ≤ i → ¬ elt x e),
        fun σ' H' ⟨lo', hi', o, a1, a2, a3, a4, a5, a6, a7⟩ => ⟨hi' - lo', a3, lo', hi', o, a1, a2, rfl, a4, a5, a6, a7⟩, ?_⟩
      refine ⟨_, rfl, _, rfl, _, _, rfl, rfl, _, _, rfl, rfl, ⟨by decide, by decide⟩, ?_⟩
      refine ⟨_, rfl, p, Z.C_Index, dx, _, _, rfl, h1, T.cl_Index, T.na_Index_entries, rfl, _, rfl, l, _, _, _, rfl, rfl, SqL.of h2, at_of em hu, _, rfl, _, _, du, hv, entD_alike _ _, fun z => PyData.noConfusion z, by rw [entD_depth]; decide, _, rfl, ?_⟩
      rw [entD_lt]
      refine ite2 (fun d => ?_) (fun d => ?_)
      · have d' := of_decide_eq_true d
        have e2 : ((lo : Int) + (hi : Int)) / 2 + 1 = (((lo + hi) / 2 + 1 : Nat) : Int) := by omega
        refine ⟨_, rfl, _, _, rfl, rfl, (lo + hi) / 2 + 1, hi, some (V.int (((lo : Int) + (hi : Int)) / 2)), congrArg (fun z => [some (V.ref p), some v, some (V.int z), some (V.int (hi : Int)), some (V.int (((lo : Int) + (hi : Int)) / 2))]) e2, rfl, by omega, by omega, hhn, fun i x hi' z => ?_, hb⟩
        rcases Nat.lt_or_ge i ((lo + hi) / 2) with y | y
        · have := List.pairwise_iff_getElem.mp up i ((lo + hi) / 2) (by omega) hm y
          rw [(List.getElem?_eq_some_iff.mp hi').2] at this
          exact elt_tr this d'
        · have : i = (lo + hi) / 2 := by omega
          subst this
          rw [gx] at hi'
          cases hi'
          exact d'
      · have d' : ¬ elt es[(lo + hi) / 2] e := fun z => d (decide_eq_true z)
        refine ⟨_, rfl, lo, (lo + hi) / 2, some (V.int (((lo : Int) + (hi : Int)) / 2)), congrArg (fun z => [some (V.ref p), some v, some (V.int (lo : Int)), some (V.int z), some (V.int (((lo : Int) + (hi : Int)) / 2))]) em, rfl, by omega, by omega, by omega, ha, fun i x hi' z w => ?_⟩
        rcases Nat.lt_or_ge ((lo + hi) / 2) i with y | y
        · have := List.pairwise_iff_getElem.mp up ((lo + hi) / 2) i hm (List.getElem?_eq_some_iff.mp hi').1 y
          rw [(List.getElem?_eq_some_iff.mp hi').2] at this
          exact d' (elt_tr this w)
        · have : i = (lo + hi) / 2 := by omega
          subst this
          rw [gx] at hi'
          cases hi'
          exact d' w
    · have c' : ¬ (lo : Int) < (hi : Int) := fun z => c (decide_eq_true z)
      have : lo = hi := by omega
      subst this
      refine ⟨_, rfl, q lo ⟨hhn, fun i x hx => ⟨fun z => ha i x hx z, fun z => ?_⟩⟩⟩
      rcases Nat.lt_or_ge i lo with y | y
      · exact y
      · exact absurd z (hb i x hx y)


def sp_ixStands (K : PySem.W.Frag) (C : Addr) : Sp := fun vs H Q _ => ∃ (p : Addr) (k : Nat) (v : V) (l : Addr) (es : List Ent) (e : Ent), vs = [.ref p, .int (k : Nat), v] ∧ IndexAt K C H p l es ∧ Dp K H v (entD e) ∧ Q (.bl (decide (es[k]? = some e))) H

theorem ok_Index_stands_at (T : Txt K mg Z) : Met P w K mg base 1 Z.C_Index "stands_at" (sp_ixStands K Z.C_Index) := by
  refine T.d_Index_stands_at.met T.cl_Index sc_Index_stands_at (fun vs H Q E h => ?_) (fun f cdv A outer s H vs Q E hr h => ?_)
  · obtain ⟨p, k, v, l, es, e, rfl, _⟩ := h
    rfl
  · obtain ⟨p, k, v, l, es, e, rfl, h⟩ := h
    refine ⟨_, (pss_one (ps_ret (pe_and (pe_cmpR op_lt (pv 1) (pe_callB call_len (by rfl) T.n_len (by decide +kernel) (pa_cons (pe_fld (pv 0) rfl) pa_nil)) (nomark _)) (pe_one (pe_cmpR (op_eqD hr.units) (pe_ix ix_list (pe_fld (pv 0) rfl) (pv 1) (fun _ _ => rfl)) (pv 2) (nomark _)))))), ?_⟩
    obtain ⟨IX, hv, q⟩ := h
    obtain ⟨⟨dx, h1⟩, ⟨ws, h2, h3⟩, up, sz⟩ := IX
    have hlen : ws.length = es.length := by have := h3.len; rw [List.length_map] at this; exact this
    refine ⟨_, rfl, _, rfl, p, Z.C_Index, dx, _, _, rfl, h1, T.cl_Index, T.na_Index_entries, rfl, _, ws.length, rfl, .inl ⟨_, SqL.of h2, rfl⟩, _, _, rfl, rfl, _, rfl, ?_⟩
    refine ite2 (fun c => ?_) (fun c => ?_)
    · have c' : (k : Int) < (ws.length : Int) := of_decide_eq_true c
      have hk : k < es.length := by omega
      have gx : es[k]? = some es[k] := List.getElem?_eq_getElem hk
      obtain ⟨u, hu, du⟩ := h3.get (i := k) (d := entD es[k]) (by rw [List.getElem?_map, gx]; rfl)
      refine ⟨_, rfl, p, Z.C_Index, dx, _, _, rfl, h1, T.cl_Index, T.na_Index_entries, rfl, _, rfl, l, _, _, _, rfl, rfl, SqL.of h2, atI_nat hu, _, rfl, _, _, du, hv, entD_shaped _, entD_shaped _, ?_⟩
      rw [entD_eqv]
      rw [gx] at q
      have : decide (some es[k] = some e) = decide (es[k] = e) := decide_eq_decide.mpr ⟨Option.some.inj, congrArg _⟩
      rw [← this]
      exact q
    · have c' : ¬ (k : Int) < (ws.length : Int) := fun z => c (decide_eq_true z)
      have : es[k]? = none := List.getElem?_eq_none (by omega)
      rw [this] at q
      exact q


def sp_ixPut (K : PySem.W.Frag) (C N : Addr) : Sp := fun vs H Q E => ∃ (p : Addr) (x : Int) (n : V) (l : Addr) (es : List Ent) (a b : Int), vs = [.ref p, .int x, n] ∧ IndexAt K C H p l es ∧ es.length < 1000 ∧ Dp K H n (.tuple [.int a, .int b]) ∧
  ((x, a, b) ∈ es → ∀ H', Same H H' → E (.ref N) none H') ∧ ((x, a, b) ∉ es → ∀ H' es', Frm [l] H H' → Imm H H' → IndexAt K C H' p l es' → (∀ y, y ∈ es' ↔ y = (x, a, b) ∨ y ∈ es) → Q .non H')

theorem ok_Index_put (T : Txt K mg Z) : Met P w K mg base 2 Z.C_Index "put" (sp_ixPut K Z.C_Index Z.C_NoEntry) := by
  refine T.d_Index_put.met T.cl_Index sc_Index_put (fun vs H Q E h => ?_) (fun f cdv A outer s H vs Q E hr h => ?_)
  · obtain ⟨p, x, n, l, es, a, b, rfl, _⟩ := h
    rfl
  · obtain ⟨p, x, n, l, es, a, b, rfl, h⟩ := h
    have tk := takes_of (X := cxOf (L2.CX P w) P w K mg base N_Index_put "Index.put" (defScope s_Index_put) f cdv A outer s H E) rfl rfl rfl rfl
    refine ⟨_, (pss_cons (ps_set (i := 3) sc_Index_put.nd rfl (Or.inl rfl) (pe_mtG (ok_Index_place_of T) hr (by decide) pass00 (pv 0) (pa_cons (pe_tup (pa_cons (pv 1) (pa_cons (pv 2) pa_nil))) pa_nil)))
      (pss_cons (ps_if (pt_val (pe_mtG (ok_Index_stands_at T) hr (by decide) pass00 (pv 0) (pa_cons (pv 3) (pa_cons (pe_tup (pa_cons (pv 1) (pa_cons (pv 2) pa_nil))) pa_nil))))
      (pss_one (ps_raise rfl tk (pmk_own PySem.F.excBase_ValueError T.x_NoEntry T.g_NoEntry T.k_NoEntry (raises_own T.b_NoEntry T.t_NoEntry) rfl)))
      pss_nil)
      (pss_one (ps_expr (pe_bm PySem.F.plainAttrs_list PySem.F.slot_list_insert PySem.F.type_list_insert mt_insert (pe_fld (pv 0) rfl) (pa_cons (pv 3) (pa_cons (pe_tup (pa_cons (pv 1) (pa_cons (pv 2) pa_nil))) pa_nil))))))), ?_⟩
    obtain ⟨IX, hz, hn, qE, q⟩ := h
    obtain ⟨⟨dx, h1⟩, _, _⟩ := id IX
    have ed : ∀ (H1 : Hp) (t : Addr), Same H H1 → H1 t = some (.tup [.int x, n]) → Dp K H1 (.ref t) (entD (x, a, b)) := fun H1 t s ht => .tup (SqT.of ht) (.cons (.int _) (.cons (Dp.same s (by simp [tupD, tupDs]) hn) .nil))
    refine ⟨_, rfl, p, dx, _, rfl, h1, rfl, _, rfl, _, rfl, by show 2 ≤ sizeLine; decide, fun t ht => ?_⟩
    have s1 := same_upd (o := .tup [.int x, n]) ht
    refine ⟨p, .ref t, l, es, (x, a, b), rfl, IX.same s1, ed _ t s1 upd_same, fun k hk => ?_⟩
    refine ⟨_, rfl, p, dx, _, rfl, s1 _ _ h1, rfl, _, rfl, _, rfl, _, rfl, by show 2 ≤ sizeLine; decide, fun t2 ht2 => ?_⟩
    have s2 := s1.trans (same_upd (o := .tup [.int x, n]) ht2)
    refine ⟨p, k, .ref t2, l, es, (x, a, b), rfl, IX.same s2, ed _ t2 s2 upd_same, _, rfl, ?_⟩
    refine ite2 (fun c => ?_) (fun c => ?_)
    · exact qE ((hk.get IX.up).mp (of_decide_eq_true c)) _ s2
    · have nm : (x, a, b) ∉ es := fun z => c (decide_eq_true ((hk.get IX.up).mpr z))
      obtain ⟨⟨dx2, g1⟩, ⟨ws, g2, g3⟩, up, sz⟩ := IX.same s2
      have hlen : ws.length = es.length := by have := g3.len; rw [List.length_map] at this; exact this
      refine ⟨_, rfl, p, Z.C_Index, dx2, _, _, rfl, g1, T.cl_Index, T.na_Index_entries, rfl, .inl ⟨rfl, _, SqL.of g2⟩, _, rfl, _, rfl, _, rfl, by show 2 ≤ sizeLine; decide, fun t3 ht3 => ?_⟩
      have s3 := s2.trans (same_upd (o := .tup [.int x, n]) ht3)
      have g1' := up_new (o := .tup [.int x, n]) ht3 g1
      have g2' := up_new (o := .tup [.int x, n]) ht3 g2
      have hkl := hk.1
      refine ⟨l, ws, (k : Nat), .ref t3, rfl, rfl, g2', small1000 (by omega), by omega, by omega, ?_⟩
      have ek : ((k : Nat) : Int).toNat = k := by simp
      rw [ek]
      have npl : p ≠ l := ne_of g1 g2 (by intro z; cases z)
      have im : Imm H (upd (upd _ t3 (.tup [.int x, n])) l (.lst (ws.take k ++ [.ref t3] ++ ws.drop k))) := (Imm.of_same s3).upd g2' rfl
      have im2 : Imm _ (upd (upd _ t3 (.tup [.int x, n])) l (.lst (ws.take k ++ [.ref t3] ++ ws.drop k))) := (Imm.of_same (same_upd (o := .tup [.int x, n]) ht3)).upd g2' rfl
      refine q nm _ (es.take k ++ [(x, a, b)] ++ es.drop k) ((Frm.of_same s3).upd (.inl (by simp))) im ⟨⟨dx2, up_ne npl g1'⟩, ⟨_, upd_same, ?_⟩, hk.ins IX.up nm, ?_⟩ (ins_mem k)
      · rw [List.map_append, List.map_append, List.map_take, List.map_drop]
        have g4 := DpAll.imm im2 _ _ (tupDs_map entD_tup _) g3
        refine (g4.take k |>.app (.cons ?_ .nil)).app (g4.drop k)
        exact Dp.imm ((Imm.refl _).upd g2' rfl) _ _ (entD_tup _) (ed _ t3 s3 upd_same)
      · simp only [List.length_append, List.length_take, List.length_drop, List.length_singleton]
        omega


def sp_within3 : Sp := fun vs H Q _ => ∃ (x : Int) (lo hi : Option Int), vs = [.int x, bV lo, bV hi] ∧ Q (.bl (decide (loOk lo x) && decide (hiOk hi x))) H

theorem ok_l_within (T : Txt K mg Z) : Cal P w K mg base 1 "_law_within" (sp_within3) := by
  refine T.d_l_within.cal sc_l_within (fun vs H Q E h => ?_) (fun f cdv A outer s H vs Q E hr h => ?_)
  · obtain ⟨x, lo, hi, rfl, _⟩ := h
    rfl
  · obtain ⟨x, lo, hi, rfl, h⟩ := h
    refine ⟨_, (pss_one (ps_ret (pe_and (pe_or (pe_cmpR op_isN (pv 1) pe_non (nomark _)) (pe_one (pe_cmpR op_ge (pv 0) (pv 1) (nomark _)))) (pe_one (pe_or (pe_cmpR op_isN (pv 2) pe_non (nomark _)) (pe_one (pe_cmpR op_le (pv 0) (pv 2) (nomark _)))))))), ?_⟩
    have second : decide (loOk lo x) = true → tOrV (tOp (fun x y H Q => y = .non ∧ Q (.bl (decide (x = .non))) H) (tVar 2) (tC .non)) (tOp (rI0 fun i j => .bl (decide (i ≤ j))) (tVar 0) (tVar 2)) [some (.int x), some (bV lo), some (bV hi)] H Q := fun e => by
      rw [e, Bool.true_and] at h
      cases hi with
      | none => exact ⟨_, rfl, rfl, _, rfl, iteT h⟩
      | some z => exact ⟨_, rfl, rfl, _, rfl, iteF ⟨_, rfl, _, rfl, _, _, rfl, rfl, h⟩⟩
    cases lo with
    | none => exact ⟨_, rfl, rfl, _, rfl, iteT ⟨_, rfl, iteT (second rfl)⟩⟩
    | some z =>
      refine ⟨_, rfl, rfl, _, rfl, iteF ⟨_, rfl, _, rfl, _, _, rfl, rfl, _, rfl, ?_⟩⟩
      refine ite2 (fun c => second c) (fun c => ?_)
      have : decide (loOk (some z) x) = false := Bool.not_eq_true _ ▸ c
      rw [this] at h
      exact h


def sp_k21asked (K : PySem.W.Frag) (C : Addr) : Sp := fun vs H Q _ => ∃ (p lk : Addr) (lo hi : Option Int) (l : Addr) (es ks : List Ent), vs = [.ref p, .ref lk, bV lo, bV hi] ∧ Both2 K C H p l lk es ks ∧ ks.length ≤ 100 ∧ ∀ H', Same H H' → Q (.bl true) H'

theorem ok_l_asked (T : Txt K mg Z) : Cal P w K mg base 3 "_law_asked" (sp_k21asked K Z.C_Index) := by
  refine T.d_l_asked.cal sc_l_asked (fun vs H Q E h => ?_) (fun f cdv A outer s H vs Q E hr h => ?_)
  · obtain ⟨p, lk, lo, hi, l, es, ks, rfl, _⟩ := h
    rfl
  · obtain ⟨p, lk, lo, hi, l, es, ks, rfl, h⟩ := h
    refine ⟨_, (pss_cons (ps_set (i := 4) sc_l_asked.nd rfl (Or.inl rfl) (pe_callB (call_sortD hr.units) (by rfl) T.n_sorted (by decide +kernel) (pa_cons (pe_lc (own := [("_law_entry", 5)]) (g := gName 5) (by rfl) sc_l_asked.nd (pi_list (pv 1)) (blkOk_by (own := [("_law_entry", 5)]) (N := N_l_asked) (sc := defScope s_l_asked) (by decide +kernel)) (fun _ _ _ _ _ => pg_name (i := 5) sc_l_asked.nd rfl (Or.inl rfl)) (fun _ _ _ _ _ => pts_one (pt_val (pe_c (ok_l_within T) hr (by decide) rfl (pa_cons (pe_ix (kx_ix (F := rIxT) (K := K) rfl ix_tup) (pv 5) pe_int (fun _ _ => rfl)) (pa_cons (pv 2) (pa_cons (pv 3) pa_nil)))))) (fun _ _ _ _ _ => (pv 5))) pa_nil)))
      (pss_cons (ps_set (i := 6) sc_l_asked.nd rfl (Or.inl rfl) (pe_mtG (ok_Index_between T) hr (by decide) pass00 (pv 0) (pa_cons (pv 2) (pa_cons (pv 3) pa_nil))))
      (pss_cons (ps_if (PW.pt (pw_or (pt_not (pt_val (pe_callB call_isi (by rfl) T.n_isinstance (by decide +kernel) (pa_cons (pv 6) (pa_cons (pe_bltn (v := .ty "list") (by rfl) T.n_list (by decide +kernel) rfl) pa_nil))))) (pw_or1 (pt_cmpR (op_neD hr.units) (pv 6) (pv 4) (nomark _)))))
      (pss_one (ps_ret pe_bl))
      pss_nil)
      (pss_cons (ps_for (passes_of rfl) rfl (pi_list (pv 6)) (pg_name (i := 5) sc_l_asked.nd rfl (Or.inl rfl))
      (pss_one (ps_if (PW.pt (pw_or (pt_not (pt_val (pe_callB call_isi (by rfl) T.n_isinstance (by decide +kernel) (pa_cons (pv 5) (pa_cons (pe_bltn (v := .ty "tuple") (by rfl) T.n_tuple (by decide +kernel) rfl) pa_nil))))) (pw_or1 (pt_val (pe_callB call_isi (by rfl) T.n_isinstance (by decide +kernel) (pa_cons (pe_ix ix_tup (pv 5) pe_int (fun _ _ => rfl)) (pa_cons (pe_bltn (v := .ty "bool") (by rfl) T.n_bool (by decide +kernel) rfl) pa_nil)))))))
        (pss_one (ps_ret pe_bl))
        pss_nil)))
      (pss_cons (ps_expr (pe_bm PySem.F.plainAttrs_list PySem.F.slot_list_append PySem.F.type_list_append mt_append (pv 6) (pa_cons (pe_tup (pa_cons pe_int (pa_cons (pe_tup (pa_cons pe_int (pa_cons pe_int pa_nil))) pa_nil))) pa_nil)))
      (pss_one (ps_ret (pe_cmpR (op_eqD hr.units) (pe_mtG (ok_Index_between T) hr (by decide) pass00 (pv 0) (pa_cons (pv 2) (pa_cons (pv 3) pa_nil))) (pv 4) (nomark _))))))))), ?_⟩
    obtain ⟨B, hz, q⟩ := h
    obtain ⟨vs, g1, g2⟩ := B.kp.ex
    have hlen : vs.length = ks.length := by have := g2.len; rw [List.length_map] at this; exact this
    have efil : es.filter (inB lo hi) = (ks.filter (inB lo hi)).mergeSort (PySem.W.dataLe false entD) := by
      have nd : (ks.filter (inB lo hi)).Nodup := B.nd.filter _
      refine Rise.eq (B.ix.up.filter _) (sort_rise nd) fun x => ?_
      rw [(List.mergeSort_perm _ _).mem_iff, List.mem_filter, List.mem_filter, B.mm]
    refine ⟨_, rfl, lk, rfl, ⟨_, SqL.of g1⟩, fun D hD => lc_list (K := K) (a := lk) (xs := vs) (fun i H3 => Same H H3 ∧ (∃ ys, H3 D = some (.lst ys) ∧ DpAll K H ys (((ks.take i).filter (inB lo hi)).map entD) ∧ ys.length ≤ i) ∧ i ≤ ks.length) ⟨same_upd hD, ⟨[], upd_same, .nil, Nat.le_refl _⟩, Nat.zero_le _⟩ (fun i H3 _ p => SqL.of (p.1 _ _ g1)) ?_ ?_⟩
    · rintro i x H3 hx ⟨s3, ⟨ys, hD3, dy, hy⟩, hi'⟩
      have hil : i < ks.length := by have := (List.getElem?_eq_some_iff.mp hx).1; omega
      have gi : ks[i]? = some ks[i] := List.getElem?_eq_getElem hil
      obtain ⟨v, hv, dv⟩ := g2.get (i := i) (d := entD ks[i]) (by rw [List.getElem?_map, gi]; rfl)
      rw [hx] at hv
      cases hv
      have dv3 := Dp.same s3 (entD_tup _) dv
      obtain ⟨ta, u, rfl, du, _⟩ := entD_inv dv3
      refine ⟨rfl, _, rfl, ta, _, _, _, rfl, rfl, du, atI_nat (j := 0) rfl, _, rfl, _, rfl, ks[i].1, lo, hi, rfl, _, rfl, ?_⟩
      have et : (ks.take (i + 1)).filter (inB lo hi) = (ks.take i).filter (inB lo hi) ++ (if inB lo hi ks[i] = true then [ks[i]] else []) := by
        rw [List.take_add_one, gi, List.filter_append]
        congr 1
        show List.filter (inB lo hi) [ks[i]] = _
        rw [List.filter_cons]
        rfl
      refine ite2 (fun c => ?_) (fun c => ?_)
      · refine ⟨_, rfl, ys, hD3, small1000 (by omega), ?_⟩
        have nD : ∀ b o, H b = some o → b ≠ D := fun b o e => ne_of_none e hD
        refine ⟨fun b o e => by rw [upd_ne (nD b o e)]; exact s3 b o e, ⟨_, upd_same, ?_, by rw [List.length_append]; show ys.length + 1 ≤ i + 1; omega⟩, hil⟩
        rw [et, if_pos (show inB lo hi ks[i] = true from c), List.map_append]
        exact dy.app (.cons dv .nil)
      · refine ⟨s3, ⟨ys, hD3, ?_, by omega⟩, hil⟩
        rw [et, if_neg (show ¬ inB lo hi ks[i] = true from c), List.append_nil]
        exact dy
    · rintro H3 ⟨s3, ⟨ys, hD3, dy, hy⟩, _⟩
      rw [hlen, List.take_length] at dy
      have dy3 := DpAll.imm (Imm.of_same s3) _ _ (tupDs_map entD_tup _) dy
      refine ⟨D, ys, Ent, entD, ks.filter (inB lo hi), fun y e => Dp K H3 y (entD e), rfl, SqL.of hD3, dy3.paired, fun _ _ h => h, PySem.W.AllAlike.of entD_alike, PySem.W.Sortable.tuples fun b => ⟨_, _, rfl⟩, fun b _ => by rw [entD_depth]; decide, fun d zs hd pz => ?_⟩
      have s4 := s3.trans (same_upd (o := .lst zs) hd)
      have dz : DpAll K (upd H3 d (.lst zs)) zs ((es.filter (inB lo hi)).map entD) := by
        rw [efil]
        exact DpAll.imm (Imm.of_same (same_upd hd)) _ _ (tupDs_map entD_tup _) (DpAll.of_paired (fun _ _ h => h) pz)
      have B4 := B.same s4
      obtain ⟨⟨dx, h1⟩, _⟩ := id B4.ix
      refine ⟨_, rfl, p, dx, _, rfl, h1, rfl, _, rfl, _, rfl, p, lo, hi, l, es, rfl, B4.ix, fun r ys5 hr5 dy5 => ?_⟩
      have s5 := s4.trans (same_upd (o := .lst ys5) hr5)
      have dz5 := DpAll.imm (Imm.of_same (same_upd (o := .lst ys5) hr5)) _ _ (tupDs_map entD_tup _) dz
      have dy5' := DpAll.imm (Imm.of_same (same_upd (o := .lst ys5) hr5)) _ _ (tupDs_map entD_tup _) dy5
      have hd5 := up_new (o := .lst ys5) hr5 (upd_same (H := H3) (a := d) (o := .lst zs))
      refine ⟨_, rfl, _, _, _, _, _, rfl, .ty "list", .base (.lst upd_same), kit_ty (b := "list") (r := true) (by decide +kernel), _, rfl, iteF ?_⟩
      refine ⟨_, rfl, _, rfl, _, _, .lst (SqL.of upd_same) dy5', .lst (SqL.of hd5) dz5, entDs_shaped _, entDs_shaped _, _, rfl, ?_⟩
      rw [SeqAt.eqv_refl _ (SeqAt.canLay_of_shaped (entDs_shaped _))]
      refine iteF ?_
      have hlen5 : ys5.length = (es.filter (inB lo hi)).length := by have := dy5.len; rw [List.length_map] at this; exact this
      refine ⟨_, rfl, r, rfl, ⟨_, SqL.of upd_same⟩, for_list (K := K) (a := r) (xs := ys5) (fun i σ H6 => ∃ o, σ = [some (.ref p), some (.ref lk), some (bV lo), some (bV hi), some (.ref d), o, some (.ref r)] ∧ H6 = upd (upd H3 d (.lst zs)) r (.lst ys5)) ⟨none, rfl, rfl⟩ (fun i σ H6 _ ⟨_, _, e⟩ => by rw [e]; exact SqL.of upd_same) ?_ ?_⟩
      · rintro i x σ H6 hx ⟨o, rfl, rfl⟩
        have hil : i < (es.filter (inB lo hi)).length := by have := (List.getElem?_eq_some_iff.mp hx).1; omega
        obtain ⟨v, hv, dv⟩ := dy5'.get (i := i) (d := entD (es.filter (inB lo hi))[i]) (by rw [List.getElem?_map, List.getElem?_eq_getElem hil]; rfl)
        rw [hx] at hv
        cases hv
        obtain ⟨ta, u, rfl, du, _⟩ := entD_inv dv
        refine ⟨_, rfl, _, _, _, _, _, rfl, .ty "tuple", sqT_ty du, kit_ty (b := "tuple") (r := true) (by decide +kernel), _, rfl, iteF ?_⟩
        refine ⟨_, rfl, ta, _, _, _, rfl, rfl, du, atI_nat (j := 0) rfl, _, _, _, _, _, rfl, .ty "bool", .base (.int _), kit_ty (b := "bool") (r := false) (by decide +kernel), _, rfl, iteF ?_⟩
        exact ⟨_, rfl, rfl⟩
      · rintro σ H6 ⟨o, rfl, rfl⟩
        refine ⟨_, rfl, .inl ⟨rfl, _, SqL.of upd_same⟩, by show 2 ≤ sizeLine; decide, fun t1 ht1 => ⟨by show 2 ≤ sizeLine; decide, fun t2 ht2 => ?_⟩⟩
        have s6 := (same_upd (o := .tup [.int 9, .int 9]) ht1).trans (same_upd (o := .tup [.int 0, .ref t1]) ht2)
        have hr7 := s6 _ _ (upd_same (H := upd H3 d (.lst zs)) (a := r) (o := .lst ys5))
        have hz5 : ys5.length ≤ 1000 := by
          rw [hlen5]
          exact Nat.le_trans (List.length_filter_le _ _) B.ix.sz
        refine ⟨r, _, _, rfl, rfl, hr7, small1000 hz5, ?_⟩
        have hr0 : H r = none := s4.free hr5
        have im7 : Imm _ (upd (upd (upd (upd (upd H3 d (.lst zs)) r (.lst ys5)) t1 (.tup [.int 9, .int 9])) t2 (.tup [.int 0, .ref t1])) r (.lst (ys5 ++ [.ref t2]))) := (Imm.of_same s6).upd hr7 rfl
        have s7 : Same H (upd (upd (upd (upd (upd H3 d (.lst zs)) r (.lst ys5)) t1 (.tup [.int 9, .int 9])) t2 (.tup [.int 0, .ref t1])) r (.lst (ys5 ++ [.ref t2]))) := fun b o e => by
          rw [upd_ne (ne_of_none e hr0)]
          exact s6 _ _ (s5 _ _ e)
        have ndr : d ≠ r := ne_of_none (upd_same (H := H3) (a := d) (o := .lst zs)) hr5
        have hd7 : upd (upd (upd (upd (upd H3 d (.lst zs)) r (.lst ys5)) t1 (.tup [.int 9, .int 9])) t2 (.tup [.int 0, .ref t1])) r (.lst (ys5 ++ [.ref t2])) d = some (.lst zs) := by
          rw [upd_ne ndr]
          exact s6 _ _ hd5
        have B7 := B.same s7
        obtain ⟨⟨dx7, h7⟩, _⟩ := id B7.ix
        refine ⟨_, rfl, p, dx7, _, rfl, h7, rfl, _, rfl, _, rfl, p, lo, hi, l, es, rfl, B7.ix, fun r8 ys8 hr8 dy8 => ?_⟩
        have s8 := same_upd (o := .lst ys8) hr8
        refine ⟨_, rfl, _, _, .lst (SqL.of upd_same) (DpAll.imm (Imm.of_same s8) _ _ (tupDs_map entD_tup _) dy8), .lst (SqL.of (s8 _ _ hd7)) (DpAll.imm (im7.trans (Imm.of_same s8)) _ _ (tupDs_map entD_tup _) dz5), entDs_shaped _, entDs_shaped _, ?_⟩
        rw [SeqAt.eqv_refl _ (SeqAt.canLay_of_shaped (entDs_shaped _))]
        exact q _ (s7.trans s8)


def sp_mixed : Sp := fun vs H Q _ => ∃ (c k : Int), vs = [.int c, .int k] ∧ ∀ r : Int, 0 ≤ r → r < 2147483647 → Q (.int r) H

theorem ok_l_mixed (T : Txt K mg Z) : Cal P w K mg base 1 "_law_mixed" (sp_mixed) := by
  refine T.d_l_mixed.cal sc_l_mixed (fun vs H Q E h => ?_) (fun f cdv A outer s H vs Q E hr h => ?_)
  · obtain ⟨c, k, rfl, _⟩ := h
    rfl
  · obtain ⟨c, k, rfl, h⟩ := h
    refine ⟨_, (pss_cons (ps_set (i := 2) sc_l_mixed.nd rfl (Or.inl rfl) (pe_op op_mod (pe_op op_mul (pe_op op_add (pe_op op_add (pv 0) (pe_op op_mul pe_int (pv 1))) pe_int) pe_int) pe_int))
      (pss_one (ps_ret (pe_op op_mod (pe_op op_mul (pv 2) (pe_op op_add (pe_op op_fdivW (pv 2) pe_int) pe_int)) pe_int)))), ?_⟩
    refine ⟨_, rfl, _, rfl, _, _, rfl, rfl, .inl ⟨by decide, by decide⟩, _, _, rfl, rfl, _, _, rfl, rfl, _, _, rfl, rfl, .inr ⟨by decide, by decide⟩, _, _, rfl, rfl, by show (0 : Int) < 2147483647; decide, ?_⟩
    generalize (c + 7919 * k + 1) * 48271 = z
    have h0 : 0 ≤ z % 2147483647 := Int.emod_nonneg _ (by decide)
    have h1 : z % 2147483647 < 2147483647 := Int.emod_lt_of_pos _ (by decide)
    refine ⟨_, rfl, _, rfl, _, _, rfl, rfl, ⟨by decide, by decide⟩, _, _, rfl, rfl, _, _, rfl, rfl, .inl (small64 h0 h1), _, _, rfl, rfl, by show (0 : Int) < 2147483647; decide, ?_⟩
    exact h _ (Int.emod_nonneg _ (by decide)) (Int.emod_lt_of_pos _ (by decide))


def sp_twice : Sp := fun vs H Q _ => ∃ (c k : Int), vs = [.int c, .int k] ∧ ∀ r : Int, 0 ≤ r → r < 2147483647 → Q (.int r) H

theorem ok_l_twice (T : Txt K mg Z) : Cal P w K mg base 2 "_law_twice" (sp_twice) := by
  refine T.d_l_twice.cal sc_l_twice (fun vs H Q E h => ?_) (fun f cdv A outer s H vs Q E hr h => ?_)
  · obtain ⟨c, k, rfl, _⟩ := h
    rfl
  · obtain ⟨c, k, rfl, h⟩ := h
    refine ⟨_, (pss_cons (ps_set (i := 2) sc_l_twice.nd rfl (Or.inl rfl) (pe_op op_mod (pe_op op_mul (pe_op op_add (pe_op op_add (pe_c (ok_l_mixed T) hr (by decide) rfl (pa_cons (pv 0) (pa_cons (pv 1) pa_nil))) (pe_op op_mul pe_int (pv 1))) pe_int) pe_int) pe_int))
      (pss_one (ps_ret (pe_op op_mod (pe_op op_mul (pv 2) (pe_op op_add (pe_op op_fdivW (pv 2) pe_int) pe_int)) pe_int)))), ?_⟩
    refine ⟨_, rfl, _, rfl, c, k, rfl, fun r _ _ => ?_⟩
    refine ⟨_, rfl, _, _, rfl, rfl, .inl ⟨by decide, by decide⟩, _, _, rfl, rfl, _, _, rfl, rfl, _, _, rfl, rfl, .inr ⟨by decide, by decide⟩, _, _, rfl, rfl, by show (0 : Int) < 2147483647; decide, ?_⟩
    generalize (r + 104729 * k + 11) * 69621 = z
    have h0 : 0 ≤ z % 2147483647 := Int.emod_nonneg _ (by decide)
    have h1 : z % 2147483647 < 2147483647 := Int.emod_lt_of_pos _ (by decide)
    refine ⟨_, rfl, _, rfl, _, _, rfl, rfl, ⟨by decide, by decide⟩, _, _, rfl, rfl, _, _, rfl, rfl, .inl (small64 h0 h1), _, _, rfl, rfl, by show (0 : Int) < 2147483647; decide, ?_⟩
    exact h _ (Int.emod_nonneg _ (by decide)) (Int.emod_lt_of_pos _ (by decide))


def sp_draw : Sp := fun vs H Q _ => ∃ (p : Addr) (m : Int), vs = [.ref p, .int m] ∧ WellAt H p ∧ (0 < m ∧ m.natAbs.log2 < 9000) ∧ ∀ (r : Int) (H' : Hp), 0 ≤ r → r < m → Frm [p] H H' → WellAt H' p → Q (.int r) H'

theorem ok_l_draw (T : Txt K mg Z) : Cal P w K mg base 3 "_law_draw" (sp_draw) := by
  refine T.d_l_draw.cal sc_l_draw (fun vs H Q E h => ?_) (fun f cdv A outer s H vs Q E hr h => ?_)
  · obtain ⟨p, m, rfl, _⟩ := h
    rfl
  · obtain ⟨p, m, rfl, h⟩ := h
    refine ⟨_, (pss_cons (ps_if (PW.pt (pw_and (pt_cmpR op_eq (pe_ix ix_list (pv 0) pe_int (fun _ _ => rfl)) pe_int (nomark _)) (pw_and1 (pt_cmpR op_notIn_seq (pe_ix ix_list (pv 0) pe_int (fun _ _ => rfl)) (pe_tup (pa_cons pe_int (pa_cons (pe_un un_neg pe_int) pa_nil))) (by rfl)))))
      (pss_cons (ps_set (i := 2) sc_l_draw.nd rfl (Or.inl rfl) (pe_op op_mod (pe_ix ix_list (pv 0) pe_int (fun _ _ => rfl)) (pv 1)))
        (pss_cons (ps_asg (pe_op op_fdivW (pe_ix ix_list (pv 0) pe_int (fun _ _ => rfl)) (pv 1)) (pg_sub (pv 0) pe_int set_list))
        (pss_one (ps_ret (pv 2)))))
      pss_nil)
      (pss_cons (ps_asg (pe_op op_add (pe_ix ix_list (pv 0) pe_int (fun _ _ => rfl)) pe_int) (pg_sub (pv 0) pe_int set_list))
      (pss_one (ps_ret (pe_op op_mod (pe_c (ok_l_twice T) hr (by decide) rfl (pa_cons (pe_ix ix_list (pv 0) pe_int (fun _ _ => rfl)) (pa_cons (pe_ix ix_list (pv 0) pe_int (fun _ _ => rfl)) pa_nil))) (pv 1)))))), ?_⟩
    obtain ⟨⟨ws, hl, hw⟩, hm, q⟩ := h
    have last : ∀ (H1 : Hp) (w0 w1 w2 w3 : Int) (o : Option V), Frm [p] H H1 → H1 p = some (.lst [.int w0, .int w1, .int w2, .int w3]) →
        tSeq (tAsg (tOp (rI0 fun i j => .int (i + j)) (tOp (rIxL K) (tVar 0) (tC (.int 2))) (tC (.int 1))) (gSub (tVar 0) (tC (.int 2)) rSetL))
          (tRet (tOp (rI (fun _ j => 0 < j) fun i j => .int (i % j)) (tCallS sp_twice (fun _ => E0) (tCons (tOp (rIxL K) (tVar 0) (tC (.int 3))) (tCons (tOp (rIxL K) (tVar 0) (tC (.int 2))) tNil))) (tVar 1)))
          { nx := fun _ H' => Q .non H', rt := Q } [some (.ref p), some (.int m), o] H1 := by
      intro H1 w0 w1 w2 w3 o f1 h1
      refine ⟨_, rfl, p, _, _, _, rfl, rfl, SqL.of h1, atI_nat (j := 2) rfl, _, _, rfl, rfl, _, rfl, p, _, _, 2, rfl, rfl, h1, ixN_nat (j := 2) (by show 2 < 4; decide), ?_⟩
      have h2 : upd H1 p (.lst [.int w0, .int w1, .int (w2 + 1), .int w3]) p = _ := upd_same
      refine ⟨_, rfl, p, _, _, _, rfl, rfl, SqL.of h2, atI_nat (j := 3) rfl, _, rfl, p, _, _, _, rfl, rfl, SqL.of h2, atI_nat (j := 2) rfl, _, _, rfl, fun r _ _ => ⟨_, rfl, _, _, rfl, rfl, hm.1, ?_⟩⟩
      exact q _ _ (Int.emod_nonneg _ (by omega)) (Int.emod_lt_of_pos _ hm.1) (f1.upd (.inl (by simp))) ⟨[w0, w1, w2 + 1, w3], rfl, upd_same⟩
    match ws, hl, hw with
    | [w0, w1, w2, w3], _, hw =>
      refine ⟨_, rfl, p, _, _, _, rfl, rfl, SqL.of hw, atI_nat (j := 0) rfl, rfl, _, rfl, ?_⟩
      refine ite2 (fun _ => ?_) (fun _ => ?_)
      · refine ⟨_, rfl, p, _, _, _, rfl, rfl, SqL.of hw, atI_nat (j := 1) rfl, _, rfl, by show 2 ≤ sizeLine; decide, fun t ht => ?_⟩
        have hw1 := up_new (o := .tup [.int 0, .int (-1)]) ht hw
        refine ⟨t, _, rfl, .inr (SqT.of upd_same), rfl, rfl, _, rfl, ?_⟩
        refine ite2 (fun _ => ?_) (fun _ => ?_)
        · refine ⟨_, rfl, p, _, _, _, rfl, rfl, SqL.of hw1, atI_nat (j := 1) rfl, _, rfl, _, _, rfl, rfl, hm.1, ?_⟩
          refine ⟨_, rfl, p, _, _, _, rfl, rfl, SqL.of hw1, atI_nat (j := 1) rfl, _, rfl, _, _, rfl, rfl, hm, _, rfl, p, _, _, 1, rfl, rfl, hw1, ixN_nat (j := 1) (by show 1 < 4; decide), ?_⟩
          refine ⟨_, rfl, ?_⟩
          exact q _ _ (Int.emod_nonneg _ (by omega)) (Int.emod_lt_of_pos _ hm.1) ((Frm.of_same (same_upd ht)).upd (.inl (by simp))) ⟨[w0, w1 / m, w2, w3], rfl, upd_same⟩
        · exact last _ w0 w1 w2 w3 _ (Frm.of_same (same_upd ht)) hw1
      · exact last _ w0 w1 w2 w3 _ (Frm.refl _ _) hw


def sp_k21value : Sp := fun vs H Q _ => ∃ (w : Addr), vs = [.ref w] ∧ WellAt H w ∧ ∀ (z : Int) (H' : Hp), Frm [w] H H' → WellAt H' w → Q (.int z) H'

theorem ok_l_value (T : Txt K mg Z) : Cal P w K mg base 4 "_law_value" (sp_k21value) := by
  refine T.d_l_value.cal sc_l_value (fun vs H Q E h => ?_) (fun f cdv A outer s H vs Q E hr h => ?_)
  · obtain ⟨w, rfl, _⟩ := h
    rfl
  · obtain ⟨w, rfl, h⟩ := h
    refine ⟨_, (pss_one (ps_ret (pe_ix ix_list (pe_lst (pa_cons (pe_op op_sub (pe_c (ok_l_draw T) hr (by decide) rfl (pa_cons (pv 0) (pa_cons pe_int pa_nil))) pe_int) (pa_cons (pe_op op_add (pe_op op_sub (pe_c (ok_l_draw T) hr (by decide) rfl (pa_cons (pv 0) (pa_cons (pe_op op_sub (pe_op op_mul pe_int (pe_op op_pow pe_int pe_int)) pe_int) pa_nil))) (pe_op op_pow pe_int pe_int)) pe_int) pa_nil))) (pe_op op_fdivW (pe_c (ok_l_draw T) hr (by decide) rfl (pa_cons (pv 0) (pa_cons pe_int pa_nil))) pe_int) (fun _ _ => rfl)))), ?_⟩
    obtain ⟨hw, q⟩ := h
    refine ⟨_, rfl, w, 6, rfl, hw, ⟨by decide, by decide⟩, fun r1 H1 a1 b1 f1 w1 => ⟨_, _, rfl, rfl, ?_⟩⟩
    refine ⟨_, rfl, _, _, rfl, rfl, ⟨by decide, by decide, by decide⟩, _, _, rfl, rfl, .inl ⟨by decide, by decide⟩, _, _, rfl, rfl, w, _, rfl, w1, ⟨by decide, by decide⟩, fun r2 H2 a2 b2 f2 w2 => ?_⟩
    refine ⟨_, _, rfl, rfl, ⟨by decide, by decide, by decide⟩, _, _, rfl, rfl, _, _, rfl, rfl, by show 2 ≤ sizeLine; decide, fun l hl => ?_⟩
    have nw : w ≠ l := by obtain ⟨ws, _, z⟩ := w2; exact ne_of_none z hl
    refine ⟨_, rfl, w, 4, rfl, w2.upd nw, ⟨by decide, by decide⟩, fun r3 H3 a3 b3 f3 w3 => ?_⟩
    have hl3 : H3 l = some (.lst [.int (r1 - 2), .int (r2 - 10 ^ (40 : Int).toNat + 1)]) := f3.at (by simpa using nw.symm) upd_same
    have f : Frm [w] H H3 := (f1.trans f2).trans ((Frm.of_same (same_upd hl)).trans f3)
    have hz : r3 / 3 = 0 ∨ r3 / 3 = 1 := by omega
    refine ⟨_, _, rfl, rfl, ⟨by decide, by decide⟩, ?_⟩
    rcases hz with e | e
    · exact ⟨l, _, _, _, rfl, rfl, SqL.of hl3, at_of (j := 0) e rfl, q _ _ f w3⟩
    · exact ⟨l, _, _, _, rfl, rfl, SqL.of hl3, at_of (j := 1) e rfl, q _ _ f w3⟩


def sp_k21bound (K : PySem.W.Frag) : Sp := fun vs H Q _ => ∃ (w lk : Addr) (ks : List Ent), vs = [.ref w, .ref lk] ∧ WellAt H w ∧ KeptAt K H lk ks ∧ w ≠ lk ∧ ks.length ≤ 100 ∧ ∀ (b : Option Int) (H' : Hp), Frm [w] H H' → WellAt H' w → Q (bV b) H'

theorem ok_l_bound (T : Txt K mg Z) : Cal P w K mg base 5 "_law_bound" (sp_k21bound K) := by
  refine T.d_l_bound.cal sc_l_bound (fun vs H Q E h => ?_) (fun f cdv A outer s H vs Q E hr h => ?_)
  · obtain ⟨w, lk, ks, rfl, _⟩ := h
    rfl
  · obtain ⟨w, lk, ks, rfl, h⟩ := h
    refine ⟨_, (pss_cons (ps_set (i := 2) sc_l_bound.nd rfl (Or.inl rfl) (pe_op op_cat (pe_lst (pa_cons pe_non (pa_cons (pe_c (ok_l_value T) hr (by decide) rfl (pa_cons (pv 0) pa_nil)) pa_nil))) (pe_lc (own := [("_law_entry", 3)]) (g := gName 3) (tt := tYes) (by rfl) sc_l_bound.nd (pi_list (pv 1)) (blkOk_by (own := [("_law_entry", 3)]) (N := N_l_bound) (sc := defScope s_l_bound) (by decide +kernel)) (fun _ _ _ _ _ => pg_name (i := 3) sc_l_bound.nd rfl (Or.inl rfl)) (fun _ _ _ _ _ => pts_nil) (fun _ _ _ _ _ => (pe_ix (kx_ix (F := rIxT) (K := K) rfl ix_tup) (pv 3) pe_int (fun _ _ => rfl))))))
      (pss_one (ps_ret (pe_ix ix_list (pv 2) (pe_c (ok_l_draw T) hr (by decide) rfl (pa_cons (pv 0) (pa_cons (pe_callB call_len (by rfl) T.n_len (by decide +kernel) (pa_cons (pv 2) pa_nil)) pa_nil))) (fun _ _ => rfl))))), ?_⟩
    obtain ⟨hw, hk, nwk, hz, q⟩ := h
    refine ⟨_, rfl, w, rfl, hw, fun z H1 f1 w1 => ⟨by show 2 ≤ sizeLine; decide, fun l hl => ?_⟩⟩
    have s2 := same_upd (o := .lst [.non, .int z]) hl
    have k2 := (hk.frm f1 (hw.imm f1) (by simpa using nwk.symm)).same s2
    obtain ⟨vs, g1, g2⟩ := k2.ex
    have hlen : vs.length = ks.length := by have := g2.len; rw [List.length_map] at this; exact this
    refine ⟨_, rfl, lk, rfl, ⟨_, SqL.of g1⟩, fun D hD => lc_list (K := K) (a := lk) (xs := vs) (fun i H3 => Same (upd H1 l (.lst [.non, .int z])) H3 ∧ H3 D = some (.lst ((ks.take i).map fun e => V.int e.1)) ∧ i ≤ ks.length) ⟨same_upd hD, upd_same, Nat.zero_le _⟩ (fun i H3 _ p => SqL.of (p.1 _ _ g1)) ?_ ?_⟩
    · rintro i x H3 hx ⟨s3, hD3, hi⟩
      have hil : i < ks.length := by have := (List.getElem?_eq_some_iff.mp hx).1; omega
      have gi : ks[i]? = some ks[i] := List.getElem?_eq_getElem hil
      obtain ⟨v, hv, dv⟩ := g2.get (i := i) (d := entD ks[i]) (by rw [List.getElem?_map, gi]; rfl)
      rw [hx] at hv
      cases hv
      obtain ⟨ta, u, rfl, du, _⟩ := entD_inv (Dp.same s3 (entD_tup _) dv)
      refine ⟨rfl, ?_⟩
      refine ⟨_, rfl, ta, _, _, _, rfl, rfl, du, atI_nat (j := 0) rfl, _, hD3, by rw [List.length_map, List.length_take]; exact small1000 (by omega), ?_⟩
      have nD : ∀ b o, (upd H1 l (.lst [.non, .int z])) b = some o → b ≠ D := fun b o e => ne_of_none e hD
      refine ⟨fun b o e => by rw [upd_ne (nD b o e)]; exact s3 b o e, ?_, hil⟩
      rw [upd_same, List.take_add_one, gi, List.map_append]
      rfl
    · rintro H3 ⟨s3, hD3, hi⟩
      rw [hlen, List.take_length] at hD3
      have hl3 := s3 _ _ (upd_same (H := H1) (a := l) (o := .lst [.non, .int z]))
      refine ⟨l, D, _, _, rfl, rfl, hl3, hD3, by rw [List.length_map]; show 2 + ks.length ≤ sizeLine; have := small1000 (n := 2 + ks.length) (by omega); omega, fun L hL => ?_⟩
      have f4 : Frm [w] H (upd H3 L (.lst ([.non, .int z] ++ ks.map fun e => V.int e.1))) := ((f1.trans (Frm.of_same s2)).trans (Frm.of_same s3)).trans (Frm.of_same (same_upd hL))
      have w4 : WellAt (upd H3 L (.lst ([.non, .int z] ++ ks.map fun e => V.int e.1))) w := ((w1.same s2).same s3).same (same_upd hL)
      have nwL : w ≠ L := by obtain ⟨ws, _, y⟩ := (w1.same s2).same s3; exact ne_of_none y hL
      refine ⟨_, rfl, _, rfl, _, rfl, _, _, rfl, .inl ⟨_, SqL.of upd_same, rfl⟩, w, _, rfl, w4, ?_, fun r H5 a5 b5 f5 w5 => ?_⟩
      · have e : (([V.non, V.int z] ++ ks.map fun e => V.int e.1).length : Int) = ((2 + ks.length : Nat) : Int) := by simp; omega
        rw [e]
        refine ⟨by omega, ?_⟩
        have : (((2 + ks.length : Nat) : Int)).natAbs = 2 + ks.length := rfl
        rw [this]
        exact Nat.lt_of_lt_of_le (Nat.log2_lt (by omega) |>.mpr (show 2 + ks.length < 2 ^ 9 by omega)) (by decide)
      · have hL5 := f5.at (by simpa using nwL.symm) (upd_same (H := H3) (a := L) (o := .lst ([.non, .int z] ++ ks.map fun e => V.int e.1)))
        have hr' : ∃ b : Option Int, ([V.non, V.int z] ++ ks.map fun e => V.int e.1)[r.toNat]? = some (bV b) := by
          have hr2 : r.toNat < 2 + ks.length := by simp at b5; omega
          match hrn : r.toNat, hr2 with
          | 0, _ => exact ⟨none, rfl⟩
          | 1, _ => exact ⟨some z, rfl⟩
          | n + 2, h2 =>
            have hn : n < ks.length := by omega
            refine ⟨some ks[n].1, ?_⟩
            show (ks.map fun e => V.int e.1)[n]? = _
            rw [List.getElem?_map, List.getElem?_eq_getElem hn]
            rfl
        obtain ⟨b, hb⟩ := hr'
        exact ⟨L, _, _, _, rfl, rfl, SqL.of hL5, at_of (j := r.toNat) (by omega) hb, q b _ (f4.trans f5) w5⟩


def sp_ixTake (K : PySem.W.Frag) (C N : Addr) : Sp := fun vs H Q E => ∃ (p : Addr) (x : Int) (n : V) (l : Addr) (es : List Ent) (a b : Int), vs = [.ref p, .int x, n] ∧ IndexAt K C H p l es ∧ Dp K H n (.tuple [.int a, .int b]) ∧
  ((x, a, b) ∉ es → ∀ H', Same H H' → E (.ref N) none H') ∧ ((x, a, b) ∈ es → ∀ H' es', Frm [l] H H' → Imm H H' → IndexAt K C H' p l es' → (∀ y, y ∈ es' ↔ y ∈ es ∧ y ≠ (x, a, b)) → Q .non H')

theorem ok_Index_take (T : Txt K mg Z) : Met P w K mg base 2 Z.C_Index "take" (sp_ixTake K Z.C_Index Z.C_NoEntry) := by
  refine T.d_Index_take.met T.cl_Index sc_Index_take (fun vs H Q E h => ?_) (fun f cdv A outer s H vs Q E hr h => ?_)
  · obtain ⟨p, x, n, l, es, a, b, rfl, _⟩ := h
    rfl
  · obtain ⟨p, x, n, l, es, a, b, rfl, h⟩ := h
    have tk := takes_of (X := cxOf (L2.CX P w) P w K mg base N_Index_take "Index.take" (defScope s_Index_take) f cdv A outer s H E) rfl rfl rfl rfl
    refine ⟨_, (pss_cons (ps_set (i := 3) sc_Index_take.nd rfl (Or.inl rfl) (pe_mtG (ok_Index_place_of T) hr (by decide) pass00 (pv 0) (pa_cons (pe_tup (pa_cons (pv 1) (pa_cons (pv 2) pa_nil))) pa_nil)))
      (pss_cons (ps_if (pt_not (pt_val (pe_mtG (ok_Index_stands_at T) hr (by decide) pass00 (pv 0) (pa_cons (pv 3) (pa_cons (pe_tup (pa_cons (pv 1) (pa_cons (pv 2) pa_nil))) pa_nil)))))
      (pss_one (ps_raise rfl tk (pmk_own PySem.F.excBase_ValueError T.x_NoEntry T.g_NoEntry T.k_NoEntry (raises_own T.b_NoEntry T.t_NoEntry) rfl)))
      pss_nil)
      (pss_one (ps_expr (pe_bm PySem.F.plainAttrs_list PySem.F.slot_list_pop PySem.F.type_list_pop mt_popAt (pe_fld (pv 0) rfl) (pa_cons (pv 3) pa_nil)))))), ?_⟩
    obtain ⟨IX, hn, qE, q⟩ := h
    obtain ⟨⟨dx, h1⟩, _, _⟩ := id IX
    have ed : ∀ (H1 : Hp) (t : Addr), Same H H1 → H1 t = some (.tup [.int x, n]) → Dp K H1 (.ref t) (entD (x, a, b)) := fun H1 t s ht => .tup (SqT.of ht) (.cons (.int _) (.cons (Dp.same s (by simp [tupD, tupDs]) hn) .nil))
    refine ⟨_, rfl, p, dx, _, rfl, h1, rfl, _, rfl, _, rfl, by show 2 ≤ sizeLine; decide, fun t ht => ?_⟩
    have s1 := same_upd (o := .tup [.int x, n]) ht
    refine ⟨p, .ref t, l, es, (x, a, b), rfl, IX.same s1, ed _ t s1 upd_same, fun k hk => ?_⟩
    refine ⟨_, rfl, p, dx, _, rfl, s1 _ _ h1, rfl, _, rfl, _, rfl, _, rfl, by show 2 ≤ sizeLine; decide, fun t2 ht2 => ?_⟩
    have s2 := s1.trans (same_upd (o := .tup [.int x, n]) ht2)
    refine ⟨p, k, .ref t2, l, es, (x, a, b), rfl, IX.same s2, ed _ t2 s2 upd_same, _, rfl, ?_⟩
    by_cases hg : es[k]? = some (x, a, b)
    · rw [decide_eq_true hg]
      refine iteF ?_
      have mm := (hk.get IX.up).mp hg
      obtain ⟨⟨dx2, g1⟩, ⟨ws, g2, g3⟩, up, sz⟩ := IX.same s2
      have hlen : ws.length = es.length := by have := g3.len; rw [List.length_map] at this; exact this
      have hkl : k < es.length := (List.getElem?_eq_some_iff.mp hg).1
      have npl : p ≠ l := ne_of g1 g2 (by intro z; cases z)
      have gk : ws[k]? = some ws[k] := List.getElem?_eq_getElem (by omega)
      refine ⟨_, rfl, p, Z.C_Index, dx2, _, _, rfl, g1, T.cl_Index, T.na_Index_entries, rfl, .inl ⟨rfl, _, SqL.of g2⟩, _, rfl, l, ws, (k : Nat), k, ws[k], rfl, rfl, g2, by omega, by omega, (ixN_seq (ixN_nat (by omega))).1, gk, ?_⟩
      have im : Imm H (upd _ l (.lst (ws.eraseIdx k))) := (Imm.of_same s2).upd g2 rfl
      have im2 : Imm _ (upd _ l (.lst (ws.eraseIdx k))) := (Imm.refl _).upd g2 rfl
      refine q mm _ (es.eraseIdx k) ((Frm.of_same s2).upd (.inl (by simp))) im ⟨⟨dx2, up_ne npl g1⟩, ⟨_, upd_same, ?_⟩, IX.up.erase k, Nat.le_trans (List.length_eraseIdx_le es k) sz⟩ (erase_mem IX.up hg)
      have g4 := DpAll.imm im2 _ _ (tupDs_map entD_tup _) g3
      have g5 := g4.erase k
      rw [map_eraseIdx] at g5
      exact g5
    · rw [decide_eq_false hg]
      refine iteT ?_
      exact qE (fun z => hg ((hk.get IX.up).mpr z)) _ s2


def sp_k21deed (K : PySem.W.Frag) (C : Addr) : Sp := fun vs H Q _ => ∃ (p lk w : Addr) (l : Addr) (es ks : List Ent), vs = [.ref p, .ref lk, .ref w] ∧ WellAt H w ∧ Both2 K C H p l lk es ks ∧ w ≠ lk ∧ w ≠ l ∧ ks.length < 90 ∧ es.length < 90 ∧
  ∀ (es' ks' : List Ent) (H' : Hp), Frm [w, l, lk] H H' → Imm H H' → WellAt H' w → Both2 K C H' p l lk es' ks' → ks'.length ≤ ks.length + 1 → es'.length ≤ es.length + 1 → Q (.bl true) H'

theorem ok_l_deed (T : Txt K mg Z) : Cal P w K mg base 5 "_law_deed" (sp_k21deed K Z.C_Index) := by
  refine T.d_l_deed.cal sc_l_deed (fun vs H Q E h => ?_) (fun f cdv A outer s H vs Q E hr h => ?_)
  · obtain ⟨p, lk, w, l, es, ks, rfl, _⟩ := h
    rfl
  · obtain ⟨p, lk, w, l, es, ks, rfl, h⟩ := h
    refine ⟨_, (pss_cons (ps_set (i := 3) sc_l_deed.nd rfl (Or.inl rfl) (pe_tup (pa_cons (pe_c (ok_l_value T) hr (by decide) rfl (pa_cons (pv 2) pa_nil)) (pa_cons (pe_tup (pa_cons (pe_op op_add pe_int (pe_c (ok_l_draw T) hr (by decide) rfl (pa_cons (pv 2) (pa_cons pe_int pa_nil)))) (pa_cons (pe_op op_add pe_int (pe_c (ok_l_draw T) hr (by decide) rfl (pa_cons (pv 2) (pa_cons pe_int pa_nil)))) pa_nil))) pa_nil))))
      (pss_cons (ps_if (PW.pt (pw_and (pt_cmpR (op_neD hr.units) (pv 1) (pe_lst pa_nil) (nomark _)) (pw_and1 (pt_cmpR op_eq (pe_c (ok_l_draw T) hr (by decide) rfl (pa_cons (pv 2) (pa_cons pe_int pa_nil))) pe_int (nomark _)))))
      (pss_one (ps_set (i := 3) sc_l_deed.nd rfl (Or.inl rfl) (pe_ix ix_list (pv 1) (pe_c (ok_l_draw T) hr (by decide) rfl (pa_cons (pv 2) (pa_cons (pe_callB call_len (by rfl) T.n_len (by decide +kernel) (pa_cons (pv 1) pa_nil)) pa_nil))) (fun _ _ => rfl))))
      pss_nil)
      (pss_cons (ps_set (i := 4) sc_l_deed.nd rfl (Or.inl rfl) (pe_c (ok_l_draw T) hr (by decide) rfl (pa_cons (pv 2) (pa_cons pe_int pa_nil))))
      (pss_cons (ps_set (i := 5) sc_l_deed.nd rfl (Or.inl rfl) pe_bl)
      (pss_cons (ps_try_as (i := 6) rfl rfl sc_l_deed.nd rfl rfl ⟨rfl, by decide, .inl T.g_LedgerError⟩ takes0 (fun W pn xe tk _ =>
      (pss_one (ps_if (pt_cmpR op_lt (pv 4) pe_int (nomark _))
        (pss_one (ps_expr (pe_mtG (ok_Index_put T) hr (by decide) (fun σ => passAt tk σ) (pv 0) (pa_cons (pe_ix (kx_ix (F := rIxT) (K := K) rfl ix_tup) (pv 3) pe_int (fun _ _ => rfl)) (pa_cons (pe_ix (kx_ix (F := rIxT) (K := K) rfl ix_tup) (pv 3) pe_int (fun _ _ => rfl)) pa_nil)))))
        (pss_one (ps_expr (pe_mtG (ok_Index_take T) hr (by decide) (fun σ => passAt tk σ) (pv 0) (pa_cons (pe_ix (kx_ix (F := rIxT) (K := K) rfl ix_tup) (pv 3) pe_int (fun _ _ => rfl)) (pa_cons (pe_ix (kx_ix (F := rIxT) (K := K) rfl ix_tup) (pv 3) pe_int (fun _ _ => rfl)) pa_nil))))))))
      (fun a oe cls dd pn hz hf =>
      (pss_cons (ps_set (i := 5) sc_l_deed.nd rfl (Or.inl rfl) (pe_and (pe_callB (call_isX hz hf) (by rfl) T.n_isinstance (by decide +kernel) (pa_cons (pv 6) (pa_cons (pe_glob (v := .ref Z.C_NoEntry) rfl T.g_NoEntry rfl) pa_nil))) (pe_one (pe_not (pe_callB (call_isXT hz hf) (by rfl) T.n_isinstance (by decide +kernel) (pa_cons (pv 6) (pa_cons (pe_tup (pa_cons (pe_glob (v := .ref Z.C_NoIndex) rfl T.g_NoIndex rfl) (pa_cons (pe_glob (v := .ref Z.C_NoNumber) rfl T.g_NoNumber rfl) (pa_cons (pe_glob (v := .ref Z.C_NoRow) rfl T.g_NoRow rfl) (pa_cons (pe_glob (v := .ref Z.C_NoTable) rfl T.g_NoTable rfl) pa_nil))))) pa_nil)))))))
        (pss_one (ps_if (pt_not (pt_val (pv 5)))
        (pss_one (ps_ret pe_bl))
        pss_nil)))))
      (pss_cons (ps_if (pt_cmpR op_ne (pv 5) (pe_cmpR op_eq (pe_cmpR op_lt (pv 4) pe_int (nomark _)) (pe_cmpR (op_inD (units65 hr)) (pv 3) (pv 1) (by rfl)) (nomark _)) (nomark _))
      (pss_one (ps_ret pe_bl))
      pss_nil)
      (pss_cons (ps_if (PW.pt (pw_and (pt_not (pt_val (pv 5))) (pw_and1 (pt_cmpR op_lt (pv 4) pe_int (nomark _)))))
      (pss_one (ps_expr (pe_bm PySem.F.plainAttrs_list PySem.F.slot_list_append PySem.F.type_list_append mt_append (pv 1) (pa_cons (pv 3) pa_nil))))
      pss_nil)
      (pss_cons (ps_if (PW.pt (pw_and (pt_not (pt_val (pv 5))) (pw_and1 (pt_cmpR op_eq (pv 4) pe_int (nomark _)))))
      (pss_one (ps_expr (pe_bm PySem.F.plainAttrs_list PySem.F.slot_list_remove PySem.F.type_list_remove (mt_removeD (units65 hr)) (pv 1) (pa_cons (pv 3) pa_nil))))
      pss_nil)
      (pss_one (ps_ret pe_bl)))))))))), ?_⟩
    obtain ⟨hw, B, nwk, nwl, hzk, hze, q⟩ := h
    have npF : p ∉ [w] := by
      obtain ⟨⟨dx, h1⟩, _⟩ := B.ix
      obtain ⟨ws, _, h2⟩ := hw
      simpa using ne_of h1 h2 (by intro z; cases z)
    have nlF : l ∉ [w] := by simpa using nwl.symm
    have nkF : lk ∉ [w] := by simpa using nwk.symm
    refine ⟨_, rfl, w, rfl, hw, fun z H1 f1 w1 => ?_⟩
    refine ⟨_, rfl, w, 3, rfl, w1, ⟨by decide, by decide⟩, fun r2 H2 _ _ f2 w2 => ⟨_, _, rfl, rfl, ?_⟩⟩
    refine ⟨_, rfl, w, 3, rfl, w2, ⟨by decide, by decide⟩, fun r3 H3 _ _ f3 w3 => ⟨_, _, rfl, rfl, by show 2 ≤ sizeLine; decide, fun t1 ht1 => ⟨by show 2 ≤ sizeLine; decide, fun t2 ht2 => ?_⟩⟩⟩
    have s4 := same_upd (o := .tup [.int (1 + r2), .int (1 + r3)]) ht1
    have s5 := same_upd (o := .tup [.int z, .ref t1]) ht2
    have f5 := (((f1.trans f2).trans f3).trans (Frm.of_same s4)).trans (Frm.of_same s5)
    have w5 := (w3.same s4).same s5
    have i5 := hw.imm f5
    have B5 := B.frm f5 i5 npF nlF nkF
    have d5 : Dp K (upd (upd H3 t1 (.tup [.int (1 + r2), .int (1 + r3)])) t2 (.tup [.int z, .ref t1])) (.ref t2) (entD (z, 1 + r2, 1 + r3)) := .tup (SqT.of upd_same) (.cons (.int _) (.cons (.tup (SqT.of (s5 _ _ upd_same)) (.cons (.int _) (.cons (.int _) .nil))) .nil))
    -- the entry: drawn, or one that is kept
    refine s_name ?_
    with_reducible refine seq_cut (fun σ' H' => ∃ (e : Ent) (v : V), σ' = [some (.ref p), some (.ref lk), some (.ref w), some v, none, none, none] ∧ Frm [w] H H' ∧ WellAt H' w ∧ Dp K H' v (entD e)) ?_ (fun go => ?_)
    · rintro σ' H6 ⟨e, v, rfl, f6, w6, d6⟩
      refine ⟨_, rfl, w, 3, rfl, w6, ⟨by decide, by decide⟩, fun way H7 a7 b7 f7' w7 => ?_⟩
      have f7 := f6.trans f7'
      have i7 := hw.imm f7
      have d7 := Dp.imm (w6.imm f7') _ _ (entD_tup e) d6
      have B7 := B.frm f7 i7 npF nlF nkF
      obtain ⟨ta, u, rfl, d8, d9⟩ := entD_inv d7
      obtain ⟨⟨dx, h1⟩, _⟩ := id B7.ix
      -- the deed itself
      refine s_name ?_
      with_reducible refine s_setc ?_
      with_reducible refine seq_cut (fun σ' H' => ∃ (rf : Bool) (es' : List Ent) (o : Option V), σ' = [some (.ref p), some (.ref lk), some (.ref w), some (.ref ta), some (.int way), some (.bl rf), o] ∧ Frm [w, l, lk] H H' ∧ Imm H H' ∧ WellAt H' w ∧ IndexAt K Z.C_Index H' p l es' ∧ KeptAt K H' lk ks ∧ Dp K H' (.ref ta) (entD e) ∧ es'.length ≤ es.length + 1 ∧
          rf = (decide (way < 2) == decide (e ∈ ks)) ∧ (rf = true → es' = es) ∧ (rf = false → way < 2 → ∀ x, x ∈ es' ↔ x = e ∨ x ∈ es) ∧ (rf = false → ¬ way < 2 → ∀ x, x ∈ es' ↔ x ∈ es ∧ x ≠ e)) ?_ (fun go2 => ?_)
      · rintro σ' H8 ⟨rf, es', o, rfl, f8, i8, w8, IX8, K8, D8, hz8, erf, c1, c2, c3⟩
        have nlw : l ∉ [w, lk] := by simp [nwl.symm, B.ne]
        refine ⟨_, rfl, _, rfl, _, _, rfl, rfl, _, rfl, _, rfl, _, _, D8, K8.dp, entD_shaped _, entDs_shaped _, rfl, rfl, _, rfl, ?_⟩
        have ein : ((ks.map entD).any fun z => PyData.eqv z (entD e)) = decide (e ∈ ks) := by
          rw [List.any_map]
          rw [Bool.eq_iff_iff, List.any_eq_true, decide_eq_true_eq]
          constructor
          · rintro ⟨x, hx, hh⟩
            simp only [Function.comp, entD_eqv, decide_eq_true_eq] at hh
            rw [← hh]; exact hx
          · intro hx
            exact ⟨e, hx, by simp only [Function.comp, entD_eqv, decide_eq_true_eq]⟩
        rw [ein, dec_bl, dec_bl, ← erf]
        rw [show (!(rf == rf)) = false by simp]
        refine iteF ?_
        obtain ⟨vs, g1, g2⟩ := K8.ex
        have hlen : vs.length = ks.length := by have := g2.len; rw [List.length_map] at this; exact this
        have nplk : p ≠ lk := by
          obtain ⟨⟨dx8, h8⟩, _⟩ := IX8
          exact ne_of h8 g1 (by intro z; cases z)
        have nlkw : w ≠ lk := nwk
        cases rf with
        | true =>
          have e1 := c1 rfl
          subst e1
          refine ⟨_, rfl, _, rfl, iteF ?_⟩
          refine ⟨_, rfl, _, rfl, iteF ?_⟩
          exact q es' ks _ f8 i8 w8 ⟨IX8, K8, B.nd, B.mm, B.ne⟩ (Nat.le_succ _) hz8
        | false =>
          by_cases hway : way < 2
          · have hne : e ∉ ks := fun z => by rw [decide_eq_true hway, decide_eq_true z] at erf; cases erf
            have c2' := c2 rfl hway
            refine ⟨_, rfl, _, rfl, iteT ⟨_, rfl, _, _, rfl, rfl, _, rfl, ?_⟩⟩
            rw [decide_eq_true hway]
            refine iteT ?_
            refine ⟨_, rfl, .inl ⟨rfl, _, SqL.of g1⟩, _, rfl, lk, _, _, rfl, rfl, g1, small1000 (by omega), ?_⟩
            refine ⟨_, rfl, _, rfl, iteT ⟨_, rfl, rfl, _, rfl, ?_⟩⟩
            rw [dec_int, show (way == 2) = false from beq_eq_false_iff_ne.mpr (by omega)]
            refine iteF ?_
            have im9 : Imm H8 (upd H8 lk (.lst (vs ++ [.ref ta]))) := (Imm.refl _).upd g1 rfl
            have f9 : Frm [lk] H8 (upd H8 lk (.lst (vs ++ [.ref ta]))) := (Frm.refl _ _).upd (.inl (by simp))
            refine q es' (ks ++ [e]) _ (f8.trans (f9.mono (by simp))) (i8.trans im9) (w8.upd nlkw) ⟨IX8.frm f9 im9 (by simpa using nplk) (by simpa using B.ne), ⟨_, upd_same, ?_⟩, ?_, ?_, B.ne⟩ (by simp) hz8
            · rw [List.map_append]
              exact (DpAll.imm im9 _ _ (tupDs_map entD_tup _) g2).app (.cons (Dp.imm im9 _ _ (entD_tup _) D8) .nil)
            · exact List.nodup_append.mpr ⟨B.nd, by simp, fun a ha b hb hab => by simp at hb; subst hb; subst hab; exact hne ha⟩
            · intro x
              rw [c2', B.mm, List.mem_append, List.mem_singleton]
              exact Or.comm
          · have hin : e ∈ ks := by
              by_cases z : e ∈ ks
              · exact z
              · rw [decide_eq_false hway, decide_eq_false z] at erf; cases erf
            have c3' := c3 rfl hway
            have hw2 : way = 2 := by omega
            refine ⟨_, rfl, _, rfl, iteT ⟨_, rfl, _, _, rfl, rfl, _, rfl, ?_⟩⟩
            rw [decide_eq_false hway]
            refine iteF ?_
            refine ⟨_, rfl, _, rfl, iteT ⟨_, rfl, rfl, _, rfl, ?_⟩⟩
            rw [dec_int, show (way == 2) = true from beq_iff_eq.mpr hw2]
            refine iteT ?_
            obtain ⟨j, hj, hfirst⟩ : ∃ j, ks[j]? = some e ∧ ∀ m, m < j → ks[m]? ≠ some e := by
              obtain ⟨i, hi⟩ := List.getElem?_of_mem hin
              exact ⟨i, hi, fun m hm z => Nat.ne_of_lt hm (nd_ix B.nd z hi)⟩
            refine ⟨_, rfl, .inl ⟨rfl, _, SqL.of g1⟩, _, rfl, lk, vs, _, entD e, ks.map entD, j, entD e, rfl, rfl, g1, g2, D8, entDs_shaped _, entD_shaped _, by rw [List.getElem?_map, hj]; rfl, by rw [entD_eqv]; simp, fun m z' hm hz' => ?_, ?_⟩
            · rw [List.getElem?_map] at hz'
              cases ek : ks[m]? with
              | none => rw [ek] at hz'; cases hz'
              | some y =>
                rw [ek] at hz'
                cases hz'
                rw [entD_eqv]
                exact decide_eq_false fun z => hfirst m hm (by rw [ek, z])
            · have im9 : Imm H8 (upd H8 lk (.lst (vs.eraseIdx j))) := (Imm.refl _).upd g1 rfl
              have f9 : Frm [lk] H8 (upd H8 lk (.lst (vs.eraseIdx j))) := (Frm.refl _ _).upd (.inl (by simp))
              refine q es' (ks.eraseIdx j) _ (f8.trans (f9.mono (by simp))) (i8.trans im9) (w8.upd nlkw) ⟨IX8.frm f9 im9 (by simpa using nplk) (by simpa using B.ne), ⟨_, upd_same, ?_⟩, B.nd.sublist (List.eraseIdx_sublist _ _), ?_, B.ne⟩ (Nat.le_succ_of_le (List.length_eraseIdx_le _ _)) hz8
              · have g5 := (DpAll.imm im9 _ _ (tupDs_map entD_tup _) g2).erase j
                rw [map_eraseIdx] at g5
                exact g5
              · intro x
                rw [c3', B.mm, List.mem_eraseIdx_iff_getElem?]
                constructor
                · rintro ⟨m, ne⟩
                  obtain ⟨i, hi⟩ := List.getElem?_of_mem m
                  exact ⟨i, fun z => by subst z; rw [hi] at hj; exact ne (Option.some.inj hj), hi⟩
                · rintro ⟨i, hne, hi⟩
                  exact ⟨List.mem_of_getElem? hi, fun z => by subst z; exact hne (nd_ix B.nd hi hj)⟩
      · -- the try
        have fw : ∀ {H8 : Hp}, Frm [l] H7 H8 → Frm [w, l, lk] H H8 := fun f => (f7.mono (by simp)).trans (f.mono (by simp))
        have nlk' : lk ∉ [l] := by simpa using B.ne.symm
        have nlw' : w ∉ [l] := by simpa using nwl
        refine ⟨_, rfl, _, _, rfl, rfl, _, rfl, ?_⟩
        refine ite2 (fun c => ?_) (fun c => ?_)
        · have c' : way < 2 := of_decide_eq_true c
          refine ⟨_, rfl, p, dx, _, rfl, h1, rfl, _, rfl, ta, _, _, _, rfl, rfl, d8, atI_nat (j := 0) rfl, _, rfl, ta, _, _, _, rfl, rfl, d8, atI_nat (j := 1) rfl, p, e.1, u, l, es, e.2.1, e.2.2, rfl, B7.ix, by omega, d9, fun hin H8 s8 => ?_, fun hnin H8 es' f8 i8 IX8 hm => ?_⟩
          · have hin' : e ∈ ks := (B.mm e).mp hin
            refine ⟨true, T.em_NoEntry_LedgerError, fun _ a ha => ?_, fun z => nomatch z⟩
            refine ⟨_, rfl, Z.C_NoEntry, _, _, _, rfl, rfl, T.ec_NoEntry, rfl, (fun _ r => r), T.ki_NoEntry_NoEntry, _, rfl, iteT ?_⟩
            refine ⟨_, rfl, by show 4 ≤ sizeLine; decide, fun tp htp => ⟨Z.C_NoEntry, tp, _, [.ref Z.C_NoIndex, .ref Z.C_NoNumber, .ref Z.C_NoRow, .ref Z.C_NoTable], false, rfl, rfl, T.ec_NoEntry, rfl, upd_same, .cons (.own _) (.cons (.own _) (.cons (.own _) (.cons (.own _) .nil))),
              kitAny_cons T.ki_NoEntry_NoIndex (fun _ => kitAny_cons T.ki_NoEntry_NoNumber (fun _ => kitAny_cons T.ki_NoEntry_NoRow (fun _ => kitAny_cons T.ki_NoEntry_NoTable (fun _ => L2.kitAny_nil) (fun z => nomatch z)) (fun z => nomatch z)) (fun z => nomatch z)) (fun z => nomatch z), _, rfl, ?_⟩⟩
            have s9 := s8.trans (same_upd (o := .tup [.ref Z.C_NoIndex, .ref Z.C_NoNumber, .ref Z.C_NoRow, .ref Z.C_NoTable]) htp)
            refine ⟨_, rfl, _, rfl, iteF ?_⟩
            have f9 : Frm [w, l, lk] H _ := (f7.mono (by simp)).trans (Frm.of_same s9)
            refine go2 _ _ ⟨true, es, _, rfl, f9, i7.trans (Imm.of_same s9), w7.same s9, B7.ix.same s9, B7.kp.same s9, Dp.same s9 (entD_tup _) d7, Nat.le_succ _, ?_, fun _ => rfl, (fun z => nomatch z), (fun z => nomatch z)⟩
            rw [decide_eq_true c', decide_eq_true hin']
            rfl
          · have hnin' : e ∉ ks := fun z => hnin ((B.mm e).mpr z)
            refine go2 _ _ ⟨false, es', _, rfl, fw f8, i7.trans i8, w7.frm f8 nlw', IX8, B7.kp.frm f8 i8 nlk', Dp.imm i8 _ _ (entD_tup _) d7, ?_, ?_, (fun z => nomatch z), fun _ _ => hm, fun _ z => absurd c' z⟩
            · have : (es'.Nodup) := IX8.up.nodup
              have hs : es' ⊆ e :: es := fun x hx => by rcases (hm x).mp hx with z | z <;> simp [z]
              exact nodup_len this hs
            · rw [decide_eq_true c', decide_eq_false hnin']
              rfl
        · have c' : ¬ way < 2 := fun z => c (decide_eq_true z)
          refine ⟨_, rfl, p, dx, _, rfl, h1, rfl, _, rfl, ta, _, _, _, rfl, rfl, d8, atI_nat (j := 0) rfl, _, rfl, ta, _, _, _, rfl, rfl, d8, atI_nat (j := 1) rfl, p, e.1, u, l, es, e.2.1, e.2.2, rfl, B7.ix, d9, fun hnin H8 s8 => ?_, fun hin H8 es' f8 i8 IX8 hm => ?_⟩
          · have hnin' : e ∉ ks := fun z => hnin ((B.mm e).mpr z)
            refine ⟨true, T.em_NoEntry_LedgerError, fun _ a ha => ?_, fun z => nomatch z⟩
            refine ⟨_, rfl, Z.C_NoEntry, _, _, _, rfl, rfl, T.ec_NoEntry, rfl, (fun _ r => r), T.ki_NoEntry_NoEntry, _, rfl, iteT ?_⟩
            refine ⟨_, rfl, by show 4 ≤ sizeLine; decide, fun tp htp => ⟨Z.C_NoEntry, tp, _, [.ref Z.C_NoIndex, .ref Z.C_NoNumber, .ref Z.C_NoRow, .ref Z.C_NoTable], false, rfl, rfl, T.ec_NoEntry, rfl, upd_same, .cons (.own _) (.cons (.own _) (.cons (.own _) (.cons (.own _) .nil))),
              kitAny_cons T.ki_NoEntry_NoIndex (fun _ => kitAny_cons T.ki_NoEntry_NoNumber (fun _ => kitAny_cons T.ki_NoEntry_NoRow (fun _ => kitAny_cons T.ki_NoEntry_NoTable (fun _ => L2.kitAny_nil) (fun z => nomatch z)) (fun z => nomatch z)) (fun z => nomatch z)) (fun z => nomatch z), _, rfl, ?_⟩⟩
            have s9 := s8.trans (same_upd (o := .tup [.ref Z.C_NoIndex, .ref Z.C_NoNumber, .ref Z.C_NoRow, .ref Z.C_NoTable]) htp)
            refine ⟨_, rfl, _, rfl, iteF ?_⟩
            have f9 : Frm [w, l, lk] H _ := (f7.mono (by simp)).trans (Frm.of_same s9)
            refine go2 _ _ ⟨true, es, _, rfl, f9, i7.trans (Imm.of_same s9), w7.same s9, B7.ix.same s9, B7.kp.same s9, Dp.same s9 (entD_tup _) d7, Nat.le_succ _, ?_, fun _ => rfl, (fun z => nomatch z), (fun z => nomatch z)⟩
            rw [decide_eq_false c', decide_eq_false hnin']
            rfl
          · have hin' : e ∈ ks := (B.mm e).mp hin
            refine go2 _ _ ⟨false, es', _, rfl, fw f8, i7.trans i8, w7.frm f8 nlw', IX8, B7.kp.frm f8 i8 nlk', Dp.imm i8 _ _ (entD_tup _) d7, ?_, ?_, (fun z => nomatch z), fun _ z => absurd z c', fun _ _ => hm⟩
            · have : (es'.Nodup) := IX8.up.nodup
              have hs : es' ⊆ e :: es := fun x hx => List.mem_cons_of_mem _ ((hm x).mp hx).1
              exact nodup_len this hs
            · rw [decide_eq_false c', decide_eq_true hin']
              rfl
    · refine ⟨_, rfl, by show 0 ≤ sizeLine; decide, fun l0 hl0 => ?_⟩
      have s6 := same_upd (o := .lst []) hl0
      have f6 := f5.trans (Frm.of_same (F := [w]) s6)
      have w6 := w5.same s6
      have B6 := B5.same s6
      have d6 := Dp.same s6 (entD_tup _) d5
      refine ⟨_, _, B6.kp.dp, .lst (SqL.of upd_same) .nil, entDs_shaped _, entDs_shaped [], _, rfl, ?_⟩
      have eqk : PyData.eqv (.list (ks.map entD)) (.list []) = decide (ks = []) := by
        have := entDs_eqv ks []
        simpa [PyData.eqv] using this
      rw [eqk]
      by_cases hks : ks = []
      · rw [decide_eq_true hks]
        exact go _ _ ⟨_, _, rfl, f6, w6, d6⟩
      · rw [decide_eq_false hks]
        refine iteT ?_
        refine ⟨_, rfl, w, 3, rfl, w6, ⟨by decide, by decide⟩, fun r7 H7 _ _ f7 w7 => ⟨rfl, _, rfl, ?_⟩⟩
        have i7 := w6.imm f7
        have B7 := B6.frm f7 i7 npF nlF nkF
        refine ite2 (fun c => ?_) (fun c => ?_)
        · obtain ⟨vs, g1, g2⟩ := B7.kp.ex
          have hlen : vs.length = ks.length := by have := g2.len; rw [List.length_map] at this; exact this
          have hpos : 0 < ks.length := List.length_pos_iff.mpr hks
          refine ⟨_, rfl, _, rfl, _, rfl, _, vs.length, rfl, .inl ⟨_, SqL.of g1, rfl⟩, w, _, rfl, w7, ⟨by omega, ?_⟩, fun r8 H8 a8 b8 f8 w8 => ?_⟩
          · have : ((vs.length : Nat) : Int).natAbs = vs.length := rfl
            rw [this]
            exact Nat.lt_of_lt_of_le (Nat.log2_lt (by omega) |>.mpr (show vs.length < 2 ^ 9 by omega)) (by decide)
          · have hj : r8.toNat < ks.length := by omega
            obtain ⟨v, hv, dv⟩ := g2.get (i := r8.toNat) (d := entD ks[r8.toNat]) (by rw [List.getElem?_map, List.getElem?_eq_getElem hj]; rfl)
            refine ⟨lk, _, _, _, rfl, rfl, SqL.of (f8.at nkF g1), at_of (j := r8.toNat) (by omega) hv, ?_⟩
            exact go _ _ ⟨_, _, rfl, (f6.trans f7).trans f8, w8, Dp.imm (w7.imm f8) _ _ (entD_tup _) dv⟩
        · exact go _ _ ⟨_, _, rfl, f6.trans f7, w7, Dp.imm i7 _ _ (entD_tup _) d6⟩


/-- the k-th cell of the script, or 0 -/
def sp_cell (K : PySem.W.Frag) : Sp := fun vs H Q _ => ∃ (a : Addr) (k : Int) (ns : List Int), vs = [.ref a, .int k] ∧ SqL K H a (ns.map V.int) ∧ 0 ≤ k ∧ Q (.int (ns.getD k.toNat 0)) H

theorem ok_l_cell (T : Txt K mg Z) : Cal P w K mg base 1 "_law_cell" (sp_cell K) := by
  refine T.d_l_cell.cal sc_l_cell (fun vs H Q E h => ?_) (fun f cdv A outer s H vs Q E hr h => ?_)
  · obtain ⟨a, k, ns, rfl, _⟩ := h
    rfl
  · obtain ⟨a, k, ns, rfl, h⟩ := h
    refine ⟨_, (pss_cons (ps_if (pt_cmpR op_lt (pv 1) (pe_callB call_len (by rfl) T.n_len (by decide +kernel) (pa_cons (pv 0) pa_nil)) (nomark _))
      (pss_one (ps_ret (pe_ix ix_list (pv 0) (pv 1) (fun _ _ => rfl))))
      pss_nil)
      (pss_one (ps_ret pe_int))), ?_⟩
    obtain ⟨hS, h0, q⟩ := h
    refine ⟨_, rfl, _, rfl, V.ref a, (ns.map V.int).length, rfl, .inl ⟨_, hS, rfl⟩, _, _, rfl, rfl, _, rfl, ?_⟩
    refine ite2 (fun e => ?_) (fun e => ?_)
    · have e' := of_decide_eq_true e
      rw [List.length_map] at e'
      have hk : k.toNat < ns.length := by omega
      refine ⟨_, rfl, _, rfl, a, _, _, _, rfl, rfl, hS, at_of (j := k.toNat) (v := V.int (ns.getD k.toNat 0)) (by omega) ?_, q⟩
      rw [List.getElem?_map, List.getElem?_eq_getElem hk, List.getD_eq_getElem?_getD, List.getElem?_eq_getElem hk]
      rfl
    · have e' : ¬ (k < ((ns.map V.int).length : Int)) := fun z => e (decide_eq_true z)
      rw [List.length_map] at e'
      have : ns.getD k.toNat 0 = 0 := by
        rw [List.getD_eq_getElem?_getD, List.getElem?_eq_none (by omega)]
        rfl
      rw [this] at q
      exact q


def sp_well (K : PySem.W.Frag) : Sp := fun vs H Q _ => ∃ (a : Addr) (k : Int) (ns : List Int), vs = [.ref a, .int k] ∧ SqL K H a (ns.map V.int) ∧ 0 ≤ k ∧ ∀ p H', H p = none → Same H H' → WellAt H' p → Q (.ref p) H'

theorem ok_l_well (T : Txt K mg Z) : Cal P w K mg base 2 "_law_well" (sp_well K) := by
  refine T.d_l_well.cal sc_l_well (fun vs H Q E h => ?_) (fun f cdv A outer s H vs Q E hr h => ?_)
  · obtain ⟨a, k, ns, rfl, _⟩ := h
    rfl
  · obtain ⟨a, k, ns, rfl, h⟩ := h
    refine ⟨_, (pss_one (ps_ret (pe_lst (pa_cons (pe_op op_mod (pe_c (ok_l_cell T) hr (by decide) rfl (pa_cons (pv 0) (pa_cons pe_int pa_nil))) pe_int) (pa_cons (pe_c (ok_l_cell T) hr (by decide) rfl (pa_cons (pv 0) (pa_cons (pv 1) pa_nil))) (pa_cons pe_int (pa_cons (pe_op op_add (pe_c (ok_l_cell T) hr (by decide) rfl (pa_cons (pv 0) (pa_cons (pv 1) pa_nil))) (pv 1)) pa_nil))))))), ?_⟩
    obtain ⟨hS, h0, q⟩ := h
    refine ⟨_, rfl, a, 0, ns, rfl, hS, by decide, _, _, rfl, rfl, by show (0 : Int) < 2; decide, ?_⟩
    refine ⟨_, rfl, _, rfl, a, k, ns, rfl, hS, h0, _, rfl, _, rfl, a, k, ns, rfl, hS, h0, _, rfl, _, _, rfl, rfl, by show 4 ≤ sizeLine; decide, fun p hp => ?_⟩
    exact q p _ hp (same_upd hp) ⟨[_, _, _, _], rfl, upd_same⟩


def sp_law (K : PySem.W.Frag) : Sp := fun vs H Q _ => ∃ (a : Addr) (ns : List Int), vs = [.ref a] ∧ SqL K H a (ns.map V.int) ∧ ns.length ≤ 63 ∧ (∀ z ∈ ns, Builtin.Int.intBits z ≤ 1048576) ∧ ∀ H', Q (.bl true) H'

theorem ok_law {f : Addr} {fd : FuncData} (T : Txt K mg Z) (F : Fun K "law" "law" s_law f fd) : FnOk P w K mg base (L2.CX P w) 6 f fd ["_law_script"] (sp_law K) := by
  refine F.okX sc_law (fun vs H Q E h => ?_) (fun cdv A outer s H vs Q E hr h => ?_)
  · obtain ⟨a, ns, rfl, _⟩ := h
    rfl
  · obtain ⟨a, ns, rfl, h⟩ := h
    refine ⟨_, (pss_cons (ps_set (i := 1) sc_law.nd rfl (Or.inl rfl) (pe_mkG0 (ok_Index___init T) hr (by decide) rfl pass00))
      (pss_cons (ps_if (pt_cmpR (op_neD hr.units) (pe_mtG (ok_Index_between T) hr (by decide) pass00 (pv 1) (pa_cons pe_non (pa_cons pe_non pa_nil))) (pe_lst pa_nil) (nomark _))
      (pss_one (ps_ret pe_bl))
      pss_nil)
      (pss_cons (ps_expr (pe_mtG (ok_Index_put T) hr (by decide) pass00 (pv 1) (pa_cons pe_int (pa_cons (pe_tup (pa_cons pe_int (pa_cons pe_int pa_nil))) pa_nil))))
      (pss_cons (ps_set (i := 2) sc_law.nd rfl (Or.inl rfl) (pe_mkG0 (ok_Index___init T) hr (by decide) rfl pass00))
      (pss_cons (ps_set (i := 3) sc_law.nd rfl (Or.inl rfl) (pe_lst pa_nil))
      (pss_cons (ps_for (passes_of rfl) rfl (pi_range2 rfl T.n_range (pa_cons pe_int (pa_cons (pe_callB (call_min2 rfl) (by rfl) T.n_min (by decide +kernel) (pa_cons pe_int (pa_cons (pe_callB (call_max2 rfl) (by rfl) T.n_max (by decide +kernel) (pa_cons pe_int (pa_cons (pe_callB call_len (by rfl) T.n_len (by decide +kernel) (pa_cons (pv 0) pa_nil)) pa_nil))) pa_nil))) pa_nil))) (pg_name (i := 4) sc_law.nd rfl (Or.inl rfl))
      (pss_cons (ps_set (i := 5) sc_law.nd rfl (Or.inl rfl) (pe_c (ok_l_well T) hr (by decide) rfl (pa_cons (pv 0) (pa_cons (pv 4) pa_nil))))
        (pss_cons (ps_if (pt_not (pt_val (pe_c (ok_l_deed T) hr (by decide) rfl (pa_cons (pv 2) (pa_cons (pv 3) (pa_cons (pv 5) pa_nil))))))
        (pss_one (ps_ret pe_bl))
        pss_nil)
        (pss_cons (ps_set (i := 6) sc_law.nd rfl (Or.inl rfl) (pe_c (ok_l_bound T) hr (by decide) rfl (pa_cons (pv 5) (pa_cons (pv 3) pa_nil))))
        (pss_cons (ps_set (i := 7) sc_law.nd rfl (Or.inl rfl) (pe_c (ok_l_bound T) hr (by decide) rfl (pa_cons (pv 5) (pa_cons (pv 3) pa_nil))))
        (pss_one (ps_if (PW.pt (pw_or (pt_not (pt_val (pe_c (ok_l_asked T) hr (by decide) rfl (pa_cons (pv 2) (pa_cons (pv 3) (pa_cons (pv 6) (pa_cons (pv 7) pa_nil))))))) (pw_or1 (pt_not (pt_val (pe_c (ok_l_asked T) hr (by decide) rfl (pa_cons (pv 2) (pa_cons (pv 3) (pa_cons pe_non (pa_cons pe_non pa_nil))))))))))
        (pss_one (ps_ret pe_bl))
        pss_nil)))))))
      (pss_one (ps_ret (pe_cmpR (op_eqD hr.units) (pe_mtG (ok_Index_between T) hr (by decide) pass00 (pv 1) (pa_cons pe_non (pa_cons pe_non pa_nil))) (pe_lst (pa_cons (pe_tup (pa_cons pe_int (pa_cons (pe_tup (pa_cons pe_int (pa_cons pe_int pa_nil))) pa_nil))) pa_nil)) (nomark _)))))))))), ?_⟩
    obtain ⟨hS, hlen, _, q⟩ := h
    intro x0 dx0 nx0 ndx0 ne0
    refine ⟨x0, dx0, rfl, upd_same, fun l0 H1 hl0 f1 I1 => ⟨rfl, ?_⟩⟩
    have s00 : Same H (upd (upd H dx0 (.own x0)) x0 (.ins Z.C_Index dx0 [])) := (same_upd ndx0).trans (same_upd (by rw [upd_ne ne0.symm]; exact nx0))
    have s1 : Same H H1 := Same.frm s00 f1 (by simpa using nx0)
    have hl00 : H l0 = none := s00.free hl0
    obtain ⟨⟨dx1, h1⟩, _⟩ := id I1
    refine ⟨_, rfl, x0, dx1, _, rfl, h1, rfl, x0, none, none, l0, [], rfl, I1, fun r ys hr dy => ⟨by show 0 ≤ sizeLine; decide, fun e he => ?_⟩⟩
    have s2 := s1.trans (same_upd (o := .lst ys) hr)
    have s3 := s2.trans (same_upd (o := .lst []) he)
    have I3 := (I1.same (same_upd (o := .lst ys) hr)).same (same_upd (o := .lst []) he)
    have dy' : DpAll K _ ys ([].map entD) := dy
    cases dy'
    refine ⟨_, _, .lst (SqL.of (up_new he upd_same)) .nil, .lst (SqL.of upd_same) .nil, entDs_shaped [], entDs_shaped [], _, rfl, ?_⟩
    rw [show PyData.eqv (.list []) (.list []) = true by simp [PyData.eqv, PyData.eqvAll]]
    refine iteF ?_
    -- other.put(5, (9, 9))
    obtain ⟨⟨dx3, h3⟩, _⟩ := id I3
    refine ⟨_, rfl, x0, dx3, _, rfl, h3, rfl, by show 2 ≤ sizeLine; decide, fun t ht => ?_⟩
    have s4 := s3.trans (same_upd (o := .tup [.int 9, .int 9]) ht)
    refine ⟨x0, 5, .ref t, l0, [], 9, 9, rfl, I3.same (same_upd (o := .tup [.int 9, .int 9]) ht), by decide, .tup (SqT.of upd_same) (.cons (.int _) (.cons (.int _) .nil)), fun z => absurd z (by simp), fun _ H5 es0 f5 i5 I5 hm => ?_⟩
    have es0e : es0 = [(5, 9, 9)] := Rise.eq I5.up (List.pairwise_singleton _ _) fun x => by rw [hm]; simp
    subst es0e
    have s5 : Same H H5 := Same.frm s4 f5 (by simpa using hl00)
    -- index = Index(); kept = []
    intro x6 dx6 nx6 ndx6 ne6
    have s06 : Same H5 (upd (upd H5 dx6 (.own x6)) x6 (.ins Z.C_Index dx6 [])) := (same_upd ndx6).trans (same_upd (by rw [upd_ne ne6.symm]; exact nx6))
    refine ⟨x6, dx6, rfl, upd_same, fun l6 H6 hl6 f6 I6 => ⟨rfl, by show 0 ≤ sizeLine; decide, fun lk hlk => ?_⟩⟩
    have s6 : Same H5 H6 := Same.frm s06 f6 (by simpa using nx6)
    have hl65 : H5 l6 = none := s06.free hl6
    have s7 := same_upd (o := .lst []) hlk
    have s57 := s6.trans s7
    have nl6k : l6 ≠ lk := by
      obtain ⟨_, ⟨vs, g, _⟩, _⟩ := I6
      exact ne_of_none g hlk
    have hlk5 : H5 lk = none := s6.free hlk
    have B7 : Both2 K Z.C_Index (upd H6 lk (.lst [])) x6 l6 lk [] [] := ⟨I6.same s7, ⟨_, upd_same, .nil⟩, List.nodup_nil, fun _ => Iff.rfl, nl6k⟩
    have I7 := I5.same s57
    have hcount : ∃ m : Nat, (if (31 : Int) > (if (ns.length : Int) > 2 then (ns.length : Int) else 2) then (if (ns.length : Int) > 2 then (ns.length : Int) else 2) else 31) = (m : Int) ∧ 1 ≤ m ∧ m ≤ 31 := by
      refine ⟨(if (31 : Int) > (if (ns.length : Int) > 2 then (ns.length : Int) else 2) then (if (ns.length : Int) > 2 then (ns.length : Int) else 2) else 31).toNat, ?_, ?_, ?_⟩ <;> (split <;> split <;> omega)
    obtain ⟨m, em, hm1, hm2⟩ := hcount
    refine ⟨_, rfl, _, _, rfl, .inl ⟨_, (s5.trans s57).seq hS, rfl⟩, _, _, rfl, _, _, rfl, _, _, rfl, ?_, ?_⟩
    · rw [List.length_map]
      refine ⟨by decide, by decide, ?_, ?_⟩ <;> (split <;> split <;> omega)
    rw [List.length_map]
    have hno : ∀ x, x ∈ [l6, lk] → H5 x = none := by simp [hl65, hlk5]
    refine for_range (fun i σ H8 => ∃ (es ks : List Ent) (o4 o5 o6 o7 : Option V), σ = [some (.ref a), some (.ref x0), some (.ref x6), some (.ref lk), o4, o5, o6, o7] ∧ Same H5 H8 ∧ Both2 K Z.C_Index H8 x6 l6 lk es ks ∧ es.length ≤ i ∧ ks.length ≤ i)
      ⟨[], [], none, none, none, none, rfl, s57, B7, Nat.le_refl _, Nat.le_refl _⟩ ?_ ?_
    · rintro i σ H8 hi ⟨es, ks, o4, o5, o6, o7, rfl, s8, B8, hes, hks⟩
      have hi31 : i < 31 := by
        rw [em] at hi
        omega
      refine ⟨_, rfl, _, rfl, a, _, ns, rfl, (s5.trans s8).seq hS, by omega, fun wl H9 hw9 s9 w9 => ?_⟩
      have B9 := B8.same s9
      have nwk : wl ≠ lk := by
        obtain ⟨vs, g, _⟩ := B8.kp.ex
        exact (ne_of_none g hw9).symm
      have nwl : wl ≠ l6 := by
        obtain ⟨_, ⟨vs, g, _⟩, _⟩ := B8.ix
        exact (ne_of_none g hw9).symm
      have hw5 : H5 wl = none := s8.free hw9
      refine ⟨_, rfl, _, rfl, _, rfl, x6, lk, wl, l6, es, ks, rfl, w9, B9, nwk, nwl, by omega, by omega, fun es' ks' H10 f10 i10 w10 B10 hk10 he10 => ⟨_, rfl, iteF ?_⟩⟩
      have s10 : Same H5 H10 := Same.frm (s8.trans s9) f10 (by simp [hw5, hl65, hlk5])
      -- the bounds
      have np6 : ∀ {Hx : Hp}, WellAt Hx wl → IndexAt K Z.C_Index Hx x6 l6 es' → x6 ∉ [wl] := fun hw hx => by
        obtain ⟨⟨dx, h1⟩, _⟩ := hx
        obtain ⟨ws, _, h2⟩ := hw
        simpa using ne_of h1 h2 (by intro z; cases z)
      have nl6 : l6 ∉ [wl] := by simpa using nwl.symm
      have nk6 : lk ∉ [wl] := by simpa using nwk.symm
      refine ⟨_, rfl, _, rfl, wl, lk, ks', rfl, w10, B10.kp, nwk, by omega, fun b1 H11 f11 w11 => ?_⟩
      have B11 := B10.frm f11 (w10.imm f11) (np6 w10 B10.ix) nl6 nk6
      have s11 : Same H5 H11 := Same.frm s10 f11 (by simp [hw5])
      refine ⟨_, rfl, _, rfl, wl, lk, ks', rfl, w11, B11.kp, nwk, by omega, fun b2 H12 f12 w12 => ?_⟩
      have B12 := B11.frm f12 (w11.imm f12) (np6 w11 B11.ix) nl6 nk6
      have s12 : Same H5 H12 := Same.frm s11 f12 (by simp [hw5])
      refine ⟨_, rfl, _, rfl, _, rfl, _, rfl, x6, lk, b1, b2, l6, es', ks', rfl, B12, by omega, fun H13 s13 => ⟨_, rfl, iteF ?_⟩⟩
      have B13 := B12.same s13
      refine ⟨_, rfl, _, rfl, x6, lk, none, none, l6, es', ks', rfl, B13, by omega, fun H14 s14 => ⟨_, rfl, iteF ?_⟩⟩
      exact ⟨es', ks', _, _, _, _, rfl, (s12.trans s13).trans s14, B13.same s14, by omega, by omega⟩
    · rintro σ H8 ⟨es, ks, o4, o5, o6, o7, rfl, s8, B8, hes, hks⟩
      have I8 := I5.same s8
      obtain ⟨⟨dx8, h8⟩, _⟩ := id I8
      refine ⟨_, rfl, x0, dx8, _, rfl, h8, rfl, x0, none, none, l0, [(5, 9, 9)], rfl, I8, fun r9 ys9 hr9 dy9 => ?_⟩
      refine ⟨by show 2 ≤ sizeLine; decide, fun t1 ht1 => ⟨by show 2 ≤ sizeLine; decide, fun t2 ht2 => ⟨by show 1 ≤ sizeLine; decide, fun le hle => ?_⟩⟩⟩
      have s9 := same_upd (o := .lst ys9) hr9
      have s10 := (same_upd (o := .tup [.int 9, .int 9]) ht1).trans ((same_upd (o := .tup [.int 5, .ref t1]) ht2).trans (same_upd (o := .lst [.ref t2]) hle))
      have de : Dp K _ (.ref le) (.list ([(5, 9, 9)].map entD)) := .lst (SqL.of upd_same) (.cons (.tup (SqT.of (up_new hle upd_same)) (.cons (.int _) (.cons (.tup (SqT.of (up_new hle (up_new ht2 upd_same))) (.cons (.int _) (.cons (.int _) .nil))) .nil))) .nil)
      have ef : [((5, 9, 9) : Ent)].filter (inB none none) = [(5, 9, 9)] := rfl
      rw [ef] at dy9
      refine ⟨_, _, .lst (SqL.of (s10 _ _ upd_same)) (DpAll.imm (Imm.of_same (s9.trans s10)) _ _ (tupDs_map entD_tup _) dy9), de, entDs_shaped _, entDs_shaped _, ?_⟩
      rw [SeqAt.eqv_refl _ (SeqAt.canLay_of_shaped (entDs_shaped _))]
      exact q _


end

theorem all_mk {l : PySem.W.OpenLaw} {w : World} {K : PySem.W.Frag} {h : Heap} {mg : Str → Option Value} {fa : Addr} {cd_LedgerError cd_NoTable cd_NoEntry cd_NoIndex cd_NoRow cd_NoNumber cd_Index : Addr} (X : K.In h) (G : h.Ns mainGlobals mg) (hfa : mg "law" = some (.ref fa))
    {od_Index___init an_Index___init : Option Addr} {sl_Index___init : Array (Option Value)} {oc_Index___init kV_Index___init dc_Index___init pm_Index___init cd_Index___init ct_Index___init : Value} {f_Index___init : Addr}
    {od_Index_first_from an_Index_first_from : Option Addr} {sl_Index_first_from : Array (Option Value)} {oc_Index_first_from kV_Index_first_from dc_Index_first_from pm_Index_first_from cd_Index_first_from ct_Index_first_from : Value} {f_Index_first_from : Addr}
    {od_Index_between an_Index_between : Option Addr} {sl_Index_between : Array (Option Value)} {oc_Index_between kV_Index_between dc_Index_between pm_Index_between cd_Index_between ct_Index_between : Value} {f_Index_between : Addr}
    {od_Index_place_of an_Index_place_of : Option Addr} {sl_Index_place_of : Array (Option Value)} {oc_Index_place_of kV_Index_place_of dc_Index_place_of pm_Index_place_of cd_Index_place_of ct_Index_place_of : Value} {f_Index_place_of : Addr}
    {od_Index_stands_at an_Index_stands_at : Option Addr} {sl_Index_stands_at : Array (Option Value)} {oc_Index_stands_at kV_Index_stands_at dc_Index_stands_at pm_Index_stands_at cd_Index_stands_at ct_Index_stands_at : Value} {f_Index_stands_at : Addr}
    {od_Index_put an_Index_put : Option Addr} {sl_Index_put : Array (Option Value)} {oc_Index_put kV_Index_put dc_Index_put pm_Index_put cd_Index_put ct_Index_put : Value} {f_Index_put : Addr}
    {od_l_within an_l_within : Option Addr} {sl_l_within : Array (Option Value)} {oc_l_within kV_l_within dc_l_within pm_l_within cd_l_within ct_l_within : Value} {f_l_within : Addr}
    {od_l_asked an_l_asked : Option Addr} {sl_l_asked : Array (Option Value)} {oc_l_asked kV_l_asked dc_l_asked pm_l_asked cd_l_asked ct_l_asked : Value} {f_l_asked : Addr}
    {od_l_mixed an_l_mixed : Option Addr} {sl_l_mixed : Array (Option Value)} {oc_l_mixed kV_l_mixed dc_l_mixed pm_l_mixed cd_l_mixed ct_l_mixed : Value} {f_l_mixed : Addr}
    {od_l_twice an_l_twice : Option Addr} {sl_l_twice : Array (Option Value)} {oc_l_twice kV_l_twice dc_l_twice pm_l_twice cd_l_twice ct_l_twice : Value} {f_l_twice : Addr}
    {od_l_draw an_l_draw : Option Addr} {sl_l_draw : Array (Option Value)} {oc_l_draw kV_l_draw dc_l_draw pm_l_draw cd_l_draw ct_l_draw : Value} {f_l_draw : Addr}
    {od_l_value an_l_value : Option Addr} {sl_l_value : Array (Option Value)} {oc_l_value kV_l_value dc_l_value pm_l_value cd_l_value ct_l_value : Value} {f_l_value : Addr}
    {od_l_bound an_l_bound : Option Addr} {sl_l_bound : Array (Option Value)} {oc_l_bound kV_l_bound dc_l_bound pm_l_bound cd_l_bound ct_l_bound : Value} {f_l_bound : Addr}
    {od_Index_take an_Index_take : Option Addr} {sl_Index_take : Array (Option Value)} {oc_Index_take kV_Index_take dc_Index_take pm_Index_take cd_Index_take ct_Index_take : Value} {f_Index_take : Addr}
    {od_l_deed an_l_deed : Option Addr} {sl_l_deed : Array (Option Value)} {oc_l_deed kV_l_deed dc_l_deed pm_l_deed cd_l_deed ct_l_deed : Value} {f_l_deed : Addr}
    {od_l_cell an_l_cell : Option Addr} {sl_l_cell : Array (Option Value)} {oc_l_cell kV_l_cell dc_l_cell pm_l_cell cd_l_cell ct_l_cell : Value} {f_l_cell : Addr}
    {od_l_well an_l_well : Option Addr} {sl_l_well : Array (Option Value)} {oc_l_well kV_l_well dc_l_well pm_l_well cd_l_well ct_l_well : Value} {f_l_well : Addr}
    {od_law an_law : Option Addr} {sl_law : Array (Option Value)} {oc_law kV_law dc_law pm_law cd_law ct_law : Value} {f_law : Addr}
    (z_bool : PySem.W.nsIn K mainGlobals "bool" = some none)
    (z_isinstance : PySem.W.nsIn K mainGlobals "isinstance" = some none)
    (z_len : PySem.W.nsIn K mainGlobals "len" = some none)
    (z_list : PySem.W.nsIn K mainGlobals "list" = some none)
    (z_max : PySem.W.nsIn K mainGlobals "max" = some none)
    (z_min : PySem.W.nsIn K mainGlobals "min" = some none)
    (z_range : PySem.W.nsIn K mainGlobals "range" = some none)
    (z_sorted : PySem.W.nsIn K mainGlobals "sorted" = some none)
    (z_tuple : PySem.W.nsIn K mainGlobals "tuple" = some none)
    (a_LedgerError : PySem.W.nsIn K mainGlobals "LedgerError" = some (some (.ref cd_LedgerError)))
    (a_NoTable : PySem.W.nsIn K mainGlobals "NoTable" = some (some (.ref cd_NoTable)))
    (a_NoEntry : PySem.W.nsIn K mainGlobals "NoEntry" = some (some (.ref cd_NoEntry)))
    (x_NoEntry : PySem.W.excIn K cd_NoEntry [.type "ValueError", .type "Exception", .type "BaseException", .type "object"] "ValueError.__new__" = true)
    (k_NoEntry : PySem.W.keepIn K (.ref cd_NoEntry) = true)
    (b_NoEntry : PySem.W.subIn K (.ref cd_NoEntry) (.type "BaseException") = some true)
    (t_NoEntry : PySem.W.typeIn K (.ref cd_NoEntry) = some (.type "type"))
    (echg_NoEntry : PySem.W.findIn K (.ref cd_NoEntry) "__getattribute__" = some (some (.builtin "BaseException.__getattribute__")))
    (echk_NoEntry : PySem.W.findIn K (.ref cd_NoEntry) "__getattr__" = some none)
    (echs_NoEntry : PySem.W.subIn K (.ref cd_NoEntry) (.type "BaseException") = some true)
    (echd_NoEntry : PySem.W.hasDictIn K cd_NoEntry = true)
    (echa_NoEntry : PySem.W.findIn K (.ref cd_NoEntry) "__class__" = some (some (.builtin "object.__class__")))
    (echn_NoEntry : PySem.W.specialIn K (.builtin "object.__class__") "__get__" = some (some (.builtin "getset_descriptor.__get__")))
    (echt_NoEntry : PySem.W.takesIn K (.builtin "object.__class__") = some true)
    (echm_NoEntry : PySem.W.mroIn K cd_NoEntry (.type "object") = some true)
    (a_NoIndex : PySem.W.nsIn K mainGlobals "NoIndex" = some (some (.ref cd_NoIndex)))
    (a_NoRow : PySem.W.nsIn K mainGlobals "NoRow" = some (some (.ref cd_NoRow)))
    (a_NoNumber : PySem.W.nsIn K mainGlobals "NoNumber" = some (some (.ref cd_NoNumber)))
    (a_Index : PySem.W.nsIn K mainGlobals "Index" = some (some (.ref cd_Index)))
    (clpg_Index : PySem.W.plainGet K cd_Index Str.empty = true)
    (clhd_Index : PySem.W.hasDictIn K cd_Index = true)
    (clpo_Index : PySem.W.plainOver K cd_Index = true)
    (clsa_Index : PySem.W.findIn K (.ref cd_Index) "__setattr__" = some (some (.builtin "object.__setattr__")))
    (na_Index_entries : PySem.W.findIn K (.ref cd_Index) "entries" = some none)
    (em_NoEntry_LedgerError : PySem.W.exmOne K (.ref cd_NoEntry) (.ref cd_LedgerError) = some true)
    (ki_NoEntry_NoEntry : PySem.W.kitOne K (.ref cd_NoEntry) (.ref cd_NoEntry) = some true)
    (ki_NoEntry_NoIndex : PySem.W.kitOne K (.ref cd_NoEntry) (.ref cd_NoIndex) = some false)
    (ki_NoEntry_NoNumber : PySem.W.kitOne K (.ref cd_NoEntry) (.ref cd_NoNumber) = some false)
    (ki_NoEntry_NoRow : PySem.W.kitOne K (.ref cd_NoEntry) (.ref cd_NoRow) = some false)
    (ki_NoEntry_NoTable : PySem.W.kitOne K (.ref cd_NoEntry) (.ref cd_NoTable) = some false)
    (a_Index___init : PySem.W.findIn K (.ref cd_Index) "__init__" = some (some (.ref f_Index___init)))
    (i_Index___init : PySem.W.isFn K (.ref f_Index___init) = true)
    (l_Index___init : K.lookup f_Index___init = some ⟨oc_Index___init, od_Index___init, .func (PySem.W.fnOf "__init__" "Index.__init__" (defArgs s_Index___init) (defBody s_Index___init) (defScope s_Index___init) .none kV_Index___init dc_Index___init pm_Index___init an_Index___init cd_Index___init ct_Index___init), sl_Index___init⟩)
    (c_Index___init : PySem.W.codeIn K cd_Index___init "Index.__init__" = true)
    (k_Index___init : PySem.W.keepIn K (.ref f_Index___init) = true)
    (mk_Index : PySem.W.makesIn K cd_Index = true)
    (kc_Index : PySem.W.keepIn K (.ref cd_Index) = true)
    (a_Index_first_from : PySem.W.findIn K (.ref cd_Index) "first_from" = some (some (.ref f_Index_first_from)))
    (i_Index_first_from : PySem.W.isFn K (.ref f_Index_first_from) = true)
    (l_Index_first_from : K.lookup f_Index_first_from = some ⟨oc_Index_first_from, od_Index_first_from, .func (PySem.W.fnOf "first_from" "Index.first_from" (defArgs s_Index_first_from) (defBody s_Index_first_from) (defScope s_Index_first_from) .none kV_Index_first_from dc_Index_first_from pm_Index_first_from an_Index_first_from cd_Index_first_from ct_Index_first_from), sl_Index_first_from⟩)
    (c_Index_first_from : PySem.W.codeIn K cd_Index_first_from "Index.first_from" = true)
    (k_Index_first_from : PySem.W.keepIn K (.ref f_Index_first_from) = true)
    (a_Index_between : PySem.W.findIn K (.ref cd_Index) "between" = some (some (.ref f_Index_between)))
    (i_Index_between : PySem.W.isFn K (.ref f_Index_between) = true)
    (l_Index_between : K.lookup f_Index_between = some ⟨oc_Index_between, od_Index_between, .func (PySem.W.fnOf "between" "Index.between" (defArgs s_Index_between) (defBody s_Index_between) (defScope s_Index_between) .none kV_Index_between dc_Index_between pm_Index_between an_Index_between cd_Index_between ct_Index_between), sl_Index_between⟩)
    (c_Index_between : PySem.W.codeIn K cd_Index_between "Index.between" = true)
    (k_Index_between : PySem.W.keepIn K (.ref f_Index_between) = true)
    (a_Index_place_of : PySem.W.findIn K (.ref cd_Index) "place_of" = some (some (.ref f_Index_place_of)))
    (i_Index_place_of : PySem.W.isFn K (.ref f_Index_place_of) = true)
    (l_Index_place_of : K.lookup f_Index_place_of = some ⟨oc_Index_place_of, od_Index_place_of, .func (PySem.W.fnOf "place_of" "Index.place_of" (defArgs s_Index_place_of) (defBody s_Index_place_of) (defScope s_Index_place_of) .none kV_Index_place_of dc_Index_place_of pm_Index_place_of an_Index_place_of cd_Index_place_of ct_Index_place_of), sl_Index_place_of⟩)
    (c_Index_place_of : PySem.W.codeIn K cd_Index_place_of "Index.place_of" = true)
    (k_Index_place_of : PySem.W.keepIn K (.ref f_Index_place_of) = true)
    (a_Index_stands_at : PySem.W.findIn K (.ref cd_Index) "stands_at" = some (some (.ref f_Index_stands_at)))
    (i_Index_stands_at : PySem.W.isFn K (.ref f_Index_stands_at) = true)
    (l_Index_stands_at : K.lookup f_Index_stands_at = some ⟨oc_Index_stands_at, od_Index_stands_at, .func (PySem.W.fnOf "stands_at" "Index.stands_at" (defArgs s_Index_stands_at) (defBody s_Index_stands_at) (defScope s_Index_stands_at) .none kV_Index_stands_at dc_Index_stands_at pm_Index_stands_at an_Index_stands_at cd_Index_stands_at ct_Index_stands_at), sl_Index_stands_at⟩)
    (c_Index_stands_at : PySem.W.codeIn K cd_Index_stands_at "Index.stands_at" = true)
    (k_Index_stands_at : PySem.W.keepIn K (.ref f_Index_stands_at) = true)
    (a_Index_put : PySem.W.findIn K (.ref cd_Index) "put" = some (some (.ref f_Index_put)))
    (i_Index_put : PySem.W.isFn K (.ref f_Index_put) = true)
    (l_Index_put : K.lookup f_Index_put = some ⟨oc_Index_put, od_Index_put, .func (PySem.W.fnOf "put" "Index.put" (defArgs s_Index_put) (defBody s_Index_put) (defScope s_Index_put) .none kV_Index_put dc_Index_put pm_Index_put an_Index_put cd_Index_put ct_Index_put), sl_Index_put⟩)
    (c_Index_put : PySem.W.codeIn K cd_Index_put "Index.put" = true)
    (k_Index_put : PySem.W.keepIn K (.ref f_Index_put) = true)
    (a_l_within : PySem.W.nsIn K mainGlobals "_law_within" = some (some (.ref f_l_within)))
    (l_l_within : K.lookup f_l_within = some ⟨oc_l_within, od_l_within, .func (PySem.W.fnOf "_law_within" "_law_within" (defArgs s_l_within) (defBody s_l_within) (defScope s_l_within) .none kV_l_within dc_l_within pm_l_within an_l_within cd_l_within ct_l_within), sl_l_within⟩)
    (c_l_within : PySem.W.codeIn K cd_l_within "_law_within" = true)
    (k_l_within : PySem.W.keepIn K (.ref f_l_within) = true)
    (a_l_asked : PySem.W.nsIn K mainGlobals "_law_asked" = some (some (.ref f_l_asked)))
    (l_l_asked : K.lookup f_l_asked = some ⟨oc_l_asked, od_l_asked, .func (PySem.W.fnOf "_law_asked" "_law_asked" (defArgs s_l_asked) (defBody s_l_asked) (defScope s_l_asked) .none kV_l_asked dc_l_asked pm_l_asked an_l_asked cd_l_asked ct_l_asked), sl_l_asked⟩)
    (c_l_asked : PySem.W.codeIn K cd_l_asked "_law_asked" = true)
    (k_l_asked : PySem.W.keepIn K (.ref f_l_asked) = true)
    (a_l_mixed : PySem.W.nsIn K mainGlobals "_law_mixed" = some (some (.ref f_l_mixed)))
    (l_l_mixed : K.lookup f_l_mixed = some ⟨oc_l_mixed, od_l_mixed, .func (PySem.W.fnOf "_law_mixed" "_law_mixed" (defArgs s_l_mixed) (defBody s_l_mixed) (defScope s_l_mixed) .none kV_l_mixed dc_l_mixed pm_l_mixed an_l_mixed cd_l_mixed ct_l_mixed), sl_l_mixed⟩)
    (c_l_mixed : PySem.W.codeIn K cd_l_mixed "_law_mixed" = true)
    (k_l_mixed : PySem.W.keepIn K (.ref f_l_mixed) = true)
    (a_l_twice : PySem.W.nsIn K mainGlobals "_law_twice" = some (some (.ref f_l_twice)))
    (l_l_twice : K.lookup f_l_twice = some ⟨oc_l_twice, od_l_twice, .func (PySem.W.fnOf "_law_twice" "_law_twice" (defArgs s_l_twice) (defBody s_l_twice) (defScope s_l_twice) .none kV_l_twice dc_l_twice pm_l_twice an_l_twice cd_l_twice ct_l_twice), sl_l_twice⟩)
    (c_l_twice : PySem.W.codeIn K cd_l_twice "_law_twice" = true)
    (k_l_twice : PySem.W.keepIn K (.ref f_l_twice) = true)
    (a_l_draw : PySem.W.nsIn K mainGlobals "_law_draw" = some (some (.ref f_l_draw)))
    (l_l_draw : K.lookup f_l_draw = some ⟨oc_l_draw, od_l_draw, .func (PySem.W.fnOf "_law_draw" "_law_draw" (defArgs s_l_draw) (defBody s_l_draw) (defScope s_l_draw) .none kV_l_draw dc_l_draw pm_l_draw an_l_draw cd_l_draw ct_l_draw), sl_l_draw⟩)
    (c_l_draw : PySem.W.codeIn K cd_l_draw "_law_draw" = true)
    (k_l_draw : PySem.W.keepIn K (.ref f_l_draw) = true)
    (a_l_value : PySem.W.nsIn K mainGlobals "_law_value" = some (some (.ref f_l_value)))
    (l_l_value : K.lookup f_l_value = some ⟨oc_l_value, od_l_value, .func (PySem.W.fnOf "_law_value" "_law_value" (defArgs s_l_value) (defBody s_l_value) (defScope s_l_value) .none kV_l_value dc_l_value pm_l_value an_l_value cd_l_value ct_l_value), sl_l_value⟩)
    (c_l_value : PySem.W.codeIn K cd_l_value "_law_value" = true)
    (k_l_value : PySem.W.keepIn K (.ref f_l_value) = true)
    (a_l_bound : PySem.W.nsIn K mainGlobals "_law_bound" = some (some (.ref f_l_bound)))
    (l_l_bound : K.lookup f_l_bound = some ⟨oc_l_bound, od_l_bound, .func (PySem.W.fnOf "_law_bound" "_law_bound" (defArgs s_l_bound) (defBody s_l_bound) (defScope s_l_bound) .none kV_l_bound dc_l_bound pm_l_bound an_l_bound cd_l_bound ct_l_bound), sl_l_bound⟩)
    (c_l_bound : PySem.W.codeIn K cd_l_bound "_law_bound" = true)
    (k_l_bound : PySem.W.keepIn K (.ref f_l_bound) = true)
    (a_Index_take : PySem.W.findIn K (.ref cd_Index) "take" = some (some (.ref f_Index_take)))
    (i_Index_take : PySem.W.isFn K (.ref f_Index_take) = true)
    (l_Index_take : K.lookup f_Index_take = some ⟨oc_Index_take, od_Index_take, .func (PySem.W.fnOf "take" "Index.take" (defArgs s_Index_take) (defBody s_Index_take) (defScope s_Index_take) .none kV_Index_take dc_Index_take pm_Index_take an_Index_take cd_Index_take ct_Index_take), sl_Index_take⟩)
    (c_Index_take : PySem.W.codeIn K cd_Index_take "Index.take" = true)
    (k_Index_take : PySem.W.keepIn K (.ref f_Index_take) = true)
    (a_l_deed : PySem.W.nsIn K mainGlobals "_law_deed" = some (some (.ref f_l_deed)))
    (l_l_deed : K.lookup f_l_deed = some ⟨oc_l_deed, od_l_deed, .func (PySem.W.fnOf "_law_deed" "_law_deed" (defArgs s_l_deed) (defBody s_l_deed) (defScope s_l_deed) .none kV_l_deed dc_l_deed pm_l_deed an_l_deed cd_l_deed ct_l_deed), sl_l_deed⟩)
    (c_l_deed : PySem.W.codeIn K cd_l_deed "_law_deed" = true)
    (k_l_deed : PySem.W.keepIn K (.ref f_l_deed) = true)
    (a_l_cell : PySem.W.nsIn K mainGlobals "_law_cell" = some (some (.ref f_l_cell)))
    (l_l_cell : K.lookup f_l_cell = some ⟨oc_l_cell, od_l_cell, .func (PySem.W.fnOf "_law_cell" "_law_cell" (defArgs s_l_cell) (defBody s_l_cell) (defScope s_l_cell) .none kV_l_cell dc_l_cell pm_l_cell an_l_cell cd_l_cell ct_l_cell), sl_l_cell⟩)
    (c_l_cell : PySem.W.codeIn K cd_l_cell "_law_cell" = true)
    (k_l_cell : PySem.W.keepIn K (.ref f_l_cell) = true)
    (a_l_well : PySem.W.nsIn K mainGlobals "_law_well" = some (some (.ref f_l_well)))
    (l_l_well : K.lookup f_l_well = some ⟨oc_l_well, od_l_well, .func (PySem.W.fnOf "_law_well" "_law_well" (defArgs s_l_well) (defBody s_l_well) (defScope s_l_well) .none kV_l_well dc_l_well pm_l_well an_l_well cd_l_well ct_l_well), sl_l_well⟩)
    (c_l_well : PySem.W.codeIn K cd_l_well "_law_well" = true)
    (k_l_well : PySem.W.keepIn K (.ref f_l_well) = true)
    (a_law : PySem.W.nsIn K mainGlobals "law" = some (some (.ref f_law)))
    (l_law : K.lookup f_law = some ⟨oc_law, od_law, .func (PySem.W.fnOf "law" "law" (defArgs s_law) (defBody s_law) (defScope s_law) .none kV_law dc_law pm_law an_law cd_law ct_law), sl_law⟩)
    (c_law : PySem.W.codeIn K cd_law "law" = true)
    (k_law : PySem.W.keepIn K (.ref f_law) = true) :
    ∃ fd : FuncData, (∀ (s : Shared) (v : Value), BindsTo s fd ⟨[v], []⟩ [("_law_script", v)]) ∧ ∀ base : Heap, K.In base → base.Ns mainGlobals mg → FnOk l.prog w K mg base (L2.CX l.prog w) 6 fa fd ["_law_script"] (sp_law K) := by

  have T : Txt K mg ⟨cd_LedgerError, cd_NoTable, cd_NoEntry, cd_NoIndex, cd_NoRow, cd_NoNumber, cd_Index⟩ := ⟨PySem.W.mg_none_of X G z_bool, PySem.W.mg_none_of X G z_isinstance, PySem.W.mg_none_of X G z_len, PySem.W.mg_none_of X G z_list, PySem.W.mg_none_of X G z_max, PySem.W.mg_none_of X G z_min, PySem.W.mg_none_of X G z_range, PySem.W.mg_none_of X G z_sorted, PySem.W.mg_none_of X G z_tuple, PySem.W.mg_of X G a_LedgerError, PySem.W.mg_of X G a_NoTable, PySem.W.mg_of X G a_NoEntry, x_NoEntry, k_NoEntry, b_NoEntry, t_NoEntry, ⟨echg_NoEntry, echk_NoEntry, echs_NoEntry, echd_NoEntry, echa_NoEntry, echn_NoEntry, echt_NoEntry, echm_NoEntry⟩, PySem.W.mg_of X G a_NoIndex, PySem.W.mg_of X G a_NoRow, PySem.W.mg_of X G a_NoNumber, PySem.W.mg_of X G a_Index, ⟨clpg_Index, clhd_Index, clpo_Index, clsa_Index⟩, na_Index_entries, em_NoEntry_LedgerError, ki_NoEntry_NoEntry, ki_NoEntry_NoIndex, ki_NoEntry_NoNumber, ki_NoEntry_NoRow, ki_NoEntry_NoTable, ⟨f_Index___init, _, (fun_mk (st := s_Index___init) l_Index___init c_Index___init k_Index___init), (Fun.binds (ps := ["self"]) (fun_mk (st := s_Index___init) l_Index___init c_Index___init k_Index___init) (fun _ _ _ _ _ _ us hl => match us, hl with | [_], _ => rfl)), ⟨mk_Index, a_Index___init, i_Index___init, kc_Index⟩⟩, ⟨f_Index_first_from, _, (fun_mk (st := s_Index_first_from) l_Index_first_from c_Index_first_from k_Index_first_from), (Fun.binds (ps := ["self", "value"]) (fun_mk (st := s_Index_first_from) l_Index_first_from c_Index_first_from k_Index_first_from) (fun _ _ _ _ _ _ us hl => match us, hl with | [_, _], _ => rfl)), ⟨a_Index_first_from, i_Index_first_from, k_Index_first_from⟩⟩, ⟨f_Index_between, _, (fun_mk (st := s_Index_between) l_Index_between c_Index_between k_Index_between), (Fun.binds (ps := ["self", "low", "high"]) (fun_mk (st := s_Index_between) l_Index_between c_Index_between k_Index_between) (fun _ _ _ _ _ _ us hl => match us, hl with | [_, _, _], _ => rfl)), ⟨a_Index_between, i_Index_between, k_Index_between⟩⟩, ⟨f_Index_place_of, _, (fun_mk (st := s_Index_place_of) l_Index_place_of c_Index_place_of k_Index_place_of), (Fun.binds (ps := ["self", "entry"]) (fun_mk (st := s_Index_place_of) l_Index_place_of c_Index_place_of k_Index_place_of) (fun _ _ _ _ _ _ us hl => match us, hl with | [_, _], _ => rfl)), ⟨a_Index_place_of, i_Index_place_of, k_Index_place_of⟩⟩, ⟨f_Index_stands_at, _, (fun_mk (st := s_Index_stands_at) l_Index_stands_at c_Index_stands_at k_Index_stands_at), (Fun.binds (ps := ["self", "at", "entry"]) (fun_mk (st := s_Index_stands_at) l_Index_stands_at c_Index_stands_at k_Index_stands_at) (fun _ _ _ _ _ _ us hl => match us, hl with | [_, _, _], _ => rfl)), ⟨a_Index_stands_at, i_Index_stands_at, k_Index_stands_at⟩⟩, ⟨f_Index_put, _, (fun_mk (st := s_Index_put) l_Index_put c_Index_put k_Index_put), (Fun.binds (ps := ["self", "value", "number"]) (fun_mk (st := s_Index_put) l_Index_put c_Index_put k_Index_put) (fun _ _ _ _ _ _ us hl => match us, hl with | [_, _, _], _ => rfl)), ⟨a_Index_put, i_Index_put, k_Index_put⟩⟩, ⟨f_l_within, _, (fun_mk (st := s_l_within) l_l_within c_l_within k_l_within), (Fun.binds (ps := ["_law_value_here", "_law_low", "_law_high"]) (fun_mk (st := s_l_within) l_l_within c_l_within k_l_within) (fun _ _ _ _ _ _ us hl => match us, hl with | [_, _, _], _ => rfl)), PySem.W.mg_of X G a_l_within⟩, ⟨f_l_asked, _, (fun_mk (st := s_l_asked) l_l_asked c_l_asked k_l_asked), (Fun.binds (ps := ["_law_index", "_law_kept", "_law_low", "_law_high"]) (fun_mk (st := s_l_asked) l_l_asked c_l_asked k_l_asked) (fun _ _ _ _ _ _ us hl => match us, hl with | [_, _, _, _], _ => rfl)), PySem.W.mg_of X G a_l_asked⟩, ⟨f_l_mixed, _, (fun_mk (st := s_l_mixed) l_l_mixed c_l_mixed k_l_mixed), (Fun.binds (ps := ["_law_cell_here", "_law_k"]) (fun_mk (st := s_l_mixed) l_l_mixed c_l_mixed k_l_mixed) (fun _ _ _ _ _ _ us hl => match us, hl with | [_, _], _ => rfl)), PySem.W.mg_of X G a_l_mixed⟩, ⟨f_l_twice, _, (fun_mk (st := s_l_twice) l_l_twice c_l_twice k_l_twice), (Fun.binds (ps := ["_law_cell_here", "_law_k"]) (fun_mk (st := s_l_twice) l_l_twice c_l_twice k_l_twice) (fun _ _ _ _ _ _ us hl => match us, hl with | [_, _], _ => rfl)), PySem.W.mg_of X G a_l_twice⟩, ⟨f_l_draw, _, (fun_mk (st := s_l_draw) l_l_draw c_l_draw k_l_draw), (Fun.binds (ps := ["_law_well_here", "_law_most"]) (fun_mk (st := s_l_draw) l_l_draw c_l_draw k_l_draw) (fun _ _ _ _ _ _ us hl => match us, hl with | [_, _], _ => rfl)), PySem.W.mg_of X G a_l_draw⟩, ⟨f_l_value, _, (fun_mk (st := s_l_value) l_l_value c_l_value k_l_value), (Fun.binds (ps := ["_law_well_here"]) (fun_mk (st := s_l_value) l_l_value c_l_value k_l_value) (fun _ _ _ _ _ _ us hl => match us, hl with | [_], _ => rfl)), PySem.W.mg_of X G a_l_value⟩, ⟨f_l_bound, _, (fun_mk (st := s_l_bound) l_l_bound c_l_bound k_l_bound), (Fun.binds (ps := ["_law_well_here", "_law_kept"]) (fun_mk (st := s_l_bound) l_l_bound c_l_bound k_l_bound) (fun _ _ _ _ _ _ us hl => match us, hl with | [_, _], _ => rfl)), PySem.W.mg_of X G a_l_bound⟩, ⟨f_Index_take, _, (fun_mk (st := s_Index_take) l_Index_take c_Index_take k_Index_take), (Fun.binds (ps := ["self", "value", "number"]) (fun_mk (st := s_Index_take) l_Index_take c_Index_take k_Index_take) (fun _ _ _ _ _ _ us hl => match us, hl with | [_, _, _], _ => rfl)), ⟨a_Index_take, i_Index_take, k_Index_take⟩⟩, ⟨f_l_deed, _, (fun_mk (st := s_l_deed) l_l_deed c_l_deed k_l_deed), (Fun.binds (ps := ["_law_index", "_law_kept", "_law_well_here"]) (fun_mk (st := s_l_deed) l_l_deed c_l_deed k_l_deed) (fun _ _ _ _ _ _ us hl => match us, hl with | [_, _, _], _ => rfl)), PySem.W.mg_of X G a_l_deed⟩, ⟨f_l_cell, _, (fun_mk (st := s_l_cell) l_l_cell c_l_cell k_l_cell), (Fun.binds (ps := ["_law_script", "_law_k"]) (fun_mk (st := s_l_cell) l_l_cell c_l_cell k_l_cell) (fun _ _ _ _ _ _ us hl => match us, hl with | [_, _], _ => rfl)), PySem.W.mg_of X G a_l_cell⟩, ⟨f_l_well, _, (fun_mk (st := s_l_well) l_l_well c_l_well k_l_well), (Fun.binds (ps := ["_law_script", "_law_k"]) (fun_mk (st := s_l_well) l_l_well c_l_well k_l_well) (fun _ _ _ _ _ _ us hl => match us, hl with | [_, _], _ => rfl)), PySem.W.mg_of X G a_l_well⟩⟩

  have e := hfa.symm.trans (PySem.W.mg_of X G a_law)
  cases e
  refine ⟨PySem.W.fnOf "law" "law" (defArgs s_law) (defBody s_law) (defScope s_law) .none kV_law dc_law pm_law an_law cd_law ct_law, fun s v => .of_eq rfl, fun base _ _ => ?_⟩
  exact ok_law T (fun_mk (st := s_law) l_law c_law k_law)

theorem walk {l : PySem.W.OpenLaw} {q : Program} {loose : List Str} {XP : (Str → Option Value) → Heap → Prop} {YP : World → Heap → Prop} {d : DefRec} {K : Params → PySem.W.Frag} (hn : l.most = some 63) (hdf : d.params.defaults = [])
    (hY : ∀ (w : World) (h : Heap), YP w h → (K w.params).In h)
    (F : ∀ (w : World) (mg : Str → Option Value) (fa : Addr) (h : Heap), (K w.params).In h → h.Ns mainGlobals mg → mg d.name = some (.ref fa) →
      ∃ fd : FuncData, (∀ (s : Shared) (u : Value), BindsTo s fd ⟨[u], []⟩ [("_law_script", u)]) ∧ ∀ base : Heap, (K w.params).In base → base.Ns mainGlobals mg → FnOk l.prog w (K w.params) mg base (L2.CX l.prog w) 6 fa fd ["_law_script"] (sp_law (K w.params))) :
    PySem.W.WalkO q loose XP YP l.row.toRowW d [] (fun f vs => PySem.call f vs) :=
  L2.walk_ofB (n := 63) (k := 6) (x := "_law_script") (CX := fun w => L2.CX l.prog w) (sp := fun w => sp_law (K w.params)) hn (by decide) hdf ⟨rfl, by decide, by decide⟩ hY F (fun _ _ a ns hl hb _ hS => ⟨a, ns, rfl, hS, hl, hb, fun _ => rfl⟩) fun w H s e s' z => by
    obtain ⟨_, _, _, _, _, _, _, _, _, _, _, _, z⟩ := z
    exact z.elim
end Toy
open PySem PySem.W PyProof.Rows
set_option maxRecDepth 100000 in
set_option maxHeartbeats 0 in
theorem PySem.Challenge.cw_planledger_k21_an_index_holds : PySem.Challenge.rw_planledger_k21_an_index.Holds := by
  w_on; o_law; k_head; (case hw => w_witness2)
  k_fill
  refine Toy.walk (l := PySem.Challenge.rw_planledger_k21_an_index) rfl rfl (fun w h Y => PySem.W.kIn_of Y) ?F
  case F =>
    intro w mg fa h KX G hmg
    refine' Toy.all_mk KX G hmg ?z_bool ?z_isinstance ?z_len ?z_list ?z_max ?z_min ?z_range ?z_sorted ?z_tuple ?a_LedgerError ?a_NoTable ?a_NoEntry ?x_NoEntry ?k_NoEntry ?b_NoEntry ?t_NoEntry ?echg_NoEntry ?echk_NoEntry ?echs_NoEntry ?echd_NoEntry ?echa_NoEntry ?echn_NoEntry ?echt_NoEntry ?echm_NoEntry ?a_NoIndex ?a_NoRow ?a_NoNumber ?a_Index ?clpg_Index ?clhd_Index ?clpo_Index ?clsa_Index ?na_Index_entries ?em_NoEntry_LedgerError ?ki_NoEntry_NoEntry ?ki_NoEntry_NoIndex ?ki_NoEntry_NoNumber ?ki_NoEntry_NoRow ?ki_NoEntry_NoTable ?a_Index___init ?i_Index___init ?l_Index___init ?c_Index___init ?k_Index___init ?mk_Index ?kc_Index ?a_Index_first_from ?i_Index_first_from ?l_Index_first_from ?c_Index_first_from ?k_Index_first_from ?a_Index_between ?i_Index_between ?l_Index_between ?c_Index_between ?k_Index_between ?a_Index_place_of ?i_Index_place_of ?l_Index_place_of ?c_Index_place_of ?k_Index_place_of ?a_Index_stands_at ?i_Index_stands_at ?l_Index_stands_at ?c_Index_stands_at ?k_Index_stands_at ?a_Index_put ?i_Index_put ?l_Index_put ?c_Index_put ?k_Index_put ?a_l_within ?l_l_within ?c_l_within ?k_l_within ?a_l_asked ?l_l_asked ?c_l_asked ?k_l_asked ?a_l_mixed ?l_l_mixed ?c_l_mixed ?k_l_mixed ?a_l_twice ?l_l_twice ?c_l_twice ?k_l_twice ?a_l_draw ?l_l_draw ?c_l_draw ?k_l_draw ?a_l_value ?l_l_value ?c_l_value ?k_l_value ?a_l_bound ?l_l_bound ?c_l_bound ?k_l_bound ?a_Index_take ?i_Index_take ?l_Index_take ?c_Index_take ?k_Index_take ?a_l_deed ?l_l_deed ?c_l_deed ?k_l_deed ?a_l_cell ?l_l_cell ?c_l_cell ?k_l_cell ?a_l_well ?l_l_well ?c_l_well ?k_l_well ?a_law ?l_law ?c_law ?k_law

    (case a_LedgerError => k_is)

    (case a_NoTable => k_is)

    (case a_NoEntry => k_is)

    (case a_NoIndex => k_is)

    (case a_NoRow => k_is)

    (case a_NoNumber => k_is)

    (case a_Index => k_is)

    (case a_l_within => k_is)

    (case a_l_asked => k_is)

    (case a_l_mixed => k_is)

    (case a_l_twice => k_is)

    (case a_l_draw => k_is)

    (case a_l_value => k_is)

    (case a_l_bound => k_is)

    (case a_l_deed => k_is)

    (case a_l_cell => k_is)

    (case a_l_well => k_is)

    (case a_law => k_is)

    (case z_bool => k_is)

    (case z_isinstance => k_is)

    (case z_len => k_is)

    (case z_list => k_is)

    (case z_max => k_is)

    (case z_min => k_is)

    (case z_range => k_is)

    (case z_sorted => k_is)

    (case z_tuple => k_is)

    (case x_NoEntry => k_exc)

    (case k_NoEntry => k_is)

    (case b_NoEntry => k_is)

    (case t_NoEntry => k_is)

    (case echg_NoEntry => k_is)

    (case echk_NoEntry => k_is)

    (case echs_NoEntry => k_is)

    (case echd_NoEntry => k_is)

    (case echa_NoEntry => k_is)

    (case echn_NoEntry => k_is)

    (case echt_NoEntry => k_is)

    (case echm_NoEntry => k_is)

    (case clpg_Index => k_is)

    (case clhd_Index => k_is)

    (case clpo_Index => k_is)

    (case clsa_Index => k_is)

    (case na_Index_entries => k_is)

    (case em_NoEntry_LedgerError => refine PL.exm_sub (by k_is) (by k_is) (by k_is) (by k_is))

    (case ki_NoEntry_NoEntry => exact PL.kit_self (by decide))

    (case ki_NoEntry_NoIndex => refine PL.kit_sub (by k_is) (by k_is) (by k_is) (by decide))

    (case ki_NoEntry_NoNumber => refine PL.kit_sub (by k_is) (by k_is) (by k_is) (by decide))

    (case ki_NoEntry_NoRow => refine PL.kit_sub (by k_is) (by k_is) (by k_is) (by decide))

    (case ki_NoEntry_NoTable => refine PL.kit_sub (by k_is) (by k_is) (by k_is) (by decide))

    (case a_Index___init => k_is)

    (case i_Index___init => k_is)

    (case l_Index___init => k_is)

    (case c_Index___init => k_is)

    (case k_Index___init => k_is)

    (case mk_Index => k_is)

    (case kc_Index => k_is)

    (case a_Index_first_from => k_is)

    (case i_Index_first_from => k_is)

    (case l_Index_first_from => k_is)

    (case c_Index_first_from => k_is)

    (case k_Index_first_from => k_is)

    (case a_Index_between => k_is)

    (case i_Index_between => k_is)

    (case l_Index_between => k_is)

    (case c_Index_between => k_is)

    (case k_Index_between => k_is)

    (case a_Index_place_of => k_is)

    (case i_Index_place_of => k_is)

    (case l_Index_place_of => k_is)

    (case c_Index_place_of => k_is)

    (case k_Index_place_of => k_is)

    (case a_Index_stands_at => k_is)

    (case i_Index_stands_at => k_is)

    (case l_Index_stands_at => k_is)

    (case c_Index_stands_at => k_is)

    (case k_Index_stands_at => k_is)

    (case a_Index_put => k_is)

    (case i_Index_put => k_is)

    (case l_Index_put => k_is)

    (case c_Index_put => k_is)

    (case k_Index_put => k_is)

    (case l_l_within => k_is)

    (case c_l_within => k_is)

    (case k_l_within => k_is)

    (case l_l_asked => k_is)

    (case c_l_asked => k_is)

    (case k_l_asked => k_is)

    (case l_l_mixed => k_is)

    (case c_l_mixed => k_is)

    (case k_l_mixed => k_is)

    (case l_l_twice => k_is)

    (case c_l_twice => k_is)

    (case k_l_twice => k_is)

    (case l_l_draw => k_is)

    (case c_l_draw => k_is)

    (case k_l_draw => k_is)

    (case l_l_value => k_is)

    (case c_l_value => k_is)

    (case k_l_value => k_is)

    (case l_l_bound => k_is)

    (case c_l_bound => k_is)

    (case k_l_bound => k_is)

    (case a_Index_take => k_is)

    (case i_Index_take => k_is)

    (case l_Index_take => k_is)

    (case c_Index_take => k_is)

    (case k_Index_take => k_is)

    (case l_l_deed => k_is)

    (case c_l_deed => k_is)

    (case k_l_deed => k_is)

    (case l_l_cell => k_is)

    (case c_l_cell => k_is)

    (case k_l_cell => k_is)

    (case l_l_well => k_is)

    (case c_l_well => k_is)

    (case k_l_well => k_is)

    (case l_law => k_is)

    (case c_law => k_is)

    (case k_law => k_is)
