import PyProof.Rows.All
import Wide.All
import OpenK.AllK
import Wide.FinOn
import HandS.ForMost
import HandS.IsInst
import PySem.Challenge.RW_planledger_k30_meters
set_option Elab.async false
set_option linter.all false
set_option maxRecDepth 100000
set_option maxHeartbeats 4000000
namespace Toy
open PySem L2
def top (i : Nat) : Stmt := PySem.Challenge.pw_planledger_k30_meters.main.body.getD i (.Pass ⟨0, 0, 0, 0⟩)
abbrev sInit : Stmt := inClass (top 1) 0
abbrev sKeep : Stmt := inClass (top 1) 1
abbrev sLet : Stmt := inClass (top 1) 2
abbrev sRight : Stmt := top 3
abbrev sLaw : Stmt := top 4
def mf (a b : Int) : List (Str × V) := [("kept", .int a), ("peak", .int b)]
def MeterAt (C : Addr) (H : Hp) (p : Addr) (a b : Int) : Prop := ∃ dx, H p = some (.ins C dx (mf a b))
structure Txt (K : PySem.W.Frag) (mg : Str → Option Value) (C : Addr) : Prop where
  cl : Cls K C
  nK : NoAttr K C "kept"
  nP : NoAttr K C "peak"
  mgC : mg "Meter" = some (.ref C)
  max : mg "max" = none
  min : mg "min" = none
  range : mg "range" = none
  isi : mg "isinstance" = none
  bool : mg "bool" = none
section
variable {P : Program} {w : World} {K : PySem.W.Frag} {mg : Str → Option Value} {base : Heap}
theorem scK : FnScope ["self", "many"] ["self", "many"] (defScope sKeep) := ⟨rfl, rfl, rfl, by decide +kernel, rfl, by decide +kernel, by decide +kernel⟩
def spKeep (C : Addr) : Sp := fun vs H Q _ => ∃ (p : Addr) (a b n : Int), vs = [.ref p, .int n] ∧ MeterAt C H p a b ∧ ∀ H', MeterAt C H' p (a + n) (max b (a + n)) → (∀ c o, H c = some o → c ≠ p → H' c = some o) → Q .non H'
theorem ok_keep {f C : Addr} {fd : FuncData} (F : Fun K "keep" "Meter.keep" sKeep f fd) (T : Txt K mg C) : FnOk P w K mg base CX0 1 f fd ["self", "many"] (spKeep C) := by
  refine F.ok scK (fun vs H Q E h => ?_) (fun cdv A outer s H vs Q E hr h => ?_)
  · obtain ⟨p, a, b, n, rfl, _⟩ := h
    rfl
  · obtain ⟨p, a, b, n, rfl, ⟨dx, h1⟩, k⟩ := h
    refine ⟨_, pss_cons (ps_fldaug (pv 0) (pv 1) in_add) (pss_one (ps_fld (pv 0) (pe_callB (call_max2 rfl) (by rfl) T.max (by decide +kernel) (pa_cons (pe_fld (pv 0) rfl) (pa_cons (pe_fld (pv 0) rfl) pa_nil))) rfl)), ?_⟩
    refine ⟨_, rfl, p, C, dx, _, _, rfl, h1, T.cl, T.nK, rfl, _, rfl, _, _, rfl, rfl, dx, _, h1, by show 2 < 1000; decide, ?_⟩
    have h2 : upd H p (.ins C dx (mf (a + n) b)) p = some (.ins C dx (mf (a + n) b)) := upd_same
    refine ⟨_, rfl, p, C, dx, _, _, rfl, h2, T.cl, T.nP, rfl, _, rfl, p, C, dx, _, _, rfl, h2, T.cl, T.nK, rfl, _, _, rfl, _, rfl, p, C, dx, _, rfl, h2, T.cl, T.nP, by show 2 < 1000; decide, ?_⟩
    refine k _ ⟨dx, ?_⟩ ?_
    · rw [upd_same]
      have e : (if a + n > b then a + n else b) = max b (a + n) := by
        rw [Int.max_def]; split <;> split <;> omega
      rw [← e]; rfl
    · intro c o e hc
      rw [upd_ne hc, upd_ne hc]; exact e
theorem scI : FnScope ["self"] ["self"] (defScope sInit) := ⟨rfl, rfl, rfl, by decide +kernel, rfl, by decide +kernel, by decide +kernel⟩
def spInit (C : Addr) : Sp := fun vs H Q _ => ∃ (p dx : Addr), vs = [.ref p] ∧ H p = some (.ins C dx []) ∧ ∀ H', MeterAt C H' p 0 0 → (∀ c o, H c = some o → c ≠ p → H' c = some o) → Q .non H'
theorem ok_init {f C : Addr} {fd : FuncData} (F : Fun K "__init__" "Meter.__init__" sInit f fd) (T : Txt K mg C) : FnOk P w K mg base CX0 1 f fd ["self"] (spInit C) := by
  refine F.ok scI (fun vs H Q E h => ?_) (fun cdv A outer s H vs Q E hr h => ?_)
  · obtain ⟨p, dx, rfl, _⟩ := h
    rfl
  · obtain ⟨p, dx, rfl, h1, k⟩ := h
    refine ⟨_, pss_cons (ps_fld (pv 0) pe_int rfl) (pss_one (ps_fld (pv 0) pe_int rfl)), ?_⟩
    refine ⟨_, rfl, p, C, dx, _, rfl, h1, T.cl, T.nK, by show 0 < 1000; decide, ?_⟩
    refine ⟨_, rfl, p, C, dx, _, rfl, upd_same, T.cl, T.nP, by show 1 < 1000; decide, ?_⟩
    refine k _ ⟨dx, upd_same⟩ ?_
    intro c o e hc
    rw [upd_ne hc, upd_ne hc]; exact e
theorem scLe : FnScope ["self", "many"] ["self", "many"] (defScope sLet) := ⟨rfl, rfl, rfl, by decide +kernel, rfl, by decide +kernel, by decide +kernel⟩
def spLet (C : Addr) : Sp := fun vs H Q _ => ∃ (p : Addr) (a b n : Int), vs = [.ref p, .int n] ∧ MeterAt C H p a b ∧ ∀ H', MeterAt C H' p (a - n) b → (∀ c o, H c = some o → c ≠ p → H' c = some o) → Q .non H'
theorem ok_let {f C : Addr} {fd : FuncData} (F : Fun K "let_go" "Meter.let_go" sLet f fd) (T : Txt K mg C) : FnOk P w K mg base CX0 1 f fd ["self", "many"] (spLet C) := by
  refine F.ok scLe (fun vs H Q E h => ?_) (fun cdv A outer s H vs Q E hr h => ?_)
  · obtain ⟨p, a, b, n, rfl, _⟩ := h
    rfl
  · obtain ⟨p, a, b, n, rfl, ⟨dx, h1⟩, k⟩ := h
    refine ⟨_, pss_one (ps_fldaug (pv 0) (pv 1) in_sub), ?_⟩
    refine ⟨_, rfl, p, C, dx, _, _, rfl, h1, T.cl, T.nK, rfl, _, rfl, _, _, rfl, rfl, dx, _, h1, by show 2 < 1000; decide, ?_⟩
    refine k _ ⟨dx, upd_same⟩ ?_
    intro c o e hc
    rw [upd_ne hc]; exact e
theorem scR : FnScope ["_law_meters", "_law_kept", "_law_peaks", "_law_k", "_law_found"] ["_law_meters", "_law_kept", "_law_peaks"] (defScope sRight) := ⟨rfl, rfl, rfl, by decide +kernel, rfl, by decide +kernel, by decide +kernel⟩
structure St2 (C : Addr) (H : Hp) (lm lk lp : Addr) (ms : List Addr) (as bs : List Int) : Prop where
  hm : H lm = some (.lst (ms.map V.ref))
  hk : H lk = some (.lst (as.map V.int))
  hp : H lp = some (.lst (bs.map V.int))
  ln : ms.length = 2
  la : as.length = 2
  lb : bs.length = 2
  nd : ms.Nodup
  ne : lk ≠ lp
  at_ : ∀ (j : Nat) (m : Addr), ms[j]? = some m → ∃ a b, as[j]? = some a ∧ bs[j]? = some b ∧ MeterAt C H m a b
theorem St2.same {C : Addr} {H H' : Hp} {lm lk lp : Addr} {ms : List Addr} {as bs : List Int} (S : St2 C H lm lk lp ms as bs) (s : Same H H') : St2 C H' lm lk lp ms as bs :=
  ⟨s _ _ S.hm, s _ _ S.hk, s _ _ S.hp, S.ln, S.la, S.lb, S.nd, S.ne, fun j m e => let ⟨a, b, e1, e2, d, h⟩ := S.at_ j m e; ⟨a, b, e1, e2, d, s _ _ h⟩⟩
theorem St2.get {C : Addr} {H : Hp} {lm lk lp : Addr} {ms : List Addr} {as bs : List Int} (S : St2 C H lm lk lp ms as bs) {j : Nat} (hj : j < 2) : ∃ m a b, MeterAt C H m a b ∧ ms[j]? = some m ∧ as[j]? = some a ∧ bs[j]? = some b ∧ (ms.map V.ref)[j]? = some (.ref m) ∧ (as.map V.int)[j]? = some (.int a) ∧ (bs.map V.int)[j]? = some (.int b) := by
  have hl : j < ms.length := by rw [S.ln]; exact hj
  obtain ⟨a, b, e1, e2, h⟩ := S.at_ j ms[j] (List.getElem?_eq_getElem hl)
  refine ⟨ms[j], a, b, h, List.getElem?_eq_getElem hl, e1, e2, ?_, ?_, ?_⟩
  · rw [List.getElem?_map, List.getElem?_eq_getElem hl]; rfl
  · rw [List.getElem?_map, e1]; rfl
  · rw [List.getElem?_map, e2]; rfl
theorem map_set {α β : Type} (f : α → β) (l : List α) (j : Nat) (a : α) : (l.map f).set j (f a) = (l.set j a).map f := by rw [List.map_set]
theorem same_upd {H : Hp} {p : Addr} {o : HO} (n : H p = none) : Same H (upd H p o) := fun b u e => by rw [upd_ne (ne_of_none e n)]; exact e
def spRight (C : Addr) : Sp := fun vs H Q _ => ∃ (lm lk lp : Addr) (ms : List Addr) (as bs : List Int), vs = [.ref lm, .ref lk, .ref lp] ∧ St2 C H lm lk lp ms as bs ∧ ∀ H', Same H H' → Q (.bl true) H'
set_option maxHeartbeats 8000000 in
theorem ok_right {f C : Addr} {fd : FuncData} (F : Fun K "_law_right" "_law_right" sRight f fd) (T : Txt K mg C) : FnOk P w K mg base CX0 1 f fd ["_law_meters", "_law_kept", "_law_peaks"] (spRight C) := by
  refine F.ok scR (fun vs H Q E h => ?_) (fun cdv A outer s H vs Q E hr h => ?_)
  · obtain ⟨lm, lk, lp, ms, as, bs, rfl, _⟩ := h
    rfl
  · obtain ⟨lm, lk, lp, ms, as, bs, rfl, S, k⟩ := h
    refine ⟨_, pss_cons (ps_for PassesOwn.never rfl (pi_range1 rfl T.range (pa_cons pe_int pa_nil)) (pg_name (i := 3) scR.nd rfl (Or.inl rfl))
      (pss_cons (ps_set (i := 4) scR.nd rfl (Or.inl rfl) (pe_tup (pa_cons (pe_fld (pe_ix ix_list (pv 0) (pv 3) (fun _ _ => rfl)) rfl) (pa_cons (pe_fld (pe_ix ix_list (pv 0) (pv 3) (fun _ _ => rfl)) rfl) pa_nil))))
        (pss_one (ps_if (PW.pt (pw_or (pt_cmpR (op_neD hr.units) (pv 4) (pe_tup (pa_cons (pe_ix ix_list (pv 1) (pv 3) (fun _ _ => rfl)) (pa_cons (pe_ix ix_list (pv 2) (pv 3) (fun _ _ => rfl)) pa_nil))) (nomark _))
          (pw_or (pt_val (pe_callB call_isi (by rfl) T.isi (by decide +kernel) (pa_cons (pe_ix ix_tup (pv 4) pe_int (fun _ _ => rfl)) (pa_cons (pe_bltn (v := .ty "bool") (by rfl) T.bool (by decide +kernel) rfl) pa_nil))))
            (pw_or1 (pt_val (pe_callB call_isi (by rfl) T.isi (by decide +kernel) (pa_cons (pe_ix ix_tup (pv 4) pe_int (fun _ _ => rfl)) (pa_cons (pe_bltn (v := .ty "bool") (by rfl) T.bool (by decide +kernel) rfl) pa_nil))))))))
          (pss_one (ps_ret pe_bl)) pss_nil))))
      (pss_one (ps_ret pe_bl)), ?_⟩
    refine ⟨2, rfl, by decide, by decide, for_range (n := 2) (fun i σ H1 => ∃ (v4 v5 : Option V), σ = [some (.ref lm), some (.ref lk), some (.ref lp), v4, v5] ∧ Same H H1) ⟨none, none, rfl, Same.refl H⟩ ?_ ?_⟩
    · rintro i σ H1 hi ⟨v4, v5, rfl, s1⟩
      have S1 := S.same s1
      obtain ⟨m, a, b, M, _, _, _, e1, e2, e3⟩ := S1.get hi
      obtain ⟨dx, M⟩ := M
      have ez : (0 + (i : Int)) = (i : Int) := by omega
      refine ⟨_, rfl, _, rfl, lm, _, _, _, rfl, rfl, SqL.of S1.hm, at_of ez e1, m, C, dx, _, _, rfl, M, T.cl, T.nK, rfl, _, rfl, _, rfl, lm, _, _, _, rfl, rfl, SqL.of S1.hm, at_of ez e1, m, C, dx, _, _, rfl, M, T.cl, T.nP, rfl, by show 2 ≤ sizeLine; decide, fun t ht => ?_⟩
      have s2 := same_upd (o := .tup [.int a, .int b]) ht
      have S2 := S1.same s2
      refine ⟨_, rfl, _, rfl, _, rfl, lk, _, _, _, rfl, rfl, SqL.of S2.hk, at_of ez e2, _, rfl, _, rfl, lp, _, _, _, rfl, rfl, SqL.of S2.hp, at_of ez e3, by show 2 ≤ sizeLine; decide, fun u hu => ?_⟩
      have s3 := same_upd (o := .tup [.int a, .int b]) hu
      refine ⟨.tuple [.int a, .int b], .tuple [.int a, .int b], .tup (SqT.of (s3 _ _ upd_same)) (.cons (.int _) (.cons (.int _) .nil)), .tup (SqT.of upd_same) (.cons (.int _) (.cons (.int _) .nil)), rfl, rfl, _, rfl, ?_⟩
      rw [SeqAt.eqv_refl _ rfl]
      refine iteF ?_
      have hT := s3 _ _ (upd_same (H := H1) (a := t) (o := .tup [.int a, .int b]))
      refine ⟨_, rfl, t, _, _, _, rfl, rfl, SqT.of hT, atI_nat (j := 0) rfl, _, _, _, _, _, rfl, .ty "bool", .base (.int _), kit_ty (b := "bool") (r := false) (by decide +kernel), _, rfl, ?_⟩
      refine iteF ?_
      refine ⟨_, rfl, t, _, _, _, rfl, rfl, SqT.of hT, atI_nat (j := 1) rfl, _, _, _, _, _, rfl, .ty "bool", .base (.int _), kit_ty (b := "bool") (r := false) (by decide +kernel), _, rfl, ?_⟩
      refine iteF ?_
      exact ⟨_, _, rfl, (s1.trans s2).trans s3⟩
    · rintro σ H1 ⟨v4, v5, rfl, s1⟩
      exact k H1 s1
def spLaw (K : PySem.W.Frag) : Sp := fun vs H Q _ => ∃ (a : Addr) (ns : List Int), vs = [.ref a] ∧ SqL K H a (ns.map V.int) ∧ ns.length ≤ 63 ∧ ∀ H', Q (.bl true) H'
theorem scL : FnScope ["_law_script", "_law_meters", "_law_kept", "_law_peaks", "_law_cell", "_law_k", "_law_many"] ["_law_script"] (defScope sLaw) := ⟨rfl, rfl, rfl, by decide +kernel, rfl, by decide +kernel, by decide +kernel⟩
theorem nd2 {a b : Addr} (h : a ≠ b) : [a, b].Nodup := List.nodup_cons.mpr ⟨by simp [h], by simp⟩
/-- the meter at j, and the two lists at j, are changed -/
theorem St2.put {C : Addr} {H H1 H2 : Hp} {lm lk lp : Addr} {ms : List Addr} {as bs : List Int} (S : St2 C H lm lk lp ms as bs) {j : Nat} {m : Addr} {a b a' b' : Int} (ej : ms[j]? = some m) (ea : as[j]? = some a) (eb : bs[j]? = some b)
    (M : MeterAt C H1 m a' b') (kp : ∀ c o, H c = some o → c ≠ m → H1 c = some o) (hk : H2 lk = some (.lst ((as.set j a').map V.int))) (hp : H2 lp = some (.lst ((bs.set j b').map V.int))) (kp2 : ∀ c o, H1 c = some o → c ≠ lk → c ≠ lp → H2 c = some o) :
    St2 C H2 lm lk lp ms (as.set j a') (bs.set j b') := by
  obtain ⟨dm, hM⟩ := M
  obtain ⟨_, _, _, _, dm0, hM0⟩ := S.at_ j m ej
  have n1 : lm ≠ m := ne_of S.hm hM0 (by intro z; cases z)
  have n2 : lm ≠ lk := ne_of S.hm S.hk (by intro z; injection z with z; have := congrArg List.head? z; cases ms with | nil => simp at ej | cons x xs => cases as with | nil => simp at ea | cons y ys => simp at this)
  have n3 : lm ≠ lp := ne_of S.hm S.hp (by intro z; injection z with z; have := congrArg List.head? z; cases ms with | nil => simp at ej | cons x xs => cases bs with | nil => simp at eb | cons y ys => simp at this)
  have n4 : lk ≠ m := ne_of S.hk hM0 (by intro z; cases z)
  have n5 : lp ≠ m := ne_of S.hp hM0 (by intro z; cases z)
  refine ⟨kp2 _ _ (kp _ _ S.hm n1) n2 n3, hk, hp, S.ln, by rw [List.length_set]; exact S.la, by rw [List.length_set]; exact S.lb, S.nd, S.ne, fun i x hx => ?_⟩
  by_cases hi : i = j
  · subst hi
    have e : x = m := Option.some.inj (hx.symm.trans ej)
    subst e
    refine ⟨a', b', ?_, ?_, dm, kp2 _ _ hM n4.symm n5.symm⟩
    · rw [List.getElem?_set_self (List.getElem?_eq_some_iff.mp ea).1]
    · rw [List.getElem?_set_self (List.getElem?_eq_some_iff.mp eb).1]
  · obtain ⟨a2, b2, e1, e2, d2, h2⟩ := S.at_ i x hx
    have nxm : x ≠ m := fun z => hi (nd_ix S.nd hx (by rw [z]; exact ej))
    refine ⟨a2, b2, ?_, ?_, d2, kp2 _ _ (kp _ _ h2 nxm) (ne_of h2 S.hk (by intro z; cases z)) (ne_of h2 S.hp (by intro z; cases z))⟩
    · rw [List.getElem?_set_ne (fun q => hi q.symm)]; exact e1
    · rw [List.getElem?_set_ne (fun q => hi q.symm)]; exact e2
set_option maxHeartbeats 8000000 in
theorem ok_law {f C fI fK fG fR : Addr} {fd fdI fdK fdG fdR : FuncData} (F : Fun K "law" "law" sLaw f fd) (T : Txt K mg C) (M : Mk K C fI) (FI : Fun K "__init__" "Meter.__init__" sInit fI fdI) (bI : Binds K fdI ["self"] [])
    (FK : Fun K "keep" "Meter.keep" sKeep fK fdK) (bK : Binds K fdK ["self", "many"] []) (mK : Meth K C "keep" fK) (FG : Fun K "let_go" "Meter.let_go" sLet fG fdG) (bG : Binds K fdG ["self", "many"] []) (mG : Meth K C "let_go" fG)
    (FR : Fun K "_law_right" "_law_right" sRight fR fdR) (bR : Binds K fdR ["_law_meters", "_law_kept", "_law_peaks"] []) (gR : mg "_law_right" = some (.ref fR)) : FnOk P w K mg base CX0 3 f fd ["_law_script"] (spLaw K) := by
  have GI : FnOk P w K mg base CX0 1 fI fdI ["self"] (spInit C) := ok_init FI T
  have GK : FnOk P w K mg base CX0 1 fK fdK ["self", "many"] (spKeep C) := ok_keep FK T
  have GG : FnOk P w K mg base CX0 1 fG fdG ["self", "many"] (spLet C) := ok_let FG T
  have GR : FnOk P w K mg base CX0 1 fR fdR ["_law_meters", "_law_kept", "_law_peaks"] (spRight C) := ok_right FR T
  refine F.ok scL (fun vs H Q E h => ?_) (fun cdv A outer s H vs Q E hr h => ?_)
  · obtain ⟨a, ns, rfl, _⟩ := h
    rfl
  · obtain ⟨a, ns, rfl, hS, hlen, k⟩ := h
    have hr1 : Room 1 _ := hr.mono (by decide)
    refine ⟨_, pss_cons (ps_set (i := 1) scL.nd rfl (Or.inl rfl) (pe_lst (pa_cons (pe_make0 M GI hr rfl T.mgC bI .nil pass0) (pa_cons (pe_make0 M GI hr rfl T.mgC bI .nil pass0) pa_nil))))
      (pss_cons (ps_set (i := 2) scL.nd rfl (Or.inl rfl) (pe_lst (pa_cons pe_int (pa_cons pe_int pa_nil))))
      (pss_cons (ps_set (i := 3) scL.nd rfl (Or.inl rfl) (pe_lst (pa_cons pe_int (pa_cons pe_int pa_nil))))
      (pss_cons (ps_if (pt_not (pt_val (pe_call GR hr1 rfl gR FR.kp bR .nil pass0 (pa_cons (pv 1) (pa_cons (pv 2) (pa_cons (pv 3) pa_nil)))))) (pss_one (ps_ret pe_bl)) pss_nil)
      (pss_cons (ps_for PassesOwn.never rfl (pi_list (pe_slice sl_list (pv 0) po_none (po_some pe_int))) (pg_name (i := 4) scL.nd rfl (Or.inl rfl))
        (pss_cons (ps_set (i := 5) scL.nd rfl (Or.inl rfl) (pe_op op_mod (pv 4) pe_int))
        (pss_cons (ps_set (i := 6) scL.nd rfl (Or.inl rfl) (pe_op op_mod (pe_op op_fdiv (pv 4) pe_int) (pe_ix ix_list (pe_lst (pa_cons pe_int (pa_cons (pe_op op_pow pe_int pe_int) pa_nil))) (pe_op op_mod (pe_op op_fdiv (pv 4) pe_int) pe_int) (fun _ _ => rfl))))
        (pss_cons (ps_if (pt_cmpR op_eq (pe_op op_mod (pe_op op_fdiv (pv 4) pe_int) pe_int) pe_int (nomark _))
          (pss_cons (ps_if (pt_cmpR op_notN (pe_meth (pe_ix ix_list (pv 1) (pv 5) (fun _ _ => rfl)) T.cl mK GK hr1 bK .nil pass0 (pa_cons (pv 6) pa_nil)) pe_non (nomark _)) (pss_one (ps_ret pe_bl)) pss_nil)
          (pss_cons (ps_asg (pe_op op_add (pe_ix ix_list (pv 2) (pv 5) (fun _ _ => rfl)) (pv 6)) (pg_sub (pv 2) (pv 5) set_list))
          (pss_one (ps_asg (pe_callB (call_max2 rfl) (by rfl) T.max (by decide +kernel) (pa_cons (pe_ix ix_list (pv 3) (pv 5) (fun _ _ => rfl)) (pa_cons (pe_ix ix_list (pv 2) (pv 5) (fun _ _ => rfl)) pa_nil))) (pg_sub (pv 3) (pv 5) set_list)))))
          (pss_cons (ps_set (i := 6) scL.nd rfl (Or.inl rfl) (pe_callB (call_min2 rfl) (by rfl) T.min (by decide +kernel) (pa_cons (pv 6) (pa_cons (pe_ix ix_list (pv 2) (pv 5) (fun _ _ => rfl)) pa_nil))))
          (pss_cons (ps_if (pt_cmpR op_notN (pe_meth (pe_ix ix_list (pv 1) (pv 5) (fun _ _ => rfl)) T.cl mG GG hr1 bG .nil pass0 (pa_cons (pv 6) pa_nil)) pe_non (nomark _)) (pss_one (ps_ret pe_bl)) pss_nil)
          (pss_one (ps_asg (pe_op op_sub (pe_ix ix_list (pv 2) (pv 5) (fun _ _ => rfl)) (pv 6)) (pg_sub (pv 2) (pv 5) set_list))))))
        (pss_one (ps_if (pt_not (pt_val (pe_call GR hr1 rfl gR FR.kp bR .nil pass0 (pa_cons (pv 1) (pa_cons (pv 2) (pa_cons (pv 3) pa_nil)))))) (pss_one (ps_ret pe_bl)) pss_nil))))))
      (pss_one (ps_ret (pe_and (pe_call GR hr1 rfl gR FR.kp bR .nil pass0 (pa_cons (pv 1) (pa_cons (pv 2) (pa_cons (pv 3) pa_nil))))
        (pe_one (pe_cmpR (op_eqD hr.units) (pe_tup (pa_cons (pe_fld (pe_make0 M GI hr rfl T.mgC bI .nil pass0) rfl) (pa_cons (pe_fld (pe_make0 M GI hr rfl T.mgC bI .nil pass0) rfl) pa_nil))) (pe_tup (pa_cons pe_int (pa_cons pe_int pa_nil))) (nomark _)))))))))), ?_⟩
    intro x0 d0 n0 m0 e0
    refine ⟨x0, d0, rfl, upd_same, fun H1 c0 k1 => ⟨rfl, ?_⟩⟩
    intro x1 d1 n1 m1 e1
    refine ⟨x1, d1, rfl, upd_same, fun H2 c1 k2 => ⟨rfl, ?_⟩⟩
    have s1 : Same H H1 := Same.made n0 m0 k1
    have s2 : Same H1 H2 := Same.made n1 m1 k2
    obtain ⟨g0, c0⟩ := c0
    obtain ⟨g1, c1⟩ := c1
    have a01 : x0 ≠ x1 := ne_of_none c0 n1
    refine ⟨by show 2 ≤ sizeLine; decide, fun lm hlm => ⟨by show 2 ≤ sizeLine; decide, fun lk hlk => ⟨by show 2 ≤ sizeLine; decide, fun lp hlp => ?_⟩⟩⟩
    have s3 := same_upd (o := .lst [.ref x0, .ref x1]) hlm
    have s4 := same_upd (o := .lst [.int 0, .int 0]) hlk
    have s5 := same_upd (o := .lst [.int 0, .int 0]) hlp
    have S0 : St2 C _ lm lk lp [x0, x1] [0, 0] [0, 0] := ⟨s5 _ _ (s4 _ _ upd_same), s5 _ _ upd_same, upd_same, rfl, rfl, rfl, nd2 a01, ne_of_none upd_same hlp, fun j m e => by
      match j, e with
      | 0, e => cases e; exact ⟨0, 0, rfl, rfl, g0, s5 _ _ (s4 _ _ (s3 _ _ (s2 _ _ c0)))⟩
      | 1, e => cases e; exact ⟨0, 0, rfl, rfl, g1, s5 _ _ (s4 _ _ (s3 _ _ c1))⟩
      | j + 2, e => simp at e⟩
    have s05 := (((s1.trans s2).trans s3).trans s4).trans s5
    refine ⟨_, rfl, _, rfl, _, rfl, lm, lk, lp, _, _, _, rfl, S0, fun H6 s6 => ⟨_, rfl, iteF ?_⟩⟩
    have s06 := s05.trans s6
    refine ⟨_, rfl, _, rfl, a, _, rfl, s06.seq hS, fun ls hls => ?_⟩
    have s7 := same_upd (o := .lst (cutV (ns.map V.int) none (some 60))) hls
    have ecut : ∃ zs : List Int, cutV (ns.map V.int) none (some 60) = zs.map V.int := ⟨_, by unfold cutV; rw [← List.map_drop, ← List.map_take]⟩
    obtain ⟨zs, ecut⟩ := ecut
    have hls0 : H ls = none := s06.free hls
    have hlm0 : H lm = none := (s1.trans s2).free hlm
    have hlk0 : H lk = none := ((s1.trans s2).trans s3).free hlk
    have hlp0 : H lp = none := (((s1.trans s2).trans s3).trans s4).free hlp
    have nls : ∀ (H' : Hp), True := fun _ => trivial
    refine ⟨ls, rfl, ⟨_, SqL.of upd_same⟩, for_list (K := K) (a := ls) (xs := zs.map V.int) (fun i σ H8 => ∃ (v4 v5 v6 : Option V) (as bs : List Int), σ = [some (.ref a), some (.ref lm), some (.ref lk), some (.ref lp), v4, v5, v6] ∧ H8 ls = some (.lst (zs.map V.int)) ∧ ls ≠ lk ∧ ls ≠ lp ∧ St2 C H8 lm lk lp [x0, x1] as bs)
      ⟨none, none, none, _, _, rfl, by rw [← ecut]; exact upd_same, (ne_of_none (s6 _ _ S0.hk) hls).symm, (ne_of_none (s6 _ _ S0.hp) hls).symm, (S0.same s6).same s7⟩ (fun i σ H8 _ ⟨_, _, _, _, _, _, q, _⟩ => SqL.of q) ?_ ?_⟩
    · rintro i y σ H8 hi ⟨v4, v5, v6, as, bs, rfl, hz, nk, np, S⟩
      obtain ⟨z, rfl⟩ : ∃ z, y = V.int z := by
        rw [List.getElem?_map] at hi
        cases e : zs[i]? with
        | none => rw [e] at hi; cases hi
        | some z => rw [e] at hi; exact ⟨z, (Option.some.inj hi).symm⟩
      -- k, many
      obtain ⟨j, ej, hj⟩ : ∃ j : Nat, z % 2 = (j : Int) ∧ j < 2 := ⟨(z % 2).toNat, by omega, by omega⟩
      obtain ⟨m, am, bm, MM, q1, q2, q3, w1, w2, w3⟩ := S.get hj
      have hmod : ∃ md : Int, atI [V.int 101, V.int (10 ^ (40 : Int).toNat)] (z / 404 % 2) = some (.int md) ∧ 0 < md := by
        have : z / 404 % 2 = 0 ∨ z / 404 % 2 = 1 := by omega
        rcases this with e | e
        · rw [e]; exact ⟨101, atI_nat (j := 0) rfl, by decide⟩
        · rw [e]; exact ⟨10 ^ (40 : Int).toNat, atI_nat (j := 1) rfl, by decide⟩
      obtain ⟨md, emd, pmd⟩ := hmod
      refine ⟨_, rfl, _, _, rfl, rfl, by show (0 : Int) < 2; decide, ?_⟩
      refine ⟨_, rfl, _, _, rfl, rfl, ⟨by decide, by decide⟩, _, _, rfl, rfl, ⟨by decide, by decide, by decide⟩, by show 2 ≤ sizeLine; decide, fun lq hlq => ?_⟩
      have s9 := same_upd (o := .lst [V.int 101, V.int (10 ^ (40 : Int).toNat)]) hlq
      have S9 := S.same s9
      have MM9 : MeterAt C _ m am bm := let ⟨d, h⟩ := MM; ⟨d, s9 _ _ h⟩
      refine ⟨_, rfl, _, _, rfl, rfl, ⟨by decide, by decide⟩, _, _, rfl, rfl, by show (0 : Int) < 2; decide, lq, _, _, _, rfl, rfl, SqL.of upd_same, emd, _, _, rfl, rfl, pmd, ?_⟩
      refine ⟨_, rfl, _, _, rfl, rfl, ⟨by decide, by decide⟩, _, _, rfl, rfl, by show (0 : Int) < 2; decide, rfl, _, rfl, ?_⟩
      obtain ⟨dm, hM⟩ := id MM9
      have nlk : lk ≠ m := ne_of S9.hk hM (by intro z; cases z)
      have nlp : lp ≠ m := ne_of S9.hp hM (by intro z; cases z)
      have nls : ls ≠ m := ne_of (s9 _ _ hz) hM (by intro z; cases z)
      have nlm : lm ≠ m := ne_of S9.hm hM (by intro z; cases z)
      have ia : ∀ l : List Int, l.length = 2 → ixN (l.map V.int).length (z % 2) = some j := fun l hl => by
        rw [List.length_map, hl, ej]; unfold ixN; rw [if_pos (by omega), if_pos (by omega)]; simp
      refine ite2 (fun _ => ?_) (fun _ => ?_)
      · -- keep
        refine ⟨_, rfl, _, rfl, lm, _, _, _, rfl, rfl, SqL.of S9.hm, at_of ej w1, m, dm, _, rfl, hM, rfl, _, rfl, m, am, bm, _, rfl, MM9, fun H10 M10 kp => ?_⟩
        refine ⟨rfl, _, rfl, iteF ?_⟩
        have hk10 := kp _ _ S9.hk nlk
        have hp10 := kp _ _ S9.hp nlp
        refine ⟨_, rfl, _, rfl, lk, _, _, _, rfl, rfl, SqL.of hk10, at_of ej w2, _, rfl, _, _, rfl, rfl, _, rfl, _, rfl, lk, _, _, j, rfl, rfl, hk10, ia _ S.la, ?_⟩
        rw [map_set V.int]
        have hp11 : ∀ o, upd H10 lk o lp = some (.lst (bs.map V.int)) := fun o => by rw [upd_ne S.ne.symm]; exact hp10
        have gj : (as.set j (am + z / 4 % md))[j]? = some (am + z / 4 % md) := List.getElem?_set_self (List.getElem?_eq_some_iff.mp q2).1
        refine ⟨_, rfl, _, rfl, lp, _, _, _, rfl, rfl, SqL.of (hp11 _), at_of ej w3, _, rfl, _, rfl, lk, _, _, _, rfl, rfl, SqL.of upd_same, at_of ej (by rw [List.getElem?_map, gj]; rfl), _, _, rfl, _, rfl, _, rfl, lp, _, _, j, rfl, rfl, hp11 _, ia _ S.lb, ?_⟩
        rw [map_set V.int]
        have emx : (if am + z / 4 % md > bm then am + z / 4 % md else bm) = max bm (am + z / 4 % md) := by
          rw [Int.max_def]; split <;> split <;> omega
        rw [emx]
        have S12 := S9.put q1 q2 q3 M10 kp (H2 := upd (upd H10 lk (.lst ((as.set j (am + z / 4 % md)).map V.int))) lp (.lst ((bs.set j (max bm (am + z / 4 % md))).map V.int))) (by rw [upd_ne S.ne, upd_same]) upd_same (fun c o e h1 h2 => by rw [upd_ne h2, upd_ne h1]; exact e)
        refine ⟨_, rfl, _, rfl, _, rfl, lm, lk, lp, _, _, _, rfl, S12, fun H13 s13 => ⟨_, rfl, iteF ?_⟩⟩
        exact ⟨_, _, _, _, _, rfl, s13 _ _ (by rw [upd_ne np, upd_ne nk]; exact kp _ _ (s9 _ _ hz) nls), nk, np, S12.same s13⟩
      · -- let_go
        refine ⟨_, rfl, _, rfl, _, rfl, lk, _, _, _, rfl, rfl, SqL.of S9.hk, at_of ej w2, _, _, rfl, ?_⟩
        refine ⟨_, rfl, _, rfl, lm, _, _, _, rfl, rfl, SqL.of S9.hm, at_of ej w1, m, dm, _, rfl, hM, rfl, _, rfl, m, am, bm, _, rfl, MM9, fun H10 M10 kp => ?_⟩
        refine ⟨rfl, _, rfl, iteF ?_⟩
        have hk10 := kp _ _ S9.hk nlk
        have hp10 := kp _ _ S9.hp nlp
        refine ⟨_, rfl, _, rfl, lk, _, _, _, rfl, rfl, SqL.of hk10, at_of ej w2, _, rfl, _, _, rfl, rfl, _, rfl, _, rfl, lk, _, _, j, rfl, rfl, hk10, ia _ S.la, ?_⟩
        rw [map_set V.int]
        have ebs : bs.set j bm = bs := by
          obtain ⟨h1, h2⟩ := List.getElem?_eq_some_iff.mp q3
          rw [← h2]; exact List.set_getElem_self h1
        have S12 := S9.put q1 q2 q3 M10 kp (H2 := upd H10 lk (.lst ((as.set j (am - (if am < z / 4 % md then am else z / 4 % md))).map V.int))) upd_same (by rw [upd_ne S.ne.symm, ebs]; exact hp10) (fun c o e h1 h2 => by rw [upd_ne h1]; exact e)
        refine ⟨_, rfl, _, rfl, _, rfl, lm, lk, lp, _, _, _, rfl, S12, fun H13 s13 => ⟨_, rfl, iteF ?_⟩⟩
        exact ⟨_, _, _, _, _, rfl, s13 _ _ (by rw [upd_ne nk]; exact kp _ _ (s9 _ _ hz) nls), nk, np, S12.same s13⟩
    · rintro σ H8 ⟨v4, v5, v6, as, bs, rfl, hz, nk, np, S⟩
      refine ⟨_, rfl, _, rfl, _, rfl, lm, lk, lp, _, _, _, rfl, S, fun H9 s9 => ⟨_, rfl, iteT ?_⟩⟩
      intro y0 f0 p0 r0 q0
      refine ⟨y0, f0, rfl, upd_same, fun H10 ⟨h0, t0⟩ k10 => ⟨rfl, y0, C, _, _, _, rfl, t0, T.cl, T.nK, rfl, ?_⟩⟩
      intro y1 f1 p1 r1 q1
      refine ⟨y1, f1, rfl, upd_same, fun H11 ⟨h1, t1⟩ k11 => ⟨rfl, y1, C, _, _, _, rfl, t1, T.cl, T.nP, rfl, ?_⟩⟩
      refine ⟨by show 2 ≤ sizeLine; decide, fun t ht => ⟨by show 2 ≤ sizeLine; decide, fun u hu => ?_⟩⟩
      have s12 := same_upd (o := .tup [.int 0, .int 0]) hu
      refine ⟨.tuple [.int 0, .int 0], .tuple [.int 0, .int 0], .tup (SqT.of (s12 _ _ upd_same)) (.cons (.int _) (.cons (.int _) .nil)), .tup (SqT.of upd_same) (.cons (.int _) (.cons (.int _) .nil)), rfl, rfl, ?_⟩
      rw [SeqAt.eqv_refl _ rfl]
      exact k _
end
theorem all_mk {l : PySem.W.OpenLaw} {w : World} {K : PySem.W.Frag} {h : Heap} {mg : Str → Option Value} {fa C f1 f2 f3 f4 f5 : Addr} (X : K.In h) (G : h.Ns mainGlobals mg) (hfa : mg "law" = some (.ref fa))
    {od1 an1 od2 an2 od3 an3 od4 an4 od5 an5 : Option Addr} {sl1 sl2 sl3 sl4 sl5 : Array (Option Value)} {oc1 kV1 dc1 pm1 cd1 ct1 oc2 kV2 dc2 pm2 cd2 ct2 oc3 kV3 dc3 pm3 cd3 ct3 oc4 kV4 dc4 pm4 cd4 ct4 oc5 kV5 dc5 pm5 cd5 ct5 : Value}
    (aC : PySem.W.nsIn K mainGlobals "Meter" = some (some (.ref C)))
    (a1 : PySem.W.findIn K (.ref C) "__init__" = some (some (.ref f1))) (i1 : PySem.W.isFn K (.ref f1) = true) (l1 : K.lookup f1 = some ⟨oc1, od1, .func (PySem.W.fnOf "__init__" "Meter.__init__" (defArgs sInit) (defBody sInit) (defScope sInit) .none kV1 dc1 pm1 an1 cd1 ct1), sl1⟩) (c1 : PySem.W.codeIn K cd1 "Meter.__init__" = true) (k1 : PySem.W.keepIn K (.ref f1) = true)
    (a2 : PySem.W.findIn K (.ref C) "keep" = some (some (.ref f2))) (i2 : PySem.W.isFn K (.ref f2) = true) (l2 : K.lookup f2 = some ⟨oc2, od2, .func (PySem.W.fnOf "keep" "Meter.keep" (defArgs sKeep) (defBody sKeep) (defScope sKeep) .none kV2 dc2 pm2 an2 cd2 ct2), sl2⟩) (c2 : PySem.W.codeIn K cd2 "Meter.keep" = true) (k2 : PySem.W.keepIn K (.ref f2) = true)
    (a3 : PySem.W.findIn K (.ref C) "let_go" = some (some (.ref f3))) (i3 : PySem.W.isFn K (.ref f3) = true) (l3 : K.lookup f3 = some ⟨oc3, od3, .func (PySem.W.fnOf "let_go" "Meter.let_go" (defArgs sLet) (defBody sLet) (defScope sLet) .none kV3 dc3 pm3 an3 cd3 ct3), sl3⟩) (c3 : PySem.W.codeIn K cd3 "Meter.let_go" = true) (k3 : PySem.W.keepIn K (.ref f3) = true)
    (a4 : PySem.W.nsIn K mainGlobals "_law_right" = some (some (.ref f4))) (l4 : K.lookup f4 = some ⟨oc4, od4, .func (PySem.W.fnOf "_law_right" "_law_right" (defArgs sRight) (defBody sRight) (defScope sRight) .none kV4 dc4 pm4 an4 cd4 ct4), sl4⟩) (c4 : PySem.W.codeIn K cd4 "_law_right" = true) (k4 : PySem.W.keepIn K (.ref f4) = true)
    (a5 : PySem.W.nsIn K mainGlobals "law" = some (some (.ref f5))) (l5 : K.lookup f5 = some ⟨oc5, od5, .func (PySem.W.fnOf "law" "law" (defArgs sLaw) (defBody sLaw) (defScope sLaw) .none kV5 dc5 pm5 an5 cd5 ct5), sl5⟩) (c5 : PySem.W.codeIn K cd5 "law" = true) (k5 : PySem.W.keepIn K (.ref f5) = true)
    (pg : PySem.W.plainGet K C Str.empty = true) (hd : PySem.W.hasDictIn K C = true) (po : PySem.W.plainOver K C = true) (sa : PySem.W.findIn K (.ref C) "__setattr__" = some (some (.builtin "object.__setattr__"))) (mk : PySem.W.makesIn K C = true) (kc : PySem.W.keepIn K (.ref C) = true)
    (nK : PySem.W.findIn K (.ref C) "kept" = some none) (nP : PySem.W.findIn K (.ref C) "peak" = some none)
    (z1 : PySem.W.nsIn K mainGlobals "max" = some none) (z2 : PySem.W.nsIn K mainGlobals "min" = some none) (z3 : PySem.W.nsIn K mainGlobals "range" = some none) (z4 : PySem.W.nsIn K mainGlobals "isinstance" = some none) (z5 : PySem.W.nsIn K mainGlobals "bool" = some none) :
    ∃ fd : FuncData, (∀ (s : Shared) (v : Value), BindsTo s fd ⟨[v], []⟩ [("_law_script", v)]) ∧ ∀ base : Heap, K.In base → base.Ns mainGlobals mg → FnOk l.prog w K mg base CX0 3 fa fd ["_law_script"] (spLaw K) := by
  have e := hfa.symm.trans (PySem.W.mg_of X G a5)
  cases e
  have T : Txt K mg C := ⟨⟨pg, hd, po, sa⟩, nK, nP, PySem.W.mg_of X G aC, PySem.W.mg_none_of X G z1, PySem.W.mg_none_of X G z2, PySem.W.mg_none_of X G z3, PySem.W.mg_none_of X G z4, PySem.W.mg_none_of X G z5⟩
  have F1 := fun_mk (st := sInit) l1 c1 k1
  have F2 := fun_mk (st := sKeep) l2 c2 k2
  have F3 := fun_mk (st := sLet) l3 c3 k3
  have F4 := fun_mk (st := sRight) l4 c4 k4
  have F5 := fun_mk (st := sLaw) l5 c5 k5
  have b1 := F1.binds (ps := ["self"]) fun _ _ _ _ _ _ us hl => match us, hl with | [_], _ => rfl
  have b2 := F2.binds (ps := ["self", "many"]) fun _ _ _ _ _ _ us hl => match us, hl with | [_, _], _ => rfl
  have b3 := F3.binds (ps := ["self", "many"]) fun _ _ _ _ _ _ us hl => match us, hl with | [_, _], _ => rfl
  have b4 := F4.binds (ps := ["_law_meters", "_law_kept", "_law_peaks"]) fun _ _ _ _ _ _ us hl => match us, hl with | [_, _, _], _ => rfl
  exact ⟨PySem.W.fnOf "law" "law" (defArgs sLaw) (defBody sLaw) (defScope sLaw) .none kV5 dc5 pm5 an5 cd5 ct5, fun s v => .of_eq rfl, fun base _ _ => ok_law F5 T ⟨mk, a1, i1, kc⟩ F1 b1 F2 b2 ⟨a2, i2, k2⟩ F3 b3 ⟨a3, i3, k3⟩ F4 b4 (PySem.W.mg_of X G a4)⟩
theorem walk {l : PySem.W.OpenLaw} {q : Program} {loose : List Str} {XP : (Str → Option Value) → Heap → Prop} {YP : World → Heap → Prop} {d : DefRec} {K : Params → PySem.W.Frag} (hn : l.most = some 63) (hdf : d.params.defaults = [])
    (hY : ∀ (w : World) (h : Heap), YP w h → (K w.params).In h)
    (F : ∀ (w : World) (mg : Str → Option Value) (fa : Addr) (h : Heap), (K w.params).In h → h.Ns mainGlobals mg → mg d.name = some (.ref fa) →
      ∃ fd : FuncData, (∀ (s : Shared) (u : Value), BindsTo s fd ⟨[u], []⟩ [("_law_script", u)]) ∧ ∀ base : Heap, (K w.params).In base → base.Ns mainGlobals mg → FnOk l.prog w (K w.params) mg base CX0 3 fa fd ["_law_script"] (spLaw (K w.params))) :
    PySem.W.WalkO q loose XP YP l.row.toRowW d [] (fun f vs => PySem.call f vs) :=
  L2.walk_of (n := 63) (k := 3) (x := "_law_script") (CX := fun _ => CX0) (sp := fun w => spLaw (K w.params)) hn (by decide) hdf ⟨rfl, by decide, by decide⟩ hY F (fun _ _ a ns hl _ hS => ⟨a, ns, rfl, hS, hl, fun _ => rfl⟩) fun _ _ _ _ _ z => z
end Toy
open PySem PySem.W PyProof.Rows
set_option maxRecDepth 100000 in
set_option maxHeartbeats 0 in
theorem PySem.Challenge.cw_planledger_k30_meters_holds : PySem.Challenge.rw_planledger_k30_meters.Holds := by
  w_on; o_law; k_head; (case hw => w_witness2)
  k_fill
  refine Toy.walk (l := PySem.Challenge.rw_planledger_k30_meters) rfl rfl (fun w h Y => PySem.W.kIn_of Y) ?F
  case F =>
    intro w mg fa h KX G hmg
    refine' Toy.all_mk KX G hmg ?aC ?a1 ?i1 ?l1 ?c1 ?k1 ?a2 ?i2 ?l2 ?c2 ?k2 ?a3 ?i3 ?l3 ?c3 ?k3 ?a4 ?l4 ?c4 ?k4 ?a5 ?l5 ?c5 ?k5 ?pg ?hd ?po ?sa ?mk ?kc ?nK ?nP ?z1 ?z2 ?z3 ?z4 ?z5
    (case aC => k_is)
    (case a1 => k_is); (case i1 => k_is); (case l1 => k_is); (case c1 => k_is); (case k1 => k_is)
    (case a2 => k_is); (case i2 => k_is); (case l2 => k_is); (case c2 => k_is); (case k2 => k_is)
    (case a3 => k_is); (case i3 => k_is); (case l3 => k_is); (case c3 => k_is); (case k3 => k_is)
    (case a4 => k_is); (case l4 => k_is); (case c4 => k_is); (case k4 => k_is)
    (case a5 => k_is); (case l5 => k_is); (case c5 => k_is); (case k5 => k_is)
    (case pg => k_is); (case hd => k_is); (case po => k_is); (case sa => k_is); (case mk => k_is); (case kc => k_is)
    (case nK => k_is); (case nP => k_is)
    (case z1 => k_is); (case z2 => k_is); (case z3 => k_is); (case z4 => k_is); (case z5 => k_is)
