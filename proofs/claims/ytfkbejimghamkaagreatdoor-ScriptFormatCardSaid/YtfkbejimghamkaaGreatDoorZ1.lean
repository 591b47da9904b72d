/- Plain Lean over any program, and walks of this seat's functions: contracts, each proved once (part 1). -/
import Derived.Test.YtfkbejimghamkaaGreatDoorZ0
import Derived.Laws.BytesArg
import Derived.Lib.LaidTab
import Derived.Shelf.Bytes.SlJoin
import Derived.Laws.StructEq
set_option maxRecDepth 1000000
set_option synthInstance.maxSize 1000000
set_option synthInstance.maxHeartbeats 10000000
set_option linter.unusedVariables false
set_option linter.unusedSimpArgs false
namespace Go.Ab
open Go.Fl Go.RowKit
open p6 (rep)
theorem b0f {b w:Bool} (h:¬b=w):b = !w:=by cases b<;>cases w<;>simp_all
def a9g (P:Program) (C:Ctx) (N:Nat) (σ0:u5) (accP:List (Nat×AV)) (F:List (Nat×AV)→j6→Prop):List (Nat×Oper×List (Nat×Nat))→List (Nat×AV)→j6→Prop
  | [],cacc,H=>F cacc H
  | (i,o,s)::rest,cacc,H =>
    match o.guard,o0 accP i with
    | none,none=>A9 P C N o (A5 σ0 (cacc++accP) s (y5 o)) H (fun r H'=>a9g P C N σ0 accP F rest ((i,r)::cacc) H')
    | none,some r0=>A9 P C N o (A5 σ0 (cacc++accP) s (y5 o)) H (fun r H'=>r=r0∧a9g P C N σ0 accP F rest ((i,r0)::cacc) H')
    | some (g, want), none => ∃ b, o0 accP g = some (.v b) ∧ (b = want → A9 P C N o (A5 σ0 (cacc ++ accP) s (y5 o)) H (fun r H' => a9g P C N σ0 accP F rest ((i, r) :: cacc) H')) ∧
        (b=(!want)→a9g P C N σ0 accP F rest ((i,.any)::cacc) H)
    | some (g, want), some r0 => ∃ b c, o0 accP g = some (.v b) ∧ r0 = .opt (b == want) c ∧ (b = want → A9 P C N o (A5 σ0 (cacc ++ accP) s (y5 o)) H (fun r H' => r = c ∧ a9g P C N σ0 accP F rest ((i, r0) :: cacc) H')) ∧
        (b=(!want)→a9g P C N σ0 accP F rest ((i,r0)::cacc) H)
def M1 (P:Program) (C:Ctx) (N:Nat) (σ0:u5) {ι:Type 1} (HT:ι→j6) (accP:List (Nat×AV)) (F:List (Nat×AV)→j6→Prop):List (Nat×Oper×List (Nat×Nat))→List (Nat×AV)→j6→Prop
  | [],cacc,H=>(∃ Hp,H=HT Hp)∧F cacc H
  | (i,o,s)::rest,cacc,H=>(∃ Hp,H=HT Hp) ∧
    match o.guard,o0 accP i with
    | none,none=>A9 P C N o (A5 σ0 (cacc++accP) s (y5 o)) H (fun r H'=>M1 P C N σ0 HT accP F rest ((i,r)::cacc) H')
    | none,some r0=>A9 P C N o (A5 σ0 (cacc++accP) s (y5 o)) H (fun r H'=>r=r0∧M1 P C N σ0 HT accP F rest ((i,r0)::cacc) H')
    | some (g, want), none => ∃ b, o0 accP g = some (.v b) ∧ (b = want → A9 P C N o (A5 σ0 (cacc ++ accP) s (y5 o)) H (fun r H' => M1 P C N σ0 HT accP F rest ((i, r) :: cacc) H')) ∧
        (b=(!want)→M1 P C N σ0 HT accP F rest ((i,.any)::cacc) H)
    | some (g, want), some r0 => ∃ b c, o0 accP g = some (.v b) ∧ r0 = .opt (b == want) c ∧ (b = want → A9 P C N o (A5 σ0 (cacc ++ accP) s (y5 o)) H (fun r H' => r = c ∧ M1 P C N σ0 HT accP F rest ((i, r0) :: cacc) H')) ∧
        (b=(!want)→M1 P C N σ0 HT accP F rest ((i,r0)::cacc) H)
theorem M1.tail {P:Program} {C:Ctx} {N:Nat} {σ0:u5} {ι:Type 1} {HT:ι→j6} {accP:List (Nat×AV)} {F:List (Nat×AV)→j6→Prop}:∀ {l:List (Nat×Oper×List (Nat×Nat))} {cacc:List (Nat×AV)} {H:j6},M1 P C N σ0 HT accP F l cacc H→∃ Hp,H=HT Hp
 | [],_,_,h=>h.1
 | _::_,_,_,h=>h.1
theorem A9.mono {P:Program} {C:Ctx} {N:Nat} {o:Oper} {σ:u5} {H:j6} {K K':AV→j6→Prop} (h:A9 P C N o σ H K) (hk:∀ r H',K r H'→K' r H'):A9 P C N o σ H K':=fun ρ I L hs a w ha hst =>
 (h ρ I L hs a w ha hst).mono fun v w' ⟨J,L',q1,q2,r,H',q3,q4,q5⟩=>⟨J,L',q1,q2,r,H',q3,q4,hk r H' q5⟩
def O1 (ops:Array Oper) (n:Nat) (ss:List (List (Nat×Nat))) (ci:List Nat):Bool :=
 (List.range ci.length).all (fun k=>match ci[k]? with
  | some i=>Nat.blt i n&&(match k with|0=>true|k'+1=>match ci[k']? with|some j=>Nat.blt j i&&Region.waitsFor .any ops i j|none=>false)
  | none=>false)
theorem x8 (a b:List (Nat×AV)) (j:Nat):o0 (a++b) j=(match o0 a j with|some r=>some r|none=>o0 b j):=by
 induction a with
 | nil=>rfl
 | cons p a ih =>
  simp only [List.cons_append,o0]
  cases Nat.beq p.1 j with
  | true=>rfl
  | false=>simpa using ih
theorem u4 (i:Nat) (r:AV) (a:List (Nat×AV)) (j:Nat):o0 ((i,r)::a) j=if i=j then some r else o0 a j:=by
 by_cases h:i=j
 ·subst h;simp [o0]
 ·simp [o0,h,a1W h]
theorem a9h {s:List (Nat×Nat)} {t j:Nat} (h:E9 s t=some j):(t,j)∈s:=by
 induction s with
 | nil=>simp [E9] at h
 | cons p s ih =>
  simp only [E9] at h
  cases hb:Nat.beq p.1 t with
  | true =>
   simp only [hb,cond_true,Option.some.injEq] at h
   have:=Nat.eq_of_beq_eq_true hb
   subst h;subst this;exact List.mem_cons_self
  | false=>simp only [hb,cond_false] at h;exact List.mem_cons_of_mem _ (ih h)
theorem a1l {σ0:u5} {a b:List (Nat×AV)} {s:List (Nat×Nat)} (h:∀ t j,E9 s t=some j→o0 a j=o0 b j):∀ ts,A5 σ0 a s ts=A5 σ0 b s ts
 | []=>rfl
 | t::ts=>by
  simp only [A5]
  cases hs:E9 s t with
  | none=>simp only [a1l h ts]
  | some j=>simp only [h t j hs,a1l h ts]
theorem U9 {σ0:u5} {acc:List (Nat×AV)} {s:List (Nat×Nat)}:∀ {ts:List Nat} {t:Nat} {a:AV},C9 (A5 σ0 acc s ts) t=some a→t∈ts∧(match E9 s t with|none=>C9 σ0 t|some j=>o0 acc j)=some a
 | [],t,a,h=>by simp [A5,C9] at h
 | u::ts,t,a,h=>by
  simp only [A5] at h
  split at h
  ·rename_i b hb
   rw [F7] at h
   by_cases e:u=t
   ·subst e;simp at h;subst h;exact⟨List.mem_cons_self,hb⟩
   ·rw [if_neg e] at h
    have:=U9 h
    exact⟨List.mem_cons_of_mem _ this.1,this.2⟩
  ·have:=U9 h
   exact⟨List.mem_cons_of_mem _ this.1,this.2⟩
theorem a1B {σ0:u5} {acc:List (Nat×AV)} {s:List (Nat×Nat)} {t:Nat} {a:AV} (h:(match E9 s t with|none=>C9 σ0 t|some j=>o0 acc j)=some a):∀ {ts:List Nat},t∈ts→C9 (A5 σ0 acc s ts) t=some a
 | [],hm=>by cases hm
 | u::ts,hm=>by
  by_cases e:u=t
  ·subst e
   cases hs:E9 s u with
   | none=>simp only [hs] at h;simp only [A5,hs,h];rw [F7,if_pos rfl]
   | some j=>simp only [hs] at h;simp only [A5,hs,h];rw [F7,if_pos rfl]
  ·have hm':t∈ts:=by
    rcases List.mem_cons.1 hm with h1|h1
    ·exact absurd h1.symm e
    ·exact h1
   simp only [A5]
   split
   ·rw [F7,if_neg e];exact a1B h hm'
   ·exact a1B h hm'
def T4 (ops:Array Oper) (n:Nat) (ss:List (List (Nat×Nat))) (i:Nat):Bool :=
 match ops[i]?,ss[i]? with
 | some o,some s=>(y5 o).all (S7 ops n i s) &&
  (match o.guard with|none=>true|some (g,_)=>Nat.blt g n&&Region.waitsFor .any ops i g&&((ops[g]?).bind (·.dst)).isSome)
 | _,_=>false
def a2o (ops:Array Oper) (n:Nat):Bool:=(List.range n).all fun i=>(List.range i).all fun j=>match (ops[i]?).bind (·.dst) with|some d => !((ops[j]?).bind (·.dst) == some d)|none=>true
def W7 (ops:Array Oper) (n:Nat) (ss:List (List (Nat×Nat))):Bool :=
 Nat.ble n ops.size&&X6 ops&&(List.range n).all (T4 ops n ss)&&a2o ops n &&
 (n == ops.size||(Region.sinkB .any ops n&&Region.chainB .any ops n))&&Region.seqB .any ops (ops.size - n) n (J7 ops.size n)
theorem put_defers (a:Act) (d:Option Nat) (v:Value):(a.put d v).defers=a.defers:=by cases d<;>rfl
theorem a6y (a:Act) (d:Option Nat) (v:Value):(a.put d v).tmps.size=a.tmps.size:=by cases d<;>simp [Act.put]
theorem a5O (a:Act) {d:Option Nat} {t:Nat} (v:Value) (h:d≠some t):(a.put d v).tmps[t]?=a.tmps[t]?:=by
 cases d with
 | none=>rfl
 | some d=>simp [Act.put,Array.getElem?_setIfInBounds_ne (show d≠t from fun e=>h (by rw [e]))]
theorem put_eq (a:Act) {d:Nat} (v:Value) (h:d < a.tmps.size):(a.put (some d) v).tmps[d]?=some v:=by simp [Act.put,h]
def Z4 (P:Program) (N:Nat) (C:Ctx) (σ0:u5) {ι:Type 1} (HT:ι→j6) (accP:List (Nat×AV)) (o:Oper) (s:List (Nat×Nat)) (r:AV):Prop:=∀ Hp,a1P P N C σ0 (HT Hp) accP o s r
structure a9i (P : Program) (C : Ctx) (N n : Nat) (l : List Oper) (ci : List Nat) (cl : List (Nat × Oper × List (Nat × Nat))) (σ0 : u5) {ι : Type 1} (HT : ι → j6) (accP : List (Nat × AV)) (F : List (Nat × AV) → j6 → Prop) (ρ0 : Env) (I : Im)
    (listed:Array Bool) (k:Nat) (cacc:List (Nat×AV)) (H:j6) (J:Im) (L:Lh) (vs:Nat→Value) (a:Act) (w:World):Prop where
  head:HeadInv .any l.toArray n listed
  le:Le I J
  U0:Le C.I0 J
  st:St C J L w
  heap:P2 C.w0.heap.size J H L
  kle:k≤ci.length
  ch:∀ m i,ci[m]?=some i→(listed.getD i false=true↔m < k)
  pl:M1 P C N σ0 HT accP F (cl.drop k) cacc H
  keys:∀ j r,o0 cacc j=some r→j∈ci
  prom:∀ j r r0,o0 cacc j=some r→o0 accP j=some r0→r=r0
  b0g:∀ j,j∈ci→listed.getD j false=true→∃ r,o0 cacc j=some r
  val:∀ j,j < n→listed.getD j false=true→∃ r,o0 (cacc++accP) j=some r∧D2 J r (vs j)
  defers:a.defers = []
  size:a.tmps.size=N
  a2k:∀ j d,j < n→listed.getD j false=true→(l.toArray[j]?).bind (·.dst)=some d→a.tmps[d]?=some (vs j)
  a3W:∀ t v,Fl.look ρ0 t=some v→(∀ j,j < n→listed.getD j false=true→(l.toArray[j]?).bind (·.dst)≠some t)→a.tmps[t]?=some v
section
variable {P:Program} {C:Ctx} {N n:Nat} {l:List Oper} {ci:List Nat} {cl:List (Nat×Oper×List (Nat×Nat))} {ss:List (List (Nat×Nat))} {σ0:u5} {ι:Type 1} {HT:ι→j6} {accP:List (Nat×AV)} {F:List (Nat×AV)→j6→Prop} {ρ0:Env} {I:Im} {L0:Lh} {H0:j6}
theorem a9i.step {listed : Array Bool} {k : Nat} {cacc : List (Nat × AV)} {H : j6} {J : Im} {L : Lh} {vs : Nat → Value} {a : Act} {w : World} {Q' : Exit → Act → World → Prop}
    (h0:S5 C I L0 σ0 H0 ρ0) (hN:H7 N l=true) (hok:∀ i,i < n→T4 l.toArray n ss i=true) (hdst:a2o l.toArray n=true) (hch:O1 l.toArray n ss ci=true)
    (hcl:∀ (m i:Nat) (o:Oper) (s:List (Nat×Nat)),ci[m]?=some i→l[i]?=some o→ss[i]?=some s→cl[m]?=some (i,o,s)) (hnd:ci.Nodup)
    (hp:∀ i o s,i < n→i∉ci→l[i]?=some o→ss[i]?=some s→∃ r,o0 accP i=some r∧Z4 P N C σ0 HT accP o s r)
    (inv:a9i P C N n l ci cl σ0 HT accP F ρ0 I listed k cacc H J L vs a w) {i:Nat} (hr:i∈Region.ready .any l.toArray listed) (hin:i < n)
    {K:Act→World→Prop} (hK:∀ k cacc H J L vs a' w,a9i P C N n l ci cl σ0 HT accP F ρ0 I (listed.setIfInBounds i true) k cacc H J L vs a' w→K a' w) :
    wpOpIn C.fen 0 P l.toArray Q' i K a w:=by
  obtain⟨hun,o,ho,hall⟩:=mem_ready.1 hr
  have hol:l[i]?=some o:=by simpa using ho
  have hok':=hok i hin
  unfold T4 at hok'
  simp only [ho] at hok'
  cases hs:ss[i]? with
  | none=>simp [hs] at hok'
  | some s =>
  simp only [hs,Bool.and_eq_true] at hok'
  obtain⟨hreads,hguard⟩:=hok'
  have hdN:∀ d,o.dst=some d→d < N:=fun d hod=>by
    have:=List.all_eq_true.1 hN o (List.mem_of_getElem? hol)
    rw [hod] at this
    simpa [Nat.blt_eq] using this
  have hlisted:∀ j,Region.waitsFor .any l.toArray i j=true→listed.getD j false=true:=fun j hw=>by
    obtain⟨e,he,hb,heq⟩:=R4 ho hw
    exact heq▸hall e he hb
  have hilt:i < listed.size:=by
    rcases Nat.lt_or_ge i listed.size with h'|h'
    · exact h'
    · simp [Array.getElem?_eq_none h'] at hun
  have hiun:listed.getD i false=false:=getD_both hun
  have hnot:∀ j,Region.waitsFor .any l.toArray j i=true→listed.getD j false=true→False:=fun j hw hl=>by
    obtain⟨oj,hoj,e,he,hb,heq⟩:=Region.waitsFor_spec hw
    have:=inv.head.closed j oj hoj hl e he hb
    rw [heq,hiun] at this
    cases this
  have hch1:=hch
  unfold O1 at hch1
  let g:Nat→Option Value:=fun t=>match E9 s t with|some j=>some (vs j)|none=>Fl.look ρ0 t
  have hsrcl:∀ t∈y5 o,∀ j,E9 s t=some j→j < n∧listed.getD j false=true∧(l.toArray[j]?).bind (·.dst)=some t:=fun t ht j hj=>by
    have hro:=List.all_eq_true.1 hreads t ht
    unfold S7 at hro
    simp only [hj,Bool.and_eq_true,beq_iff_eq] at hro
    exact⟨by simpa [Nat.blt_eq] using hro.1.1,hlisted j hro.2,hro.1.2⟩
  have hfits:Fits N (S8 g (y5 o)) a:=by
    refine⟨inv.defers,inv.size,fun t v hv => ?_⟩
    obtain⟨hmem,hg⟩:=U6 hv
    cases hsrc:E9 s t with
    | some j =>
      obtain⟨h1,h2,h3⟩:=hsrcl t hmem j hsrc
      have hgv:vs j=v:=by simpa [g,hsrc] using hg
      rw [←hgv]
      exact inv.a2k j t h1 h2 h3
    | none =>
      have hro:=List.all_eq_true.1 hreads t hmem
      unfold S7 at hro
      simp only [hsrc] at hro
      refine inv.a3W t v (by simpa [g,hsrc] using hg) fun j hj hl hdj => ?_
      have h1:=List.all_eq_true.1 hro j (List.mem_range.2 hj)
      simp only [hdj,beq_self_eq_true,Bool.not_true,Bool.false_or,Bool.or_eq_true,beq_iff_eq] at h1
      rcases h1 with h1|h1
      · subst h1;rw [hiun] at hl;cases hl
      · exact hnot j h1 hl
  have henv:∀ t b,C9 (A5 σ0 (cacc++accP) s (y5 o)) t=some b→∃ u,Fl.look (S8 g (y5 o)) t=some u∧D2 J b u:=fun t b hb=>by
    obtain⟨hmem,hb2⟩:=U9 hb
    cases hsrc:E9 s t with
    | some j =>
      simp only [hsrc] at hb2
      obtain⟨h1,h2,_⟩:=hsrcl t hmem j hsrc
      obtain⟨r,h3,h4⟩:=inv.val j h1 h2
      rw [hb2] at h3
      cases h3
      exact⟨vs j,by rw [H3 hmem];simp [g,hsrc],h4⟩
    | none =>
      simp only [hsrc] at hb2
      obtain⟨u,h1,h2⟩:=h0.env t b hb2
      exact⟨u,by rw [H3 hmem];simpa [g,hsrc] using h1,h2.mono inv.le⟩
  have hR:S5 C J L (A5 σ0 (cacc++accP) s (y5 o)) H (S8 g (y5 o)):=⟨henv,inv.heap,inv.U0⟩
  have hput:∀ j,j≠i→(listed.setIfInBounds i true).getD j false=listed.getD j false:=fun j hj=>getD_set_ne false (Ne.symm hj)
  have hdne:∀ j,j < n→j≠i→∀ d',(l.toArray[j]?).bind (·.dst)=some d'→o.dst≠some d':=by
    intro j hj hji d' hd' hod
    have hdi:(l.toArray[i]?).bind (·.dst)=some d':=by rw [ho];exact hod
    rcases Nat.lt_or_gt_of_ne hji with h1|h1
    · have:=List.all_eq_true.1 (List.all_eq_true.1 hdst i (List.mem_range.2 hin)) j (List.mem_range.2 h1)
      rw [hdi,hd'] at this
      simp at this
    · have:=List.all_eq_true.1 (List.all_eq_true.1 hdst j (List.mem_range.2 hj)) i (List.mem_range.2 h1)
      rw [hdi,hd'] at this
      simp at this
  -- what a finished operation does
  have fin : ∀ v J' L' H' k' cacc' w' r, Le J J' → St C J' L' w' → P2 C.w0.heap.size J' H' L' → D2 J' r v → o0 (cacc' ++ accP) i = some r → (∀ j, j ≠ i → o0 (cacc' ++ accP) j = o0 (cacc ++ accP) j) → k' ≤ ci.length →
      (∀ m i',ci[m]?=some i'→((listed.setIfInBounds i true).getD i' false=true↔m < k'))→M1 P C N σ0 HT accP F (cl.drop k') cacc' H'→(∀ j r,o0 cacc' j=some r→j∈ci)→(∀ j r r0,o0 cacc' j=some r→o0 accP j=some r0→r=r0)→(∀ j,j∈ci→(listed.setIfInBounds i true).getD j false=true→∃ r,o0 cacc' j=some r)→K (a.put o.dst v) w':=by
    intro v J' L' H' k' cacc' w' r hle hst hH hv hri hrj hk' hch' hpl hkeys hprom hproL
    refine hK k' cacc' H' J' L' (fun j=>if j=i then v else vs j) _ _ ⟨inv.head.set hr hin,inv.le.trans hle,inv.U0.trans hle,hst,hH,hk',hch',hpl,hkeys,hprom,hproL,fun j hj hl => ?_,?_,?_,fun j d' hj hl hd' => ?_,fun t u hu hno => ?_⟩
    · by_cases hji:j=i
      · subst hji
        exact⟨r,hri,by simpa using hv⟩
      · rw [hput j hji] at hl
        obtain⟨q,h1,h2⟩:=inv.val j hj hl
        exact⟨q,(hrj j hji).trans h1,by simpa [hji] using h2.mono hle⟩
    · rw [put_defers];exact inv.defers
    · rw [a6y];exact inv.size
    · by_cases hji:j=i
      · subst hji
        have hod:o.dst=some d':=by rw [ho] at hd';exact hd'
        rw [hod,put_eq _ _ (by rw [inv.size];exact hdN d' hod),if_pos rfl]
      · rw [hput j hji] at hl
        rw [a5O _ _ (hdne j hj hji d' hd'),if_neg hji]
        exact inv.a2k j d' hj hl hd'
    · rw [a5O _ _ (fun hod=>hno i hin (C8 hilt) (by rw [ho];exact hod))]
      refine inv.a3W t u hu fun j hj hl=>hno j hj ?_
      by_cases hji:j=i
      · subst hji;rw [hiun] at hl;cases hl
      · rw [hput j hji];exact hl
  -- the guard
  have hgrd:∀ gi want,o.guard=some (gi,want)→∀ b,o0 accP gi=some (.v b)→yielded l.toArray a.tmps gi=some b:=fun gi want hg b hb=>by
    rw [hg] at hguard
    simp only [Bool.and_eq_true] at hguard
    have hgn:gi < n:=by simpa [Nat.blt_eq] using hguard.1.1
    have hgl:=hlisted gi hguard.1.2
    obtain⟨r,h1,h2⟩:=inv.val gi hgn hgl
    have hr2:r = .v b:=by
      rw [x8] at h1
      cases hc:o0 cacc gi with
      | some q =>
        rw [hc] at h1
        cases h1
        exact inv.prom gi _ _ hc hb
      | none =>
        rw [hc] at h1
        simp only at h1
        rw [hb] at h1
        exact(Option.some.inj h1).symm
    subst hr2
    obtain⟨cs,rfl,hvs⟩:=h2
    obtain⟨dg,hdg0⟩:=Option.isSome_iff_exists.1 hguard.2
    obtain⟨og,hog,hdg⟩:=Option.bind_eq_some_iff.1 hdg0
    have htg:=inv.a2k gi dg hgn hgl (by rw [hog];exact hdg)
    rw [hvs] at htg
    unfold yielded
    rw [hog]
    simp only [Option.bind_some,hdg,htg]
    rfl
  unfold wpOpIn
  simp only [ho]
  by_cases hic:i∈ci
  · obtain⟨m,hm⟩:=List.mem_iff_getElem?.1 hic
    have hmk:¬m < k:=fun h=>by
      have:=(inv.ch m i hm).2 h
      rw [hiun] at this;cases this
    have hml:m < ci.length:=(List.getElem?_eq_some_iff.1 hm).1
    have hkm:m≤k:=by
      cases m with
      | zero=>omega
      | succ mj =>
        have h1:=List.all_eq_true.1 hch1 (mj+1) (List.mem_range.2 hml)
        simp only [hm,Bool.and_eq_true] at h1
        cases hj:ci[mj]? with
        | none=>simp [hj] at h1
        | some j =>
          simp only [hj,Bool.and_eq_true] at h1
          have:=(inv.ch mj j hj).1 (hlisted j h1.2.2)
          omega
    have hmk':m=k:=by omega
    subst hmk'
    have hc:=hcl m i o s hm hol hs
    have hdrop:cl.drop m=(i,o,s)::cl.drop (m+1):=by
      have hlt:=(List.getElem?_eq_some_iff.1 hc).1
      rw [List.drop_eq_getElem_cons hlt]
      congr 1
      rw [List.getElem?_eq_getElem hlt] at hc
      exact Option.some.inj hc
    have hpl:=inv.pl
    rw [hdrop,M1] at hpl
    replace hpl:=hpl.2
    have hch':∀ mj i',ci[mj]?=some i'→((listed.setIfInBounds i true).getD i' false=true↔mj < m+1):=fun mj i' hm'=>by
      by_cases e:i'=i
      · subst e
        have hlj:=(List.getElem?_eq_some_iff.1 hm').1
        have heq:ci[mj]'hlj=ci[m]'hml:=by rw [(List.getElem?_eq_some_iff.1 hm').2,(List.getElem?_eq_some_iff.1 hm).2]
        have:mj=m:=by
          rcases Nat.lt_trichotomy mj m with h|h|h
          · exact absurd heq ((List.pairwise_iff_getElem.1 hnd) mj m hlj hml h)
          · exact h
          · exact absurd heq.symm ((List.pairwise_iff_getElem.1 hnd) m mj hml hlj h)
        exact⟨fun _=>by omega,fun _=>C8 hilt⟩
      · rw [hput i' e,inv.ch mj i' hm']
        have:mj≠m:=by
          rintro rfl
          rw [hm] at hm';exact e (Option.some.inj hm').symm
        omega
    have hkeys:∀ r,∀ j q,o0 ((i,r)::cacc) j=some q→j∈ci:=fun r j q hq=>by
      rw [u4] at hq
      by_cases e:i=j
      · subst e;exact hic
      · rw [if_neg e] at hq;exact inv.keys j q hq
    have hself:∀ r,o0 ((i,r)::cacc++accP) i=some r:=fun r=>by rw [List.cons_append,u4,if_pos rfl]
    have hoth:∀ r j,j≠i→o0 ((i,r)::cacc++accP) j=o0 (cacc++accP) j:=fun r j hj=>by rw [List.cons_append,u4,if_neg (Ne.symm hj)]
    have hprom:∀ r,(∀ r0,o0 accP i=some r0→r=r0)→∀ j q r0,o0 ((i,r)::cacc) j=some q→o0 accP j=some r0→q=r0:=fun r hr0 j q r0 hq h0=>by
      rw [u4] at hq
      by_cases e:i=j
      · subst e;rw [if_pos rfl] at hq;cases hq;exact hr0 r0 h0
      · rw [if_neg e] at hq;exact inv.prom j q r0 hq h0
    have hproL:∀ r,∀ j,j∈ci→(listed.setIfInBounds i true).getD j false=true→∃ q,o0 ((i,r)::cacc) j=some q:=fun r j hj hl=>by
      by_cases e:i=j
      · subst e;exact⟨r,by rw [u4,if_pos rfl]⟩
      · rw [hput j (Ne.symm e)] at hl
        obtain⟨q,hq⟩:=inv.b0g j hj hl
        exact⟨q,by rw [u4,if_neg e];exact hq⟩
    have run : ∀ (R : AV → AV), (∀ r r0, o0 accP i = some r0 → R r = r0) → ∀ Z : AV → Prop, (∀ r, Z r → ∀ J' u, D2 J' r u → D2 J' (R r) u) →
        A9 P C N o (A5 σ0 (cacc++accP) s (y5 o)) H (fun r H'=>Z r∧M1 P C N σ0 HT accP F (cl.drop (m+1)) ((i,R r)::cacc) H')→o.wpIn C.fen 0 P a w K Q':=fun R hR0 Z hZ h=>by
      refine Yld.wp ((h _ J L hR a w hfits inv.st).mono ?_)
      rintro v w' ⟨J',L',hst,hle,r,H',h1,h2,h3,h4⟩
      exact fin v J' L' H' (m+1) ((i,R r)::cacc) w' (R r) hle hst h2 (hZ r h3 _ _ h1) (hself _) (hoth _) (by omega) hch' h4 (hkeys _) (hprom _ (hR0 r)) (hproL _)
    have skipd:∀ b want r,o.guard.isSome=true→(∀ r0,o0 accP i=some r0→r=r0)→D2 J r undef→M1 P C N σ0 HT accP F (cl.drop (m+1)) ((i,r)::cacc) H→(b:Bool) = !want→K (a.put o.dst undef) w:=fun b want r _ hr0 hu hp _ =>
      fin undef J L H (m+1) ((i,r)::cacc) w r (Le.refl J) inv.st inv.heap hu (hself r) (hoth r) (by omega) hch' hp (hkeys r) (hprom r hr0) (hproL r)
    cases hg:o.guard with
    | none =>
      rw [if_pos (by simp [Region.wanted,hg])]
      cases hpr:o0 accP i with
      | none =>
        rw [hg,hpr] at hpl
        exact run (fun r=>r) (fun r r0 h=>by rw [hpr] at h;cases h) (fun _=>True) (fun _ _ _ _ h=>h) (by
          intro ρ' I' L' hs' a' w' ha' hst'
          exact Yld.mono (hpl ρ' I' L' hs' a' w' ha' hst') (fun v w'' ⟨J',L'',q1,q2,r,H',q3,q4,q5⟩=>⟨J',L'',q1,q2,r,H',q3,q4,trivial,q5⟩))
      | some r0 =>
        rw [hg,hpr] at hpl
        exact run (fun _=>r0) (fun r q h=>by rw [hpr] at h;exact Option.some.inj h) (fun r=>r=r0) (fun r hr _ _ h=>hr▸h) hpl
    | some gw =>
      obtain⟨gi,want⟩:=gw
      cases hpr:o0 accP i with
      | none =>
        rw [hg,hpr] at hpl
        obtain⟨b,hb,h1,h2⟩:=hpl
        have hy:=hgrd gi want hg b hb
        by_cases hbw:b=want
        · rw [if_pos (by simp [Region.wanted,hg,hy,hbw])]
          exact run (fun r=>r) (fun r r0 h=>by rw [hpr] at h;cases h) (fun _=>True) (fun _ _ _ _ h=>h) (by
            intro ρ' I' L' hs' a' w' ha' hst'
            exact Yld.mono (h1 hbw ρ' I' L' hs' a' w' ha' hst') (fun v w'' ⟨J',L'',q1,q2,r,H',q3,q4,q5⟩=>⟨J',L'',q1,q2,r,H',q3,q4,trivial,q5⟩))
        · have hwf:¬Region.wanted o (yielded l.toArray a.tmps)=true:=by simpa [Region.wanted,hg,hy] using hbw
          rw [if_neg hwf]
          refine⟨fun _ _=>trivial,?_⟩
          have hbn:b = !want:=b0f hbw
          exact skipd b want .any (by simp [hg]) (fun r0 h=>by rw [hpr] at h;cases h) trivial (h2 hbn) hbn
      | some r0 =>
        rw [hg,hpr] at hpl
        obtain⟨b,c,hb,rfl,h1,h2⟩:=hpl
        have hy:=hgrd gi want hg b hb
        by_cases hbw:b=want
        · rw [if_pos (by simp [Region.wanted,hg,hy,hbw])]
          exact run (fun _ => .opt (b == want) c) (fun r q h=>by rw [hpr] at h;exact Option.some.inj h) (fun r=>r=c) (fun r hr J' u h _=>hr▸h) (h1 hbw)
        · have hwf:¬Region.wanted o (yielded l.toArray a.tmps)=true:=by simpa [Region.wanted,hg,hy] using hbw
          rw [if_neg hwf]
          refine⟨fun _ _=>trivial,?_⟩
          have hbn:b = !want:=b0f hbw
          exact skipd b want (.opt (b == want) c) (by simp [hg]) (fun q h=>by rw [hpr] at h;exact Option.some.inj h) (fun hc=>absurd (by simpa using hc) hbw) (h2 hbn) hbn
  · obtain⟨r,hri,hd⟩:=hp i o s hin hic hol hs
    have hcn:∀ j,j∉ci→o0 cacc j=none:=fun j hj=>by
      cases hc:o0 cacc j with
      | none=>rfl
      | some q=>exact absurd (inv.keys j q hc) hj
    have hself:o0 (cacc++accP) i=some r:=by rw [x8,hcn i hic];exact hri
    have hRq:S5 C J L (A5 σ0 accP s (y5 o)) H (S8 g (y5 o)):=hR.sub fun t b hb=>by
      obtain⟨hmem,hb2⟩:=U9 hb
      refine a1B ?_ hmem
      cases hsrc:E9 s t with
      | none=>simp only [hsrc] at hb2 ⊢;exact hb2
      | some j =>
        simp only [hsrc] at hb2 ⊢
        rw [x8]
        cases hc:o0 cacc j with
        | none=>exact hb2
        | some q=>exact congrArg some (inv.prom j q b hc hb2)
    have hproL:∀ j,j∈ci→(listed.setIfInBounds i true).getD j false=true→∃ q,o0 cacc j=some q:=fun j hj hl=>by
      have:j≠i:=by rintro rfl;exact hic hj
      rw [hput j this] at hl;exact inv.b0g j hj hl
    have hch':∀ mj i',ci[mj]?=some i'→((listed.setIfInBounds i true).getD i' false=true↔mj < k):=fun mj i' hm'=>by
      have:i'≠i:=by rintro rfl;exact hic (List.mem_of_getElem? hm')
      rw [hput i' this];exact inv.ch mj i' hm'
    obtain⟨Hp,hHp⟩:=inv.pl.tail
    have hdH:=hd Hp
    rw [←hHp] at hdH
    unfold a1P at hdH
    have run:∀ (c:AV),j7 P N C o (A5 σ0 accP s (y5 o)) H (fun r'=>r'=c)→(∀ J' u,D2 J' c u→D2 J' r u)→o.wpIn C.fen 0 P a w K Q':=fun c h hcr=>by
      refine Yld.wp ((h _ J L hRq a w hfits inv.st.mem).mono ?_)
      rintro v w' ⟨J',X,hc,hle,hn,hm,hX,rfl,r',h1,rfl⟩
      have hst:=(inv.st.step hc hle hn hm hX)
      rw [List.nil_append] at hst
      exact fin v J' L H k cacc w' r hle hst (inv.heap.mono hle) (hcr _ _ h1) hself (fun j hj=>rfl) inv.kle hch' inv.pl inv.keys inv.prom hproL
    cases hg:o.guard with
    | none =>
      rw [hg] at hdH
      rw [if_pos (by simp [Region.wanted,hg])]
      exact run r hdH (fun _ _ h=>h)
    | some gw =>
      obtain⟨gi,want⟩:=gw
      rw [hg] at hdH
      obtain⟨b,c,hb,rfl,h2⟩:=hdH
      have hy:=hgrd gi want hg b hb
      by_cases hbw:b=want
      · rw [if_pos (by simp [Region.wanted,hg,hy,hbw])]
        exact run c (h2 hbw) (fun _ _ h _=>h)
      · have hwf:¬Region.wanted o (yielded l.toArray a.tmps)=true:=by simpa [Region.wanted,hg,hy] using hbw
        rw [if_neg hwf]
        refine⟨fun _ _=>trivial,?_⟩
        exact fin undef J L H k cacc w (.opt (b == want) c) (Le.refl J) inv.st inv.heap (fun hc=>absurd (by simpa using hc) hbw) hself (fun j hj=>rfl) inv.kle hch' inv.pl inv.keys inv.prom hproL
theorem a8B {Q' : Exit → Act → World → Prop} (h0 : S5 C I L0 σ0 H0 ρ0) (hN : H7 N l = true) (hback : X6 l.toArray = true) (hok : ∀ i, i < n → T4 l.toArray n ss i = true) (hdst : a2o l.toArray n = true) (hch : O1 l.toArray n ss ci = true)
    (hcl:∀ (m i:Nat) (o:Oper) (s:List (Nat×Nat)),ci[m]?=some i→l[i]?=some o→ss[i]?=some s→cl[m]?=some (i,o,s)) (hnd:ci.Nodup)
    (hp:∀ i o s,i < n→i∉ci→l[i]?=some o→ss[i]?=some s→∃ r,o0 accP i=some r∧Z4 P N C σ0 HT accP o s r)
    (hle:n≤l.length) (htail:n=l.length∨(Region.sinkB .any l.toArray n=true∧Region.chainB .any l.toArray n=true)) (hseq:Region.seqB .any l.toArray (l.length - n) n (J7 l.length n)=true)
    (hfin:∀ listed k cacc H J L vs a w,a9i P C N n l ci cl σ0 HT accP F ρ0 I listed k cacc H J L vs a w→(∀ j,j < n→listed.getD j false=true)→wpListIn C.fen 0 P l.toArray Q' (l.drop n) a w) :
    ∀ (m:Nat) (listed:Array Bool) k cacc H J L vs a w,a9i P C N n l ci cl σ0 HT accP F ρ0 I listed k cacc H J L vs a w→unl listed n=m→wpAnyIn C.fen 0 P .any l.toArray Q' (m+(l.length - n)) listed a w
  | 0,listed,k,cacc,H,J,L,vs,a,w,inv,hm=>by
    have hsz:listed.size=l.length:=by simpa using inv.head.size
    have hall:∀ j,j < n→listed.getD j false=true:=fun j hj=>a1Y (by omega) (a0y hm j hj)
    have heq:listed=J7 l.length n:=by
      refine Array.ext (by simp [J7,hsz]) fun j h1 h2 => ?_
      have e1:(J7 l.length n)[j]'h2=Nat.blt j n:=by simp [J7]
      rw [e1]
      by_cases hj:j < n
      · have:=hall j hj
        simp [h1] at this
        rw [this]
        exact(Nat.blt_eq▸hj:Nat.blt j n=true).symm
      · have:=inv.head.tail j (by omega) (by simp;omega)
        simp [h1] at this
        rw [this]
        cases hb:Nat.blt j n
        · rfl
        · exact absurd (Nat.blt_eq▸hb:j < n) hj
    have hw:=hfin listed k cacc H J L vs a w inv hall
    have h2:=T0 (md := .any) (Q':=Q') (l.drop n) n listed a w (fun j=>by simp [List.getElem?_drop]) (by rw [heq];simpa using hseq) hw
    simpa using h2
  | m+1,listed,k,cacc,H,J,L,vs,a,w,inv,hm=>by
    have hsz:listed.size=l.length:=by simpa using inv.head.size
    obtain⟨i,hin,hi,hlt⟩:=a5x hm
    have hr:=Y9 hback (by simpa using inv.head.size) hi hlt
    rw [show m+1+(l.length - n)=(m+(l.length - n))+1 by omega]
    refine⟨fun h0=>(by rw [h0] at hr;cases hr),fun j hj => ?_⟩
    have hjn:j < n:=by
      rcases Nat.lt_or_ge j n with h|h
      · exact h
      · rcases htail with ht|⟨hs,hc⟩
        · obtain⟨_,o,ho,_⟩:=mem_ready.1 hj
          have:=(Array.getElem?_eq_some_iff.1 ho).1
          simp at this
          omega
        · have hnl:n < l.toArray.size:=by
            obtain⟨_,o,ho,_⟩:=mem_ready.1 hj
            have:=(Array.getElem?_eq_some_iff.1 ho).1
            omega
          exact absurd hj (tail_waits hs hc hnl inv.head _ i rfl hin hi j h)
    refine inv.step h0 hN hok hdst hch hcl hnd hp hj hjn fun k' cacc' H' J' L' vs' a' w' inv' => ?_
    refine a8B h0 hN hback hok hdst hch hcl hnd hp hle htail hseq hfin m _ k' cacc' H' J' L' vs' a' w' inv' ?_
    have hu:=(mem_ready.1 hj).1
    have:=a3J hu hjn
    omega
end
def a0X (P:Program) (N:Nat) (C:Ctx) (σ0:u5) {ι:Type 1} (HT:ι→j6) (ci:List Nat) (F:List (Nat×AV)→Prop):List Oper→List (List (Nat×Nat))→Nat→List (Nat×AV)→Prop
 | [],_,_,acc=>F acc
 | o::os,s::ss,k,acc=>bif ci.contains k then a0X P N C σ0 HT ci F os ss (k+1) acc∨∃ r,a0X P N C σ0 HT ci F os ss (k+1) ((k,r)::acc) else ∃ r,Z4 P N C σ0 HT acc o s r∧a0X P N C σ0 HT ci F os ss (k+1) ((k,r)::acc)
 | _,[],_,_=>False
def E4 (l:List Oper) (ss:List (List (Nat×Nat))):List Nat→List (Nat×Oper×List (Nat×Nat))
 | [] => []
 | i::r=>match l[i]?,ss[i]? with
  | some o,some s=>(i,o,s)::E4 l ss r
  | _,_=>E4 l ss r
theorem a1m {l:List Oper} {ss:List (List (Nat×Nat))}:∀ (ci:List Nat),(∀ i∈ci,∃ o s,l[i]?=some o∧ss[i]?=some s)→∀ (m i:Nat) (o:Oper) (s:List (Nat×Nat)),ci[m]?=some i→l[i]?=some o→ss[i]?=some s→(E4 l ss ci)[m]?=some (i,o,s)
 | [],_,m,i,o,s,h,_,_=>by simp at h
 | j::r,h0,m,i,o,s,h,h1,h2=>by
  obtain⟨o',s',h3,h4⟩:=h0 j List.mem_cons_self
  simp only [E4,h3,h4]
  cases m with
  | zero =>
   simp only [List.getElem?_cons_zero,Option.some.injEq] at h ⊢
   subst h
   rw [h1] at h3;rw [h2] at h4
   cases h3;cases h4;rfl
  | succ m=>simpa using a1m r (fun i hi=>h0 i (List.mem_cons_of_mem _ hi)) m i o s (by simpa using h) h1 h2
theorem a0k {P : Program} {N : Nat} {C : Ctx} {σ0 : u5} {ι : Type 1} {HT : ι → j6} {ci : List Nat} {F : List (Nat × AV) → Prop} : ∀ (os : List Oper) (ss : List (List (Nat × Nat))) (k : Nat) (acc : List (Nat × AV)), (∀ j r, o0 acc j = some r → j < k) → a0X P N C σ0 HT ci F os ss k acc →
    ∃ full,F full∧(∀ j,j < k→o0 full j=o0 acc j) ∧
      ∀ i o s,os[i]?=some o→ss[i]?=some s→k+i∉ci→∃ r acc',o0 full (k+i)=some r∧Z4 P N C σ0 HT acc' o s r∧∀ j,j < k+i→o0 acc' j=o0 full j
  | [],ss,k,acc,hacc,h=>⟨acc,by cases ss<;>exact h,fun _ _=>rfl,fun i o s ho=>by simp at ho⟩
  | o::os,[],k,acc,_,h=>h.elim
  | o::os,s::ss,k,acc,hacc,h=>by
    simp only [a0X] at h
    have hacc2:∀ r,∀ j q,o0 ((k,r)::acc) j=some q→j < k+1:=fun r j q hj=>by
      rw [u4] at hj
      by_cases e:k=j
      · omega
      · rw [if_neg e] at hj;have:=hacc j q hj;omega
    cases hc:ci.contains k with
    | true =>
      rw [hc] at h
      simp only [cond_true] at h
      have fin : ∀ acc2, (∀ j, j < k → o0 acc2 j = o0 acc j) → (∀ j r, o0 acc2 j = some r → j < k + 1) → a0X P N C σ0 HT ci F os ss (k + 1) acc2 → ∃ full, F full ∧ (∀ j, j < k → o0 full j = o0 acc j) ∧
          ∀ i o' s',(o::os)[i]?=some o'→(s::ss)[i]?=some s'→k+i∉ci→∃ r acc',o0 full (k+i)=some r∧Z4 P N C σ0 HT acc' o' s' r∧∀ j,j < k+i→o0 acc' j=o0 full j:=fun acc2 ha hb h=>by
        obtain⟨full,hF,h1,h3⟩:=a0k os ss (k+1) acc2 hb h
        refine⟨full,hF,fun j hj=>(h1 j (by omega)).trans (ha j hj),fun i o' s' ho hs hni => ?_⟩
        cases i with
        | zero=>exact absurd (by simpa using hc) hni
        | succ i =>
          have e:k+(i+1)=k+1+i:=by omega
          rw [e]
          exact h3 i o' s' (by simpa using ho) (by simpa using hs) (by rw [←e];exact hni)
      rcases h with h|⟨r,h⟩
      · exact fin acc (fun _ _=>rfl) (fun j r hj=>Nat.lt_succ_of_lt (hacc j r hj)) h
      · exact fin ((k,r)::acc) (fun j hj=>by rw [u4,if_neg (by omega)]) (hacc2 r) h
    | false =>
      rw [hc] at h
      simp only [cond_false] at h
      obtain⟨r,hd,h⟩:=h
      obtain⟨full,hF,h1,h3⟩:=a0k os ss (k+1) ((k,r)::acc) (hacc2 r) h
      refine⟨full,hF,fun j hj=>by rw [h1 j (by omega),u4,if_neg (by omega)],fun i o' s' ho hs hni => ?_⟩
      cases i with
      | zero =>
        simp only [List.getElem?_cons_zero,Option.some.injEq] at ho hs
        subst ho;subst hs
        refine⟨r,acc,by rw [Nat.add_zero,h1 k (by omega),u4,if_pos rfl],hd,fun j hj => ?_⟩
        rw [Nat.add_zero] at hj
        rw [h1 j (by omega),u4,if_neg (by omega)]
      | succ i =>
        have e:k+(i+1)=k+1+i:=by omega
        rw [e]
        exact h3 i o' s' (by simpa using ho) (by simpa using hs) (by rw [←e];exact hni)
def a4F (vs:Nat→Value):List Oper→Nat→Env→Env
 | o::os,k,ρ=>match o.dst with
  | some d=>a4F vs os (k+1) ((d,vs k)::ρ)
  | none=>a4F vs os (k+1) ρ
 | [],_,ρ=>ρ
theorem a3M {C : Ctx} {J : Im} {L : Lh} {H : j6} {acc : List (Nat × AV)} {vs : Nat → Value} : ∀ (os : List Oper) (k : Nat) (σ : u5) (ρ : Env), S5 C J L σ H ρ → (∀ i o, os[i]? = some o → ∃ r, o0 acc (k + i) = some r ∧ D2 J r (vs (k + i))) →
    S5 C J L (U1 acc os k σ) H (a4F vs os k ρ)
  | [],k,σ,ρ,hs,_=>hs
  | o::os,k,σ,ρ,hs,hd=>by
    obtain⟨r,h1,h2⟩:=hd 0 o rfl
    simp only [Nat.add_zero] at h1 h2
    have hd':∀ i o',os[i]?=some o'→∃ r,o0 acc (k+1+i)=some r∧D2 J r (vs (k+1+i)):=fun i o' ho=>by
      have:=hd (i+1) o' (by simpa using ho)
      rwa [show k+(i+1)=k+1+i by omega] at this
    cases ho:o.dst with
    | none=>simp only [U1,a4F,ho];exact a3M os (k+1) σ ρ hs hd'
    | some d=>simp only [U1,a4F,ho,h1];exact a3M os (k+1) _ _ (hs.put (Le.refl J) h2 hs.heap) hd'
theorem a1C {N : Nat} {vs : Nat → Value} {a : Act} (hd : a.defers = []) (hsz : a.tmps.size = N) : ∀ (os : List Oper) (k : Nat) (ρ : Env),
    (∀ (i:Nat) (o:Oper) (d:Nat),os[i]?=some o→o.dst=some d→a.tmps[d]?=some (vs (k+i)))→(∀ t v,Fl.look ρ t=some v→(∀ (i:Nat) (o:Oper),os[i]?=some o→o.dst≠some t)→a.tmps[t]?=some v)→Fits N (a4F vs os k ρ) a
  | [],k,ρ,_,h=>⟨hd,hsz,fun t v hv=>h t v hv (fun i o ho=>by simp at ho)⟩
  | o::os,k,ρ,hI,hO=>by
    have hI':∀ (i:Nat) (o':Oper) (d:Nat),os[i]?=some o'→o'.dst=some d→a.tmps[d]?=some (vs (k+1+i)):=fun i o' d ho hdd=>by
      have:=hI (i+1) o' d (by simpa using ho) hdd
      rwa [show k+(i+1)=k+1+i by omega] at this
    cases ho:o.dst with
    | none =>
      simp only [a4F,ho]
      refine a1C hd hsz os (k+1) ρ hI' fun t v hv hno=>hO t v hv fun i o' ho' => ?_
      cases i with
      | zero=>simp only [List.getElem?_cons_zero,Option.some.injEq] at ho';subst ho';rw [ho];exact fun h=>by cases h
      | succ i=>exact hno i o' (by simpa using ho')
    | some d =>
      simp only [a4F,ho]
      refine a1C hd hsz os (k+1) _ hI' fun t v hv hno => ?_
      rw [Fl.M6] at hv
      by_cases e:d=t
      · subst e
        rw [if_pos rfl] at hv
        cases hv
        have:=hI 0 o d rfl ho
        simpa using this
      · rw [if_neg e] at hv
        refine hO t v hv fun i o' ho' => ?_
        cases i with
        | zero =>
          simp only [List.getElem?_cons_zero,Option.some.injEq] at ho'
          subst ho'
          rw [ho]
          exact fun h=>e (Option.some.inj h)
        | succ i=>exact hno i o' (by simpa using ho')
theorem H6.b2U {P : Program} {C : Ctx} {N : Nat} {Q : Exit → u5 → j6 → Prop} {σ : u5} {H : j6} {id : Nat} {l : List Oper} {ι : Type 1} (HT : ι → j6) (hm : P.follows .mixedOrders = true) (n : Nat) (ss : List (List (Nat × Nat))) (ci : List Nat)
    (hN:H7 N l=true) (hB:W7 l.toArray n ss=true) (hss:Nat.ble n ss.length=true) (hC:O1 l.toArray n ss ci=true) (hnd:ci.Nodup)
    (h:a0X P N C σ HT ci (fun accP=>M1 P C N σ HT accP (fun cacc H'=>C4 P C N l.toArray Q (l.drop n) (U1 (cacc++accP) (l.take n) 0 σ) H') (E4 l ss ci) [] H) (l.take n) ss 0 []) :
    H6 P C N (.region id l.toArray true) Q σ H:=fun ρ I L hs a w ha hst=>by
  have hB0:=hB
  simp only [W7,Bool.and_eq_true,Bool.or_eq_true] at hB
  obtain⟨⟨⟨⟨⟨hle,hback⟩,hok⟩,hdst⟩,htail⟩,hseq⟩:=hB
  have hle':n≤l.length:=by simpa using Nat.le_of_ble_eq_true hle
  have hok':∀ i,i < n→T4 l.toArray n ss i=true:=fun i hi=>List.all_eq_true.1 hok i (List.mem_range.2 hi)
  have hssl:=Nat.le_of_ble_eq_true hss
  obtain⟨full,hF,_,hd⟩:=a0k (l.take n) ss 0 [] (fun j r hj=>by simp [o0] at hj) h
  have hC':=hC
  unfold O1 at hC'
  have hcin:∀ i∈ci,i < n:=fun i hi=>by
    obtain⟨m,hm⟩:=List.mem_iff_getElem?.1 hi
    have h1:=List.all_eq_true.1 hC' m (List.mem_range.2 (List.getElem?_eq_some_iff.1 hm).1)
    simp only [hm,Bool.and_eq_true] at h1
    simpa [Nat.blt_eq] using h1.1
  have hcl:=a1m (l:=l) (ss:=ss) ci (fun i hi=>⟨_,_,List.getElem?_eq_getElem (Nat.lt_of_lt_of_le (hcin i hi) hle'),List.getElem?_eq_getElem (Nat.lt_of_lt_of_le (hcin i hi) hssl)⟩)
  have hp:∀ i o s,i < n→i∉ci→l[i]?=some o→ss[i]?=some s→∃ r,o0 full i=some r∧Z4 P N C σ HT full o s r:=fun i o s hi hic ho hsi=>by
    obtain⟨r,acc',h1,h2,h3⟩:=hd i o s (by rw [List.getElem?_take,if_pos hi];exact ho) hsi (by simpa using hic)
    rw [Nat.zero_add] at h1 h3
    refine⟨r,h1,fun H' => ?_⟩
    have hoi:=hok' i hi
    unfold T4 at hoi
    have ho':l.toArray[i]?=some o:=by simpa using ho
    simp only [ho',hsi,Bool.and_eq_true] at hoi
    have hback':∀ j,Region.waitsFor .any l.toArray i j=true→j < i:=fun j hw=>by
      obtain⟨e,he,hb,heq⟩:=R4 ho' hw
      have hil:i < l.toArray.size:=(Array.getElem?_eq_some_iff.1 ho').1
      have h4:=List.all_eq_true.1 hback i (List.mem_range.2 hil)
      simp only [ho',Array.all_eq_true_iff_forall_mem] at h4
      have h5:=h4 e he
      rw [hb] at h5
      have:e.on < i:=by simpa [Nat.blt_eq] using h5
      omega
    -- sources that are no operand are looked at too
    have henv:∀ t∈y5 o,∀ j,E9 s t=some j→o0 acc' j=o0 full j:=fun t ht j hj=>by
      have h6:=List.all_eq_true.1 hoi.1 t ht
      unfold S7 at h6
      simp only [hj,Bool.and_eq_true] at h6
      exact h3 j (hback' j h6.2)
    have hdd:=h2 H'
    unfold a1P at hdd ⊢
    have he:∀ ts,(∀ t∈ts,t∈y5 o)→A5 σ acc' s ts=A5 σ full s ts:=by
      intro ts
      induction ts with
      | nil=>intro _;rfl
      | cons t ts ih =>
        intro hts
        simp only [A5]
        cases hsrc:E9 s t with
        | none=>simp only [ih (fun u hu=>hts u (List.mem_cons_of_mem _ hu))]
        | some j=>simp only [henv t (hts t List.mem_cons_self) j hsrc,ih (fun u hu=>hts u (List.mem_cons_of_mem _ hu))]
    rw [←he _ (fun t ht=>ht)]
    cases hg:o.guard with
    | none=>rw [hg] at hdd;exact hdd
    | some p =>
      obtain⟨g,want⟩:=p
      rw [hg] at hdd
      have h6:=hoi.2
      rw [hg] at h6
      simp only [Bool.and_eq_true] at h6
      simp only at hdd ⊢
      rw [←h3 g (hback' g h6.1.2)];exact hdd
  have hs':St C I L { w with drawn:=w.drawn+1 }:=⟨⟨hst.mem.im,hst.mem.loc,hst.mem.sep,hst.mem.nodup⟩,⟨hst.S4.os,hst.S4.tape,hst.S4.output,hst.S4.size,hst.S4.block⟩,hst.own,hst.U0,hst.new⟩
  refine wpIn_region_any hm ?_
  have inv0:a9i P C N n l ci (E4 l ss ci) σ HT full (fun cacc H'=>C4 P C N l.toArray Q (l.drop n) (U1 (cacc++full) (l.take n) 0 σ) H') ρ I (Array.replicate l.toArray.size false) 0 [] H I L (fun _=>undef) a { w with drawn:=w.drawn+1 }:=by
    have hnl:∀ j,(Array.replicate l.toArray.size false).getD j false=true→False:=fun j hl=>by rw [getD_replicate_false] at hl;cases hl
    refine⟨⟨by simp,fun j oj _ hl=>(hnl j hl).elim,fun t _ ht=>getD_in (by simpa using ht) (getD_replicate_false _ _)⟩,Le.refl _,hs.U0,hs',hs.heap,Nat.zero_le _,fun m i hm=>⟨fun hl=>(hnl i hl).elim,fun h=>by omega⟩,by rw [List.drop_zero];exact hF,fun j r hj=>by simp [o0] at hj,fun j r r0 hj=>by simp [o0] at hj,fun j _ hl=>(hnl j hl).elim,fun j _ hl=>(hnl j hl).elim,ha.defers,ha.size,fun j d _ hl=>(hnl j hl).elim,fun t v hv _=>ha.tmp t v hv⟩
  have hunl:unl (Array.replicate l.toArray.size false) n=n:=by
    have key:∀ k,k≤l.toArray.size→unl (Array.replicate l.toArray.size false) k=k:=by
      intro k
      induction k with
      | zero=>intro _;rfl
      | succ k ih =>
        intro hk
        rw [unl,ih (by omega),if_pos (getD_in (by simp at hk ⊢;omega) (getD_replicate_false _ _))]
    exact key n (by simpa using hle')
  have hmain:=a8B (Q':=a3S C N (qA C Q)) hs hN hback hok' hdst hC hcl hnd hp hle'
    (by rcases htail with h | h
        · exact .inl (by simpa using h)
        · exact .inr h) (by simpa using hseq)
    (fun listed k cacc H' J L' vs a' w' inv hall=>by
      have hk:k=ci.length:=by
        rcases Nat.lt_or_ge k ci.length with h|h
        · have:=(inv.ch k _ (List.getElem?_eq_getElem h)).1 (hall _ (hcin _ (List.getElem_mem h)))
          omega
        · have:=inv.kle;omega
      have hpl:=inv.pl
      have hlen:(E4 l ss ci).length≤ci.length:=by
        have:∀ c:List Nat,(E4 l ss c).length≤c.length:=by
          intro c
          induction c with
          | nil=>exact Nat.le_refl _
          | cons i c ih =>
            simp only [E4]
            split
            · simpa using ih
            · exact Nat.le_succ_of_le ih
        exact this ci
      rw [hk,List.drop_eq_nil_of_le hlen,M1] at hpl
      replace hpl:=hpl.2
      have hNd:H7 N (l.drop n)=true:=by
        simp only [H7,List.all_eq_true] at hN ⊢
        exact fun o ho=>hN o (List.mem_of_mem_drop ho)
      have hR:S5 C J L' σ H' ρ:=⟨fun t b hb=>by obtain⟨u,h1,h2⟩:=hs.env t b hb;exact⟨u,h1,h2.mono inv.le⟩,inv.heap,inv.U0⟩
      have hget:∀ i o,(l.take n)[i]?=some o→i < n∧l[i]?=some o:=fun i o ho=>by
        have h1:=(List.getElem?_eq_some_iff.1 ho).1
        have hin:i < n:=by rw [List.length_take] at h1;omega
        rw [List.getElem?_take,if_pos hin] at ho
        exact⟨hin,ho⟩
      refine hpl (a4F vs (l.take n) 0 ρ) J L' (a3M (l.take n) 0 σ ρ hR fun i o ho => ?_) hNd a' w' (a1C inv.defers inv.size (l.take n) 0 ρ (fun i o d ho hdd => ?_) fun t v hv hno=>inv.a3W t v hv fun j hj _ hdj => ?_) inv.st
      · obtain⟨hin,_⟩:=hget i o ho
        rw [Nat.zero_add]
        exact inv.val i hin (hall i hin)
      · obtain⟨hin,ho2⟩:=hget i o ho
        rw [Nat.zero_add]
        exact inv.a2k i d hin (hall i hin) (by simp [ho2,hdd])
      · have hjl:j < l.length:=by omega
        have:(l.take n)[j]?=some l[j]:=by rw [List.getElem?_take,if_pos hj];exact List.getElem?_eq_getElem hjl
        refine hno j l[j] this ?_
        simpa [hjl] using hdj)
    n _ _ _ _ _ _ _ _ _ inv0 hunl
  rw [show n+(l.length - n)=l.toArray.size by simp;omega] at hmain
  exact hmain
theorem C1.app {Hp:j6} {H:j6} {B:Bool×C5} {F:Bool×C5→j6} (h:C1 H B F):C1 (Hp++H) B (fun X=>Hp++F X):=by
 induction Hp with
 | nil=>exact h
 | cons A Hp ih=>exact .s ih
def K2:List Bool→j6→(Nat→Bool×C5)→Nat→j6
 | b::bs,B::H,q,k=>(bif b then q k else B)::K2 bs H q (k+1)
 | _,H,_,_=>H
theorem H6.D7 {P : Program} {C : Ctx} {N : Nat} {Q : Exit → u5 → j6 → Prop} {σ : u5} {H : j6} {id : Nat} {l : List Oper} (bs : List Bool) (hm : P.follows .mixedOrders = true) (n : Nat) (ss : List (List (Nat × Nat))) (ci : List Nat)
    (hN:H7 N l=true) (hB:W7 l.toArray n ss=true) (hss:Nat.ble n ss.length=true) (hC:O1 l.toArray n ss ci=true) (hnd:ci.Nodup)
    (h:a0X P N C σ (fun q:j6×(Nat→Bool×C5)=>q.1++K2 bs H q.2 0) ci (fun accP=>M1 P C N σ (fun q:j6×(Nat→Bool×C5)=>q.1++K2 bs H q.2 0) accP (fun cacc H'=>C4 P C N l.toArray Q (l.drop n) (U1 (cacc++accP) (l.take n) 0 σ) H') (E4 l ss ci) [] H) (l.take n) ss 0 []) :
    H6 P C N (.region id l.toArray true) Q σ H := .b2U _ hm n ss ci hN hB hss hC hnd h
end Go.Ab
namespace Go.Ab
open Go.Fl Go.RowKit
open p6 (rep)
variable {P:Program} {C:Ctx} {N:Nat} {σ:u5} {H:j6} {K:AV→Prop} {KH:AV→j6→Prop} {d:Option Nat} {ty:TypeId} {ps:String} {af:Array Edge} {g:Option (Nat×Bool)}
variable {x y z:Operand} {T T2 E S D U:TypeId} {o:Oper}
theorem A9.ofP (h:j7 P N C o σ H (fun r=>KH r H)):A9 P C N o σ H KH:=fun ρ I L hs =>
 OpS.ofX (OpX.U7 (h ρ I L hs) fun v J X hle ⟨hX,r,h1,h2⟩=>by subst hX;exact⟨hle,r,H,h1,hs.heap.mono hle,h2⟩)
theorem j7.L5 {α : Type} {r : p6 α} {i0 : Inhabited α} {n : Nat} {l : List α} {parts : Array (Nat × Operand)} (tE : G3 P E α) (hT : P.underlying T = some (.slice E)) (hp : a1k C σ H 0 parts.toList l) (hn : l.length = n) (hb : n * p6.size α ≤ 16777216) (k : K (.vc l)) :
    j7 P N C ⟨d,.buildSlice T n parts,ty,ps,af,g⟩ σ H K:=fun ρ I L hs=>by
  obtain⟨zs,hz1,hz2⟩:=tE.zero
  obtain⟨pv,vs,h1,h2,h3⟩:=hp.run hs
  subst hn
  have hl:=h3.len
  refine OpX.frz (.buildSlice hT tE.size hz1 (p6.len (hz2 I)) h1 h2 hl hb fun b J' hle hpp=>⟨rfl,.vc l,⟨⟨_,rfl⟩,vs,?_,h3.mono hle⟩,k⟩)
  refine(Own.made (e:=E) hl ?_).sl (fun p hp=>hpp p (by simpa using hp))
  have:1≤p6.size α:=Nat.one_le_iff_ne_zero.2 tE.pos
  have:=Nat.mul_le_mul_left l.length this
  unfold maxLen;omega
theorem C4.drop {ops:Array Oper} {Q:Exit→u5→j6→Prop} {os:List Oper} {B:Bool×C5} (k:C4 P C N ops Q os σ H):C4 P C N ops Q os σ (B::H):=fun ρ I L hs=>by
 obtain⟨X,R,rfl,h1,h2⟩:=hs.heap
 exact wpL.forget (X := [X]) (k ρ I R ⟨hs.env,h2,hs.U0⟩)
theorem H6.drop {Q:Exit→u5→j6→Prop} {c:Code} {B:Bool×C5} (k:H6 P C N c Q σ H):H6 P C N c Q σ (B::H):=fun ρ I L hs=>by
 obtain⟨X,R,rfl,h1,h2⟩:=hs.heap
 exact wpS.forget (X := [X]) (k ρ I R ⟨hs.env,h2,hs.U0⟩)
theorem j7.y8 {α β:Type} {r:p6 α} {s:p6 β} {w:Value} {l:p5 α β} (hx:A7 C σ H x (.ln w l)) (k:K (.ln w l)):j7 P N C ⟨d,.nilCheck x,ty,ps,af,g⟩ σ H K :=
 .vk k (fun ρ I L hs=>by
  obtain⟨u,h2,b,h3,rfl⟩:=hx ρ I L hs
  exact .mk ⟨b,h3,rfl⟩ fun a w ha hm=>by simp [execOp,ha.ev h2])
section a6x
variable {s:u0} {i j:Int} (hT:P.underlying T=some .string) (hx:A7 C σ H x (.v s))
include hT hx
theorem j7.a0Y (hy:A7 C σ H y (.v i)) (h0:0≤i) (h1:i≤s.l.length) (k:K (.v (u0.mk (s.l.drop i.toNat)))):j7 P N C ⟨d,.slice T x (some y) none none,ty,ps,af,g⟩ σ H K :=
 .a6x i.toNat s.l.length hT hx (.inr ⟨y,rfl,by rw [Int.toNat_of_nonneg h0];exact hy⟩) (.inl ⟨rfl,rfl⟩) (by omega) (Nat.le_refl _) (by rw [List.take_length];exact k)
theorem j7.a0Z (hz:A7 C σ H z (.v j)) (h0:0≤j) (h1:j≤s.l.length) (k:K (.v (u0.mk (s.l.take j.toNat)))):j7 P N C ⟨d,.slice T x none (some z) none,ty,ps,af,g⟩ σ H K :=
 .a6x 0 j.toNat hT hx (.inl ⟨rfl,rfl⟩) (.inr ⟨z,rfl,by rw [Int.toNat_of_nonneg h0];exact hz⟩) (by omega) (by omega) (by rw [List.drop_zero];exact k)
theorem j7.a8C (hy:A7 C σ H y (.v i)) (hz:A7 C σ H z (.v j)) (h0:0≤i) (h1:i≤j) (h2:j≤s.l.length) (k:K (.v (u0.mk ((s.l.take j.toNat).drop i.toNat)))):j7 P N C ⟨d,.slice T x (some y) (some z) none,ty,ps,af,g⟩ σ H K :=
 .a6x i.toNat j.toNat hT hx (.inr ⟨y,rfl,by rw [Int.toNat_of_nonneg h0];exact hy⟩) (.inr ⟨z,rfl,by rw [Int.toNat_of_nonneg (by omega)];exact hz⟩) (by omega) (by omega) k
end a6x
def AV.a3F (c:Bool) (a:AV):AV := .pr (fun I u=>(c=true→D2 I a u)∧(c=false→u=undef)) (fun hle h=>⟨fun e=>(h.1 e).mono hle,h.2⟩)
theorem A7.ou {t:Nat} {a:AV} {c:Bool} (h:C9 σ t=some (.a3F c a)) (hc:c=true):A7 C σ H (.tmp t) a:=fun ρ I L hs=>by
 obtain⟨u,h1,h2⟩:=hs.env t _ h
 exact⟨u,h1,h2.1 hc⟩
section nested
variable {P:Program} {C:Ctx} {N:Nat} {ops:Array Oper} {Q:Exit→u5→j6→Prop} {rest:List Oper} {σ:u5} {H:j6}
theorem C4.goU {d : Nat} {op : Op} {ty : TypeId} {ps : String} {af : Array Edge} {j : Nat} {want : Bool} (dj : Nat) (hj : (ops[j]?).bind (·.dst) = some dj) {b : Bool} (hb : A7 C σ H (.tmp dj) (.v b)) {r : AV}
    (h:b=want→j7 P N C ⟨some d,op,ty,ps,af,none⟩ σ H (fun r'=>r'=r)) (k:C4 P C N ops Q rest ((d,.a3F (b == want) r)::σ) H) :
    C4 P C N ops Q (⟨some d,op,ty,ps,af,some (j,want)⟩::rest) σ H:=fun ρ I L hs=>by
  have hbv:=hb.bool hs
  by_cases e:b=want
  · refine .gt dj hj (by rw [←e];exact hbv) (OpS.ofX (OpX.U7 (h e ρ I L hs) fun v J X hle ⟨hX,r',hr,hk⟩ => ?_))
    subst hX;subst hk
    exact k _ _ _ (hs.put hle (r := .a3F (b == want) r') ⟨fun _=>hr,fun hc=>absurd e (by simpa using hc)⟩ (hs.heap.mono hle))
  · have e':b = !want:=by cases b<;>cases want<;>simp_all
    exact .gf dj hj (by rw [←e'];exact hbv) (k _ _ _ (hs.put (Le.refl I) (r := .a3F (b == want) r) ⟨fun hc=>absurd (by simpa using hc) e,fun _=>a8⟩ hs.heap))
theorem b2V {ρ : Env} {I : Im} {L : Lh} {Q : Exit → Env → Im → Lh → Prop} {d : Nat} {op : Op} {ty : TypeId} {ps : String} {af : Array Edge} {j : Nat} {want : Bool} (dj : Nat) (hj : (ops[j]?).bind (·.dst) = some dj) (hb : Fl.look ρ dj = some undef)
    (h:wpL P C N ops Q rest ((d,undef)::ρ) I L):wpL P C N ops Q (⟨some d,op,ty,ps,af,some (j,want)⟩::rest) ρ I L:=fun hd a w ha hs=>by
  obtain⟨hlt,hd'⟩:=a5v hd
  refine wpListIn_step fun K hK => ?_
  have hy:yielded ops a.tmps j=none:=by unfold yielded;rw [hj];simp only [Option.bind_some,ha.tmp dj _ hb];rfl
  rw [if_neg (by simp [Region.wanted,hy])]
  exact⟨fun _ _=>trivial,hK _ _ (h hd' _ _ (ha.put hlt undef) hs)⟩
theorem C4.gn {d : Nat} {op : Op} {ty : TypeId} {ps : String} {af : Array Edge} {j : Nat} {want : Bool} (dj : Nat) (hj : (ops[j]?).bind (·.dst) = some dj) {b c : Bool} (hb : C9 σ dj = some (.a3F c (.v b))) {r : AV}
    (h:c=true→b=want→j7 P N C ⟨some d,op,ty,ps,af,none⟩ σ H (fun r'=>r'=r)) (k:C4 P C N ops Q rest ((d,.a3F (c&&(b == want)) r)::σ) H) :
    C4 P C N ops Q (⟨some d,op,ty,ps,af,some (j,want)⟩::rest) σ H:=fun ρ I L hs=>by
  obtain⟨u,hu1,hu2,hu3⟩:=hs.env dj _ hb
  cases c with
  | false =>
    obtain rfl:=hu3 rfl
    exact b2V dj hj hu1 (k _ _ _ (hs.put (Le.refl I) (r := .a3F (false&&(b == want)) r) ⟨fun hc=>by simp at hc,fun _=>rfl⟩ hs.heap))
  | true =>
    have hbv:Fl.look ρ dj=some (.bool b):=by
      obtain⟨cs,rfl,rfl⟩:=hu2 rfl
      exact hu1
    by_cases e:b=want
    · refine .gt dj hj (by rw [←e];exact hbv) (OpS.ofX (OpX.U7 (h a8 e ρ I L hs) fun v J X hle ⟨hX,r',hr,hk⟩ => ?_))
      subst hX;subst hk
      exact k _ _ _ (hs.put hle (r := .a3F (true&&(b == want)) r') ⟨fun _=>hr,fun hc=>absurd e (by simpa using hc)⟩ (hs.heap.mono hle))
    · have e':b = !want:=by cases b<;>cases want<;>simp_all
      exact .gf dj hj (by rw [←e'];exact hbv) (k _ _ _ (hs.put (Le.refl I) (r := .a3F (true&&(b == want)) r) ⟨fun hc=>absurd (by simpa using hc) e,fun _=>a8⟩ hs.heap))
end nested
end Go.Ab
namespace Go.Ab
open Go.Fl Go.RowKit
open p6 (rep)
variable {P:Program} {C:Ctx} {N:Nat} {σ:u5} {H:j6} {K:AV→Prop} {KH:AV→j6→Prop} {d:Option Nat} {ty:TypeId} {ps:String} {af:Array Edge} {g:Option (Nat×Bool)}
variable {x y z:Operand} {T T2 E S D U:TypeId} {o:Oper}
theorem j7.bS1 {α γ1 : Type} {r : p6 α} {i0 : Inhabited α} {q1 : p6 γ1} {offs : List (Nat × Nat)} {parts : Array (Nat × Operand)} {i1 : Nat} {o1 : Operand} {c1 : γ1} (m1 : p5 α γ1) (hg : p6.agg α = true) (tT : G3 P T α) (hT : F3 P T = some offs) (mk : γ1 → α) (hm : ∀ c1, (m1.set c1 (default : α)) = mk c1) (hp : parts.toList = [(i1, o1)]) (h1 : offs[i1]? = some (m1.off, p6.size γ1)) (e1 : A7 C σ H o1 (.v c1)) (k : K (.v (mk c1))) :
    j7 P N C ⟨d,.build T parts,ty,ps,af,g⟩ σ H K :=
  .a2R (mk c1) hg tT hT (by rw [hp];exact(.cons m1 c1 h1 e1 .nil)) (hm c1) k
theorem j7.bS2 {α γ1 γ2 : Type} {r : p6 α} {i0 : Inhabited α} {q1 : p6 γ1} {q2 : p6 γ2} {offs : List (Nat × Nat)} {parts : Array (Nat × Operand)} {i1 : Nat} {o1 : Operand} {i2 : Nat} {o2 : Operand} {c1 : γ1} {c2 : γ2} (m1 : p5 α γ1) (m2 : p5 α γ2) (hg : p6.agg α = true) (tT : G3 P T α) (hT : F3 P T = some offs) (mk : γ1 → γ2 → α) (hm : ∀ c1 c2, (m2.set c2 (m1.set c1 (default : α))) = mk c1 c2) (hp : parts.toList = [(i1, o1), (i2, o2)]) (h1 : offs[i1]? = some (m1.off, p6.size γ1)) (h2 : offs[i2]? = some (m2.off, p6.size γ2)) (e1 : A7 C σ H o1 (.v c1)) (e2 : A7 C σ H o2 (.v c2)) (k : K (.v (mk c1 c2))) :
    j7 P N C ⟨d,.build T parts,ty,ps,af,g⟩ σ H K :=
  .a2R (mk c1 c2) hg tT hT (by rw [hp];exact(.cons m1 c1 h1 e1 (.cons m2 c2 h2 e2 .nil))) (hm c1 c2) k
theorem j7.bS3 {α γ1 γ2 γ3 : Type} {r : p6 α} {i0 : Inhabited α} {q1 : p6 γ1} {q2 : p6 γ2} {q3 : p6 γ3} {offs : List (Nat × Nat)} {parts : Array (Nat × Operand)} {i1 : Nat} {o1 : Operand} {i2 : Nat} {o2 : Operand} {i3 : Nat} {o3 : Operand} {c1 : γ1} {c2 : γ2} {c3 : γ3} (m1 : p5 α γ1) (m2 : p5 α γ2) (m3 : p5 α γ3) (hg : p6.agg α = true) (tT : G3 P T α) (hT : F3 P T = some offs) (mk : γ1 → γ2 → γ3 → α) (hm : ∀ c1 c2 c3, (m3.set c3 (m2.set c2 (m1.set c1 (default : α)))) = mk c1 c2 c3) (hp : parts.toList = [(i1, o1), (i2, o2), (i3, o3)]) (h1 : offs[i1]? = some (m1.off, p6.size γ1)) (h2 : offs[i2]? = some (m2.off, p6.size γ2)) (h3 : offs[i3]? = some (m3.off, p6.size γ3)) (e1 : A7 C σ H o1 (.v c1)) (e2 : A7 C σ H o2 (.v c2)) (e3 : A7 C σ H o3 (.v c3)) (k : K (.v (mk c1 c2 c3))) :
    j7 P N C ⟨d,.build T parts,ty,ps,af,g⟩ σ H K :=
  .a2R (mk c1 c2 c3) hg tT hT (by rw [hp];exact(.cons m1 c1 h1 e1 (.cons m2 c2 h2 e2 (.cons m3 c3 h3 e3 .nil)))) (hm c1 c2 c3) k
theorem j7.bS4 {α γ1 γ2 γ3 γ4 : Type} {r : p6 α} {i0 : Inhabited α} {q1 : p6 γ1} {q2 : p6 γ2} {q3 : p6 γ3} {q4 : p6 γ4} {offs : List (Nat × Nat)} {parts : Array (Nat × Operand)} {i1 : Nat} {o1 : Operand} {i2 : Nat} {o2 : Operand} {i3 : Nat} {o3 : Operand} {i4 : Nat} {o4 : Operand} {c1 : γ1} {c2 : γ2} {c3 : γ3} {c4 : γ4} (m1 : p5 α γ1) (m2 : p5 α γ2) (m3 : p5 α γ3) (m4 : p5 α γ4) (hg : p6.agg α = true) (tT : G3 P T α) (hT : F3 P T = some offs) (mk : γ1 → γ2 → γ3 → γ4 → α) (hm : ∀ c1 c2 c3 c4, (m4.set c4 (m3.set c3 (m2.set c2 (m1.set c1 (default : α))))) = mk c1 c2 c3 c4) (hp : parts.toList = [(i1, o1), (i2, o2), (i3, o3), (i4, o4)]) (h1 : offs[i1]? = some (m1.off, p6.size γ1)) (h2 : offs[i2]? = some (m2.off, p6.size γ2)) (h3 : offs[i3]? = some (m3.off, p6.size γ3)) (h4 : offs[i4]? = some (m4.off, p6.size γ4)) (e1 : A7 C σ H o1 (.v c1)) (e2 : A7 C σ H o2 (.v c2)) (e3 : A7 C σ H o3 (.v c3)) (e4 : A7 C σ H o4 (.v c4)) (k : K (.v (mk c1 c2 c3 c4))) :
    j7 P N C ⟨d,.build T parts,ty,ps,af,g⟩ σ H K :=
  .a2R (mk c1 c2 c3 c4) hg tT hT (by rw [hp];exact(.cons m1 c1 h1 e1 (.cons m2 c2 h2 e2 (.cons m3 c3 h3 e3 (.cons m4 c4 h4 e4 .nil))))) (hm c1 c2 c3 c4) k
theorem j7.bS7 {α γ1 γ2 γ3 γ4 γ5 γ6 γ7 : Type} {r : p6 α} {i0 : Inhabited α} {q1 : p6 γ1} {q2 : p6 γ2} {q3 : p6 γ3} {q4 : p6 γ4} {q5 : p6 γ5} {q6 : p6 γ6} {q7 : p6 γ7} {offs : List (Nat × Nat)} {parts : Array (Nat × Operand)} {i1 : Nat} {o1 : Operand} {i2 : Nat} {o2 : Operand} {i3 : Nat} {o3 : Operand} {i4 : Nat} {o4 : Operand} {i5 : Nat} {o5 : Operand} {i6 : Nat} {o6 : Operand} {i7 : Nat} {o7 : Operand} {c1 : γ1} {c2 : γ2} {c3 : γ3} {c4 : γ4} {c5 : γ5} {c6 : γ6} {c7 : γ7} (m1 : p5 α γ1) (m2 : p5 α γ2) (m3 : p5 α γ3) (m4 : p5 α γ4) (m5 : p5 α γ5) (m6 : p5 α γ6) (m7 : p5 α γ7) (hg : p6.agg α = true) (tT : G3 P T α) (hT : F3 P T = some offs) (mk : γ1 → γ2 → γ3 → γ4 → γ5 → γ6 → γ7 → α) (hm : ∀ c1 c2 c3 c4 c5 c6 c7, (m7.set c7 (m6.set c6 (m5.set c5 (m4.set c4 (m3.set c3 (m2.set c2 (m1.set c1 (default : α)))))))) = mk c1 c2 c3 c4 c5 c6 c7) (hp : parts.toList = [(i1, o1), (i2, o2), (i3, o3), (i4, o4), (i5, o5), (i6, o6), (i7, o7)]) (h1 : offs[i1]? = some (m1.off, p6.size γ1)) (h2 : offs[i2]? = some (m2.off, p6.size γ2)) (h3 : offs[i3]? = some (m3.off, p6.size γ3)) (h4 : offs[i4]? = some (m4.off, p6.size γ4)) (h5 : offs[i5]? = some (m5.off, p6.size γ5)) (h6 : offs[i6]? = some (m6.off, p6.size γ6)) (h7 : offs[i7]? = some (m7.off, p6.size γ7)) (e1 : A7 C σ H o1 (.v c1)) (e2 : A7 C σ H o2 (.v c2)) (e3 : A7 C σ H o3 (.v c3)) (e4 : A7 C σ H o4 (.v c4)) (e5 : A7 C σ H o5 (.v c5)) (e6 : A7 C σ H o6 (.v c6)) (e7 : A7 C σ H o7 (.v c7)) (k : K (.v (mk c1 c2 c3 c4 c5 c6 c7))) :
    j7 P N C ⟨d,.build T parts,ty,ps,af,g⟩ σ H K :=
  .a2R (mk c1 c2 c3 c4 c5 c6 c7) hg tT hT (by rw [hp];exact(.cons m1 c1 h1 e1 (.cons m2 c2 h2 e2 (.cons m3 c3 h3 e3 (.cons m4 c4 h4 e4 (.cons m5 c5 h5 e5 (.cons m6 c6 h6 e6 (.cons m7 c7 h7 e7 .nil)))))))) (hm c1 c2 c3 c4 c5 c6 c7) k
theorem j7.bS0 {α:Type} {r:p6 α} {i0:Inhabited α} {offs:List (Nat×Nat)} (hg:p6.agg α=true) (tT:G3 P T α) (hT:F3 P T=some offs) (k:K (.v (default:α))):j7 P N C ⟨d,.build T #[],ty,ps,af,g⟩ σ H K := .a2R default hg tT hT .nil rfl k
theorem j7.y7 {β γ : Type} {s : p6 β} {q : p6 γ} {i off sz : Nat} {ag : Bool} {w : Value} (m : p5 β γ) (hf : A6 P T i = some (off, sz + 1, ag)) (ho : off = m.off) (hx : A7 C σ H x (.ln w (p5.id (α := β)))) (k : K (.ln w m)) :
    j7 P N C ⟨d,.fieldAddr T x i,ty,ps,af,g⟩ σ H K :=
  .vk k (fun ρ I L hs=>by
    obtain⟨u,h2,b,h3,rfl⟩:=hx ρ I L hs
    subst ho
    exact .fieldAddr hf h2 ⟨b,h3,by simp [p5.id]⟩)
theorem j7.b5u {β : Type} {s : p6 β} {n : Nat} {ag : Bool} {w : Value} {i : Int} (hf : a0i P T = some (n, p6.size β, ag)) (hx : A7 C σ H x (.ln w (p5.id (α := Arr n β)))) (hy : A7 C σ H y (.v i)) (h0 : 0 ≤ i) (h1 : i < n)
    (k:K (.ln w (p5.idx (α:=β) (n:=n) i.toNat (by omega)))):j7 P N C ⟨d,.indexAddr T x y,ty,ps,af,g⟩ σ H K :=
  .vk k (fun ρ I L hs=>by
    obtain⟨u,h2,b,h3,rfl⟩:=hx ρ I L hs
    exact .a1Z hf h2 (hy.int hs).1 h0 h1 ⟨b,h3,by simp [p5.id,p5.idx]⟩)
theorem j7.ldF {α β : Type} {r : p6 α} {s : p6 β} {i : Inhabited β} {w : Value} {l : p5 α β} {a : α} {bb : Bool} {F : Bool × C5 → j6} (f : α → β) (tT : G3 P T β) (hx : A7 C σ H x (.ln w l)) (hH : C1 H (bb, .ob w a) F) (hf : ∀ x, l.get x = f x) (k : K (.v (f a))) :
    j7 P N C ⟨d,.load T x,ty,ps,af,g⟩ σ H K := .ldL tT hx hH (hf a▸k)
theorem A9.K3 {α β : Type} {r : p6 α} {s : p6 β} {i : Inhabited β} {w : Value} {l : p5 α β} {a : α} {c : β} {bb : Bool} {F : Bool × C5 → j6} (f : β → α → α) (tT : G3 P T β) (hx : A7 C σ H x (.ln w l)) (hy : A7 C σ H y (.v c)) (hH : C1 H (bb, .ob w a) F) (hf : ∀ y x, l.set y x = f y x)
    (k:KH .any (F (bb,.ob w (f c a)))):A9 P C N ⟨d,.store T x y,ty,ps,af,g⟩ σ H KH := .stL tT hx hy hH (hf c a▸k)
theorem j7.a2q {α : Type} {r : p6 α} {i : Inhabited α} {w : Value} {ags : List α} {kk : Nat} {bb : Bool} {E' : TypeId} {F : Bool × C5 → j6} (tT : G3 P T α) (hx : A7 C σ H x (.el w kk (p5.id (α := α)))) (hH : C1 H (bb, .own E' w ags) F) (hk : kk < ags.length)
    (k:K (.v ags[kk])):j7 P N C ⟨d,.load T x,ty,ps,af,g⟩ σ H K := .ldE tT hx hH hk k
theorem A9.a5P {α : Type} {r : p6 α} {i : Inhabited α} {w : Value} {ags : List α} {c : α} {kk : Nat} {bb : Bool} {E' : TypeId} {F : Bool × C5 → j6} (tT : G3 P T α) (hx : A7 C σ H x (.el w kk (p5.id (α := α)))) (hy : A7 C σ H y (.v c))
    (hH:C1 H (bb,.own E' w ags) F) (hk:kk < ags.length) (k:KH .any (F (bb,.own E' w (ags.set kk c)))):A9 P C N ⟨d,.store T x y,ty,ps,af,g⟩ σ H KH := .stE tT hx hy hH hk k
theorem j7.C6 {β γ : Type} {s : p6 β} {q : p6 γ} {i off sz : Nat} {ag : Bool} {a : β} (m : p5 β γ) (f : β → γ) (hf : A6 P T i = some (off, sz + 1, ag)) (ho : off = m.off) (hm : ∀ x, m.get x = f x) (hx : A7 C σ H x (.p a)) (k : K (.p (f a))) :
    j7 P N C ⟨d,.fieldAddr T x i,ty,ps,af,g⟩ σ H K := .b5t m hf ho hx (hm a▸k)
end Go.Ab
namespace Go.Ab
open Go.Fl Go.RowKit
open p6 (rep)
structure FnV where
 f:Option FuncId
instance:Inhabited FnV:=⟨⟨none⟩⟩
instance:p6 FnV where
 size:=1
 agg:=false
 rep _ x cs:=cs = [match x.f with|none => .nilFunc|some k => .func (.func k) #[] #[]]
 len h:=by simp [h]
 mono _ h:=h
 one _:=rfl
 flat {I x cs} h:=by cases x with|mk f=>cases f<;>simp [h,Z1,Value.oneCell']
instance:J3 FnV:=⟨[.nilFunc],fun _=>rfl⟩
end Go.Ab
namespace Go.Mac
open Go.Ab
structure j3 where
 Kind:Int
 Mask:UInt64
 J5:Int
 To:Int
 Name:u0
 Number:Int
def j3.f (x:j3):Int×UInt64×Int×Int×u0×Int×Unit:=(x.Kind,x.Mask,x.J5,x.To,x.Name,x.Number,())
instance:Inhabited j3:=⟨⟨default,default,default,default,default,default⟩⟩
instance:DecidableEq j3:=fun a b=>decidable_of_iff (a.Kind=b.Kind∧a.Mask=b.Mask∧a.J5=b.J5∧a.To=b.To∧a.Name=b.Name∧a.Number=b.Number) (by cases a;cases b;simp)
instance:p6 j3:=p6.via j3.f
instance:J3 j3:=J3.via j3.f rfl
def j3.l0:p5 j3 Int:=p5.via j3.f p5.fst (fun x=>x.Kind) (fun y x => { x with Kind:=y }) (fun _=>rfl) (fun _ _=>rfl)
def j3.l1:p5 j3 UInt64:=p5.via j3.f (p5.snd.comp p5.fst) (fun x=>x.Mask) (fun y x => { x with Mask:=y }) (fun _=>rfl) (fun _ _=>rfl)
def j3.l2:p5 j3 Int:=p5.via j3.f (p5.snd.comp (p5.snd.comp p5.fst)) (fun x=>x.J5) (fun y x => { x with J5:=y }) (fun _=>rfl) (fun _ _=>rfl)
def j3.l3:p5 j3 Int:=p5.via j3.f (p5.snd.comp (p5.snd.comp (p5.snd.comp p5.fst))) (fun x=>x.To) (fun y x => { x with To:=y }) (fun _=>rfl) (fun _ _=>rfl)
def j3.l4:p5 j3 u0:=p5.via j3.f (p5.snd.comp (p5.snd.comp (p5.snd.comp (p5.snd.comp p5.fst)))) (fun x=>x.Name) (fun y x => { x with Name:=y }) (fun _=>rfl) (fun _ _=>rfl)
def j3.l5:p5 j3 Int:=p5.via j3.f (p5.snd.comp (p5.snd.comp (p5.snd.comp (p5.snd.comp (p5.snd.comp p5.fst))))) (fun x=>x.Number) (fun y x => { x with Number:=y }) (fun _=>rfl) (fun _ _=>rfl)
structure o9 where
 a1R:Int
 a4G:Int
def o9.f (x:o9):Int×Int×Unit:=(x.a1R,x.a4G,())
instance:Inhabited o9:=⟨⟨default,default⟩⟩
instance:DecidableEq o9:=fun a b=>decidable_of_iff (a.a1R=b.a1R∧a.a4G=b.a4G) (by cases a;cases b;simp)
instance:p6 o9:=p6.via o9.f
instance:J3 o9:=J3.via o9.f rfl
def o9.l0:p5 o9 Int:=p5.via o9.f p5.fst (fun x=>x.a1R) (fun y x => { x with a1R:=y }) (fun _=>rfl) (fun _ _=>rfl)
def o9.l1:p5 o9 Int:=p5.via o9.f (p5.snd.comp p5.fst) (fun x=>x.a4G) (fun y x => { x with a4G:=y }) (fun _=>rfl) (fun _ _=>rfl)
structure j8 where
 a4H:Int
 a4I:Int
 Minute:Int
 F6:u0
def j8.f (x:j8):Int×Int×Int×u0×Unit:=(x.a4H,x.a4I,x.Minute,x.F6,())
instance:Inhabited j8:=⟨⟨default,default,default,default⟩⟩
instance:DecidableEq j8:=fun a b=>decidable_of_iff (a.a4H=b.a4H∧a.a4I=b.a4I∧a.Minute=b.Minute∧a.F6=b.F6) (by cases a;cases b;simp)
instance:p6 j8:=p6.via j8.f
instance:J3 j8:=J3.via j8.f rfl
def j8.l0:p5 j8 Int:=p5.via j8.f p5.fst (fun x=>x.a4H) (fun y x => { x with a4H:=y }) (fun _=>rfl) (fun _ _=>rfl)
def j8.l1:p5 j8 Int:=p5.via j8.f (p5.snd.comp p5.fst) (fun x=>x.a4I) (fun y x => { x with a4I:=y }) (fun _=>rfl) (fun _ _=>rfl)
def j8.l3:p5 j8 u0:=p5.via j8.f (p5.snd.comp (p5.snd.comp (p5.snd.comp p5.fst))) (fun x=>x.F6) (fun y x => { x with F6:=y }) (fun _=>rfl) (fun _ _=>rfl)
structure j4 where
 Kind:Int
 A:Int
 B:Int
 N:Int
 l9:(List j3)
 T5:o9
 F6:u0
 Context:j8
def j4.f (x:j4):Int×Int×Int×Int×(List j3)×o9×u0×j8×Unit:=(x.Kind,x.A,x.B,x.N,x.l9,x.T5,x.F6,x.Context,())
instance:Inhabited j4:=⟨⟨default,default,default,default,default,default,default,default⟩⟩
instance:DecidableEq j4:=fun a b=>decidable_of_iff (a.Kind=b.Kind∧a.A=b.A∧a.B=b.B∧a.N=b.N∧a.l9=b.l9∧a.T5=b.T5∧a.F6=b.F6∧a.Context=b.Context) (by cases a;cases b;simp)
instance:p6 j4:=p6.via j4.f
instance:J3 j4:=J3.via j4.f rfl
def j4.l0:p5 j4 Int:=p5.via j4.f p5.fst (fun x=>x.Kind) (fun y x => { x with Kind:=y }) (fun _=>rfl) (fun _ _=>rfl)
def j4.l1:p5 j4 Int:=p5.via j4.f (p5.snd.comp p5.fst) (fun x=>x.A) (fun y x => { x with A:=y }) (fun _=>rfl) (fun _ _=>rfl)
def j4.l2:p5 j4 Int:=p5.via j4.f (p5.snd.comp (p5.snd.comp p5.fst)) (fun x=>x.B) (fun y x => { x with B:=y }) (fun _=>rfl) (fun _ _=>rfl)
def j4.l3:p5 j4 Int:=p5.via j4.f (p5.snd.comp (p5.snd.comp (p5.snd.comp p5.fst))) (fun x=>x.N) (fun y x => { x with N:=y }) (fun _=>rfl) (fun _ _=>rfl)
def j4.l4:p5 j4 (List j3):=p5.via j4.f (p5.snd.comp (p5.snd.comp (p5.snd.comp (p5.snd.comp p5.fst)))) (fun x=>x.l9) (fun y x => { x with l9:=y }) (fun _=>rfl) (fun _ _=>rfl)
def j4.l5:p5 j4 o9:=p5.via j4.f (p5.snd.comp (p5.snd.comp (p5.snd.comp (p5.snd.comp (p5.snd.comp p5.fst))))) (fun x=>x.T5) (fun y x => { x with T5:=y }) (fun _=>rfl) (fun _ _=>rfl)
def j4.l6:p5 j4 u0:=p5.via j4.f (p5.snd.comp (p5.snd.comp (p5.snd.comp (p5.snd.comp (p5.snd.comp (p5.snd.comp p5.fst)))))) (fun x=>x.F6) (fun y x => { x with F6:=y }) (fun _=>rfl) (fun _ _=>rfl)
def j4.l7:p5 j4 j8:=p5.via j4.f (p5.snd.comp (p5.snd.comp (p5.snd.comp (p5.snd.comp (p5.snd.comp (p5.snd.comp (p5.snd.comp p5.fst))))))) (fun x=>x.Context) (fun y x => { x with Context:=y }) (fun _=>rfl) (fun _ _=>rfl)
structure y3 where
 Name:u0
 b2W:Int
def y3.f (x:y3):u0×Int×Unit:=(x.Name,x.b2W,())
instance:Inhabited y3:=⟨⟨default,default⟩⟩
instance:p6 y3:=p6.via y3.f
instance:J3 y3:=J3.via y3.f rfl
def y3.l0:p5 y3 u0:=p5.via y3.f p5.fst (fun x=>x.Name) (fun y x => { x with Name:=y }) (fun _=>rfl) (fun _ _=>rfl)
def y3.l1:p5 y3 Int:=p5.via y3.f (p5.snd.comp p5.fst) (fun x=>x.b2W) (fun y x => { x with b2W:=y }) (fun _=>rfl) (fun _ _=>rfl)
structure p7 where
 b2X:Bool
 b2Y:(Arr 32 UInt8)
 a1S:Int
 X2:Int
 a5Q:Int
 a0E:Int
 a5R:(List y3)
def p7.f (x:p7):Bool×(Arr 32 UInt8)×Int×Int×Int×Int×(List y3)×Unit:=(x.b2X,x.b2Y,x.a1S,x.X2,x.a5Q,x.a0E,x.a5R,())
instance:Inhabited p7:=⟨⟨default,default,default,default,default,default,default⟩⟩
instance:p6 p7:=p6.via p7.f
instance:J3 p7:=J3.via p7.f rfl
def p7.l0:p5 p7 Bool:=p5.via p7.f p5.fst (fun x=>x.b2X) (fun y x => { x with b2X:=y }) (fun _=>rfl) (fun _ _=>rfl)
def p7.l1:p5 p7 (Arr 32 UInt8):=p5.via p7.f (p5.snd.comp p5.fst) (fun x=>x.b2Y) (fun y x => { x with b2Y:=y }) (fun _=>rfl) (fun _ _=>rfl)
def p7.l2:p5 p7 Int:=p5.via p7.f (p5.snd.comp (p5.snd.comp p5.fst)) (fun x=>x.a1S) (fun y x => { x with a1S:=y }) (fun _=>rfl) (fun _ _=>rfl)
def p7.l3:p5 p7 Int:=p5.via p7.f (p5.snd.comp (p5.snd.comp (p5.snd.comp p5.fst))) (fun x=>x.X2) (fun y x => { x with X2:=y }) (fun _=>rfl) (fun _ _=>rfl)
def p7.l4:p5 p7 Int:=p5.via p7.f (p5.snd.comp (p5.snd.comp (p5.snd.comp (p5.snd.comp p5.fst)))) (fun x=>x.a5Q) (fun y x => { x with a5Q:=y }) (fun _=>rfl) (fun _ _=>rfl)
def p7.l5:p5 p7 Int:=p5.via p7.f (p5.snd.comp (p5.snd.comp (p5.snd.comp (p5.snd.comp (p5.snd.comp p5.fst))))) (fun x=>x.a0E) (fun y x => { x with a0E:=y }) (fun _=>rfl) (fun _ _=>rfl)
def p7.l6:p5 p7 (List y3):=p5.via p7.f (p5.snd.comp (p5.snd.comp (p5.snd.comp (p5.snd.comp (p5.snd.comp (p5.snd.comp p5.fst)))))) (fun x=>x.a5R) (fun y x => { x with a5R:=y }) (fun _=>rfl) (fun _ _=>rfl)
structure j9 where
 L:(List Int)
 At:Int
def j9.f (x:j9):(List Int)×Int×Unit:=(x.L,x.At,())
instance:Inhabited j9:=⟨⟨default,default⟩⟩
instance:p6 j9:=p6.via j9.f
instance:J3 j9:=J3.via j9.f rfl
def j9.l0:p5 j9 (List Int):=p5.via j9.f p5.fst (fun x=>x.L) (fun y x => { x with L:=y }) (fun _=>rfl) (fun _ _=>rfl)
def j9.l1:p5 j9 Int:=p5.via j9.f (p5.snd.comp p5.fst) (fun x=>x.At) (fun y x => { x with At:=y }) (fun _=>rfl) (fun _ _=>rfl)
structure j5 where
 word:u0
 numbers:FnV
 M0:Bool
 a0r:Bool
def j5.f (x:j5):u0×FnV×Bool×Bool×Unit:=(x.word,x.numbers,x.M0,x.a0r,())
instance:Inhabited j5:=⟨⟨default,default,default,default⟩⟩
instance:p6 j5:=p6.via j5.f
instance:J3 j5:=J3.via j5.f rfl
def j5.l0:p5 j5 u0:=p5.via j5.f p5.fst (fun x=>x.word) (fun y x => { x with word:=y }) (fun _=>rfl) (fun _ _=>rfl)
def j5.l1:p5 j5 FnV:=p5.via j5.f (p5.snd.comp p5.fst) (fun x=>x.numbers) (fun y x => { x with numbers:=y }) (fun _=>rfl) (fun _ _=>rfl)
def j5.l2:p5 j5 Bool:=p5.via j5.f (p5.snd.comp (p5.snd.comp p5.fst)) (fun x=>x.M0) (fun y x => { x with M0:=y }) (fun _=>rfl) (fun _ _=>rfl)
def j5.l3:p5 j5 Bool:=p5.via j5.f (p5.snd.comp (p5.snd.comp (p5.snd.comp p5.fst))) (fun x=>x.a0r) (fun y x => { x with a0r:=y }) (fun _=>rfl) (fun _ _=>rfl)
structure a6z where
 s:u0
end Go.Mac
namespace Go.Ab
open Go.Fl Go.RowKit
open p6 (rep)
def Clo (P:Program) {ι:Type} (ags:ι→List AV) (r:ι→AV) (I:Im) (u:Value):Prop :=
 ∃ f fi ca,u = .func (.func f) fi ca∧∀ J,Le I J→∀ i vs,P5 J (ags i) vs→Fun P f (fi++vs.toArray++ca) J (fun v K=>D2 K (r i) v)
theorem Clo.mono {P:Program} {ι:Type} {ags:ι→List AV} {r:ι→AV} {I J:Im} {u:Value} (hle:Le I J) (h:Clo P ags r I u):Clo P ags r J u:=by
 obtain⟨f,fi,ca,h1,h2⟩:=h
 exact⟨f,fi,ca,h1,fun K hk=>h2 K (hle.trans hk)⟩
def AV.clo (P:Program) {ι:Type} (ags:ι→List AV) (r:ι→AV):AV := .pr (Clo P ags r) Clo.mono
def AV.a9j (P:Program) {α β:Type} [p6 α] [p6 β] (g:α→β):AV := .clo P (fun x:α => [.v x]) (fun x => .v (g x))
theorem a6A {P : Program} {f : FuncId} {fi ca : Array Value} (ok : O5 P f) {a : Act} {w : World} {o : Oper} {F : Operand} {args : Array Operand} {tys : Array TypeId} (ho : o.op = .call ⟨.value F, args, tys⟩)
    (hF:a.eval F = .func (.func f) fi ca) {vs:List Value} (hv:args.toList.map a.eval=vs):(execOp a.eval o).run P w = .ok (.enter f (fi++vs.toArray++ca)) w:=by
  obtain⟨fn,h1,h2,h3⟩:=ok.ok
  subst hv
  have hargs:args.map a.eval=(args.toList.map a.eval).toArray:=by cases args;simp
  have h2':¬fn.name = "runtime.NumGoroutine" := by simpa using h2
  have h3':fn.body≠none:=by intro e;simp [e] at h3
  simp [execOp,ho,resolve,Deferred.ofValue,hF,invoke,callFunc,program,Sem.run,h1,h2',h3',←hargs]
theorem OpX.b4i {P : Program} {N : Nat} {ρ : Env} {I : Im} {L : Lh} {f : FuncId} {fi ca : Array Value} {d : Option Nat} {F : Operand} {args : Array Operand} {tys : Array TypeId} {ty : TypeId} {ps : String} {af : Array Edge} {g : Option (Nat × Bool)} {vs : List Value}
    {post:Value→Im→Prop} {K:Value→Im→Lh→Prop} (hF:ev ρ F=some (.func (.func f) fi ca)) (hv:evL ρ args.toList=some vs) (h:Fun P f (fi++vs.toArray++ca) I post)
    (k:∀ v J,Le I J→post v J→K v J []):OpX P N ⟨d,.call ⟨.value F,args,tys⟩,ty,ps,af,g⟩ ρ I L K:=fun a w ha hm=>by
  rw [a6A h.ok rfl (ha.ev hF) (ha.evL hv)]
  refine(h.run w hm.drop).mono ?_
  rintro e w' ⟨v,J,rfl,hc,hle,hn,hm',hp⟩
  refine⟨v,rfl,J,[],hc,hle,hn,?_,by simp,k v J hle hp⟩
  have hlt:∀ p∈L.flatten,p.1 < w.heap.size:=fun p hp=>A8 (hm.loc p hp)
  refine⟨hm'.im,fun p hp=>(hc.block p.1 (hlt p hp) (by simp)).trans (hm.loc p hp),fun p hp => ?_,hm.nodup⟩
  cases hj:J p.1 with
  | none=>rfl
  | some o=>exact absurd (hn p.1 (hm.sep p hp) (by simp [hj])) (by have:=hlt p hp;omega)
section clo
variable {P:Program} {C:Ctx} {N:Nat} {σ:u5} {H:j6} {G:Gl} {f:FuncId} {d:Option Nat} {args:Array Operand} {tys:Array TypeId} {ty:TypeId} {ps:String} {af:Array Edge} {g:Option (Nat×Bool)} {K:AV→Prop}
theorem j7.b1A {ι : Type} {ags : ι → List AV} {r : ι → AV} {t : Nat} (i : ι) (ht : C9 σ t = some (.clo P ags r)) (hv : a0C C σ H args.toList (ags i)) (k : K (r i)) :
    j7 P N C ⟨d,.call ⟨.value (.tmp t),args,tys⟩,ty,ps,af,g⟩ σ H K:=fun ρ I L hs=>by
  obtain⟨u,h1,f,fi,ca,rfl,h2⟩:=hs.env t _ ht
  obtain⟨vs,h3,h4⟩:=hv.get hs
  exact OpX.b4i (F := .tmp t) h1 h3 (h2 I (Le.refl I) i vs h4) fun v J hle h5=>⟨rfl,r i,h5,k⟩
theorem j7.a6B {α β : Type} [p6 α] [p6 β] {g1 : α → β} {x : α} {t : Nat} {a : Operand} (ht : C9 σ t = some (.a9j P g1)) (ha : A7 C σ H a (.v x)) (k : K (.v (g1 x))) :
    j7 P N C ⟨d,.call ⟨.value (.tmp t),#[a],tys⟩,ty,ps,af,g⟩ σ H K := .b1A (ags:=fun x:α => [.v x]) (r:=fun x => .v (g1 x)) x ht (.cons ha .nil) k
theorem P5.append {I:Im}:∀ {ags bs:List AV} {vs ws:List Value},P5 I ags vs→P5 I bs ws→P5 I (ags++bs) (vs++ws)
 | [],_,_,_,h,k=>by simp [P5] at h;subst h;simpa using k
 | a::ags,_,_,_,h,k=>by obtain⟨v,r,rfl,h2,h3⟩:=h;exact⟨v,r++_,rfl,h2,h3.append k⟩
theorem j7.b4j (hG : G.p C.I0) {ι : Type} {ags : ι → List AV} {r : ι → AV} {caps : List AV} (h : ∀ i, y6 G P f (ags i ++ caps) (fun x => x = r i)) (hv : a0C C σ H args.toList caps) (k : K (.clo P ags r)) :
    j7 P N C ⟨d,.makeFunc (.func f) #[] args,ty,ps,af,g⟩ σ H K := .ofV (.clo P ags r) (fun ρ I L hs=>fun a w ha hm=>by
      obtain⟨vs,h1,h2⟩:=hv.get hs
      have e:=ha.evL h1
      have hargs:args.map a.eval=vs.toArray:=by rw [←e];cases args;simp
      refine⟨.func (.func f) #[] vs.toArray,⟨f,#[],vs.toArray,rfl,fun J hle i ws hw => ?_⟩,by simp [execOp,Instr.makeFunc,hargs]⟩
      have h3:=h i J (ws++vs) (G.mono (hs.U0.trans hle) hG) (hw.append (h2.mono hle))
      simp only [List.append_toArray]
      exact h3.mono fun v K _ ⟨x,h4,h5⟩=>h5▸h4) k
theorem j7.b2Z (hG : G.p C.I0) {α β : Type} [p6 α] [p6 β] {g1 : α → β} {caps : List AV} (h : ∀ x, y6 G P f (.v x :: caps) (fun r => r = .v (g1 x))) (hv : a0C C σ H args.toList caps) (k : K (.a9j P g1)) :
    j7 P N C ⟨d,.makeFunc (.func f) #[] args,ty,ps,af,g⟩ σ H K := .b4j hG (ags:=fun x:α => [.v x]) (r:=fun x => .v (g1 x)) h hv k
theorem A7.b5v (hG:G.p C.I0) {ι:Type} {ags:ι→List AV} {r:ι→AV} (h:∀ i,y6 G P f (ags i) (fun x=>x=r i)):A7 C σ H (.func f) (.clo P ags r):=fun ρ I L hs =>
 ⟨_,rfl,f,#[],#[],rfl,fun J hle i ws hw=>by
  simp only [Array.empty_append,Array.append_empty]
  exact(h i J ws (G.mono (hs.U0.trans hle) hG) hw).mono fun v K _ ⟨x,h4,h5⟩=>h5▸h4⟩
end clo
end Go.Ab
namespace Go.Ab
open Go.Fl Go.RowKit
open p6 (rep)
section rules
variable {P:Program} {C:Ctx} {N:Nat} {σ:u5} {H:j6} {d:Option Nat} {ty:TypeId} {ps:String} {af:Array Edge} {g:Option (Nat×Bool)} {K:AV→Prop} {KH:AV→j6→Prop} {x y z:Operand} {T T2 E S D U:TypeId}
theorem a3k:∀ (l:List UInt8) (s:ByteArray),(l.map (fun c=>(c.toNat:Int))).foldl (fun r n=>r.push (UInt8.ofNat n.toNat)) s=⟨s.data++l.toArray⟩
 | [],s=>by simp
 | c::l,s=>by
  rw [List.map_cons,List.foldl_cons,a3k l]
  simp [ByteArray.push]
theorem j7.a2r {l : List UInt8} (hS : P.underlying S = some (.slice E)) (hE : P.underlying E = some (.int .u8)) (hD : P.underlying D = some .string) (hx : A7 C σ H x (.v l)) (k : K (.v (u0.mk l))) :
    j7 P N C ⟨d,.convert S D x,ty,ps,af,g⟩ σ H K :=
  .vk k (fun ρ I L hs => .mk ⟨[.string ⟨l.toArray⟩], ⟨⟨_, rfl, by simp⟩, by
      obtain⟨u,h1,xs,⟨a,c,rfl,h2,h3,h4,_⟩,_⟩:=hx.sl hs
      unfold maxLen at h4;show l.length≤_;omega⟩,rfl⟩ fun ac w ha hm=>by
    obtain⟨u,h1,xs,hsl,hl⟩:=hx.sl hs
    obtain rfl:=a5N.1 hl
    obtain⟨a,c,rfl,h2,h3,h4,h5,h6⟩:=hsl
    have hrun:(convert S D (.slice a l.length c)).run P w = .ok (.string ⟨l.toArray⟩) w:=by
      rw [run_convert_bytes_string w S D E a l.length c hS hE hD]
      cases a with
      | none =>
        have hc:=h5 rfl
        have:l = []:=List.eq_nil_of_length_eq_zero (by omega)
        subst this
        simp [Conv.bytesToString];rfl
      | some ad =>
        have hload:(loadCells ad l.length).run P w = .ok ((l.map (fun c=>(c.toNat:Int))).map (Value.int .u8)).toArray w:=by
          have h7:=run_loadCells_list (P:=P) w ad (a0V l) (fun j v hj=>by
            have hne:a0V l ≠ []:=by intro e;simp [e] at hj
            obtain⟨b,o,hab,hcl⟩:=h6 hne
            cases hab
            have:=hcl.cell hm hj
            have hplain:(⟨b,o,none⟩:Addr).add j=⟨b,o+j,none⟩:=by unfold Addr.add;split<;>simp_all
            rw [hplain];exact this)
          have e1:(a0V l).length=l.length:=by simp [a0V]
          have e2:(l.map (fun c=>(c.toNat:Int))).map (Value.int .u8)=a0V l:=by simp [a0V,Fl.u8]
          rw [e1] at h7
          rw [e2];exact h7
        rw [run_bytesToString w ad l.length c _ hload,a3k]
        simp [ByteArray.empty,ByteArray.emptyWithCapacity]
        rfl
    simp [execOp,ha.ev h1,hrun,asV,p6.agg])
end rules
end Go.Ab
namespace Go.Ab
open Go.Fl Go.RowKit
open p6 (rep)
structure a9k (P : Program) (C : Ctx) (N n : Nat) (l : List Oper) (ci : List Nat) (σ0 : u5) (accP : List (Nat × AV)) (Inv : Array Bool → List (Nat × AV) → j6 → Prop) (ρ0 : Env) (I : Im)
    (listed:Array Bool) (cacc:List (Nat×AV)) (H:j6) (J:Im) (L:Lh) (vs:Nat→Value) (a:Act) (w:World):Prop where
  head:HeadInv .any l.toArray n listed
  le:Le I J
  U0:Le C.I0 J
  st:St C J L w
  heap:P2 C.w0.heap.size J H L
  pl:Inv listed cacc H
  keys:∀ j r,o0 cacc j=some r→j∈ci
  fresh:∀ j r,o0 cacc j=some r→listed.getD j false=true
  prom:∀ j r r0,o0 cacc j=some r→o0 accP j=some r0→r=r0
  b0g:∀ j,j∈ci→listed.getD j false=true→∃ r,o0 cacc j=some r
  val:∀ j,j < n→listed.getD j false=true→∃ r,o0 (cacc++accP) j=some r∧D2 J r (vs j)
  defers:a.defers = []
  size:a.tmps.size=N
  a2k:∀ j d,j < n→listed.getD j false=true→(l.toArray[j]?).bind (·.dst)=some d→a.tmps[d]?=some (vs j)
  a3W:∀ t v,Fl.look ρ0 t=some v→(∀ j,j < n→listed.getD j false=true→(l.toArray[j]?).bind (·.dst)≠some t)→a.tmps[t]?=some v
section
variable {P:Program} {C:Ctx} {N n:Nat} {l:List Oper} {ci:List Nat} {ss:List (List (Nat×Nat))} {σ0:u5} {ι:Type 1} {HT:Nat→ι→j6} {accP:List (Nat×AV)} {Inv:Array Bool→List (Nat×AV)→j6→Prop} {ρ0:Env} {I:Im} {L0:Lh} {H0:j6}
theorem a9k.step {listed : Array Bool} {cacc : List (Nat × AV)} {H : j6} {J : Im} {L : Lh} {vs : Nat → Value} {a : Act} {w : World} {Q' : Exit → Act → World → Prop}
    (h0:S5 C I L0 σ0 H0 ρ0) (hN:H7 N l=true) (hok:∀ i,i < n→T4 l.toArray n ss i=true) (hdst:a2o l.toArray n=true)
    (hfam:∀ listed cacc H i,Inv listed cacc H→i < n→i∉ci→listed.getD i false=false→∃ q,H=HT i q) (hpure:∀ listed cacc H i,Inv listed cacc H→i∉ci→Inv (listed.setIfInBounds i true) cacc H)
    (hstep:∀ listed cacc H i o s,Inv listed cacc H→i∈ci→l[i]?=some o→ss[i]?=some s→listed.getD i false=false→(∀ j,Region.waitsFor .any l.toArray i j=true→listed.getD j false=true)→i < listed.size →
      o.guard=none∧A9 P C N o (A5 σ0 (cacc++accP) s (y5 o)) H (fun r H'=>(∀ r0,o0 accP i=some r0→r=r0)∧Inv (listed.setIfInBounds i true) ((i,r)::cacc) H'))
    (hp:∀ i o s,i < n→i∉ci→l[i]?=some o→ss[i]?=some s→∃ r,o0 accP i=some r∧Z4 P N C σ0 (HT i) accP o s r)
    (inv:a9k P C N n l ci σ0 accP Inv ρ0 I listed cacc H J L vs a w) {i:Nat} (hr:i∈Region.ready .any l.toArray listed) (hin:i < n)
    {K:Act→World→Prop} (hK:∀ cacc H J L vs a' w,a9k P C N n l ci σ0 accP Inv ρ0 I (listed.setIfInBounds i true) cacc H J L vs a' w→K a' w) :
    wpOpIn C.fen 0 P l.toArray Q' i K a w:=by
  obtain⟨hun,o,ho,hall⟩:=mem_ready.1 hr
  have hol:l[i]?=some o:=by simpa using ho
  have hok':=hok i hin
  unfold T4 at hok'
  simp only [ho] at hok'
  cases hs:ss[i]? with
  | none=>simp [hs] at hok'
  | some s =>
  simp only [hs,Bool.and_eq_true] at hok'
  obtain⟨hreads,hguard⟩:=hok'
  have hdN:∀ d,o.dst=some d→d < N:=fun d hod=>by
    have:=List.all_eq_true.1 hN o (List.mem_of_getElem? hol)
    rw [hod] at this
    simpa [Nat.blt_eq] using this
  have hlisted:∀ j,Region.waitsFor .any l.toArray i j=true→listed.getD j false=true:=fun j hw=>by
    obtain⟨e,he,hb,heq⟩:=R4 ho hw
    exact heq▸hall e he hb
  have hilt:i < listed.size:=by
    rcases Nat.lt_or_ge i listed.size with h'|h'
    · exact h'
    · simp [Array.getElem?_eq_none h'] at hun
  have hiun:listed.getD i false=false:=getD_both hun
  have hnot:∀ j,Region.waitsFor .any l.toArray j i=true→listed.getD j false=true→False:=fun j hw hl=>by
    obtain⟨oj,hoj,e,he,hb,heq⟩:=Region.waitsFor_spec hw
    have:=inv.head.closed j oj hoj hl e he hb
    rw [heq,hiun] at this
    cases this
  let g:Nat→Option Value:=fun t=>match E9 s t with|some j=>some (vs j)|none=>Fl.look ρ0 t
  have hsrcl:∀ t∈y5 o,∀ j,E9 s t=some j→j < n∧listed.getD j false=true∧(l.toArray[j]?).bind (·.dst)=some t:=fun t ht j hj=>by
    have hro:=List.all_eq_true.1 hreads t ht
    unfold S7 at hro
    simp only [hj,Bool.and_eq_true,beq_iff_eq] at hro
    exact⟨by simpa [Nat.blt_eq] using hro.1.1,hlisted j hro.2,hro.1.2⟩
  have hfits:Fits N (S8 g (y5 o)) a:=by
    refine⟨inv.defers,inv.size,fun t v hv => ?_⟩
    obtain⟨hmem,hg⟩:=U6 hv
    cases hsrc:E9 s t with
    | some j =>
      obtain⟨h1,h2,h3⟩:=hsrcl t hmem j hsrc
      have hgv:vs j=v:=by simpa [g,hsrc] using hg
      rw [←hgv]
      exact inv.a2k j t h1 h2 h3
    | none =>
      have hro:=List.all_eq_true.1 hreads t hmem
      unfold S7 at hro
      simp only [hsrc] at hro
      refine inv.a3W t v (by simpa [g,hsrc] using hg) fun j hj hl hdj => ?_
      have h1:=List.all_eq_true.1 hro j (List.mem_range.2 hj)
      simp only [hdj,beq_self_eq_true,Bool.not_true,Bool.false_or,Bool.or_eq_true,beq_iff_eq] at h1
      rcases h1 with h1|h1
      · subst h1;rw [hiun] at hl;cases hl
      · exact hnot j h1 hl
  have henv:∀ t b,C9 (A5 σ0 (cacc++accP) s (y5 o)) t=some b→∃ u,Fl.look (S8 g (y5 o)) t=some u∧D2 J b u:=fun t b hb=>by
    obtain⟨hmem,hb2⟩:=U9 hb
    cases hsrc:E9 s t with
    | some j =>
      simp only [hsrc] at hb2
      obtain⟨h1,h2,_⟩:=hsrcl t hmem j hsrc
      obtain⟨r,h3,h4⟩:=inv.val j h1 h2
      rw [hb2] at h3
      cases h3
      exact⟨vs j,by rw [H3 hmem];simp [g,hsrc],h4⟩
    | none =>
      simp only [hsrc] at hb2
      obtain⟨u,h1,h2⟩:=h0.env t b hb2
      exact⟨u,by rw [H3 hmem];simpa [g,hsrc] using h1,h2.mono inv.le⟩
  have hR:S5 C J L (A5 σ0 (cacc++accP) s (y5 o)) H (S8 g (y5 o)):=⟨henv,inv.heap,inv.U0⟩
  have hput:∀ j,j≠i→(listed.setIfInBounds i true).getD j false=listed.getD j false:=fun j hj=>getD_set_ne false (Ne.symm hj)
  have hdne:∀ j,j < n→j≠i→∀ d',(l.toArray[j]?).bind (·.dst)=some d'→o.dst≠some d':=by
    intro j hj hji d' hd' hod
    have hdi:(l.toArray[i]?).bind (·.dst)=some d':=by rw [ho];exact hod
    rcases Nat.lt_or_gt_of_ne hji with h1|h1
    · have:=List.all_eq_true.1 (List.all_eq_true.1 hdst i (List.mem_range.2 hin)) j (List.mem_range.2 h1)
      rw [hdi,hd'] at this
      simp at this
    · have:=List.all_eq_true.1 (List.all_eq_true.1 hdst j (List.mem_range.2 hj)) i (List.mem_range.2 h1)
      rw [hdi,hd'] at this
      simp at this
  -- what a finished operation does
  have fin : ∀ v J' L' H' cacc' w' r, Le J J' → St C J' L' w' → P2 C.w0.heap.size J' H' L' → D2 J' r v → o0 (cacc' ++ accP) i = some r → (∀ j, j ≠ i → o0 (cacc' ++ accP) j = o0 (cacc ++ accP) j) →
      Inv (listed.setIfInBounds i true) cacc' H'→(∀ j r,o0 cacc' j=some r→j∈ci)→(∀ j r r0,o0 cacc' j=some r→o0 accP j=some r0→r=r0)→(∀ j,j∈ci→(listed.setIfInBounds i true).getD j false=true→∃ r,o0 cacc' j=some r)→(∀ j r,o0 cacc' j=some r→(listed.setIfInBounds i true).getD j false=true)→K (a.put o.dst v) w':=by
    intro v J' L' H' cacc' w' r hle hst hH hv hri hrj hpl hkeys hprom hproL hfresh
    refine hK cacc' H' J' L' (fun j=>if j=i then v else vs j) _ _ ⟨inv.head.set hr hin,inv.le.trans hle,inv.U0.trans hle,hst,hH,hpl,hkeys,hfresh,hprom,hproL,fun j hj hl => ?_,?_,?_,fun j d' hj hl hd' => ?_,fun t u hu hno => ?_⟩
    · by_cases hji:j=i
      · subst hji
        exact⟨r,hri,by simpa using hv⟩
      · rw [hput j hji] at hl
        obtain⟨q,h1,h2⟩:=inv.val j hj hl
        exact⟨q,(hrj j hji).trans h1,by simpa [hji] using h2.mono hle⟩
    · rw [put_defers];exact inv.defers
    · rw [a6y];exact inv.size
    · by_cases hji:j=i
      · subst hji
        have hod:o.dst=some d':=by rw [ho] at hd';exact hd'
        rw [hod,put_eq _ _ (by rw [inv.size];exact hdN d' hod),if_pos rfl]
      · rw [hput j hji] at hl
        rw [a5O _ _ (hdne j hj hji d' hd'),if_neg hji]
        exact inv.a2k j d' hj hl hd'
    · rw [a5O _ _ (fun hod=>hno i hin (C8 hilt) (by rw [ho];exact hod))]
      refine inv.a3W t u hu fun j hj hl=>hno j hj ?_
      by_cases hji:j=i
      · subst hji;rw [hiun] at hl;cases hl
      · rw [hput j hji];exact hl
  -- the guard
  have hgrd:∀ gi want,o.guard=some (gi,want)→∀ b,o0 accP gi=some (.v b)→yielded l.toArray a.tmps gi=some b:=fun gi want hg b hb=>by
    rw [hg] at hguard
    simp only [Bool.and_eq_true] at hguard
    have hgn:gi < n:=by simpa [Nat.blt_eq] using hguard.1.1
    have hgl:=hlisted gi hguard.1.2
    obtain⟨r,h1,h2⟩:=inv.val gi hgn hgl
    have hr2:r = .v b:=by
      rw [x8] at h1
      cases hc:o0 cacc gi with
      | some q =>
        rw [hc] at h1
        cases h1
        exact inv.prom gi _ _ hc hb
      | none =>
        rw [hc] at h1
        simp only at h1
        rw [hb] at h1
        exact(Option.some.inj h1).symm
    subst hr2
    obtain⟨cs,rfl,hvs⟩:=h2
    obtain⟨dg,hdg0⟩:=Option.isSome_iff_exists.1 hguard.2
    obtain⟨og,hog,hdg⟩:=Option.bind_eq_some_iff.1 hdg0
    have htg:=inv.a2k gi dg hgn hgl (by rw [hog];exact hdg)
    rw [hvs] at htg
    unfold yielded
    rw [hog]
    simp only [Option.bind_some,hdg,htg]
    rfl
  unfold wpOpIn
  simp only [ho]
  by_cases hic:i∈ci
  · obtain⟨hgn,hop⟩:=hstep listed cacc H i o s inv.pl hic hol hs hiun hlisted hilt
    have hcn:o0 cacc i=none:=by
      cases hc:o0 cacc i with
      | none=>rfl
      | some q=>exact absurd (inv.fresh i q hc) (by rw [hiun];decide)
    have hself:∀ r,o0 (((i,r)::cacc)++accP) i=some r:=fun r=>by rw [x8,u4,if_pos rfl]
    have hoth:∀ r j,j≠i→o0 (((i,r)::cacc)++accP) j=o0 (cacc++accP) j:=fun r j hj=>by rw [x8,x8,u4,if_neg (Ne.symm hj)]
    have hkeys:∀ r,∀ j q,o0 ((i,r)::cacc) j=some q→j∈ci:=fun r j q hq=>by
      rw [u4] at hq
      by_cases e:i=j
      · subst e;exact hic
      · rw [if_neg e] at hq;exact inv.keys j q hq
    have hfresh:∀ r,∀ j q,o0 ((i,r)::cacc) j=some q→(listed.setIfInBounds i true).getD j false=true:=fun r j q hq=>by
      rw [u4] at hq
      by_cases e:i=j
      · subst e;exact C8 hilt
      · rw [if_neg e] at hq;rw [hput j (Ne.symm e)];exact inv.fresh j q hq
    have hprom:∀ r,(∀ r0,o0 accP i=some r0→r=r0)→∀ j q r0,o0 ((i,r)::cacc) j=some q→o0 accP j=some r0→q=r0:=fun r hr0 j q r0 hq h0=>by
      rw [u4] at hq
      by_cases e:i=j
      · subst e;rw [if_pos rfl] at hq;cases hq;exact hr0 r0 h0
      · rw [if_neg e] at hq;exact inv.prom j q r0 hq h0
    have hproL:∀ r,∀ j,j∈ci→(listed.setIfInBounds i true).getD j false=true→∃ q,o0 ((i,r)::cacc) j=some q:=fun r j hj hl=>by
      by_cases e:i=j
      · subst e;exact⟨r,by rw [u4,if_pos rfl]⟩
      · rw [hput j (Ne.symm e)] at hl
        obtain⟨q,hq⟩:=inv.b0g j hj hl
        exact⟨q,by rw [u4,if_neg e];exact hq⟩
    rw [if_pos (by simp [Region.wanted,hgn])]
    refine Yld.wp ((hop _ J L hR a w hfits inv.st).mono ?_)
    rintro v w' ⟨J',L',hst,hle,r,H',h1,h2,h3,h4⟩
    exact fin v J' L' H' ((i,r)::cacc) w' r hle hst h2 h1 (hself r) (hoth r) h4 (hkeys r) (hprom r h3) (hproL r) (hfresh r)
  · obtain⟨r,hri,hd⟩:=hp i o s hin hic hol hs
    have hcn:∀ j,j∉ci→o0 cacc j=none:=fun j hj=>by
      cases hc:o0 cacc j with
      | none=>rfl
      | some q=>exact absurd (inv.keys j q hc) hj
    have hself:o0 (cacc++accP) i=some r:=by rw [x8,hcn i hic];exact hri
    have hRq:S5 C J L (A5 σ0 accP s (y5 o)) H (S8 g (y5 o)):=hR.sub fun t b hb=>by
      obtain⟨hmem,hb2⟩:=U9 hb
      refine a1B ?_ hmem
      cases hsrc:E9 s t with
      | none=>simp only [hsrc] at hb2 ⊢;exact hb2
      | some j =>
        simp only [hsrc] at hb2 ⊢
        rw [x8]
        cases hc:o0 cacc j with
        | none=>exact hb2
        | some q=>exact congrArg some (inv.prom j q b hc hb2)
    have hproL:∀ j,j∈ci→(listed.setIfInBounds i true).getD j false=true→∃ q,o0 cacc j=some q:=fun j hj hl=>by
      have:j≠i:=by rintro rfl;exact hic hj
      rw [hput j this] at hl;exact inv.b0g j hj hl
    have hfresh:∀ j q,o0 cacc j=some q→(listed.setIfInBounds i true).getD j false=true:=fun j q hq=>by
      have:j≠i:=by rintro rfl;exact hic (inv.keys j q hq)
      rw [hput j this];exact inv.fresh j q hq
    obtain⟨Hp,hHp⟩:=hfam _ _ _ i inv.pl hin hic hiun
    have hdH:=hd Hp
    rw [←hHp] at hdH
    unfold a1P at hdH
    have run:∀ (c:AV),j7 P N C o (A5 σ0 accP s (y5 o)) H (fun r'=>r'=c)→(∀ J' u,D2 J' c u→D2 J' r u)→o.wpIn C.fen 0 P a w K Q':=fun c h hcr=>by
      refine Yld.wp ((h _ J L hRq a w hfits inv.st.mem).mono ?_)
      rintro v w' ⟨J',X,hc,hle,hn,hm,hX,rfl,r',h1,rfl⟩
      have hst:=(inv.st.step hc hle hn hm hX)
      rw [List.nil_append] at hst
      exact fin v J' L H cacc w' r hle hst (inv.heap.mono hle) (hcr _ _ h1) hself (fun j hj=>rfl) (hpure _ _ _ i inv.pl hic) inv.keys inv.prom hproL hfresh
    cases hg:o.guard with
    | none =>
      rw [hg] at hdH
      rw [if_pos (by simp [Region.wanted,hg])]
      exact run r hdH (fun _ _ h=>h)
    | some gw =>
      obtain⟨gi,want⟩:=gw
      rw [hg] at hdH
      obtain⟨b,c,hb,rfl,h2⟩:=hdH
      have hy:=hgrd gi want hg b hb
      by_cases hbw:b=want
      · rw [if_pos (by simp [Region.wanted,hg,hy,hbw])]
        exact run c (h2 hbw) (fun _ _ h _=>h)
      · have hwf:¬Region.wanted o (yielded l.toArray a.tmps)=true:=by simpa [Region.wanted,hg,hy] using hbw
        rw [if_neg hwf]
        refine⟨fun _ _=>trivial,?_⟩
        exact fin undef J L H cacc w (.opt (b == want) c) (Le.refl J) inv.st inv.heap (fun hc=>absurd (by simpa using hc) hbw) hself (fun j hj=>rfl) (hpure _ _ _ i inv.pl hic) inv.keys inv.prom hproL hfresh
theorem a8D {Q' : Exit → Act → World → Prop} (h0 : S5 C I L0 σ0 H0 ρ0) (hN : H7 N l = true) (hback : X6 l.toArray = true) (hok : ∀ i, i < n → T4 l.toArray n ss i = true) (hdst : a2o l.toArray n = true)
    (hfam:∀ listed cacc H i,Inv listed cacc H→i < n→i∉ci→listed.getD i false=false→∃ q,H=HT i q) (hpure:∀ listed cacc H i,Inv listed cacc H→i∉ci→Inv (listed.setIfInBounds i true) cacc H)
    (hstep:∀ listed cacc H i o s,Inv listed cacc H→i∈ci→l[i]?=some o→ss[i]?=some s→listed.getD i false=false→(∀ j,Region.waitsFor .any l.toArray i j=true→listed.getD j false=true)→i < listed.size →
      o.guard=none∧A9 P C N o (A5 σ0 (cacc++accP) s (y5 o)) H (fun r H'=>(∀ r0,o0 accP i=some r0→r=r0)∧Inv (listed.setIfInBounds i true) ((i,r)::cacc) H'))
    (hp:∀ i o s,i < n→i∉ci→l[i]?=some o→ss[i]?=some s→∃ r,o0 accP i=some r∧Z4 P N C σ0 (HT i) accP o s r)
    (hle:n≤l.length) (htail:n=l.length∨(Region.sinkB .any l.toArray n=true∧Region.chainB .any l.toArray n=true)) (hseq:Region.seqB .any l.toArray (l.length - n) n (J7 l.length n)=true)
    (hfin:∀ listed cacc H J L vs a w,a9k P C N n l ci σ0 accP Inv ρ0 I listed cacc H J L vs a w→(∀ j,j < n→listed.getD j false=true)→wpListIn C.fen 0 P l.toArray Q' (l.drop n) a w) :
    ∀ (m:Nat) (listed:Array Bool) cacc H J L vs a w,a9k P C N n l ci σ0 accP Inv ρ0 I listed cacc H J L vs a w→unl listed n=m→wpAnyIn C.fen 0 P .any l.toArray Q' (m+(l.length - n)) listed a w
  | 0,listed,cacc,H,J,L,vs,a,w,inv,hm=>by
    have hsz:listed.size=l.length:=by simpa using inv.head.size
    have hall:∀ j,j < n→listed.getD j false=true:=fun j hj=>a1Y (by omega) (a0y hm j hj)
    have heq:listed=J7 l.length n:=by
      refine Array.ext (by simp [J7,hsz]) fun j h1 h2 => ?_
      have e1:(J7 l.length n)[j]'h2=Nat.blt j n:=by simp [J7]
      rw [e1]
      by_cases hj:j < n
      · have:=hall j hj
        simp [h1] at this
        rw [this]
        exact(Nat.blt_eq▸hj:Nat.blt j n=true).symm
      · have:=inv.head.tail j (by omega) (by simp;omega)
        simp [h1] at this
        rw [this]
        cases hb:Nat.blt j n
        · rfl
        · exact absurd (Nat.blt_eq▸hb:j < n) hj
    have hw:=hfin listed cacc H J L vs a w inv hall
    have h2:=T0 (md := .any) (Q':=Q') (l.drop n) n listed a w (fun j=>by simp [List.getElem?_drop]) (by rw [heq];simpa using hseq) hw
    simpa using h2
  | m+1,listed,cacc,H,J,L,vs,a,w,inv,hm=>by
    have hsz:listed.size=l.length:=by simpa using inv.head.size
    obtain⟨i,hin,hi,hlt⟩:=a5x hm
    have hr:=Y9 hback (by simpa using inv.head.size) hi hlt
    rw [show m+1+(l.length - n)=(m+(l.length - n))+1 by omega]
    refine⟨fun h0=>(by rw [h0] at hr;cases hr),fun j hj => ?_⟩
    have hjn:j < n:=by
      rcases Nat.lt_or_ge j n with h|h
      · exact h
      · rcases htail with ht|⟨hs,hc⟩
        · obtain⟨_,o,ho,_⟩:=mem_ready.1 hj
          have:=(Array.getElem?_eq_some_iff.1 ho).1
          simp at this
          omega
        · have hnl:n < l.toArray.size:=by
            obtain⟨_,o,ho,_⟩:=mem_ready.1 hj
            have:=(Array.getElem?_eq_some_iff.1 ho).1
            omega
          exact absurd hj (tail_waits hs hc hnl inv.head _ i rfl hin hi j h)
    refine inv.step h0 hN hok hdst hfam hpure hstep hp hj hjn fun cacc' H' J' L' vs' a' w' inv' => ?_
    refine a8D h0 hN hback hok hdst hfam hpure hstep hp hle htail hseq hfin m _ cacc' H' J' L' vs' a' w' inv' ?_
    have hu:=(mem_ready.1 hj).1
    have:=a3J hu hjn
    omega
end
theorem H6.a7K {P : Program} {C : Ctx} {N : Nat} {Q : Exit → u5 → j6 → Prop} {σ : u5} {H : j6} {id : Nat} {l : List Oper} {ι : Type 1} (HT : Nat → ι → j6) (hm : P.follows .mixedOrders = true) (n : Nat) (ss : List (List (Nat × Nat))) (ci : List Nat)
    (hN:H7 N l=true) (hB:W7 l.toArray n ss=true) (full:List (Nat×AV)) (Inv:Array Bool→List (Nat×AV)→j6→Prop) (h00:Inv (Array.replicate l.toArray.size false) [] H)
    (hp:∀ i o s,i < n→i∉ci→l[i]?=some o→ss[i]?=some s→∃ r,o0 full i=some r∧Z4 P N C σ (HT i) full o s r)
    (hfam:∀ listed cacc H i,Inv listed cacc H→i < n→i∉ci→listed.getD i false=false→∃ q,H=HT i q) (hpure:∀ listed cacc H i,Inv listed cacc H→i∉ci→Inv (listed.setIfInBounds i true) cacc H)
    (hstep:∀ listed cacc H i o s,Inv listed cacc H→i∈ci→l[i]?=some o→ss[i]?=some s→listed.getD i false=false→(∀ j,Region.waitsFor .any l.toArray i j=true→listed.getD j false=true)→i < listed.size →
      o.guard=none∧A9 P C N o (A5 σ (cacc++full) s (y5 o)) H (fun r H'=>(∀ r0,o0 full i=some r0→r=r0)∧Inv (listed.setIfInBounds i true) ((i,r)::cacc) H'))
    (hfinal:∀ listed cacc H',Inv listed cacc H'→(∀ j,j < n→listed.getD j false=true)→C4 P C N l.toArray Q (l.drop n) (U1 (cacc++full) (l.take n) 0 σ) H') :
    H6 P C N (.region id l.toArray true) Q σ H:=fun ρ I L hs a w ha hst=>by
  have hB0:=hB
  simp only [W7,Bool.and_eq_true,Bool.or_eq_true] at hB
  obtain⟨⟨⟨⟨⟨hle,hback⟩,hok⟩,hdst⟩,htail⟩,hseq⟩:=hB
  have hle':n≤l.length:=by simpa using Nat.le_of_ble_eq_true hle
  have hok':∀ i,i < n→T4 l.toArray n ss i=true:=fun i hi=>List.all_eq_true.1 hok i (List.mem_range.2 hi)
  have hs':St C I L { w with drawn:=w.drawn+1 }:=⟨⟨hst.mem.im,hst.mem.loc,hst.mem.sep,hst.mem.nodup⟩,⟨hst.S4.os,hst.S4.tape,hst.S4.output,hst.S4.size,hst.S4.block⟩,hst.own,hst.U0,hst.new⟩
  refine wpIn_region_any hm ?_
  have inv0:a9k P C N n l ci σ full Inv ρ I (Array.replicate l.toArray.size false) [] H I L (fun _=>undef) a { w with drawn:=w.drawn+1 }:=by
    have hnl:∀ j,(Array.replicate l.toArray.size false).getD j false=true→False:=fun j hl=>by rw [getD_replicate_false] at hl;cases hl
    refine⟨⟨by simp,fun j oj _ hl=>(hnl j hl).elim,fun t _ ht=>getD_in (by simpa using ht) (getD_replicate_false _ _)⟩,Le.refl _,hs.U0,hs',hs.heap,h00,fun j r hj=>by simp [o0] at hj,fun j r hj=>by simp [o0] at hj,fun j r r0 hj=>by simp [o0] at hj,fun j _ hl=>(hnl j hl).elim,fun j _ hl=>(hnl j hl).elim,ha.defers,ha.size,fun j d _ hl=>(hnl j hl).elim,fun t v hv _=>ha.tmp t v hv⟩
  have hunl:unl (Array.replicate l.toArray.size false) n=n:=by
    have key:∀ k,k≤l.toArray.size→unl (Array.replicate l.toArray.size false) k=k:=by
      intro k
      induction k with
      | zero=>intro _;rfl
      | succ k ih =>
        intro hk
        rw [unl,ih (by omega),if_pos (getD_in (by simp at hk ⊢;omega) (getD_replicate_false _ _))]
    exact key n (by simpa using hle')
  have hmain:=a8D (Q':=a3S C N (qA C Q)) hs hN hback hok' hdst hfam hpure hstep hp hle'
    (by rcases htail with h | h
        · exact .inl (by simpa using h)
        · exact .inr h) (by simpa using hseq)
    (fun listed cacc H' J L' vs a' w' inv hall=>by
      have hpl:=hfinal listed cacc H' inv.pl hall
      have hNd:H7 N (l.drop n)=true:=by
        simp only [H7,List.all_eq_true] at hN ⊢
        exact fun o ho=>hN o (List.mem_of_mem_drop ho)
      have hR:S5 C J L' σ H' ρ:=⟨fun t b hb=>by obtain⟨u,h1,h2⟩:=hs.env t b hb;exact⟨u,h1,h2.mono inv.le⟩,inv.heap,inv.U0⟩
      have hget:∀ i o,(l.take n)[i]?=some o→i < n∧l[i]?=some o:=fun i o ho=>by
        have h1:=(List.getElem?_eq_some_iff.1 ho).1
        have hin:i < n:=by rw [List.length_take] at h1;omega
        rw [List.getElem?_take,if_pos hin] at ho
        exact⟨hin,ho⟩
      refine hpl (a4F vs (l.take n) 0 ρ) J L' (a3M (l.take n) 0 σ ρ hR fun i o ho => ?_) hNd a' w' (a1C inv.defers inv.size (l.take n) 0 ρ (fun i o d ho hdd => ?_) fun t v hv hno=>inv.a3W t v hv fun j hj _ hdj => ?_) inv.st
      · obtain⟨hin,_⟩:=hget i o ho
        rw [Nat.zero_add]
        exact inv.val i hin (hall i hin)
      · obtain⟨hin,ho2⟩:=hget i o ho
        rw [Nat.zero_add]
        exact inv.a2k i d hin (hall i hin) (by simp [ho2,hdd])
      · have hjl:j < l.length:=by omega
        have:(l.take n)[j]?=some l[j]:=by rw [List.getElem?_take,if_pos hj];exact List.getElem?_eq_getElem hjl
        refine hno j l[j] this ?_
        simpa [hjl] using hdj)
    n _ _ _ _ _ _ _ _ inv0 hunl
  rw [show n+(l.length - n)=l.toArray.size by simp;omega] at hmain
  exact hmain
theorem H6.b4k {P : Program} {C : Ctx} {N : Nat} {Q : Exit → u5 → j6 → Prop} {σ : u5} {H : j6} {id : Nat} {l : List Oper} {ι : Type 1} (HT : ι → j6) (hm : P.follows .mixedOrders = true) (n : Nat) (ss : List (List (Nat × Nat))) (ci : List Nat)
    (hN:H7 N l=true) (hB:W7 l.toArray n ss=true) (full:List (Nat×AV)) (Inv:Array Bool→List (Nat×AV)→j6→Prop) (h00:Inv (Array.replicate l.toArray.size false) [] H)
    (hp:∀ i o s,i < n→i∉ci→l[i]?=some o→ss[i]?=some s→∃ r,o0 full i=some r∧Z4 P N C σ HT full o s r)
    (hfam:∀ listed cacc H,Inv listed cacc H→∃ q,H=HT q) (hpure:∀ listed cacc H i,Inv listed cacc H→i∉ci→Inv (listed.setIfInBounds i true) cacc H)
    (hstep:∀ listed cacc H i o s,Inv listed cacc H→i∈ci→l[i]?=some o→ss[i]?=some s→listed.getD i false=false→(∀ j,Region.waitsFor .any l.toArray i j=true→listed.getD j false=true)→i < listed.size →
      o.guard=none∧A9 P C N o (A5 σ (cacc++full) s (y5 o)) H (fun r H'=>(∀ r0,o0 full i=some r0→r=r0)∧Inv (listed.setIfInBounds i true) ((i,r)::cacc) H'))
    (hfinal:∀ listed cacc H',Inv listed cacc H'→(∀ j,j < n→listed.getD j false=true)→C4 P C N l.toArray Q (l.drop n) (U1 (cacc++full) (l.take n) 0 σ) H') :
    H6 P C N (.region id l.toArray true) Q σ H :=
  H6.a7K (fun _=>HT) hm n ss ci hN hB full Inv h00 hp (fun listed cacc H i h _ _ _=>hfam listed cacc H h) hpure hstep hfinal
end Go.Ab
namespace Go.Ab
open Go.Fl Go.RowKit
open p6 (rep)
structure AT where
 α:Type
 r:p6 α
 d:α
def AT.res (t:AT) (b:Nat):AV := @AV.ln t.α t.α t.r t.r (ptr b 0) (@p5.id t.α t.r)
def AT.blk (t:AT) (b:Nat):Bool×C5:=(true,@C5.ob t.α t.r (ptr b 0) t.d)
def M3:Bool×C5:=(true,.fz undef .any)
def hA (listed:Nat→Bool) (ws:Nat→Nat) (al:List (Nat×AT)):j6:=al.map fun p=>bif listed p.1 then p.2.blk (ws p.1) else M3
theorem H6.b5w {P:Program} {C:Ctx} {N:Nat} {Q:Exit→u5→j6→Prop} {σ:u5} {H:j6} {c:Code} (k:H6 P C N c Q σ (M3::H)):H6 P C N c Q σ H:=fun ρ I L hs =>
 wpS.pad (k ρ I ([]::L) ⟨hs.env,⟨[],L,rfl,⟨⟨rfl,trivial⟩,fun _ p hp=>by cases hp⟩,hs.heap⟩,hs.U0⟩)
theorem a2s {L:Lh} {i:Nat} (h:L[i]?=some []) (X:List (Nat×Obj)):(L.set i X).flatten.Perm (X++L.flatten):=by
 obtain⟨h1,h2⟩:=Y7 L i [] h X
 rw [h1,h2,List.nil_append,←List.append_assoc,←List.append_assoc]
 exact List.Perm.append_right _ List.perm_append_comm
theorem b3a {C:Ctx} {I:Im} {L M:Lh} {w:World} (h:St C I L w) (hp:M.flatten.Perm L.flatten):St C I M w :=
 ⟨⟨h.mem.im,fun p hq=>h.mem.loc p (hp.mem_iff.1 hq),fun p hq=>h.mem.sep p (hp.mem_iff.1 hq),(hp.map Prod.fst).nodup_iff.2 h.mem.nodup⟩,h.S4,fun p hq=>h.own p (hp.mem_iff.1 hq),h.U0,h.new⟩
theorem A9.b4l {P : Program} {C : Ctx} {N : Nat} {o : Oper} {σ : u5} {H : j6} {K : AV → j6 → Prop} {F : Bool × C5 → j6} (hh : C1 H M3 F)
    (h:A9 P C N o σ H (fun r H'=>∃ B,H'=B::H∧K r (F B))):A9 P C N o σ H K:=fun ρ I L hs a w ha hst=>by
  refine(h ρ I L hs a w ha hst).mono ?_
  rintro v w' ⟨J,L',q1,q2,r,H',q3,q4,B,rfl,q5⟩
  obtain⟨X,R,rfl,h1,h2⟩:=q4
  obtain⟨j,Y,h3,h4,h5⟩:=hh.get h2
  have hY:Y = []:=h4.1.1
  subst hY
  exact⟨J,R.set j X,b3a q1 (a2s h3 X),q2,r,F B,q3,h5 J B X (Le.refl J) h1,q5⟩
def rA (ws:Nat→Nat) (al:List (Nat×AT)):List (Nat×AV):=al.map fun p=>(p.1,p.2.res (ws p.1))
def upd (ws:Nat→Nat) (i b:Nat):Nat→Nat:=fun j=>if j=i then b else ws j
theorem a36 {ws:Nat→Nat}:∀ {al:List (Nat×AT)} {p:Nat×AT},(al.map Prod.fst).Nodup→p∈al→o0 (rA ws al) p.1=some (p.2.res (ws p.1))
 | q::al,p,hn,hp=>by
  rw [List.map_cons,List.nodup_cons] at hn
  show o0 ((q.1,q.2.res (ws q.1))::rA ws al) p.1=_
  rw [u4]
  rcases List.mem_cons.1 hp with rfl|hp
  ·rw [if_pos rfl]
  ·rw [if_neg (fun e=>hn.1 (by rw [e];exact List.mem_map_of_mem hp))]
   exact a36 hn.2 hp
theorem K4 {ws:Nat→Nat}:∀ {al:List (Nat×AT)} {j:Nat},j∉al.map Prod.fst→o0 (rA ws al) j=none
 | [],j,_=>rfl
 | q::al,j,h=>by
  show o0 ((q.1,q.2.res (ws q.1))::rA ws al) j=_
  rw [List.map_cons,List.mem_cons,not_or] at h
  rw [u4,if_neg (fun e=>h.1 e.symm)]
  exact K4 h.2
theorem Z5 {ws ws':Nat→Nat} {j:Nat} (h:ws j=ws' j):∀ {al:List (Nat×AT)},o0 (rA ws al) j=o0 (rA ws' al) j
 | []=>rfl
 | q::al=>by
  show o0 ((q.1,q.2.res (ws q.1))::rA ws al) j=o0 ((q.1,q.2.res (ws' q.1))::rA ws' al) j
  rw [u4,u4]
  by_cases e:q.1=j
  ·subst e;rw [if_pos rfl,if_pos rfl,h]
  ·rw [if_neg e,if_neg e];exact Z5 h
theorem a8E {f:Nat→Bool} {ws:Nat→Nat} {q:Nat×AT} {al:List (Nat×AT)}:hA f ws (q::al)=(bif f q.1 then q.2.blk (ws q.1) else M3)::hA f ws al:=rfl
theorem W2 {f g:Nat→Bool} {ws ws':Nat→Nat}:∀ {al:List (Nat×AT)},(∀ p∈al,f p.1=g p.1∧ws p.1=ws' p.1)→hA f ws al=hA g ws' al
 | [],_=>rfl
 | q::al,h=>by
  have h1:=h q List.mem_cons_self
  show(bif f q.1 then q.2.blk (ws q.1) else M3)::hA f ws al=(bif g q.1 then q.2.blk (ws' q.1) else M3)::hA g ws' al
  rw [h1.1,h1.2,W2 fun p hp=>h p (List.mem_cons_of_mem _ hp)]
theorem a7L {f:Nat→Bool} {ws:Nat→Nat} {al:List (Nat×AT)} (h:∀ p∈al,f p.1=true):hA f ws al=al.map fun p=>p.2.blk (ws p.1) :=
 List.map_congr_left fun p hp=>by rw [h p hp];rfl
theorem a5S {f : Nat → Bool} {ws : Nat → Nat} {H0 : j6} {p : Nat × AT} : ∀ {al : List (Nat × AT)}, (al.map Prod.fst).Nodup → p ∈ al → f p.1 = false →
    ∃ F,C1 (hA f ws al++H0) M3 F∧∀ b,F (p.2.blk b)=hA (fun j=>if j=p.1 then true else f j) (upd ws p.1 b) al++H0
  | q::al,hn,hp,hf=>by
    rw [List.map_cons,List.nodup_cons] at hn
    rcases List.mem_cons.1 hp with rfl|hp
    · refine⟨fun X=>X::(hA f ws al++H0),?_,fun b => ?_⟩
      · show C1 ((bif f p.1 then p.2.blk (ws p.1) else M3)::(hA f ws al++H0)) M3 _
        rw [hf];exact .z
      · rw [a8E,List.cons_append,if_pos rfl]
        show p.2.blk b::(hA f ws al++H0)=_
        rw [W2 (g:=fun j=>if j=p.1 then true else f j) (ws':=upd ws p.1 b) fun q hq => ?_]
        · simp [upd]
        · have:q.1≠p.1:=fun e=>hn.1 (by rw [←e];exact List.mem_map_of_mem hq)
          simp [upd,this]
    · obtain⟨F,h1,h2⟩:=a5S (H0:=H0) (ws:=ws) hn.2 hp hf
      have hne:q.1≠p.1:=fun e=>hn.1 (by rw [e];exact List.mem_map_of_mem hp)
      refine⟨fun X=>(bif f q.1 then q.2.blk (ws q.1) else M3)::F X,.s h1,fun b => ?_⟩
      rw [a8E,List.cons_append,if_neg hne]
      show _::F (p.2.blk b)=_
      rw [h2 b]
      simp [upd,hne]
def a0F (ops:Array Oper) (n:Nat) (ss:List (List (Nat×Nat))) (ks ci:List Nat):Bool :=
 O1 ops n ss ci&&ci.all (fun i=>match ops[i]? with|some o=>o.guard.isNone|none=>false)&&ks.all (fun i=>Nat.blt i n && !(ci.contains i)) &&
 (match ci with|i::_=>ks.all (fun j=>Region.waitsFor .any ops i j) | []=>true)
def a2T (P : Program) (C : Ctx) (N : Nat) {ι : Type 1} (HT : ι → j6) (σ : u5) (full : List (Nat × AV)) (F : List (Nat × AV) → j6 → Prop) (cl : List (Nat × Oper × List (Nat × Nat))) (al : List (Nat × AT)) (ci : List Nat) (H0 : j6)
    (listed:Array Bool) (cacc:List (Nat×AV)) (H:j6):Prop :=
  ((∀ i∈ci,listed.getD i false=false)∧∃ ws,(∀ j,o0 cacc j=if listed.getD j false=true then o0 (rA ws al) j else none)∧H=hA (fun j=>listed.getD j false) ws al++H0) ∨
  ((∀ p∈al,listed.getD p.1 false=true)∧∃ k c1,k≤ci.length∧(∀ m i,ci[m]?=some i→(listed.getD i false=true↔m < k))∧(∀ j,o0 cacc j=o0 c1 j)∧M1 P C N σ HT full F (cl.drop k) c1 H)
section
variable {P:Program} {C:Ctx} {N n:Nat} {ι:Type 1} {HT:ι→j6} {σ:u5} {full:List (Nat×AV)} {F:List (Nat×AV)→j6→Prop} {l:List Oper} {ss:List (List (Nat×Nat))} {al:List (Nat×AT)} {ci:List Nat} {H0:j6} {listed:Array Bool} {cacc:List (Nat×AV)} {H:j6}
theorem a2T.pure {i:Nat} (h:a2T P C N HT σ full F (E4 l ss ci) al ci H0 listed cacc H) (h1:i∉ci) (h2:i∉al.map Prod.fst):a2T P C N HT σ full F (E4 l ss ci) al ci H0 (listed.setIfInBounds i true) cacc H:=by
 have hput:∀ j,j≠i→(listed.setIfInBounds i true).getD j false=listed.getD j false:=fun j hj=>getD_set_ne false (Ne.symm hj)
 rcases h with ⟨ha,ws,hb,hc⟩|⟨ha,k,c1,hk,hb,hc,hd⟩
 ·refine .inl ⟨fun j hj=>by rw [hput j (fun e=>h1 (e▸hj))];exact ha j hj,ws,fun j => ?_,?_⟩
  ·by_cases e:j=i
   ·subst e
    rw [hb j,K4 h2];simp
   ·rw [hput j e];exact hb j
  ·rw [hc,W2 fun p hp=>⟨?_,rfl⟩]
   exact(hput p.1 (fun e=>h2 (e▸List.mem_map_of_mem hp))).symm
 ·refine .inr ⟨fun p hp=>by rw [hput p.1 (fun e=>h2 (e▸List.mem_map_of_mem hp))];exact ha p hp,k,c1,hk,fun m j hj => ?_,hc,hd⟩
  rw [hput j (fun e=>h1 (e▸List.mem_of_getElem? hj))];exact hb m j hj
theorem a2T.chained {i : Nat} (hch : a0F l.toArray n ss (al.map Prod.fst) ci = true) (hplan : ∀ ws, M1 P C N σ HT full F (E4 l ss ci) (rA ws al) ((al.map fun p => p.2.blk (ws p.1)) ++ H0))
    (h:a2T P C N HT σ full F (E4 l ss ci) al ci H0 listed cacc H) (hi:i∈ci) (hw:∀ j,Region.waitsFor .any l.toArray i j=true→listed.getD j false=true) :
    (∀ p∈al,listed.getD p.1 false=true)∧∃ k c1,k≤ci.length∧(∀ m i,ci[m]?=some i→(listed.getD i false=true↔m < k))∧(∀ j,o0 cacc j=o0 c1 j)∧M1 P C N σ HT full F ((E4 l ss ci).drop k) c1 H:=by
  rcases h with ⟨ha,ws,hb,hc⟩|h
  · simp only [a0F,Bool.and_eq_true] at hch
    obtain⟨⟨⟨hch,_⟩,hks⟩,hfirst⟩:=hch
    obtain⟨m,hm⟩:=List.mem_iff_getElem?.1 hi
    have hml:m < ci.length:=(List.getElem?_eq_some_iff.1 hm).1
    unfold O1 at hch
    cases m with
    | succ mj =>
      have h1:=List.all_eq_true.1 hch (mj+1) (List.mem_range.2 hml)
      simp only [hm,Bool.and_eq_true] at h1
      cases hj:ci[mj]? with
      | none=>simp [hj] at h1
      | some j =>
        simp only [hj,Bool.and_eq_true] at h1
        have h2:=hw j h1.2.2
        rw [ha j (List.mem_of_getElem? hj)] at h2;cases h2
    | zero =>
      cases hci:ci with
      | nil=>rw [hci] at hml;exact absurd hml (by simp)
      | cons c r =>
        rw [hci] at hm hfirst
        have hci2:c=i:=by simpa using hm
        subst hci2
        have hall:∀ p∈al,listed.getD p.1 false=true:=fun p hp=>hw p.1 (List.all_eq_true.1 hfirst p.1 (List.mem_map_of_mem hp))
        refine⟨hall,0,rA ws al,Nat.zero_le _,fun m j hj=>⟨fun hl => ?_,fun h=>by omega⟩,fun j => ?_,?_⟩
        · rw [ha j (by rw [hci];exact List.mem_of_getElem? hj)] at hl;cases hl
        · rw [hb j]
          split
          · rfl
          · rename_i hn
            refine(K4 fun hj => ?_).symm
            obtain⟨p,hp,rfl⟩:=List.mem_map.1 hj
            exact hn (hall p hp)
        · rw [List.drop_zero,←hci,hc,a7L hall]
          exact hplan ws
  · exact h
theorem a2T.alloc {p : Nat × AT} (hn : (al.map Prod.fst).Nodup) (hp : p ∈ al) (hd : p.1 ∉ ci) (h : a2T P C N HT σ full F (E4 l ss ci) al ci H0 listed cacc H) (hun : listed.getD p.1 false = false) (hlt : p.1 < listed.size) :
    ∃ F',C1 H M3 F'∧∀ b,a2T P C N HT σ full F (E4 l ss ci) al ci H0 (listed.setIfInBounds p.1 true) ((p.1,p.2.res b)::cacc) (F' (p.2.blk b)):=by
  have hput:∀ j,j≠p.1→(listed.setIfInBounds p.1 true).getD j false=listed.getD j false:=fun j hj=>getD_set_ne false (Ne.symm hj)
  have hset:(listed.setIfInBounds p.1 true).getD p.1 false=true:=C8 hlt
  rcases h with ⟨ha,ws,hb,hc⟩|⟨ha,_⟩
  · obtain⟨F',h1,h2⟩:=a5S (f:=fun j=>listed.getD j false) (ws:=ws) (H0:=H0) hn hp hun
    refine⟨F',hc▸h1,fun b => .inl ⟨fun j hj=>by rw [hput j (fun e=>hd (e▸hj))];exact ha j hj,upd ws p.1 b,fun j => ?_,?_⟩⟩
    · rw [u4]
      by_cases e:p.1=j
      · subst e
        rw [if_pos rfl,if_pos hset,a36 hn hp]
        simp [upd]
      · rw [if_neg e,hput j (Ne.symm e),hb j,Z5 (ws:=ws) (ws':=upd ws p.1 b) (by simp [upd,Ne.symm e])]
    · rw [h2 b]
      congr 1
      refine W2 fun q hq=>⟨?_,rfl⟩
      by_cases e:q.1=p.1
      · rw [e,if_pos rfl,hset]
      · rw [if_neg e,hput _ e]
  · rw [ha p hp] at hun;cases hun
theorem a2T.chain {i : Nat} {o : Oper} {s : List (Nat × Nat)} (hch : a0F l.toArray n ss (al.map Prod.fst) ci = true) (hcl : ∀ (m i : Nat) (o : Oper) (s : List (Nat × Nat)), ci[m]? = some i → l[i]? = some o → ss[i]? = some s → (E4 l ss ci)[m]? = some (i, o, s)) (hnd : ci.Nodup)
    (hplan:∀ ws,M1 P C N σ HT full F (E4 l ss ci) (rA ws al) ((al.map fun p=>p.2.blk (ws p.1))++H0))
    (h:a2T P C N HT σ full F (E4 l ss ci) al ci H0 listed cacc H) (hi:i∈ci) (hol:l[i]?=some o) (hs:ss[i]?=some s) (hun:listed.getD i false=false) (hw:∀ j,Region.waitsFor .any l.toArray i j=true→listed.getD j false=true) (hlt:i < listed.size) :
    o.guard=none∧A9 P C N o (A5 σ (cacc++full) s (y5 o)) H (fun r H'=>(∀ r0,o0 full i=some r0→r=r0)∧a2T P C N HT σ full F (E4 l ss ci) al ci H0 (listed.setIfInBounds i true) ((i,r)::cacc) H'):=by
  obtain⟨hall,k,c1,hk,hb,hc,hpl⟩:=h.chained hch hplan hi hw
  simp only [a0F,Bool.and_eq_true] at hch
  obtain⟨⟨⟨hch,hgs⟩,hks⟩,_⟩:=hch
  have hg:o.guard=none:=by
    have:=List.all_eq_true.1 hgs i hi
    simp only [show l.toArray[i]?=some o by simpa using hol] at this
    exact Option.isNone_iff_eq_none.1 this
  have hput:∀ j,j≠i→(listed.setIfInBounds i true).getD j false=listed.getD j false:=fun j hj=>getD_set_ne false (Ne.symm hj)
  obtain⟨m,hm⟩:=List.mem_iff_getElem?.1 hi
  have hml:m < ci.length:=(List.getElem?_eq_some_iff.1 hm).1
  have hmk:¬m < k:=fun h=>by have:=(hb m i hm).2 h;rw [hun] at this;cases this
  have hkm:m≤k:=by
    unfold O1 at hch
    cases m with
    | zero=>omega
    | succ mj =>
      have h1:=List.all_eq_true.1 hch (mj+1) (List.mem_range.2 hml)
      simp only [hm,Bool.and_eq_true] at h1
      cases hj:ci[mj]? with
      | none=>simp [hj] at h1
      | some j =>
        simp only [hj,Bool.and_eq_true] at h1
        have:=(hb mj j hj).1 (hw j h1.2.2)
        omega
  obtain rfl:m=k:=by omega
  have hcc:=hcl m i o s hm hol hs
  have hdrop:(E4 l ss ci).drop m=(i,o,s)::(E4 l ss ci).drop (m+1):=by
    have hlt:=(List.getElem?_eq_some_iff.1 hcc).1
    rw [List.drop_eq_getElem_cons hlt]
    congr 1
    rw [List.getElem?_eq_getElem hlt] at hcc
    exact Option.some.inj hcc
  rw [hdrop,M1] at hpl
  replace hpl:=hpl.2
  have henv:A5 σ (cacc++full) s (y5 o)=A5 σ (c1++full) s (y5 o):=a1l (fun t j _=>by rw [x8,x8,hc j]) _
  refine⟨hg,?_⟩
  rw [henv]
  have hnext:∀ r H',M1 P C N σ HT full F ((E4 l ss ci).drop (m+1)) ((i,r)::c1) H'→a2T P C N HT σ full F (E4 l ss ci) al ci H0 (listed.setIfInBounds i true) ((i,r)::cacc) H':=fun r H' hq=>by
    refine .inr ⟨fun p hp => ?_,m+1,(i,r)::c1,by omega,fun m' i' hm' => ?_,fun j=>by rw [u4,u4,hc j],hq⟩
    · by_cases e:p.1=i
      · rw [e];exact C8 hlt
      · rw [hput _ e];exact hall p hp
    · by_cases e:i'=i
      · subst e
        have h1:=(List.getElem?_eq_some_iff.1 hm')
        have h2:=(List.getElem?_eq_some_iff.1 hm)
        have:m'=m:=(List.getElem_inj (h₀:=h1.1) (h₁:=h2.1) hnd).1 (by rw [h1.2,h2.2])
        subst this
        exact⟨fun _=>by omega,fun _=>C8 hlt⟩
      · rw [hput i' e,hb m' i' hm']
        have:m'≠m:=by rintro rfl;rw [hm] at hm';exact e (Option.some.inj hm').symm
        omega
  cases hr:o0 full i with
  | none =>
    rw [hg,hr] at hpl
    exact hpl.mono fun r H' hq=>⟨fun r0 h0=>(by cases h0),hnext r H' hq⟩
  | some r0 =>
    rw [hg,hr] at hpl
    exact hpl.mono fun r H' ⟨e,hq⟩=>⟨fun q h0=>by cases h0;exact e,by subst e;exact hnext _ H' hq⟩
end
theorem Z6 {a b:List (Nat×AV)} (h:∀ j,o0 a j=o0 b j):∀ (os:List Oper) (k:Nat) (σ:u5),U1 a os k σ=U1 b os k σ
 | [],_,_=>rfl
 | o::os,k,σ=>by
  simp only [U1,h k]
  cases o.dst with
  | none=>exact Z6 h os _ _
  | some d =>
   cases o0 b k with
   | none=>exact Z6 h os _ _
   | some r=>exact Z6 h os _ _
theorem a8F {G:j6}:∀ (bs:List Bool) (k:Nat),K2 bs (G.drop k) (fun j=>G.getD j M3) k=G.drop k
 | [],_=>by simp [K2]
 | b::bs,k=>by
  cases hd:G.drop k with
  | nil=>rfl
  | cons B R =>
   have hB:G.getD k M3=B:=by
    have h1:G[k]?=some B:=by
     have:=congrArg (fun l:j6=>l[0]?) hd
     simpa using this
    simp [List.getD,h1]
   have hR:G.drop (k+1)=R:=by
    rw [←List.drop_drop,hd];rfl
   show(bif b then G.getD k M3 else B)::K2 bs R (fun j=>G.getD j M3) (k+1)=B::R
   rw [hB,←hR,a8F bs (k+1)]
   cases b<;>rfl
theorem H6.b3b {P:Program} {C:Ctx} {N:Nat} {Q:Exit→u5→j6→Prop} {σ:u5} {H:j6} {c:Code}:∀ {al:List (Nat×AT)},H6 P C N c Q σ ((al.map fun _=>M3)++H)→H6 P C N c Q σ H
 | [],h=>h
 | _::al,h=>H6.b3b (al:=al) (H6.b5w h)
theorem H6.b4m {P : Program} {C : Ctx} {N : Nat} {Q : Exit → u5 → j6 → Prop} {σ : u5} {H : j6} {id : Nat} {l : List Oper} (bs : List Bool) (al : List (Nat × AT)) (hm : P.follows .mixedOrders = true) (n : Nat) (ss : List (List (Nat × Nat))) (ci : List Nat)
    (hN:H7 N l=true) (hB:W7 l.toArray n ss=true) (hss:Nat.ble n ss.length=true) (hC:a0F l.toArray n ss (al.map Prod.fst) ci=true) (hnd:ci.Nodup) (hna:(al.map Prod.fst).Nodup)
    (hal:∀ p∈al,∀ o,l[p.1]?=some o→o.guard=none∧∀ σ' H',A9 P C N o σ' H' (fun r H''=>∃ b,r=p.2.res b∧H''=p.2.blk b::H'))
    (h:a0X P N C σ (fun q:j6×(Nat→Bool×C5)=>q.1++K2 bs H q.2 0) (al.map Prod.fst++ci) (fun accP=>((al.map Prod.fst).all fun i=>(o0 accP i).isNone)=true ∧
      ∀ ws:Nat→Nat,M1 P C N σ (fun q:j6×(Nat→Bool×C5)=>q.1++K2 bs H q.2 0) accP (fun cacc H'=>C4 P C N l.toArray Q (l.drop n) (U1 (cacc++accP) (l.take n) 0 σ) H') (E4 l ss ci) (rA ws al) ((al.map fun p=>p.2.blk (ws p.1))++H)) (l.take n) ss 0 []) :
    H6 P C N (.region id l.toArray true) Q σ H := .b3b (al:=al) (by
  have hB0:=hB
  simp only [W7,Bool.and_eq_true,Bool.or_eq_true] at hB
  obtain⟨⟨⟨⟨⟨hle,hback⟩,hok⟩,hdst⟩,htail⟩,hseq⟩:=hB
  have hle':n≤l.length:=by simpa using Nat.le_of_ble_eq_true hle
  have hok':∀ i,i < n→T4 l.toArray n ss i=true:=fun i hi=>List.all_eq_true.1 hok i (List.mem_range.2 hi)
  have hssl:=Nat.le_of_ble_eq_true hss
  obtain⟨full,⟨hnone,hF⟩,_,hd⟩:=a0k (l.take n) ss 0 [] (fun j r hj=>by simp [o0] at hj) h
  have hC2:=hC
  simp only [a0F,Bool.and_eq_true] at hC2
  obtain⟨⟨⟨hC',_⟩,hks⟩,_⟩:=hC2
  unfold O1 at hC'
  have hcin:∀ i∈ci,i < n:=fun i hi=>by
    obtain⟨m,hm⟩:=List.mem_iff_getElem?.1 hi
    have h1:=List.all_eq_true.1 hC' m (List.mem_range.2 (List.getElem?_eq_some_iff.1 hm).1)
    simp only [hm,Bool.and_eq_true] at h1
    simpa [Nat.blt_eq] using h1.1
  have hkin:∀ i∈al.map Prod.fst,i < n∧i∉ci:=fun i hi=>by
    have h1:=List.all_eq_true.1 hks i hi
    simp only [Bool.and_eq_true,Bool.not_eq_true',List.contains_eq_mem,decide_eq_false_iff_not] at h1
    exact⟨by simpa [Nat.blt_eq] using h1.1,h1.2⟩
  have hcl:=a1m (l:=l) (ss:=ss) ci (fun i hi=>⟨_,_,List.getElem?_eq_getElem (Nat.lt_of_lt_of_le (hcin i hi) hle'),List.getElem?_eq_getElem (Nat.lt_of_lt_of_le (hcin i hi) hssl)⟩)
  have hp:∀ i o s,i < n→i∉al.map Prod.fst++ci→l[i]?=some o→ss[i]?=some s→∃ r,o0 full i=some r∧Z4 P N C σ (fun q:j6×(Nat→Bool×C5)=>q.1++K2 bs H q.2 0) full o s r:=fun i o s hi hic ho hsi=>by
    obtain⟨r,acc',h1,h2,h3⟩:=hd i o s (by rw [List.getElem?_take,if_pos hi];exact ho) hsi (by simpa using hic)
    rw [Nat.zero_add] at h1 h3
    refine⟨r,h1,fun H' => ?_⟩
    have hoi:=hok' i hi
    unfold T4 at hoi
    have ho':l.toArray[i]?=some o:=by simpa using ho
    simp only [ho',hsi,Bool.and_eq_true] at hoi
    have hback':∀ j,Region.waitsFor .any l.toArray i j=true→j < i:=fun j hw=>by
      obtain⟨e,he,hb,heq⟩:=R4 ho' hw
      have hil:i < l.toArray.size:=(Array.getElem?_eq_some_iff.1 ho').1
      have h4:=List.all_eq_true.1 hback i (List.mem_range.2 hil)
      simp only [ho',Array.all_eq_true_iff_forall_mem] at h4
      have h5:=h4 e he
      rw [hb] at h5
      have:e.on < i:=by simpa [Nat.blt_eq] using h5
      omega
    -- sources that are no operand are looked at too
    have henv:∀ t∈y5 o,∀ j,E9 s t=some j→o0 acc' j=o0 full j:=fun t ht j hj=>by
      have h6:=List.all_eq_true.1 hoi.1 t ht
      unfold S7 at h6
      simp only [hj,Bool.and_eq_true] at h6
      exact h3 j (hback' j h6.2)
    have hdd:=h2 H'
    unfold a1P at hdd ⊢
    have he:∀ ts,(∀ t∈ts,t∈y5 o)→A5 σ acc' s ts=A5 σ full s ts:=by
      intro ts
      induction ts with
      | nil=>intro _;rfl
      | cons t ts ih =>
        intro hts
        simp only [A5]
        cases hsrc:E9 s t with
        | none=>simp only [ih (fun u hu=>hts u (List.mem_cons_of_mem _ hu))]
        | some j=>simp only [henv t (hts t List.mem_cons_self) j hsrc,ih (fun u hu=>hts u (List.mem_cons_of_mem _ hu))]
    rw [←he _ (fun t ht=>ht)]
    cases hg:o.guard with
    | none=>rw [hg] at hdd;exact hdd
    | some p =>
      obtain⟨g,want⟩:=p
      rw [hg] at hdd
      have h6:=hoi.2
      rw [hg] at h6
      simp only [Bool.and_eq_true] at h6
      simp only at hdd ⊢
      rw [←h3 g (hback' g h6.1.2)];exact hdd
  refine H6.b4k (fun q:j6×(Nat→Bool×C5)=>q.1++K2 bs H q.2 0) hm n ss (al.map Prod.fst++ci) hN hB0 full
    (a2T P C N (fun q:j6×(Nat→Bool×C5)=>q.1++K2 bs H q.2 0) σ full (fun cacc H'=>C4 P C N l.toArray Q (l.drop n) (U1 (cacc++full) (l.take n) 0 σ) H') (E4 l ss ci) al ci H) ?_ hp ?_ ?_ ?_ ?_
  · refine .inl ⟨fun i _=>getD_replicate_false _ _,fun _=>0,fun j => ?_,?_⟩
    · rw [if_neg (by rw [getD_replicate_false];decide)];rfl
    · congr 1
      exact(List.map_congr_left fun p _=>by simp only [getD_replicate_false];rfl)
  · rintro listed cacc H' (⟨_,ws,_,rfl⟩|⟨_,k,c1,_,_,_,hq⟩)
    · refine⟨(hA (fun j=>listed.getD j false) ws al,fun j=>H.getD j M3),?_⟩
      have:=a8F (G:=H) bs 0
      rw [List.drop_zero] at this
      simp only [this]
    · exact hq.tail
  · exact fun listed cacc H' i hi hni=>hi.pure (fun e=>hni (List.mem_append_right _ e)) (fun e=>hni (List.mem_append_left _ e))
  · intro listed cacc H' i o s hi hic hol hs hun hw hlt
    rcases List.mem_append.1 hic with hk|hc
    · obtain⟨p,hp,rfl⟩:=List.mem_map.1 hk
      obtain⟨hg,hop⟩:=hal p hp o hol
      obtain⟨F',h1,h2⟩:=hi.alloc hna hp (hkin _ hk).2 hun hlt
      refine⟨hg,A9.b4l h1 ((hop _ _).mono fun r H'' ⟨b,hr,hH⟩=>⟨_,hH,fun r0 h0 => ?_,by rw [hr];exact h2 b⟩)⟩
      have h3:=List.all_eq_true.1 hnone p.1 hk
      rw [h0] at h3;cases h3
    · exact hi.chain hC hcl hnd hF hc hol hs hun hw hlt
  · intro listed cacc H' hi hall
    have hfin:∃ c1,(∀ j,o0 cacc j=o0 c1 j)∧C4 P C N l.toArray Q (l.drop n) (U1 (c1++full) (l.take n) 0 σ) H':=by
      have hlen:∀ c:List Nat,(E4 l ss c).length≤c.length:=by
        intro c
        induction c with
        | nil=>exact Nat.le_refl _
        | cons i c ih =>
          simp only [E4]
          split
          · simpa using ih
          · exact Nat.le_succ_of_le ih
      rcases hi with ⟨ha,ws,hb,hc⟩|⟨ha,k,c1,hk,hb,hc,hq⟩
      · have hci:ci = []:=by
          cases hci:ci with
          | nil=>rfl
          | cons c r =>
            have h1:=hall c (hcin c (by rw [hci];exact List.mem_cons_self))
            rw [ha c (by rw [hci];exact List.mem_cons_self)] at h1;cases h1
        refine⟨rA ws al,fun j => ?_,?_⟩
        · rw [hb j]
          split
          · rfl
          · rename_i hn
            refine(K4 fun hj=>hn (hall j (hkin j hj).1)).symm
        · have hq:=hF ws
          have e:E4 l ss ci = []:=by
            have:=hlen ci
            rw [hci] at this ⊢;rfl
          rw [e,M1] at hq
          rw [hc,a7L fun p hp=>hall p.1 (hkin _ (List.mem_map_of_mem hp)).1]
          exact hq.2
      · have hk':k=ci.length:=by
          rcases Nat.lt_or_ge k ci.length with h|h
          · have:=(hb k _ (List.getElem?_eq_getElem h)).1 (hall _ (hcin _ (List.getElem_mem h)))
            omega
          · omega
        rw [hk',List.drop_eq_nil_of_le (hlen ci),M1] at hq
        exact⟨c1,hc,hq.2⟩
    obtain⟨c1,h1,h2⟩:=hfin
    rw [Z6 (b:=c1++full) fun j=>by rw [x8,x8,h1 j]]
    exact h2)
theorem P2.b2n {n0:Nat} {I:Im}:∀ (m:Nat) {H:j6} {L:Lh},P2 n0 I H L→P2 n0 I (H.drop m) (L.drop m)
 | 0,_,_,h=>h
 | m+1,[],_,h=>by simp only [P2] at h;subst h;exact(show P2 n0 I [] [] from rfl)
 | m+1,B::H,_,h=>by obtain⟨X,R,rfl,h1,h2⟩:=h;exact P2.b2n m h2
theorem a2U {L:Lh} {m:Nat} {p:Nat×Obj} (h:p∈(L.drop m).flatten):p∈L.flatten:=by
 rw [←List.take_append_drop m L,List.flatten_append];exact List.mem_append_right _ h
theorem E1.a5T {G : Gl} {P : Program} {f : FuncId} {fn : Func} {c : Code} {ags : List AV} {Hs : List C5} {post : AV → List C5 → Prop} (hf : P.funcs[f]? = some fn) (hb : fn.body = some c) (hn : (fn.name == "runtime.NumGoroutine") = false)
    (N:Nat) (hN:fn.ntmps=N) (hl:Nat.ble ags.length N=true) (σ:u5) (hσ:a5I ags 0=σ) (H0:j6) (hH:a4X Hs=H0)
    (h:∀ C:Ctx,Ctx.Ok C→G.p C.I0→H6 P C N c (a3E P fn C (fun r H=>∃ m:Nat,post r ((H.drop m).map Prod.snd))) σ H0):E1 G P f ags Hs post:=fun I L vs hG hvs hL =>
  ⟨⟨fn,hf,hn,by simp [hb]⟩,fun w hm=>Y8 hf hb N hN (by rw [hvs.len];exact hl) hm (M:=L.flatten.map Prod.fst) (fun p hp=>List.mem_map_of_mem hp)
    ((h ⟨w, L.flatten.map Prod.fst, I, none⟩ (fun k hk => by
        obtain⟨p,hp,rfl⟩:=List.mem_map.1 hk
        exact A8 (hm.loc p hp)) hG (W6 vs 0) I L ⟨by rw [←hσ];exact hvs.env 0,by rw [←hH,a2n];exact hL.toH,Le.refl I⟩).mono fun e ρ J L hq=>a3E.q hq)
    fun v J L' w' hs hp=>by
      obtain⟨r,H,h1,h2,m,h3⟩:=hp
      refine⟨v,J,L'.drop m,a8,hs.S4,hs.U0,fun b h0 h1=>hs.new b h0 h1,⟨hs.mem.im,fun p hp=>hs.mem.loc p (a2U hp),fun p hp=>hs.mem.sep p (a2U hp),?_⟩,fun p hp=>hs.own p (a2U hp),r,_,h1,(h2.b2n m).toK,h3⟩
      have:=hs.mem.nodup
      rw [←List.take_append_drop m L',List.flatten_append,List.map_append,List.nodup_append] at this
      exact this.2.1⟩
theorem H6.V0 {P:Program} {C:Ctx} {N:Nat} {Q:Exit→u5→j6→Prop} {σ:u5} {H:j6} {c:Code} (E:TypeId) (α:Type) [r:p6 α] (k:H6 P C N c Q σ ((true,.own E (.slice none 0 0) ([]:List α))::H)):H6 P C N c Q σ H:=fun ρ I L hs =>
 wpS.pad (k ρ I ([]::L) ⟨hs.env,⟨[],L,rfl,⟨⟨[],X1.nil E _,rfl⟩,fun _ p hp=>by cases hp⟩,hs.heap⟩,hs.U0⟩)
theorem C4.V0 {P:Program} {C:Ctx} {N:Nat} {ops:Array Oper} {Q:Exit→u5→j6→Prop} {os:List Oper} {σ:u5} {H:j6} (E:TypeId) (α:Type) [r:p6 α] (k:C4 P C N ops Q os σ ((true,.own E (.slice none 0 0) ([]:List α))::H)):C4 P C N ops Q os σ H:=fun ρ I L hs =>
 wpL.pad (k ρ I ([]::L) ⟨hs.env,⟨[],L,rfl,⟨⟨[],X1.nil E _,rfl⟩,fun _ p hp=>by cases hp⟩,hs.heap⟩,hs.U0⟩)
theorem j7.a4S {P : Program} {C : Ctx} {N : Nat} {σ : u5} {H : j6} {d : Option Nat} {ty : TypeId} {ps : String} {af : Array Edge} {g : Option (Nat × Bool)} {K : AV → Prop} {x y : Operand} {T T2 : TypeId} {m c : UInt64} (hx : A7 C σ H x (.v m)) (hy : A7 C σ H y (.v c)) (h0 : 0 ≤ c.toNat) (h1 : c.toNat < 64) (k : K (.v (m >>> c))) :
    j7 P N C ⟨d,.binOp .shr T x y T2,ty,ps,af,g⟩ σ H K :=
  .vk k (fun ρ I L hs=>J0.a4S c.toNat (hx.Z2 hs) (hy.Z2 hs) rfl h1 ⟨[Fl.u64 (m >>> c)],rfl,by rw [UInt64.ofNat_toNat];rfl⟩)
end Go.Ab
namespace Go.Ab
open Go.Fl Go.RowKit
open p6 (rep)
structure a08 where
 v:Value
instance:Inhabited a08:=⟨⟨.slice none 0 0⟩⟩
instance:p6 a08 where
 size:=1
 agg:=false
 rep _ x cs:=cs = [x.v]∧x.v.oneCell'=true
 len h:=by simp [h.1]
 mono _ h:=h
 one _:=rfl
 flat h:=by simp [h.1,Z1,h.2]
instance:J3 a08:=⟨[.slice none 0 0],fun _=>⟨rfl,rfl⟩⟩
structure GS (α:Type) where
 E:TypeId
 l:List α
section rules
variable {P:Program} {C:Ctx} {N:Nat} {σ:u5} {H:j6} {d:Option Nat} {ty:TypeId} {ps:String} {af:Array Edge} {g:Option (Nat×Bool)} {K:AV→Prop} {KH:AV→j6→Prop} {x y z:Operand} {T T2 E S D U:TypeId} {o:Oper}
theorem j7.raw {s:a08} (h:j7 P N C o σ H (fun r=>r = .v s)) (k:K (.raw s.v)):j7 P N C o σ H K:=fun ρ I L hs a w ha hm=>by
 refine(h ρ I L hs a w ha hm).mono ?_
 rintro v w' ⟨J,X,q1,q2,q3,q4,q5,q6,r,q7,rfl⟩
 obtain⟨cs,⟨rfl,_⟩,rfl⟩:=q7
 exact⟨J,X,q1,q2,q3,q4,q5,q6,.raw s.v,a8,k⟩
theorem j7.ldR {α : Type} {r : p6 α} {w : Value} {l : p5 α a08} {a : α} {bb : Bool} {F : Bool × C5 → j6} (f : α → a08) (tT : G3 P T a08) (hx : A7 C σ H x (.ln w l)) (hH : C1 H (bb, .ob w a) F) (hf : ∀ x, l.get x = f x) (k : K (.raw (f a).v)) :
    j7 P N C ⟨d,.load T x,ty,ps,af,g⟩ σ H K := .raw (.ldF f tT hx hH hf rfl) k
theorem H6.conv {Q:Exit→u5→j6→Prop} (t:Nat) {a:AV} (a':AV) {c:Code} (ht:C9 σ t=some a) (h:∀ n0 I L u,P2 n0 I H L→D2 I a u→D2 I a' u) (k:H6 P C N c Q ((t,a')::σ) H):H6 P C N c Q σ H:=fun ρ I L hs=>by
 refine k ρ I L ⟨fun s b hb => ?_,hs.heap,hs.U0⟩
 rw [F7] at hb
 by_cases e:t=s
 ·subst e;simp at hb;subst hb
  obtain⟨u,h1,h2⟩:=hs.env t _ ht
  exact⟨u,h1,h _ I L u hs.heap h2⟩
 ·rw [if_neg e] at hb;exact hs.env s b hb
end rules
def Sel (H:j6) (Hs:List C5):Prop:=∀ n0 I L,P2 n0 I H L→∃ L' R,(L'.flatten++R).Perm L.flatten∧a2P I Hs L'
theorem Sel.nil {H:j6}:Sel H []:=fun n0 I L h=>⟨[],L.flatten,by simp,rfl⟩
theorem Sel.cons {H:j6} {b:Bool} {B:C5} {Hs:List C5} {F:Bool×C5→j6} (hh:C1 H (b,B) F) (h:Sel (F M3) Hs):Sel H (B::Hs):=fun n0 I L hL=>by
 obtain⟨i,X,h1,h2,h3⟩:=hh.get hL
 have h4:=h3 I M3 [] (Le.refl I) ⟨⟨rfl,trivial⟩,fun _ p hp=>by cases hp⟩
 obtain⟨L',R,h5,h6⟩:=h n0 I _ h4
 refine⟨X::L',R,?_,X,L',a8,h2.1,h6⟩
 have h7:(L.set i [])[i]?=some []:=by
  have hi:=(List.getElem?_eq_some_iff.1 h1).1
  simp [hi]
 have h8:=a2s h7 X
 have h9:(L.set i []).set i X=L:=by
  obtain⟨hi,e⟩:=List.getElem?_eq_some_iff.1 h1
  rw [List.set_set,←e,List.set_getElem_self]
 rw [h9] at h8
 rw [List.flatten_cons,List.append_assoc]
 exact(List.Perm.append_left X h5).trans h8.symm
theorem E1.M7 {G : Gl} {P : Program} {f : FuncId} {fn : Func} {c : Code} {ags : List AV} {Hs : List C5} {post : AV → List C5 → Prop} (hf : P.funcs[f]? = some fn) (hb : fn.body = some c) (hn : (fn.name == "runtime.NumGoroutine") = false)
    (N:Nat) (hN:fn.ntmps=N) (hl:Nat.ble ags.length N=true) (σ:u5) (hσ:a5I ags 0=σ) (H0:j6) (hH:a4X Hs=H0)
    (h:∀ C:Ctx,Ctx.Ok C→G.p C.I0→H6 P C N c (a3E P fn C (fun r H=>∃ Hs',Sel H Hs'∧post r Hs')) σ H0):E1 G P f ags Hs post:=fun I L vs hG hvs hL =>
  ⟨⟨fn,hf,hn,by simp [hb]⟩,fun w hm=>Y8 hf hb N hN (by rw [hvs.len];exact hl) hm (M:=L.flatten.map Prod.fst) (fun p hp=>List.mem_map_of_mem hp)
    ((h ⟨w, L.flatten.map Prod.fst, I, none⟩ (fun k hk => by
        obtain⟨p,hp,rfl⟩:=List.mem_map.1 hk
        exact A8 (hm.loc p hp)) hG (W6 vs 0) I L ⟨by rw [←hσ];exact hvs.env 0,by rw [←hH,a2n];exact hL.toH,Le.refl I⟩).mono fun e ρ J L hq=>a3E.q hq)
    fun v J L' w' hs hp=>by
      obtain⟨r,H,h1,h2,Hs',h3,h4⟩:=hp
      obtain⟨L2,R,h5,h6⟩:=h3 _ J L' h2
      have hin:∀ p∈L2.flatten,p∈L'.flatten:=fun p hp=>h5.mem_iff.1 (List.mem_append_left _ hp)
      refine⟨v,J,L2,a8,hs.S4,hs.U0,fun b h0 h1=>hs.new b h0 h1,⟨hs.mem.im,fun p hp=>hs.mem.loc p (hin p hp),fun p hp=>hs.mem.sep p (hin p hp),?_⟩,fun p hp=>hs.own p (hin p hp),r,_,h1,h6,h4⟩
      have:=(h5.map Prod.fst).nodup_iff.2 hs.mem.nodup
      rw [List.map_append,List.nodup_append] at this
      exact this.1⟩
theorem E1.mono {G:Gl} {P:Program} {f:FuncId} {ags:List AV} {Hs:List C5} {post post':AV→List C5→Prop} (h:E1 G P f ags Hs post) (hp:∀ r Hs,post r Hs→post' r Hs):E1 G P f ags Hs post':=fun I L vs hG hvs hL=>by
 have hM:=h I L vs hG hvs hL
 refine⟨hM.ok,fun w hm=>(hM.run w hm).mono ?_⟩
 rintro e w' ⟨v,J,L',rfl,q1,q2,q3,q4,q5,r,Hs',q6,q7,q8⟩
 exact⟨v,J,L',a8,q1,q2,q3,q4,q5,r,Hs',q6,q7,hp r Hs' q8⟩
end Go.Ab
namespace Go.Ab
open Go.Fl Go.RowKit
open p6 (rep)
def leB:List Bool→List Bool→Bool
 | [],_=>true
 | a::ags,[] => !a&&leB ags []
 | a::ags,b::bs=>(!a||b)&&leB ags bs
theorem a0G (H:j6) (f:Nat→Bool×C5) (k:Nat):K2 [] H f k=H:=by simp [K2]
theorem a5U:∀ {a b:List Bool},leB a b=true→∀ (H:j6) (f:Nat→Bool×C5) (k:Nat),∃ f',K2 a H f k=K2 b H f' k
  | a,b,h,[],f,k=>⟨f,by cases a<;>cases b<;>simp [K2]⟩
  | [], b, h, B :: H, f, k => ⟨fun j => (B :: H).getD (j - k) M3, by
      rw [a0G]
      have key:∀ (b:List Bool) (G:j6) (j:Nat),(∀ m,m < G.length→(B::H).getD (j+m - k) M3=G.getD m M3)→G=K2 b G (fun j=>(B::H).getD (j - k) M3) j:=by
        intro b
        induction b with
        | nil=>intro G j _;rw [a0G]
        | cons x b ih =>
          intro G j hG
          cases G with
          | nil=>simp [K2]
          | cons A G =>
            have h0:=hG 0 (by simp)
            simp only [K2]
            have h1:(bif x then (B::H).getD (j - k) M3 else A)=A:=by
              cases x
              · rfl
              · simpa using h0
            rw [h1,←ih G (j+1) (fun m hm=>by
              have:=hG (m+1) (by simp;omega)
              rw [show j+1+m - k=j+(m+1) - k by omega,this];simp)]
      exact key b (B::H) k (fun m hm=>by rw [show k+m - k=m by omega])⟩
  | x::a,[],h,B::H,f,k=>by
    simp only [leB,Bool.and_eq_true,Bool.not_eq_true'] at h
    obtain⟨f',hf'⟩:=a5U (b := []) h.2 H f (k+1)
    rw [a0G] at hf'
    exact⟨f,by rw [a0G];simp only [K2,h.1,cond_false,hf']⟩
  | x::a,y::b,h,B::H,f,k=>by
    simp only [leB,Bool.and_eq_true] at h
    obtain⟨f',hf'⟩:=a5U h.2 H f (k+1)
    have hcongr:∀ (b:List Bool) (H:j6) (f g:Nat→Bool×C5) (k:Nat),(∀ j,k≤j→f j=g j)→K2 b H f k=K2 b H g k:=by
      intro b
      induction b with
      | nil=>intro H f g k _;rw [a0G,a0G]
      | cons x b ih =>
        intro H f g k hfg
        cases H with
        | nil=>simp [K2]
        | cons A H=>simp only [K2];rw [hfg k (Nat.le_refl _),ih H f g (k+1) (fun j hj=>hfg j (by omega))]
    refine⟨fun j=>if j=k then (bif x then f k else B) else f' j,?_⟩
    simp only [K2,if_true]
    rw [hf',hcongr b H f' (fun j=>if j=k then (bif x then f k else B) else f' j) (k+1) (fun j hj=>by rw [if_neg (by omega)])]
    cases x with
    | false=>cases y<;>rfl
    | true =>
      have:y=true:=by simpa using h.1
      subst this;rfl
def a1n (P:Program) (N:Nat) (C:Ctx) (σ0:u5) {ι:Type 1} (HT:Nat→ι→j6) (ci:List Nat) (F:List (Nat×AV)→Prop):List Oper→List (List (Nat×Nat))→Nat→List (Nat×AV)→Prop
 | [],_,_,acc=>F acc
 | o::os,s::ss,k,acc=>bif ci.contains k then a1n P N C σ0 HT ci F os ss (k+1) acc∨∃ r,a1n P N C σ0 HT ci F os ss (k+1) ((k,r)::acc) else ∃ r,Z4 P N C σ0 (HT k) acc o s r∧a1n P N C σ0 HT ci F os ss (k+1) ((k,r)::acc)
 | _,[],_,_=>False
theorem a0l {P : Program} {N : Nat} {C : Ctx} {σ0 : u5} {ι : Type 1} {HT : Nat → ι → j6} {ci : List Nat} {F : List (Nat × AV) → Prop} : ∀ (os : List Oper) (ss : List (List (Nat × Nat))) (k : Nat) (acc : List (Nat × AV)), (∀ j r, o0 acc j = some r → j < k) → a1n P N C σ0 HT ci F os ss k acc →
    ∃ full,F full∧(∀ j,j < k→o0 full j=o0 acc j) ∧
      ∀ i o s,os[i]?=some o→ss[i]?=some s→k+i∉ci→∃ r acc',o0 full (k+i)=some r∧Z4 P N C σ0 (HT (k+i)) acc' o s r∧∀ j,j < k+i→o0 acc' j=o0 full j
  | [],ss,k,acc,hacc,h=>⟨acc,by cases ss<;>exact h,fun _ _=>rfl,fun i o s ho=>by simp at ho⟩
  | o::os,[],k,acc,_,h=>h.elim
  | o::os,s::ss,k,acc,hacc,h=>by
    simp only [a1n] at h
    have hacc2:∀ r,∀ j q,o0 ((k,r)::acc) j=some q→j < k+1:=fun r j q hj=>by
      rw [u4] at hj
      by_cases e:k=j
      · omega
      · rw [if_neg e] at hj;have:=hacc j q hj;omega
    cases hc:ci.contains k with
    | true =>
      rw [hc] at h
      simp only [cond_true] at h
      have fin : ∀ acc2, (∀ j, j < k → o0 acc2 j = o0 acc j) → (∀ j r, o0 acc2 j = some r → j < k + 1) → a1n P N C σ0 HT ci F os ss (k + 1) acc2 → ∃ full, F full ∧ (∀ j, j < k → o0 full j = o0 acc j) ∧
          ∀ i o' s',(o::os)[i]?=some o'→(s::ss)[i]?=some s'→k+i∉ci→∃ r acc',o0 full (k+i)=some r∧Z4 P N C σ0 (HT (k+i)) acc' o' s' r∧∀ j,j < k+i→o0 acc' j=o0 full j:=fun acc2 ha hb h=>by
        obtain⟨full,hF,h1,h3⟩:=a0l os ss (k+1) acc2 hb h
        refine⟨full,hF,fun j hj=>(h1 j (by omega)).trans (ha j hj),fun i o' s' ho hs hni => ?_⟩
        cases i with
        | zero=>exact absurd (by simpa using hc) hni
        | succ i =>
          have e:k+(i+1)=k+1+i:=by omega
          rw [e]
          exact h3 i o' s' (by simpa using ho) (by simpa using hs) (by rw [←e];exact hni)
      rcases h with h|⟨r,h⟩
      · exact fin acc (fun _ _=>rfl) (fun j r hj=>Nat.lt_succ_of_lt (hacc j r hj)) h
      · exact fin ((k,r)::acc) (fun j hj=>by rw [u4,if_neg (by omega)]) (hacc2 r) h
    | false =>
      rw [hc] at h
      simp only [cond_false] at h
      obtain⟨r,hd,h⟩:=h
      obtain⟨full,hF,h1,h3⟩:=a0l os ss (k+1) ((k,r)::acc) (hacc2 r) h
      refine⟨full,hF,fun j hj=>by rw [h1 j (by omega),u4,if_neg (by omega)],fun i o' s' ho hs hni => ?_⟩
      cases i with
      | zero =>
        simp only [List.getElem?_cons_zero,Option.some.injEq] at ho hs
        subst ho;subst hs
        refine⟨r,acc,by rw [Nat.add_zero,h1 k (by omega),u4,if_pos rfl],hd,fun j hj => ?_⟩
        rw [Nat.add_zero] at hj
        rw [h1 j (by omega),u4,if_neg (by omega)]
      | succ i =>
        have e:k+(i+1)=k+1+i:=by omega
        rw [e]
        exact h3 i o' s' (by simpa using ho) (by simpa using hs) (by rw [←e];exact hni)
def b2o (ops:Array Oper) (n:Nat) (ks ci:List Nat) (bks qs:List (List Bool)):Bool :=
 (List.range n).all fun i=>ks.contains i||ci.contains i||(List.range (ci.length+1)).all fun k=>(List.range k).any (fun m=>match ci[m]? with|some j=>Region.waitsFor .any ops j i|none=>false)||leB (bks.getD k []) (qs.getD i [])
theorem J8 {σ0:u5} {a b:List (Nat×AV)} {s:List (Nat×Nat)}:∀ {ts:List Nat},(∀ t∈ts,∀ j,E9 s t=some j→o0 a j=o0 b j)→A5 σ0 a s ts=A5 σ0 b s ts
 | [],_=>rfl
 | t::ts,h=>by
  simp only [A5]
  have h1:=J8 (σ0:=σ0) (fun u hu=>h u (List.mem_cons_of_mem _ hu))
  cases hs:E9 s t with
  | none=>simp only [h1]
  | some j=>simp only [h t List.mem_cons_self j hs,h1]
def b0k (P:Program) (N:Nat) (C:Ctx) (σ0:u5) {ι:Type 1} (HT:ι→j6) (acc:List (Nat×AV)) (o:Oper) (s:List (Nat×Nat)) (r:AV):Prop:=∀ Hp,j7 P N C o (A5 σ0 acc s (y5 o)) (HT Hp) (fun r'=>r'=r)
def prom (P:Program) (N:Nat) (C:Ctx) (σ0:u5) {ι:Type 1} (HT:Nat→ι→j6) (accP:List (Nat×AV)):List (Nat×Oper×List (Nat×Nat))→List (Nat×AV)→(List (Nat×AV)→Prop)→Prop
 | [],c,K=>K c
 | (i,o,s)::rest,c,K=>∃ r,b0k P N C σ0 (HT i) (c++accP) o s r∧prom P N C σ0 HT accP rest ((i,r)::c) K
def J9 (ss:List (List (Nat×Nat))) (i:Nat) (L:List Nat):Bool:=match ss[i]? with|some s=>s.all (fun p => !(L.contains p.2))|none=>true
theorem R6 {ss:List (List (Nat×Nat))} {i:Nat} {L:List Nat} {s:List (Nat×Nat)} (h:J9 ss i L=true) (hs:ss[i]?=some s) {t j:Nat} (hj:E9 s t=some j):j∉L:=by
 unfold J9 at h
 rw [hs] at h
 have h2:=List.all_eq_true.1 h (t,j) (a9h hj)
 simpa using h2
def a6C (ss:List (List (Nat×Nat))):List Nat→Bool
 | []=>true
 | i::r=>J9 ss i (i::r) && !(r.contains i)&&a6C ss r
theorem a1D {P : Program} {N : Nat} {C : Ctx} {σ0 : u5} {ι : Type 1} {HT : Nat → ι → j6} {accP : List (Nat × AV)} {l : List Oper} {ss : List (List (Nat × Nat))} {K : List (Nat × AV) → Prop} : ∀ {L : List Nat} {c : List (Nat × AV)}, a6C ss L = true → prom P N C σ0 HT accP (E4 l ss L) c K →
    ∃ c',K c'∧(∀ j,j∉L→o0 c' j=o0 c j)∧∀ i o s,i∈L→l[i]?=some o→ss[i]?=some s→∃ r,o0 c' i=some r∧b0k P N C σ0 (HT i) (c'++accP) o s r
  | [],c,_,h=>⟨c,h,fun _ _=>rfl,fun i o s hi=>by cases hi⟩
  | i::L,c,hL,h=>by
    simp only [a6C,Bool.and_eq_true,Bool.not_eq_true',List.contains_eq_mem,decide_eq_false_iff_not] at hL
    obtain⟨⟨h1,h2⟩,h3⟩:=hL
    cases ho:l[i]? with
    | none =>
      simp only [E4,ho] at h
      obtain⟨c',k1,k2,k3⟩:=a1D h3 h
      exact⟨c',k1,fun j hj=>k2 j (fun hx=>hj (List.mem_cons_of_mem _ hx)),fun i' o s hi ho' hs=>by
        rcases List.mem_cons.1 hi with rfl|hi
        · rw [ho] at ho';cases ho'
        · exact k3 i' o s hi ho' hs⟩
    | some o =>
      cases hs:ss[i]? with
      | none =>
        simp only [E4,ho,hs] at h
        obtain⟨c',k1,k2,k3⟩:=a1D h3 h
        exact⟨c',k1,fun j hj=>k2 j (fun hx=>hj (List.mem_cons_of_mem _ hx)),fun i' o s hi ho' hs'=>by
          rcases List.mem_cons.1 hi with rfl|hi
          · rw [hs] at hs';cases hs'
          · exact k3 i' o s hi ho' hs'⟩
      | some s =>
        simp only [E4,ho,hs,prom] at h
        obtain⟨r,hd,h⟩:=h
        obtain⟨c',k1,k2,k3⟩:=a1D h3 h
        refine⟨c',k1,fun j hj => ?_,fun i' o' s' hi ho' hs' => ?_⟩
        · rw [List.mem_cons,not_or] at hj
          rw [k2 j hj.2,u4,if_neg (Ne.symm hj.1)]
        · rcases List.mem_cons.1 hi with rfl|hi
          · rw [ho] at ho';cases ho'
            rw [hs] at hs';cases hs'
            refine⟨r,by rw [k2 i' h2,u4,if_pos rfl],fun Hp => ?_⟩
            have he:A5 σ0 (c'++accP) s (y5 o)=A5 σ0 (c++accP) s (y5 o):=J8 fun t _ j hj=>by
              have hj2:=R6 h1 hs hj
              rw [List.mem_cons,not_or] at hj2
              rw [x8,x8,k2 j hj2.2,u4,if_neg (Ne.symm hj2.1)]
            rw [he];exact hd Hp
          · exact k3 i' o' s' hi ho' hs'
section
variable (P:Program) (C:Ctx) (N:Nat) (σ0:u5) (bs:Nat→List Bool) (HT:Nat→(j6×(Nat→Bool×C5))→j6) (lps:Nat→List (Nat×Oper×List (Nat×Nat))) (H0:j6) (accP:List (Nat×AV)) (al:List (Nat×AT)) (F:List (Nat×AV)→j6→j6→Prop)
def a0H:List (Nat×Oper×List (Nat×Nat))→Nat→List (Nat×AV)→j6→j6→Prop
 | [],k,cacc,Zs,Hr=>(∃ f,Hr=K2 (bs k) H0 f 0)∧∀ ws:Nat→Nat,F (cacc++rA ws al) (Zs++(al.map fun p=>p.2.blk (ws p.1))) Hr
 | (i,o,s)::rest,k,cacc,Zs,Hr=>(∃ f,Hr=K2 (bs k) H0 f 0)∧∀ Ys:j6,
  match o0 accP i with
  | none=>A9 P C N o (A5 σ0 (cacc++accP) s (y5 o)) (Zs++(Ys++Hr)) (fun r H'=>∃ Zs' Hr',H'=Zs'++(Ys++Hr')∧prom P N C σ0 HT accP (lps (k+1)) ((i,r)::cacc) (fun c=>a0H rest (k+1) c Zs' Hr'))
  | some r0=>A9 P C N o (A5 σ0 (cacc++accP) s (y5 o)) (Zs++(Ys++Hr)) (fun r H'=>r=r0∧∃ Zs' Hr',H'=Zs'++(Ys++Hr')∧prom P N C σ0 HT accP (lps (k+1)) ((i,r0)::cacc) (fun c=>a0H rest (k+1) c Zs' Hr'))
end
theorem a0H.fam {P : Program} {C : Ctx} {N : Nat} {σ0 : u5} {bs : Nat → List Bool} {HT : Nat → (j6 × (Nat → Bool × C5)) → j6} {lps : Nat → List (Nat × Oper × List (Nat × Nat))} {H0 : j6} {accP : List (Nat × AV)} {al : List (Nat × AT)} {F : List (Nat × AV) → j6 → j6 → Prop} {l : List (Nat × Oper × List (Nat × Nat))} {k : Nat} {cacc : List (Nat × AV)} {Zs Hr : j6}
    (h:a0H P C N σ0 bs HT lps H0 accP al F l k cacc Zs Hr):∃ f,Hr=K2 (bs k) H0 f 0:=by
  cases l with
  | nil=>exact h.1
  | cons p l=>exact h.1
def X7 (ops:Array Oper) (i:Nat):Bool:=match ops[i]? with|some o=>o.guard.isNone|none=>false
def a38 (ops:Array Oper) (n:Nat) (ss:List (List (Nat×Nat))) (ks ci:List Nat) (lps:List (List Nat)) (kA:Nat):Bool :=
 O1 ops n ss ci&&ci.all (X7 ops)&&ks.all (fun i=>Nat.blt i n && !(ci.contains i))&&(ci.take kA).all (fun i=>J9 ss i ks)&&(ci.drop kA).all (fun i=>ks.all (fun j=>Region.waitsFor .any ops i j)) &&
 (List.range (ci.length+1)).all (fun m=>(lps.getD m []).all (fun i=>Nat.blt i n && !(ci.contains i) && !(ks.contains i)&&X7 ops i&&J9 ss i ks &&
  (match m with|0=>false|m'+1=>(match ci[m']? with|some j=>Region.waitsFor .any ops i j|none=>false)||(lps.getD m []).any (fun j=>Region.waitsFor .any ops i j)) &&
  (List.range (ci.length+1)).all (fun m2=>Nat.ble m2 m||(match m2 with|0=>true|m3+1=>match ci[m3]? with|some j=>J9 ss i [j]|none=>true)&&J9 ss i (lps.getD m2 []) && !((lps.getD m2 []).contains i)))&&a6C ss (lps.getD m []))
def a0m (lps:List (List Nat)) (q i:Nat):Prop:=∃ m,m≤q∧i∈lps.getD m []
structure U2 (P : Program) (C : Ctx) (N : Nat) (σ : u5) (bs : Nat → List Bool) (HT : Nat → (j6 × (Nat → Bool × C5)) → j6) (l : List Oper) (ss : List (List (Nat × Nat))) (lps : List (List Nat)) (H0 : j6) (full : List (Nat × AV)) (F : List (Nat × AV) → j6 → j6 → Prop) (al : List (Nat × AT)) (ci : List Nat) (cp : List (Nat × Oper × List (Nat × Nat)))
    (k:Nat) (c1:List (Nat×AV)) (Zs Hr:j6) (ws:Nat→Nat) (listed:Array Bool) (cacc:List (Nat×AV)) (H:j6):Prop where
  w:∀ j∈ci,listed.getD j false=true→∀ i,Region.waitsFor .any l.toArray j i=true→listed.getD i false=true
  kle:k≤ci.length
  kp:k≤cp.length
  ch:∀ m i,ci[m]?=some i→(listed.getD i false=true↔m < k)
  al0:∀ j,j∈al.map Prod.fst→o0 c1 j=none
  oth:∀ j,j∉al.map Prod.fst→¬a0m lps ci.length j→o0 cacc j=o0 c1 j
  al1:∀ j,j∈al.map Prod.fst→o0 cacc j=if listed.getD j false=true then o0 (rA ws al) j else none
  lp:∀ j,a0m lps ci.length j→o0 cacc j=(if listed.getD j false=true then o0 c1 j else none)∧(listed.getD j false=true→a0m lps k j)
  due:∀ m i o s,m≤k→i∈lps.getD m []→l[i]?=some o→ss[i]?=some s→∃ r,o0 c1 i=some r∧b0k P N C σ (HT i) (c1++full) o s r
  H:H=Zs++(hA (fun j=>listed.getD j false) ws al++Hr)
  pl:a0H P C N σ bs HT (fun k=>E4 l ss (lps.getD k [])) H0 full al F (cp.drop k) k c1 Zs Hr
theorem O8 {listed:Array Bool} (i:Nat) {j:Nat} (h:listed.getD j false=true):(listed.setIfInBounds i true).getD j false=true:=by
 by_cases e:j=i
 ·subst e
  rcases Nat.lt_or_ge j listed.size with h2|h2
  ·exact C8 h2
  ·simp [Array.getElem?_eq_none h2] at h
 ·rw [getD_set_ne false (Ne.symm e)];exact h
section
variable {P:Program} {C:Ctx} {N n:Nat} {σ:u5} {bs:Nat→List Bool} {HT:Nat→(j6×(Nat→Bool×C5))→j6} {lps:List (List Nat)} {full:List (Nat×AV)} {F:List (Nat×AV)→j6→j6→Prop} {l:List Oper} {cp:List (Nat×Oper×List (Nat×Nat))} {kA:Nat} {ss:List (List (Nat×Nat))} {al:List (Nat×AT)} {ci:List Nat} {H0:j6} {listed:Array Bool} {cacc c1:List (Nat×AV)} {H Zs Hr:j6} {k:Nat} {ws:Nat→Nat}
structure OkZ (l:List Oper) (n:Nat) (ss:List (List (Nat×Nat))) (ks ci:List Nat) (lps:List (List Nat)) (kA:Nat):Prop where
 chain:O1 l.toArray n ss ci=true
 cg:∀ i∈ci,X7 l.toArray i=true
 ksn:∀ i∈ks,i < n∧i∉ci
 b5y:∀ m i,m < kA→ci[m]?=some i→J9 ss i ks=true
 b4p:∀ m i,kA≤m→ci[m]?=some i→∀ j∈ks,Region.waitsFor .any l.toArray i j=true
 lp:∀ m i,m≤ci.length→i∈lps.getD m []→i < n∧i∉ci∧i∉ks∧X7 l.toArray i=true∧J9 ss i ks=true∧(m≠0∧∃ j,Region.waitsFor .any l.toArray i j=true∧((∃ m',m=m'+1∧ci[m']?=some j)∨j∈lps.getD m [])) ∧
  ∀ m2,m < m2→m2≤ci.length→(∀ m3 j,m2=m3+1→ci[m3]?=some j→J9 ss i [j]=true)∧J9 ss i (lps.getD m2 [])=true∧i∉lps.getD m2 []
 late:∀ m,m≤ci.length→a6C ss (lps.getD m [])=true
theorem okZ {ks:List Nat} (h:a38 l.toArray n ss ks ci lps kA=true):OkZ l n ss ks ci lps kA:=by
 simp only [a38,Bool.and_eq_true] at h
 obtain⟨⟨⟨⟨⟨h1,h2⟩,h3⟩,h4⟩,h4b⟩,h5⟩:=h
 refine⟨h1,fun i hi=>List.all_eq_true.1 h2 i hi,fun i hi => ?_,fun m i hm hi=>List.all_eq_true.1 h4 i (List.mem_of_getElem? (i:=m) (by rw [List.getElem?_take,if_pos hm];exact hi)),
  fun m i hm hi j hj=>List.all_eq_true.1 (List.all_eq_true.1 h4b i (List.mem_of_getElem? (i:=m - kA) (by rw [List.getElem?_drop,show kA+(m - kA)=m by omega];exact hi))) j hj,fun m i hm hi => ?_,fun m hm => ?_⟩
 ·have:=List.all_eq_true.1 h3 i hi
  simp only [Bool.and_eq_true,Bool.not_eq_true',List.contains_eq_mem,decide_eq_false_iff_not] at this
  exact⟨by simpa [Nat.blt_eq] using this.1,this.2⟩
 ·have h6:=List.all_eq_true.1 h5 m (List.mem_range.2 (by omega))
  rw [Bool.and_eq_true] at h6
  have h7:=List.all_eq_true.1 h6.1 i hi
  simp only [Bool.and_eq_true,Bool.not_eq_true',List.contains_eq_mem,decide_eq_false_iff_not] at h7
  obtain⟨⟨⟨⟨⟨⟨a1,a2⟩,a3⟩,a4⟩,a5⟩,a6⟩,a7⟩:=h7
  refine⟨by simpa [Nat.blt_eq] using a1,a2,a3,a4,a5,?_,fun m2 hlt hle => ?_⟩
  ·cases m with
   | zero=>cases a6
   | succ m' =>
    simp only [Bool.or_eq_true] at a6
    refine⟨by omega,?_⟩
    rcases a6 with a6|a6
    ·cases hc:ci[m']? with
     | none=>rw [hc] at a6;cases a6
     | some j=>rw [hc] at a6;exact⟨j,a6,.inl ⟨m',rfl,hc⟩⟩
    ·obtain⟨j,hj,hw⟩:=List.any_eq_true.1 a6
     exact⟨j,hw,.inr hj⟩
  ·have h8:=List.all_eq_true.1 a7 m2 (List.mem_range.2 (by omega))
   simp only [Bool.or_eq_true,Bool.and_eq_true,Bool.not_eq_true',decide_eq_false_iff_not] at h8
   rcases h8 with h8|h8
   ·have:=Nat.le_of_ble_eq_true h8;omega
   ·refine⟨fun m3 j e hj => ?_,h8.1.2,h8.2⟩
    subst e
    have:=h8.1.1
    simp only [hj] at this
    exact this
 ·have h6:=List.all_eq_true.1 h5 m (List.mem_range.2 (by omega))
  rw [Bool.and_eq_true] at h6
  exact h6.2
theorem a3l (i:Nat):J9 ss i []=true:=by
 unfold J9
 cases ss[i]? with
 | none=>rfl
 | some s=>simp
theorem OkZ.zero {ks:List Nat} (h:OkZ l n ss ks ci lps kA):OkZ l n ss (([]:List (Nat×AT)).map Prod.fst) ci lps ci.length:=by
 refine⟨h.chain,h.cg,fun i hi=>(by cases hi),fun m i _ _=>a3l i,fun m i hm hi => ?_,fun m i hm hi => ?_,h.late⟩
 ·have:=(List.getElem?_eq_some_iff.1 hi).1;omega
 ·obtain⟨b1,b2,b3,b4,b5,b6,b7⟩:=h.lp m i hm hi
  exact⟨b1,b2,by simp,b4,a3l i,b6,b7⟩
theorem a7M {q q' j:Nat} (h:a0m lps q j) (hq:q≤q'):a0m lps q' j:=by obtain⟨m,h1,h2⟩:=h;exact⟨m,Nat.le_trans h1 hq,h2⟩
theorem a42 (hz:OkZ l n ss (al.map Prod.fst) ci lps kA) {m q j:Nat} (hm:m≤ci.length) (hq:q≤ci.length) (h:j∈lps.getD m []) (hl:a0m lps q j):m≤q:=by
 obtain⟨m2,h1,h2⟩:=hl
 rcases Nat.lt_or_ge m2 m with h3|h3
 ·exact absurd h ((hz.lp m2 j (by omega) h2).2.2.2.2.2.2 m h3 hm).2.2
 ·omega
theorem U2.pure (hz:OkZ l n ss (al.map Prod.fst) ci lps kA) {i:Nat} (h:U2 P C N σ bs HT l ss lps H0 full F al ci cp k c1 Zs Hr ws listed cacc H) (h1:i∉ci) (h2:i∉al.map Prod.fst) (h3:¬a0m lps ci.length i):U2 P C N σ bs HT l ss lps H0 full F al ci cp k c1 Zs Hr ws (listed.setIfInBounds i true) cacc H:=by
 have hput:∀ j,j≠i→(listed.setIfInBounds i true).getD j false=listed.getD j false:=fun j hj=>getD_set_ne false (Ne.symm hj)
 refine⟨fun j hj hl q hq=>O8 i (h.w j hj (by rwa [hput j (fun e=>h1 (e▸hj))] at hl) q hq),h.kle,h.kp,fun m j hj => ?_,h.al0,h.oth,fun j hj => ?_,fun j hj => ?_,h.due,?_,h.pl⟩
 ·rw [hput j (fun e=>h1 (e▸List.mem_of_getElem? hj))];exact h.ch m j hj
 ·rw [hput j (fun e=>h2 (e▸hj))];exact h.al1 j hj
 ·rw [hput j (fun e=>h3 (e▸hj))];exact h.lp j hj
 ·rw [h.H]
  congr 2
  exact W2 fun p hp=>⟨(hput p.1 (fun e=>h2 (e▸List.mem_map_of_mem hp))).symm,rfl⟩
theorem U2.alloc (hz : OkZ l n ss (al.map Prod.fst) ci lps kA) {p : Nat × AT} (hn : (al.map Prod.fst).Nodup) (hp : p ∈ al) (h : U2 P C N σ bs HT l ss lps H0 full F al ci cp k c1 Zs Hr ws listed cacc H) (hun : listed.getD p.1 false = false) (hlt : p.1 < listed.size) :
    ∃ F',C1 H M3 F'∧∀ b,U2 P C N σ bs HT l ss lps H0 full F al ci cp k c1 Zs Hr (upd ws p.1 b) (listed.setIfInBounds p.1 true) ((p.1,p.2.res b)::cacc) (F' (p.2.blk b)):=by
  have hput:∀ j,j≠p.1→(listed.setIfInBounds p.1 true).getD j false=listed.getD j false:=fun j hj=>getD_set_ne false (Ne.symm hj)
  have hset:(listed.setIfInBounds p.1 true).getD p.1 false=true:=C8 hlt
  have hpm:p.1∈al.map Prod.fst:=List.mem_map_of_mem hp
  have hd:p.1∉ci:=(hz.ksn p.1 hpm).2
  have hlp:¬a0m lps ci.length p.1:=fun ⟨m,hm,hx⟩=>(hz.lp m p.1 hm hx).2.2.1 hpm
  obtain⟨F',h1,h2⟩:=a5S (f:=fun j=>listed.getD j false) (ws:=ws) (H0:=Hr) hn hp hun
  have hH:=h.H
  subst hH
  refine⟨fun X=>Zs++F' X,C1.app h1,fun b=>⟨fun j hj hl q hq=>O8 p.1 (h.w j hj (by rwa [hput j (fun e=>hd (e▸hj))] at hl) q hq),h.kle,h.kp,fun m j hj => ?_,h.al0,fun j hj hj2 => ?_,fun j hj => ?_,fun j hj => ?_,h.due,?_,h.pl⟩⟩
  · rw [hput j (fun e=>hd (e▸List.mem_of_getElem? hj))];exact h.ch m j hj
  · rw [u4,if_neg (fun e:p.1=j=>hj (e▸hpm))];exact h.oth j hj hj2
  · rw [u4]
    by_cases e:p.1=j
    · subst e
      rw [if_pos rfl,if_pos hset,a36 hn hp]
      simp [upd]
    · rw [if_neg e,hput j (Ne.symm e),h.al1 j hj,Z5 (ws:=ws) (ws':=upd ws p.1 b) (by simp [upd,Ne.symm e])]
  · have hne:p.1≠j:=fun e=>hlp (e▸hj)
    rw [u4,if_neg hne,hput j (Ne.symm hne)];exact h.lp j hj
  · show Zs++F' (p.2.blk b)=_
    rw [h2 b]
    congr 2
    refine W2 fun q hq=>⟨?_,rfl⟩
    by_cases e:q.1=p.1
    · rw [e,if_pos rfl,hset]
    · rw [if_neg e,hput _ e]
theorem U2.env (h : U2 P C N σ bs HT l ss lps H0 full F al ci cp k c1 Zs Hr ws listed cacc H) {i : Nat} {o : Oper} {s : List (Nat × Nat)} (hok : T4 l.toArray n ss i = true) (hol : l[i]? = some o) (hs : ss[i]? = some s) (hsf : J9 ss i (al.map Prod.fst) = true) (hw : ∀ j, Region.waitsFor .any l.toArray i j = true → listed.getD j false = true) :
    A5 σ (cacc++full) s (y5 o)=A5 σ (c1++full) s (y5 o):=J8 fun t ht j hj=>by
  unfold T4 at hok
  have ho':l.toArray[i]?=some o:=by simpa using hol
  simp only [ho',hs,Bool.and_eq_true] at hok
  have h6:=List.all_eq_true.1 hok.1 t ht
  unfold S7 at h6
  simp only [hj,Bool.and_eq_true] at h6
  have hlj:=hw j h6.2
  rw [x8,x8]
  by_cases hjl:a0m lps ci.length j
  · rw [(h.lp j hjl).1,if_pos hlj]
  · rw [h.oth j (R6 hsf hs hj) hjl]
theorem U2.late (hz : OkZ l n ss (al.map Prod.fst) ci lps kA) (hok : ∀ i, i < n → T4 l.toArray n ss i = true) {m i : Nat} {o : Oper} {s : List (Nat × Nat)} (hm : m ≤ ci.length) (him : i ∈ lps.getD m [])
    (h:U2 P C N σ bs HT l ss lps H0 full F al ci cp k c1 Zs Hr ws listed cacc H) (hol:l[i]?=some o) (hs:ss[i]?=some s) (hw:∀ j,Region.waitsFor .any l.toArray i j=true→listed.getD j false=true) (hlt:i < listed.size) (hfam:∃ q,H=HT i q) (hnone:o0 full i=none) :
    o.guard=none∧A9 P C N o (A5 σ (cacc++full) s (y5 o)) H (fun r H'=>(∀ r0,o0 full i=some r0→r=r0)∧U2 P C N σ bs HT l ss lps H0 full F al ci cp k c1 Zs Hr ws (listed.setIfInBounds i true) ((i,r)::cacc) H'):=by
  obtain⟨b1,b2,b3,b4,b5,⟨hm0,j,hwj,hcase⟩,b7⟩:=hz.lp m i hm him
  have hmk:m≤k:=by
    rcases hcase with ⟨m',e,hc⟩|hj
    · have:=(h.ch m' j hc).1 (hw j hwj);omega
    · exact a42 hz hm h.kle hj ((h.lp j ⟨m,hm,hj⟩).2 (hw j hwj))
  obtain⟨r,hr1,hr2⟩:=h.due m i o s hmk him hol hs
  have hg:o.guard=none:=by
    unfold X7 at b4
    simp only [show l.toArray[i]?=some o by simpa using hol] at b4
    exact Option.isNone_iff_eq_none.1 b4
  refine⟨hg,?_⟩
  rw [h.env (hok i b1) hol hs b5 hw]
  obtain⟨q,rfl⟩:=hfam
  have hput:∀ j,j≠i→(listed.setIfInBounds i true).getD j false=listed.getD j false:=fun j hj=>getD_set_ne false (Ne.symm hj)
  have hset:(listed.setIfInBounds i true).getD i false=true:=C8 hlt
  have hil:a0m lps ci.length i:=⟨m,hm,him⟩
  refine A9.ofP (fun ρ I L hs' a w ha hm'=>(hr2 q ρ I L hs' a w ha hm').mono ?_)
  rintro v w' ⟨J,X,q1,q2,q3,q4,q5,rfl,r',q6,rfl⟩
  refine⟨J,[],q1,q2,q3,q4,q5,a8,r',q6,fun r0 h0=>(by rw [hnone] at h0;cases h0),⟨fun j hj hl q hq=>O8 i (h.w j hj (by rwa [hput j (fun e=>b2 (e▸hj))] at hl) q hq),h.kle,h.kp,fun m2 j hj => ?_,h.al0,fun j hj hj2 => ?_,fun j hj => ?_,fun j hj => ?_,h.due,?_,h.pl⟩⟩
  · rw [hput j (fun e=>b2 (e▸List.mem_of_getElem? hj))];exact h.ch m2 j hj
  · rw [u4,if_neg (fun e:i=j=>hj2 (e▸hil))];exact h.oth j hj hj2
  · have hne:i≠j:=fun e=>b3 (e▸hj)
    rw [u4,if_neg hne,hput j (Ne.symm hne)];exact h.al1 j hj
  · by_cases e2:i=j
    · subst e2
      rw [u4,if_pos rfl,if_pos hset,hr1]
      exact⟨a8,fun _=>⟨m,hmk,him⟩⟩
    · rw [u4,if_neg e2,hput j (Ne.symm e2)];exact h.lp j hj
  · rw [h.H]
    congr 2
    exact W2 fun p hp=>⟨(hput p.1 (fun e=>b3 (e▸List.mem_map_of_mem hp))).symm,rfl⟩
theorem U2.chain (hz : OkZ l n ss (al.map Prod.fst) ci lps kA) (hok : ∀ i, i < n → T4 l.toArray n ss i = true) {i : Nat} {o : Oper} {s : List (Nat × Nat)} (hcl : ∀ (m i : Nat) (o : Oper) (s : List (Nat × Nat)), m < cp.length → ci[m]? = some i → l[i]? = some o → ss[i]? = some s → cp[m]? = some (i, o, s)) (hkA : cp.length ≤ kA ∨ kA = ci.length) (hkc : k < cp.length) (hnd : ci.Nodup) (hin : i < n)
    (h:U2 P C N σ bs HT l ss lps H0 full F al ci cp k c1 Zs Hr ws listed cacc H) (hi:i∈ci) (hol:l[i]?=some o) (hs:ss[i]?=some s) (hun:listed.getD i false=false) (hw:∀ j,Region.waitsFor .any l.toArray i j=true→listed.getD j false=true) (hlt:i < listed.size) :
    o.guard=none∧A9 P C N o (A5 σ (cacc++full) s (y5 o)) H (fun r H'=>(∀ r0,o0 full i=some r0→r=r0)∧∃ c1' Zs' Hr',U2 P C N σ bs HT l ss lps H0 full F al ci cp (k+1) c1' Zs' Hr' ws (listed.setIfInBounds i true) ((i,r)::cacc) H'):=by
  have hg:o.guard=none:=by
    have:=hz.cg i hi
    unfold X7 at this
    simp only [show l.toArray[i]?=some o by simpa using hol] at this
    exact Option.isNone_iff_eq_none.1 this
  have hia:i∉al.map Prod.fst:=fun hx=>(hz.ksn i hx).2 hi
  have hilp:¬a0m lps ci.length i:=fun ⟨m,hm,hx⟩=>(hz.lp m i hm hx).2.1 hi
  have hput:∀ j,j≠i→(listed.setIfInBounds i true).getD j false=listed.getD j false:=fun j hj=>getD_set_ne false (Ne.symm hj)
  obtain⟨m,hm⟩:=List.mem_iff_getElem?.1 hi
  have hml:m < ci.length:=(List.getElem?_eq_some_iff.1 hm).1
  have hmk:¬m < k:=fun hx=>by have:=(h.ch m i hm).2 hx;rw [hun] at this;cases this
  have hkm:m≤k:=by
    have hch:=hz.chain
    unfold O1 at hch
    cases m with
    | zero=>omega
    | succ mj =>
      have h1:=List.all_eq_true.1 hch (mj+1) (List.mem_range.2 hml)
      simp only [hm,Bool.and_eq_true] at h1
      cases hj:ci[mj]? with
      | none=>simp [hj] at h1
      | some j =>
        simp only [hj,Bool.and_eq_true] at h1
        have:=(h.ch mj j hj).1 (hw j h1.2.2)
        omega
  obtain rfl:m=k:=by omega
  have hcc:=hcl m i o s hkc hm hol hs
  have hdrop:cp.drop m=(i,o,s)::cp.drop (m+1):=by
    have hlt:=(List.getElem?_eq_some_iff.1 hcc).1
    rw [List.drop_eq_getElem_cons hlt]
    congr 1
    rw [List.getElem?_eq_getElem hlt] at hcc
    exact Option.some.inj hcc
  have hpl:=h.pl
  rw [hdrop,a0H] at hpl
  replace hpl:=hpl.2 (hA (fun j=>listed.getD j false) ws al)
  refine⟨hg,?_⟩
  rw [h.env (hok i hin) hol hs (hz.b5y m i (by omega) hm) hw]
  have hnext : ∀ r Zs' Hr', prom P N C σ HT full (E4 l ss (lps.getD (m + 1) [])) ((i, r) :: c1) (fun c => a0H P C N σ bs HT (fun k => E4 l ss (lps.getD k [])) H0 full al F (cp.drop (m + 1)) (m + 1) c Zs' Hr') →
      ∃ c1' Zs'' Hr'',U2 P C N σ bs HT l ss lps H0 full F al ci cp (m+1) c1' Zs'' Hr'' ws (listed.setIfInBounds i true) ((i,r)::cacc) (Zs'++(hA (fun j=>listed.getD j false) ws al++Hr')):=fun r Zs' Hr' hq=>by
    obtain⟨c',k1,k2,k3⟩:=a1D (hz.late (m+1) (by omega)) hq
    have hLlp:∀ j,j∈lps.getD (m+1) []→a0m lps ci.length j:=fun j hj=>⟨m+1,by omega,hj⟩
    refine⟨c',Zs',Hr',fun j hj hl q hwq => ?_,by omega,by omega,fun m' i' hm' => ?_,fun j hj => ?_,fun j hj hj2 => ?_,fun j hj => ?_,fun j hj => ?_,fun m2 i2 o2 s2 hm2 hi2 ho2 hs2 => ?_,?_,k1⟩
    · by_cases e:j=i
      · subst e;exact O8 j (hw q hwq)
      · exact O8 i (h.w j hj (by rwa [hput j e] at hl) q hwq)
    · by_cases e:i'=i
      · subst e
        have h1:=(List.getElem?_eq_some_iff.1 hm')
        have h2:=(List.getElem?_eq_some_iff.1 hm)
        have:m'=m:=(List.getElem_inj (h₀:=h1.1) (h₁:=h2.1) hnd).1 (by rw [h1.2,h2.2])
        subst this
        exact⟨fun _=>by omega,fun _=>C8 hlt⟩
      · rw [hput i' e,h.ch m' i' hm']
        have:m'≠m:=by rintro rfl;rw [hm] at hm';exact e (Option.some.inj hm').symm
        omega
    · rw [k2 j (fun hx=>(hz.lp (m+1) j (by omega) hx).2.2.1 hj),u4,if_neg (fun e=>hia (by rw [e];exact hj))];exact h.al0 j hj
    · rw [k2 j (fun hx=>hj2 (hLlp j hx)),u4,u4,h.oth j hj hj2]
    · have hji:j≠i:=fun e=>hia (e▸hj)
      rw [u4,if_neg (Ne.symm hji),hput j hji];exact h.al1 j hj
    · have hji:j≠i:=fun e=>hilp (e▸hj)
      rw [u4,if_neg (Ne.symm hji),hput j hji,(h.lp j hj).1]
      refine⟨?_,fun hl=>a7M ((h.lp j hj).2 hl) (Nat.le_succ _)⟩
      split
      · rename_i hl
        have hkk:=(h.lp j hj).2 hl
        rw [k2 j (fun hx=>by have:=a42 hz (by omega) (by omega) hx hkk;omega),u4,if_neg (Ne.symm hji)]
      · rfl
    · rcases Nat.lt_or_ge m m2 with hlt2|hge2
      · obtain rfl:m2=m+1:=by omega
        exact k3 i2 o2 s2 hi2 ho2 hs2
      · obtain⟨r2,d1,d2⟩:=h.due m2 i2 o2 s2 hge2 hi2 ho2 hs2
        obtain⟨e1,e2,e3⟩:=(hz.lp m2 i2 (by omega) hi2).2.2.2.2.2.2 (m+1) (by omega) (by omega)
        have hi2i:i2≠i:=fun e=>(hz.lp m2 i2 (by omega) hi2).2.1 (e▸hi)
        refine⟨r2,by rw [k2 i2 e3,u4,if_neg (Ne.symm hi2i)];exact d1,fun Hp => ?_⟩
        have he:A5 σ (c'++full) s2 (y5 o2)=A5 σ (c1++full) s2 (y5 o2):=J8 fun t _ j hj=>by
          have hj1:=R6 (e1 m i rfl hm) hs2 hj
          have hj2:=R6 e2 hs2 hj
          have hji:j≠i:=fun e=>hj1 (by simp [e])
          rw [x8,x8,k2 j hj2,u4,if_neg (Ne.symm hji)]
        rw [he];exact d2 Hp
    · congr 2
      exact W2 fun p hp=>⟨(hput p.1 (fun e=>hia (e▸List.mem_map_of_mem hp))).symm,rfl⟩
  have hH:=h.H
  subst hH
  cases hr:o0 full i with
  | none =>
    rw [hr] at hpl
    exact hpl.mono fun r H' ⟨Zs',Hr',e,hq⟩=>⟨fun r0 h0=>(by cases h0),e▸hnext r Zs' Hr' hq⟩
  | some r0 =>
    rw [hr] at hpl
    exact hpl.mono fun r H' ⟨er,Zs',Hr',e,hq⟩=>⟨fun q h0=>by cases h0;exact er,by subst er;exact e▸hnext _ Zs' Hr' hq⟩
theorem U2.toB {F2 : List (Nat × AV) → j6 → j6 → Prop} {cp2 : List (Nat × Oper × List (Nat × Nat))} (hz : OkZ l n ss (al.map Prod.fst) ci lps kA) (hnal : (al.map Prod.fst).Nodup)
    (hF:∀ c Zs Hr,F c Zs Hr→a0H P C N σ bs HT (fun k=>E4 l ss (lps.getD k [])) H0 full [] F2 (cp2.drop cp.length) cp.length c Zs Hr)
    (h:U2 P C N σ bs HT l ss lps H0 full F al ci cp k c1 Zs Hr ws listed cacc H) (hk:k=cp.length) (hcp:cp.length≤cp2.length) (hall:∀ j∈al.map Prod.fst,listed.getD j false=true) :
    U2 P C N σ bs HT l ss lps H0 full F2 [] ci cp2 k (c1++rA ws al) (Zs++(al.map fun p=>p.2.blk (ws p.1))) Hr ws listed cacc H:=by
  subst hk
  have hpl:=h.pl
  rw [List.drop_length,a0H] at hpl
  refine⟨h.w,h.kle,hcp,h.ch,fun j hj=>(by cases hj),fun j _ hj2 => ?_,fun j hj=>(by cases hj),fun j hj => ?_,fun m i o s hm hi ho hs => ?_,?_,hF _ _ _ (hpl.2 ws)⟩
  · rw [x8]
    by_cases hja:j∈al.map Prod.fst
    · rw [h.al0 j hja,h.al1 j hja,if_pos (hall j hja)]
    · rw [h.oth j hja hj2,K4 hja]
      cases o0 c1 j<;>rfl
  · have hja:j∉al.map Prod.fst:=fun hx=>by
      obtain⟨m,hm,hi⟩:=hj
      exact(hz.lp m j hm hi).2.2.1 hx
    rw [x8,(h.lp j hj).1,K4 hja]
    refine⟨?_,(h.lp j hj).2⟩
    cases o0 c1 j<;>rfl
  · obtain⟨r,d1,d2⟩:=h.due m i o s hm hi ho hs
    have hsf:=(hz.lp m i (Nat.le_trans hm h.kle) hi).2.2.2.2.1
    refine⟨r,by rw [x8,d1],fun Hp => ?_⟩
    have he:A5 σ ((c1++rA ws al)++full) s (y5 o)=A5 σ (c1++full) s (y5 o):=J8 fun t _ j hj=>by
      have hj2:=R6 hsf hs hj
      rw [x8,x8,x8,K4 hj2]
      cases o0 c1 j<;>rfl
    rw [he];exact d2 Hp
  · rw [h.H,a7L fun p hp=>hall p.1 (List.mem_map_of_mem hp),List.append_assoc]
    rfl
theorem U2.b1B {bks qs : List (List Bool)} {ks : List Nat} {i : Nat} (hq : b2o l.toArray n ks ci bks qs = true) (h : U2 P C N σ (fun k => bks.getD k []) HT l ss lps H0 full F al ci cp k c1 Zs Hr ws listed cacc H) (hin : i < n) (hna1 : i ∉ ks) (hnc : i ∉ ci) (hun : listed.getD i false = false) :
    ∃ q:j6×(Nat→Bool×C5),H=q.1++K2 (qs.getD i []) H0 q.2 0:=by
  obtain⟨f,hf⟩:=h.pl.fam
  have hk:=h.kle
  have hle:leB (bks.getD k []) (qs.getD i [])=true:=by
    have h1:=List.all_eq_true.1 hq i (List.mem_range.2 hin)
    simp only [Bool.or_eq_true,List.contains_eq_mem,decide_eq_true_eq] at h1
    rcases h1 with (h1|h1)|h1
    · exact absurd h1 hna1
    · exact absurd h1 hnc
    · have h2:=List.all_eq_true.1 h1 k (List.mem_range.2 (by omega))
      simp only [Bool.or_eq_true] at h2
      rcases h2 with h2|h2
      · obtain⟨m,hm,hw⟩:=List.any_eq_true.1 h2
        have hmk:=List.mem_range.1 hm
        cases hci:ci[m]? with
        | none=>rw [hci] at hw;cases hw
        | some j =>
          rw [hci] at hw
          have h3:=h.w j (List.mem_of_getElem? hci) ((h.ch m j hci).2 hmk) i hw
          rw [hun] at h3;cases h3
      · exact h2
  obtain⟨f',hf'⟩:=a5U hle H0 f 0
  exact⟨(Zs++hA (fun j=>listed.getD j false) ws al,f'),by rw [h.H,hf,hf',List.append_assoc]⟩
theorem a6D (a b:List Nat):E4 l ss (a++b)=E4 l ss a++E4 l ss b:=by
 induction a with
 | nil=>rfl
 | cons i a ih =>
  simp only [List.cons_append,E4,ih]
  split<;>rfl
theorem a1o:∀ (c:List Nat),(∀ i∈c,i < l.length∧i < ss.length)→(E4 l ss c).length=c.length
 | [],_=>rfl
 | i::c,h=>by
  obtain⟨h1,h2⟩:=h i List.mem_cons_self
  simp only [E4,List.getElem?_eq_getElem h1,List.getElem?_eq_getElem h2,List.length_cons]
  rw [a1o c (fun j hj=>h j (List.mem_cons_of_mem _ hj))]
end
theorem H6.b2p {P : Program} {C : Ctx} {N : Nat} {Q : Exit → u5 → j6 → Prop} {σ : u5} {H : j6} {id : Nat} {l : List Oper} (bks : List (List Bool)) (qs : List (List Bool)) (lps : List (List Nat)) (al : List (Nat × AT)) (kA : Nat) (hm : P.follows .mixedOrders = true) (n : Nat) (ss : List (List (Nat × Nat))) (ci : List Nat)
    (hN:H7 N l=true) (hB:W7 l.toArray n ss=true) (hss:Nat.ble n ss.length=true) (hC:a38 l.toArray n ss (al.map Prod.fst) ci lps kA=true) (hkA:Nat.ble kA ci.length=true) (hnd:ci.Nodup) (hna:(al.map Prod.fst).Nodup)
    (hal:∀ p∈al,∀ o,l[p.1]?=some o→o.guard=none∧∀ σ' H',A9 P C N o σ' H' (fun r H''=>∃ b,r=p.2.res b∧H''=p.2.blk b::H'))
    (hq:b2o l.toArray n (al.map Prod.fst) ci bks qs=true) (hlen:Nat.ble lps.length (ci.length+1)=true)
    (h:a1n P N C σ (fun i (q:j6×(Nat→Bool×C5))=>q.1++K2 (qs.getD i []) H q.2 0) (al.map Prod.fst++(lps.flatten++ci)) (fun accP=>((al.map Prod.fst++lps.flatten).all fun i=>(o0 accP i).isNone)=true ∧
      a0H P C N σ (fun k=>bks.getD k []) (fun i (q:j6×(Nat→Bool×C5))=>q.1++K2 (qs.getD i []) H q.2 0) (fun k=>E4 l ss (lps.getD k [])) H accP al
        (a0H P C N σ (fun k=>bks.getD k []) (fun i (q:j6×(Nat→Bool×C5))=>q.1++K2 (qs.getD i []) H q.2 0) (fun k=>E4 l ss (lps.getD k [])) H accP []
          (fun cacc Zs Hr=>C4 P C N l.toArray Q (l.drop n) (U1 (cacc++accP) (l.take n) 0 σ) (Zs++Hr)) (E4 l ss (ci.drop kA)) kA) (E4 l ss (ci.take kA)) 0 [] [] H) (l.take n) ss 0 []) :
    H6 P C N (.region id l.toArray true) Q σ H := .b3b (al:=al) (by
  have hB0:=hB
  simp only [W7,Bool.and_eq_true,Bool.or_eq_true] at hB
  obtain⟨⟨⟨⟨⟨hle,hback⟩,hok⟩,hdst⟩,htail⟩,hseq⟩:=hB
  have hle':n≤l.length:=by simpa using Nat.le_of_ble_eq_true hle
  have hok':∀ i,i < n→T4 l.toArray n ss i=true:=fun i hi=>List.all_eq_true.1 hok i (List.mem_range.2 hi)
  have hssl:=Nat.le_of_ble_eq_true hss
  obtain⟨full,⟨hnone,hF⟩,_,hd⟩:=a0l (l.take n) ss 0 [] (fun j r hj=>by simp [o0] at hj) h
  have hz:=okZ hC
  have hC':=hz.chain
  unfold O1 at hC'
  have hcin:∀ i∈ci,i < n:=fun i hi=>by
    obtain⟨m,hm⟩:=List.mem_iff_getElem?.1 hi
    have h1:=List.all_eq_true.1 hC' m (List.mem_range.2 (List.getElem?_eq_some_iff.1 hm).1)
    simp only [hm,Bool.and_eq_true] at h1
    simpa [Nat.blt_eq] using h1.1
  have hlpf:∀ i,i∈lps.flatten↔a0m lps ci.length i:=fun i=>by
    have hll:=Nat.le_of_ble_eq_true hlen
    constructor
    · intro hi
      obtain⟨L,hL,hi⟩:=List.mem_flatten.1 hi
      obtain⟨m,hm,rfl⟩:=List.getElem_of_mem hL
      exact⟨m,by omega,by simpa [List.getD,hm] using hi⟩
    · rintro⟨m,_,hi⟩
      by_cases hm2:m < lps.length
      · simp [List.getD,hm2] at hi
        exact List.mem_flatten.2 ⟨_,List.getElem_mem hm2,hi⟩
      · simp [List.getD,hm2] at hi
  have hcl:=a1m (l:=l) (ss:=ss) ci (fun i hi=>⟨_,_,List.getElem?_eq_getElem (Nat.lt_of_lt_of_le (hcin i hi) hle'),List.getElem?_eq_getElem (Nat.lt_of_lt_of_le (hcin i hi) hssl)⟩)
  have hp:∀ i o s,i < n→i∉al.map Prod.fst++(lps.flatten++ci)→l[i]?=some o→ss[i]?=some s→∃ r,o0 full i=some r∧Z4 P N C σ (fun q:j6×(Nat→Bool×C5)=>q.1++K2 (qs.getD i []) H q.2 0) full o s r:=fun i o s hi hic ho hsi=>by
    obtain⟨r,acc',h1,h2,h3⟩:=hd i o s (by rw [List.getElem?_take,if_pos hi];exact ho) hsi (by simpa using hic)
    rw [Nat.zero_add] at h1 h2 h3
    refine⟨r,h1,fun H' => ?_⟩
    have hoi:=hok' i hi
    unfold T4 at hoi
    have ho':l.toArray[i]?=some o:=by simpa using ho
    simp only [ho',hsi,Bool.and_eq_true] at hoi
    have hback':∀ j,Region.waitsFor .any l.toArray i j=true→j < i:=fun j hw=>by
      obtain⟨e,he,hb,heq⟩:=R4 ho' hw
      have hil:i < l.toArray.size:=(Array.getElem?_eq_some_iff.1 ho').1
      have h4:=List.all_eq_true.1 hback i (List.mem_range.2 hil)
      simp only [ho',Array.all_eq_true_iff_forall_mem] at h4
      have h5:=h4 e he
      rw [hb] at h5
      have:e.on < i:=by simpa [Nat.blt_eq] using h5
      omega
    have henv:∀ t∈y5 o,∀ j,E9 s t=some j→o0 acc' j=o0 full j:=fun t ht j hj=>by
      have h6:=List.all_eq_true.1 hoi.1 t ht
      unfold S7 at h6
      simp only [hj,Bool.and_eq_true] at h6
      exact h3 j (hback' j h6.2)
    have hdd:=h2 H'
    unfold a1P at hdd ⊢
    rw [←J8 henv]
    cases hg:o.guard with
    | none=>rw [hg] at hdd;exact hdd
    | some p =>
      obtain⟨g,want⟩:=p
      rw [hg] at hdd
      have h6:=hoi.2
      rw [hg] at h6
      simp only [Bool.and_eq_true] at h6
      simp only at hdd ⊢
      rw [←h3 g (hback' g h6.1.2)];exact hdd
  have hkA':=Nat.le_of_ble_eq_true hkA
  have hvalid:∀ c:List Nat,(∀ i∈c,i∈ci)→∀ i∈c,i < l.length∧i < ss.length:=fun c hc i hi=>⟨Nat.lt_of_lt_of_le (hcin i (hc i hi)) hle',Nat.lt_of_lt_of_le (hcin i (hc i hi)) hssl⟩
  have hlA:(E4 l ss (ci.take kA)).length=kA:=by
    rw [a1o _ (hvalid _ (fun i hi=>List.mem_of_mem_take hi)),List.length_take];omega
  have hlB:(E4 l ss ci).length=ci.length:=a1o _ (hvalid _ (fun i hi=>hi))
  have hdrop:(E4 l ss ci).drop (E4 l ss (ci.take kA)).length=E4 l ss (ci.drop kA):=by
    have:=a6D (l:=l) (ss:=ss) (ci.take kA) (ci.drop kA)
    rw [List.take_append_drop] at this
    rw [this,List.drop_left]
  have hclA:∀ (m i:Nat) (o:Oper) (s:List (Nat×Nat)),m < (E4 l ss (ci.take kA)).length→ci[m]?=some i→l[i]?=some o→ss[i]?=some s→(E4 l ss (ci.take kA))[m]?=some (i,o,s):=fun m i o s hm hi ho hs =>
    a1m (ci.take kA) (fun i hi=>by
      obtain⟨h1,h2⟩:=hvalid _ (fun i hi=>List.mem_of_mem_take hi) i hi
      exact⟨_,_,List.getElem?_eq_getElem h1,List.getElem?_eq_getElem h2⟩) m i o s (by rw [List.getElem?_take,if_pos (by omega)];exact hi) ho hs
  have hzB:=hz.zero
  let FB:List (Nat×AV)→j6→j6→Prop:=fun cacc Zs Hr=>C4 P C N l.toArray Q (l.drop n) (U1 (cacc++full) (l.take n) 0 σ) (Zs++Hr)
  let FA:List (Nat×AV)→j6→j6→Prop:=a0H P C N σ (fun k=>bks.getD k []) (fun i (q:j6×(Nat→Bool×C5))=>q.1++K2 (qs.getD i []) H q.2 0) (fun k=>E4 l ss (lps.getD k [])) H full [] FB (E4 l ss (ci.drop kA)) kA
  have htoB : ∀ {k c1 Zs Hr ws listed cacc H'}, U2 P C N σ (fun k => bks.getD k []) (fun i (q : j6 × (Nat → Bool × C5)) => q.1 ++ K2 (qs.getD i []) H q.2 0) l ss lps H full FA al ci (E4 l ss (ci.take kA)) k c1 Zs Hr ws listed cacc H' → k = kA → (∀ j ∈ al.map Prod.fst, listed.getD j false = true) →
      U2 P C N σ (fun k=>bks.getD k []) (fun i (q:j6×(Nat→Bool×C5))=>q.1++K2 (qs.getD i []) H q.2 0) l ss lps H full FB [] ci (E4 l ss ci) k (c1++rA ws al) (Zs++(al.map fun p=>p.2.blk (ws p.1))) Hr ws listed cacc H':=fun {k c1 Zs Hr ws listed cacc H'} hiv hk hall =>
    hiv.toB hz hna (fun c Zs Hr h=>by rw [hdrop,hlA];exact h) (by rw [hlA];exact hk) (by rw [hlA,hlB];exact hkA') hall
  refine H6.a7K (fun i (q:j6×(Nat→Bool×C5))=>q.1++K2 (qs.getD i []) H q.2 0) hm n ss (al.map Prod.fst++(lps.flatten++ci)) hN hB0 full
    (fun listed cacc H'=>(∃ k c1 Zs Hr ws,U2 P C N σ (fun k=>bks.getD k []) (fun i (q:j6×(Nat→Bool×C5))=>q.1++K2 (qs.getD i []) H q.2 0) l ss lps H full FA al ci (E4 l ss (ci.take kA)) k c1 Zs Hr ws listed cacc H') ∨
      ((∀ j∈al.map Prod.fst,listed.getD j false=true)∧∃ k c1 Zs Hr ws,U2 P C N σ (fun k=>bks.getD k []) (fun i (q:j6×(Nat→Bool×C5))=>q.1++K2 (qs.getD i []) H q.2 0) l ss lps H full FB [] ci (E4 l ss ci) k c1 Zs Hr ws listed cacc H')) ?_ hp ?_ ?_ ?_ ?_
  · refine .inl ⟨0,[],[],H,fun _=>0,fun j _ hl=>(by rw [getD_replicate_false] at hl;cases hl),Nat.zero_le _,Nat.zero_le _,fun m i hi=>⟨fun hl => ?_,fun h=>by omega⟩,fun j _=>rfl,fun j _ _=>rfl,fun j _ => ?_,fun j _=>⟨?_,fun hl => ?_⟩,fun m i o s hm hi => ?_,?_,hF⟩
    · rw [getD_replicate_false] at hl;cases hl
    · rw [if_neg (by rw [getD_replicate_false];decide)];rfl
    · rw [if_neg (by rw [getD_replicate_false];decide)];rfl
    · rw [getD_replicate_false] at hl;cases hl
    · obtain⟨_,_,_,_,_,⟨hm0,_⟩,_⟩:=hz.lp m i (by omega) hi
      omega
    · rw [List.nil_append]
      congr 1
      exact(List.map_congr_left fun p _=>by simp only [getD_replicate_false];rfl)
  · rintro listed cacc H' i hiv hin hnc hun
    rw [List.mem_append,List.mem_append,not_or,not_or] at hnc
    rcases hiv with ⟨k,c1,Zs,Hr,ws,hiv⟩|⟨_,k,c1,Zs,Hr,ws,hiv⟩
    · exact hiv.b1B hq hin hnc.1 hnc.2.2 hun
    · exact hiv.b1B hq hin hnc.1 hnc.2.2 hun
  · rintro listed cacc H' i hiv hni
    rw [List.mem_append,List.mem_append,not_or,not_or] at hni
    rcases hiv with ⟨k,c1,Zs,Hr,ws,hiv⟩|⟨hall,k,c1,Zs,Hr,ws,hiv⟩
    · exact .inl ⟨k,c1,Zs,Hr,ws,hiv.pure hz hni.2.2 hni.1 (fun hx=>hni.2.1 ((hlpf i).2 hx))⟩
    · exact .inr ⟨fun j hj=>O8 i (hall j hj),k,c1,Zs,Hr,ws,hiv.pure hzB hni.2.2 (by simp) (fun hx=>hni.2.1 ((hlpf i).2 hx))⟩
  · rintro listed cacc H' i o s hiv hic hol hs hun hw hlt
    rcases List.mem_append.1 hic with hk|hc
    · obtain⟨p,hp,rfl⟩:=List.mem_map.1 hk
      obtain⟨hg,hop⟩:=hal p hp o hol
      rcases hiv with ⟨k,c1,Zs,Hr,ws,hiv⟩|⟨hall,_⟩
      · obtain⟨F',h1,h2⟩:=hiv.alloc hz hna hp hun hlt
        refine⟨hg,A9.b4l h1 ((hop _ _).mono fun r H'' ⟨b,hr,hH⟩=>⟨_,hH,fun r0 h0 => ?_,by rw [hr];exact .inl ⟨k,c1,Zs,Hr,_,h2 b⟩⟩)⟩
        have h3:=List.all_eq_true.1 hnone p.1 (List.mem_append_left _ hk)
        rw [h0] at h3;cases h3
      · rw [hall p.1 hk] at hun;cases hun
    · rcases List.mem_append.1 hc with hlp|hc
      · obtain⟨m,hm,him⟩:=(hlpf i).1 hlp
        have hlz:=hz.lp m i hm him
        have h3:=List.all_eq_true.1 hnone i (List.mem_append_right _ hlp)
        rcases hiv with ⟨k,c1,Zs,Hr,ws,hiv⟩|⟨hall,k,c1,Zs,Hr,ws,hiv⟩
        · obtain⟨hg,hop⟩:=hiv.late hz hok' hm him hol hs hw hlt (hiv.b1B hq hlz.1 hlz.2.2.1 hlz.2.1 hun) (Option.isNone_iff_eq_none.1 h3)
          exact⟨hg,hop.mono fun r H' ⟨q1,q2⟩=>⟨q1,.inl ⟨k,c1,Zs,Hr,ws,q2⟩⟩⟩
        · obtain⟨hg,hop⟩:=hiv.late hzB hok' hm him hol hs hw hlt (hiv.b1B hq hlz.1 hlz.2.2.1 hlz.2.1 hun) (Option.isNone_iff_eq_none.1 h3)
          exact⟨hg,hop.mono fun r H' ⟨q1,q2⟩=>⟨q1,.inr ⟨fun j hj=>O8 i (hall j hj),k,c1,Zs,Hr,ws,q2⟩⟩⟩
      · obtain⟨m,hm⟩:=List.mem_iff_getElem?.1 hc
        have hml:m < ci.length:=(List.getElem?_eq_some_iff.1 hm).1
        have hstepB : (∀ j ∈ al.map Prod.fst, listed.getD j false = true) → ∀ {k c1 Zs Hr ws}, U2 P C N σ (fun k => bks.getD k []) (fun i (q : j6 × (Nat → Bool × C5)) => q.1 ++ K2 (qs.getD i []) H q.2 0) l ss lps H full FB [] ci (E4 l ss ci) k c1 Zs Hr ws listed cacc H' →
            o.guard=none∧A9 P C N o (A5 σ (cacc++full) s (y5 o)) H' (fun r H'=>(∀ r0,o0 full i=some r0→r=r0)∧((∃ k c1 Zs Hr ws,U2 P C N σ (fun k=>bks.getD k []) (fun i (q:j6×(Nat→Bool×C5))=>q.1++K2 (qs.getD i []) H q.2 0) l ss lps H full FA al ci (E4 l ss (ci.take kA)) k c1 Zs Hr ws (listed.setIfInBounds i true) ((i,r)::cacc) H') ∨
              ((∀ j∈al.map Prod.fst,(listed.setIfInBounds i true).getD j false=true)∧∃ k c1 Zs Hr ws,U2 P C N σ (fun k=>bks.getD k []) (fun i (q:j6×(Nat→Bool×C5))=>q.1++K2 (qs.getD i []) H q.2 0) l ss lps H full FB [] ci (E4 l ss ci) k c1 Zs Hr ws (listed.setIfInBounds i true) ((i,r)::cacc) H'))):=fun hall {k c1 Zs Hr ws} hiv=>by
          have hkc:k < (E4 l ss ci).length:=by
            rw [hlB]
            rcases Nat.lt_or_ge k ci.length with h|h
            · exact h
            · have:=(hiv.ch m i hm).2 (by omega)
              rw [hun] at this;cases this
          obtain⟨hg,hop⟩:=hiv.chain hzB hok' (fun m i o s _=>hcl m i o s) (.inr rfl) hkc hnd (hcin i hc) hc hol hs hun hw hlt
          exact⟨hg,hop.mono fun r H' ⟨q1,c1',Zs',Hr',q2⟩=>⟨q1,.inr ⟨fun j hj=>O8 i (hall j hj),k+1,c1',Zs',Hr',ws,q2⟩⟩⟩
        rcases hiv with ⟨k,c1,Zs,Hr,ws,hiv⟩|⟨hall,k,c1,Zs,Hr,ws,hiv⟩
        · rcases Nat.lt_or_ge k (E4 l ss (ci.take kA)).length with hkc|hkc
          · obtain⟨hg,hop⟩:=hiv.chain hz hok' hclA (.inl (Nat.le_of_eq hlA)) hkc hnd (hcin i hc) hc hol hs hun hw hlt
            exact⟨hg,hop.mono fun r H' ⟨q1,c1',Zs',Hr',q2⟩=>⟨q1,.inl ⟨k+1,c1',Zs',Hr',ws,q2⟩⟩⟩
          · have hke:k=kA:=by have:=hiv.kp;omega
            have hmk:kA≤m:=by
              rcases Nat.lt_or_ge m k with h|h
              · have:=(hiv.ch m i hm).2 h
                rw [hun] at this;cases this
              · omega
            have hall:∀ j∈al.map Prod.fst,listed.getD j false=true:=fun j hj=>hw j (hz.b4p m i hmk hm j hj)
            exact hstepB hall (htoB hiv hke hall)
        · exact hstepB hall hiv
  · rintro listed cacc H' hiv hall
    have hlist:∀ j∈al.map Prod.fst,listed.getD j false=true:=fun j hj=>hall j (hz.ksn j hj).1
    have hend:∀ {k c1 Zs Hr ws},U2 P C N σ (fun k=>bks.getD k []) (fun i (q:j6×(Nat→Bool×C5))=>q.1++K2 (qs.getD i []) H q.2 0) l ss lps H full FB [] ci (E4 l ss ci) k c1 Zs Hr ws listed cacc H'→C4 P C N l.toArray Q (l.drop n) (U1 (cacc++full) (l.take n) 0 σ) H':=fun {k c1 Zs Hr ws} hiv=>by
      have hk:=hiv.kle
      have hk':k=ci.length:=by
        rcases Nat.lt_or_ge k ci.length with h|h
        · have:=(hiv.ch k _ (List.getElem?_eq_getElem h)).1 (hall _ (hcin _ (List.getElem_mem h)))
          omega
        · omega
      have hpl:=hiv.pl
      rw [hk',List.drop_eq_nil_of_le (Nat.le_of_eq hlB),a0H] at hpl
      have h2:C4 P C N l.toArray Q (l.drop n) (U1 ((c1++rA ws [])++full) (l.take n) 0 σ) ((Zs ++ [])++Hr):=hpl.2 ws
      rw [hiv.H]
      rw [List.append_nil] at h2
      rw [Z6 (b:=(c1++rA ws [])++full) fun j => ?_]
      · exact h2
      · rw [x8,x8,x8]
        by_cases hjl:a0m lps ci.length j
        · obtain⟨m,hm,him⟩:=hjl
          rw [(hiv.lp j ⟨m,hm,him⟩).1,if_pos (hall j (hz.lp m j hm him).1)]
          cases o0 c1 j<;>rfl
        · rw [hiv.oth j (by simp) hjl]
          cases o0 c1 j<;>rfl
    rcases hiv with ⟨k,c1,Zs,Hr,ws,hiv⟩|⟨_,k,c1,Zs,Hr,ws,hiv⟩
    · have hk':k=kA:=by
        have h1:=hiv.kp
        rw [hlA] at h1
        rcases Nat.lt_or_ge k kA with h|h
        · have hkl:k < ci.length:=by omega
          have:=(hiv.ch k _ (List.getElem?_eq_getElem hkl)).1 (hall _ (hcin _ (List.getElem_mem hkl)))
          omega
        · omega
      exact hend (htoB hiv hk' hlist)
    · exact hend hiv)
end Go.Ab
namespace Go.Ab
open Go.Fl Go.RowKit
open p6 (rep)
section rules
variable {P:Program} {C:Ctx} {N:Nat} {σ:u5} {H:j6} {d:Option Nat} {ty:TypeId} {ps:String} {af:Array Edge} {g:Option (Nat×Bool)} {K:AV→Prop} {KH:AV→j6→Prop} {x y z:Operand} {T T2 E S D U:TypeId} {o:Oper}
end rules
section forget
variable {P:Program} {C:Ctx} {N:Nat} {σ:u5} {H:j6}
end forget
theorem a3i.raw {u:Value}:a3i (.raw u):=fun I J v h=>h
section calls
variable {P:Program} {C:Ctx} {N:Nat} {σ:u5} {H:j6} {G:Gl} (hG:G.p C.I0) {f:FuncId} {d:Option Nat} {args:Array Operand} {tys:Array TypeId} {ty:TypeId} {ps:String} {af:Array Edge} {g:Option (Nat×Bool)} {ags:List AV}
include hG
end calls
end Go.Ab
namespace Go.Fl
open Go.RowKit
section
variable {P:Program} {C:Ctx} {N:Nat} {ρ:Env} {I:Im} {L:Lh} {d:Option Nat} {F:Operand} {args:Array Operand} {tys:Array TypeId} {ty:TypeId} {ps:String} {af:Array Edge} {g:Option (Nat×Bool)} {vs:List Value}
end
end Go.Fl
namespace Go.Fl
open Go.RowKit
section
variable {P:Program} {C:Ctx} {N:Nat} {Q:Exit→Env→Im→Lh→Prop} {ρ:Env} {I:Im} {L:Lh}
end
abbrev Chunk:=List (Nat×Obj)
end Go.Fl
namespace Go.Ab
open Go.Fl Go.RowKit
open p6 (rep)
structure Iter where
 K:Nat→Im→Chunk→Prop
 Kx:Im→Chunk→Prop
 mono:∀ k I J Z,Le I J→K k I Z→K k J Z
 b6q:∀ I J Z,Le I J→Kx I Z→Kx J Z
structure b6F where
 it:Iter
 st:Option Nat
section
variable {P:Program} {C:Ctx} {N:Nat} {Q:Exit→u5→j6→Prop} {σ:u5} {H:j6}
end
theorem A7.b4q {C:Ctx} {σ:u5} {H:j6} {α:Type} {r:p6 α} {t:Nat} {w:Value} {E:TypeId} {l:List α} {b:Bool} {F:Bool×C5→j6} (ht:C9 σ t=some (.raw w)) (hH:C1 H (b,.own E w l) F):A7 C σ H (.tmp t) (.v (a08.mk w)):=fun ρ I L hs=>by
 obtain⟨u,h1,rfl⟩:=hs.env t _ ht
 obtain⟨i,X,h2,h3,_⟩:=hH.get hs.heap
 obtain⟨xs,h4,_⟩:=h3.1
 obtain⟨a,c,rfl⟩:=h4.shape
 exact⟨_,h1,_,⟨a8,a8⟩,a8⟩
end Go.Ab
namespace Go.Ab
open Go.Fl Go.RowKit
open p6 (rep)
universe u
class TyI (P:Program) (T:TypeId) (α:outParam Type) (r:outParam (p6 α)) (i:outParam (Inhabited α)):Prop where h:G3 P T α
class UnI (P:Program) (T:TypeId) (d:outParam TypeDesc):Prop where h:P.underlying T=some d
class SlI (P:Program) (T:TypeId) (E:outParam TypeId) (α:outParam Type) (n:outParam Nat) (r:outParam (p6 α)) (i:outParam (Inhabited α)):Prop where h:SlT P T E α n
class FdI (P:Program) (T:TypeId) (i:Nat) (β:outParam Type) (s:outParam (p6 β)) (γ:outParam Type) (q:outParam (p6 γ)) (m:outParam (p5 β γ)) (f:outParam (β→γ)):Prop where
 h:∃ sz,A6 P T i=some (m.off,sz+1,p6.agg γ)∧sz+1=p6.size γ
 e:∀ x,m.get x=f x
 b:p6.agg β=true
class LnI {β γ:Type} {s:p6 β} {q:p6 γ} (m:p5 β γ) (f:outParam (β→γ)) (g:outParam (γ→β→β)):Prop where
 e:∀ x,m.get x=f x
 u:∀ y x,m.set y x=g y x
abbrev TyJ (P:Program) (T:TypeId) (α:Type) [r:p6 α] [i:Inhabited α]:Prop:=TyI P T α r i
abbrev SlJ (P:Program) (T E:TypeId) (α:Type) (n:Nat) [r:p6 α] [i:Inhabited α]:Prop:=SlI P T E α n r i
abbrev FdJ (P:Program) (T:TypeId) (i:Nat) {β γ:Type} [s:p6 β] [q:p6 γ] (m:p5 β γ) (f:β→γ):Prop:=FdI P T i β s γ q m f
theorem FdI.mk' {P:Program} {T:TypeId} {i:Nat} {β:Type} {s:p6 β} {γ:Type} {q:p6 γ} {m:p5 β γ} {f:β→γ} {off sz:Nat} {ag:Bool} (hf:A6 P T i=some (off,sz+1,ag)) (ho:off=m.off) (hz:sz+1=p6.size γ) (hg:ag=p6.agg γ) (e:∀ x,m.get x=f x) (b:p6.agg β=true):FdI P T i β s γ q m f:=by
 subst ho;subst hg
 exact⟨⟨sz,hf,hz⟩,e,b⟩
@[reducible] def lookW:u5→Nat→Option AV
 | [],_=>none
 | (s,a)::r,t=>match Nat.beq s t with|true=>some a|false=>lookW r t
theorem a2t:∀ (σ:u5) (t:Nat),lookW σ t=C9 σ t
 | [],_=>rfl
 | (s,a)::r,t=>by
  unfold lookW C9
  cases Nat.beq s t with
  | true=>rfl
  | false=>exact a2t r t
@[reducible] def a7N:List Oper→Nat→Option Nat
 | [],_=>none
 | o::_,0=>o.dst
 | _::l,n+1=>a7N l n
theorem a5V:∀ (l:List Oper) (n:Nat),a7N l n=(l.toArray[n]?).bind (·.dst)
 | [],_=>by simp [a7N]
 | _::_,0=>by simp [a7N]
 | _::l,n+1=>by
  have:=a5V l n
  simp only [a7N]
  simpa using this
@[reducible] def b0l (N:Nat):List Oper→Bool
 | []=>true
 | o::l=>match o.dst with|none=>b0l N l|some d=>match Nat.ble (d+1) N with|true=>b0l N l|false=>false
theorem a8G {N:Nat}:∀ {l:List Oper},b0l N l=true→H7 N l=true
 | [],_=>by rfl
 | o::l,h=>by
  have ih:=a8G (N:=N) (l:=l)
  unfold b0l at h
  cases ho:o.dst with
  | none=>simp_all [H7]
  | some d =>
   rw [ho] at h
   simp only at h
   split at h
   ·rename_i hb
    have:=Nat.le_of_ble_eq_true hb
    simp_all [H7]
    try omega
   ·cases h
@[reducible] def b3e:List UInt8→Nat→Bool
 | [],_=>true
 | _::l,n+1=>b3e l n
 | _::_,0=>false
theorem a8H:∀ {l:List UInt8} {n:Nat},b3e l n=true→l.length≤n
 | [],_,_=>by simp
 | _::l,n+1,h=>by
  have:=a8H (l:=l) (n:=n) h
  simp;omega
 | _::_,0,h=>by cases h
class EqS {α:Type u} (x:Option α) (a:outParam α):Prop where h:x=some a
instance {α:Type u} {a:α}:EqS (no_index (some a)) a:=⟨rfl⟩
class TrB (b:Bool):Prop where h:b=true
instance:TrB (no_index true):=⟨rfl⟩
class FaB (b:Bool):Prop where h:b=false
class AsC (c:Bool) (a:AV) (b:outParam AV):Prop where h:∀ I u,c=true→D2 I a u→D2 I b u
instance (priority:=low) {c:Bool} {a:AV}:AsC c a a:=⟨fun _ _ _ h=>h⟩
instance {c:Bool} {a:AV}:AsC c (.opt c a) a:=⟨fun _ _ e h=>h e⟩
class VaQ (a:AV) (α:outParam Type) (r:outParam (p6 α)) (x:outParam α):Prop where h:∀ I u,D2 I a u→D2 I (.v x) u
instance {α:Type} {r:p6 α} {x:α}:VaQ (.v x) α r x:=⟨fun _ _ h=>h⟩
instance {α:Type} {r:p6 α} {l:List α}:VaQ (.vc l) (List α) inferInstance l:=⟨fun _ u h=>⟨[u],⟨u,rfl,h.2⟩,rfl⟩⟩
class EvQ (c:Bool) (σ:u5) (x:Operand) (a:outParam AV):Prop where h:∀ C H,c=true→A7 C σ H x a
class EvV (c:Bool) (σ:u5) (x:Operand) (α:outParam Type) (r:outParam (p6 α)) (v:outParam α):Prop where h:∀ C H,c=true→A7 C σ H x (.v v)
section
variable {P:Program} {σ:u5} {x y z:Operand} {c bo:Bool} {n:Nat}
instance {t:Nat} {a b:AV} [h:EqS (lookW σ t) a] [k:AsC c a b]:EvQ c σ (.tmp t) b:=⟨fun C H e ρ I L hs=>by
 obtain⟨u,h1,h2⟩:=hs.env t a ((a2t σ t).symm.trans h.h)
 exact⟨u,h1,k.h I u e h2⟩⟩
instance:EvQ c σ (.const (.bool bo)) (.v bo):=⟨fun _ _ _ => .b⟩
instance [h:TrB (Nat.ble n 9223372036854775807)]:EvQ c σ (.const (.int .i64 (no_index (@OfNat.ofNat Int n _)))) (.v (@OfNat.ofNat Int n _)):=⟨fun _ _ _ => .i (by
 have:=Nat.le_of_ble_eq_true h.h
 simp only [Bool.and_eq_true,decide_eq_true_eq]
 show -9223372036854775808≤(n:Int)∧(n:Int)≤9223372036854775807
 omega)⟩
instance {l:List UInt8} [h:TrB (b3e l 10000)]:EvQ c σ (.const (.string (ByteArray.mk (List.toArray l)))) (.v (u0.mk l)):=⟨fun _ _ _ => .s l (by simp) (Nat.le_trans (a8H h.h) (by decide))⟩
instance [h:TrB (Nat.ble n 255)]:EvQ c σ (.const (.int .u8 (no_index (@OfNat.ofNat Int n _)))) (.v (@OfNat.ofNat UInt8 n _)):=⟨fun _ _ _ => .u8 _ (by
 have:=Nat.le_of_ble_eq_true h.h
 show(n:Int)=_
 have:(OfNat.ofNat n:UInt8).toNat=n % 2^8:=UInt8.toNat_ofNat'
 omega)⟩
instance [h:TrB (Nat.ble n 18446744073709551615)]:EvQ c σ (.const (.int .u64 (no_index (@OfNat.ofNat Int n _)))) (.v (@OfNat.ofNat UInt64 n _)):=⟨fun _ _ _ => .u64 _ (by
 have:=Nat.le_of_ble_eq_true h.h
 show(n:Int)=_
 have:(OfNat.ofNat n:UInt64).toNat=n % 2^64:=UInt64.toNat_ofNat'
 omega)⟩
instance {a:AV} {α:Type} {r:p6 α} {v:α} [h:EvQ c σ x a] [k:VaQ a α r v]:EvV c σ x α r v:=⟨fun C H e ρ I L hs=>by
 obtain⟨u,h1,h2⟩:=h.h C H e ρ I L hs
 exact⟨u,h1,k.h I u h2⟩⟩
end
class HoQ (H:j6) (w:Value) (B:outParam (Bool×C5)) (F:outParam (Bool×C5→j6)):Prop where h:C1 H B F
instance (priority:=low) {A B:Bool×C5} {H:j6} {w:Value} {F:Bool×C5→j6} [k:HoQ H w B F]:HoQ (A::H) w B (fun X=>A::F X):=⟨.s k.h⟩
instance {g:Bool} {α:Type} {r:p6 α} {a:α} {H:j6} {w:Value}:HoQ ((g,.ob w a)::H) w (g,.ob w a) (fun X=>X::H):=⟨.z⟩
instance {g:Bool} {α:Type} {r:p6 α} {E:TypeId} {a:List α} {H:j6} {w:Value}:HoQ ((g,.own E w a)::H) w (g,.own E w a) (fun X=>X::H):=⟨.z⟩
class OpQ (G:Gl) (P:Program) (c:Bool) (o:Oper) (σ:u5) (H:j6) (r:outParam AV):Prop where h:∀ N C,G.p C.I0→c=true→j7 P N C o σ H (fun a=>a=r)
class LdQ (P:Program) (T:TypeId) (a:AV) (H:j6) (r:outParam AV):Prop where h:∀ N C σ x d ty ps af g,A7 C σ H x a→j7 P N C ⟨d,.load T x,ty,ps,af,g⟩ σ H (fun a=>a=r)
class FaQ (P:Program) (T:TypeId) (i:Nat) (a:AV) (r:outParam AV):Prop where h:∀ N C σ H x d ty ps af g,A7 C σ H x a→j7 P N C ⟨d,.fieldAddr T x i,ty,ps,af,g⟩ σ H (fun a=>a=r)
section
variable {G:Gl} {P:Program} {N:Nat} {c:Bool} {σ:u5} {H:j6} {d:Option Nat} {ty:TypeId} {ps:String} {af:Array Edge} {g:Option (Nat×Bool)} {x y z:Operand} {T T2 E:TypeId} {bo:Bool} {a b:AV}
instance {α:Type} {r:p6 α} {i:Inhabited α} {a:α} [t:TyI P T α r i]:LdQ P T (.p a) H (.v a):=⟨fun N C σ x d ty ps af g h => .F1 t.h h rfl⟩
instance {α:Type} {r:p6 α} {i:Inhabited α} {w:Value} {a:α} {bb:Bool} {F:Bool×C5→j6} [t:TyI P T α r i] [k:HoQ H w (bb,.ob w a) F]:LdQ P T (.ln w (p5.id (α:=α))) H (.v a):=⟨fun N C σ x d ty ps af g h => .Q4 t.h h k.h rfl⟩
instance (priority:=low) {α β:Type} {r:p6 α} {s:p6 β} {i:Inhabited β} {w:Value} {l:p5 α β} {a:α} {bb:Bool} {F:Bool×C5→j6} {f:α→β} {f':β→α→α} [t:TyI P T β s i] [n:LnI l f f'] [k:HoQ H w (bb,.ob w a) F]:LdQ P T (.ln w l) H (.v (f a)):=⟨fun N C σ x d ty ps af g h => .ldF f t.h h k.h n.e rfl⟩
instance {β γ:Type} {s:p6 β} {q:p6 γ} {i:Nat} {a:β} {m:p5 β γ} {f:β→γ} [n:FdI P T i β s γ q m f]:FaQ P T i (.p a) (.p (f a)):=⟨fun N C σ H x d ty ps af g h=>by
 obtain⟨sz,k,_⟩:=n.h
 exact .C6 m f k a8 n.e h a8⟩
instance {β γ:Type} {s:p6 β} {q:p6 γ} {i:Nat} {w:Value} {m:p5 β γ} {f:β→γ} [n:FdI P T i β s γ q m f]:FaQ P T i (.ln w (p5.id (α:=β))) (.ln w m):=⟨fun N C σ H x d ty ps af g h=>by
 obtain⟨sz,k,_⟩:=n.h
 exact .y7 m k a8 h a8⟩
instance {α β:Type} {r:p6 α} {s:p6 β} {w:Value} {l:p5 α β} [h:EvQ c σ x (.ln w l)]:OpQ G P c ⟨d,.nilCheck x,ty,ps,af,g⟩ σ H (.ln w l):=⟨fun N C hG e => .y8 (h.h C H e) rfl⟩
instance (priority:=low) {α β γ:Type} {r:p6 α} {s:p6 β} {q:p6 γ} {i:Nat} {w:Value} {l:p5 α β} {m:p5 β γ} {f:β→γ} [n:FdI P T i β s γ q m f]:FaQ P T i (.ln w l) (.ln w (l.comp m)):=⟨fun N C σ H x d ty ps af g h=>by
 obtain⟨sz,k,_⟩:=n.h
 exact .a5L m k a8 h a8⟩
instance {β γ δ:Type} {r:p6 β} {s:p6 γ} {q:p6 δ} {l:p5 β γ} {m:p5 γ δ} {f:β→γ} {f':γ→β→β} {k:γ→δ} {k':δ→γ→γ} [a:LnI l f f'] [b:LnI m k k']:LnI (l.comp m) (fun x=>k (f x)) (fun y x=>f' (k' y (f x)) x):=⟨fun x=>by
 show m.get (l.get x)=_
 rw [a.e,b.e],fun y x=>by
 show l.set (m.set y (l.get x)) x=_
 rw [a.e,b.u,a.u]⟩
instance [h:EvQ c σ x a]:OpQ G P c ⟨d,.move x,ty,ps,af,g⟩ σ H a:=⟨fun N C hG e => .move (h.h C H e) rfl⟩
instance [h:EvQ c σ x a]:OpQ G P c ⟨d,.assign x,ty,ps,af,g⟩ σ H a:=⟨fun N C hG e => .assign (h.h C H e) rfl⟩
instance {α:Type} {r:p6 α} {n:Nat} {i:Inhabited α} {E:TypeId} [t:SlI P ty E α n r i]:OpQ G P c ⟨d,.assign (.const (.slice none 0 0)),ty,ps,af,g⟩ σ H (.v ([]:List α)):=⟨fun N C hG e => .assign .a2O rfl⟩
instance [h:EvQ c σ x a] [k:LdQ P T a H b]:OpQ G P c ⟨d,.load T x,ty,ps,af,g⟩ σ H b:=⟨fun N C hG e=>k.h N C σ x d ty ps af g (h.h C H e)⟩
instance {i:Nat} [h:EvQ c σ x a] [k:FaQ P T i a b]:OpQ G P c ⟨d,.fieldAddr T x i,ty,ps,af,g⟩ σ H b:=⟨fun N C hG e=>k.h N C σ H x d ty ps af g (h.h C H e)⟩
instance {α:Type} {r:p6 α} {l:List α} [h:EvV c σ x (List α) inferInstance l] [u:UnI P T (.slice E)]:OpQ G P c ⟨d,.call ⟨.builtin .len,#[x],#[T]⟩,ty,ps,af,g⟩ σ H (.v (l.length:Int)):=⟨fun N C hG e => .len u.h (h.h C H e) rfl⟩
instance {s:u0} [h:EvV c σ x u0 inferInstance s] [u:UnI P T .string]:OpQ G P c ⟨d,.call ⟨.builtin .len,#[x],#[T]⟩,ty,ps,af,g⟩ σ H (.v (s.l.length:Int)):=⟨fun N C hG e => .b2G u.h (h.h C H e) rfl⟩
section
variable {m n:Int} [hx:EvV c σ x Int inferInstance m] [hy:EvV c σ y Int inferInstance n]
instance:OpQ G P c ⟨d,.binOp .lss T x y T2,ty,ps,af,g⟩ σ H (.v (decide (m < n))):=⟨fun N C hG e => .lss (hx.h C H e) (hy.h C H e) rfl⟩
instance:OpQ G P c ⟨d,.binOp .leq T x y T2,ty,ps,af,g⟩ σ H (.v (decide (m≤n))):=⟨fun N C hG e => .leq (hx.h C H e) (hy.h C H e) rfl⟩
instance:OpQ G P c ⟨d,.binOp .gtr T x y T2,ty,ps,af,g⟩ σ H (.v (decide (n < m))):=⟨fun N C hG e => .gtr (hx.h C H e) (hy.h C H e) rfl⟩
instance:OpQ G P c ⟨d,.binOp .geq T x y T2,ty,ps,af,g⟩ σ H (.v (decide (n≤m))):=⟨fun N C hG e => .geq (hx.h C H e) (hy.h C H e) rfl⟩
instance:OpQ G P c ⟨d,.binOp .eql T x y T2,ty,ps,af,g⟩ σ H (.v (decide (m=n))):=⟨fun N C hG e => .a5y (hx.h C H e) (hy.h C H e) rfl⟩
instance:OpQ G P c ⟨d,.binOp .neq T x y T2,ty,ps,af,g⟩ σ H (.v (decide (m≠n))):=⟨fun N C hG e => .a9a (hx.h C H e) (hy.h C H e) rfl⟩
end
section
variable {m n:UInt64} [hx:EvV c σ x UInt64 inferInstance m] [hy:EvV c σ y UInt64 inferInstance n]
instance:OpQ G P c ⟨d,.binOp .eql T x y T2,ty,ps,af,g⟩ σ H (.v (decide (m=n))):=⟨fun N C hG e => .b2m (hx.h C H e) (hy.h C H e) rfl⟩
instance:OpQ G P c ⟨d,.binOp .or T x y T2,ty,ps,af,g⟩ σ H (.v (m ||| n)):=⟨fun N C hG e => .b2F (hx.h C H e) (hy.h C H e) rfl⟩
instance:OpQ G P c ⟨d,.binOp .and T x y T2,ty,ps,af,g⟩ σ H (.v (m &&& n)):=⟨fun N C hG e => .a9T (hx.h C H e) (hy.h C H e) rfl⟩
instance:OpQ G P c ⟨d,.binOp .sub T x y T2,ty,ps,af,g⟩ σ H (.v (m - n)):=⟨fun N C hG e => .a9X (hx.h C H e) (hy.h C H e) rfl⟩
instance:OpQ G P c ⟨d,.binOp .neq T x y T2,ty,ps,af,g⟩ σ H (.v (decide (m≠n))):=⟨fun N C hG e => .a8A (hx.h C H e) (hy.h C H e) rfl⟩
end
section
variable {m n:UInt8} [hx:EvV c σ x UInt8 inferInstance m] [hy:EvV c σ y UInt8 inferInstance n]
instance:OpQ G P c ⟨d,.binOp .lss T x y T2,ty,ps,af,g⟩ σ H (.v (decide (m < n))):=⟨fun N C hG e => .b5q (hx.h C H e) (hy.h C H e) rfl⟩
instance:OpQ G P c ⟨d,.binOp .gtr T x y T2,ty,ps,af,g⟩ σ H (.v (decide (n < m))):=⟨fun N C hG e => .b5r (hx.h C H e) (hy.h C H e) rfl⟩
instance:OpQ G P c ⟨d,.binOp .eql T x y T2,ty,ps,af,g⟩ σ H (.v (decide (m=n))):=⟨fun N C hG e => .b5s (hx.h C H e) (hy.h C H e) rfl⟩
end
section
variable {m n:u0} [hx:EvV c σ x u0 inferInstance m] [hy:EvV c σ y u0 inferInstance n]
instance:OpQ G P c ⟨d,.binOp .eql T x y T2,ty,ps,af,g⟩ σ H (.v (decide (m=n))):=⟨fun N C hG e => .b0e (hx.h C H e) (hy.h C H e) rfl⟩
instance:OpQ G P c ⟨d,.binOp .neq T x y T2,ty,ps,af,g⟩ σ H (.v (decide (m≠n))):=⟨fun N C hG e => .b2T (hx.h C H e) (hy.h C H e) rfl⟩
end
instance [h:EvV c σ x Bool inferInstance bo]:OpQ G P c ⟨d,.unOp .not T x,ty,ps,af,g⟩ σ H (.v (!bo)):=⟨fun N C hG e => .not (h.h C H e) rfl⟩
instance {v:Bool} [h:EvV c σ x Bool inferInstance bo] [k:EvV (bo == true) σ y Bool inferInstance v]:OpQ G P c ⟨d,.pick x y (.const (.bool false)),ty,ps,af,g⟩ σ H (.v (bo&&v)):=⟨fun N C hG e => .K6 (h.h C H e) (fun e=>k.h C H (beq_iff_eq.2 e)) rfl⟩
instance {v:Bool} [h:EvV c σ x Bool inferInstance bo] [k:EvV (bo == false) σ y Bool inferInstance v]:OpQ G P c ⟨d,.pick x (.const (.bool true)) y,ty,ps,af,g⟩ σ H (.v (bo||v)):=⟨fun N C hG e => .a2Q (h.h C H e) (fun e=>k.h C H (beq_iff_eq.2 e)) rfl⟩
instance {b:AV} [h:EvQ c σ x (.t2 a b)]:OpQ G P c ⟨d,.extract x 0,ty,ps,af,g⟩ σ H a:=⟨fun N C hG e => .a7H (h.h C H e) rfl⟩
instance {b:AV} [h:EvQ c σ x (.t2 a b)]:OpQ G P c ⟨d,.extract x 1,ty,ps,af,g⟩ σ H b:=⟨fun N C hG e => .a7I (h.h C H e) rfl⟩
instance {b b':AV} [h:EvQ c σ x (.t3 a b b')]:OpQ G P c ⟨d,.extract x 0,ty,ps,af,g⟩ σ H a:=⟨fun N C hG e => .b2M (h.h C H e) rfl⟩
instance {b b':AV} [h:EvQ c σ x (.t3 a b b')]:OpQ G P c ⟨d,.extract x 1,ty,ps,af,g⟩ σ H b:=⟨fun N C hG e => .b2N (h.h C H e) rfl⟩
instance {b b':AV} [h:EvQ c σ x (.t3 a b b')]:OpQ G P c ⟨d,.extract x 2,ty,ps,af,g⟩ σ H b':=⟨fun N C hG e => .b2O (h.h C H e) rfl⟩
instance {m:Int} {S D:TypeId} {ds:TypeDesc} [h:EvV c σ x Int inferInstance m] [a:UnI P S ds] [b:UnI P D (.int .u64)]:OpQ G P c ⟨d,.convert S D x,ty,ps,af,g⟩ σ H (.v (UInt64.ofInt m)):=⟨fun N C hG e => .a7t a.h b.h (h.h C H e) rfl⟩
instance {m:Int} {S D:TypeId} {ds:TypeDesc} [h:EvV c σ x Int inferInstance m] [a:UnI P S ds] [b:UnI P D (.int .u8)]:OpQ G P c ⟨d,.convert S D x,ty,ps,af,g⟩ σ H (.v (UInt8.ofInt m)):=⟨fun N C hG e => .a9Y a.h b.h (h.h C H e) rfl⟩
end
theorem j7.to {P:Program} {C:Ctx} {N:Nat} {o:Oper} {σ:u5} {H:j6} {r:AV} {K:AV→Prop} (h:j7 P N C o σ H (fun a=>a=r)) (k:K r):j7 P N C o σ H K:=fun ρ I L hs =>
 OpX.U7 (h ρ I L hs) fun v J X hle ⟨h1,a,h2,h3⟩=>⟨h1,a,h2,h3▸k⟩
class StQ (G:Gl) (P:Program) (ops:List Oper) (o:Oper) (σ:u5) (H:j6) (σ':outParam u5) (H':outParam j6):Prop where
 h:∀ N C Q rest,G.p C.I0→C4 P C N ops.toArray Q rest σ' H'→C4 P C N ops.toArray Q (o::rest) σ H
class SoQ (P:Program) (T:TypeId) (a b:AV) (H:j6) (H':outParam j6):Prop where
 h:∀ N C σ x y ty ps af g KH,A7 C σ H x a→A7 C σ H y b→KH .any H'→A9 P C N ⟨none,.store T x y,ty,ps,af,g⟩ σ H KH
section
variable {G:Gl} {P:Program} {ops:List Oper} {Q:Exit→u5→j6→Prop} {rest:List Oper} {σ:u5} {H H':j6} {ps:String} {af:Array Edge} {x y:Operand} {T ty:TypeId}
instance {d:Nat} {op:Op} {r:AV} [h:OpQ G P true ⟨some d,op,ty,ps,af,none⟩ σ H r]:StQ G P ops ⟨some d,op,ty,ps,af,none⟩ σ H ((d,r)::σ) H:=⟨fun N C Q rest hG k => .p ((h.h N C hG rfl).to k)⟩
instance {α:Type} {r:p6 α} {i:Inhabited α} {w:Value} {a v:α} {bb:Bool} {F:Bool×C5→j6} [t:TyI P T α r i] [k:HoQ H w (bb,.ob w a) F]:SoQ P T (.ln w (p5.id (α:=α))) (.v v) H (F (bb,.ob w v)):=⟨fun N C σ x y ty ps af g KH hx hy q => .W1 t.h hx hy k.h q⟩
instance (priority:=low) {α β:Type} {r:p6 α} {s:p6 β} {i:Inhabited β} {w:Value} {l:p5 α β} {a:α} {v:β} {bb:Bool} {F:Bool×C5→j6} {f:α→β} {f':β→α→α} [t:TyI P T β s i] [n:LnI l f f'] [k:HoQ H w (bb,.ob w a) F]:SoQ P T (.ln w l) (.v v) H (F (bb,.ob w (f' v a))):=⟨fun N C σ x y ty ps af g KH hx hy q => .K3 f' t.h hx hy k.h n.u q⟩
instance {a:AV} {α:Type} {r:p6 α} {v:α} [h:EvQ true σ x a] [k:EvV true σ y α r v] [s:SoQ P T a (.v v) H H']:StQ G P ops ⟨none,.store T x y,ty,ps,af,none⟩ σ H σ H':=⟨fun N C Q rest hG q => .n (s.h N C σ x y ty ps af none _ (h.h C H rfl) (k.h C H rfl) q)⟩
instance {d : Nat} {op : Op} {j : Nat} {want b : Bool} {dj : Nat} {r : AV} [hj : EqS (a7N ops j) dj] [hb : EvV true σ (.tmp dj) Bool inferInstance b] [h : OpQ G P (b == want) ⟨some d, op, ty, ps, af, none⟩ σ H r] :
    StQ G P ops ⟨some d,op,ty,ps,af,some (j,want)⟩ σ H ((d,.opt (b == want) r)::σ) H:=⟨fun N C Q rest hG k => .go dj ((a5V ops j).symm.trans hj.h) (hb.h C H rfl) (fun e=>h.h N C hG (beq_iff_eq.2 e)) k⟩
end
class AsQ (c:Bool) (σ:u5) (xs:List Operand) (ags:outParam (List AV)):Prop where h:∀ C H,c=true→a0C C σ H xs ags
class PlQ (a:AV) (b:outParam AV):Prop where h:∀ I u,D2 I a u→D2 I b u
instance (priority:=low) {a:AV}:PlQ a a:=⟨fun _ _ h=>h⟩
class ElQ (c:Bool) (σ:u5) (i:Nat) (ps:List (Nat×Operand)) (α:outParam Type) (r:outParam (p6 α)) (l:outParam (List α)):Prop where h:∀ C H,c=true→a1k C σ H i ps l
class SrQ (P:Program) (U:TypeId) (σ:u5) (H:j6) (y:Operand) (α:Type) (r:p6 α) (m:outParam (List α)):Prop where
 h:∀ C,a9f P C σ H y m
 u:(∃ E2,P.underlying U=some (.slice E2))∨P.underlying U=some .string
section
variable {G:Gl} {P:Program} {C:Ctx} {N:Nat} {c:Bool} {ops:List Oper} {Q:Exit→u5→j6→Prop} {rest:List Oper} {σ:u5} {H:j6} {d:Nat} {ps:String} {af:Array Edge} {x y:Operand} {T T2 E U ty:TypeId} {m n:Int}
instance:AsQ c σ [] []:=⟨fun _ _ _ => .nil⟩
instance {a b:AV} {xs:List Operand} {ags:List AV} [h:EvQ c σ x a] [p:PlQ a b] [k:AsQ c σ xs ags]:AsQ c σ (x::xs) (b::ags):=⟨fun C H e => .cons (fun ρ I L hs=>by
 obtain⟨u,h1,h2⟩:=h.h C H e ρ I L hs
 exact⟨u,h1,p.h I u h2⟩) (k.h C H e)⟩
instance {α:Type} {r:p6 α} {i:Nat} {v:α} [h:EvV c σ x α r v]:ElQ c σ i [(i,x)] α r [v]:=⟨fun C H e => .cons (h.h C H e) .nil⟩
instance {α:Type} {r:p6 α} {i:Nat} {v:α} {q:Nat×Operand} {l:List (Nat×Operand)} {vs:List α} [h:EvV c σ x α r v] [k:ElQ c σ (i+1) (q::l) α r vs]:ElQ c σ i ((i,x)::q::l) α r (v::vs):=⟨fun C H e => .cons (h.h C H e) (k.h C H e)⟩
instance {α:Type} {r:p6 α} {t:Nat} {w:Value} {m:List α} {bb:Bool} {E':TypeId} {F:Bool×C5→j6} [a:EqS (lookW σ t) (.raw w)] [k:HoQ H w (bb,.own E' w m) F] [u:UnI P U (.slice E)]:SrQ P U σ H (.tmp t) α r m:=⟨fun C => .own ((a2t σ t).symm.trans a.h) k.h,.inl ⟨_,u.h⟩⟩
instance {α:Type} {r:p6 α} {m:List α} [a:EvV true σ y (List α) inferInstance m] [u:UnI P U (.slice E)]:SrQ P U σ H y α r m:=⟨fun C => .v (a.h C H rfl),.inl ⟨_,u.h⟩⟩
theorem C4.ad [hx : EvV true σ x Int inferInstance m] [hy : EvV true σ y Int inferInstance n] (h1 : -9223372036854775808 ≤ m + n) (h2 : m + n ≤ 9223372036854775807) (k : C4 P C N ops.toArray Q rest ((d, .v (m + n)) :: σ) H) :
    C4 P C N ops.toArray Q (⟨some d,.binOp .add T x y T2,ty,ps,af,none⟩::rest) σ H := .p (.add (hx.h C H rfl) (hy.h C H rfl) h1 h2 k)
theorem C4.sb [hx : EvV true σ x Int inferInstance m] [hy : EvV true σ y Int inferInstance n] (h1 : -9223372036854775808 ≤ m - n) (h2 : m - n ≤ 9223372036854775807) (k : C4 P C N ops.toArray Q rest ((d, .v (m - n)) :: σ) H) :
    C4 P C N ops.toArray Q (⟨some d,.binOp .sub T x y T2,ty,ps,af,none⟩::rest) σ H := .p (.sub (hx.h C H rfl) (hy.h C H rfl) h1 h2 k)
theorem C4.ix {α : Type} {r : p6 α} {i : Inhabited α} {l : List α} [u : UnI P T (.slice E)] [t : TyI P E α r i] [hx : EvV true σ x (List α) inferInstance l] [hy : EvV true σ y Int inferInstance n] (h0 : 0 ≤ n) (h1 : n < l.length)
    (k:C4 P C N ops.toArray Q rest ((d,.p (l[n.toNat]'(by omega)))::σ) H):C4 P C N ops.toArray Q (⟨some d,.indexAddr T x y,ty,ps,af,none⟩::rest) σ H := .p (.idx t.h u.h (hx.h C H rfl) (hy.h C H rfl) h0 h1 k)
theorem C4.k {f : FuncId} {args : Array Operand} {tys : Array TypeId} {ags : List AV} {r : AV} (hG : G.p C.I0) [hv : AsQ true σ args.toList ags] (h : y6 G P f ags (fun x => x = r)) (k : C4 P C N ops.toArray Q rest ((d, r) :: σ) H) :
    C4 P C N ops.toArray Q (⟨some d,.call ⟨.value (.func f),args,tys⟩,ty,ps,af,none⟩::rest) σ H := .p (.A4 hG h (hv.h C H rfl) k)
theorem C4.kx {f : FuncId} {args : Array Operand} {tys : Array TypeId} {ags : List AV} {post : AV → Prop} (hG : G.p C.I0) [hv : AsQ true σ args.toList ags] (h : y6 G P f ags post) (k : ∀ r, post r → C4 P C N ops.toArray Q rest ((d, r) :: σ) H) :
    C4 P C N ops.toArray Q (⟨some d,.call ⟨.value (.func f),args,tys⟩,ty,ps,af,none⟩::rest) σ H := .p (.call hG h (hv.h C H rfl) k)
theorem C4.kg {f : FuncId} {args : Array Operand} {tys : Array TypeId} {ags : List AV} {r : AV} {j dj : Nat} {b want : Bool} (hG : G.p C.I0) [hj : EqS (a7N ops j) dj] [hb : EvV true σ (.tmp dj) Bool inferInstance b] [hv : AsQ (b == want) σ args.toList ags] (h : y6 G P f ags (fun x => x = r)) (k : C4 P C N ops.toArray Q rest ((d, .opt (b == want) r) :: σ) H) :
    C4 P C N ops.toArray Q (⟨some d,.call ⟨.value (.func f),args,tys⟩,ty,ps,af,some (j,want)⟩::rest) σ H := .go dj ((a5V ops j).symm.trans hj.h) (hb.h C H rfl) (fun e => .A4 hG h (hv.h C H (beq_iff_eq.2 e)) rfl) k
theorem C4.km {f : FuncId} {args : Array Operand} {tys : Array TypeId} {ags : List AV} {post : AV → List C5 → Prop} {b : Bool} {B : C5} {F : Bool × C5 → j6} (hG : G.p C.I0) [hv : AsQ true σ args.toList ags] (h : E1 G P f ags [B] post) (hH : C1 H (b, B) F) (hs : ∀ r Hs, post r Hs → ∃ B', Hs = [B'])
    (k:∀ r B',post r [B']→C4 P C N ops.toArray Q rest ((d,r)::σ) (F (b,B'))):C4 P C N ops.toArray Q (⟨some d,.call ⟨.value (.func f),args,tys⟩,ty,ps,af,none⟩::rest) σ H := .h (.H9 hG h hH (hv.h C H rfl) hs k)
theorem C4.k0 {f : FuncId} {args : Array Operand} {tys : Array TypeId} {ags : List AV} {post : AV → List C5 → Prop} (hG : G.p C.I0) [hv : AsQ true σ args.toList ags] (h : E1 G P f ags [] post)
    (k:∀ r Hs,post r Hs→C4 P C N ops.toArray Q rest ((d,r)::σ) (Hs.map (fun B=>(true,B))++H)):C4 P C N ops.toArray Q (⟨some d,.call ⟨.value (.func f),args,tys⟩,ty,ps,af,none⟩::rest) σ H := .h (.b4g hG h (hv.h C H rfl) k)
theorem C4.ap {α : Type} {r : p6 α} {i : Inhabited α} {by_ t : Nat} {w : Value} {l m : List α} {F : Bool × C5 → j6} [st : SlI P T E α by_ r i] [hx : EqS (lookW σ t) (.raw w)] [hH : HoQ H w (true, .own E w l) F] [hy : SrQ P U σ H y α r m] (hb : (l.length + m.length) * by_ ≤ 140737488355328) (hn : l.length + m.length ≤ 9223372036854775807)
    (k:∀ w',C4 P C N ops.toArray Q rest ((d,.raw w')::σ) (F (true,.own E w' (l++m)))):C4 P C N ops.toArray Q (⟨some d,.call ⟨.builtin .append,#[.tmp t,y],#[T,U]⟩,ty,ps,af,none⟩::rest) σ H :=
  .h (.append st.h hy.u ((a2t σ t).symm.trans hx.h) hH.h (hy.h C) hb hn k rfl)
theorem C4.bs {α : Type} {r : p6 α} {i : Inhabited α} {k : Nat} {l : List α} {parts : Array (Nat × Operand)} [u : UnI P T (.slice E)] [t : TyI P E α r i] [hp : ElQ true σ 0 parts.toList α r l] (hn : l.length = k) (hb : k * p6.size α ≤ 16777216)
    (q:∀ b,C4 P C N ops.toArray Q rest ((d,.raw (slc b 0 k k))::σ) ((true,.own E (slc b 0 k k) l)::H)):C4 P C N ops.toArray Q (⟨some d,.buildSlice T k parts,ty,ps,af,none⟩::rest) σ H := .h (.buildSlice t.h u.h (hp.h C H rfl) hn hb q)
end
inductive It where
 | a (c:Code) (Q:Exit→u5→j6→Prop)
 | b (ops:List Oper) (Q:Exit→u5→j6→Prop) (l:List Oper)
 | q (Q:Exit→u5→j6→Prop) (e:Exit)
@[reducible] def It.G (P:Program) (C:Ctx) (N:Nat):It→u5→j6→Prop
 | .a c Q,σ,H=>H6 P C N c Q σ H
 | .b ops Q l,σ,H=>C4 P C N ops.toArray Q l σ H
 | .q Q e,σ,H=>Q e σ H
class Rn (G:Gl) (P:Program) (C:Ctx) (N:Nat) (n:Nat) (i:It) (σ:u5) (H:j6) (A:outParam Prop):Prop where h:G.p C.I0→A→i.G P C N σ H
section
variable {G:Gl} {P:Program} {C:Ctx} {N n:Nat} {A:Prop} {ops:List Oper} {Q Q0:Exit→u5→j6→Prop} {l:List Oper} {σ:u5} {H:j6} {c x y:Code} {e:Exit} {id i:Nat}
instance (priority:=high):Rn G P C N 0 (.a c Q) σ H (H6 P C N c Q σ H):=⟨fun _ h=>h⟩
instance (priority:=high):Rn G P C N 0 (.b ops Q l) σ H (C4 P C N ops.toArray Q l σ H):=⟨fun _ h=>h⟩
instance (priority:=high):Rn G P C N 0 (.q Q e) σ H (Q e σ H):=⟨fun _ h=>h⟩
instance [k:Rn G P C N n (.a x (a4W (H6 P C N y Q) Q)) σ H A]:Rn G P C N (n+1) (.a (.seq x y) Q) σ H A:=⟨fun g h => .seq (k.h g h)⟩
instance [hd:TrB (b0l N l)] [k:Rn G P C N n (.b l Q l) σ H A]:Rn G P C N (n+1) (.a (.region id l.toArray false) Q) σ H A:=⟨fun g h => .region (a8G hd.h) (k.h g h)⟩
instance [k:Rn G P C N n (.q Q .normal) σ H A]:Rn G P C N (n+1) (.a .skip Q) σ H A:=⟨fun g h => .skip (k.h g h)⟩
instance [k:Rn G P C N n (.q Q .ret) σ H A]:Rn G P C N (n+1) (.a .ret Q) σ H A:=⟨fun g h => .ret (k.h g h)⟩
instance [k:Rn G P C N n (.q Q (.exit id)) σ H A]:Rn G P C N (n+1) (.a (.exit id) Q) σ H A:=⟨fun g h => .exit (k.h g h)⟩
instance [k:Rn G P C N n (.a c (a14 id Q)) σ H A]:Rn G P C N (n+1) (.a (.block id c) Q) σ H A:=⟨fun g h => .block (k.h g h)⟩
instance [k:Rn G P C N n (.q Q .normal) σ H A]:Rn G P C N (n+1) (.b ops Q []) σ H A:=⟨fun g h => .nil (k.h g h)⟩
instance {o:Oper} {σ':u5} {H':j6} [s:StQ G P ops o σ H σ' H'] [k:Rn G P C N n (.b ops Q l) σ' H' A]:Rn G P C N (n+1) (.b ops Q (o::l)) σ H A:=⟨fun g h=>s.h N C Q l g (k.h g h)⟩
instance [k:Rn G P C N (n+1) (.a y Q) σ H A]:Rn G P C N (n+1) (.q (a4W (H6 P C N y Q) Q0) .normal) σ H A:=⟨fun g h=>k.h g h⟩
instance {X:u5→j6→Prop} [k:Rn G P C N (n+1) (.q Q (.exit id)) σ H A]:Rn G P C N (n+1) (.q (a4W X Q) (.exit id)) σ H A:=⟨fun g h=>k.h g h⟩
instance [k:Rn G P C N (n+1) (.q Q .normal) σ H A]:Rn G P C N (n+1) (.q (a14 id Q) .normal) σ H A:=⟨fun g h=>k.h g h⟩
instance [k:Rn G P C N (n+1) (.q Q .normal) σ H A]:Rn G P C N (n+1) (.q (a14 i Q) (.exit i)) σ H A:=⟨fun g h=>by show a14 i Q (.exit i) σ H;simp only [a14,Nat.beq_refl,cond_true];exact k.h g h⟩
instance {z:Operand} {p:Prop} {_:Decidable p} [hc:EvV true σ z Bool inferInstance (decide p)]:Rn G P C N (n+1) (.a (.cond z x y) Q) σ H ((p→H6 P C N x Q σ H)∧(¬p→H6 P C N y Q σ H)):=⟨fun g h => .a1g (hc.h C H rfl) h.1 h.2⟩
instance {α : Type} {r : p6 α} {j : Inhabited α} {d : Nat} {T ty : TypeId} {ps : String} {af : Array Edge} [t : TyI P T α r j] :
    Rn G P C N (n+1) (.b ops Q (⟨some d,.alloc T,ty,ps,af,none⟩::l)) σ H (∀ b,C4 P C N ops.toArray Q l ((d,.ln (ptr b 0) (p5.id (α:=α)))::σ) ((true,.ob (ptr b 0) (default:α))::H)):=⟨fun g h => .h (.alloc t.h h)⟩
instance {α : Type} {r : p6 α} {a : α} {d : Nat} {T ty : TypeId} {ps : String} {af : Array Edge} {z : Operand} [hx : EvV true σ z α r a] :
    Rn G P C N (n+1) (.b ops Q (⟨some d,.box T z,ty,ps,af,none⟩::l)) σ H (∀ b,C4 P C N ops.toArray Q l ((d,.ln (ptr b 0) (p5.id (α:=α)))::σ) ((true,.ob (ptr b 0) a)::H)):=⟨fun g h => .h (.box (hx.h C H rfl) h)⟩
theorem H6.q (n:Nat) (hG:G.p C.I0) {A:Prop} [h:Rn G P C N n (.a c Q) σ H A] (k:A):H6 P C N c Q σ H:=h.h hG k
theorem C4.q (n:Nat) (hG:G.p C.I0) {A:Prop} [h:Rn G P C N n (.b ops Q l) σ H A] (k:A):C4 P C N ops.toArray Q l σ H:=h.h hG k
end
end Go.Ab
namespace Go.Proofs.YtfkbejimghamkaaGreatDoor
open Go.Proofs.Tryz
open Go.Ab Go.Mac
theorem _root_.Go.Ab.G3.ok {P:Program} {T:TypeId} {α:Type} [p6 α] [Inhabited α] [J3 α] (h:((P.info? T).map (·.size),(P.underlying T).map Fl.a0z,Fl.a0j P T,Nat.beq (p6.size α) 0)=(some (p6.size α),some (p6.agg α),some (J3.zs α),false)):G3 P T α:=by
 simp only [Prod.mk.injEq] at h
 obtain⟨h1,h2,h3,h4⟩:=h
 exact .of h1 h2 h3 (fun e=>by rw [e] at h4;cases h4)
theorem A3:G3 prog 3 Int := .ok (by kernel_rfl)
theorem ty4:G3 prog 4 Bool := .ok (by kernel_rfl)
theorem ty5:G3 prog 5 UInt8 := .ok (by kernel_rfl)
theorem ty9:G3 prog 9 u0 := .ok (by kernel_rfl)
theorem a00:G3 prog 22 (List j4) := .ok (by kernel_rfl)
theorem b4s:G3 prog 23 (List Int) := .ok (by kernel_rfl)
theorem b1D:G3 prog 24 (List j3) := .ok (by kernel_rfl)
theorem a5X:G3 prog 26 o9 := .ok (by kernel_rfl)
theorem W8:G3 prog 28 j8 := .ok (by kernel_rfl)
theorem q9:G3 prog 30 j4 := .ok (by kernel_rfl)
theorem b1E:G3 prog 36 (List u0) := .ok (by kernel_rfl)
theorem a15:G3 prog 37 UInt64 := .ok (by kernel_rfl)
theorem E6:G3 prog 39 j3 := .ok (by kernel_rfl)
theorem b4t:G3 prog 53 (Arr 32 UInt8) := .ok (by kernel_rfl)
theorem b1F:G3 prog 56 p7 := .ok (by kernel_rfl)
theorem b5E:G3 prog 75 j9 := .ok (by kernel_rfl)
theorem b3f:G3 prog 83 FnV := .ok (by kernel_rfl)
theorem U3:G3 prog 85 j5 := .ok (by kernel_rfl)
theorem b0m:G3 prog 112 y3 := .ok (by kernel_rfl)
theorem b5F:SlT prog 22 30 j4 128:=⟨.of (by kernel_rfl),q9⟩
theorem b5G:SlT prog 23 3 Int 8:=⟨.of (by kernel_rfl),A3⟩
theorem b3g:SlT prog 24 39 j3 56:=⟨.of (by kernel_rfl),E6⟩
theorem b5H:SlT prog 36 9 u0 16:=⟨.of (by kernel_rfl),ty9⟩
theorem b4u:SlT prog 54 112 y3 24:=⟨.of (by kernel_rfl),b0m⟩
instance:TyJ prog 3 Int:=⟨A3⟩
instance:UnI prog 3 (.int .i64):=⟨underlying3⟩
instance:TyJ prog 4 Bool:=⟨ty4⟩
instance:TyJ prog 5 UInt8:=⟨ty5⟩
instance:UnI prog 5 (.int .u8):=⟨underlying5⟩
instance:TyJ prog 9 u0:=⟨ty9⟩
instance:UnI prog 9 (.string):=⟨underlying9⟩
instance:TyJ prog 22 (List j4):=⟨a00⟩
instance:UnI prog 22 (.slice 30):=⟨underlying22⟩
instance:SlJ prog 22 30 j4 128:=⟨b5F⟩
instance:UnI prog 23 (.slice 3):=⟨underlying23⟩
instance:SlJ prog 23 3 Int 8:=⟨b5G⟩
instance:TyJ prog 24 (List j3):=⟨b1D⟩
instance:UnI prog 24 (.slice 39):=⟨underlying24⟩
instance:SlJ prog 24 39 j3 56:=⟨b3g⟩
instance:TyJ prog 26 o9:=⟨a5X⟩
theorem _root_.Go.Ab.FdI.ok {P:Program} {T:TypeId} {i:Nat} {β:Type} {s:p6 β} {γ:Type} {q:p6 γ} {m:p5 β γ} {f:β→γ} {off sz:Nat} {ag:Bool} (hf:Fl.A6 P T i=some (off,sz+1,ag)) (h:(off,sz+1,ag,true)=(m.off,p6.size γ,p6.agg γ,p6.agg β)) (e:∀ x,m.get x=f x):FdI P T i β s γ q m f:=by
 simp only [Prod.mk.injEq] at h
 exact .mk' hf h.1 h.2.1 h.2.2.1 e h.2.2.2.symm
instance:FdJ prog 26 0 o9.l0 (fun x=>x.a1R) := .ok a96 rfl fun _=>rfl
instance:LnI o9.l0 (fun x=>x.a1R) (fun y x => { x with a1R:=y }):=⟨fun _=>rfl,fun _ _=>rfl⟩
instance:FdJ prog 26 1 o9.l1 (fun x=>x.a4G) := .ok a97 rfl fun _=>rfl
instance:LnI o9.l1 (fun x=>x.a4G) (fun y x => { x with a4G:=y }):=⟨fun _=>rfl,fun _ _=>rfl⟩
instance:TyJ prog 28 j8:=⟨W8⟩
instance:FdJ prog 28 0 j8.l0 (fun x=>x.a4H) := .ok a7x rfl fun _=>rfl
instance:LnI j8.l0 (fun x=>x.a4H) (fun y x => { x with a4H:=y }):=⟨fun _=>rfl,fun _ _=>rfl⟩
instance:FdJ prog 28 1 j8.l1 (fun x=>x.a4I) := .ok a7y rfl fun _=>rfl
instance:LnI j8.l1 (fun x=>x.a4I) (fun y x => { x with a4I:=y }):=⟨fun _=>rfl,fun _ _=>rfl⟩
instance:FdJ prog 28 3 j8.l3 (fun x=>x.F6) := .ok a7z rfl fun _=>rfl
instance:LnI j8.l3 (fun x=>x.F6) (fun y x => { x with F6:=y }):=⟨fun _=>rfl,fun _ _=>rfl⟩
instance:TyJ prog 30 j4:=⟨q9⟩
instance:FdJ prog 30 0 j4.l0 (fun x=>x.Kind) := .ok a3Z rfl fun _=>rfl
instance:LnI j4.l0 (fun x=>x.Kind) (fun y x => { x with Kind:=y }):=⟨fun _=>rfl,fun _ _=>rfl⟩
instance:FdJ prog 30 1 j4.l1 (fun x=>x.A) := .ok F5 rfl fun _=>rfl
instance:LnI j4.l1 (fun x=>x.A) (fun y x => { x with A:=y }):=⟨fun _=>rfl,fun _ _=>rfl⟩
instance:FdJ prog 30 2 j4.l2 (fun x=>x.B) := .ok I8 rfl fun _=>rfl
instance:LnI j4.l2 (fun x=>x.B) (fun y x => { x with B:=y }):=⟨fun _=>rfl,fun _ _=>rfl⟩
instance:FdJ prog 30 3 j4.l3 (fun x=>x.N) := .ok R1 rfl fun _=>rfl
instance:LnI j4.l3 (fun x=>x.N) (fun y x => { x with N:=y }):=⟨fun _=>rfl,fun _ _=>rfl⟩
instance:FdJ prog 30 4 j4.l4 (fun x=>x.l9) := .ok a13 rfl fun _=>rfl
instance:LnI j4.l4 (fun x=>x.l9) (fun y x => { x with l9:=y }):=⟨fun _=>rfl,fun _ _=>rfl⟩
instance:FdJ prog 30 5 j4.l5 (fun x=>x.T5) := .ok a5A rfl fun _=>rfl
instance:LnI j4.l5 (fun x=>x.T5) (fun y x => { x with T5:=y }):=⟨fun _=>rfl,fun _ _=>rfl⟩
instance:FdJ prog 30 6 j4.l6 (fun x=>x.F6) := .ok a2N rfl fun _=>rfl
instance:LnI j4.l6 (fun x=>x.F6) (fun y x => { x with F6:=y }):=⟨fun _=>rfl,fun _ _=>rfl⟩
instance:FdJ prog 30 7 j4.l7 (fun x=>x.Context) := .ok P6 rfl fun _=>rfl
instance:LnI j4.l7 (fun x=>x.Context) (fun y x => { x with Context:=y }):=⟨fun _=>rfl,fun _ _=>rfl⟩
instance:TyJ prog 36 (List u0):=⟨b1E⟩
instance:UnI prog 36 (.slice 9):=⟨underlying36⟩
instance:SlJ prog 36 9 u0 16:=⟨b5H⟩
instance:TyJ prog 37 UInt64:=⟨a15⟩
instance:UnI prog 37 (.int .u64):=⟨underlying37⟩
instance:TyJ prog 39 j3:=⟨E6⟩
instance:FdJ prog 39 0 j3.l0 (fun x=>x.Kind) := .ok a5B rfl fun _=>rfl
instance:LnI j3.l0 (fun x=>x.Kind) (fun y x => { x with Kind:=y }):=⟨fun _=>rfl,fun _ _=>rfl⟩
instance:FdJ prog 39 1 j3.l1 (fun x=>x.Mask) := .ok R2 rfl fun _=>rfl
instance:LnI j3.l1 (fun x=>x.Mask) (fun y x => { x with Mask:=y }):=⟨fun _=>rfl,fun _ _=>rfl⟩
instance:FdJ prog 39 2 j3.l2 (fun x=>x.J5) := .ok H4 rfl fun _=>rfl
instance:LnI j3.l2 (fun x=>x.J5) (fun y x => { x with J5:=y }):=⟨fun _=>rfl,fun _ _=>rfl⟩
instance:FdJ prog 39 3 j3.l3 (fun x=>x.To) := .ok H5 rfl fun _=>rfl
instance:LnI j3.l3 (fun x=>x.To) (fun y x => { x with To:=y }):=⟨fun _=>rfl,fun _ _=>rfl⟩
instance:FdJ prog 39 4 j3.l4 (fun x=>x.Name) := .ok a5C rfl fun _=>rfl
instance:LnI j3.l4 (fun x=>x.Name) (fun y x => { x with Name:=y }):=⟨fun _=>rfl,fun _ _=>rfl⟩
instance:FdJ prog 39 5 j3.l5 (fun x=>x.Number) := .ok a30 rfl fun _=>rfl
instance:LnI j3.l5 (fun x=>x.Number) (fun y x => { x with Number:=y }):=⟨fun _=>rfl,fun _ _=>rfl⟩
instance:UnI prog 40 (.slice 22):=⟨underlying40⟩
instance:UnI prog 45 (.slice 5):=⟨underlying45⟩
instance:TyJ prog 53 (Arr 32 UInt8):=⟨b4t⟩
instance:SlJ prog 54 112 y3 24:=⟨b4u⟩
instance:TyJ prog 56 p7:=⟨b1F⟩
instance:FdJ prog 56 2 p7.l2 (fun x=>x.a1S) := .ok a7A rfl fun _=>rfl
instance:LnI p7.l2 (fun x=>x.a1S) (fun y x => { x with a1S:=y }):=⟨fun _=>rfl,fun _ _=>rfl⟩
instance:FdJ prog 56 5 p7.l5 (fun x=>x.a0E) := .ok b2J rfl fun _=>rfl
instance:LnI p7.l5 (fun x=>x.a0E) (fun y x => { x with a0E:=y }):=⟨fun _=>rfl,fun _ _=>rfl⟩
instance:UnI prog 81 (.slice 85):=⟨underlying81⟩
instance:TyJ prog 83 FnV:=⟨b3f⟩
instance:TyJ prog 85 j5:=⟨U3⟩
instance:FdJ prog 85 0 j5.l0 (fun x=>x.word) := .ok a99 rfl fun _=>rfl
instance:LnI j5.l0 (fun x=>x.word) (fun y x => { x with word:=y }):=⟨fun _=>rfl,fun _ _=>rfl⟩
instance:FdJ prog 85 1 j5.l1 (fun x=>x.numbers) := .ok a7B rfl fun _=>rfl
instance:LnI j5.l1 (fun x=>x.numbers) (fun y x => { x with numbers:=y }):=⟨fun _=>rfl,fun _ _=>rfl⟩
instance:FdJ prog 85 2 j5.l2 (fun x=>x.M0) := .ok b2K rfl fun _=>rfl
instance:LnI j5.l2 (fun x=>x.M0) (fun y x => { x with M0:=y }):=⟨fun _=>rfl,fun _ _=>rfl⟩
instance:FdJ prog 85 3 j5.l3 (fun x=>x.a0r) := .ok b0a rfl fun _=>rfl
instance:LnI j5.l3 (fun x=>x.a0r) (fun y x => { x with a0r:=y }):=⟨fun _=>rfl,fun _ _=>rfl⟩
instance:UnI prog 122 (.int .u64):=⟨underlying122⟩
end Go.Proofs.YtfkbejimghamkaaGreatDoor
namespace Go.Mac
open Go.Fl Go.Ab Go.Sha
abbrev Tag:=Arr 32 UInt8
end Go.Mac
namespace Go.Proofs.YtfkbejimghamkaaGreatDoor
open Go.Proofs.Tryz
open Go.Fl Go.Ab Go.Sha Go.Mac
def a3m:Arr 8 Int:=⟨[0,64,32,7,0,0,0,0],rfl⟩
def a39:Arr 8 u0:=⟨[⟨[]⟩,⟨[122,111,110,101]⟩,⟨[108,105,110,101]⟩,⟨[100,97,121,115]⟩,⟨[116,105,109,101]⟩,⟨[100,97,105,108,121]⟩,⟨[104,111,108,100,101,114]⟩,⟨[114,105,100,101,115]⟩],rfl⟩
structure GlP (I:Im):Prop where
 bits:Cells I 0 0 (a3m.l.map i64)
 words:Cells I 1 0 (a39.l.map fun s => .string ⟨s.l.toArray⟩)
 maxLen:∃ m,Cells I 3 0 [.int .i64 m]
 b4v:∃ e fr,I 2=some (.cells (Lib.pow10Tab.map fun z=>Value.int .u64 z).toArray e fr)
 b5I:∃ t p,Cells I 4 0 [.iface t p]
 b5J:∃ t p,Cells I 5 0 [.iface t p]
theorem GlP.mono {I J:Im} (hle:Le I J) (h:GlP I):GlP J:=by
 obtain⟨h1,h2,⟨m,h3⟩,⟨e,fr,h4⟩,⟨t,p,h5⟩,⟨t2,p2,h6⟩⟩:=h
 exact⟨h1.mono hle,h2.mono hle,⟨m,h3.mono hle⟩,⟨e,fr,hle _ _ h4⟩,⟨t,p,h5.mono hle⟩,⟨t2,p2,h6.mono hle⟩⟩
def gl:Gl:=⟨GlP,fun hle h=>h.mono hle⟩
theorem K0 (I:Im) (h:gl.p I):D2 I (.p a3m) (ptr 0 0):=⟨0,0,_,rfl,(by repeat' (first|exact rfl|(refine⟨[_],_,rfl,⟨rfl,by decide,by decide⟩,?_⟩))),h.bits⟩
theorem G9 (I:Im) (h:gl.p I):D2 I (.p a39) (ptr 1 0):=⟨1,0,_,rfl,(by repeat' (first|exact rfl|(refine⟨[_],_,rfl,⟨⟨_,rfl,rfl⟩,by decide⟩,?_⟩))),h.words⟩
theorem b0n (I:Im) (w:World) (h:gl.p I) (hm:Mem I [] w):Lib.TabIs prog w "internal/strconv.uint64pow10" .u64 Lib.pow10Tab:=by
 obtain⟨e,fr,h4⟩:=h.b4v
 have h5:=hm.im _ _ h4
 have h6:prog.globalNamed "internal/strconv.uint64pow10" = some 2:=by kernel_rfl
 unfold Lib.TabIs World.var?
 rw [h6,Option.bind_some,h5]
open Go.Fl Go.Ab Go.Mac
theorem b3h (a b:UInt8):(a ||| b=0)↔(a=0∧b=0):=by
 rw [←UInt8.toBitVec_inj,←UInt8.toBitVec_inj,←UInt8.toBitVec_inj]
 simp only [UInt8.toBitVec_or,UInt8.toBitVec_ofNat]
 exact BitVec.or_eq_zero_iff
theorem b2r (a b:UInt8):(a ^^^ b=0)↔a=b:=by
 rw [←UInt8.toBitVec_inj,←UInt8.toBitVec_inj]
 simp only [UInt8.toBitVec_xor,UInt8.toBitVec_ofNat]
 exact BitVec.xor_eq_zero_iff
theorem _root_.Go.Ab.H6.sr {P:Program} {C:Ctx} {N:Nat} {σ:u5} {H:j6} {Q:Exit→u5→j6→Prop} {id:Nat} {l:List Oper} {y:Code} (hd:H7 N l=true) (h:C4 P C N l.toArray (a4W (H6 P C N y Q) Q) l σ H):H6 P C N (.seq (.region id l.toArray false) y) Q σ H := .seq (.region hd h)
theorem _root_.Go.Ab.C4.mv {P:Program} {C:Ctx} {N:Nat} {ops:Array Oper} {σ:u5} {H:j6} {Q:Exit→u5→j6→Prop} {d t:Nat} {ty:TypeId} {ps:String} {af:Array Edge} {a:AV} {rest:List Oper} (hx:C9 σ t=some a) (k:C4 P C N ops Q rest ((d,a)::σ) H):C4 P C N ops Q (⟨some d,.move (.tmp t),ty,ps,af,none⟩::rest) σ H := .p (.move (.t hx) k)
theorem _root_.Go.Ab.C4.ag {P:Program} {C:Ctx} {N:Nat} {ops:Array Oper} {σ:u5} {H:j6} {Q:Exit→u5→j6→Prop} {d t:Nat} {ty:TypeId} {ps:String} {af:Array Edge} {a:AV} {rest:List Oper} (hx:C9 σ t=some a) (k:C4 P C N ops Q rest ((d,a)::σ) H):C4 P C N ops Q (⟨some d,.assign (.tmp t),ty,ps,af,none⟩::rest) σ H := .p (.assign (.t hx) k)
theorem _root_.Go.Ab.A7.q {C:Ctx} {σ:u5} {H:j6} {t:Nat} {a:AV} {b w:Bool} (h:C9 σ t=some (.opt (b == w) a)) (hc:b=w):A7 C σ H (.tmp t) a := .o h (beq_iff_eq.2 hc)
theorem _root_.Go.Ab.a3D.c2 {σ' σ:u5} {t u:Nat} {a b:AV} (h:C9 σ t=some a) (g:C9 σ u=some b) (k:a3D σ' σ):a3D ((t,a)::(u,b)::σ') σ := .cons h (.cons g k)
theorem _root_.Go.Ab.C1.z1 {A0 B:Bool×C5} {H:j6}:C1 (A0::B::H) B (fun X=>A0::X::H) := .s .z
theorem _root_.Go.Ab.C1.z2 {A0 A1 B:Bool×C5} {H:j6}:C1 (A0::A1::B::H) B (fun X=>A0::A1::X::H) := .s (.s .z)
theorem _root_.Go.Ab.C1.z3 {A0 A1 A2 B:Bool×C5} {H:j6}:C1 (A0::A1::A2::B::H) B (fun X=>A0::A1::A2::X::H) := .s (.s (.s .z))
theorem _root_.Go.Ab.C1.z4 {A0 A1 A2 A3 B:Bool×C5} {H:j6}:C1 (A0::A1::A2::A3::B::H) B (fun X=>A0::A1::A2::A3::X::H) := .s (.s (.s (.s .z)))
theorem _root_.Go.Ab.C1.z5 {A0 A1 A2 A3 A4 B:Bool×C5} {H:j6}:C1 (A0::A1::A2::A3::A4::B::H) B (fun X=>A0::A1::A2::A3::A4::X::H) := .s (.s (.s (.s (.s .z))))
theorem _root_.Go.Ab.C1.z6 {A0 A1 A2 A3 A4 A5 B:Bool×C5} {H:j6}:C1 (A0::A1::A2::A3::A4::A5::B::H) B (fun X=>A0::A1::A2::A3::A4::A5::X::H) := .s (.s (.s (.s (.s (.s .z)))))
theorem _root_.Go.Ab.C1.z7 {A0 A1 A2 A3 A4 A5 A6 B:Bool×C5} {H:j6}:C1 (A0::A1::A2::A3::A4::A5::A6::B::H) B (fun X=>A0::A1::A2::A3::A4::A5::A6::X::H) := .s (.s (.s (.s (.s (.s (.s .z))))))
theorem _root_.Go.Ab.C1.z8 {A0 A1 A2 A3 A4 A5 A6 A7 B:Bool×C5} {H:j6}:C1 (A0::A1::A2::A3::A4::A5::A6::A7::B::H) B (fun X=>A0::A1::A2::A3::A4::A5::A6::A7::X::H) := .s (.s (.s (.s (.s (.s (.s (.s .z)))))))
theorem _root_.Go.Ab.C1.z9 {A0 A1 A2 A3 A4 A5 A6 A7 A8 B:Bool×C5} {H:j6}:C1 (A0::A1::A2::A3::A4::A5::A6::A7::A8::B::H) B (fun X=>A0::A1::A2::A3::A4::A5::A6::A7::A8::X::H) := .s (.s (.s (.s (.s (.s (.s (.s (.s .z))))))))
theorem _root_.Go.Ab.C1.z10 {A0 A1 A2 A3 A4 A5 A6 A7 A8 A9 B:Bool×C5} {H:j6}:C1 (A0::A1::A2::A3::A4::A5::A6::A7::A8::A9::B::H) B (fun X=>A0::A1::A2::A3::A4::A5::A6::A7::A8::A9::X::H) := .s (.s (.s (.s (.s (.s (.s (.s (.s (.s .z)))))))))
theorem _root_.Go.Ab.C1.z11 {A0 A1 A2 A3 A4 A5 A6 A7 A8 A9 A10 B:Bool×C5} {H:j6}:C1 (A0::A1::A2::A3::A4::A5::A6::A7::A8::A9::A10::B::H) B (fun X=>A0::A1::A2::A3::A4::A5::A6::A7::A8::A9::A10::X::H) := .s (.s (.s (.s (.s (.s (.s (.s (.s (.s (.s .z))))))))))
theorem _root_.Go.Ab.C1.z12 {A0 A1 A2 A3 A4 A5 A6 A7 A8 A9 A10 A11 B:Bool×C5} {H:j6}:C1 (A0::A1::A2::A3::A4::A5::A6::A7::A8::A9::A10::A11::B::H) B (fun X=>A0::A1::A2::A3::A4::A5::A6::A7::A8::A9::A10::A11::X::H) := .s (.s (.s (.s (.s (.s (.s (.s (.s (.s (.s (.s .z)))))))))))
theorem _root_.Go.Ab.a3E.e1 {P:Program} {fn:Func} {C:Ctx} {post:AV→j6→Prop} {σ:u5} {H:j6} {t:Nat} {a:AV} (h:fn.results = #[.tmp t]) (ha:C9 σ t=some a) (k:post a H):a3E P fn C post .ret σ H:=⟨a,.r1 h (.tmp ha),k⟩
theorem _root_.Go.Ab.a3E.e2 {P:Program} {fn:Func} {C:Ctx} {post:AV→j6→Prop} {σ:u5} {H:j6} {t t2:Nat} {a b:AV} (h:fn.results = #[.tmp t,.tmp t2]) (ha:C9 σ t=some a) (hb:C9 σ t2=some b) (k:post (.t2 a b) H):a3E P fn C post .ret σ H:=⟨_,.r2 h (.tmp ha) (.tmp hb),k⟩
theorem _root_.Go.Ab.y6.jn {G : Gl} {P : Program} {f : FuncId} {fn : Func} {c : Code} {vs : List AV} {post : AV → Prop} {σ : u5} (hf : P.funcs[f]? = some fn) (hn : (fn.name == "runtime.NumGoroutine") = false) (N : Nat) (hb : (fn.body, fn.ntmps, Nat.ble vs.length N, a5I vs 0) = (some c, N, true, σ))
    (h:∀ C:Ctx,Ctx.Ok C→G.p C.I0→H6 P C N c (a3E P fn C (fun r _=>post r)) σ []):y6 G P f vs post:=by
  simp only [Prod.mk.injEq] at hb
  exact .intro hf hb.1 hn N hb.2.1 hb.2.2.1 σ hb.2.2.2 h
theorem _root_.Go.Ab.E1.jn {G : Gl} {P : Program} {f : FuncId} {fn : Func} {c : Code} {vs : List AV} {Hs : List C5} {post : AV → List C5 → Prop} {σ : u5} {H0 : j6} (hf : P.funcs[f]? = some fn) (hn : (fn.name == "runtime.NumGoroutine") = false) (N : Nat) (hb : (fn.body, fn.ntmps, Nat.ble vs.length N, a5I vs 0, a4X Hs) = (some c, N, true, σ, H0))
    (h:∀ C:Ctx,Ctx.Ok C→G.p C.I0→H6 P C N c (a3E P fn C (fun r H=>post r (H.map Prod.snd))) σ H0):E1 G P f vs Hs post:=by
  simp only [Prod.mk.injEq] at hb
  exact .intro hf hb.1 hn N hb.2.1 hb.2.2.1 σ hb.2.2.2.1 H0 hb.2.2.2.2 h
theorem I7 (x n:Int) (h0:0 < n) (h1:n≤4611686018427387904):y6 gl prog 8 [.v x,.v n] (fun r=>r = .v (x % n)):=by
 have h2:=Int.tmod_lt_of_pos x h0
 have h3 : -n < x.tmod n:=Int.lt_tmod_of_pos x h0
 have h4:(x.tmod n+n) % n=x % n:=by
  rw [Int.add_emod_right,Int.tmod_def,Int.sub_mul_emod_self_left]
 refine y6.jn func8 (by kernel_rfl) 12 rfl fun C hC hG => ?_
 refine .q 8 hG ?_
 refine .p (.tmod (.t a8) (.t a8) (by omega) ?_)
 refine .q 1 hG ?_
 refine .ad (by first|omega|(simp;done)|(simp;omega)|(simp at *;omega)) (by first|omega|(simp;done)|(simp;omega)|(simp at *;omega)) ?_
 refine .q 1 hG ?_
 refine .p (.rem (.t a8) (.t a8) (by first|omega|(simp;done)|(simp;omega)|(simp at *;omega)) (by first|omega|(simp;done)|(simp;omega)|(simp at *;omega)) ?_)
 refine .q 3 hG ?_
 refine .e1 a8 a8 ?_
 rw [h4]
def W9 (c:UInt8):Bool:=decide (97≤c)&&decide (c≤122)
def u7 (s:u0):Bool:=decide (1≤s.l.length)&&decide (s.l.length≤16)&&s.l.all W9
theorem all_succ {α:Type} (p:α→Bool) (l:List α) (k:Nat) (h:k < l.length):(l.take (k+1)).all p=((l.take k).all p&&p l[k]):=by
 rw [List.take_succ_eq_append_getElem h,List.all_append];simp
theorem b0o {α:Type} (p:α→Bool) (l:List α) (k:Nat) (h:k < l.length) (hf:p l[k]=false):l.all p=false:=by
 rw [List.all_eq_false];exact⟨l[k],List.getElem_mem h,by simp [hf]⟩
theorem a7O (s:u0):y6 gl prog 46 [.v s] (fun r=>r = .v (u7 s)):=by
 refine y6.jn func46 (by kernel_rfl) 28 rfl fun C hC hG => ?_
 refine .q 6 hG ?_
 refine .a3g 0 a8 fun hs => ?_
 refine .q 10 hG ?_
 refine .cond (.t a8) (fun hc11 => ?_) (fun hc11 => ?_)
 ·refine .q 5 hG ?_
  refine .e1 a8 a8 ?_
  refine congrArg AV.v ?_;simp only [Bool.or_eq_true,decide_eq_true_eq] at hc11;unfold u7;rcases hc11 with h|h
  ·rw [decide_eq_false (show ¬1≤s.l.length by omega)];rfl
  ·rw [decide_eq_false (show ¬s.l.length≤16 by omega)];simp
 ·refine .q 7 hG ?_
  refine .C2 (α:=Nat) [(0,_)] (fun k R=>(3,.v (k:Int))::R) (fun k => []) (fun k=>k≤s.l.length∧(s.l.take k).all W9=true) (fun k=>s.l.length - k) (0) (.cons a8 (.nil _)) ?_ (.c2 a8 a8 (.nil _)) (a8) fun k hF => ?_
  ·simp
  obtain⟨h1,h2⟩:=hF
  refine .q 9 hG ⟨fun hc15 => ?_,fun hc15 => ?_⟩
  ·refine .q 7 hG ?_
   refine .p (.a1j underlying9 (.t a8) (.t a8) (by first|omega|(simp;done)|(simp;omega)|(simp at *;omega)) (by first|omega|(simp;done)|(simp;omega)|(simp at *;omega)) ?_)
   refine .q 4 hG ?_
   refine .go 22 a8 (.t a8) (fun hg25 => .a1j underlying9 (.q a8 hg25) (.q a8 hg25) (by first|omega|(simp;done)|(simp;omega)|(have:=hg25;simp at this;omega)) (by first|omega|(simp;done)|(simp;omega)|(have:=hg25;simp at this;omega)) a8) ?_
   refine .q 3 hG ?_
   refine .cond (.t a8) (fun hc27 => ?_) (fun hc27 => ?_)
   ·refine .q 5 hG ?_
    refine .e1 a8 a8 ?_
    refine congrArg AV.v (Eq.symm ?_);unfold u7;rw [b0o W9 s.l k (by omega),Bool.and_false];unfold W9;simp only [Bool.or_eq_true,decide_eq_true_eq,Int.toNat_natCast] at hc27;rcases hc27 with h|h
    ·rw [decide_eq_false (UInt8.not_le.2 h)];rfl
    ·rw [decide_eq_false (UInt8.not_le.2 h),Bool.and_false]
   ·refine .q 3 hG ?_
    refine .ad (by first|omega|(simp;done)|(simp;omega)|(simp at *;omega)) (by first|omega|(simp;done)|(simp;omega)|(simp at *;omega)) ?_
    refine .q 2 hG ?_
    refine⟨k+1,.c2 rfl rfl (.nil _),rfl,?_,by omega⟩
    refine⟨by omega,?_⟩;rw [all_succ _ _ _ (by omega),h2];simp only [Bool.or_eq_false_iff,decide_eq_false_iff_not,UInt8.not_lt,Int.toNat_natCast] at hc27;simpa [W9] using hc27
  ·refine .q 6 hG ?_
   refine .e1 a8 a8 ?_
   refine congrArg AV.v (Eq.symm ?_);simp only [Bool.or_eq_false_iff,decide_eq_false_iff_not] at hc11;unfold u7;rw [List.take_of_length_le (by omega)] at h2;rw [h2];simp;omega
def b4w (key:List UInt8):List UInt8:=key++List.replicate (64 - key.length) 0
def b0p (key:List UInt8) (x:UInt8):List UInt8:=(b4w key).map (· ^^^ x)
@[simp] theorem b3i (key:List UInt8) (x:UInt8):(b0p key x).length=max 64 key.length:=by simp [b0p,b4w];omega
open Go.Fl Go.Ab Go.Mac Go.Sha
theorem b3R (n:Int) (h0:0≤n) (h1:n < 9223372036854775808) (k:Nat) (hk:k < 64):UInt8.ofInt (n >>> k)=(UInt64.ofInt n >>> UInt64.ofNat k).toUInt8:=by
 obtain⟨m,rfl⟩:=Int.eq_ofNat_of_zero_le h0
 rw [show((m:Int) >>> k)=((m >>> k:Nat):Int) from rfl]
 apply UInt8.toNat_inj.1
 have e1:(UInt64.ofInt (m:Int)).toNat=m % 2^64:=by
  simp [UInt64.ofInt];omega
 have e2:(UInt64.ofNat k).toNat=k:=by simp;omega
 have e3:(UInt8.ofInt ((m >>> k:Nat):Int)).toNat=(m >>> k) % 256:=by
  generalize m >>> k=q
  simp [UInt8.ofInt];omega
 rw [e3,UInt64.toNat_toUInt8,UInt64.toNat_shiftRight,e1,e2]
 rw [Nat.mod_eq_of_lt hk,Nat.mod_eq_of_lt (show m < 2^64 by omega)]
attribute [local simp] a6s
abbrev dk (w:Value):AV := .ln w (p5.id (α:=j9))
theorem a9m (l:List Int):E1 gl prog 14 [.v l] [] (fun r Hs=>∃ b,r=dk (ptr b 0)∧Hs = [.ob (ptr b 0) (⟨l,0⟩:j9)]):=by
 refine E1.jn func14 (by kernel_rfl) 6 rfl fun C hC hG => ?_
 refine .q 2 hG ?_
 refine .p (.assign .raw ?_)
 refine .q 4 hG ?_
 refine .p (.bS1 j9.l0 a8 b5E b5n (fun c0=>(⟨c0,0⟩:j9)) (fun _=>a8) a8 a8 (.t a8) ?_)
 refine .q 1 hG fun b5 => ?_
 refine .q 3 hG ?_
 refine .e1 a8 a8 ?_
 exact⟨b5,a8,a8⟩
def E3 (d:j9) (n:Int):Int×j9 :=
 if h:d.At.toNat < d.L.length then (d.L[d.At.toNat] % n,⟨d.L,d.At+1⟩) else (0,d)
def C7 (d:j9):Prop:=0≤d.At
theorem K1 {d:j9} {n:Int} (h:C7 d):C7 (E3 d n).2:=by
 unfold E3;split
 ·show 0≤d.At+1
  unfold C7 at h;omega
 ·exact h
theorem L6 {d:j9} {n:Int} (h:0 < n):0≤(E3 d n).1∧(E3 d n).1 < n:=by
 unfold E3;split
 ·exact⟨Int.emod_nonneg _ (by omega),Int.emod_lt_of_pos _ h⟩
 ·exact⟨Int.le_refl 0,h⟩
theorem a01 (w : Value) (d : j9) (n : Int) (hd : C7 d) (h0 : 0 < n) (h1 : n ≤ 4611686018427387904) :
    E1 gl prog 28 [dk w,.v n] [.ob w d] (fun r Hs=>r = .v (E3 d n).1∧Hs = [.ob w (E3 d n).2]):=by
  unfold C7 at hd
  refine E1.jn func28 (by kernel_rfl) 35 rfl fun C hC hG => ?_
  refine .q 6 hG ?_
  refine .draw (by kernel_rfl) 10 [[],[(5,0)],[(6,1)],[(7,2)],[],[(9,4)],[(10,5)],[(11,6)],[(12,7)],[(8,3),(13,8)]] a8 (by kernel_rfl) a8 ?_
  refine⟨_,j7.move (.t a8) a8,?_⟩
  refine⟨_,j7.y8 (.t a8) a8,?_⟩
  refine⟨_,j7.y7 j9.l1 a5E a8 (.t a8) a8,?_⟩
  refine⟨_,j7.ldF (fun x=>x.At) A3 (.t a8) .z (fun _=>a8) a8,?_⟩
  refine⟨_,j7.move (.t a8) a8,?_⟩
  refine⟨_,j7.y8 (.t a8) a8,?_⟩
  refine⟨_,j7.y7 j9.l0 a98 a8 (.t a8) a8,?_⟩
  refine⟨_,j7.ldF (fun x=>x.L) b4s (.t a8) .z (fun _=>a8) a8,?_⟩
  refine⟨_,j7.len underlying23 (.t a8) a8,?_⟩
  refine⟨_,j7.geq (.t a8) (.t a8) a8,?_⟩
  show C4 _ _ _ _ _ [] ((14,_)::(13,_)::(12,_)::(11,_)::(10,_)::(9,_)::(8,_)::(7,_)::(6,_)::(5,_)::_) _
  refine .q 2 hG ⟨fun hc14 => ?_,fun hc14 => ?_⟩
  · refine .q 5 hG ?_
    refine .e1 a8 a8 ?_
    have e:E3 d n=(0,d):=by unfold E3;rw [dif_neg (by omega)]
    rw [e];exact⟨rfl,rfl⟩
  · refine .q 2 hG ?_
    refine .a2m 12 a8 fun hl => ?_
    refine .q 1 hG ?_
    refine .mv a8 (.p (.y8 (.t a8) (.p (.y7 j9.l1 a5E a8 (.t a8) (.p (.ldF (fun x=>x.At) A3 (.t a8) .z (fun _=>a8) ?_))))))
    refine .ad (by first|omega|(simp;done)|(simp;omega)|(simp at *;omega)) (by first|omega|(simp;done)|(simp;omega)|(simp at *;omega)) (.p (.y8 (.t a8) (.p (.y7 j9.l1 a5E a8 (.t a8) (.n (.K3 (fun y x => { x with At:=y }) A3 (.t a8) (.t a8) .z (fun _ _=>a8) ?_))))))
    refine .q 2 hG ?_
    refine .draw (by kernel_rfl) 14 [[],[(22,0)],[(23,1)],[(24,2)],[],[(26,4)],[(27,5)],[(28,6)],[(29,7)],[(25,3),(30,8)],[(31,9)],[],[(32,10),(33,11)],[(34,12)]] a8 (by kernel_rfl) a8 ?_
    refine⟨_,j7.move (.t a8) a8,?_⟩
    refine⟨_,j7.y8 (.t a8) a8,?_⟩
    refine⟨_,j7.y7 j9.l0 a98 a8 (.t a8) a8,?_⟩
    refine⟨_,j7.ldF (fun x=>x.L) b4s (.t a8) .z (fun _=>a8) a8,?_⟩
    refine⟨_,j7.move (.t a8) a8,?_⟩
    refine⟨_,j7.y8 (.t a8) a8,?_⟩
    refine⟨_,j7.y7 j9.l1 a5E a8 (.t a8) a8,?_⟩
    refine⟨_,j7.ldF (fun x=>x.At) A3 (.t a8) .z (fun _=>a8) a8,?_⟩
    refine⟨_,j7.sub (.t a8) (.i a8) (by first|omega|(simp;done)|(simp;omega)|(simp at *;omega)) (by first|omega|(simp;done)|(simp;omega)|(simp at *;omega)) a8,?_⟩
    refine⟨_,j7.idx A3 underlying23 (.t a8) (.t a8) (by first|omega|(simp;done)|(simp;omega)|(simp at *;omega)) (by first|omega|(simp;done)|(simp;omega)|(simp at *;omega)) a8,?_⟩
    refine⟨_,j7.F1 A3 (.t a8) a8,?_⟩
    refine⟨_,j7.move (.t a8) a8,?_⟩
    refine⟨_,j7.A4 hG (I7 _ _ (by first|omega|(simp;done)|(simp;omega)|(simp at *;omega)) (by first|omega|(simp;done)|(simp;omega)|(simp at *;omega))) (.cons (.t a8) (.cons (.t a8) .nil)) a8,?_⟩
    refine⟨_,j7.assign (.t a8) a8,?_⟩
    show C4 _ _ _ _ _ [] ((4,_)::(34,_)::(33,_)::(32,_)::(31,_)::(30,_)::(29,_)::(28,_)::(27,_)::(26,_)::(25,_)::(24,_)::(23,_)::(22,_)::_) _
    refine .q 2 hG ?_
    refine .e1 a8 a8 ?_
    have e:E3 d n=(d.L[d.At.toNat]'(by omega) % n,⟨d.L,d.At+1⟩):=by unfold E3;rw [dif_pos (by omega)]
    rw [e];refine⟨congrArg AV.v ?_,rfl⟩;simp only [Int.add_sub_cancel]
def idx {α:Type} (l:List α) (p:α→Bool):Int:=if l.findIdx p < l.length then (l.findIdx p:Int) else -1
theorem a7P {α:Type} {l:List α} {p:α→Bool} {k:Nat} (h:k < l.length) (h1:p l[k]=true) (h2:∀ j (hj:j < l.length),j < k→p l[j]=false):idx l p=(k:Int):=by
 have e:l.findIdx p=k:=(List.findIdx_eq h).2 ⟨h1,fun j hj=>h2 j (by omega) hj⟩
 unfold idx;rw [e,if_pos h]
theorem a4a {α:Type} {l:List α} {p:α→Bool} (h:∀ j (hj:j < l.length),p l[j]=false):idx l p = -1:=by
 have e:l.findIdx p=l.length:=List.findIdx_eq_length.2 fun x hx=>by
  obtain⟨j,hj,rfl⟩:=List.getElem_of_mem hx
  exact h j hj
 unfold idx;rw [e,if_neg (by omega)]
theorem a7Q (w:Value) (d:j9) (hd:C7 d):E1 gl prog 26 [dk w] [.ob w d] (fun r Hs=>∃ t:Tag,∃ d',C7 d'∧r = .v t∧Hs = [.ob w d']):=by
 refine E1.a5T func26 rfl (by kernel_rfl) 16 rfl rfl _ rfl _ rfl fun C hC hG => ?_
 refine .q 3 hG fun b2 => ?_
 refine .q 4 hG fun b3 => ?_
 refine .q 7 hG ?_
 refine .C2 (α:=Nat×Tag×j9) [(0,_),(2,_),(3,_)] (fun x R=>(4,.v (x.1:Int))::R) (fun x => [(true,.ob (ptr b3 0) x.2.1),(true,.ob (ptr b2 0) (default:Tag)),(false,.ob w x.2.2)]) (fun x=>x.1≤4∧C7 x.2.2) (fun x=>4 - x.1) ((0,default,d)) (.c2 a8 a8 (.cons a8 (.nil _))) ?_ (.c2 a8 a8 (.c2 a8 a8 (.nil _))) (a8) fun x hF => ?_
 ·exact⟨Nat.zero_le _,hd⟩
 obtain⟨k,t,e⟩:=x
 obtain⟨h1,h2⟩:=hF
 dsimp only at h1 h2 ⊢
 refine .q 7 hG ⟨fun hc6 => ?_,fun hc6 => ?_⟩
 ·refine .q 5 hG ?_
  refine .p (.mul (.t a8) (.i a8) (by first|omega|(simp;done)|(simp;omega)|(simp at *;omega)) (by first|omega|(simp;done)|(simp;omega)|(simp at *;omega)) ?_)
  refine .q 1 hG ?_
  refine .km hG (a01 _ _ _ (by assumption) (by first|omega|(simp;done)|(simp;omega)|(simp at *;omega)) (by first|omega|(simp;done)|(simp;omega)|(simp at *;omega))) .z2 (by rintro _ _ ⟨_,rfl⟩;exact⟨_,rfl⟩) fun r12 B12 hr12 => ?_
  obtain⟨rfl,hB⟩:=hr12
  cases hB
  refine .q 1 hG ?_
  refine .p (.b5u b5l (.t a8) (.t a8) (by first|omega|(simp;done)|(simp;omega)|(simp at *;omega)) (by first|omega|(simp;done)|(simp;omega)|(simp at *;omega)) (.n (.stL ty5 (.t a8) (.t a8) .z ?_)))
  refine .q 3 hG ?_
  refine .ad (by first|omega|(simp;done)|(simp;omega)|(simp at *;omega)) (by first|omega|(simp;done)|(simp;omega)|(simp at *;omega)) ?_
  refine .q 2 hG ?_
  refine⟨(k+1,_,_),.c2 rfl rfl (.c2 rfl rfl (.nil _)),rfl,?_,by dsimp only;omega⟩
  exact⟨by dsimp only;omega,K1 h2⟩
 ·refine .q 7 hG ?_
  refine⟨_,.r1 a8 (.cell b4t a8 .z1),?_⟩
  exact⟨2,_,_,h2,a8,a8⟩
end Go.Proofs.YtfkbejimghamkaaGreatDoor
namespace Go.Ab
open Go.Fl Go.RowKit
open p6 (rep)
variable {P:Program} {N:Nat} {C:Ctx} {σ:u5} {H:j6} {K:AV→Prop} {d:Option Nat} {ty:TypeId} {ps:String} {af:Array Edge} {g:Option (Nat×Bool)} {x y:Operand} {T T2:TypeId}
theorem x9 {dd:TypeDesc} {b:Bool} (h:P.underlying T=some dd) (hb:a0z dd=b):∀ w,(isAgg T).run P w = .ok b w:=fun w=>hb▸a0A h w
theorem y0 {n:Nat} (h:(P.info? T).map (·.size)=some n):∀ w,(Go.sizeOf T).run P w = .ok n w:=fun w=>I4.run h w
theorem y1 {v:Value} (h:(P.info? T).bind (·.zero)=some v):∀ w,(zeroValue T).run P w = .ok v w:=fun w=>by
 cases hq:P.info? T with
 | none=>simp [hq] at h
 | some i=>simp [hq] at h;simp [zeroValue,typeInfo,hq,h]
section clo
variable {C:Ctx} {σ:u5} {H:j6} {G:Gl} {f:FuncId} {args:Array Operand} {tys:Array TypeId}
end clo
theorem j7.b0q {m : UInt64} {n : Int} (hx : A7 C σ H x (.v m)) (hy : A7 C σ H y (.v n)) (h0 : 0 ≤ n) (h1 : n < 64) (k : K (.v (m >>> UInt64.ofNat n.toNat))) :
    j7 P N C ⟨d,.binOp .shr T x y T2,ty,ps,af,g⟩ σ H K :=
  .vk k (fun ρ I L hs=>J0.a4S n.toNat (hx.Z2 hs) (hy.int hs).1 (by omega) (by omega) ⟨_,rfl,rfl⟩)
end Go.Ab
namespace Go.Ab
open Go.Fl Go.RowKit Go.Shelf Go.Proofs
open p6 (rep)
theorem Chg.a4b {w w':World} (h:Below w.heap.size w w'):Chg [] w w':=⟨h.os,h.tape,h.output,h.size,fun k hk _=>h.block k hk⟩
end Go.Ab
namespace Go.Proofs.YtfkbejimghamkaaGreatDoor
open Go.Proofs.Tryz
open Go.Fl Go.Ab Go.Mac Go.Sha
end Go.Proofs.YtfkbejimghamkaaGreatDoor
namespace Go.Ab
open Go.Fl Go.RowKit
open p6 (rep)
def EqT (P:Program) (T:TypeId) (k:Nat) (α:Type) [p6 α] [DecidableEq α]:Prop :=
 ∀ (d:Nat) (I:Im) (x y:α) (cs ds:List Value) (w:World),rep I x cs→rep I y ds→(Op.equalIn (d+k) T (asV (p6.agg α) cs) (asV (p6.agg α) ds)).run P w = .ok (decide (x=y)) w
variable {P:Program} {T E:TypeId}
theorem EqT.i64 (hT:P.underlying T=some (.int .i64)):EqT P T 1 Int:=fun d I x y cs ds w hx hy=>by
 obtain⟨rfl,_⟩:=hx
 obtain⟨rfl,_⟩:=hy
 exact a3c w d hT
theorem EqT.u64 (hT:P.underlying T=some (.int .u64)):EqT P T 1 UInt64:=fun d I x y cs ds w hx hy=>by
 obtain rfl:=hx
 obtain rfl:=hy
 refine(a3c w d hT).trans ?_
 congr 1
 rw [decide_eq_decide]
 exact⟨fun h=>UInt64.toNat_inj.1 (Int.ofNat_inj.1 h),fun h=>by rw [h]⟩
theorem EqT.str (hT:P.underlying T=some .string):EqT P T 1 u0:=fun d I x y cs ds w hx hy=>by
 obtain⟨⟨a,rfl,ha⟩,_⟩:=hx
 obtain⟨⟨b,rfl,hb⟩,_⟩:=hy
 refine(run_equalIn_string w d T a b hT).trans ?_
 rw [a7J ha hb]
inductive EqF (P:Program) (k:Nat):List Field→Nat→(β:Type)→(s:p6 β)→DecidableEq β→Prop
  | nil {off:Nat}:EqF P k [] off Unit inferInstance inferInstance
  | cons {f : Field} {fs : List Field} {off : Nat} {α β : Type} {r : p6 α} {s : p6 β} {d1 : DecidableEq α} {d2 : DecidableEq β} {dd : TypeDesc} (h1 : f.offset = off) (hn : (f.name ≠ "_") = true) (hT : P.underlying f.type = some dd) (ha : a0z dd = p6.agg α) (hz : I4 P f.type (p6.size α))
      (h2:EqT P f.type k α) (t:EqF P k fs (off+p6.size α) β s d2):EqF P k (f::fs) off (α×β) inferInstance inferInstance
theorem EqF.run {k : Nat} {fs : List Field} {off : Nat} {β : Type} {s : p6 β} {dec : DecidableEq β} (h : EqF P k fs off β s dec) : ∀ (d : Nat) (I : Im) (x y : β) (cs ds : List Value) (w : World), rep I x (cs.drop off) → rep I y (ds.drop off) →
    (Op.eqFields (d+k) cs.toArray ds.toArray fs).run P w = .ok (decide (x=y)) w:=by
  induction h with
  | nil=>intro d I x y cs ds w _ _;rfl
  | @cons f fs off α β r s d1 d2 dd h1 hn hT ha hz h2 t ih =>
    intro d I x y cs ds w hx hy
    obtain⟨c1,r1,e1,q1,q2⟩:=hx
    obtain⟨c2,r2,e2,q3,q4⟩:=hy
    have hp:∀ (zs c rr:List Value) (a:α),zs.drop off=c++rr→rep I a c→(part f.type zs.toArray f.offset).run P w = .ok (asV (p6.agg α) c) w:=fun zs c rr a e hc=>by
      have hl:=p6.len hc
      have hseg:E8 zs off (p6.size α)=c:=by rw [E8,e,←hl];simp
      obtain⟨g1,g2⟩:=a90 (P:=P) (cs:=zs) (off:=f.offset) hT hz w
      rw [h1] at g1 g2 ⊢
      cases hag:p6.agg α with
      | true =>
        rw [g1 (by rw [ha,hag]),hseg];rfl
      | false =>
        have hone:c.length=1:=by rw [hl];exact p6.one hag
        cases c with
        | nil=>simp at hone
        | cons v c =>
          have:c = []:=by simpa using hone
          subst this
          refine g2 v (by rw [ha,hag]) ?_
          have:(zs.drop off)[0]?=some v:=by rw [e];rfl
          simpa using this
    have hdrop:∀ (zs c rr:List Value) (a:α),zs.drop off=c++rr→rep I a c→zs.drop (off+p6.size α)=rr:=fun zs c rr a e hc=>by
      rw [←List.drop_drop,e,←p6.len hc];simp
    have hn':f.name ≠ "_" := by simpa using hn
    simp only [Op.eqFields,if_pos hn',Sem.run_bind,hp cs c1 r1 x.1 e1 q1,hp ds c2 r2 y.1 e2 q3,Result.andThen_ok,h2 d I x.1 y.1 c1 c2 w q1 q3]
    by_cases e:x.1=y.1
    · simp only [e,decide_true,Bool.not_true,Bool.false_eq_true,if_false]
      rw [ih d I x.2 y.2 cs ds w (by rw [hdrop cs c1 r1 x.1 e1 q1];exact q2) (by rw [hdrop ds c2 r2 y.1 e2 q3];exact q4)]
      congr 1
      rw [decide_eq_decide]
      exact⟨fun h=>Prod.ext e h,fun h=>by rw [h]⟩
    · simp only [e,decide_false,Bool.not_false,if_true,Sem.run_pure]
      congr 1
      symm
      rw [decide_eq_false_iff_not]
      exact fun h=>e (by rw [h])
theorem EqT.struct {S β:Type} [s:p6 β] [dS:DecidableEq S] {dec:DecidableEq β} {k:Nat} {fs:Array Field} (f:S→β) (hf:∀ a b,f a=f b→a=b) (hT0:P.underlying T=some (.struct fs)) (hp:P.stoodInHeld T=false) (h:EqF P k fs.toList 0 β s dec) : @EqT P T (k+1) S (p6.via f) dS:=by
 letI:p6 S:=p6.via f
 intro d I x y cs ds w hx hy
 have hfs:P.fieldsOf T=fs:=by unfold Program.fieldsOf;rw [hT0]
 have hT:P.underlying T=some (.struct (P.fieldsOf T)):=by rw [hfs];exact hT0
 have hx':rep I (f x) cs:=hx
 have hy':rep I (f y) ds:=hy
 refine(run_equalIn_struct w (d+k) T cs.toArray ds.toArray hT hp).trans ?_
 rw [hfs,h.run d I (f x) (f y) cs ds w (by simpa using hx') (by simpa using hy')]
 congr 1
 rw [decide_eq_decide]
 exact⟨hf _ _,fun h=>by rw [h]⟩
variable {N:Nat} {C:Ctx} {σ:u5} {H:j6} {K:AV→Prop} {d:Option Nat} {ty:TypeId} {ps:String} {af:Array Edge} {g:Option (Nat×Bool)} {x y:Operand} {T2:TypeId}
theorem j7.X0 {α : Type} {r : p6 α} {dd : DecidableEq α} {k0 : Nat} {a b : α} (he : EqT P T k0 α) (hk : Nat.ble k0 10000 = true) (hag : p6.agg α = true) (hg : P.eqGuardType P.depth T = false) (hx : A7 C σ H x (.v a)) (hy : A7 C σ H y (.v b)) (k : K (.v (decide (a = b)))) :
    j7 P N C ⟨d,.binOp .eql T x y T2,ty,ps,af,g⟩ σ H K :=
  .vk k (fun ρ I L hst => .mk ⟨[.bool (decide (a=b))],rfl,rfl⟩ fun ac w ha hm=>by
    obtain⟨u,h1,cs,h2,rfl⟩:=hx ρ I L hst
    obtain⟨v,h3,ds,h4,rfl⟩:=hy ρ I L hst
    have hke:10000 - k0+k0=10000:=by have:=Nat.le_of_ble_eq_true hk;omega
    have he':=he (10000 - k0) I a b cs ds w h2 h4
    rw [hke] at he'
    rw [hag] at he' h1 h3
    have h5:=run_eql_struct (P:=P) w T cs.toArray ds.toArray
    rw [show(Op.equalIn 10000 T (.agg cs.toArray) (.agg ds.toArray)).run P w=_ from he'] at h5
    have h1':ev ρ x=some (.agg cs.toArray):=h1
    have h3':ev ρ y=some (.agg ds.toArray):=h3
    simp only [execOp,ha.ev h1',ha.ev h3',Sem.run_bind,a4U w hg,h5,Result.andThen_ok,Sem.run_pure]
    rfl)
theorem j7.a5Y {α : Type} {r : p6 α} {dd : DecidableEq α} {k0 : Nat} {a b : α} (he : EqT P T k0 α) (hk : Nat.ble k0 10000 = true) (hag : p6.agg α = true) (hg : P.eqGuardType P.depth T = false) (hx : A7 C σ H x (.v a)) (hy : A7 C σ H y (.v b)) (k : K (.v (decide (a ≠ b)))) :
    j7 P N C ⟨d,.binOp .neq T x y T2,ty,ps,af,g⟩ σ H K :=
  .vk k (fun ρ I L hst => .mk ⟨[.bool (decide (a≠b))],rfl,rfl⟩ fun ac w ha hm=>by
    obtain⟨u,h1,cs,h2,rfl⟩:=hx ρ I L hst
    obtain⟨v,h3,ds,h4,rfl⟩:=hy ρ I L hst
    have hke:10000 - k0+k0=10000:=by have:=Nat.le_of_ble_eq_true hk;omega
    have he':=he (10000 - k0) I a b cs ds w h2 h4
    rw [hke] at he'
    rw [hag] at he' h1 h3
    have h5:=run_neq_struct (P:=P) w T cs.toArray ds.toArray
    rw [show(Op.equalIn 10000 T (.agg cs.toArray) (.agg ds.toArray)).run P w=_ from he'] at h5
    have h1':ev ρ x=some (.agg cs.toArray):=h1
    have h3':ev ρ y=some (.agg ds.toArray):=h3
    simp only [execOp,ha.ev h1',ha.ev h3',Sem.run_bind,a4U w hg,h5,Result.andThen_ok,Sem.run_pure]
    by_cases e:a=b<;>simp [e,asV,p6.agg])
end Go.Ab
namespace Go.Proofs.YtfkbejimghamkaaGreatDoor
open Go.Proofs.Tryz
open Go.Ab Go.Mac
theorem a6E:EqT prog 26 2 o9 := .struct o9.f (fun a b h=>by cases a;cases b;simpa [o9.f] using h) underlying26 (by kernel_rfl) (.cons rfl (by simp) underlying3 rfl (.of (by kernel_rfl)) (.i64 underlying3) (.cons rfl (by simp) underlying3 rfl (.of (by kernel_rfl)) (.i64 underlying3) .nil))
theorem a6F:EqT prog 28 2 j8 := .struct j8.f (fun a b h=>by cases a;cases b;simpa [j8.f] using h) underlying28 (by kernel_rfl) (.cons rfl (by simp) underlying3 rfl (.of (by kernel_rfl)) (.i64 underlying3) (.cons rfl (by simp) underlying3 rfl (.of (by kernel_rfl)) (.i64 underlying3) (.cons rfl (by simp) underlying3 rfl (.of (by kernel_rfl)) (.i64 underlying3) (.cons rfl (by simp) underlying9 rfl (.of (by kernel_rfl)) (.str underlying9) .nil))))
theorem O2:EqT prog 39 2 j3 := .struct j3.f (fun a b h=>by cases a;cases b;simpa [j3.f] using h) underlying39 (by kernel_rfl) (.cons rfl (by simp) underlying3 rfl (.of (by kernel_rfl)) (.i64 underlying3) (.cons rfl (by simp) underlying37 rfl (.of (by kernel_rfl)) (.u64 underlying37) (.cons rfl (by simp) underlying3 rfl (.of (by kernel_rfl)) (.i64 underlying3) (.cons rfl (by simp) underlying3 rfl (.of (by kernel_rfl)) (.i64 underlying3) (.cons rfl (by simp) underlying9 rfl (.of (by kernel_rfl)) (.str underlying9) (.cons rfl (by simp) underlying3 rfl (.of (by kernel_rfl)) (.i64 underlying3) .nil))))))
end Go.Proofs.YtfkbejimghamkaaGreatDoor
