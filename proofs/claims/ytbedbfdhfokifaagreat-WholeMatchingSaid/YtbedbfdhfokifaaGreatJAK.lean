/- Part of the proof of WholeMatching. -/
import Derived.Test.YtbedbfdhfokifaaGreatJAF
import Derived.Test.YtbedbfdhfokifaaGreatJAH
import Derived.WideKeyEntry
import Derived.Lib.SlKeysI
namespace Go.Proofs.YtbedbfdhfokifaaGreat
set_option maxRecDepth 100000
set_option maxHeartbeats 16000000
set_option linter.unusedVariables false
set_option linter.unusedSimpArgs false
open _root_.Array renaming replicate->kZ
open _root_.Bool renaming true->ae,false->ag
open Go renaming World->Z,Value->aj,maxLen->bK,Oper->dC,Program->dH,yielded->lh
open Go.IntKind renaming i64->F
open Go.Lit renaming int->jQ
open Go.Proofs.Tryz renaming prog->ak
open Go.Region renaming wanted->lg,ready->mZ,noSelect->yB,free->yC
open Go.Value renaming int->G,bool->aA,agg->az,tuple->bG
open _root_.Option renaming none->J,some->N
open Go.RowKit
section
open Go.Maps (Keyed)
theorem aar:Keyed ak 250:=Mq (deep_law_laid ai (m:=3) aJ (iY ai) ai ai)
theorem AB (d:Nat) (hd:0<d) {a:Int} (ha:(jQ .i64 a).wf=ae):(ak).keyLits d 3 [.int .i64 a]=N [.int .i64 a]:=by
 obtain⟨d,rfl⟩: ∃ k,d=k+1:=⟨d - 1,O⟩;unfold Program.keyLits;rw[dh];simp[ha]
theorem ajZ {a b c:Int} (ha:(jQ .i64 a).wf=ae) (hb:(jQ .i64 b).wf=ae) (hc:(jQ .i64 c).wf=ae): ∃ l,keyOf ak 250 (.agg #[.int .i64 a,.int .i64 b,.int .i64 c])=N l:=by
 have h1:(ak).keyType 250=ae:=ai;have h2:(ak).cellsOf 250=3:=ai;have h3:(ak).cellsOf 3=1:=ai;unfold keyOf;rw[Mj];simp only[h1,Value.formed,Mj,h2,qC];unfold Program.keyLits;rw[Mj];simp[h2,h3,Value.cells,AB _ _ ha,AB _ _ hb,AB _ _ hc]
theorem aj1 {a b c d:Int} (y z:Int):(az #[G F a,G F y,G F b]=az #[G F c,G F z,G F d])↔(a=c/\y=z/\b=d):=aL
end
section
open Go.RowKit Go.WideElems
open Go.Maps (Keyed)
open Go.WideMaps (KeyLaw)
open Go.ChangeMaps (setBlock)
section
variable {P:dH} {k e t:TypeId} {w w':Z} {b n:Nat} {f g:aj->Int}
end
end
structure aK (S:Z->Prop) where
 now:Z
 is:S now
theorem aK.of {S:Z->Prop} {w:Z} (h:S w): ∃ d:aK S,w=d.now:=⟨⟨w,h⟩,rfl⟩
theorem aK.un {S:Z->Prop} {w:Z} (h: ∃ d:aK S,w=d.now):S w:=by obtain⟨d,rfl⟩:=h;exact d.is
section
variable {P:dH} {ops:Array dC} {Q:Exit->Act->Z->Prop} {t:Nat} {S:Z->Prop} {w:Z} {i fuel:Nat} {o:dC} {a:Act} {listed:Array Bool}
theorem nK {id n:Nat} {l:List dC} (S:Z->Prop) (t:Nat) (hm:P.follows .mixedOrders=ae) (hn:l.length=n)
 (h:jX P l.toArray Q (λw'=> ∃ d:aK S,w'=d.now) t n (kZ n ag) a w.drew):(Code.region id l.toArray ae).wp P Q a w:=by
 subst hn;exact wp_region_any hm (PM _ _ _ _ (by simpa using h))
theorem abw {rest:List dC} (hl:ops.toList.drop i=o::rest) (hp:jH o.op=ae) (hs:yB ops=ae) (hf:yC .any ops listed i=ae) (hr:(mZ .any ops listed).contains i=ae)
 (hw:lg o (lh ops a.tmps)=ae) (hit:decide (i≠t)=ae) (wG:Hz ops t i=ae) (ht:listed.getD t ag=ag) (hQ: ∀ c a v w,Q (.panic c) (Act.put a o.dst v) w->Q (.panic c) a w) (hS:(∃ d:aK S,w=d.now))
 (h: ∀ K:Act->Prop,(∀ a',jX P ops Q (λw'=> ∃ d:aK S,w'=d.now) t fuel (listed.setIfInBounds i ae) a' w->K a')->o.quiet P a (λw'=> ∃ d:aK S,w'=d.now) K):
 jX P ops Q (λw'=> ∃ d:aK S,w'=d.now) t (fuel+1) listed a w:=by
 obtain⟨v,h1,h2⟩:=h (λa'=>jX P ops Q (λw'=> ∃ d:aK S,w'=d.now) t fuel (listed.setIfInBounds i ae) a' w) (λ_ h=>h);refine ack (v:=v) (iY hit) wG (drop_at hl) (Vu hs) (λc a w h=>hQ c a _ w h) fuel listed a w ht (Region.free_spec (drop_at hl) hf) (by simpa using hr) (.inl ⟨hw,λw' hw'=> ?_⟩) hS h2;have h3:=h1 w' hw';unfold Oper.quietAt at h3;generalize hx:(execOp a.eval o).run P w'=r at h3
 cases r with
 |ok n w2=>
  obtain⟨u,rfl⟩:=O7 hp hx;simp only[Oper.quietUpon]at h3;rw[h3.1,h3.2]
 |halt x w2=>simp only[Oper.quietUpon]at h3
theorem Fq (i:Nat) {rest:List dC} (hS:(∃ d:aK S,w=d.now))
 (h: ∀ K:Act->Prop,(∀ a',jX P ops Q (λw'=> ∃ d:aK S,w'=d.now) t fuel (listed.setIfInBounds i ae) a' w->K a')->o.quiet P a (λw'=> ∃ d:aK S,w'=d.now) K)
 (hl:ops.toList.drop i=o::rest:=by rfl) (hp:jH o.op=ae:=by rfl) (hs:yB ops=ae:=by kernel_rfl) (hf:yC .any ops listed i=ae:=by kernel_rfl) (hr:(mZ .any ops listed).contains i=ae:=by kernel_rfl)
 (hw:lg o (lh ops a.tmps)=ae:=by rfl) (hit:decide (i≠t)=ae:=by rfl) (wG:Hz ops t i=ae:=by kernel_rfl) (ht:listed.getD t ag=ag:=by kernel_rfl) (hQ: ∀ c a v w,Q (.panic c) (Act.put a o.dst v) w->Q (.panic c) a w:=by intros;assumption):
 jX P ops Q (λw'=> ∃ d:aK S,w'=d.now) t (fuel+1) listed a w:=abw hl hp hs hf hr hw hit wG ht hQ hS h
theorem dw {rest:List dC} (hr:mZ .any ops listed= [i]) (hl:ops.toList.drop i=o::rest) (hw:lg o (lh ops a.tmps)=ae)
 (h: ∀ K:Act->Z->Prop,(∀ a' w',(listed.getD t ag=ae\/i=t\/(∃ d:aK S,w'=d.now))->jX P ops Q (λw'=> ∃ d:aK S,w'=d.now) t fuel (listed.setIfInBounds i ae) a' w'->K a' w')->o.wp P a w K Q):
 jX P ops Q (λw'=> ∃ d:aK S,w'=d.now) t (fuel+1) listed a w:=by
 refine⟨λh0=>absurd (hr ▸ h0) aL,λj hj=> ?_⟩;rw[hr,iJ]at hj;subst hj;unfold wpOp;rw[drop_at hl];show if lg o (lh ops a.tmps)=ae then _ else _
 rw[bB hw];exact .inl (h _ λa' w' hn hh=>⟨hn,hh⟩)
theorem abu {is:List Nat} (hr:mZ .any ops listed=is) (hne:is≠ []) (h: ∀ i∈is,∃ o,ops[i]? =N o/\lg o (lh ops a.tmps)=ae/\
 ∀ K:Act->Z->Prop,(∀ a' w',(listed.getD t ag=ae\/i=t\/(∃ d:aK S,w'=d.now))->jX P ops Q (λw'=> ∃ d:aK S,w'=d.now) t fuel (listed.setIfInBounds i ae) a' w'->K a' w')->o.wp P a w K Q):
 jX P ops Q (λw'=> ∃ d:aK S,w'=d.now) t (fuel+1) listed a w:=by
 refine⟨λh0=>absurd (hr ▸ h0) hne,λj hj=> ?_⟩;rw[hr]at hj;obtain⟨o,ho,hw,h⟩:=h j hj;unfold wpOp;rw[ho];show if lg o (lh ops a.tmps)=ae then _ else _
 rw[bB hw];exact .inl (h _ λa' w' hn hh=>⟨hn,hh⟩)
end
section
variable {P:dH} {ops:Array dC} {Q:Exit->Act->Z->Prop} {S:Z->Prop}
theorem ao2 {t i:Nat} {oi:dC} {v:aj} (hit:i≠t) (hi:ops[i]? =N oi) (hsel: ∀ (j:Nat) (o:dC) cs b,ops[j]? =N o->o.op≠ .select cs b)
 (hQ: ∀ c a w,Q (.panic c) (a.put oi.dst v) w->Q (.panic c) a w):
 ∀ (fuel:Nat) (listed:Array Bool) (a:Act) (w:Z),
  (∀ j oj,ops[j]? =N oj->j≠i->listed.getD j ae=ag->(∀ e∈oj.after,Region.binds .any e=ae->e.on≠i)->oi.apart ops oj=ae)->
  i∈mZ .any ops listed->YieldsIf P ops (λ_=>True) oi v a->(listed.getD t ag=ae\/S w)->
  jX P ops Q S t fuel (listed.setIfInBounds i ae) (a.put oi.dst v) w->jX P ops Q S t (fuel+1) listed a w:=by
 intro fuel
 induction fuel with
 |zero=>
  intro listed a w _ hr hy hS H;refine⟨λh=>(by rw[h]at hr;cases hr),λj hj=> ?_⟩
  by_cases hji:j=i
  ·subst hji;refine hy.wpOp hi trivial ⟨?_,H⟩
   rcases hS with h|h
   ·exact .inl h
   ·exact .inr (.inr h)
  ·have:=Ij hj hji;rw[H.1]at this
   cases this
 |succ fuel ih=>
  intro listed a w hfree hr hy hS H;refine⟨λh=>(by rw[h]at hr;cases hr),λj hj=> ?_⟩
  by_cases hji:j=i
  ·subst hji;refine hy.wpOp hi trivial ⟨?_,H⟩
   rcases hS with h|h
   ·exact .inl h
   ·exact .inr (.inr h)
  ·have h1:=H.2 j (Ij hj hji);obtain⟨hjun,oj,hoj,hall⟩:=mem_ready.1 hj;have hnot: ∀ e∈oj.after,Region.binds .any e=ae->e.on≠i:=λe he hb heq=>by
    have h1:=hall e he hb;have h0:=(mem_ready.1 hr).1;rw[heq]at h1
    rcases Bi i listed.size with h'|h'
    ·simp[h']at h0 h1;rw[h0]at h1;cases h1
    ·simp[P5 h']at h1
   have h2:=wpOp_putIf hoj (hfree j oj hoj hji hjun hnot) (λcs b=>hsel i oi cs b hi) (λcs b=>hsel j oj cs b hoj) hQ hy h1;have hfree': ∀ k ok,ops[k]? =N ok->k≠i->(listed.setIfInBounds j ae).getD k ae=ag->
    (∀ e∈ok.after,Region.binds .any e=ae->e.on≠i)->oi.apart ops ok=ae:=λk ok hk hki hun hno=>by
    refine hfree k ok hk hki ?_ hno
    by_cases hjk:j=k
    ·subst hjk;exact hjun
    ·rw[getD_set_ne ae hjk]at hun;exact hun
   refine wpOp_mono (λa' w' h3=> ?_) h2;have hlt:j<listed.size:=by
    rcases Bi j listed.size with h'|h'
    ·exact h'
    ·simp[P5 h']at hjun
   have hS':(listed.setIfInBounds j ae).getD t ag=ae\/S w':=by
    rcases h3.2.1 with h|h|h
    ·rw[Oj hit]at h;exact .inl (getD_set_true h)
    ·subst h;exact .inl (by simp[hlt])
    ·exact .inr h
   refine⟨?_,ih (listed.setIfInBounds j ae) a' w' hfree' (Ij hr (pK hji)) h3.1 hS' ?_⟩
   ·rcases h3.2.1 with h|h|h
    ·rw[Oj hit]at h;exact .inl h
    ·exact .inr (.inl h)
    ·exact .inr (.inr h)
   rw[Array.setIfInBounds_comm _ _ hji];exact h3.2.2
end
def AnyW:Z->Prop:=λ_=>True
instance aqs:Nonempty (aK AnyW):=⟨⟨default,trivial⟩⟩
section
variable {P:dH} {ops:Array dC} {Q:Exit->Act->Z->Prop} {t:Nat} {S:Z->Prop} {w:Z} {i fuel:Nat} {o:dC} {a:Act} {listed:Array Bool}
theorem Pm {rest:List dC} (hl:ops.toList.drop i=o::rest) (hp:jH o.op=ae) (hs:yB ops=ae) (hf:yC .any ops listed i=ae) (hr:(mZ .any ops listed).contains i=ae)
 (hw:lg o (lh ops a.tmps)=ae) (hit:decide (i≠t)=ae) (hQ: ∀ c a v w,Q (.panic c) (Act.put a o.dst v) w->Q (.panic c) a w) (hS:listed.getD t ag=ae\/S w)
 (h: ∀ K:Act->Prop,(∀ a',jX P ops Q S t fuel (listed.setIfInBounds i ae) a' w->K a')->o.quiet P a (λw'=> ∃ d:aK AnyW,w'=d.now) K):
 jX P ops Q S t (fuel+1) listed a w:=by
 obtain⟨v,h1,h2⟩:=h (λa'=>jX P ops Q S t fuel (listed.setIfInBounds i ae) a' w) (λ_ h=>h);refine ao2 (v:=v) (iY hit) (drop_at hl) (Vu hs) (λc a w h=>hQ c a _ w h) fuel listed a w (Region.free_spec (drop_at hl) hf) (by simpa using hr) (.inl ⟨hw,λw' _=> ?_⟩) hS h2;have h3:=h1 w' (aK.of (S:=AnyW) trivial);unfold Oper.quietAt at h3;generalize hx:(execOp a.eval o).run P w'=r at h3
 cases r with
 |ok n w2=>
  obtain⟨u,rfl⟩:=O7 hp hx;simp only[Oper.quietUpon]at h3;rw[h3.1,h3.2]
 |halt x w2=>simp only[Oper.quietUpon]at h3
end
section
open Go.RowKit Go.WideElems
open Go.Maps (Keyed)
open Go.WideMaps (KeyLaw)
open Go.ChangeMaps (setBlock heap_setBlock_same heap_setBlock_other)
section
variable {P:dH} {k e t:TypeId} {w:Z} {b n:Nat} {f g:aj->Int}
end
end
section
open Go.RowKit Go.WideElems
open Go.Maps (Keyed)
def XP (P:dH) (k e:TypeId) (w:Z) (b n:Nat) (S:List Int) (f:Int->Int):Prop:=
 ∃ D:DataW Unit,w.ownsMap P k (plainElem P e) b n D/\Maps.IsMap D/\(∀ c,D.atKey (.int .i64 c) (.lit (.int .i64 0))= .lit (.int .i64 (f c)))/\ ∀ c,Maps.has D (.int .i64 c)=decide (c∈S)
section
variable {P:dH} {k e t:TypeId} {w w':Z} {b n:Nat} {S:List Int} {f g:Int->Int}
theorem XP.keys {D:DataW Unit} (h:w.ownsMap P k (plainElem P e) b n D) (hk:P.underlying k=N (.int .i64)) (hh: ∀ x:Int,Maps.has D (.int .i64 x)=decide (x∈S)) {ss:List Int} (hp:ss.Perm (intKeys D)):ss.Nodup/\ ∀ x,x∈ss↔x∈S:=by
 obtain⟨es,hD,hpw,_⟩:=h.entries (Fz hk);obtain⟨es',hD',hko⟩:=h.keysOf;obtain rfl:es=es':=by rw[hD]at hD';simpa using hD'
 subst hD;have hs: ∀ p∈es,∃ x,p.1= .int .i64 x:=λp hp=>by obtain⟨v,hv⟩:=hko p hp;obtain⟨x,_,hx,_⟩:=Maps.keyOf_i64 hk hv;exact⟨x,hx⟩
 constructor
 ·refine hp.nodup_iff.2 ?_;show (es.map λp=>Go.intOf p.1).Nodup;refine List.pairwise_map.2 (hpw.imp_of_mem λ{p q} hp' hq' hne e=>hne ?_);obtain⟨a,ha⟩:=hs p hp';obtain⟨b,hb⟩:=hs q hq';rw[ha,hb]at e |-;exact congrArg _ e
 ·intro x;rw[hp.mem_iff];have h1:=hh x;rw[Maps.has_eq]at h1;have h2:(es.any λp=>p.1.sameKey (.int .i64 x))=ae↔x∈S:=by rw[h1];simp
  rw[<- h2,vG];show x∈es.map (λp=>Go.intOf p.1)↔_;rw[iW]
  constructor
  ·rintro⟨p,hp',rfl⟩;obtain⟨a,ha⟩:=hs p hp';exact⟨p,hp',by rw[ha];simp[Lit.sameKey,Go.intOf]⟩
  ·rintro⟨p,hp',hs'⟩;obtain⟨a,ha⟩:=hs p hp';rw[ha]at hs';exact⟨p,hp',by rw[ha];simpa [Lit.sameKey,Go.intOf] using hs'⟩
end
end
section
open Go.RowKit Go.WideElems
open Go.Maps (Keyed)
def gZ (P:dH) (k e:TypeId) (w:Z) (b n:Nat) (f:Int->Option Int):Prop:=
 ∃ D:DataW Unit,w.ownsMap P k (plainElem P e) b n D/\Maps.IsMap D/\(∀ c,D.atKey (.int .i64 c) (.lit (.int .i64 0))= .lit (.int .i64 ((f c).getD 0)))/\ ∀ c,Maps.has D (.int .i64 c)=(f c).isSome
section
variable {P:dH} {k e t:TypeId} {w w':Z} {b n:Nat} {f g:Int->Option Int}
theorem gZ.made (w:Z):gZ P k e (w.alloc (.map #[] 0)) w.heap.size 0 (λ_=>J):=⟨.map [],H8 _ _ _ _,H9,λ_=>by simp[DataW.atKey],λ_=>by simp[Maps.has_eq]⟩
theorem gZ.kept {row:Option Nat} (h:gZ P k e w b n f) (hg:w.grownBy w' row) (hne:N b≠row):gZ P k e w' b n f:=by obtain⟨D,h,r⟩:=h;exact⟨D,h.kept hg hne,r⟩
theorem gZ.step (h:gZ P k e w b n f) (hb:Below w.heap.size w w'):gZ P k e w' b n f:=h.kept (sF hb J) aL
theorem gZ.alloc (h:gZ P k e w b n f) (o:Obj):gZ P k e (w.alloc o) b n f:=h.kept (zB w o J) aL
theorem gZ.isMap (h:gZ P k e w b n f): ∃ es cl,w.heap[b]? =N (.map es cl):=by
 obtain⟨D,⟨es,cl,hb,_⟩,_⟩:=h;exact⟨es,cl,hb⟩
theorem gZ.congr (h:gZ P k e w b n f) (hf: ∀ c,f c=g c):gZ P k e w b n g:=by
 obtain rfl:f=g:=funext hf;exact h
theorem gZ.more (h:gZ P k e w b n f) {m:Nat} (hm:n<=m):gZ P k e w b m f:=by
 obtain⟨D,⟨es,cl,h1,h2,h3,h4⟩,r⟩:=h;exact⟨D,⟨es,cl,h1,h2,iT h3 hm,h4⟩,r⟩
theorem gZ.lI {q:Nat} {E:TypeId} {cs:Array aj} (h:gZ P k e w b n f) (hr:au w q E cs):b≠q:=by
 obtain⟨es,cl,hb⟩:=h.isMap;rintro rfl;unfold au at hr;rw[hb]at hr;simp at hr
theorem gZ.look (h:gZ P k e w b n f) (hk:P.underlying k=N (.int .i64)) (he:P.underlying e=N (.int .i64)) (ht:P.underlying t=N (.map k e)) (hz:(zeroValue e).run P w= .ok (.int .i64 0) w) {c:Int} (hc:(jQ .i64 c).wf=ae):
 (Instr.lookup t (.map (N b)) (G F c) ae).run P w= .ok (bG #[G F ((f c).getD 0),aA (f c).isSome]) w:=by
 obtain⟨D,h,_,hD,hh⟩:=h;obtain⟨v,ps,hrun,hv⟩:=h.look_ok (Fz hk) ht hz (plainElem_int he aJ) (Ia hk hc);obtain⟨x,rfl,e2,_⟩:=plainElem_int_inv he hv;rw[hD c]at e2;injection e2 with e2 _
 injection e2 with e2
 injection e2 with _ e2
 rw[hrun,hh c,e2]
theorem gZ.put (h:gZ P k e w b n f) (hk:P.underlying k=N (.int .i64)) (he:P.underlying e=N (.int .i64)) (ht:P.underlying t=N (.map k e)) (hn:n<bK) {c y:Int} (hc:(jQ .i64 c).wf=ae) (hy:(jQ .i64 y).wf=ae)
 (hg:g c=N y) (hgo: ∀ d,d≠c->g d=f d): ∃ w2,(Instr.mapUpdate t (.map (N b)) (G F c) (G F y)).run P w= .ok () w2/\gZ P k e w2 b (n+1) g/\w.grownBy w2 (N b):=by
 obtain⟨D,h1,hM,hD,hh⟩:=h;obtain⟨w2,r1,r2,r3⟩:=h1.update (Fz hk) ht hn (Ia hk hc) (plainElem_int he hy);refine⟨w2,r1,⟨_,r2,hM.put _ _,λd=> ?_,λd=> ?_⟩,r3⟩
 ·by_cases hd:d=c
  ·subst hd;rw[Ma hM (show WideAt.IsKeyLit (.int .i64 d) from trivial),hg]
   rfl
  ·rw[Mc (int_ne hd),hD d,hgo d hd]
 ·by_cases hd:d=c
  ·subst hd;rw[P9 hM (show WideAt.IsKeyLit (.int .i64 d) from trivial),hg]
   rfl
  ·rw[Qa (int_ne hd),hh d,hgo d hd]
theorem gZ.De {base:Nat} {E:TypeId} {sz:Nat} {v:aj} {m:Nat} {xs:List aj} (h:gZ P k e w b n f) (hr:w.ownsRow base E sz v m xs):N b≠v.ownBlock:=by
 obtain⟨D,h,_⟩:=h;exact aaH h hr
end
end
section
variable {P:dH} {ops:Array dC} {Q:Exit->Act->Z->Prop} {t:Nat} {S:Z->Prop} {w:Z} {fuel:Nat} {o:dC} {a:Act} {listed:Array Bool}
theorem aab {n m:Nat} {rest:List dC} (hT:Tg n) (hS:(∃ d:aK S,w=d.now))
 (h:Tg m-> ∀ K:Act->Prop,(∀ a',jX P ops Q (λw'=> ∃ d:aK S,w'=d.now) t fuel (listed.setIfInBounds n ae) a' w->K a')->o.quiet P a (λw'=> ∃ d:aK S,w'=d.now) K)
 (hm:n+1=m:=by simp only[Nat.reduceAdd];rfl) (hl:ops.toList.drop n=o::rest:=by rfl) (hp:jH o.op=ae:=by rfl) (hs:yB ops=ae:=by kernel_rfl) (hf:yC .any ops listed n=ae:=by kernel_rfl) (hr:(mZ .any ops listed).contains n=ae:=by kernel_rfl)
 (hw:lg o (lh ops a.tmps)=ae:=by rfl) (hit:decide (n≠t)=ae:=by rfl) (wG:Hz ops t n=ae:=by kernel_rfl) (ht:listed.getD t ag=ag:=by kernel_rfl) (hQ: ∀ c a v w,Q (.panic c) (Act.put a o.dst v) w->Q (.panic c) a w:=by intros;assumption):
 jX P ops Q (λw'=> ∃ d:aK S,w'=d.now) t (fuel+1) listed a w:=abw (i:=n) hl hp hs hf hr hw hit wG ht hQ hS (h trivial)
end
end Go.Proofs.YtbedbfdhfokifaaGreat
