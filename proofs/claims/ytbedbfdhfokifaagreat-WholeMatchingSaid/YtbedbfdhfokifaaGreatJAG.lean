/- Part of the proof of WholeMatching. -/
import Derived.Test.YtbedbfdhfokifaaGreatJAA
import Derived.ProofKit
import Derived.OpenShut
import Derived.ChangeSame
namespace Go.Proofs.YtbedbfdhfokifaaGreat
set_option maxRecDepth 100000
set_option maxHeartbeats 16000000
set_option linter.unusedVariables false
set_option linter.unusedSimpArgs false
open _root_.Bool renaming true->ae,false->ag
open Go renaming World->Z,Calls->aF,Value->aj,Program->dH
open Go.DataW renaming TrodAll->wY
open Go.IntKind renaming i64->F
open Go.Value renaming bool->aA
open _root_.List renaming range->kJ
open _root_.Option renaming none->J,some->N
open Go.RowKit
namespace Ch
theorem anM (l:List Acc) (g:Bool) (k:Nat) (hk:k<l.length) (h:uV l g k=ag):ql l g=ag:=by
 unfold ql;have:(kJ l.length).all (uV l g)=ag:=by
  rw[PR];exact⟨k,by simpa using hk,by simp[h]⟩
 rw[this];simp
theorem abS (l:List Acc) (g:Bool) (hl:l.length<=200) (h: ∀ j,j<l.length->uV l g j=ae):ql l g=ae:=by
 unfold ql;have:(kJ l.length).all (uV l g)=ae:=by
  rw[ng];intro j hj;exact h j (by simpa using hj)
 rw[this];simp[hl]
theorem anL (l:List Acc) (g:Bool) (hl: ¬ l.length<=200):ql l g=ag:=by unfold ql;simp[hl]
theorem UY {l:List Acc} {g:Bool} {k:Nat} (hk:k<l.length) (hP:yo l l[k] g=ae) (ho:k=0\/(l[k - 1]'O).code<l[k].code) (hL:(sP l l[k].code).length<=l.length):uV l g k=ae:=by
 unfold uV;rw[getD_at l k hk,getD_at l (k - 1) O,hP]
 rcases ho with h|h<;>simp[h]<;>(try subst h)<;>omega
theorem Pp {l:List Acc} {g:Bool} {k:Nat} (hk:k<l.length) (h:yo l l[k] g=ag\/(0<k/\l[k].code<=(l[k - 1]'O).code)\/l.length<(sP l l[k].code).length):ql l g=ag:=by
 refine anM l g k hk ?_;unfold uV;rw[getD_at l k hk,getD_at l (k - 1) O]
 rcases h with h|h|h
 ·simp[h]
 ·have h0:(k==0)=ag:=bL;have h1:decide ((l[k - 1]'O).code<l[k].code)=ag:=bL;rw[h0,h1];simp
 ·have h1:decide ((sP l l[k].code).length<=l.length)=ag:=bL;rw[h1];simp
theorem alr (k:Nat) (x y:Int):(decide (0<k)=ag/\k=0)\/(decide (0<k)=ae/\decide (y<=x)=ag/\x<y)\/(decide (0<k)=ae/\decide (y<=x)=ae/\0<k/\y<=x):=by
 by_cases h0:0<k
 ·by_cases h1:y<=x
  ·exact .inr (.inr ⟨by simp[h0],by simp[h1],h0,h1⟩)
  ·exact .inr (.inl ⟨by simp[h0],by simpa using h1,O⟩)
 ·exact .inl ⟨by simpa using h0,O⟩
theorem Vp (k:Nat) (h:0<k) (h2:k<=1000000):F.wrap ((k:Int) - 1)=((k - 1:Nat):Int):=by rw[iL _ O];omega
theorem anD (l:List Acc) (S:List Int) (h: ∀ x∈S,∃ a,find l x=N a/\a.parent∈S) (n:Nat) (s:List Int) (c:Int) (hc:c∈S):(ru l n s c).length=s.length+n:=by
 induction n generalizing s c with
 |zero=>rfl
 |succ n ih=>
  obtain⟨a,ha,hp⟩:=h c hc;rw[UZ l n s c a ha,ih _ _ hp];simp;omega
def Dq (l:List Acc) (s:List Int):Int:=(bU l (s.getLast?.getD 0)).parent
theorem afg (l:List Acc) (hcl: ∀ a∈l,a.parent=0\/ ∃ p,find l a.parent=N p) (h0:find l 0=J) (n:Nat) (s:List Int) (c:Int) (hw:way l s) (hn:n+s.length=l.length+1)
 (hs: ∀ x∈s,∃ a,find l x=N a/\(a.parent∈s\/a.parent=c)) (hl:s≠ []-> ∃ x a,s.getLast? =N x/\find l x=N a/\a.parent=c):
 (Dq l (up l n s c)=0/\ru l n s c=up l n s c/\(up l n s c).length<=l.length)\/(Dq l (up l n s c)≠0/\(ru l n s c).length=l.length+1):=by
 induction n generalizing s c with
 |zero=>have:=LU hw;omega
 |succ n ih=>
  cases hf:find l c with
  |none=>
   left
   rw[PI l n s c hf,abO l _ s c hf];refine⟨?_,rfl,LU hw⟩
   by_cases hs0:s= []
   ·subst hs0;unfold Dq bU;simp[h0,zero]
   ·obtain⟨x,a,hx,ha,hp⟩:=hl hs0;unfold Dq bU;rw[hx];simp only[rz,ha];obtain⟨hm,_⟩:=GA l x a ha
    rcases hcl a hm with h|⟨p,h⟩
    ·exact h
    ·rw[hp,hf]at h;cases h
  |some a=>
   by_cases hc:c∈s
   ·right
    rw[Vh l n s c hc];have hs0:s≠ []:=by rintro rfl;simp at hc
    obtain⟨x,b,hx,hb,hp⟩:=hl hs0
    constructor
    ·unfold Dq bU;rw[hx];simp only[rz,hb,hp];rintro rfl;rw[h0]at hf
     cases hf
    ·rw[anD l s (λy hy=>by
      obtain⟨z,hz,h⟩:=hs y hy
      rcases h with h|h
      ·exact⟨z,hz,h⟩
      ·exact⟨z,hz,by rw[h];exact hc⟩) _ _ _ hc]
     omega
   ·rw[LP l n s c a hf hc,UZ l n s c a hf];refine ih _ _ (Vm hw hf hc) bL (λx hx=> ?_) (λ_=>⟨c,a,aL,hf,rfl⟩)
    rcases il.1 hx with hx|hx
    ·obtain⟨z,hz,h⟩:=hs x hx
     rcases h with h|h
     ·exact⟨z,hz,.inl (by simp[h])⟩
     ·exact⟨z,hz,.inl (by simp[h])⟩
    ·simp only[iJ]at hx;subst hx;exact⟨a,hf,.inr rfl⟩
theorem agL (l:List Acc) (a:Acc) (h:a∈l): ∃ b,find l a.code=N b:=by
 cases hf:find l a.code with
 |some b=>exact⟨b,rfl⟩
 |none=>
  unfold find at hf;rw[Ii]at hf;exact absurd aL (hf a h)
def base (l:List Acc) (g:Bool):Prop:= ∀ j (h:j<l.length),yo l l[j] g=ae/\(j=0\/(l[j - 1]'O).code<l[j].code)
theorem XX {l:List Acc} {g:Bool} (h:base l g): ∀ i j (hj:j<l.length) (hij:i<j),(l[i]'O).code<l[j].code:=by
 intro i j
 induction j with
 |zero=>intro _ h;omega
 |succ j ih=>
  intro hj hij;have h1:=(h (j+1) hj).2;simp at h1
  by_cases e:i=j
  ·subst e;exact h1
  ·have:=ih O O;omega
theorem aeH {l:List Acc} {g:Bool} (h:base l g) {a b:Acc} (ha:a∈l) (hb:b∈l) (hc:a.code=b.code):a=b:=by
 obtain⟨i,hi,rfl⟩:=iK.1 ha;obtain⟨j,hj,rfl⟩:=iK.1 hb
 rcases Nat.lt_trichotomy i j with e|e|e
 ·have:=XX h i j hj e;omega
 ·subst e;rfl
 ·have:=XX h j i hi e;omega
theorem XY {l:List Acc} {g:Bool} (h:base l g) {a:Acc} (ha:a∈l):find l a.code=N a:=by
 obtain⟨b,hb⟩:=agL l a ha;obtain⟨h1,h2⟩:=GA l _ b hb;rw[hb,aeH h h1 ha h2]
theorem agI {a:Acc} {g:Bool} (h:wC a g=ae):1<=a.code:=by
 unfold wC at h;simp at h;omega
theorem XZ {l:List Acc} {g:Bool} (h:base l g):find l 0=J:=by
 refine Oe l 0 λj hj=> ?_
 have:=(h j hj).1;unfold yo at this;simp only[bR]at this;have:=agI this.1;omega
theorem aeF {l:List Acc} {g:Bool} (h:base l g): ∀ a∈l,a.parent=0\/ ∃ p,find l a.parent=N p:=by
 intro a ha;obtain⟨j,hj,rfl⟩:=iK.1 ha;have:=(h j hj).1;unfold yo at this;simp only[bR,ou,vD]at this
 rcases this.2 with e|e
 ·exact .inl e
 ·refine .inr ?_;unfold uu at e
  cases hf:find l l[j].parent with
  |none=>rw[hf]at e;cases e
  |some p=>exact⟨p,rfl⟩
theorem aeI {l:List Acc} {g:Bool} (h:base l g) (c:Int):
 (Dq l (iQ l c)=0/\sP l c=iQ l c/\(iQ l c).length<=l.length)\/(Dq l (iQ l c)≠0/\(sP l c).length=l.length+1):=
 afg l (aeF h) (XZ h) _ [] c (Vl l) aL aL aL
theorem rest_of {l:List Acc} {a:Acc}:sQ l a=(uu l a&&top l a.code==0):=by
 unfold sQ uu
 cases find l a.parent<;>simp
theorem aeG {l:List Acc} {g:Bool} (h:base l g) {a:Acc} (ha:a∈l) (hp:a.parent=0):iQ l a.code= [a.code]:=by
 unfold iQ;rw[LP l l.length [] a.code a (XY h ha) aL,hp]
 cases hl:l.length with
 |zero=>rfl
 |succ n=>rw[PI l n _ 0 (XZ h)];rfl
theorem aeJ {l:List Acc} {g:Bool} (h:base l g) {a:Acc} (ha:a∈l) (hp:a.parent=0):top l a.code=0:=by
 unfold top bU;rw[aeG h ha hp];simp[XY h ha,hp]
theorem acf {l:List Acc} {g:Bool} (h:base l g) (c:Int):top l c=0↔(sP l c).length<=l.length:=by
 have:=aeI h c;unfold Dq at this;unfold top
 rcases this with ⟨h1,h2,h3⟩|⟨h1,h2⟩
 ·rw[h2];exact⟨λ_=>h3,λ_=>h1⟩
 ·rw[h2];exact⟨λh=>absurd h h1,λh=>O⟩
theorem aoT {l:List Acc} {g:Bool} (h:mG l g=ae):base l g/\l.length<=200:=by
 unfold mG at h;simp only[bR,ng,zD,dm]at h;refine⟨λj hj=> ?_,h.2⟩;have:=h.1 j hj;unfold lN Dh at this;rw[getD_at l j hj,getD_at l (j - 1) O]at this;simp only[bR,ou,vD,dm]at this;refine⟨?_,this.1⟩;unfold yo;rw[this.2.1]
 rcases this.2.2 with e|e
 ·simp[e]
 ·rw[rest_of]at e;simp only[bR]at e;simp[e.1]
theorem anK {l:List Acc} {g:Bool} (h:ql l g=ae):base l g/\l.length<=200/\ ∀ a∈l,(sP l a.code).length<=l.length:=by
 unfold ql at h;simp only[bR,ng,zD,dm]at h;refine⟨λj hj=> ?_,h.1,λa ha=> ?_⟩
 ·have:=h.2 j hj;unfold uV at this;rw[getD_at l j hj,getD_at l (j - 1) O]at this;simp only[bR,ou,vD,dm]at this;exact⟨this.1.1,this.1.2⟩
 ·obtain⟨j,hj,rfl⟩:=iK.1 ha;have:=h.2 j hj;unfold uV at this;rw[getD_at l j hj]at this;simp only[bR,dm]at this;exact this.2
theorem valid_eq (l:List Acc) (g:Bool):mG l g=ql l g:=by
 rw[qm]
 constructor
 ·intro h;obtain⟨hb,EG⟩:=aoT h;refine abS l g EG λj hj=>UY hj (hb j hj).1 (hb j hj).2 ?_
  rw[<- acf hb]
  by_cases hp:l[j].parent=0
  ·exact aeJ hb (bP hj) hp
  ·unfold mG at h;simp only[bR,ng,zD]at h;have:=h.1 j hj;unfold lN Dh at this;rw[getD_at l j hj]at this;simp only[bR,ou,vD]at this
   rcases this.2.2 with e|e
   ·exact absurd e hp
   ·rw[rest_of]at e;simp only[bR,vD]at e;exact e.2
 ·intro h;obtain⟨hb,EG,hL⟩:=anK h;have: ∀ j,j<l.length->lN l g j=ae:=λj hj=>by
   unfold lN Dh;rw[getD_at l j hj,getD_at l (j - 1) O];obtain⟨h1,h2⟩:=hb j hj;have h3:=(acf hb l[j].code).2 (hL _ (bP hj));unfold yo at h1;rw[rest_of,h3];simp only[bR,ou,vD,dm]at h1 |-;exact⟨h2,h1.1,h1.2.imp id (λh=>⟨h,trivial⟩)⟩
  rw[aci l g this]
  simpa using EG
end Ch
section
open Go.RowKit Go.WideShapes Go.ChangeShapes
section
variable {H:Type} {enc:TypeId×aj->H} {P:dH}
theorem alZ {f:Func} {s:ChangeSpec} {apart fresh handsOn again:Bool} {W W':Z} {args:Array aj} {v:aj} {ds gs:List (DataW H)} {before pa pv:List MemPlace}
 (hW:DataW.Whole enc P f.params.toList s.vars apart W args.toList ds gs before)
 (hres: ∀ (b:Nat) (sp:Nat->Bool) (hd:Bool),wY enc P W' b sp hd f.resultTypes.toList (v.resultList f.resultTypes.size) (s.fn H (ds++gs)).results [])
 (hargs: ∀ sp:Nat->Bool,(∀ p∈before,sp p.block=ae)->wY enc P W' 0 sp ae f.params.toList args.toList (s.fn H (ds++gs)).args pa)
 (hvars: ∀ sp:Nat->Bool,(∀ p∈before,sp p.block=ae)->DataW.TrodVars enc P W' sp s.vars (s.fn H (ds++gs)).vars pv)
 (hps:before=pa++pv) (hb:Below W.heap.size W W')
 (hok: ∀ (j:Nat) (t:TypeId) (r:aj),f.resultTypes[j]? =N t->(v.resultList f.resultTypes.size)[j]? =N r->Value.okWide P W' .any 0 t r):
 s.post enc P f apart fresh handsOn again W args v W':=by
 have hlt: ∀ p∈before,p.block<W.heap.size:=λp hp=>hW.lt p hp
 have hold: ∀ p∈before,(λb=>decide (b<W.heap.size)) p.block=ae:=λp hp=>by simpa using hlt p hp
 refine⟨ds,gs,before,[],pa,pv,hW,hres _ _ _,hargs _ hold,hvars _ hold,World.keptBut_mono (λp hp=>⟨hp,?_⟩) (hb.frame (· ∈before)),λ_=> ?_⟩
 ·rw[hps,il]at hp;exact Or.inr hp
 ·obtain⟨_,_,_,_,_,hz,hn⟩:=hW;refine⟨hok,_,_,([]++pa)++pv,⟨[]++pa,pv,trodAll_append (hargs _ (λ_ _=>rfl)) (hres _ _ _),hvars _ (λ_ _=>rfl),rfl,?_,?_⟩,?_⟩
  ·intro b off hp;have hin:MemPlace.cell b off∈before:=by rw[hps];simpa using hp
   rw[hb.frozen (hlt _ hin)];exact hz b off hin
  ·intro ha;have:=hn ha;rw[hps]at this
   simpa using this
  ·intro p hp _;rw[hps]
   simpa using hp
theorem aoO {W W':Z} {sp:Nat->Bool} (hl:laidOutB P=ae):
 ∀ (ts:List TypeId) (vs:List aj) (ds:List (DataW H)) (ps:List MemPlace),(ts.all λt=>P.readableRec t&&decide (t<P.types.size))=ae->
  wY enc P W 0 (λ_=>ae) ae ts vs ds ps->(∀ x∈ps,W.sameAt W' x)->(∀ x∈ps,sp x.block=ae)->wY enc P W' 0 sp ae ts vs ds ps:=by
 intro ts
 induction ts with
 |nil=>
  intro vs ds ps _ h _ _
  cases vs<;>cases ds<;>simp_all [wY]
 |cons t ts ih=>
  intro vs ds ps hr h hs hp
  cases vs with
  |nil=>simp[wY]at h
  |cons v vs=>
   cases ds with
   |nil=>simp[wY]at h
   |cons d ds=>
    obtain⟨p,q,h1,h2,rfl⟩:=h;simp only[List.all_cons,bR,dm]at hr;refine⟨p,q,WideElems.Trod_stays hl hr.1.1 hr.1.2 h1 (λx hx=>hs x (by simp[hx])) (λx hx=>hp x (by simp[hx])),?_,rfl⟩;exact ih vs ds q (by rw[ng];intro t ht;have:=ng.1 hr.2 t ht;simpa using this) h2 (λx hx=>hs x (by simp[hx])) (λx hx=>hp x (by simp[hx]))
theorem ajS {a:Assume} {C:Checked} {os:Os} {f:FuncId} {fn:Func} {s:ChangeSpec} {apart fresh handsOn again:Bool} {ts:List TypeId} {tb:TypeId}
 (own:ownKnob C.prog.godebug=J) (started:os.Started) (noInit:C.prog.inits.idxOf? f=J) (hfn:C.prog.funcs[f]? =N fn)
 (witness: ∃ (w:Z) (tape:Tape) (i:Input),w.os=os/\(w.forCall tape i).Shaped C.prog/\i.vars= []/\Input.okWide C.prog (w.forCall tape i) .any w.heap.size f i/\
  s.pre6 enc C.prog fn [] apart (w.forCall tape i).memory i.args/\a.holds C.prog (lone (Frame.enter C.prog f i.args .normal) [] (w.forCall tape i)))
 (hl:laidOutB C.prog=ae) (hp:fn.params.toList=ts) (hts:(ts.all λt=>C.prog.readableRec t&&decide (t<C.prog.types.size))=ae)
 (hr:fn.resultTypes= #[tb]) (hb:C.prog.underlying tb=N .bool) (hvars:s.vars= [])
 (hspec: ∀ ds:List (DataW H),ds.length=ts.length->s.fn H ds= { results:= [.lit (.bool ae)],args:=ds })
 (walk: ∀ (W:Z) (base:Nat) (args:Array aj) (ds:List (DataW H)) (p:List MemPlace),
  (∀ (j:Nat) t v,ts[j]? =N t->args[j]? =N v->Value.okWide C.prog W .any base t v)->
  wY enc C.prog W 0 (λ_=>ae) ae ts args.toList ds p->
  aF C.prog f args W λe W'=>e= .returned (aA ae)/\Below W.heap.size W W'):
 ReturnsInHanded a C os f .any (s.pre6 enc C.prog fn [] apart) (s.post enc C.prog fn apart fresh handsOn again):=by
 refine returnsInHanded_of_change own started noInit hfn witness ?_;intro W base args ds gs before hval hW _ _;have hW':=hW;obtain⟨p,q,hA,hV,rfl,hfz,hnd⟩:=hW;rw[hp]at hA;rw[hvars]at hV;obtain⟨rfl,rfl⟩:gs= []/\q= []:=by
  cases gs with
  |nil=>exact⟨rfl,by simpa [DataW.TrodVars] using hV⟩
  |cons g gs=>simp[DataW.TrodVars]at hV
 have hlen: ∀ (ts:List TypeId) (vs:List aj) (ds:List (DataW H)) (ps:List MemPlace),wY enc C.prog W 0 (λ_=>ae) ae ts vs ds ps->ds.length=ts.length:=by
  intro ts
  induction ts with
  |nil=>intro vs ds ps h;cases vs<;>cases ds<;>simp_all [wY]
  |cons t ts ih=>
   intro vs ds ps h
   cases vs with
   |nil=>simp[wY]at h
   |cons v vs=>
    cases ds with
    |nil=>simp[wY]at h
    |cons d ds=>obtain⟨_,_,_,h2,_⟩:=h;simp[ih _ _ _ h2]
 have hs:=hspec ds (hlen _ _ _ _ hA);refine(walk W base args ds p (λj t v ht hv=>hval j t v (by rw[<- ht,<- hp];simp) hv) hA).mono λe W' ⟨he,hbel⟩=> ?_
 refine⟨_,he,?_⟩;have hlt: ∀ x∈p,x.block<W.heap.size:=λx hx=>hW'.lt x (by simpa using hx)
 refine alZ (pa:=p) (pv:= []) hW' ?_ ?_ ?_ rfl hbel ?_
 ·intro b sp hd;rw[hr];simp only[FU];rw[hs];exact trodAll_cons_mk (shut_bool hb _) trodAll_mk0
 ·intro sp hsp;simp only[FU];rw[hs,hp];exact aoO hl ts _ _ _ hts hA (λx hx=>hbel.same (hlt x hx)) (λx hx=>hsp x (by simpa using hx))
 ·intro sp _;rw[hvars];simp only[FU];rw[hs];exact rfl
 ·exact ok_one hr rfl (okWide_bool_mk hb _)
end
end
end Go.Proofs.YtbedbfdhfokifaaGreat
