/- Part of the proof of WholeMatching. -/
import Derived.Test.YtbedbfdhfokifaaGreatJAA
import Derived.Test.YtbedbfdhfokifaaGreatJAB
import Derived.OrdersHeld
import Derived.Deep.Slices
import Derived.Deep.Fields
import Derived.ChangeSame
import Derived.OpenShut
import Derived.Laws.IdiomArrays
import Derived.Lib.SmallJoins
import Derived.Sort.KeysCollected
import Derived.StringKeys
import Derived.BigFrame
import Derived.Laws.Rows
import Derived.Laws.Tables
import Derived.Maps.RangeWalk
import Derived.Deep.MidRow
import Derived.Sort.OwnSortedInts
import Derived.Shelf.SlSortCmp.KitK
import Derived.Sort.WalkB2
import Derived.Sort.WalkB12
import Derived.Sort.Lot0
import Derived.Deep.LoopGhost
import Derived.Deep.OwnRows
import Derived.Laws.StructEq
namespace Go.Proofs.YtbedbfdhfokifaaGreat
set_option maxRecDepth 100000
set_option maxHeartbeats 16000000
set_option linter.unusedVariables false
set_option linter.unusedSimpArgs false
open _root_.Array renaming replicate->kZ
open _root_.Bool renaming true->ae,false->ag
open Go renaming World->Z,Calls->aF,Addr->aG,Aside->aU,undef->aV,sizeOf->aaR,Value->aj,maxLen->bK,Oper->dC,Program->dH,Ending->eG,Operand->lU,yielded->lh
open Go.Ending renaming returned->bM
open Go.IntKind renaming i64->F
open Go.Lit renaming int->jQ
open Go.Obj renaming cells->U
open Go.Proofs.Tryz renaming prog->ak
open Go.Region renaming wanted->lg,ready->mZ,noSelect->yB,free->yC
open Go.Value renaming int->G,slice->T,bool->aA,pointer->aN,string->av,agg->az,tuple->bG,ownBlock->yz
open _root_.List renaming range->kJ
open _root_.Option renaming none->J,some->N
open Go.RowKit
def jH:Op->Bool
 | .move _| .assign _| .pick _ _ _| .nilCheck _| .load _ _| .fieldAddr _ _ _| .field _ _ _| .indexAddr _ _ _| .index _ _ _| .lookup _ _ _ _| .binOp _ _ _ _ _| .unOp _ _ _| .convert _ _ _| .extract _ _| .build _ _=>ae
 | .call c=>match c.callee with
  | .builtin .len=>ae
  |_=>ag
 |_=>ag
theorem then_ok {α β:Type} {r:Result α} {f:α->Z->Result β} {b:β} {w':Z} (h:r.andThen f= .ok b w'): ∃ a w1,r= .ok a w1/\f a w1= .ok b w':=by
 cases r with
 |ok a w1=>exact⟨a,w1,rfl,h⟩
 |halt x w1=>cases h
theorem abd {P:dH} {s:Sem aj} {w w':Z} {n:Next} (h:(do let x <- s;pure (Next.value x):Sem Next).run P w= .ok n w'): ∃ v,n= .value v:=by
 rw[yA]at h;obtain⟨a,w1,_,h2⟩:=then_ok h;simp at h2;exact⟨a,h2.1.symm⟩
theorem akI {P:dH} {ρ:lU->aj} {o:dC} {w w':Z} {n:Next} {x:lU} (ho:o.op= .nilCheck x) (hr:(execOp ρ o).run P w= .ok n w'): ∃ v,n= .value v:=by
 unfold execOp at hr;simp only[ho]at hr
 split at hr
 ·simp[runtimePanic]at hr
 ·simp[runtimePanic]at hr
 ·simp[runtimePanic]at hr
 ·split at hr
  ·simp[runtimePanic]at hr
  ·rw[yA]at hr;obtain⟨a,w1,_,h2⟩:=then_ok hr;rw[yA]at h2;obtain⟨a2,w2,_,h3⟩:=then_ok h2
   split at h3
   ·rw[yA]at h3;obtain⟨a3,w3,h4,_⟩:=then_ok h3;simp[unsupported]at h4
   ·simp at h3;exact⟨_,h3.1.symm⟩
  ·simp at hr;exact⟨_,hr.1.symm⟩
 ·simp at hr;exact⟨_,hr.1.symm⟩
theorem O7 {P:dH} {ρ:lU->aj} {o:dC} {w w':Z} {n:Next} (h:jH o.op=ae) (hr:(execOp ρ o).run P w= .ok n w'): ∃ v,n= .value v:=by
 by_cases hnil: ∃ x,o.op= .nilCheck x
 ·exact akI hnil.choose_spec hr
 unfold execOp at hr
 cases ho:o.op<;>rw[ho]at h<;>first|(cases h;done)|(refine(hnil ?_).elim;exact Exists.intro _ ho)|skip
 all_goals simp only[ho]at hr
 all_goals first
  |exact abd hr
  |(rw[yA]at hr;obtain⟨x,w1,_,h2⟩:=then_ok hr;simp at h2;exact⟨_,h2.1.symm⟩)
  |(simp at hr;exact⟨_,hr.1.symm⟩)
  |skip
 rename_i c;simp only[jH]at h
 split at h
 ·rename_i hc;unfold resolve at hr;simp only[hc]at hr;rw[yA]at hr;obtain⟨a,w1,h1,h2⟩:=then_ok hr;simp at h1;obtain⟨rfl,rfl⟩:=h1;simp only[invoke,builtin]at h2;exact abd h2
 ·cases h
def gH (W w:Z):Prop:= ∃ d:Later W,w=d.now
theorem gH.of {W w:Z} (h:Below W.heap.size W w):gH W w:=⟨⟨w,h⟩,rfl⟩
theorem gH.below {W w:Z} (h:gH W w):Below W.heap.size W w:=by obtain⟨d,rfl⟩:=h;exact d.below
theorem gH.drew (W:Z):gH W W.drew:=gH.of (aD _ _).drew
theorem gH.on {W w w':Z} (h:gH W w) (hb:Below w.heap.size w w'):gH W w':=gH.of (ay h.below hb)
section
variable {P:dH} {ops:Array dC} {Q:Exit->Act->Z->Prop} {W w:Z} {i fuel:Nat} {o:dC} {a:Act} {listed:Array Bool}
theorem AZ {id n:Nat} {l:List dC} (W:Z) (hm:P.follows .mixedOrders=ae) (hn:l.length=n)
 (h:wpAnyH P .any l.toArray Q (λw'=> ∃ d:Later W,w'=d.now) n (kZ n ag) a w.drew):(Code.region id l.toArray ae).wp P Q a w:=by
 subst hn;exact wp_region_held hm (by simpa using h)
theorem drop_at {rest:List dC} (h:ops.toList.drop i=o::rest):ops[i]? =N o:=by
 rw[<- q9,<- Ib i,<- List.getElem?_drop,h]
 rfl
theorem aby {rest:List dC} (hl:ops.toList.drop i=o::rest) (hp:jH o.op=ae) (hs:yB ops=ae) (hf:yC .any ops listed i=ae) (hr:(mZ .any ops listed).contains i=ae)
 (hw:lg o (lh ops a.tmps)=ae) (hQ: ∀ c a v w,Q (.panic c) (Act.put a o.dst v) w->Q (.panic c) a w) (hS:gH W w)
 (h: ∀ K:Act->Prop,(∀ a',wpAnyH P .any ops Q (λw'=> ∃ d:Later W,w'=d.now) fuel (listed.setIfInBounds i ae) a' w->K a')->o.quiet P a (λw'=> ∃ d:Later W,w'=d.now) K):
 wpAnyH P .any ops Q (λw'=> ∃ d:Later W,w'=d.now) (fuel+1) listed a w:=by
 obtain⟨v,h1,h2⟩:=h (λa'=>wpAnyH P .any ops Q (λw'=> ∃ d:Later W,w'=d.now) fuel (listed.setIfInBounds i ae) a' w) (λ_ h=>h);refine wpAnyH_take (v:=v) (drop_at hl) hs hf hr (λc a w h=>hQ c a _ w h) (.inl ⟨hw,λw' hw'=> ?_⟩) hS h2;have h3:=h1 w' hw';unfold Oper.quietAt at h3;generalize hx:(execOp a.eval o).run P w'=r at h3
 cases r with
 |ok n w2=>
  obtain⟨u,rfl⟩:=O7 hp hx;simp only[Oper.quietUpon]at h3;rw[h3.1,h3.2]
 |halt x w2=>simp only[Oper.quietUpon]at h3
theorem abx {rest:List dC} (hl:ops.toList.drop i=o::rest) (hs:yB ops=ae) (hf:yC .any ops listed i=ae) (hr:(mZ .any ops listed).contains i=ae)
 (hw:lg o (lh ops a.tmps)=ag) (hQ: ∀ c a v w,Q (.panic c) (Act.put a o.dst v) w->Q (.panic c) a w) (hS:gH W w)
 (h:wpAnyH P .any ops Q (λw'=> ∃ d:Later W,w'=d.now) fuel (listed.setIfInBounds i ae) (a.put o.dst aV) w):
 wpAnyH P .any ops Q (λw'=> ∃ d:Later W,w'=d.now) (fuel+1) listed a w:=
 wpAnyH_take (v:=aV) (drop_at hl) hs hf hr (λc a w h=>hQ c a _ w h) (.inr ⟨hw,rfl⟩) hS h
theorem aqx (i:Nat) {rest:List dC} (hS:gH W w)
 (h: ∀ K:Act->Prop,(∀ a',wpAnyH P .any ops Q (λw'=> ∃ d:Later W,w'=d.now) fuel (listed.setIfInBounds i ae) a' w->K a')->o.quiet P a (λw'=> ∃ d:Later W,w'=d.now) K)
 (hl:ops.toList.drop i=o::rest:=by rfl) (hp:jH o.op=ae:=by rfl) (hs:yB ops=ae:=by kernel_rfl) (hf:yC .any ops listed i=ae:=by kernel_rfl) (hr:(mZ .any ops listed).contains i=ae:=by kernel_rfl)
 (hw:lg o (lh ops a.tmps)=ae:=by rfl) (hQ: ∀ c a v w,Q (.panic c) (Act.put a o.dst v) w->Q (.panic c) a w:=by intros;assumption):
 wpAnyH P .any ops Q (λw'=> ∃ d:Later W,w'=d.now) (fuel+1) listed a w:=aby (i:=i) hl hp hs hf hr hw hQ hS h
theorem aqw (i:Nat) {rest:List dC} (hS:gH W w) (h:wpAnyH P .any ops Q (λw'=> ∃ d:Later W,w'=d.now) fuel (listed.setIfInBounds i ae) (a.put o.dst aV) w)
 (hl:ops.toList.drop i=o::rest:=by rfl) (hs:yB ops=ae:=by kernel_rfl) (hf:yC .any ops listed i=ae:=by kernel_rfl) (hr:(mZ .any ops listed).contains i=ae:=by kernel_rfl)
 (hw:lg o (lh ops a.tmps)=ag:=by rfl) (hQ: ∀ c a v w,Q (.panic c) (Act.put a o.dst v) w->Q (.panic c) a w:=by intros;assumption):
 wpAnyH P .any ops Q (λw'=> ∃ d:Later W,w'=d.now) (fuel+1) listed a w:=abx (i:=i) hl hs hf hr hw hQ hS h
theorem mW {rest:List dC} (hr:mZ .any ops listed= [i]) (hl:ops.toList.drop i=o::rest) (hw:lg o (lh ops a.tmps)=ae)
 (h: ∀ K:Act->Z->Prop,(∀ a' w',gH W w'->(gH W w'->wpAnyH P .any ops Q (λw'=> ∃ d:Later W,w'=d.now) fuel (listed.setIfInBounds i ae) a' w')->K a' w')->o.wp P a w K Q):
 wpAnyH P .any ops Q (λw'=> ∃ d:Later W,w'=d.now) (fuel+1) listed a w:=by
 refine wpAnyH_all hr aL λj hj=> ?_
 simp only[iJ]at hj;subst hj;unfold wpOp;rw[drop_at hl];show if lg o (lh ops a.tmps)=ae then _ else _
 rw[bB hw];exact .inl (h _ λa' w' hn hh=>⟨hn,hh hn⟩)
end
section
open Go.RowKit Go.ChangeShapes Go.WideShapes Go.Deep
def cellsOf {α:Type} (f:α->List aj):List α->List aj
 | []=> []
 |a::l=>f a++cellsOf f l
section
variable {α:Type} {f:α->List aj} {sz:Nat} (hf: ∀ a,(f a).length=sz)
include hf
theorem Ce (l:List α):(cellsOf f l).length=l.length*sz:=by
 induction l with
 |nil=>simp[cellsOf]
 |cons a l ih=>simp[cellsOf,ih,hf,Nat.succ_mul];omega
theorem Ex (l:List α) (k j:Nat) (hk:k<l.length) (hj:j<sz):(cellsOf f l)[k*sz+j]? =(f l[k])[j]? :=by
 induction l generalizing k with
 |nil=>simp at hk
 |cons a l ih=>
  cases k with
  |zero=>
   simp only[cellsOf,Md,nN,Du];rw[Ic (by rw[hf];omega)]
  |succ k=>
   simp only[cellsOf,Bh];have e:(k+1)*sz+j=sz+(k*sz+j):=by rw[Nat.succ_mul];omega
   rw[e,PO (by rw[hf];omega),<- ih k (by simpa using hk),hf]
   congr 1
   omega
theorem qj {w:Z} {B:Nat} {A:Option aG} {l:List α} (h:Rd w B sz A l.length (cellsOf f l)) {k:Nat} (hk:k<l.length):
 ∃ b o,A=N ⟨b,o,J⟩/\b<B/\ ∀ j u,(f l[k])[j]? =N u->w.cell? ⟨b,o+k*sz+j,J⟩=N u:=by
 obtain⟨b,o,e,hb,hc⟩:=h.2 O;refine⟨b,o,e,hb,λj u hu=> ?_⟩;have hj:j<sz:=by
  have:=(vg.1 hu).1
  rwa [hf]at this
 have:=hc (k*sz+j) u (by rw[Ex hf l k j hk hj];exact hu)
 rwa [<- Nat.add_assoc]at this
theorem rd_mk {w:Z} {a:aG} {l:List α} (hsz:0<sz) (h: ∀ k (hk:k<l.length) j u,(f l[k])[j]? =N u->w.cell? (a.add (k*sz+j))=N u):Rd w w.heap.size sz (N a) l.length (cellsOf f l):=by
 refine⟨Ce hf l,λhn=> ?_⟩;have h0: ∃ u,(f l[0])[0]? =N u:=⟨_,rq (by rw[hf];exact hsz)⟩;obtain⟨u0,hu0⟩:=h0;have c0:=h 0 hn 0 u0 hu0;obtain⟨b,o,spot⟩:=a;have hspot:spot=J:=by simpa [Addr.add] using World.cell?_spot c0
 subst hspot;refine⟨b,o,rfl,?_,λj u hu=> ?_⟩
 ·have:=World.block_lt_of_cell? w _ c0
  simpa [Addr.add] using this
 ·have hjl:j<(cellsOf f l).length:=(vg.1 hu).1;rw[Ce hf]at hjl;have hk:j / sz<l.length:=Nat.div_lt_of_lt_mul (by rw[Me];exact hjl);have hm:j % sz<sz:=Ie _ hsz;have e:j / sz*sz+j % sz=j:=by rw[Me];exact PQ j sz
  have hc:=h (j / sz) hk (j % sz) u (by rw[<- Ex hf l _ _ hk hm,e];exact hu);rw[e]at hc;have ea:(⟨b,o,J⟩:aG).add j=⟨b,o+j,J⟩:=by unfold Addr.add;split<;>simp_all
  rwa [ea]at hc
end
theorem y8 {α:Type} (f:α->List aj) (l m:List α):cellsOf f (l++m)=cellsOf f l++cellsOf f m:=by
 induction l with
 |nil=>rfl
 |cons a l ih=>simp[cellsOf,ih]
theorem Rd.uT {w:Z} {g sz n:Nat} {t:TypeId} {cs:Array aj} {xs:List aj} (h:au w g t cs) (hx:cs.toList=xs) (hl:xs.length=n*sz):Rd w w.heap.size sz (N ⟨g,0,J⟩) n xs:=
 ⟨hl,λ_=>⟨g,0,rfl,h.lt,λj u hu=>by rw[nN,h.cell j,<- q9,hx];exact hu⟩⟩
theorem yw {P:dH} {w:Z} {ops:Array dC} {rest:List dC} {o:dC} {a:Act} {Q:Exit->Act->Z->Prop} {α:Type} (f:α->List aj) (size:Nat) (hf: ∀ a,(f a).length=size) (hone: ∀ a,∀ u∈f a,u.oneCell'=ae)
 (hgd:o.guard=J) (s x:lU) (t:TypeId) (ho:o.op= .call { callee:= .builtin .append,args:= #[s,x],argTypes:= #[t,t] })
 (base:Nat) (e:TypeId) (i:TypeInfo) (z:aj) (bytes:Nat) (ht:P.underlying t=N (.slice e)) (hi:P.info? e=N i) (hz:i.zero=N z) (hsize:i.size=size) (hby:i.bytes=bytes) (hzs:z.cells.size=size) (hsz:0<size)
 (v:aj) (l:List α) (hs:a.eval s=v) (hown:w.ownsRow base e size v l.length (cellsOf f l)) (g c:Nat) (y:α) (cs:Array aj) (hx:a.eval x= T (N ⟨g,0,J⟩) 1 c) (hB:au w g e cs) (hcs:cs.toList=f y)
 (h63:l.length+1<=bK) (hbytes:(l.length+1)*bytes<=140737488355328) (hbase:base<=w.heap.size)
 (h: ∀ v' w',w'.ownsRow base e size v' (l++ [y]).length (cellsOf f (l++ [y]))->w.grownBy w' v.ownBlock->wpList P ops Q rest (a.put o.dst v') w'):wpList P ops Q (o::rest) a w:=
 Vs w hgd s x t ho base e i z size bytes ht hi hz hsize hby hzs hsz v l.length _ hs hown ⟨g,0,J⟩ 1 c (f y) hx (by rw[hf];omega)
  (λj u hu=>by rw[Ae,hB.cell j,<- q9,hcs];exact hu) (hone y) h63 hbytes hbase
  λv' w' h1 h2 _=>h v' w' (by rw[fK,y8,show cellsOf f [y]=f y from by simp[cellsOf]];exact h1) h2
theorem aet {P:dH} {f:FuncId} {args:Array aj} {w:Z} {v:aj} (h:aF P f args w λe w'=>e= bM v/\w=w'):aF P f args w λe w'=>e= .returned v/\Below w.heap.size w w':=
 h.mono λ_ _ ⟨h1,h2⟩=>⟨h1,by rw[<- h2];exact aD _ _⟩
section
variable {H:Type} {enc:TypeId×aj->H} {P:dH} {w:Z} {base:Nat} {spare:Nat->Bool} {held:Bool}
end
end
section
variable {P:dH} (w:Z)
theorem anF (base:Nat) (t ty e:TypeId) (i:TypeInfo) (size:Nat) (ht:P.underlying t=N (.slice e)) (hi:P.info? e=N i)
 (v:aj) (n:Nat) (xs:List aj) (hown:w.ownsRow base e size v n xs) (c:Nat):(Builtin.append_ #[t,t] ty #[v,T J 0 c]).run P w= .ok v w:=by
 rcases hown.2 with ⟨rfl,rfl⟩|⟨g,cap,cur,rfl,_,_,hnc,_⟩
 ·simp[Builtin.append_,kY ht,sizeOf,typeInfo,hi,Builtin.lenOf,Builtin.firstCells]
 ·simp[Builtin.append_,kY ht,sizeOf,typeInfo,hi,Builtin.lenOf,Builtin.firstCells,hnc,storeCells]
theorem anE (base:Nat) (t ty e:TypeId) (i:TypeInfo) (z:aj) (size bytes:Nat) (ht:P.underlying t=N (.slice e)) (hi:P.info? e=N i) (hz:i.zero=N z)
 (hsize:i.size=size) (hby:i.bytes=bytes) (hzs:z.cells.size=size) (hsz:0<size)
 (v:aj) (n:Nat) (xs:List aj) (hown:w.ownsRow base e size v n xs)
 (B:Nat) (A:Option aG) (m c:Nat) (news:List aj) (hr:Rd w B size A m news) (h1: ∀ u∈news,u.oneCell'=ae)
 (h63:n+m<=bK) (hbytes:(n+m)*bytes<=140737488355328) (hbase:base<=w.heap.size):
 ∃ v' w',(Builtin.append_ #[t,t] ty #[v,T A m c]).run P w= .ok v' w'/\w'.ownsRow base e size v' (n+m) (xs++news)/\w.grownBy w' v.ownBlock:=by
 rcases A with _|ad
 ·have hm:m=0:=by
   rcases ry m with h0|h0
   ·exact h0
   ·obtain⟨b,o,h,_⟩:=hr.2 h0
    cases h
  subst hm;have hn:news= []:=zC (by simpa using hr.1);subst hn;exact⟨v,w,anF w base t ty e i size ht hi v n xs hown c,by simpa using hown,Ig w _⟩
 ·have hcells: ∀ j u,news[j]? =N u->w.cell? (ad.add j)=N u:=by
   intro j u hu
   rcases ry m with h0|h0
   ·subst h0;have hn:news= []:=zC (by simpa using hr.1);subst hn;simp at hu
   ·obtain⟨b,o,h,_,hc⟩:=hr.2 h0;injection h with h
    subst h;have ea:(⟨b,o,J⟩:aG).add j=⟨b,o+j,J⟩:=by unfold Addr.add;split<;>simp_all
    rw[ea];exact hc j u hu
  obtain⟨v',w',hrun,h2,h3,_,_⟩:=run_append_own_at (P:=P) w base t ty e i z size bytes ht hi hz hsize hby hzs hsz v n xs hown ad m c news hr.1 hcells h1 h63 hbytes hbase;exact⟨v',w',hrun,h2,h3⟩
theorem ao7 {o:dC} {a:Act} {K:Act->Z->Prop} {Q:Exit->Act->Z->Prop} (s x:lU) (t:TypeId)
 (ho:o.op= .call { callee:= .builtin .append,args:= #[s,x],argTypes:= #[t,t] })
 (base:Nat) (e:TypeId) (i:TypeInfo) (z:aj) (size bytes:Nat) (ht:P.underlying t=N (.slice e)) (hi:P.info? e=N i) (hz:i.zero=N z)
 (hsize:i.size=size) (hby:i.bytes=bytes) (hzs:z.cells.size=size) (hsz:0<size)
 (v:aj) (n:Nat) (xs:List aj) (hs:a.eval s=v) (hown:w.ownsRow base e size v n xs)
 (B:Nat) (A:Option aG) (m c:Nat) (news:List aj) (hx:a.eval x= T A m c) (hr:Rd w B size A m news) (h1: ∀ u∈news,u.oneCell'=ae)
 (h63:n+m<=bK) (hbytes:(n+m)*bytes<=140737488355328) (hbase:base<=w.heap.size)
 (h: ∀ v' w',w'.ownsRow base e size v' (n+m) (xs++news)->w.grownBy w' v.ownBlock->K (a.put o.dst v') w'):o.wp P a w K Q:=by
 obtain⟨v',w',hrun,h2,h3⟩:=anE (P:=P) w base t o.type e i z size bytes ht hi hz hsize hby hzs hsz v n xs hown B A m c news hr h1 h63 hbytes hbase;unfold Oper.wp execOp;simp only[ho,resolve,invoke,builtin,yA,Mf,Mg,List.map_toArray,vv,Ih,hs,hx,hrun];exact h v' w' h2 h3
theorem zA {ops:Array dC} {rest:List dC} {o:dC} {a:Act} {Q:Exit->Act->Z->Prop} (hgd:o.guard=J) (s x:lU) (t:TypeId)
 (ho:o.op= .call { callee:= .builtin .append,args:= #[s,x],argTypes:= #[t,t] })
 (base:Nat) (e:TypeId) (i:TypeInfo) (z:aj) (size bytes:Nat) (ht:P.underlying t=N (.slice e)) (hi:P.info? e=N i) (hz:i.zero=N z)
 (hsize:i.size=size) (hby:i.bytes=bytes) (hzs:z.cells.size=size) (hsz:0<size)
 (v:aj) (n:Nat) (xs:List aj) (hs:a.eval s=v) (hown:w.ownsRow base e size v n xs)
 (B:Nat) (A:Option aG) (m c:Nat) (news:List aj) (hx:a.eval x= T A m c) (hr:Rd w B size A m news) (h1: ∀ u∈news,u.oneCell'=ae)
 (h63:n+m<=bK) (hbytes:(n+m)*bytes<=140737488355328) (hbase:base<=w.heap.size)
 (h: ∀ v' w',w'.ownsRow base e size v' (n+m) (xs++news)->w.grownBy w' v.ownBlock->wpList P ops Q rest (a.put o.dst v') w'):wpList P ops Q (o::rest) a w:=
 wpList_plain hgd λ_ hK=>ao7 w s x t ho base e i z size bytes ht hi hz hsize hby hzs hsz v n xs hs hown B A m c news hx hr h1 h63 hbytes hbase λv' w' h2 h3=>hK _ _ (h v' w' h2 h3)
theorem zn (t:TypeId) (base size c:Nat) (hb:base<=w.heap.size) (cs:Array aj) (hc:cs.size=c*size) (hm:c<=bK):(w.alloc (U cs t)).ownsRow base t size (T (N ⟨w.heap.size,0,J⟩) 0 c) 0 []:=
 ⟨by simp,.inr ⟨w.heap.size,c,cs,rfl,hb,heap_alloc_new w _,O,hm,hc,aL⟩⟩
theorem cells_one {α:Type} {f:α->List aj} (h: ∀ a,∀ u∈f a,u.oneCell'=ae) (l:List α): ∀ u∈cellsOf f l,u.oneCell'=ae:=by
 induction l with
 |nil=>intro u hu;simp[cellsOf]at hu
 |cons a l ih=>
  intro u hu;simp only[cellsOf,il]at hu
  rcases hu with hu|hu
  ·exact h a u hu
  ·exact ih u hu
theorem H6 {o:dC} {a:Act} {K:Act->Z->Prop} {Q:Exit->Act->Z->Prop} {α:Type} (f:α->List aj) (size:Nat) (hf: ∀ a,(f a).length=size) (hone: ∀ a,∀ u∈f a,u.oneCell'=ae)
 (s x:lU) (t:TypeId) (ho:o.op= .call { callee:= .builtin .append,args:= #[s,x],argTypes:= #[t,t] })
 (base:Nat) (e:TypeId) (i:TypeInfo) (z:aj) (bytes:Nat) (ht:P.underlying t=N (.slice e)) (hi:P.info? e=N i) (hz:i.zero=N z) (hsize:i.size=size) (hby:i.bytes=bytes) (hzs:z.cells.size=size) (hsz:0<size)
 (v:aj) (l:List α) (hs:a.eval s=v) (hown:w.ownsRow base e size v l.length (cellsOf f l)) (g c:Nat) (y:α) (cs:Array aj) (hx:a.eval x= T (N ⟨g,0,J⟩) 1 c) (hB:au w g e cs) (hcs:cs.toList=f y)
 (h63:l.length+1<=bK) (hbytes:(l.length+1)*bytes<=140737488355328) (hbase:base<=w.heap.size)
 (h: ∀ v' w',w'.ownsRow base e size v' (l++ [y]).length (cellsOf f (l++ [y]))->w.grownBy w' v.ownBlock->K (a.put o.dst v') w'):o.wp P a w K Q:=
 wp_append_own w s x t ho base e i z size bytes ht hi hz hsize hby hzs hsz v l.length _ hs hown ⟨g,0,J⟩ 1 c (f y) hx (by rw[hf];omega)
  (λj u hu=>by rw[Ae,hB.cell j,<- q9,hcs];exact hu) (hone y) h63 hbytes hbase
  λv' w' h1 h2 _=>h v' w' (by rw[fK,y8,show cellsOf f [y]=f y from by simp[cellsOf]];exact h1) h2
end
section
open Go.RowKit Go.ChangeShapes Go.WideShapes Go.Deep
section
variable {P:dH} {w:Z} {base:Nat} {spare:Nat->Bool} {held:Bool} {H:Type} {enc:TypeId×aj->H}
end
end
section
open Go.RowKit Go.ChangeShapes Go.WideShapes Go.Deep
structure Sl (α:Type) where
 l:List α
 A:Option aG
 cap:Nat
def Sl.val {α:Type} (s:Sl α):aj:= T s.A s.l.length s.cap
def Sl.pW {α:Type} (s:Sl α) (w:Z) (f:α->List aj) (sz:Nat):Prop:=Rd w w.heap.size sz s.A s.l.length (cellsOf f s.l)/\s.l.length<=s.cap/\s.cap<=bK
def kN {H:Type} (enc:TypeId×aj->H) (P:dH) (w:Z) (base:Nat) (spare:Nat->Bool) (held:Bool) (t:TypeId) {α:Type} (f:α->List aj) (Q:α->Prop):Prop:=
 ∀ (n:Nat) (cs:List aj) (x:DataW H×List MemPlace),DataW.trod enc P w base spare held n t cs=N x-> ∃ a:α,f a=cs/\Q a
def span (P:dH) (l:List Field):Nat:=(l.map λfd=>P.cellsOf fd.type).sum
def NG {H:Type} (enc:TypeId×aj->H) (P:dH) (w:Z) (base:Nat) (spare:Nat->Bool) (held:Bool) (l:List Field) (o:Nat) {α:Type} (f:α->List aj) (Q:α->Prop):Prop:=
 ∀ (n:Nat) (cs:List aj),(∀ fd∈l,∃ x,DataW.trod enc P w base spare held n fd.type ((cs.drop fd.offset).take (P.cellsOf fd.type))=N x)-> ∃ a:α,f a=(cs.drop o).take (span P l)/\Q a
section
variable {H:Type} {enc:TypeId×aj->H} {P:dH} {w:Z} {base:Nat} {spare:Nat->Bool} {held:Bool} {t e:TypeId} {α β:Type} {f:α->List aj} {Q:α->Prop} {f2:β->List aj} {Q2:β->Prop}
theorem fB {k:IntKind} (ht:P.underlying t=N (.int k)):kN enc P w base spare held t (λz:Int=> [.int k z]) (λz=>(jQ k z).wf=ae):=by
 intro n cs x h;obtain⟨c,h1,_,h3⟩:=DataW.trod_int ht h;exact⟨c,h1.symm,h3⟩
theorem He (ht:P.underlying t=N .string):kN enc P w base spare held t (λz:ByteArray=> [av z]) (λz=>z.size<=bK):=by
 intro n cs x h;obtain⟨c,h1,_,h3⟩:=DataW.trod_string ht h;exact⟨c,h1.symm,h3⟩
theorem alm (ht:P.underlying t=N .bool):kN enc P w base spare held t (λz:Bool=> [aA z]) (λ_=>True):=by
 intro n cs x h
 cases n with
 |zero=>simp[DataW.trod]at h
 |succ n=>
  unfold DataW.trod at h;rw[ht]at h
  split at h<;>simp_all
theorem kN.map (h:kN enc P w base spare held t f Q) (g:α->β) (hf: ∀ a,f2 (g a)=f a) (hQ: ∀ a,Q a->Q2 (g a)):kN enc P w base spare held t f2 Q2:=by
 intro n cs x hx;obtain⟨a,h1,h2⟩:=h n cs x hx;exact⟨g a,(hf a).trans h1,hQ a h2⟩
theorem sN (o:Nat):NG enc P w base spare held [] o (λ_:Unit=> []) (λ_=>True):=by
 intro n cs _;exact⟨(),by simp[span],trivial⟩
theorem dI {fd:Field} {l:List Field} {o k:Nat} (h1:kN enc P w base spare held fd.type f Q) (ho:fd.offset=o) (hk:P.cellsOf fd.type=k) (h2:NG enc P w base spare held l (o+k) f2 Q2):
 NG enc P w base spare held (fd::l) o (λp:α×β=>f p.1++f2 p.2) (λp=>Q p.1/\Q2 p.2):=by
 intro n cs h;obtain⟨x,hx⟩:=h fd aL;obtain⟨a,ha,hQ⟩:=h1 n _ x hx;obtain⟨b,hb,hR⟩:=h2 n cs (λg hg=>h g (by simp[hg]));refine⟨(a,b),?_,hQ,hR⟩;show f a++f2 b=_;rw[ha,hb,ho,hk];have e:span P (fd::l)=k+span P l:=by simp[span,hk]
 rw[e,List.take_add,List.drop_drop]
theorem sO {fs:Array Field} (ht:P.underlying t=N (.struct fs)) (hC:P.cellsOf t=span P fs.toList) (h:NG enc P w base spare held fs.toList 0 f Q):kN enc P w base spare held t f Q:=by
 intro n cs x hx;obtain⟨xs,m,_,_,hl,hxs,hf⟩:=DataW.trod_struct ht hx;obtain⟨a,ha,hQ⟩:=h m cs (λfd OG=>by
  obtain⟨i,hi,e⟩:=iK.1 OG;have h1:=hf i fd (by rw[<- e];simp);have hi':i<xs.length:=by rw[hxs];simpa using hi
  exact⟨xs[i],by rw[h1];exact rq hi'⟩)
 refine⟨a,?_,hQ⟩;rw[ha,List.drop_zero,<- hC,<- hl,FC]
theorem wN {sz:Nat} (ht:P.underlying t=N (.slice e)) (hC:P.cellsOf e=sz) (hsz:0<sz) [Inhabited α] (hlen: ∀ a,(f a).length=sz) (h:kN enc P w base spare held e f Q):
 kN enc P w base spare held t (λs:Sl α=> [s.val]) (λs=>s.pW w f sz/\ ∀ a∈s.l,Q a):=by
 intro n cs x hx
 rcases open_slice ht hx with ⟨hcs,-⟩|⟨a,len,cap,m,n,D,Pl,hcs,hb,hl,hm,hmm,-,hi⟩
 ·exact⟨⟨[],J,0⟩,hcs.symm,⟨Rd.none_,aL,by simp[bK]⟩,λa ha=>by simp at ha⟩
 ·have OI:len<=m:=by rw[hmm];split<;>omega
  have hrow: ∀ i,i<len-> ∃ y:α,(∀ j u,(f y)[j]? =N u->w.cell? (a.add (i*sz+j))=N u)/\Q y:=by
   intro i hil;obtain⟨cs',hc,hd⟩:=hi i O;obtain⟨y,hy,hQ⟩:=h n cs' _ hd;rw[hC]at hc;obtain⟨_,hcl,hat⟩:=World.cells?_some hc;refine⟨y,λj u hu=> ?_,hQ⟩;rw[hy]at hu;have hj:j<sz:=by
    have:=(vg.1 hu).1;omega
   have:=hat j hj;rw[Go.Deep.add_add]at this;rw[this];exact hu
  obtain⟨V,hV⟩:=choose_lt (α:=α) (p:=λi x=>(∀ j u,(f x)[j]? =N u->w.cell? (a.add (i*sz+j))=N u)/\Q x) hrow;refine⟨⟨(kJ len).map V,N a,cap⟩,by simp[Sl.val,hcs],⟨?_,by simpa using hl,hm⟩,λx hx=> ?_⟩
  ·exact rd_mk (w:=w) (a:=a) (l:=(kJ len).map V) hlen hsz (λk hk j u hu=>by
    simp only[vw,Mh]at hu;exact(hV k (by simpa using hk)).1 j u hu)
  ·simp only[iW,zD]at hx;obtain⟨i,hi,rfl⟩:=hx;exact(hV i hi).2
theorem aa2 {r:Reach} {b0:Nat} {fs:Array Field} {v:aj} {d:DataW H} {p:List MemPlace} (ht:P.underlying t=N (.struct fs)) (h:kN enc P w base spare held t f Q)
 (hv:Value.okWide P w r b0 t v) (hd:DataW.Trod enc P w base spare held t v d p): ∃ a:α,v= .agg (f a).toArray/\Q a:=by
 obtain⟨cs,rfl,_⟩:=okWide_struct ht hv;obtain⟨fuel,hf⟩:=hd;obtain⟨a,h1,h2⟩:=h fuel _ _ hf;refine⟨a,?_,h2⟩;rw[h1];simp[Value.cells]
end
end
namespace Bal
end Bal
def pF (n:Int):Bool:=decide (-1000000000000<=n)&&decide (n<=1000000000000)
theorem R6 {n:Int} (h:pF n=ae): -1000000000000<=n/\n<=1000000000000:=by unfold pF at h;simpa using h
def iZ (n:Nat) (p:Nat->Bool):Bool:=(kJ n).all p
theorem kD {n k:Nat} {p:Nat->Bool} (hk:k<n) (h:p k=ag):iZ n p=ag:=by
 unfold iZ;rw[PR];exact⟨k,by simpa using hk,by simp[h]⟩
theorem nT {n:Nat} {p:Nat->Bool} (h: ∀ j,j<n->p j=ae):iZ n p=ae:=by
 unfold iZ;rw[ng];intro j hj;exact h j (by simpa using hj)
theorem tO {n k:Nat} {p:Nat->Bool} (h:iZ n p=ae) (hk:k<n):p k=ae:=by
 unfold iZ at h;rw[ng]at h;exact h k (by simpa using hk)
theorem ae7 (l:List Acc):Ch.cells l=cellsOf Ch.Cc l:=by
 induction l with
 |nil=>rfl
 |cons a l ih=>simp[Ch.cells,cellsOf,ih]
instance apk:Inhabited Acc:=⟨Ch.zero⟩
abbrev Acc.cells (a:Acc):List aj:=Ch.Cc a
theorem Acc.len (a:Acc):a.cells.length=4:=rfl
theorem BR (l:List Acc):cellsOf Acc.cells l=Ch.cells l:=(ae7 l).symm
section
abbrev Wf (n:Int):Prop:=(jQ .i64 n).wf=ae
variable {H:Type} {enc:TypeId×aj->H} {w:Z} {base:Nat} {spare:Nat->Bool} {held:Bool}
theorem Sl.pW.step {α:Type} {s:Sl α} {w w2:Z} {f:α->List aj} {sz:Nat} (h:s.pW w f sz) (hb:Below w.heap.size w w2):s.pW w2 f sz:=⟨Rd.now h.1 hb,h.2⟩
structure aO where
 entry:Int
 line:Int
instance aqo:Inhabited aO:=⟨⟨0,0⟩⟩
def aO.cells (x:aO):List aj:= [G F x.entry,G F x.line]
theorem aO.len (x:aO):x.cells.length=2:=rfl
def aO.Ok (w:Z) (x:aO):Prop:=Wf x.entry/\Wf x.line
theorem aO.Ok.step {w w2:Z} {x:aO} (h:x.Ok w) (hb:Below w.heap.size w w2):x.Ok w2:=⟨h.1,h.2⟩
theorem aO.at_ {w:Z} {B:Nat} {A:Option aG} {l:List aO} (h:Rd w B 2 A l.length (cellsOf aO.cells l)) {k:Nat} (hk:k<l.length):
 ∃ b o,A=N ⟨b,o,J⟩/\b<B/\w.cell? ⟨b,o+k*2,J⟩=N (G F l[k].entry)/\w.cell? ⟨b,o+k*2+1,J⟩=N (G F l[k].line):=by
 obtain⟨b,o,e,hb,hc⟩:=qj (f:=aO.cells) (sz:=2) (λ_=>rfl) h hk;exact⟨b,o,e,hb,hc 0 _ rfl,hc 1 _ rfl⟩
theorem aO.one (x:aO): ∀ u∈x.cells,u.oneCell'=ae:=by
 intro u hu;simp only[aO.cells,fT,lV,lW]at hu
 rcases hu with rfl|rfl
 all_goals rfl
theorem aO.info:(ak.info? 70).map (λi=>(i.zero,i.size,i.bytes))=N (N (az #[G F 0,G F 0]),2,16):=ai
theorem aa1:kN enc ak w base spare held 70 aO.cells (aO.Ok w):=
 (sO PT ai (dI (k:=1) (fB dh) rfl ai (dI (k:=1) (fB dh) rfl ai (sN _)))).map (λp=>⟨p.1,p.2.1⟩) (λ_=>rfl) (λ_ h=>⟨h.1,h.2.1⟩)
structure bI where
 ref:aO
 bF:Int
 ek:Int
 partner:Int
 date:Int
 amount:Int
instance aqh:Inhabited bI:=⟨⟨default,0,0,0,0,0⟩⟩
def bI.cells (x:bI):List aj:= [G F x.ref.entry,G F x.ref.line,G F x.bF,G F x.ek,G F x.partner,G F x.date,G F x.amount]
theorem bI.len (x:bI):x.cells.length=7:=rfl
theorem bI.at_ {w:Z} {B:Nat} {A:Option aG} {l:List bI} (h:Rd w B 7 A l.length (cellsOf bI.cells l)) {k:Nat} (hk:k<l.length):
 ∃ b o,A=N ⟨b,o,J⟩/\b<B/\w.cell? ⟨b,o+k*7,J⟩=N (G F l[k].ref.entry)/\w.cell? ⟨b,o+k*7+1,J⟩=N (G F l[k].ref.line)/\w.cell? ⟨b,o+k*7+2,J⟩=N (G F l[k].bF)/\w.cell? ⟨b,o+k*7+3,J⟩=N (G F l[k].ek)/\w.cell? ⟨b,o+k*7+4,J⟩=N (G F l[k].partner)/\w.cell? ⟨b,o+k*7+5,J⟩=N (G F l[k].date)/\w.cell? ⟨b,o+k*7+6,J⟩=N (G F l[k].amount):=by
 obtain⟨b,o,e,hb,hc⟩:=qj (f:=bI.cells) (sz:=7) (λ_=>rfl) h hk;exact⟨b,o,e,hb,hc 0 _ rfl,hc 1 _ rfl,hc 2 _ rfl,hc 3 _ rfl,hc 4 _ rfl,hc 5 _ rfl,hc 6 _ rfl⟩
theorem bI.one (x:bI): ∀ u∈x.cells,u.oneCell'=ae:=by
 intro u hu;simp only[bI.cells,fT,lV,lW]at hu
 rcases hu with rfl|rfl|rfl|rfl|rfl|rfl|rfl
 all_goals rfl
theorem bI.info:(ak.info? 83).map (λi=>(i.zero,i.size,i.bytes))=N (N (az #[G F 0,G F 0,G F 0,G F 0,G F 0,G F 0,G F 0]),7,56):=ai
def Acc.Ok (w:Z) (x:Acc):Prop:=Wf x.code/\Wf x.kind/\Wf x.basis/\Wf x.parent
theorem Acc.Ok.step {w w2:Z} {x:Acc} (h:x.Ok w) (hb:Below w.heap.size w w2):x.Ok w2:=⟨h.1,h.2.1,h.2.2.1,h.2.2.2⟩
theorem aa0:kN enc ak w base spare held 212 Acc.cells (Acc.Ok w):=
 (sO Tryz.underlying212 ai (dI (k:=1) (fB dh) rfl ai (dI (k:=1) (fB dh) rfl ai (dI (k:=1) (fB dh) rfl ai (dI (k:=1) (fB dh) rfl ai (sN _)))))).map (λp=>⟨p.1,p.2.1,p.2.2.1,p.2.2.2.1⟩) (λ_=>rfl) (λ_ h=>⟨h.1,h.2.1,h.2.2.1,h.2.2.2.1⟩)
structure bV where
 from_:Int
 to:Int
 since:Int
instance aqj:Inhabited bV:=⟨⟨0,0,0⟩⟩
def bV.cells (x:bV):List aj:= [G F x.from_,G F x.to,G F x.since]
theorem bV.len (x:bV):x.cells.length=3:=rfl
def bV.Ok (w:Z) (x:bV):Prop:=Wf x.from_/\Wf x.to/\Wf x.since
theorem bV.Ok.step {w w2:Z} {x:bV} (h:x.Ok w) (hb:Below w.heap.size w w2):x.Ok w2:=⟨h.1,h.2.1,h.2.2⟩
theorem bV.at_ {w:Z} {B:Nat} {A:Option aG} {l:List bV} (h:Rd w B 3 A l.length (cellsOf bV.cells l)) {k:Nat} (hk:k<l.length):
 ∃ b o,A=N ⟨b,o,J⟩/\b<B/\w.cell? ⟨b,o+k*3,J⟩=N (G F l[k].from_)/\w.cell? ⟨b,o+k*3+1,J⟩=N (G F l[k].to)/\w.cell? ⟨b,o+k*3+2,J⟩=N (G F l[k].since):=by
 obtain⟨b,o,e,hb,hc⟩:=qj (f:=bV.cells) (sz:=3) (λ_=>rfl) h hk;exact⟨b,o,e,hb,hc 0 _ rfl,hc 1 _ rfl,hc 2 _ rfl⟩
theorem bV.one (x:bV): ∀ u∈x.cells,u.oneCell'=ae:=by
 intro u hu;simp only[bV.cells,fT,lV,lW]at hu
 rcases hu with rfl|rfl|rfl
 all_goals rfl
theorem bV.info:(ak.info? 250).map (λi=>(i.zero,i.size,i.bytes))=N (N (az #[G F 0,G F 0,G F 0]),3,24):=ai
theorem alf:kN enc ak w base spare held 250 bV.cells (bV.Ok w):=
 (sO Mj ai (dI (k:=1) (fB dh) rfl ai (dI (k:=1) (fB dh) rfl ai (dI (k:=1) (fB dh) rfl ai (sN _))))).map (λp=>⟨p.1,p.2.1,p.2.2.1⟩) (λ_=>rfl) (λ_ h=>⟨h.1,h.2.1,h.2.2.1⟩)
structure aY where
 name:ByteArray
 cK:ByteArray
 jw:Sl Acc
 links:Sl bV
 joint:Bool
instance aqe:Inhabited aY:=⟨⟨ByteArray.empty,ByteArray.empty,⟨[],J,0⟩,⟨[],J,0⟩,ag⟩⟩
def aY.cells (x:aY):List aj:= [av x.name,av x.cK,x.jw.val,x.links.val,aA x.joint]
theorem aY.len (x:aY):x.cells.length=5:=rfl
def aY.Ok (w:Z) (x:aY):Prop:=x.name.size<=bK/\x.cK.size<=bK/\(x.jw.pW w Acc.cells 4/\ ∀ y∈x.jw.l,Acc.Ok w y)/\(x.links.pW w bV.cells 3/\ ∀ y∈x.links.l,bV.Ok w y)/\True
theorem aY.Ok.step {w w2:Z} {x:aY} (h:x.Ok w) (hb:Below w.heap.size w w2):x.Ok w2:=⟨h.1,h.2.1,⟨(h.2.2.1).1.step hb,λy hy=>((h.2.2.1).2 y hy).step hb⟩,⟨(h.2.2.2.1).1.step hb,λy hy=>((h.2.2.2.1).2 y hy).step hb⟩,h.2.2.2.2⟩
theorem aY.at_ {w:Z} {B:Nat} {A:Option aG} {l:List aY} (h:Rd w B 5 A l.length (cellsOf aY.cells l)) {k:Nat} (hk:k<l.length):
 ∃ b o,A=N ⟨b,o,J⟩/\b<B/\w.cell? ⟨b,o+k*5,J⟩=N (av l[k].name)/\w.cell? ⟨b,o+k*5+1,J⟩=N (av l[k].cK)/\w.cell? ⟨b,o+k*5+2,J⟩=N (l[k].jw.val)/\w.cell? ⟨b,o+k*5+3,J⟩=N (l[k].links.val)/\w.cell? ⟨b,o+k*5+4,J⟩=N (aA l[k].joint):=by
 obtain⟨b,o,e,hb,hc⟩:=qj (f:=aY.cells) (sz:=5) (λ_=>rfl) h hk;exact⟨b,o,e,hb,hc 0 _ rfl,hc 1 _ rfl,hc 2 _ rfl,hc 3 _ rfl,hc 4 _ rfl⟩
theorem aY.one (x:aY): ∀ u∈x.cells,u.oneCell'=ae:=by
 intro u hu;simp only[aY.cells,fT,lV,lW]at hu
 rcases hu with rfl|rfl|rfl|rfl|rfl
 all_goals rfl
theorem aY.info:(ak.info? 179).map (λi=>(i.zero,i.size,i.bytes))=N (N (az #[av ⟨#[]⟩,av ⟨#[]⟩,T J 0 0,T J 0 0,aA ag]),5,88):=ai
theorem ala:kN enc ak w base spare held 179 aY.cells (aY.Ok w):=
 (sO Tryz.underlying179 ai (dI (k:=1) (He zF) rfl ai (dI (k:=1) (He zF) rfl ai (dI (k:=1) (wN PU ai aJ Acc.len aa0) rfl ai (dI (k:=1) (wN PV ai aJ bV.len alf) rfl ai (dI (k:=1) (alm iX) rfl ai (sN _))))))).map (λp=>⟨p.1,p.2.1,p.2.2.1,p.2.2.2.1,p.2.2.2.2.1⟩) (λ_=>rfl) (λ_ h=>⟨h.1,h.2.1,h.2.2.1,h.2.2.2.1,h.2.2.2.2.1⟩)
structure Bq where
 year:Int
 month:Int
 O3:Int
def Bq.cells (x:Bq):List aj:= [G F x.year,G F x.month,G F x.O3]
def Bq.Ok (w:Z) (x:Bq):Prop:=Wf x.year/\Wf x.month/\Wf x.O3
theorem ak9:kN enc ak w base spare held 23 Bq.cells (Bq.Ok w):=
 (sO Tryz.underlying23 ai (dI (k:=1) (fB dh) rfl ai (dI (k:=1) (fB dh) rfl ai (dI (k:=1) (fB dh) rfl ai (sN _))))).map (λp=>⟨p.1,p.2.1,p.2.2.1⟩) (λ_=>rfl) (λ_ h=>⟨h.1,h.2.1,h.2.2.1⟩)
structure dZ where
 dU:Int
 dR:Int
 dO:Int
 inventory:Int
 reserve:Int
 dV:Int
 dJ:Int
 acquired:Int
 dX:Int
 dP:Int
 dN:Int
 dQ:Int
 dW:Int
 difference:Int
 dL:Int
def dZ.cells (x:dZ):List aj:= [G F x.dU,G F x.dR,G F x.dO,G F x.inventory,G F x.reserve,G F x.dV,G F x.dJ,G F x.acquired,G F x.dX,G F x.dP,G F x.dN,G F x.dQ,G F x.dW,G F x.difference,G F x.dL]
def dZ.Ok (w:Z) (x:dZ):Prop:=Wf x.dU/\Wf x.dR/\Wf x.dO/\Wf x.inventory/\Wf x.reserve/\Wf x.dV/\Wf x.dJ/\Wf x.acquired/\Wf x.dX/\Wf x.dP/\Wf x.dN/\Wf x.dQ/\Wf x.dW/\Wf x.difference/\Wf x.dL
theorem alj:kN enc ak w base spare held 26 dZ.cells (dZ.Ok w):=
 (sO Tryz.underlying26 ai (dI (k:=1) (fB dh) rfl ai (dI (k:=1) (fB dh) rfl ai (dI (k:=1) (fB dh) rfl ai (dI (k:=1) (fB dh) rfl ai (dI (k:=1) (fB dh) rfl ai (dI (k:=1) (fB dh) rfl ai (dI (k:=1) (fB dh) rfl ai (dI (k:=1) (fB dh) rfl ai (dI (k:=1) (fB dh) rfl ai (dI (k:=1) (fB dh) rfl ai (dI (k:=1) (fB dh) rfl ai (dI (k:=1) (fB dh) rfl ai (dI (k:=1) (fB dh) rfl ai (dI (k:=1) (fB dh) rfl ai (dI (k:=1) (fB dh) rfl ai (sN _))))))))))))))))).map (λp=>⟨p.1,p.2.1,p.2.2.1,p.2.2.2.1,p.2.2.2.2.1,p.2.2.2.2.2.1,p.2.2.2.2.2.2.1,p.2.2.2.2.2.2.2.1,p.2.2.2.2.2.2.2.2.1,p.2.2.2.2.2.2.2.2.2.1,p.2.2.2.2.2.2.2.2.2.2.1,p.2.2.2.2.2.2.2.2.2.2.2.1,p.2.2.2.2.2.2.2.2.2.2.2.2.1,p.2.2.2.2.2.2.2.2.2.2.2.2.2.1,p.2.2.2.2.2.2.2.2.2.2.2.2.2.2.1⟩) (λ_=>rfl) (λ_ h=>⟨h.1,h.2.1,h.2.2.1,h.2.2.2.1,h.2.2.2.2.1,h.2.2.2.2.2.1,h.2.2.2.2.2.2.1,h.2.2.2.2.2.2.2.1,h.2.2.2.2.2.2.2.2.1,h.2.2.2.2.2.2.2.2.2.1,h.2.2.2.2.2.2.2.2.2.2.1,h.2.2.2.2.2.2.2.2.2.2.2.1,h.2.2.2.2.2.2.2.2.2.2.2.2.1,h.2.2.2.2.2.2.2.2.2.2.2.2.2.1,h.2.2.2.2.2.2.2.2.2.2.2.2.2.2.1⟩)
structure zL where
 cK:ByteArray
 Ew:Bq
 jw:Sl Acc
 dG:dZ
 Gw:Sl aY
def zL.cells (x:zL):List aj:= [av x.cK,G F x.Ew.year,G F x.Ew.month,G F x.Ew.O3,x.jw.val,G F x.dG.dU,G F x.dG.dR,G F x.dG.dO,G F x.dG.inventory,G F x.dG.reserve,G F x.dG.dV,G F x.dG.dJ,G F x.dG.acquired,G F x.dG.dX,G F x.dG.dP,G F x.dG.dN,G F x.dG.dQ,G F x.dG.dW,G F x.dG.difference,G F x.dG.dL,x.Gw.val]
def zL.Ok (w:Z) (x:zL):Prop:=x.cK.size<=bK/\Bq.Ok w x.Ew/\(x.jw.pW w Acc.cells 4/\ ∀ y∈x.jw.l,Acc.Ok w y)/\dZ.Ok w x.dG/\(x.Gw.pW w aY.cells 5/\ ∀ y∈x.Gw.l,aY.Ok w y)
theorem alc:kN enc ak w base spare held 29 zL.cells (zL.Ok w):=
 (sO bQ ai (dI (k:=1) (He zF) rfl ai (dI (k:=3) (ak9) rfl ai (dI (k:=1) (wN PU ai aJ Acc.len aa0) rfl ai (dI (k:=15) (alj) rfl ai (dI (k:=1) (wN Tryz.underlying27 ai aJ aY.len ala) rfl ai (sN _))))))).map (λp=>⟨p.1,p.2.1,p.2.2.1,p.2.2.2.1,p.2.2.2.2.1⟩) (λ_=>rfl) (λ_ h=>⟨h.1,h.2.1,h.2.2.1,h.2.2.2.1,h.2.2.2.2.1⟩)
structure bq where
 ek:Int
 amount:Int
 partner:Int
instance aqi:Inhabited bq:=⟨⟨0,0,0⟩⟩
def bq.cells (x:bq):List aj:= [G F x.ek,G F x.amount,G F x.partner]
theorem bq.len (x:bq):x.cells.length=3:=rfl
def bq.Ok (w:Z) (x:bq):Prop:=Wf x.ek/\Wf x.amount/\Wf x.partner
theorem bq.Ok.step {w w2:Z} {x:bq} (h:x.Ok w) (hb:Below w.heap.size w w2):x.Ok w2:=⟨h.1,h.2.1,h.2.2⟩
theorem bq.at_ {w:Z} {B:Nat} {A:Option aG} {l:List bq} (h:Rd w B 3 A l.length (cellsOf bq.cells l)) {k:Nat} (hk:k<l.length):
 ∃ b o,A=N ⟨b,o,J⟩/\b<B/\w.cell? ⟨b,o+k*3,J⟩=N (G F l[k].ek)/\w.cell? ⟨b,o+k*3+1,J⟩=N (G F l[k].amount)/\w.cell? ⟨b,o+k*3+2,J⟩=N (G F l[k].partner):=by
 obtain⟨b,o,e,hb,hc⟩:=qj (f:=bq.cells) (sz:=3) (λ_=>rfl) h hk;exact⟨b,o,e,hb,hc 0 _ rfl,hc 1 _ rfl,hc 2 _ rfl⟩
theorem bq.one (x:bq): ∀ u∈x.cells,u.oneCell'=ae:=by
 intro u hu;simp only[bq.cells,fT,lV,lW]at hu
 rcases hu with rfl|rfl|rfl
 all_goals rfl
theorem bq.info:(ak.info? 131).map (λi=>(i.zero,i.size,i.bytes))=N (N (az #[G F 0,G F 0,G F 0]),3,24):=ai
theorem ale:kN enc ak w base spare held 131 bq.cells (bq.Ok w):=
 (sO Tryz.underlying131 ai (dI (k:=1) (fB dh) rfl ai (dI (k:=1) (fB dh) rfl ai (dI (k:=1) (fB dh) rfl ai (sN _))))).map (λp=>⟨p.1,p.2.1,p.2.2.1⟩) (λ_=>rfl) (λ_ h=>⟨h.1,h.2.1,h.2.2.1⟩)
structure aI where
 id:Int
 bF:Int
 date:Int
 kind:Int
 of:Int
 text:ByteArray
 lines:Sl bq
instance aqf:Inhabited aI:=⟨⟨0,0,0,0,0,ByteArray.empty,⟨[],J,0⟩⟩⟩
def aI.cells (x:aI):List aj:= [G F x.id,G F x.bF,G F x.date,G F x.kind,G F x.of,av x.text,x.lines.val]
theorem aI.len (x:aI):x.cells.length=7:=rfl
def aI.Ok (w:Z) (x:aI):Prop:=Wf x.id/\Wf x.bF/\Wf x.date/\Wf x.kind/\Wf x.of/\x.text.size<=bK/\(x.lines.pW w bq.cells 3/\ ∀ y∈x.lines.l,bq.Ok w y)
theorem aI.Ok.step {w w2:Z} {x:aI} (h:x.Ok w) (hb:Below w.heap.size w w2):x.Ok w2:=⟨h.1,h.2.1,h.2.2.1,h.2.2.2.1,h.2.2.2.2.1,h.2.2.2.2.2.1,⟨(h.2.2.2.2.2.2).1.step hb,λy hy=>((h.2.2.2.2.2.2).2 y hy).step hb⟩⟩
theorem aI.at_ {w:Z} {B:Nat} {A:Option aG} {l:List aI} (h:Rd w B 7 A l.length (cellsOf aI.cells l)) {k:Nat} (hk:k<l.length):
 ∃ b o,A=N ⟨b,o,J⟩/\b<B/\w.cell? ⟨b,o+k*7,J⟩=N (G F l[k].id)/\w.cell? ⟨b,o+k*7+1,J⟩=N (G F l[k].bF)/\w.cell? ⟨b,o+k*7+2,J⟩=N (G F l[k].date)/\w.cell? ⟨b,o+k*7+3,J⟩=N (G F l[k].kind)/\w.cell? ⟨b,o+k*7+4,J⟩=N (G F l[k].of)/\w.cell? ⟨b,o+k*7+5,J⟩=N (av l[k].text)/\w.cell? ⟨b,o+k*7+6,J⟩=N (l[k].lines.val):=by
 obtain⟨b,o,e,hb,hc⟩:=qj (f:=aI.cells) (sz:=7) (λ_=>rfl) h hk;exact⟨b,o,e,hb,hc 0 _ rfl,hc 1 _ rfl,hc 2 _ rfl,hc 3 _ rfl,hc 4 _ rfl,hc 5 _ rfl,hc 6 _ rfl⟩
theorem aI.one (x:aI): ∀ u∈x.cells,u.oneCell'=ae:=by
 intro u hu;simp only[aI.cells,fT,lV,lW]at hu
 rcases hu with rfl|rfl|rfl|rfl|rfl|rfl|rfl
 all_goals rfl
theorem aI.info:(ak.info? 107).map (λi=>(i.zero,i.size,i.bytes))=N (N (az #[G F 0,G F 0,G F 0,G F 0,G F 0,av ⟨#[]⟩,T J 0 0]),7,80):=ai
theorem alb:kN enc ak w base spare held 107 aI.cells (aI.Ok w):=
 (sO mH ai (dI (k:=1) (fB dh) rfl ai (dI (k:=1) (fB dh) rfl ai (dI (k:=1) (fB dh) rfl ai (dI (k:=1) (fB dh) rfl ai (dI (k:=1) (fB dh) rfl ai (dI (k:=1) (He zF) rfl ai (dI (k:=1) (wN PW ai aJ bq.len ale) rfl ai (sN _))))))))).map (λp=>⟨p.1,p.2.1,p.2.2.1,p.2.2.2.1,p.2.2.2.2.1,p.2.2.2.2.2.1,p.2.2.2.2.2.2.1⟩) (λ_=>rfl) (λ_ h=>⟨h.1,h.2.1,h.2.2.1,h.2.2.2.1,h.2.2.2.2.1,h.2.2.2.2.2.1,h.2.2.2.2.2.2.1⟩)
structure aW where
 cK:ByteArray
 kind:Int
 eF:Int
 value:Int
instance aqn:Inhabited aW:=⟨⟨ByteArray.empty,0,0,0⟩⟩
def aW.cells (x:aW):List aj:= [av x.cK,G F x.kind,G F x.eF,G F x.value]
theorem aW.len (x:aW):x.cells.length=4:=rfl
def aW.Ok (w:Z) (x:aW):Prop:=x.cK.size<=bK/\Wf x.kind/\Wf x.eF/\Wf x.value
theorem aW.at_ {w:Z} {B:Nat} {A:Option aG} {l:List aW} (h:Rd w B 4 A l.length (cellsOf aW.cells l)) {k:Nat} (hk:k<l.length):
 ∃ b o,A=N ⟨b,o,J⟩/\b<B/\w.cell? ⟨b,o+k*4,J⟩=N (av l[k].cK)/\w.cell? ⟨b,o+k*4+1,J⟩=N (G F l[k].kind)/\w.cell? ⟨b,o+k*4+2,J⟩=N (G F l[k].eF)/\w.cell? ⟨b,o+k*4+3,J⟩=N (G F l[k].value):=by
 obtain⟨b,o,e,hb,hc⟩:=qj (f:=aW.cells) (sz:=4) (λ_=>rfl) h hk;exact⟨b,o,e,hb,hc 0 _ rfl,hc 1 _ rfl,hc 2 _ rfl,hc 3 _ rfl⟩
theorem aW.one (x:aW): ∀ u∈x.cells,u.oneCell'=ae:=by
 intro u hu;simp only[aW.cells,fT,lV,lW]at hu
 rcases hu with rfl|rfl|rfl|rfl
 all_goals rfl
theorem aW.info:(ak.info? 136).map (λi=>(i.zero,i.size,i.bytes))=N (N (az #[av ⟨#[]⟩,G F 0,G F 0,G F 0]),4,40):=ai
theorem ali:kN enc ak w base spare held 136 aW.cells (aW.Ok w):=
 (sO Tryz.underlying136 ai (dI (k:=1) (He zF) rfl ai (dI (k:=1) (fB dh) rfl ai (dI (k:=1) (fB dh) rfl ai (dI (k:=1) (fB dh) rfl ai (sN _)))))).map (λp=>⟨p.1,p.2.1,p.2.2.1,p.2.2.2.1⟩) (λ_=>rfl) (λ_ h=>⟨h.1,h.2.1,h.2.2.1,h.2.2.2.1⟩)
structure aM where
 holder:Int
 bF:Int
 date:Int
 share:Int
instance aqg:Inhabited aM:=⟨⟨0,0,0,0⟩⟩
def aM.cells (x:aM):List aj:= [G F x.holder,G F x.bF,G F x.date,G F x.share]
theorem aM.len (x:aM):x.cells.length=4:=rfl
def aM.Ok (w:Z) (x:aM):Prop:=Wf x.holder/\Wf x.bF/\Wf x.date/\Wf x.share
theorem aM.at_ {w:Z} {B:Nat} {A:Option aG} {l:List aM} (h:Rd w B 4 A l.length (cellsOf aM.cells l)) {k:Nat} (hk:k<l.length):
 ∃ b o,A=N ⟨b,o,J⟩/\b<B/\w.cell? ⟨b,o+k*4,J⟩=N (G F l[k].holder)/\w.cell? ⟨b,o+k*4+1,J⟩=N (G F l[k].bF)/\w.cell? ⟨b,o+k*4+2,J⟩=N (G F l[k].date)/\w.cell? ⟨b,o+k*4+3,J⟩=N (G F l[k].share):=by
 obtain⟨b,o,e,hb,hc⟩:=qj (f:=aM.cells) (sz:=4) (λ_=>rfl) h hk;exact⟨b,o,e,hb,hc 0 _ rfl,hc 1 _ rfl,hc 2 _ rfl,hc 3 _ rfl⟩
theorem ald:kN enc ak w base spare held 79 aM.cells (aM.Ok w):=
 (sO PX ai (dI (k:=1) (fB dh) rfl ai (dI (k:=1) (fB dh) rfl ai (dI (k:=1) (fB dh) rfl ai (dI (k:=1) (fB dh) rfl ai (sN _)))))).map (λp=>⟨p.1,p.2.1,p.2.2.1,p.2.2.2.1⟩) (λ_=>rfl) (λ_ h=>⟨h.1,h.2.1,h.2.2.1,h.2.2.2.1⟩)
structure dz where
 id:Int
 left:Sl aO
 right:Sl aO
 state:Int
instance aqk:Inhabited dz:=⟨⟨0,⟨[],J,0⟩,⟨[],J,0⟩,0⟩⟩
def dz.cells (x:dz):List aj:= [G F x.id,x.left.val,x.right.val,G F x.state]
theorem dz.len (x:dz):x.cells.length=4:=rfl
def dz.Ok (w:Z) (x:dz):Prop:=Wf x.id/\(x.left.pW w aO.cells 2/\ ∀ y∈x.left.l,aO.Ok w y)/\(x.right.pW w aO.cells 2/\ ∀ y∈x.right.l,aO.Ok w y)/\Wf x.state
theorem dz.at_ {w:Z} {B:Nat} {A:Option aG} {l:List dz} (h:Rd w B 4 A l.length (cellsOf dz.cells l)) {k:Nat} (hk:k<l.length):
 ∃ b o,A=N ⟨b,o,J⟩/\b<B/\w.cell? ⟨b,o+k*4,J⟩=N (G F l[k].id)/\w.cell? ⟨b,o+k*4+1,J⟩=N (l[k].left.val)/\w.cell? ⟨b,o+k*4+2,J⟩=N (l[k].right.val)/\w.cell? ⟨b,o+k*4+3,J⟩=N (G F l[k].state):=by
 obtain⟨b,o,e,hb,hc⟩:=qj (f:=dz.cells) (sz:=4) (λ_=>rfl) h hk;exact⟨b,o,e,hb,hc 0 _ rfl,hc 1 _ rfl,hc 2 _ rfl,hc 3 _ rfl⟩
theorem dz.one (x:dz): ∀ u∈x.cells,u.oneCell'=ae:=by
 intro u hu;simp only[dz.cells,fT,lV,lW]at hu
 rcases hu with rfl|rfl|rfl|rfl
 all_goals rfl
theorem dz.info:(ak.info? 58).map (λi=>(i.zero,i.size,i.bytes))=N (N (az #[G F 0,T J 0 0,T J 0 0,G F 0]),4,64):=ai
theorem alg:kN enc ak w base spare held 58 dz.cells (dz.Ok w):=
 (sO Tryz.underlying58 ai (dI (k:=1) (fB dh) rfl ai (dI (k:=1) (wN FD ai aJ aO.len aa1) rfl ai (dI (k:=1) (wN FD ai aJ aO.len aa1) rfl ai (dI (k:=1) (fB dh) rfl ai (sN _)))))).map (λp=>⟨p.1,p.2.1,p.2.2.1,p.2.2.2.1⟩) (λ_=>rfl) (λ_ h=>⟨h.1,h.2.1,h.2.2.1,h.2.2.2.1⟩)
structure uI where
 period:Int
 abW:Int
 X7:Int
 amount:Int
 dL:Int
instance aqr:Inhabited uI:=⟨⟨0,0,0,0,0⟩⟩
def uI.cells (x:uI):List aj:= [G F x.period,G F x.abW,G F x.X7,G F x.amount,G F x.dL]
theorem uI.len (x:uI):x.cells.length=5:=rfl
def uI.Ok (w:Z) (x:uI):Prop:=Wf x.period/\Wf x.abW/\Wf x.X7/\Wf x.amount/\Wf x.dL
theorem alk:kN enc ak w base spare held 408 uI.cells (uI.Ok w):=
 (sO Tryz.underlying408 ai (dI (k:=1) (fB dh) rfl ai (dI (k:=1) (fB dh) rfl ai (dI (k:=1) (fB dh) rfl ai (dI (k:=1) (fB dh) rfl ai (dI (k:=1) (fB dh) rfl ai (sN _))))))).map (λp=>⟨p.1,p.2.1,p.2.2.1,p.2.2.2.1,p.2.2.2.2.1⟩) (λ_=>rfl) (λ_ h=>⟨h.1,h.2.1,h.2.2.1,h.2.2.2.1,h.2.2.2.2.1⟩)
structure Bp where
 group:zL
 entries:Sl aI
 UO:Sl aW
 Ua:Sl aM
 Ux:Sl dz
 U7:Sl uI
 rules:ByteArray
def Bp.cells (x:Bp):List aj:= [av x.group.cK,G F x.group.Ew.year,G F x.group.Ew.month,G F x.group.Ew.O3,x.group.jw.val,G F x.group.dG.dU,G F x.group.dG.dR,G F x.group.dG.dO,G F x.group.dG.inventory,G F x.group.dG.reserve,G F x.group.dG.dV,G F x.group.dG.dJ,G F x.group.dG.acquired,G F x.group.dG.dX,G F x.group.dG.dP,G F x.group.dG.dN,G F x.group.dG.dQ,G F x.group.dG.dW,G F x.group.dG.difference,G F x.group.dG.dL,x.group.Gw.val,x.entries.val,x.UO.val,x.Ua.val,x.Ux.val,x.U7.val,av x.rules]
def Bp.Ok (w:Z) (x:Bp):Prop:=zL.Ok w x.group/\(x.entries.pW w aI.cells 7/\ ∀ y∈x.entries.l,aI.Ok w y)/\(x.UO.pW w aW.cells 4/\ ∀ y∈x.UO.l,aW.Ok w y)/\(x.Ua.pW w aM.cells 4/\ ∀ y∈x.Ua.l,aM.Ok w y)/\(x.Ux.pW w dz.cells 4/\ ∀ y∈x.Ux.l,dz.Ok w y)/\(x.U7.pW w uI.cells 5/\ ∀ y∈x.U7.l,uI.Ok w y)/\x.rules.size<=bK
theorem ak8:kN enc ak w base spare held 36 Bp.cells (Bp.Ok w):=
 (sO jB ai (dI (k:=21) (alc) rfl ai (dI (k:=1) (wN PY ai aJ aI.len alb) rfl ai (dI (k:=1) (wN Tryz.underlying31 ai aJ aW.len ali) rfl ai (dI (k:=1) (wN Tryz.underlying32 ai aJ aM.len ald) rfl ai (dI (k:=1) (wN Tryz.underlying33 ai aJ dz.len alg) rfl ai (dI (k:=1) (wN Tryz.underlying34 ai aJ uI.len alk) rfl ai (dI (k:=1) (He zF) rfl ai (sN _))))))))).map (λp=>⟨p.1,p.2.1,p.2.2.1,p.2.2.2.1,p.2.2.2.2.1,p.2.2.2.2.2.1,p.2.2.2.2.2.2.1⟩) (λ_=>rfl) (λ_ h=>⟨h.1,h.2.1,h.2.2.1,h.2.2.2.1,h.2.2.2.2.1,h.2.2.2.2.2.1,h.2.2.2.2.2.2.1⟩)
end
abbrev yY:=List UInt8
section
variable {P:dH} {ops:Array dC} {Q:Exit->Act->Z->Prop} {W w:Z} {fuel:Nat} {o:dC} {a:Act} {listed:Array Bool}
def Tg (_:Nat):Prop:=True
theorem tg (n:Nat):Tg n:=trivial
theorem aac {n m:Nat} {rest:List dC} (hT:Tg n) (hS:gH W w)
 (h:Tg m-> ∀ K:Act->Prop,(∀ a',wpAnyH P .any ops Q (λw'=> ∃ d:Later W,w'=d.now) fuel (listed.setIfInBounds n ae) a' w->K a')->o.quiet P a (λw'=> ∃ d:Later W,w'=d.now) K)
 (hm:n+1=m:=by simp only[Nat.reduceAdd];rfl) (hl:ops.toList.drop n=o::rest:=by rfl) (hp:jH o.op=ae:=by rfl) (hs:yB ops=ae:=by kernel_rfl) (hf:yC .any ops listed n=ae:=by kernel_rfl) (hr:(mZ .any ops listed).contains n=ae:=by kernel_rfl)
 (hw:lg o (lh ops a.tmps)=ae:=by rfl) (hQ: ∀ c a v w,Q (.panic c) (Act.put a o.dst v) w->Q (.panic c) a w:=by intros;assumption):
 wpAnyH P .any ops Q (λw'=> ∃ d:Later W,w'=d.now) (fuel+1) listed a w:=aby (i:=n) hl hp hs hf hr hw hQ hS (h trivial)
theorem aaB {n m:Nat} {rest:List dC} (hT:Tg n) (hS:gH W w) (h:Tg m->wpAnyH P .any ops Q (λw'=> ∃ d:Later W,w'=d.now) fuel (listed.setIfInBounds n ae) (a.put o.dst aV) w)
 (hm:n+1=m:=by simp only[Nat.reduceAdd];rfl) (hl:ops.toList.drop n=o::rest:=by rfl) (hs:yB ops=ae:=by kernel_rfl) (hf:yC .any ops listed n=ae:=by kernel_rfl) (hr:(mZ .any ops listed).contains n=ae:=by kernel_rfl)
 (hw:lg o (lh ops a.tmps)=ag:=by rfl) (hQ: ∀ c a v w,Q (.panic c) (Act.put a o.dst v) w->Q (.panic c) a w:=by intros;assumption):
 wpAnyH P .any ops Q (λw'=> ∃ d:Later W,w'=d.now) (fuel+1) listed a w:=abx (i:=n) hl hs hf hr hw hQ hS (h trivial)
end
section
variable {P:dH} {ops:Array dC} {Q:Exit->Act->Z->Prop} {W w:Z} {fuel:Nat} {a:Act} {listed:Array Bool}
theorem UU {is:List Nat} (hr:mZ .any ops listed=is) (hne:is≠ [])
 (h: ∀ j∈is,∃ o,ops[j]? =N o/\lg o (lh ops a.tmps)=ae/\
  ∀ K:Act->Z->Prop,(∀ a' w',gH W w'->(gH W w'->wpAnyH P .any ops Q (λw'=> ∃ d:Later W,w'=d.now) fuel (listed.setIfInBounds j ae) a' w')->K a' w')->o.wp P a w K Q):
 wpAnyH P .any ops Q (λw'=> ∃ d:Later W,w'=d.now) (fuel+1) listed a w:=by
 refine wpAnyH_all hr hne λj hj=> ?_
 obtain⟨o,h1,hw,h2⟩:=h j hj;unfold wpOp;rw[h1];show if lg o (lh ops a.tmps)=ae then _ else _
 rw[bB hw];exact .inl (h2 _ λa' w' hn hh=>⟨hn,hh hn⟩)
end
def nS (P:dH) (k e:TypeId) (w:Z) (b n:Nat) (S:List yY):Prop:=
 ∃ D:DataW Unit,w.ownsMap P k (plainElem P e) b n D/\Maps.IsMap D/\(∀ x:yY,D.atKey (.string x) (.lit (.bool ag))= .lit (.bool (decide (x∈S))))/\ ∀ x:yY,Maps.has D (.string x)=decide (x∈S)
section
variable {P:dH} {k e t:TypeId} {w w':Z} {b n:Nat} {S:List yY}
theorem nS.made (w:Z):nS P k e (w.alloc (.map #[] 0)) w.heap.size 0 []:=⟨.map [],H8 _ _ _ _,H9,λ_=>by simp[DataW.atKey],λ_=>by simp[Maps.has_eq]⟩
theorem nS.kept {row:Option Nat} (h:nS P k e w b n S) (hg:w.grownBy w' row) (hne:N b≠row):nS P k e w' b n S:=by obtain⟨D,h,r⟩:=h;exact⟨D,h.kept hg hne,r⟩
theorem nS.step (h:nS P k e w b n S) (hb:Below w.heap.size w w'):nS P k e w' b n S:=h.kept (sF hb J) aL
theorem nS.alloc (h:nS P k e w b n S) (o:Obj):nS P k e (w.alloc o) b n S:=h.kept (zB w o J) aL
theorem nS.look (h:nS P k e w b n S) (hk:P.underlying k=N .string) (he:P.underlying e=N .bool) (ht:P.underlying t=N (.map k e)) (hz:(zeroValue e).run P w= .ok (aA ag) w)
 {s:ByteArray} (hs:s.size<=bK):(Instr.lookup t (.map (N b)) (av s) ag).run P w= .ok (aA (decide (s.data.toList∈S))) w:=by
 obtain⟨D,h,_,hD,_⟩:=h;obtain⟨v,ps,hrun,hv⟩:=h.lookup (Maps.string_keyed hk) ht hz (FB he ag) (WideMaps.keyOf_string_mk hk hs);obtain⟨x,rfl,e2⟩:=O5 he hv;rw[hD s.data.toList]at e2;injection e2 with e2 _
 injection e2 with e2
 injection e2 with e2
 rw[hrun,e2]
theorem ab7 {c d:yY} (h:c≠d):Lit.string c≠Lit.string d:=λe=>h (by injection e)
theorem nS.put {D:DataW Unit} {c:yY} (hm:Maps.IsMap D) (hD: ∀ x:yY,D.atKey (.string x) (.lit (.bool ag))= .lit (.bool (decide (x∈S)))) (hh: ∀ x:yY,Maps.has D (.string x)=decide (x∈S))
 (h2:w'.ownsMap P k (plainElem P e) b (n+1) (D.put (.string c) (.lit (.bool ae)))):nS P k e w' b (n+1) (S++ [c]):=by
 refine⟨_,h2,hm.put _ _,λd=> ?_,λd=> ?_⟩
 ·by_cases hd:d=c
  ·subst hd;rw[Ma hm (show WideAt.IsKeyLit (.string d) from trivial)];simp
  ·rw[Mc (ab7 hd),hD d];simp[hd]
 ·by_cases hd:d=c
  ·subst hd;rw[P9 hm (show WideAt.IsKeyLit (.string d) from trivial)];simp
  ·rw[Qa (ab7 hd),hh d];simp[hd]
theorem ao5 {ops:Array dC} {rest:List dC} {o:dC} {a:Act} {Q:Exit->Act->Z->Prop} (hg:o.guard=J) (m x v:lU) (t:TypeId) (hop:o.op=Op.mapUpdate t m x v)
 (hk:P.underlying k=N .string) (he:P.underlying e=N .bool) (ht:P.underlying t=N (.map k e)) (h:nS P k e w b n S) (hn:n<bK) (s:ByteArray) (hs:s.size<=bK)
 (hm:a.eval m= .map (N b)) (hx:a.eval x= av s) (hv:a.eval v= aA ae)
 (hK: ∀ w',nS P k e w' b (n+1) (S++ [s.data.toList])->w.grownBy w' (N b)->wpList P ops Q rest (a.put o.dst aV) w'):wpList P ops Q (o::rest) a w:=by
 obtain⟨D,h,hM,hD,hh⟩:=h;exact PN w hg m x v t hop k e (Maps.string_keyed hk) ht _ b n D hm h hn _ _ _ hx hv (WideMaps.keyOf_string_mk hk hs) _ [] (FB he ae) λw' h2 g2=>hK w' (nS.put hM hD hh h2) g2
end
section
variable {P:dH} {ops:Array dC} {w W:Z} {o:dC} {rest:List dC} {a:Act} {g:Nat} {t bA:TypeId} {cs:Array aj} {fs:Array Field}
theorem abP (x:lU) (ho:o.op= .load bA x) (hx:a.eval x= aN (N ⟨g,0,J⟩)) (h:au w g t cs) (hu:P.underlying bA=N (.struct fs))
 (hi:(P.info? bA).map (·.size)=N cs.size):(execOp a.eval o).run P w= .ok (.value (az cs)) w:=by
 unfold execOp;simp only[ho,hx,Instr.loadAt,Instr.sureAddr,yA,Mf,Mg,Mm w g t bA cs (0,0) _ h hu rfl hi]
theorem cZ {Q:Exit->Act->Z->Prop} (bA:TypeId) (x:lU) (ho:o.op= .load bA x) (g:Nat) (hx:a.eval x= aN (N ⟨g,0,J⟩)) (hw:lg o (lh ops a.tmps)=ae)
 (h:au w g t cs) (hu:P.underlying bA=N (.struct fs)) (hi:(P.info? bA).map (·.size)=N cs.size)
 (hK:wpList P ops Q rest (a.put o.dst (az cs)) w):wpList P ops Q (o::rest) a w:=
 BigFrame.wpList_want hw λ_ hh=>wp_load_row bA x ho g hx t cs (0,0) _ h hu rfl hi (hh _ _ hK)
theorem zq {Q:Act->Prop} (bA:TypeId) (x:lU) (ho:o.op= .load bA x) (g:Nat) (hx:a.eval x= aN (N ⟨g,0,J⟩)) (hw:lg o (lh ops a.tmps)=ae)
 (h:au W g t cs) (hu:P.underlying bA=N (.struct fs)) (hi:(P.info? bA).map (·.size)=N cs.size)
 (hK:wpQuiet P ops (λw'=> ∃ d:Later W,w'=d.now) Q rest (a.put o.dst (az cs))):wpQuiet P ops (λw'=> ∃ d:Later W,w'=d.now) Q (o::rest) a:=by
 refine BigFrame.wpQuiet_want hw λK hh=>⟨az cs,λw' hw'=> ?_,hh _ hK⟩
 obtain⟨dd,rfl⟩:=hw';unfold Oper.quietAt;rw[abP x ho hx (h.step dd.below) hu hi];exact⟨rfl,rfl⟩
theorem amK {Q:Exit->Act->Z->Prop} {i fuel:Nat} {listed:Array Bool} (hl:ops.toList.drop i=o::rest) (bA:TypeId) (x:lU) (ho:o.op= .load bA x) (g:Nat) (hx:a.eval x= aN (N ⟨g,0,J⟩))
 (hs:yB ops=ae) (hf:yC .any ops listed i=ae) (hr:(mZ .any ops listed).contains i=ae)
 (hw:lg o (lh ops a.tmps)=ae) (hQ: ∀ c a v w,Q (.panic c) (Act.put a o.dst v) w->Q (.panic c) a w) (hS:gH W w)
 (h:au W g t cs) (hu:P.underlying bA=N (.struct fs)) (hi:(P.info? bA).map (·.size)=N cs.size)
 (hK:wpAnyH P .any ops Q (λw'=> ∃ d:Later W,w'=d.now) fuel (listed.setIfInBounds i ae) (a.put o.dst (az cs)) w):
 wpAnyH P .any ops Q (λw'=> ∃ d:Later W,w'=d.now) (fuel+1) listed a w:=by
 refine wpAnyH_take (v:= az cs) (drop_at hl) hs hf hr (λc a w h=>hQ c a _ w h) (.inl ⟨hw,λw' hw'=> ?_⟩) hS hK;obtain⟨dd,rfl⟩:=hw';exact abP x ho hx (h.step dd.below) hu hi
theorem acm {Q:Exit->Act->Z->Prop} (t:TypeId) (len:Nat) (parts:Array (Nat×lU)) (ho:o.op= .buildSlice t len parts) (h:wpList P ops Q (o::rest) a w):wpList P ops Q (o::rest) a w:=h
theorem jL {Q:Exit->Act->Z->Prop} (hg:o.guard=J) (dst:Tmp) (hdst:o.dst=N dst) (bA:TypeId) (parts:Array (Nat×lU)) (ho:o.op= .build bA parts) (cs:Array aj)
 (h:P.built bA (parts.map λ(i,x)=>(i,a.eval x)).toList=N cs) (hK:wpList P ops Q rest (a.put (N dst) (az cs)) w):wpList P ops Q (o::rest) a w:=by
 refine wpList_plain hg λK' hK'=> ?_
 have h1:(execOp a.eval o).run P w= .ok (.value (az cs)) w:=by
  unfold execOp;simp only[ho,yA,Mf,Mg,run_build w bA _ cs h]
 unfold Oper.wp;rw[h1,Oper.upon_value,hdst];exact hK' _ _ hK
end
section
variable {α β:Type}
end
def strike (left:Lit->Bool) (x:Int):Lit->Bool:=λz=>left z&& !z.sameKey (.int .i64 x)
theorem ab8 (left:Lit->Bool) (x c:Int):strike left x (.int .i64 c)=(if c=x then ag else left (.int .i64 c)):=by
 unfold strike
 by_cases h:c=x
 ·subst h;rw[bB rfl,WideAt.sameKey_self (show WideAt.IsKeyLit (.int .i64 c) from trivial)];simp
 ·rw[bE h,Maps.sameKey_ne (λe=>h (by injection e))];simp
def Hu (l:List Int):List Int:=l.mergeSort λx y=>decide (x<=y)
theorem aoe (l:List Int):(Hu l).length=l.length:=(Vx l _).length_eq
theorem aof (l:List Int) (c:Int):c∈Hu l↔c∈l:=(Vx l _).mem_iff
theorem aod {l:List Int} (h:l.Nodup):(Hu l).Pairwise (· < ·):=by
 have h1:(Hu l).Pairwise (λx y=>decide (x<=y)=ae):=List.pairwise_mergeSort (λa b c h1 h2=>by simp at h1 h2 |-;omega) (λa b=>bL) l;have h2:(Hu l).Nodup:=(Vx l _).nodup_iff.2 h;have h3:=List.Pairwise.and h1 h2;refine h3.imp λ{a b} h=> ?_
 simp only[dm,ne_eq]at h;omega
theorem aa5 {w w':Z} {base base':Nat} {e e':TypeId} {sz sz' n n':Nat} {v v':aj} {xs xs':List aj} (h:w.ownsRow base e sz v n xs) (h':w.ownsRow base' e' sz' v' n' xs') (hne:e≠e') (hg:w.grownBy w' v'.ownBlock):w'.ownsRow base e sz v n xs:=by
 refine h.kept hg ?_
 rcases h.2 with ⟨rfl,_⟩|⟨g,cap,cur,rfl,_,hh,_⟩
 ·exact .inl rfl
 ·right
  rcases h'.2 with ⟨rfl,_⟩|⟨g',cap',cur',rfl,_,hh',_⟩
  ·simp[yz]
  ·simp only[yz,ne_eq,Fy];rintro rfl;rw[hh]at hh';injection hh' with hh'
   injection hh' with _ hh'
   exact hne hh'
theorem AX {w:Z} {base:Nat} {e:TypeId} {sz n c:Nat} {A:Option aG} {xs:List aj} (h:w.ownsRow base e sz (T A n c) n xs):Rd w w.heap.size sz A n xs:=by
 obtain⟨A',c',e1,h1⟩:=Rd.dE h;injection e1 with e1 e2 e3
 subst e1;exact h1
theorem UM {w:Z} {base:Nat} {e:TypeId} {size:Nat} {v:aj} {n:Nat} {xs:List aj} (h:w.ownsRow base e size v n xs) (hn:0<n):
 ∃ g cap cur,v= .slice (N ⟨g,0,J⟩) n cap/\base<=g/\au w g e cur/\n<=cap/\ ∀ (j:Nat) (u:aj),xs[j]? =N u->cur[j]? =N u:=by
 have h0:=h
 rcases h.2 with ⟨_,h0⟩|⟨g,cap,cur,hv,hb,hg,hnc,_⟩
 ·omega
 ·refine⟨g,cap,cur,hv,hb,hg,hnc,λj u hu=> ?_⟩;have:=h0.cells (g:=g) (by rw[hv];rfl) j u hu;rw[Ae]at this;rw[<- (show au w g e cur from hg).cell j];exact this
theorem au.ne {w:Z} {g g':Nat} {t t':TypeId} {cs cs':Array aj} (h:au w g t cs) (h':au w g' t' cs') (ht:t≠t'):g≠g':=by
 rintro rfl;unfold au at h h';rw[h]at h';injection h' with h'
 injection h' with _ h' _
 exact ht h'
theorem gF {w:Z} {base:Nat} {e:TypeId} {size:Nat} {v:aj} {n:Nat} {xs:List aj} (h:w.ownsRow base e size v n xs) {g:Nat} {t:TypeId} {cs:Array aj} (hB:au w g t cs) (ht:t≠e):N g≠v.ownBlock:=by
 rcases h.2 with ⟨h,_⟩|⟨g',cap,cur,h,_,hg,_⟩
 ·rw[h];simp[yz]
 ·rw[h];simp only[yz,ne_eq,Fy];intro e;exact hB.ne (show au w g' _ cur from hg) ht e
theorem eT (w:Z) (o:Obj) (t:TypeId) (cs:Array aj):au ((w.alloc o).alloc (U cs t)) (w.heap.size+1) t cs:=by
 have:=au.new (w.alloc o) t cs
 rwa [fG]at this
section
variable {α:Type} {f:α->List aj} {sz:Nat} (hf: ∀ a,(f a).length=sz)
include hf
theorem amE {w:Z} {B:Nat} {A:Option aG} {l:List α} (h:Rd w B sz A l.length (cellsOf f l)) (n:Nat) (hn:n<=l.length):Rd w B sz A (l.take n).length (cellsOf f (l.take n)):=by
 refine⟨Ce hf _,λh0=> ?_⟩;obtain⟨b,o,e,hb,hc⟩:=h.2 (by rw[jR]at h0;omega);refine⟨b,o,e,hb,λj u hu=>hc j u ?_⟩;have e2:cellsOf f l=cellsOf f (l.take n)++cellsOf f (l.drop n):=by rw[<- y8,Ml]
 rw[e2,Ic (vg.1 hu).1];exact hu
end
section
open Go.Maps (Keyed)
theorem Da (n:Int) (w:Z):aF ak 116 #[G F n] w (λe w'=>e= bM (aA (pF n))/\w=w'):=by
 have HE:Hid (pF n=(decide (-1000000000000<=n)&&decide (n<=1000000000000))):=I rfl
 by_cases h1: -1000000000000<=n
 ·by_cases h2:n<=1000000000000
  all_goals
   go_enter Tryz.func116,Tryz.ntmps116;go_wp2_with fail;go_ret;exact⟨gz (by rw[HE.out];simp[h1,h2]<;>omega),rfl⟩
 ·go_enter Tryz.func116,Tryz.ntmps116;go_wp2_with fail;go_ret;exact⟨gz (by rw[HE.out];simp[h1]<;>omega),rfl⟩
end
theorem mQ {w:Z} {g:Nat} {t:TypeId} {cs:Array aj} (h:au w g t cs) (cs':Array aj):au (w.setRow g cs') g t cs':=setRow_heap w g cs cs' t (0,0) h
theorem NS {w:Z} {g g':Nat} {t:TypeId} {cs:Array aj} (h:au w g t cs) (hg:g≠g') (cs':Array aj):au (w.setRow g' cs') g t cs:=(FE w g' g cs' hg).trans h
theorem oJ {B g:Nat} {w w':Z} {cs:Array aj} (h:Below B w w') (hg:B<=g):Below B w (w'.setRow g cs):=
 ⟨h.os,h.tape,h.output,by have:=h.size;simpa [World.setRow] using this,λb hb=>(FE w' g b cs O).trans (h.block b hb)⟩
section
variable {P:dH} {ops:Array dC} {w W:Z} {o:dC} {rest:List dC} {a:Act} {t bA:TypeId} {fs:Array Field}
theorem gP {Q:Exit->Act->Z->Prop} (hgd:o.guard=J) (ty:TypeId) (x:lU) (ho:o.op= .load ty x) (b off:Nat) (hx:a.eval x= aN (N ⟨b,off,J⟩)) (arr:Array aj) (hc:w.rangeAt b off arr.toList)
 (hu:P.underlying ty=N (.struct fs)) (n:Nat) (hi:(P.info? ty).map (·.size)=N n) (hn:arr.size=n)
 (h:wpList P ops Q rest (a.put o.dst (az arr)) w):wpList P ops Q (o::rest) a w:=
 wpList_load_mid hgd ty x ho b off hx arr.toList _ hc hu rfl (by rw[hi,oq,hn]) (by simpa using h)
theorem jP {Q:Exit->Act->Z->Prop} (hg:o.guard=J) (dst:Tmp) (hdst:o.dst=N dst) (bA:TypeId) (parts:Array (Nat×lU)) (ho:o.op= .build bA parts) (cs:Array aj) (vs:List (Nat×aj))
 (hv:(parts.map λ(i,x)=>(i,a.eval x)).toList=vs) (h:P.built bA vs=N cs) (hK:wpList P ops Q rest (a.put (N dst) (az cs)) w):wpList P ops Q (o::rest) a w:=
 jL hg dst hdst bA parts ho cs (hv ▸ h) hK
theorem amf {Q:Act->Prop} (ty:TypeId) (x:lU) (ho:o.op= .load ty x) (b off:Nat) (hx:a.eval x= aN (N ⟨b,off,J⟩)) (hw:lg o (lh ops a.tmps)=ae) (arr:Array aj) (hc:W.rangeAt b off arr.toList) (hb:b<W.heap.size)
 (hu:P.underlying ty=N (.struct fs)) (n:Nat) (hi:(P.info? ty).map (·.size)=N n) (hn:arr.size=n)
 (hK:wpQuiet P ops (λw'=> ∃ d:Later W,w'=d.now) Q rest (a.put o.dst (az arr))):wpQuiet P ops (λw'=> ∃ d:Later W,w'=d.now) Q (o::rest) a:=by
 refine BigFrame.wpQuiet_want hw λK hh=>⟨az arr,λw' hw'=> ?_,hh _ hK⟩
 obtain⟨dd,rfl⟩:=hw';have hr:dd.now.rangeAt b off arr.toList:=λj u hu2=>(dd.below.cell (p:=⟨b,off+j,J⟩) hb).trans (hc j u hu2)
 have h1:(execOp a.eval o).run P dd.now= .ok (.value (az arr)) dd.now:=by
  unfold execOp;simp only[ho,hx,Instr.loadAt,Instr.sureAddr,yA,Mf,Mg,run_loadVar_mid dd.now b off ty arr.toList _ hr hu rfl (by rw[hi,oq,hn])]
 unfold Oper.quietAt;rw[h1];exact⟨rfl,rfl⟩
theorem qY {fn:Func} {p q:Tmp} {ty:TypeId} (h:fn.results= #[.cell p ty,.tmp q]) (tmps:Array aj) (w:Z) (g:Nat) (t:TypeId) (cs:Array aj)
 (hp:tmps.getD p aV= aN (N ⟨g,0,J⟩)) (hg:au w g t cs) (hu:P.underlying ty=N (.struct fs)) (hi:(P.info? ty).map (·.size)=N cs.size):
 (results fn tmps).run P w= .ok (bG #[az cs,tmps.getD q aV]) w:=by
 have hp':tmps[p]?.getD aV= aN (N ⟨g,0,J⟩):=by simpa using hp
 simp[results,h,hp',asAddr,Mm w g t ty cs (0,0) _ hg hu rfl hi]
end
theorem Fv (n:Int) (w:Z):aF ak 274 #[G F n] w (λe w'=>e= bM (aA (pF n))/\w=w'):=by
 have HE:Hid (pF n=(decide (-1000000000000<=n)&&decide (n<=1000000000000))):=I rfl
 by_cases h1: -1000000000000<=n
 ·by_cases h2:n<=1000000000000
  all_goals
   go_enter Tryz.func274,Tryz.ntmps274;go_wp2_with fail;go_ret;exact⟨gz (by rw[HE.out];simp[h1,h2]<;>omega),rfl⟩
 ·go_enter Tryz.func274,Tryz.ntmps274;go_wp2_with fail;go_ret;exact⟨gz (by rw[HE.out];simp[h1]<;>omega),rfl⟩
structure uH (B:Nat) (w:Z) where
 now:Z
 below:Below B w now
instance aqu (B:Nat) (w:Z):Nonempty (uH B w):=⟨⟨w,aD _ _⟩⟩
theorem uH.cell {B:Nat} {w:Z} (d:uH B w) {b o:Nat} {v:aj} (hb:b<B) (h:w.cell? ⟨b,o,J⟩=N v):d.now.cell? ⟨b,o,J⟩=N v:=(d.below.cell (p:=⟨b,o,J⟩) hb).trans h
def xP (B:Nat) (W w:Z):Prop:= ∃ d:uH B W,w=d.now
theorem xP.of {B:Nat} {W w:Z} (h:Below B W w):xP B W w:=⟨⟨w,h⟩,rfl⟩
theorem xP.below {B:Nat} {W w:Z} (h:xP B W w):Below B W w:=by obtain⟨d,rfl⟩:=h;exact d.below
def Hz (ops:Array dC) (t i:Nat):Bool:=match ops[t]? with
 |some o=>o.after.any λe=>Region.binds .any e&&e.on==i
 |none=>ae
section
variable {P:dH} {ops:Array dC} {Q:Exit->Act->Z->Prop} {S:Z->Prop}
def jX (P:dH) (ops:Array dC) (Q:Exit->Act->Z->Prop) (S:Z->Prop) (t:Nat):Nat->Array Bool->Act->Z->Prop
 |0,listed,a,w=>mZ .any ops listed= []/\Q .normal a w
 |fuel+1,listed,a,w=>
  (mZ .any ops listed= []->Q .normal a w)/\
  ∀ i∈mZ .any ops listed,wpOp P ops Q i (λa' w'=>(listed.getD t ag=ae\/i=t\/S w')/\jX P ops Q S t fuel (listed.setIfInBounds i ae) a' w') a w
theorem PM {t:Nat}: ∀ (fuel:Nat) (listed:Array Bool) (a:Act) (w:Z),jX P ops Q S t fuel listed a w->wpAny P .any ops Q fuel listed a w
 |0,_,_,_,h=>h
 |fuel+1,_,_,_,h=>⟨h.1,λi hi=>wpOp_mono (λa' w' h'=>PM fuel _ a' w' h'.2) (h.2 i hi)⟩
theorem Oj {l:Array Bool} {i t:Nat} (h:i≠t):(l.setIfInBounds i ae).getD t ag=l.getD t ag:=by
 simp only[Array.getD_eq_getD_getElem?];rw[PZ h]
theorem ack {t i:Nat} {oi:dC} {v:aj} (hit:i≠t) (wG:Hz ops t i=ae) (hi:ops[i]? =N oi) (hsel: ∀ (j:Nat) (o:dC) cs b,ops[j]? =N o->o.op≠ .select cs b)
 (hQ: ∀ c a w,Q (.panic c) (a.put oi.dst v) w->Q (.panic c) a w):
 ∀ (fuel:Nat) (listed:Array Bool) (a:Act) (w:Z),listed.getD t ag=ag->
  (∀ j oj,ops[j]? =N oj->j≠i->listed.getD j ae=ag->(∀ e∈oj.after,Region.binds .any e=ae->e.on≠i)->oi.apart ops oj=ae)->
  i∈mZ .any ops listed->YieldsIf P ops S oi v a->S w->
  jX P ops Q S t fuel (listed.setIfInBounds i ae) (a.put oi.dst v) w->jX P ops Q S t (fuel+1) listed a w:=by
 intro fuel
 induction fuel with
 |zero=>
  intro listed a w _ _ hr hy hS H;refine⟨λh=>(by rw[h]at hr;cases hr),λj hj=> ?_⟩
  by_cases hji:j=i
  ·subst hji;exact hy.wpOp hi hS ⟨.inr (.inr hS),H⟩
  ·have:=Ij hj hji;rw[H.1]at this
   cases this
 |succ fuel ih=>
  intro listed a w ht hfree hr hy hS H;refine⟨λh=>(by rw[h]at hr;cases hr),λj hj=> ?_⟩
  by_cases hji:j=i
  ·subst hji;exact hy.wpOp hi hS ⟨.inr (.inr hS),H⟩
  ·have h1:=H.2 j (Ij hj hji);obtain⟨hjun,oj,hoj,hall⟩:=mem_ready.1 hj;have hnot: ∀ e∈oj.after,Region.binds .any e=ae->e.on≠i:=λe he hb heq=>by
    have h1:=hall e he hb;have h0:=(mem_ready.1 hr).1;rw[heq]at h1
    rcases Bi i listed.size with h'|h'
    ·simp[h']at h0 h1;rw[h0]at h1;cases h1
    ·simp[P5 h']at h1
   have hjt:j≠t:=by
    rintro rfl;unfold Hz at wG;rw[hoj]at wG;simp only[Array.any_eq_true,bR,vD]at wG;obtain⟨x,hx,hb,he⟩:=wG;exact hnot _ (Array.getElem_mem hx) hb he
   have ht1:(listed.setIfInBounds i ae).getD t ag=ag:=by rw[Oj hit];exact ht
   have h2:=wpOp_putIf hoj (hfree j oj hoj hji hjun hnot) (λcs b=>hsel i oi cs b hi) (λcs b=>hsel j oj cs b hoj) hQ hy h1;have hfree': ∀ k ok,ops[k]? =N ok->k≠i->(listed.setIfInBounds j ae).getD k ae=ag->
    (∀ e∈ok.after,Region.binds .any e=ae->e.on≠i)->oi.apart ops ok=ae:=λk ok hk hki hun hno=>by
    refine hfree k ok hk hki ?_ hno
    by_cases hjk:j=k
    ·subst hjk;exact hjun
    ·rw[getD_set_ne ae hjk]at hun;exact hun
   refine wpOp_mono (λa' w' h3=> ?_) h2;have hS':S w':=by
    rcases h3.2.1 with h|h|h
    ·rw[ht1]at h;cases h
    ·exact absurd h hjt
    ·exact h
   refine⟨.inr (.inr hS'),ih (listed.setIfInBounds j ae) a' w' (by rw[Oj hjt];exact ht) hfree' (Ij hr (pK hji)) h3.1 hS' ?_⟩;rw[Array.setIfInBounds_comm _ _ hji];exact h3.2.2
theorem kH {t:Nat} {listed:Array Bool} {a:Act} {w:Z} (hr:mZ .any ops listed= []) (h:Q .normal a w): ∀ fuel,jX P ops Q S t fuel listed a w
 |0=>⟨hr,h⟩
 |_+1=>⟨λ_=>h,by rw[hr];simp⟩
end
section
variable {P:dH} {ops:Array dC} {Q:Exit->Act->Z->Prop} {B t:Nat} {W w:Z} {i fuel:Nat} {o:dC} {a:Act} {listed:Array Bool}
theorem amJ {id n:Nat} {l:List dC} (B t:Nat) (W:Z) (hm:P.follows .mixedOrders=ae) (hn:l.length=n)
 (h:jX P l.toArray Q (λw'=> ∃ d:uH B W,w'=d.now) t n (kZ n ag) a w.drew):(Code.region id l.toArray ae).wp P Q a w:=by
 subst hn;exact wp_region_any hm (PM _ _ _ _ (by simpa using h))
theorem Hm {rest:List dC} (hl:ops.toList.drop i=o::rest) (hp:jH o.op=ae) (hs:yB ops=ae) (hf:yC .any ops listed i=ae) (hr:(mZ .any ops listed).contains i=ae)
 (hw:lg o (lh ops a.tmps)=ae) (hit:decide (i≠t)=ae) (wG:Hz ops t i=ae) (ht:listed.getD t ag=ag) (hQ: ∀ c a v w,Q (.panic c) (Act.put a o.dst v) w->Q (.panic c) a w) (hS:xP B W w)
 (h: ∀ K:Act->Prop,(∀ a',jX P ops Q (λw'=> ∃ d:uH B W,w'=d.now) t fuel (listed.setIfInBounds i ae) a' w->K a')->o.quiet P a (λw'=> ∃ d:uH B W,w'=d.now) K):
 jX P ops Q (λw'=> ∃ d:uH B W,w'=d.now) t (fuel+1) listed a w:=by
 obtain⟨v,h1,h2⟩:=h (λa'=>jX P ops Q (λw'=> ∃ d:uH B W,w'=d.now) t fuel (listed.setIfInBounds i ae) a' w) (λ_ h=>h);refine ack (v:=v) (iY hit) wG (drop_at hl) (Vu hs) (λc a w h=>hQ c a _ w h) fuel listed a w ht (Region.free_spec (drop_at hl) hf) (by simpa using hr) (.inl ⟨hw,λw' hw'=> ?_⟩) hS h2;have h3:=h1 w' hw';unfold Oper.quietAt at h3;generalize hx:(execOp a.eval o).run P w'=r at h3
 cases r with
 |ok n w2=>
  obtain⟨u,rfl⟩:=O7 hp hx;simp only[Oper.quietUpon]at h3;rw[h3.1,h3.2]
 |halt x w2=>simp only[Oper.quietUpon]at h3
theorem Di {rest:List dC} (hr:mZ .any ops listed= [i]) (hl:ops.toList.drop i=o::rest) (hw:lg o (lh ops a.tmps)=ae)
 (h: ∀ K:Act->Z->Prop,(∀ a' w',(listed.getD t ag=ae\/i=t\/xP B W w')->jX P ops Q (λw'=> ∃ d:uH B W,w'=d.now) t fuel (listed.setIfInBounds i ae) a' w'->K a' w')->o.wp P a w K Q):
 jX P ops Q (λw'=> ∃ d:uH B W,w'=d.now) t (fuel+1) listed a w:=by
 refine⟨λh0=>absurd (hr ▸ h0) aL,λj hj=> ?_⟩;rw[hr,iJ]at hj;subst hj;unfold wpOp;rw[drop_at hl];show if lg o (lh ops a.tmps)=ae then _ else _
 rw[bB hw];exact .inl (h _ λa' w' hn hh=>⟨hn,hh⟩)
end
section
variable {H:Type} {enc:TypeId×aj->H} {w:Z} {base:Nat} {spare:Nat->Bool} {held:Bool}
structure bH where
 ref:aO
 amount:Int
instance aql:Inhabited bH:=⟨⟨default,0⟩⟩
def bH.cells (x:bH):List aj:= [G F x.ref.entry,G F x.ref.line,G F x.amount]
theorem bH.len (x:bH):x.cells.length=3:=rfl
theorem bH.at_ {w:Z} {B:Nat} {A:Option aG} {l:List bH} (h:Rd w B 3 A l.length (cellsOf bH.cells l)) {k:Nat} (hk:k<l.length):
 ∃ b o,A=N ⟨b,o,J⟩/\b<B/\w.cell? ⟨b,o+k*3,J⟩=N (G F l[k].ref.entry)/\w.cell? ⟨b,o+k*3+1,J⟩=N (G F l[k].ref.line)/\w.cell? ⟨b,o+k*3+2,J⟩=N (G F l[k].amount):=by
 obtain⟨b,o,e,hb,hc⟩:=qj (f:=bH.cells) (sz:=3) (λ_=>rfl) h hk;exact⟨b,o,e,hb,hc 0 _ rfl,hc 1 _ rfl,hc 2 _ rfl⟩
theorem bH.one (x:bH): ∀ u∈x.cells,u.oneCell'=ae:=by
 intro u hu;simp only[bH.cells,fT,lV,lW]at hu
 rcases hu with rfl|rfl|rfl
 all_goals rfl
theorem bH.info:(ak.info? 74).map (λi=>(i.zero,i.size,i.bytes))=N (N (az #[G F 0,G F 0,G F 0]),3,24):=ai
structure dK where
 left:Sl aO
 right:Sl aO
def dK.cells (x:dK):List aj:= [x.left.val,x.right.val]
theorem dK.len (x:dK):x.cells.length=2:=rfl
theorem dK.at_ {w:Z} {B:Nat} {A:Option aG} {l:List dK} (h:Rd w B 2 A l.length (cellsOf dK.cells l)) {k:Nat} (hk:k<l.length):
 ∃ b o,A=N ⟨b,o,J⟩/\b<B/\w.cell? ⟨b,o+k*2,J⟩=N (l[k].left.val)/\w.cell? ⟨b,o+k*2+1,J⟩=N (l[k].right.val):=by
 obtain⟨b,o,e,hb,hc⟩:=qj (f:=dK.cells) (sz:=2) (λ_=>rfl) h hk;exact⟨b,o,e,hb,hc 0 _ rfl,hc 1 _ rfl⟩
theorem dK.one (x:dK): ∀ u∈x.cells,u.oneCell'=ae:=by
 intro u hu;simp only[dK.cells,fT,lV,lW]at hu
 rcases hu with rfl|rfl
 all_goals rfl
theorem dK.info:(ak.info? 56).map (λi=>(i.zero,i.size,i.bytes))=N (N (az #[T J 0 0,T J 0 0]),2,48):=ai
structure bW where
 ref:aO
 date:Int
 pos:Int
 bF:Int
 line:bq
instance aqm:Inhabited bW:=⟨⟨default,0,0,0,default⟩⟩
def bW.cells (x:bW):List aj:= [G F x.ref.entry,G F x.ref.line,G F x.date,G F x.pos,G F x.bF,G F x.line.ek,G F x.line.amount,G F x.line.partner]
theorem bW.len (x:bW):x.cells.length=8:=rfl
theorem bW.at_ {w:Z} {B:Nat} {A:Option aG} {l:List bW} (h:Rd w B 8 A l.length (cellsOf bW.cells l)) {k:Nat} (hk:k<l.length):
 ∃ b o,A=N ⟨b,o,J⟩/\b<B/\w.cell? ⟨b,o+k*8,J⟩=N (G F l[k].ref.entry)/\w.cell? ⟨b,o+k*8+1,J⟩=N (G F l[k].ref.line)/\w.cell? ⟨b,o+k*8+2,J⟩=N (G F l[k].date)/\w.cell? ⟨b,o+k*8+3,J⟩=N (G F l[k].pos)/\w.cell? ⟨b,o+k*8+4,J⟩=N (G F l[k].bF)/\w.cell? ⟨b,o+k*8+5,J⟩=N (G F l[k].line.ek)/\w.cell? ⟨b,o+k*8+6,J⟩=N (G F l[k].line.amount)/\w.cell? ⟨b,o+k*8+7,J⟩=N (G F l[k].line.partner):=by
 obtain⟨b,o,e,hb,hc⟩:=qj (f:=bW.cells) (sz:=8) (λ_=>rfl) h hk;exact⟨b,o,e,hb,hc 0 _ rfl,hc 1 _ rfl,hc 2 _ rfl,hc 3 _ rfl,hc 4 _ rfl,hc 5 _ rfl,hc 6 _ rfl,hc 7 _ rfl⟩
theorem bW.one (x:bW): ∀ u∈x.cells,u.oneCell'=ae:=by
 intro u hu;simp only[bW.cells,fT,lV,lW]at hu
 rcases hu with rfl|rfl|rfl|rfl|rfl|rfl|rfl|rfl
 all_goals rfl
theorem bW.info:(ak.info? 176).map (λi=>(i.zero,i.size,i.bytes))=N (N (az #[G F 0,G F 0,G F 0,G F 0,G F 0,G F 0,G F 0,G F 0]),8,64):=ai
structure fE where
 from_:Int
 Dp:Int
 method:Int
def fE.cells (x:fE):List aj:= [G F x.from_,G F x.Dp,G F x.method]
theorem fE.at_ {w:Z} {B:Nat} {A:Option aG} {l:List fE} (h:Rd w B 3 A l.length (cellsOf fE.cells l)) {k:Nat} (hk:k<l.length):
 ∃ b o,A=N ⟨b,o,J⟩/\b<B/\w.cell? ⟨b,o+k*3,J⟩=N (G F l[k].from_)/\w.cell? ⟨b,o+k*3+1,J⟩=N (G F l[k].Dp)/\w.cell? ⟨b,o+k*3+2,J⟩=N (G F l[k].method):=by
 obtain⟨b,o,e,hb,hc⟩:=qj (f:=fE.cells) (sz:=3) (λ_=>rfl) h hk;exact⟨b,o,e,hb,hc 0 _ rfl,hc 1 _ rfl,hc 2 _ rfl⟩
theorem fE.one (x:fE): ∀ u∈x.cells,u.oneCell'=ae:=by
 intro u hu;simp only[fE.cells,fT,lV,lW]at hu
 rcases hu with rfl|rfl|rfl
 all_goals rfl
theorem fE.info:(ak.info? 277).map (λi=>(i.zero,i.size,i.bytes))=N (N (az #[G F 0,G F 0,G F 0]),3,24):=ai
structure gV where
 id:Int
 left:Int
 items:Sl bI
instance aqd:Inhabited gV:=⟨⟨0,0,⟨[],J,0⟩⟩⟩
def gV.cells (x:gV):List aj:= [G F x.id,G F x.left,x.items.val]
theorem gV.len (x:gV):x.cells.length=3:=rfl
theorem gV.at_ {w:Z} {B:Nat} {A:Option aG} {l:List gV} (h:Rd w B 3 A l.length (cellsOf gV.cells l)) {k:Nat} (hk:k<l.length):
 ∃ b o,A=N ⟨b,o,J⟩/\b<B/\w.cell? ⟨b,o+k*3,J⟩=N (G F l[k].id)/\w.cell? ⟨b,o+k*3+1,J⟩=N (G F l[k].left)/\w.cell? ⟨b,o+k*3+2,J⟩=N (l[k].items.val):=by
 obtain⟨b,o,e,hb,hc⟩:=qj (f:=gV.cells) (sz:=3) (λ_=>rfl) h hk;exact⟨b,o,e,hb,hc 0 _ rfl,hc 1 _ rfl,hc 2 _ rfl⟩
theorem gV.one (x:gV): ∀ u∈x.cells,u.oneCell'=ae:=by
 intro u hu;simp only[gV.cells,fT,lV,lW]at hu
 rcases hu with rfl|rfl|rfl
 all_goals rfl
theorem gV.info:(ak.info? 122).map (λi=>(i.zero,i.size,i.bytes))=N (N (az #[G F 0,G F 0,T J 0 0]),3,40):=ai
end
section
open Go.Shelf Go.RowKit Go.Lib Go.Sort
theorem Pz {α:Type} [Inhabited α] (d:Array α) (i j:Nat) (hi:i<d.size) (hj:j<d.size):(swp d i j).toList.Perm d.toList:=by
 have h:=(swp_permIn d 0 d.size i j (lq _) hi (lq _) hj (aC _)).2.2;have e:(swp d i j).size=d.size:=size_swp d i j;have e1:(swp d i j).extract 0 d.size=swp d i j:=by rw[<- e];simp
 have e2:d.extract 0 d.size=d:=aL
 rwa [e1,e2]at h
def NI (enc:bW->List aj) (k:Nat) (w0:Z) (blk off:Nat) (d:Array bW) (W:Z):Prop:= ∃ dk:Array bW,dk.size=d.size/\dk.toList.Perm d.toList/\SWK enc k w0 blk off dk W
def kz (enc:bW->List aj) (k:Nat) (w0:Z) (blk off:Nat) (d:Array bW) (e:eG) (W:Z):Prop:=e= .returned (.tuple #[])/\NI enc k w0 blk off d W
theorem NI.trans {enc:bW->List aj} {k:Nat} {w0:Z} {blk off:Nat} {d e:Array bW} {W:Z} (h:NI enc k w0 blk off d W) (hs:d.size=e.size) (hp:d.toList.Perm e.toList):NI enc k w0 blk off e W:=by
 obtain⟨dk,h1,h2,h3⟩:=h;exact⟨dk,h1.trans hs,h2.trans hp,h3⟩
structure xQ (P:dH) (k:Nat):Prop where
 mixed:P.follows .mixedOrders=ae
 fs:P.funcs[305]? =N Tryz.f305
 fr:P.funcs[295]? =N Tryz.f295
 fi:P.funcs[270]? =N Tryz.f270
 fm:P.funcs[271]? =N Tryz.f271
 ft:P.funcs[241]? =N Tryz.f241
 fe:P.funcs[189]? =N Tryz.f189
 t0:P.underlying 0=N (TypeDesc.tuple #[])
 a0: ∀ w,(isAgg 0).run P w= .ok ag w
 z0: ∀ w,(aaR 0).run P w= .ok 1 w
 v0: ∀ w,(zeroValue 0).run P w= .ok (bG #[]) w
 t1:P.underlying 3=N (TypeDesc.int F)
 a1: ∀ w,(isAgg 3).run P w= .ok ag w
 z1: ∀ w,(aaR 3).run P w= .ok 1 w
 v1: ∀ w,(zeroValue 3).run P w= .ok (G F 0) w
 t2:P.underlying 4=N TypeDesc.bool
 a2: ∀ w,(isAgg 4).run P w= .ok ag w
 z2: ∀ w,(aaR 4).run P w= .ok 1 w
 v2: ∀ w,(zeroValue 4).run P w= .ok (aA ag) w
 t3:P.underlying 149=N (TypeDesc.int IntKind.u64)
 a3: ∀ w,(isAgg 149).run P w= .ok ag w
 z3: ∀ w,(aaR 149).run P w= .ok 1 w
 v3: ∀ w,(zeroValue 149).run P w= .ok (G IntKind.u64 0) w
 t4:P.underlying 173=N (TypeDesc.slice 176)
 a4: ∀ w,(isAgg 173).run P w= .ok ag w
 z4: ∀ w,(aaR 173).run P w= .ok 1 w
 v4: ∀ w,(zeroValue 173).run P w= .ok (T J 0 0) w
 t5:P.underlying 287=N (TypeDesc.func #[176,176] #[3] ag)
 a5: ∀ w,(isAgg 287).run P w= .ok ag w
 z5: ∀ w,(aaR 287).run P w= .ok 1 w
 v5: ∀ w,(zeroValue 287).run P w= .ok Value.nilFunc w
 aE: ∀ w,(isAgg 176).run P w= .ok ae w
 zE: ∀ w,(aaR 176).run P w= .ok k w
variable {P:dH} {k:Nat} (L:xQ P k) (enc:bW->List aj) (g:Nat) (cb:Array aj) (blk off cap:Nat) (d0 d:Array bW) (w0 w:Z)
theorem aom (L:xQ P k) (a b n:Nat) (R:RowK enc k w0 blk off d0) (hs:d0.size=d.size) (S:SWK enc k w0 blk off d w) (ha:a+n<=d.size) (hb:b+n<=d.size) (hsz:d.size<4611686018427387904):
 aF P 305 #[T (N ⟨blk,off,J⟩) d.size cap,G F a,G F b,G F n,.func (.func g) #[] cb] w (kz enc k w0 blk off d):=by
 have mixed:=L.mixed;have t0:=L.t0;have a0:=L.a0;have z0:=L.z0;have v0:=L.v0;have t1:=L.t1;have a1:=L.a1;have z1:=L.z1;have v1:=L.v1;have t2:=L.t2;have a2:=L.a2;have z2:=L.z2;have v2:=L.v2;have t3:=L.t3;have a3:=L.a3;have z3:=L.z3;have v3:=L.v3;have t4:=L.t4;have a4:=L.a4;have z4:=L.z4;have v4:=L.v4;have t5:=L.t5;have a5:=L.a5;have z5:=L.z5;have v5:=L.v5;have aE:=L.aE;have zE:=L.zE;have u4:=kY L.t4;have S0:aU (SWK enc k w0 blk off d w):=S;clear S;go_enter L.fs,Tryz.ntmps305;go_wp2;go_loopg [10] n (λkx s8 wr=> ∃ (i:Nat) (dk:Array bW),s8= G F i/\i<=n/\n - i<=kx/\dk.size=d.size/\aU (dk.toList.Perm d.toList)/\aU (SWK enc k w0 blk off dk wr))
 case atStart=>exact⟨0,d,rfl,lq _,aC _,rfl,oz _,S0⟩
 case round=>
  clear S0;obtain⟨i,dk,rfl,hin,hkx,hds,HP,S1⟩:=hrel
  by_cases hlt:i<n
  ·go_wp2_with fail;have ea:((a:Int)+(i:Int)).toNat=a+i:=O;have pa:(0:Int)<=(a:Int)+(i:Int):=O;have ba:(a:Int)+(i:Int)<(d.size:Int):=O;have ra:F.wrap ((a:Int)+(i:Int))=(a:Int)+(i:Int):=by rw[rF];omega
   have ec:((b:Int)+(i:Int)).toNat=b+i:=O;have pc:(0:Int)<=(b:Int)+(i:Int):=O;have bc:(b:Int)+(i:Int)<(d.size:Int):=O;have rc:F.wrap ((b:Int)+(i:Int))=(b:Int)+(i:Int):=by rw[rF];omega
   have S2:aU (SWK enc k w0 blk off (swp dk (a+i) (b+i)) ((wr.drew.setCells blk (off+(a+i)*k) (enc dk[b+i]!)).setCells blk (off+(b+i)*k) (enc dk[a+i]!))):=S1.out.swapped R (a+i) (b+i) O O;have oH:aU ((swp dk (a+i) (b+i)).toList.Perm d.toList):=(Pz dk (a+i) (b+i) O O).trans HP.out;have la:=S1.out.ld1 R O P (a+i) O;have lb:=S1.out.ld1 R O P (b+i) O;have sa:=S1.out.st1 R O P (a+i) O dk[b+i]!;have sb:=S1.out.st2 R O P (a+i) (b+i) O O dk[b+i]! dk[a+i]!;have na:(enc dk[a+i]!).length=k:=R.hk _;have nb:(enc dk[b+i]!).length=k:=R.hk _;generalize enc dk[a+i]! =cI at S2 la sb na;generalize enc dk[b+i]! =cJ at S2 lb sa sb nb;clear S1 HP;go_wp2_with fail;go_big_region_o;clear la lb sa sb;generalize (wr.drew.setCells blk (off+(a+i)*k) cJ).setCells blk (off+(b+i)*k) cI=w2 at S2 |-;go_wp2;go_roundg (n - (i+1))
   case measure=>omega
   case rel=>exact⟨i+1,swp dk (a+i) (b+i),by go_num,O,aC _,by rw[size_swp];exact hds,oH,S2⟩
  ·go_wp2;go_end0;exact⟨rfl,dk,hds,HP.out,S1.out⟩
end
section
open Go.Shelf Go.RowKit Go.Lib Go.Sort
variable {P:dH} {k:Nat} (L:xQ P k) (enc:bW->List aj) (cf:bW->bW->Int) (g:Nat) (cb:Array aj) (blk off cap:Nat) (d0 d:Array bW) (w0 w:Z)
theorem aoj (L:xQ P k) (a m b:Nat) (R:RowK enc k w0 blk off d0) (hs:d0.size=d.size) (S:SWK enc k w0 blk off d w) (kQ:a<m) (hmb:m<b) (hb:b<=d.size) (hsz:d.size<4611686018427387904):
 aF P 295 #[T (N ⟨blk,off,J⟩) d.size cap,G F a,G F m,G F b,.func (.func g) #[] cb] w (kz enc k w0 blk off d):=by
 have mixed:=L.mixed;have t0:=L.t0;have a0:=L.a0;have z0:=L.z0;have v0:=L.v0;have t1:=L.t1;have a1:=L.a1;have z1:=L.z1;have v1:=L.v1;have t2:=L.t2;have a2:=L.a2;have z2:=L.z2;have v2:=L.v2;have t3:=L.t3;have a3:=L.a3;have z3:=L.z3;have v3:=L.v3;have t4:=L.t4;have a4:=L.a4;have z4:=L.z4;have v4:=L.v4;have t5:=L.t5;have a5:=L.a5;have z5:=L.z5;have v5:=L.v5;have aE:=L.aE;have zE:=L.zE;have u4:=kY L.t4;have S0:aU (SWK enc k w0 blk off d w):=S;have KS:aU (∀ (x y n:Nat) (dk:Array bW) (W:Z),dk.size=d.size->SWK enc k w0 blk off dk W->x+n<=d.size->y+n<=d.size->aF P 305 #[T (N ⟨blk,off,J⟩) d.size cap,G F x,G F y,G F n,.func (.func g) #[] cb] W (kz enc k w0 blk off dk)):=λx y n dk W hd hS h1 h2=>by
  have:=aom enc g cb blk off cap d0 dk w0 W L x y n R O hS O O O
  rwa [hd]at this
 clear S;have es: ∀ args w,(callFunc 305 args).run P w= .ok (.enter 305 args) w:=enters_of L.fs ai rfl;go_enter L.fr,Tryz.ntmps295;go_wp2;go_loopg [10,11] (b - a) (λkx s1 s2 wr=> ∃ (i j:Nat) (dk:Array bW),s1= G F i/\s2= G F j/\1<=i/\1<=j/\i+a<=m/\m+j<=b/\i+j<=kx/\dk.size=d.size/\aU (dk.toList.Perm d.toList)/\aU (SWK enc k w0 blk off dk wr))
 case atStart=>exact⟨m - a,b - m,d,by go_num,by go_num,O,O,O,O,O,rfl,oz _,S0⟩
 case round=>
  clear S0;obtain⟨i,j,dk,rfl,rfl,hi1,hj1,him,hjb,hkx,hds,HP,S1⟩:=hrel
  by_cases hij:i=j
  ·subst hij;have hc:=KS.out (m - i) m i dk wr hds S1.out O O;rw[show (((m - i:Nat):Int))=(m:Int) - (i:Int) from O]at hc;go_wp2_with (go_at_fn 305;refine hc.mono ?_;rintro e w' ⟨rfl,h⟩);go_end0;exact⟨rfl,h.trans hds HP.out⟩
  ·have hij': ¬ ((i:Int)=(j:Int)):=O
   by_cases hlt:j<i
   ·have hltz:(j:Int)<(i:Int):=O;have hc:=KS.out (m - i) m j dk wr hds S1.out O O;rw[show (((m - i:Nat):Int))=(m:Int) - (i:Int) from O]at hc;go_wp2_with (go_at_fn 305;refine hc.mono ?_;rintro e w' ⟨rfl,dj,h1,h2,h3⟩);have H2:aU (dj.toList.Perm dk.toList):=h2;have H3:aU (SWK enc k w0 blk off dj w'):=h3;clear h2 h3;go_roundg (i - j+j)
    case measure=>omega
    case rel=>exact⟨i - j,j,dj,by go_num,rfl,O,hj1,O,hjb,aC _,O,H2.out.trans HP.out,H3⟩
   ·have hltz: ¬ (j:Int)<(i:Int):=O;have hc:=KS.out (m - i) (m+j - i) i dk wr hds S1.out O O;rw[show (((m - i:Nat):Int))=(m:Int) - (i:Int) from O,show (((m+j - i:Nat):Int))=(m:Int)+(j:Int) - (i:Int) from O]at hc;go_wp2_with (go_at_fn 305;refine hc.mono ?_;rintro e w' ⟨rfl,dj,h1,h2,h3⟩);have H2:aU (dj.toList.Perm dk.toList):=h2;have H3:aU (SWK enc k w0 blk off dj w'):=h3;clear h2 h3;go_roundg (i+(j - i))
    case measure=>omega
    case rel=>exact⟨i,j - i,dj,rfl,by go_num,hi1,O,him,O,aC _,O,H2.out.trans HP.out,H3⟩
theorem aoh (L:xQ P k) (a b:Nat) (eg: ∀ args w,(callFunc g args).run P w= .ok (.enter g args) w) (hcmp:CmpLays P g cb enc k cf blk off d0.size w0) (R:RowK enc k w0 blk off d0) (hs:d0.size=d.size) (S:SWK enc k w0 blk off d w) (ha:a<=d.size) (hb:b<=d.size) (hsz:d.size<4611686018427387904):
 aF P 270 #[T (N ⟨blk,off,J⟩) d.size cap,G F a,G F b,.func (.func g) #[] cb] w (kz enc k w0 blk off d):=by
 have mixed:=L.mixed;have t0:=L.t0;have a0:=L.a0;have z0:=L.z0;have v0:=L.v0;have t1:=L.t1;have a1:=L.a1;have z1:=L.z1;have v1:=L.v1;have t2:=L.t2;have a2:=L.a2;have z2:=L.z2;have v2:=L.v2;have t3:=L.t3;have a3:=L.a3;have z3:=L.z3;have v3:=L.v3;have t4:=L.t4;have a4:=L.a4;have z4:=L.z4;have v4:=L.v4;have t5:=L.t5;have a5:=L.a5;have z5:=L.z5;have v5:=L.v5;have aE:=L.aE;have zE:=L.zE;have u4:=kY L.t4;have S0:aU (SWK enc k w0 blk off d w):=S;have HC:aU _:=hcmp;clear S hcmp;go_enter L.fi,Tryz.ntmps270;go_wp2;go_loopg [8] (b - a) (λkx s8 wr=> ∃ (i:Nat) (dk:Array bW),s8= G F i/\a<i/\(i<=b\/i=a+1)/\b+1 - i<=kx+1/\dk.size=d.size/\aU (dk.toList.Perm d.toList)/\aU (SWK enc k w0 blk off dk wr))
 case atStart=>exact⟨a+1,d,by go_num,O,.inr rfl,O,rfl,oz _,S0⟩
 case round=>
  clear S0;obtain⟨i,dk,rfl,hai,hib,hkx,hds,HP,S1⟩:=hrel
  by_cases hlt:i<b
  ·have hltz:(i:Int)<(b:Int):=O;go_wp2;go_loopg [9] i (λky s9 wq=> ∃ (j:Nat) (dj:Array bW),s9= G F j/\a<=j/\j<=i/\j<=ky/\dj.size=d.size/\aU (dj.toList.Perm d.toList)/\aU (SWK enc k w0 blk off dj wq))
   case atStart=>exact⟨i,dk,rfl,O,aC _,aC _,hds,HP,S1⟩
   case round=>
    clear S1 HP;obtain⟨j,dj,rfl,haj,hji,TN,hdj,HP,S1⟩:=hrel
    by_cases hja:a<j
    ·have hjaz:(a:Int)<(j:Int):=O;obtain⟨jp,rfl⟩: ∃ jp,j=jp+1:=⟨j - 1,O⟩;have ea:((jp:Int)+1).toNat=jp+1:=O;have pa:(0:Int)<=(jp:Int)+1:=O;have ba:(jp:Int)+1<(d.size:Int):=O;have bc:(jp:Int)<(d.size:Int):=O;have ra:F.wrap ((jp:Int)+1)=(jp:Int)+1:=by rw[rF];omega
     have rc:F.wrap (jp:Int)=(jp:Int):=by rw[rF];omega
     have hjaz':(a:Int)<(jp:Int)+1:=O;have la:=S1.out.ld R O P (jp+1) O;have lb:=S1.out.ld R O P jp O;have hc:=S1.out.cmp HC.out O dj[jp+1]! dj[jp]!;obtain⟨x,hx⟩: ∃ x,x=dj[jp+1]! :=⟨_,rfl⟩;obtain⟨y,hy⟩: ∃ y,y=dj[jp]! :=⟨_,rfl⟩;rw[<- hx]at la hc;rw[<- hy]at lb hc;have HX:aU (x=dj[jp+1]! /\y=dj[jp]!):=⟨hx,hy⟩;clear hx hy
     by_cases hv:cf x y<0
     ·go_wp2_with fail;go_quiet_grown (first|(go_at_fn g;refine Calls.grown_of (hc _ _)));have S2:aU (SWK enc k w0 blk off dj (grow (wr.drewN nq) osq)):=S1.out.grown nq osq;clear la lb hc S1;generalize grow (wr.drewN nq) osq=w2 at S2 |-;clear nq osq;have S4:aU (SWK enc k w0 blk off (swp dj (jp+1) jp) ((w2.drew.setCells blk (off+(jp+1)*k) (enc dj[jp]!)).setCells blk (off+jp*k) (enc dj[jp+1]!))):=S2.out.swapped R (jp+1) jp O O;have oH:aU ((swp dj (jp+1) jp).toList.Perm d.toList):=(Pz dj (jp+1) jp O O).trans HP.out;have la:=S2.out.ld1 R O P (jp+1) O;have lb:=S2.out.ld1 R O P jp O;have sa:=S2.out.st1 R O P (jp+1) O dj[jp]!;have sb:=S2.out.st2 R O P (jp+1) jp O O dj[jp]! dj[jp+1]!;have na:(enc dj[jp+1]!).length=k:=R.hk _;have nb:(enc dj[jp]!).length=k:=R.hk _;clear HX;generalize enc dj[jp+1]! =cI at S4 la sb na;generalize enc dj[jp]! =cJ at S4 lb sa sb nb;clear S2;go_wp2_with fail;go_big_region_o;clear la lb sa sb;generalize (w2.drew.setCells blk (off+(jp+1)*k) cJ).setCells blk (off+jp*k) cI=w4 at S4 |-;go_wp2;go_roundg jp
      case measure=>omega
      case rel=>exact⟨jp,swp dj (jp+1) jp,by go_num,O,O,aC _,by rw[size_swp];exact hdj,oH,S4⟩
     ·go_wp2_with fail;go_quiet_grown (first|(go_at_fn g;refine Calls.grown_of (hc _ _)));have S2:aU (SWK enc k w0 blk off dj (grow (wr.drewN nq) osq)):=S1.out.grown nq osq;clear la lb hc S1;generalize grow (wr.drewN nq) osq=w2 at S2 |-;clear nq osq;go_wp2;go_roundg (b - (i+1))
      case measure=>omega
      case rel=>exact⟨i+1,dj,by go_num,O,.inl O,O,hdj,HP,S2⟩
    ·have hjaz:decide ((j:Int)>(a:Int))=ag:=iw O;have hjaz': ¬ (a:Int)<(j:Int):=O;have S2:aU (SWK enc k w0 blk off dj wr.drew):=S1.out.drew;clear S1;go_wp2_with fail;go_big_region_o
     all_goals go_wp2
     go_roundg (b - (i+1))
     case measure=>omega
     case rel=>exact⟨i+1,dj,by go_num,O,.inl O,O,hdj,HP,S2⟩
  ·have hltz: ¬ (i:Int)<(b:Int):=O;go_wp2;go_end0;exact⟨rfl,dk,hds,HP.out,S1.out⟩
end
namespace Mt
theorem Ut {α:Type}: ∀ (l m:List α),l.Nodup->(∀ x∈l,x∈m)->l.length<=m.length
 | [],m,_,_=>lq _
 |x::l,m,hn,hs=>by
  obtain⟨s,t,rfl⟩:=List.append_of_mem (hs x aL);have h:=Ut l (s++t) (wQ.1 hn).2 (λy hy=>by
   have h1:=hs y (by simp[hy]);simp only[il,fT]at h1 |-
   rcases h1 with h1|rfl|h1
   ·exact .inl h1
   ·exact absurd hy (wQ.1 hn).1
   ·exact .inr h1)
  simp only[fK,gX]at h |-;omega
def yZ (L:List bH) (r:aO):Int:=match L with
 | []=>0
 |x::t=>if x.ref.entry=r.entry/\x.ref.line=r.line then x.amount else yZ t r
def Bc (L:List bH):List aO->Int
 | []=>0
 |r::t=>yZ L r+Bc L t
theorem aep (L:List bH) (hn:(L.map bH.ref).Nodup) (i:Nat) (hi:i<L.length):yZ L L[i].ref=L[i].amount:=by
 induction L generalizing i with
 |nil=>simp at hi
 |cons x t ih=>
  cases i with
  |zero=>simp[yZ]
  |succ i=>
   simp only[vv,wQ]at hn;simp only[gX,Nat.add_lt_add_iff_right]at hi;simp only[Bh,yZ];rw[bE,ih hn.2 i hi];rintro⟨h1,h2⟩;apply hn.1;rw[iW];refine⟨t[i],bP _,?_⟩
   rcases hx:x.ref with ⟨a,b⟩
   rcases hy:(t[i]).ref with ⟨c,d⟩
   simp only[hx,hy]at h1 h2;rw[h1,h2]
structure Inv (L R:List bH) (aZ:Int) (u v:List Bool) (out:List (List aO×List aO)):Prop where
 lu:u.length=L.length
 lv:v.length=R.length
 ne: ∀ p∈out,(1<=p.1.length/\p.1.length<=12)/\(1<=p.2.length/\p.2.length<=12)
 inl: ∀ p∈out,∀ r∈p.1,∃ (i:Nat) (h:i<L.length),L[i].ref=r/\u[i]? =N ae
 inr: ∀ p∈out,∀ r∈p.2,∃ (i:Nat) (h:i<R.length),R[i].ref=r/\v[i]? =N ae
 G9:(out.flatMap (·.1)).Nodup
 OX:(out.flatMap (·.2)).Nodup
 sum: ∀ p∈out,Bc L p.1+Bc R p.2<=aZ/\ -(Bc L p.1+Bc R p.2)<=aZ
def mY (u:List Bool):List Nat->List Bool
 | []=>u
 |i::S=>mY (u.set i ae) S
theorem U1 (u:List Bool) (S:List Nat):(mY u S).length=u.length:=by
 induction S generalizing u with
 |nil=>rfl
 |cons i S ih=>simp[mY,ih]
theorem U2 (u:List Bool) (S:List Nat) (i:Nat) (h:u[i]? =N ae):(mY u S)[i]? =N ae:=by
 induction S generalizing u with
 |nil=>exact h
 |cons k S ih=>
  simp only[mY];apply ih;rw[List.getElem?_set]
  split
  ·rename_i hk;subst hk;have:=(vg.1 h).1;simp[this]
  ·exact h
theorem abX (u:List Bool) (S:List Nat) (i:Nat) (hi:i<u.length) (h:i∈S):(mY u S)[i]? =N ae:=by
 induction S generalizing u with
 |nil=>simp at h
 |cons k S ih=>
  simp only[mY]
  rcases fT.1 h with rfl|h
  ·exact U2 _ _ _ (by simp[hi])
  ·exact ih _ (by simpa using hi) h
theorem anQ (u:List Bool) (S:List Nat) (i:Nat):mY u (S++ [i])=(mY u S).set i ae:=by
 induction S generalizing u with
 |nil=>rfl
 |cons k S ih=>simp[mY,ih]
def refs (L:List bH) (S:List Nat):List aO:=S.map λi=>(L[i]!).ref
def iB (L:List bH):List Nat->Int
 | []=>0
 |i::S=>(L[i]!).amount+iB L S
theorem ace (L:List bH) (hn:(L.map bH.ref).Nodup) (S:List Nat) (hS: ∀ i∈S,i<L.length):Bc L (refs L S)=iB L S:=by
 induction S with
 |nil=>rfl
 |cons i S ih=>
  have hi:=hS i aL;have h:=ih λk hk=>hS k (by simp[hk])
  simp only[refs,vv,Bc,iB]at h |-;rw[h];have e:L[i]! =L[i]:=by rw[gG L i hi]
  rw[e,aep L hn i hi]
theorem aer (L:List bH) (a b:List Nat):iB L (a++b)=iB L a+iB L b:=by
 induction a with
 |nil=>simp[iB]
 |cons x a ih=>simp[iB,ih];omega
theorem abt (L:List bH) (hn:(L.map bH.ref).Nodup) (S:List Nat) (hS: ∀ i∈S,i<L.length) (hd:S.Nodup):(refs L S).Nodup:=by
 induction S with
 |nil=>simp[refs]
 |cons i S ih=>
  have hi:=hS i aL;have h:=ih (λk hk=>hS k (by simp[hk])) (wQ.1 hd).2;simp only[refs,vv,wQ]at h |-;refine⟨?_,h⟩;intro hm;obtain⟨k,hk,e⟩:=iW.1 hm;have hk':=hS k (by simp[hk]);rw[gG L i hi,gG L k hk']at e;have hne:k≠i:=λe=>(wQ.1 hd).1 (e ▸ hk)
  apply hne;have:=(Ip (i:=k) (j:=i) (h₀:=by simpa using hk') (h₁:=by simpa using hi) hn).1 (by simpa using e);exact this
theorem Inv.add {L R:List bH} {aZ:Int} {u v:List Bool} {out:List (List aO×List aO)} (h:Inv L R aZ u v out) (TZ:(L.map bH.ref).Nodup) (hnR:(R.map bH.ref).Nodup)
 (S bA:List Nat) (hS: ∀ i∈S,u[i]? =N ag) (hT: ∀ i∈bA,v[i]? =N ag) (dS:S.Nodup) (dT:bA.Nodup) (lS:1<=S.length/\S.length<=12) (lT:1<=bA.length/\bA.length<=12)
 (hs:iB L S+iB R bA<=aZ/\ -(iB L S+iB R bA)<=aZ):Inv L R aZ (mY u S) (mY v bA) (out++ [(refs L S,refs R bA)]):=by
 have bS: ∀ i∈S,i<L.length:=λi hi=>by rw[<- h.lu];exact(vg.1 (hS i hi)).1
 have bT: ∀ i∈bA,i<R.length:=λi hi=>by rw[<- h.lv];exact(vg.1 (hT i hi)).1
 refine⟨by rw[U1,h.lu],by rw[U1,h.lv],?_,?_,?_,?_,?_,?_⟩
 ·intro p hp
  rcases il.1 hp with hp|hp
  ·exact h.ne p hp
  ·obtain rfl:=iJ.1 hp;simp only[refs,pM];exact⟨lS,lT⟩
 ·intro p hp r hr
  rcases il.1 hp with hp|hp
  ·obtain⟨i,hi,e,hu⟩:=h.inl p hp r hr;exact⟨i,hi,e,U2 _ _ _ hu⟩
  ·obtain rfl:=iJ.1 hp;obtain⟨i,hi,e⟩:=iW.1 hr;refine⟨i,bS i hi,?_,abX _ _ _ (by rw[h.lu];exact bS i hi) hi⟩;rw[<- e,gG L i (bS i hi)]
 ·intro p hp r hr
  rcases il.1 hp with hp|hp
  ·obtain⟨i,hi,e,hu⟩:=h.inr p hp r hr;exact⟨i,hi,e,U2 _ _ _ hu⟩
  ·obtain rfl:=iJ.1 hp;obtain⟨i,hi,e⟩:=iW.1 hr;refine⟨i,bT i hi,?_,abX _ _ _ (by rw[h.lv];exact bT i hi) hi⟩;rw[<- e,gG R i (bT i hi)]
 ·rw[Ms,vz];refine⟨h.G9,by simpa using abt L TZ S bS dS,?_⟩;intro a ha b hb e;subst e;obtain⟨p,hp,hr⟩:=FN.1 ha;obtain⟨i,hi,e,hu⟩:=h.inl p hp _ hr;have hb':a∈refs L S:=by simpa using hb
  obtain⟨k,hk,e'⟩:=iW.1 hb';rw[gG L k (bS k hk)]at e';have:i=k:=(Ip (h₀:=by simpa using hi) (h₁:=by simpa using bS k hk) TZ).1 (by simpa using e.trans e'.symm);subst this;rw[hS i hk]at hu;simp at hu
 ·rw[Ms,vz];refine⟨h.OX,by simpa using abt R hnR bA bT dT,?_⟩;intro a ha b hb e;subst e;obtain⟨p,hp,hr⟩:=FN.1 ha;obtain⟨i,hi,e,hu⟩:=h.inr p hp _ hr;have hb':a∈refs R bA:=by simpa using hb
  obtain⟨k,hk,e'⟩:=iW.1 hb';rw[gG R k (bT k hk)]at e';have:i=k:=(Ip (h₀:=by simpa using hi) (h₁:=by simpa using bT k hk) hnR).1 (by simpa using e.trans e'.symm);subst this;rw[hT i hk]at hu;simp at hu
 ·intro p hp
  rcases il.1 hp with hp|hp
  ·exact h.sum p hp
  ·obtain rfl:=iJ.1 hp;simp only;rw[ace L TZ S bS,ace R hnR bA bT];exact hs
theorem Inv.start (L R:List bH) (aZ:Int):Inv L R aZ (List.replicate L.length ag) (List.replicate R.length ag) []:=
 ⟨by simp,aL,aL,aL,aL,aL,aL,aL⟩
theorem YK {α β:Type} (f:α->List β): ∀ (l:List α),(∀ p∈l,1<=(f p).length)->l.length<=(l.flatMap f).length
 | [],_=>lq _
 |x::l,h=>by
  have h1:=YK f l λp hp=>h p (by simp[hp])
  have h2:=h x aL;simp only[Qb,fK,gX];omega
theorem Inv.few {L R:List bH} {aZ:Int} {u v:List Bool} {out:List (List aO×List aO)} (h:Inv L R aZ u v out):out.length<=L.length:=by
 refine iT (YK (·.1) out λp hp=>(h.ne p hp).1.1) ?_;refine iT (Ut _ (L.map bH.ref) h.G9 λx hx=> ?_) aL;obtain⟨p,hp,hr⟩:=FN.1 hx;obtain⟨i,hi,e,_⟩:=h.inl p hp x hr;exact iW.2 ⟨L[i],bP _,e⟩
theorem Inv.swap {L R:List bH} {aZ:Int} {u v:List Bool} {out:List (List aO×List aO)} (h:Inv L R aZ u v out):Inv R L aZ v u (out.map λp=>(p.2,p.1)):=by
 refine⟨h.lv,h.lu,?_,?_,?_,?_,?_,?_⟩
 ·intro p hp;obtain⟨q,hq,rfl⟩:=iW.1 hp;exact⟨(h.ne q hq).2,(h.ne q hq).1⟩
 ·intro p hp;obtain⟨q,hq,rfl⟩:=iW.1 hp;exact h.inr q hq
 ·intro p hp;obtain⟨q,hq,rfl⟩:=iW.1 hp;exact h.inl q hq
 ·rw[Qc];exact h.OX
 ·rw[Qc];exact h.G9
 ·intro p hp;obtain⟨q,hq,rfl⟩:=iW.1 hp;have:=h.sum q hq;dsimp only;omega
def nJ (out:List dK):List (List aO×List aO):=out.map λp=>(p.left.l,p.right.l)
theorem abj (out:List dK) (p:dK):nJ (out++ [p])=nJ out++ [(p.left.l,p.right.l)]:=by simp[nJ]
def lN (C:List bH) (k:Nat):Prop:= ∀ h:k<C.length,C[k].ref ∉ (C.take k).map bH.ref/\C[k].amount≠0/\C[k].amount<=1000000000000/\ -1000000000000<=C[k].amount
def nA (L R:List bH):Prop:=L.length<=60/\R.length<=60/\ ∀ k,lN (L++R) k
theorem nA.nodup {L R:List bH} (h:nA L R):((L++R).map bH.ref).Nodup:=by
 rw[List.nodup_iff_pairwise_ne,List.pairwise_iff_getElem];intro i j hi hj hij e;have hj':j<(L++R).length:=by simpa using hj
 have hi':i<(L++R).length:=by simpa using hi
 refine(h.2.2 j hj').1 ?_;rw[iW];refine⟨(L++R)[i],?_,?_⟩
 ·rw[Dy];exact⟨i,O,rfl⟩
 ·rw[vw,vw]at e;exact e
theorem aoE (C:List bH) (k:Nat) (h:k<C.length):(C.take (k+1)).map bH.ref=(C.take k).map bH.ref++ [C[k].ref]:=by
 rw[gY h,mJ];rfl
end Mt
namespace Ct
def jW (sh:Nat->Nat->Int) (all e:Nat):Nat->Int
 |0=>0
 |k+1=>jW sh all e k+if all.testBit k then sh k e else 0
def fresh (sh:Nat->Nat->Int) (n all:Nat):Nat->Nat
 |0=>0
 |k+1=>if all.testBit k=ag/\5000<jW sh all k n then fresh sh n all k ||| 2 ^ k else fresh sh n all k
def close (sh:Nat->Nat->Int) (n:Nat):Nat->Nat->Nat
 |0,all=>all
 |f+1,all=>if fresh sh n all n=0 then all else close sh n f (all ||| fresh sh n all n)
theorem JV (sh:Nat->Nat->Int) (n all k:Nat):fresh sh n all k<2 ^ k:=by
 induction k with
 |zero=>simp[fresh]
 |succ k ih=>
  have h1:fresh sh n all k<2 ^ (k+1):=ji ih (uA O O);simp only[fresh]
  split
  ·exact Nat.or_lt_two_pow h1 (Nat.pow_lt_pow_right O O)
  ·exact h1
theorem ag4 (sh:Nat->Nat->Int) (n all k i:Nat) (h:(fresh sh n all k).testBit i=ae):all.testBit i=ag:=by
 induction k with
 |zero=>simp[fresh]at h
 |succ k ih=>
  simp only[fresh]at h
  split at h
  ·rename_i c;rw[Nat.testBit_or]at h
   rcases ou _ _ ▸ h with h|h
   ·exact ih h
   ·rw[Nat.testBit_two_pow]at h;have:k=i:=by simpa using h
    rw[<- this];exact c.1
  ·exact ih h
theorem alq (all fr:Nat) (h0:fr≠0) (hd: ∀ i,fr.testBit i=ae->all.testBit i=ag):all<all ||| fr:=by
 have h1:all<=all ||| fr:=Nat.left_le_or
 rcases Nat.lt_or_eq_of_le h1 with h|h
 ·exact h
 ·exfalso;apply h0;apply Nat.eq_of_testBit_eq;intro i;rw[Nat.zero_testBit]
  cases hb:fr.testBit i with
  |false=>rfl
  |true=>
   have h2:=hd i hb;rw[h,Nat.testBit_or,hb]at h2;simp at h2
theorem UJ (n all fr:Nat) (h1:all<2 ^ n) (h2:fr<2 ^ n):all ||| fr<2 ^ n:=Nat.or_lt_two_pow h1 h2
theorem U6 (sh:Nat->Nat->Int) (n all:Nat) (h0:fresh sh n all n≠0):all<all ||| fresh sh n all n:=alq _ _ h0 λi h=>ag4 sh n all n i h
theorem afj (sh:Nat->Nat->Int) (n f all:Nat) (h0:fresh sh n all n=0):close sh n f all=all:=by
 cases f with
 |zero=>rfl
 |succ f=>simp[close,h0]
theorem Yo (sh:Nat->Nat->Int) (n:Nat): ∀ (f g all:Nat),all<2 ^ n->2 ^ n - all<=f->2 ^ n - all<=g->close sh n f all=close sh n g all
 |0,g,all,h,hf,_=>O
 |f+1,0,all,h,_,hg=>O
 |f+1,g+1,all,h,hf,hg=>by
  simp only[close]
  by_cases h0:fresh sh n all n=0
  ·simp[h0]
  ·have h1:=U6 sh n all h0;rw[bE h0,bE h0];exact Yo sh n f g _ (UJ n _ _ h (JV _ _ _ _)) O O
def found (sh:Nat->Nat->Int) (n all:Nat):Nat:=close sh n (2 ^ n) all
theorem ag1 (sh:Nat->Nat->Int) (n all:Nat) (h0:fresh sh n all n=0):found sh n all=all:=afj _ _ _ _ h0
theorem ag2 (sh:Nat->Nat->Int) (n all:Nat) (h:all<2 ^ n):found sh n all=found sh n (all ||| fresh sh n all n):=by
 by_cases h0:fresh sh n all n=0
 ·rw[h0,Nat.or_zero]
 ·have h1:=U6 sh n all h0;have h2:=UJ n _ _ h (JV sh n all n);unfold found;rw[Yo sh n (2 ^ n) (2 ^ n+1) all h O O];simp only[close];rw[bE h0]
def union (xs:List Nat):Nat:=xs.foldl (· ||| ·) 0
theorem Vf (xs:List Nat) (x:Nat):union (xs++ [x])=union xs ||| x:=by simp[union]
theorem aoX (sh:Nat->Nat->Int) (all e k:Nat) (h: ∀ i<k,0<=sh i e/\sh i e<=10000):0<=jW sh all e k/\jW sh all e k<=10000*k:=by
 induction k with
 |zero=>simp[jW]
 |succ k ih=>
  have h1:=ih λi hi=>h i O
  have h2:=h k O;simp only[jW]
  split<;>omega
def method (sh:Nat->Nat->Int) (n:Nat) (joint:Bool) (e:Nat):Int:=
 if (found sh n 1).testBit e then 3 else if jW sh (found sh n 1) e n<2000 then 0 else if joint then 2 else 1
section
variable (sh:Nat->Nat->Int) (n:Nat)
def st:Nat->Nat×Nat
 |0=>(1,1)
 |j+1=>((st j).1 ||| fresh sh n (st j).1 n,fresh sh n (st j).1 n)
def al (j:Nat):Nat:=(st sh n j).1
def fr (j:Nat):Nat:=(st sh n j).2
theorem GG (j:Nat):fr sh n (j+1)=fresh sh n (al sh n j) n:=rfl
theorem JC (j:Nat):al sh n (j+1)=al sh n j ||| fr sh n (j+1):=rfl
theorem Gp (h:1<=n) (j:Nat):al sh n j<2 ^ n:=by
 induction j with
 |zero=>exact Nat.one_lt_two_pow O
 |succ j ih=>rw[JC,GG];exact UJ n _ _ ih (JV _ _ _ _)
theorem SG (h:1<=n) (j:Nat):fr sh n j<2 ^ n:=by
 cases j with
 |zero=>exact Nat.one_lt_two_pow O
 |succ j=>rw[GG];exact JV _ _ _ _
theorem aem (j:Nat) (h:fr sh n (j+1)≠0):al sh n j<al sh n (j+1):=by
 rw[JC,GG];exact U6 sh n _ h
theorem XT (h:1<=n) (j:Nat) (hj: ∀ k,k<=j->fr sh n k≠0):j+1<=al sh n j:=by
 induction j with
 |zero=>exact aC _
 |succ j ih=>
  have h1:=ih λk hk=>hj k O
  have h2:=aem sh n j (hj _ (aC _));omega
theorem stops (h:1<=n): ∃ m,1<=m/\m<=2 ^ n/\fr sh n m=0/\ ∀ k,k<m->fr sh n k≠0:=by
 have h0: ∃ m,fr sh n m=0:=by
  by_cases c: ∀ k,k<=2 ^ n->fr sh n k≠0
  ·have h1:=XT sh n h (2 ^ n) c;have h2:=Gp sh n h (2 ^ n);omega
  ·simp only[Classical.not_forall,Classical.not_not]at c;obtain⟨k,_,hk⟩:=c;exact⟨k,hk⟩
 obtain⟨m,hm,hl⟩:=Go.exists_least h0;have hk: ∀ k,k<m->fr sh n k≠0:=λk hk e=>by have:=hl k e;omega
 have h1:1<=m:=by
  rcases ry m with e|e
  ·subst e;exact absurd hm (show (1:Nat)≠0 by decide)
  ·exact e
 refine⟨m,h1,?_,hm,hk⟩;have h2:=XT sh n h (m - 1) λk hk2=>hk k O
 have h3:=Gp sh n h (m - 1);omega
theorem ag0 (h:1<=n) (j:Nat):found sh n 1=found sh n (al sh n j):=by
 induction j with
 |zero=>rfl
 |succ j ih=>rw[ih,ag2 sh n _ (Gp sh n h j),JC,GG]
theorem SF (h:1<=n) (m:Nat) (h1:1<=m) (hm:fr sh n m=0):found sh n 1=al sh n (m - 1):=by
 obtain⟨j,rfl⟩: ∃ j,m=j+1:=⟨m - 1,O⟩;rw[ag0 sh n h j,VB];exact ag1 _ _ _ (by rw[<- GG];exact hm)
def sets (m:Nat):List (Nat×Nat):=(kJ m).map λk=>(k,fr sh n k)
theorem Pw (m:Nat):sets sh n (m+1)=sets sh n m++ [(m,fr sh n m)]:=by simp[sets,List.range_succ]
theorem abZ (m:Nat):(sets sh n m).length=m:=by simp[sets]
theorem Ve (m:Nat):union ((sets sh n (m+1)).map (·.2))=al sh n m:=by
 induction m with
 |zero=>simp[sets,union];rfl
 |succ m ih=>rw[Pw,mJ,VC,Vf,ih,JC]
end
theorem ag5 {sh:Nat->Nat->Int} {n all k:Nat} (hk:k<=12):fresh sh n all k<65536:=ji (JV sh n all k) (iT (uA O hk) aJ)
end Ct
theorem G7 {P:dH} (t e:TypeId) (z:aj) (bytes:Nat) (ht:P.underlying t=N (.slice e)) (hinfo:(P.info? e).map (λi=>(i.zero,i.size,i.bytes))=N (N z,1,bytes)) (hz1:z.cells= #[z])
 (kl kc:IntKind) (n:Nat) (hn:n<=1000000) (hb:bytes<=8) (w:Z):
 (Instr.makeSlice t (.int kl (n:Int)) (.int kc (n:Int))).run P w= .ok (T (N ⟨w.heap.size,0,J⟩) n n) (w.alloc (U (kZ n z) e)):=by
 have h:=run_make_row' (P:=P) t e z bytes ht hinfo hz1 kl kc n (by have:=Nat.mul_le_mul hb hn;omega) O w;rw[h]
 congr 3
 apply Array.ext';rw[toList_madeCells_one];simp
theorem O1 {w:Z} {base g n:Nat} {e:TypeId} {xs:List aj} (h:au w g e xs.toArray) (hb:base<=g) (hn:xs.length=n) (h63:n<=bK):w.ownsRow base e 1 (T (N ⟨g,0,J⟩) n n) n xs:=
 ⟨by omega,.inr ⟨g,n,xs.toArray,rfl,hb,h,aC _,h63,by simp[hn],by rw[kS bL]⟩⟩
theorem LH {w:Z} {g:Nat} {e:TypeId} {xs:List aj} (h:au w g e xs.toArray) (i:Nat) (v:aj):au (w.setCell ⟨g,i,J⟩ v) g e (xs.set i v).toArray:=by
 have:=h.bZ i v
 rwa [Zi]at this
def upTo (f:Nat->aj) (z:aj) (n k:Nat):List aj:=(kJ n).map λi=>if i<k then f i else z
theorem LM (f:Nat->aj) (z:aj) (n:Nat):upTo f z n 0=List.replicate n z:=by
 unfold upTo;apply MC
 ·simp
 ·intro i h1 h2;simp
theorem Vg (f:Nat->aj) (z:aj) (n k:Nat):(upTo f z n k).length=n:=by simp[upTo]
theorem PG (f:Nat->aj) (z:aj) (n k i:Nat) (h:i<n):(upTo f z n k)[i]? =N (if i<k then f i else z):=by simp[upTo,h]
theorem PH (f:Nat->aj) (z:aj) (n k:Nat):(upTo f z n k).set k (f k)=upTo f z n (k+1):=by
 apply MC
 ·simp[upTo]
 ·intro i h1 h2;simp only[upTo,Vz,vw,Mh]
  by_cases e:k=i
  ·subst e;simp
  ·rw[bE e];have:(i<k)↔(i<k+1):=O;simp only[this]
theorem PE (f:Nat->aj) (z:aj) (n:Nat):upTo f z n n=(kJ n).map f:=by
 unfold upTo;apply Qf;intro i hi;rw[bB (zD.1 hi)]
def sw:List Int->Int
 | []=>0
 |x::l=>if x=0 then sw l else x
theorem agO (l:List Int) (h: ∀ j (h:j<l.length),l[j]=0):sw l=0:=by
 induction l with
 |nil=>rfl
 |cons x l ih=>
  unfold sw;have h0:=h 0 aL;rw[bB (by simpa using h0)];exact ih (λj hj=>h (j+1) bL)
theorem agN (l:List Int) (k:Nat) (hk:k<l.length) (h: ∀ j,j<k->l.getD j 0=0) (h0:l[k]≠0):sw l=l[k]:=by
 induction l generalizing k with
 |nil=>simp at hk
 |cons x l ih=>
  unfold sw
  cases k with
  |zero=>simp at h0 |-;exact λe=>absurd e h0
  |succ k=>
   have:=h 0 O;simp at this;rw[bB this];exact ih k (by simpa using hk) (λj hj=>by have:=h (j+1) O;simpa using this) (by simpa using h0)
theorem YO (l:List Int) (k:Nat) (h:k<l.length):l.getD k 0=l[k]:=by simp[h]
theorem aa3 (l:List Int) (A:Option aG) (cap:Nat) (w:Z) (hr:Rd w w.heap.size 1 A l.length (intCells l)) (hn:l.length<=1000000):
 aF ak 37 #[T A l.length cap] w (λe w'=>e= bM (G F (sw l))/\w=w'):=by
 have HR:=I hr;clear hr;go_enter Tryz.func37,Tryz.ntmps37;go_wp2_with fail;go_loopw [5,8] (λ_ t wr=> ∃ k:Nat,k<=l.length/\(∀ j,j<k->l.getD j 0=0)/\t= G F k/\w=wr) (λ_ t _=>l.length - (intOf t).toNat)
 case atStart=>exact⟨0,O,λj h=>O,rfl,rfl⟩
 case round=>
  obtain⟨k,hk,hno,rfl,rfl⟩:=hrel;have HN:=I hno;clear hno
  by_cases hlt:k<l.length
  ·obtain⟨b,o,hA,aX,f0⟩:=ai1 HR.out hlt;subst hA
   by_cases h0:l[k]=0
   ·have hd:(l[k] !=0)=ag:=by simp[h0]
    have H0:Hid (l.getD k 0=0):=I (by rw[YO l k hlt];exact h0);clear h0;go_wp2_with fail;go_roundw
    case rel=>exact⟨k+1,O,Be HN.out H0.out,by go_num,trivial⟩
    case measure=>simp[intOf];omega
   ·have hd:(l[k] !=0)=ae:=by simp[h0]
    have HE:Hid (sw l=l[k]):=I (agN l k hlt HN.out h0);clear h0;go_wp2_with fail;go_ret;exact⟨jg HE.out.symm,rfl⟩
  ·have HE:Hid (sw l=0):=I (agO _ λj hj=>by
    have:=HN.out j O
    rwa [YO _ _ hj]at this)
   go_wp2_with fail;go_ret;exact⟨jg HE.out.symm,rfl⟩
theorem qf {w w':Z} {base:Nat} {e:TypeId} {size:Nat} {v:aj} {n:Nat} {xs:List aj} (h:w.ownsRow base e size v n xs) (hk: ∀ g cs,au w g e cs->au w' g e cs):w'.ownsRow base e size v n xs:=by
 refine⟨h.1,?_⟩
 rcases h.2 with h0|⟨g,cap,cur,hv,hb,hg,hr⟩
 ·exact .inl h0
 ·exact .inr ⟨g,cap,cur,hv,hb,hk g cur hg,hr⟩
def LB {α:Type} (t:TypeId) (f:α->List aj) (w:Z) (B:Nat) (s:Sl α):Prop:= ∃ g cs,s.A=N ⟨g,0,J⟩/\B<=g/\au w g t cs/\ ∀ (j:Nat) (u:aj),(cellsOf f s.l)[j]? =N u->cs[j]? =N u
section
variable {α:Type} {t:TypeId} {f:α->List aj} {w w':Z} {B:Nat}
theorem LB.keep {s:Sl α} (h:LB t f w B s) (hk: ∀ g cs,au w g t cs->au w' g t cs):LB t f w' B s:=by
 obtain⟨g,cs,h1,h2,h3,h4⟩:=h;exact⟨g,cs,h1,h2,hk g cs h3,h4⟩
theorem LB.step {s:Sl α} (h:LB t f w B s) (hb:Below w.heap.size w w'):LB t f w' B s:=h.keep λ_ _ hB=>hB.step hb
theorem LB.more {s:Sl α} {B':Nat} (h:LB t f w B s) (hb:B'<=B):LB t f w B' s:=by
 obtain⟨g,cs,h1,h2,h3,h4⟩:=h;exact⟨g,cs,h1,iT hb h2,h3,h4⟩
theorem LB.rd {s:Sl α} {sz:Nat} (hf: ∀ a,(f a).length=sz) (h:LB t f w B s):Rd w w.heap.size sz s.A s.l.length (cellsOf f s.l):=by
 obtain⟨g,cs,h1,h2,h3,h4⟩:=h;rw[h1];exact⟨Ce hf _,λ_=>⟨g,0,rfl,h3.lt,λj u hu=>by rw[nN,h3.cell j];exact h4 j u hu⟩⟩
theorem LB.dE {base sz:Nat} {l:List α} {A:Option aG} {c:Nat} (h:w.ownsRow base t sz (T A l.length c) l.length (cellsOf f l)) (hB:B<=base) (hn:0<l.length):LB t f w B ⟨l,A,c⟩:=by
 obtain⟨g,cap,cur,hv,hb,hg,_,hx⟩:=UM h hn;injection hv with h1 _ h3
 exact⟨g,cur,h1,iT hB hb,hg,hx⟩
theorem LB.uT {g:Nat} {r:α} {c:Nat} {cs:Array aj} (h:au w g t cs) (hc:cs.toList=f r) (hB:B<=g):LB t f w B ⟨[r],N ⟨g,0,J⟩,c⟩:=
 ⟨g,_,rfl,hB,h,λj u hu=>by
  rw[<- q9,hc]
  simpa [cellsOf] using hu⟩
end
theorem aaZ {S:List aO} {r:aO} (h: ∀ x∈S,x=r) (hn:S.Nodup) (h1:1<=S.length):S= [r]:=by
 match S,h1 with
 | [a],_=>rw[h a aL]
 |a::b::t,_=>
  have e:a=b:=(h a aL).trans (h b aL).symm;simp[e]at hn
theorem aeA {aZ:Int} {l r:bH} {u v:List Bool} {out:List (List aO×List aO)} (h:Mt.Inv [l] [r] aZ u v out) (hne:out≠ []):out= [([l.ref],[r.ref])]:=by
 have key: ∀ p∈out,p=([l.ref],[r.ref]):=by
  intro p hp;have h1:=h.ne p hp;have n1:p.1.Nodup:=(List.pairwise_flatMap.1 h.G9).1 p hp;have n2:p.2.Nodup:=(List.pairwise_flatMap.1 h.OX).1 p hp;have e1:=aaZ (r:=l.ref) (λx hx=>by
   obtain⟨i,hi,h2,_⟩:=h.inl p hp x hx;have h3:i=0:=by simpa using hi
   subst h3;exact h2.symm) n1 h1.1.1
  have e2:=aaZ (r:=r.ref) (λx hx=>by
   obtain⟨i,hi,h2,_⟩:=h.inr p hp x hx;have h3:i=0:=by simpa using hi
   subst h3;exact h2.symm) n2 h1.2.1
  obtain⟨a,b⟩:=p;simp only at e1 e2;rw[e1,e2]
 match out,hne,key with
 | [p],_,key=>rw[key p aL]
 |p::q::t,_,key=>
  have e1:=key p aL;have e2:=key q aL;have:=h.G9;rw[e1,e2]at this;simp at this
end Go.Proofs.YtbedbfdhfokifaaGreat
