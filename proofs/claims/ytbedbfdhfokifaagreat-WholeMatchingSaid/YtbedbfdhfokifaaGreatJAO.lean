/- Part of the proof of WholeMatching. -/
import Derived.Test.YtbedbfdhfokifaaGreatJAI
import Derived.Test.YtbedbfdhfokifaaGreatJAL
import Derived.Deep.DeepCutAuto
import Derived.Lib.SliceRun
namespace Go.Proofs.YtbedbfdhfokifaaGreat
set_option maxRecDepth 100000
set_option maxHeartbeats 16000000
set_option linter.unusedVariables false
set_option linter.unusedSimpArgs false
open _root_.Bool renaming true->ae,false->ag
open Go renaming World->Z,Calls->aF,Addr->aG,Value->aj,maxLen->bK,Ending->eG
open Go.Ending renaming returned->bM
open Go.IntKind renaming i64->F
open Go.Obj renaming cells->U
open Go.Proofs.Tryz renaming prog->ak
open Go.Value renaming int->G,slice->T,bool->aA,string->av,agg->az
open _root_.Option renaming none->J,some->N
open Go.RowKit
namespace Jn
def GY (Y M P d:Int):Bool:=decide (ax.gW Y M P 0<=d)&&decide (d<=ax.cB Y M P (P - 1))
theorem anZ (Y M P d:Int) (h:ax.mq Y M P) (h0:ax.fd (ax.tm Y M 0)<=d): ∀ k:Nat,(k:Int)<P->d<=ax.ld (ax.tm Y M k)-> ∃ p:Int,0<=p/\p<P/\ax.fd (ax.tm Y M p)<=d/\d<=ax.ld (ax.tm Y M p):=by
 intro k
 induction k with
 |zero=>intro hk hd;exact⟨0,O,O,h0,by simpa using hd⟩
 |succ k ih=>
  intro hk hd
  by_cases hq:d<=ax.ld (ax.tm Y M k)
  ·exact ih O hq
  ·have t1:=ax.yu Y M P (k+1:Int) h O O;have e:ax.tm Y M (k+1:Int)=ax.tm Y M k+1:=by unfold ax.tm;omega
   have t0:=ax.yu Y M P (k:Int) h O O;have hn:=ax.SA (ax.tm Y M k) t0.1 O;refine⟨(k+1:Int),O,O,?_,?_⟩
   ·rw[e,hn];omega
   ·push_cast at hd;exact hd
theorem aiW (Y M P d:Int) (h:ax.ok Y M P=ae):GY Y M P d=ae↔ax.oP Y M P d=0:=by
 have hp:=(ax.Fb Y M P).1 h;have hP:1<=P:=hp.2.2.1;have c0:ax.gW Y M P 0=ax.fd (ax.tm Y M 0):=by
  unfold ax.gW ax.bJ;rw[bB h,bB (show (0:Int)<=0/\(0:Int)<P from ⟨by omega,O⟩)];simp
 have c1:ax.cB Y M P (P - 1)=ax.ld (ax.tm Y M (P - 1)):=by
  unfold ax.cB ax.bJ;rw[bB h,bB (show (0:Int)<=P - 1/\P - 1<P from ⟨by omega,O⟩)];simp
 unfold GY;rw[c0,c1];simp only[bR,dm];have hpe:ax.oP Y M P d=0↔ax.qX Y M P d=ae:=by
  unfold ax.oP;rw[bB h]
  cases ax.qX Y M P d<;>simp
 rw[hpe];have hpb:ax.qX Y M P d=ae↔Dt.nZ d=ae/\0<=ax.pq Y M d/\ax.pq Y M d<P:=by
  unfold ax.qX;simp[and_assoc]
 rw[hpb]
 constructor
 ·rintro⟨a,b⟩;obtain⟨p,p0,p1,q0,q1⟩:=anZ Y M P d hp a (P - 1).toNat O (by rw[Int.toNat_of_nonneg O];exact b);obtain⟨e1,e2⟩:=(ax.Um Y M P d p hp p0 p1).1 ⟨q0,q1⟩;exact⟨e1,O,O⟩
 ·rintro⟨a,b0,b1⟩;obtain⟨e1,e2⟩:=(ax.Um Y M P d (ax.pq Y M d) hp b0 b1).2 ⟨a,rfl⟩;have t:=ax.yu Y M P (ax.pq Y M d) hp b0 b1;have t0:=ax.yu Y M P 0 hp O O;have t9:=ax.yu Y M P (P - 1) hp O O;refine⟨?_,?_⟩
  ·have:=ax.YD (ax.tm Y M 0) (ax.tm Y M (ax.pq Y M d)) t0.1 (by unfold ax.tm;omega) t.2;omega
  ·by_cases hl:ax.pq Y M d=P - 1
   ·rw[<- hl];exact e2
   ·have e:ax.tm Y M (ax.pq Y M d)+1<=ax.tm Y M (P - 1):=by unfold ax.tm;omega
    have h1:=ax.SA (ax.tm Y M (ax.pq Y M d)) t.1 O;have h2:=ax.YD (ax.tm Y M (ax.pq Y M d)+1) (ax.tm Y M (P - 1)) O e t9.2;have h3:=ax.Sz (ax.tm Y M (P - 1)) t9.1 t9.2;omega
def neg (l:bq):bq:=⟨l.ek,-l.amount,l.partner⟩
theorem O0 (a b:List bq):mr a b=ae↔a.length=b.length/\ ∀ k (h:k<a.length) (h2:k<b.length),a[k].ek=b[k].ek/\a[k].partner=b[k].partner/\a[k].amount= -b[k].amount:=by
 unfold mr;simp only[bR,vD,ng]
 constructor
 ·rintro⟨h1,h2⟩;refine⟨h1,λk h h3=> ?_⟩;have:=h2 (a[k],b[k]) (by
   rw[iK];exact⟨k,by rw[List.length_zip];omega,by rw[List.getElem_zip]⟩)
  exact⟨this.1.1,this.1.2,this.2⟩
 ·rintro⟨h1,h2⟩;refine⟨h1,λq hq=> ?_⟩;obtain⟨k,hk,rfl⟩:=iK.1 hq;rw[List.length_zip]at hk;rw[List.getElem_zip];obtain⟨x,y,z⟩:=h2 k O O;exact⟨⟨x,y⟩,z⟩
end Jn
theorem O6 (s:ByteArray) (w:Z) (hs:s.size<=bK):aF ak 253 #[av s] w λe w'=>e= bM (aA (Jn.jH s))/\w=w':=by
 unfold bK at hs;go_enter Tryz.func253,Tryz.ntmps253;go_wp2_with fail;go_loopw [3,6] (λ_ t wr=> ∃ k:Nat,k<=s.size/\(∀ j,j<k->Jn.qh s j=ae)/\t= G F k/\w=wr) (λ_ t _=>s.size - (intOf t).toNat)
 case atStart=>exact⟨0,O,λj h=>O,rfl,rfl⟩
 case round=>
  obtain⟨k,hk,hno,rfl,rfl⟩:=hrel;have HN:=I hno;clear hno
  by_cases hlt:k<s.size
  ·have HB:=I (Gr.byte_at s k hlt);have Cz:=Bd s[k]
   by_cases h1:32<=(s[k].toNat:Int)
   ·by_cases h2:(s[k].toNat:Int)<=126
    ·have HE:Hid (Jn.qh s k=ae):=I (by unfold Jn.qh;rw[HB.out];simp only[bR,dm];exact⟨h1,h2⟩);go_wp2_with fail;go_roundw
     case rel=>
      refine⟨k+1,O,λj h=> ?_,by go_num,trivial⟩
      by_cases e:j=k
      ·subst e;exact HE.out
      ·exact HN.out j O
     case measure=>simp[intOf];omega
    ·have oC:Hid (Jn.qh s k=ag):=I (by unfold Jn.qh;rw[HB.out,<- qo];simp only[bR,dm];omega);have HE:Hid (Jn.jH s=ag):=I (by unfold Jn.jH;rw[kD hlt oC.out];rfl);go_wp2_with fail;go_ret;exact⟨by rw[HE.out];rfl,rfl⟩
   ·have oC:Hid (Jn.qh s k=ag):=I (by unfold Jn.qh;rw[HB.out,<- qo];simp only[bR,dm];omega);have HE:Hid (Jn.jH s=ag):=I (by unfold Jn.jH;rw[kD hlt oC.out];rfl);go_wp2_with fail;go_ret;exact⟨by rw[HE.out];rfl,rfl⟩
  ·have HA:Hid (iZ s.size (Jn.qh s)=ae):=I (nT λj hj=>HN.out j O);have HE:Hid (Jn.jH s=decide (s.size<=80)):=I (by unfold Jn.jH;rw[HA.out];rfl);go_wp2_with fail;go_ret;exact⟨gz (by rw[HE.out]<;>first|rfl|(simp;done)|(simp;omega)),rfl⟩
theorem qZ (s:ByteArray) (w:Z) (hs:s.size<=bK):aF ak 246 #[av s] w λe w'=>e= bM (aA (Jn.jH s))/\w=w':=by
 unfold bK at hs;go_enter Tryz.func246,Tryz.ntmps246;go_wp2_with fail;go_loopw [3] (λt wr=> ∃ k:Nat,k<=s.size/\(∀ j,j<k->Jn.qh s j=ae)/\t= G F k/\w=wr) (λt _=>s.size - (intOf t).toNat)
 case atStart=>exact⟨0,O,λj h=>O,rfl,rfl⟩
 case round=>
  obtain⟨k,hk,hno,rfl,rfl⟩:=hrel;have HN:=I hno;clear hno
  by_cases hlt:k<s.size
  ·have HB:=I (Gr.byte_at s k hlt);have Cz:=Bd s[k]
   by_cases h1:32<=(s[k].toNat:Int)
   ·by_cases h2:(s[k].toNat:Int)<=126
    ·have HE:Hid (Jn.qh s k=ae):=I (by unfold Jn.qh;rw[HB.out];simp only[bR,dm];exact⟨h1,h2⟩);go_wp2_with fail;go_roundw
     case rel=>
      refine⟨k+1,O,λj h=> ?_,by go_num,trivial⟩
      by_cases e:j=k
      ·subst e;exact HE.out
      ·exact HN.out j O
     case measure=>simp[intOf];omega
    ·have oC:Hid (Jn.qh s k=ag):=I (by unfold Jn.qh;rw[HB.out,<- qo];simp only[bR,dm];omega);have HE:Hid (Jn.jH s=ag):=I (by unfold Jn.jH;rw[kD hlt oC.out];rfl);go_wp2_with fail;go_ret;exact⟨by rw[HE.out];rfl,rfl⟩
   ·have oC:Hid (Jn.qh s k=ag):=I (by unfold Jn.qh;rw[HB.out,<- qo];simp only[bR,dm];omega);have HE:Hid (Jn.jH s=ag):=I (by unfold Jn.jH;rw[kD hlt oC.out];rfl);go_wp2_with fail;go_ret;exact⟨by rw[HE.out];rfl,rfl⟩
  ·have HA:Hid (iZ s.size (Jn.qh s)=ae):=I (nT λj hj=>HN.out j O);have HE:Hid (Jn.jH s=decide (s.size<=80)):=I (by unfold Jn.jH;rw[HA.out];rfl);go_wp2_with fail;go_ret;exact⟨gz (by rw[HE.out]<;>first|rfl|(simp;done)|(simp;omega)),rfl⟩
theorem aj9 (l:List bq) (A:Option aG) (cap:Nat) (w:Z) (hr:Rd w w.heap.size 3 A l.length (cellsOf bq.cells l)) (hn:l.length<=1000) (hm: ∀ x∈l,-1000000000000<=x.amount/\x.amount<=1000000000000):
 aF ak 254 #[T A l.length cap] w λe w'=>e= .returned (G F (Jn.nL l))/\Below w.heap.size w w':=by
 have hb:=aD w.heap.size w;have HM:=I hm;have HR:=I hr;clear hm hr;go_enter Tryz.func254,Tryz.ntmps254;go_wp2_with fail;go_loopw [3,8] (λs t wr=> ∃ k:Nat,k<=l.length/\s= G F (Jn.nL (l.take k))/\t= G F k/\Below w.heap.size w wr) (λ_ t _=>l.length - (intOf t).toNat)
 case atStart=>exact⟨0,O,rfl,rfl,hb⟩
 case round=>
  clear hb;obtain⟨k,hk,rfl,rfl,hb⟩:=hrel;have hbd:=Jn.acd l HM.out k hk;have hz:=hb.size
  by_cases hlt:k<l.length
  ·obtain⟨b0,o,hA,aX,f0,f1,f2⟩:=bq.at_ (Rd.now HR.out hb) hlt;subst hA;have HT:=I (Jn.U8 l k hlt);obtain⟨a0,a1⟩:=HM.out l[k] (bP hlt);obtain⟨d0,d1⟩:=hbd;generalize Jn.nL (l.take k)=s at*;generalize l[k]=x at*;obtain⟨xa,xm,xp⟩:=x;dsimp only at*;have hws:F.wrap (s+xm)=s+xm:=iL _ O;go_wp2_with fail;go_roundw
   case rel=>exact⟨k+1,O,by rw[HT.out],by go_num,bC⟩
   case measure=>simp[intOf];omega
  ·have hke:l.take k=l:=kS O;rw[hke];go_wp2_with fail;go_ret;exact⟨rfl,hb⟩
theorem ana (l:List bq) (A:Option aG) (cap:Nat) (w:Z) (hr:Rd w w.heap.size 3 A l.length (cellsOf bq.cells l)) (hn:l.length<=1000) (hm: ∀ x∈l,-1000000000000<=x.amount/\x.amount<=1000000000000):
 aF ak 202 #[T A l.length cap] w λe w'=>e= .returned (G F (Jn.nL l))/\Below w.heap.size w w':=by
 have hb:=aD w.heap.size w;have HM:=I hm;have HR:=I hr;clear hm hr;go_enter Tryz.func202,Tryz.ntmps202;go_wp2_with fail;go_loopw [3,4] (λs t wr=> ∃ k:Nat,k<=l.length/\s= G F (Jn.nL (l.take k))/\t= G F k/\Below w.heap.size w wr) (λ_ t _=>l.length - (intOf t).toNat)
 case atStart=>exact⟨0,O,rfl,rfl,hb⟩
 case round=>
  clear hb;obtain⟨k,hk,rfl,rfl,hb⟩:=hrel;have hbd:=Jn.acd l HM.out k hk;have hz:=hb.size
  by_cases hlt:k<l.length
  ·obtain⟨b0,o,hA,aX,f0,f1,f2⟩:=bq.at_ (Rd.now HR.out hb) hlt;subst hA;have HT:=I (Jn.U8 l k hlt);obtain⟨a0,a1⟩:=HM.out l[k] (bP hlt);obtain⟨d0,d1⟩:=hbd;generalize Jn.nL (l.take k)=s at*;generalize l[k]=x at*;obtain⟨xa,xm,xp⟩:=x;dsimp only at*;have hws:F.wrap (s+xm)=s+xm:=iL _ O;go_wp2_with fail;go_roundw
   case rel=>exact⟨k+1,O,by rw[HT.out],by go_num,bC⟩
   case measure=>simp[intOf];omega
  ·have hke:l.take k=l:=kS O;rw[hke];go_wp2_with fail;go_ret;exact⟨rfl,hb⟩
namespace Jn
def sD (es:List aI) (id:Int):Int:=match get es id with|some k=>(k:Int)|none=> -1
theorem ahb {es:List aI} {id:Int} {k:Nat} (hk:k<es.length) (h: ∀ j (hj:j<k),(es[j]'O).id≠id) (hq:es[k].id=id):sD es id=k:=by
 unfold sD get;have:es.findIdx? (λx=>x.id==id)=N k:=by
  rw[Im];exact⟨hk,by simpa using hq,λj hj=>by simpa using h j hj⟩
 rw[this]
theorem ahc {es:List aI} {id:Int} (h: ∀ j (hj:j<es.length),es[j].id≠id):sD es id= -1:=by
 unfold sD get;have:es.findIdx? (λx=>x.id==id)=J:=by
  rw[Io];intro x hx;obtain⟨j,hj,rfl⟩:=iK.1 hx
  simpa using h j hj
 rw[this]
def zw (es:List aI) (id:Int):Int:=(rev es id).getD 0
def AL (id:Int) (x:aI):Bool:=x.kind==3&&x.of==id
theorem amR {es:List aI} {id:Int} {k:Nat} (hk:k<es.length) (h: ∀ j (hj:j<k),AL id (es[j]'O)=ag) (hq:AL id es[k]=ae):zw es id=es[k].id:=by
 unfold zw rev;have:es.find? (λx=>x.kind==3&&x.of==id)=N es[k]:=by
  rw[Vt];refine⟨hq,k,hk,rfl,λj hj=> ?_⟩;have:=h j hj;unfold AL at this;rw[this]
  rfl
 rw[this]
 rfl
theorem amS {es:List aI} {id:Int} (h: ∀ j (hj:j<es.length),AL id es[j]=ag):zw es id=0:=by
 unfold zw rev;have:es.find? (λx=>x.kind==3&&x.of==id)=J:=by
  rw[Ii];intro x hx;obtain⟨j,hj,rfl⟩:=iK.1 hx;have:=h j hj;unfold AL at this;simp only[this]
  decide
 rw[this]
 rfl
end Jn
theorem abF (es:List aI) (id:Int) (A:Option aG) (cap:Nat) (w:Z) (hr:Rd w w.heap.size 7 A es.length (cellsOf aI.cells es)) (hn:es.length<=1000):
 aF ak 17 #[T A es.length cap,G F id] w λe w'=>e= bM (G F (Jn.sD es id))/\w=w':=by
 have HR:=I hr;clear hr;go_enter Tryz.func17,Tryz.ntmps17;go_wp2_with fail;go_loopw [5] (λt wr=> ∃ k:Nat,k<=es.length/\(∀ j (h:j<k) (h2:j<es.length),(es[j]'h2).id≠id)/\t= G F k/\w=wr) (λt _=>es.length - (intOf t).toNat)
 case atStart=>exact⟨0,O,λj h=>O,rfl,rfl⟩
 case round=>
  obtain⟨k,hk,hno,rfl,rfl⟩:=hrel;have HN:=I hno;clear hno
  by_cases hlt:k<es.length
  ·obtain⟨b,o,hA,aX,f0,f1,f2,f3,f4,f5,f6⟩:=aI.at_ HR.out hlt;subst hA
   cases hq:(es[k].id==id)
   ·have HQ:Hid (es[k].id≠id):=I (by simpa using hq);go_wp2_with fail;go_roundw
    case rel=>
     refine⟨k+1,O,λj h h1=> ?_,by go_num,trivial⟩
     by_cases e:j=k
     ·subst e;exact HQ.out
     ·exact HN.out j O h1
    case measure=>simp[intOf];omega
   ·have HE:Hid (Jn.sD es id=k):=I (Jn.ahb hlt (λj hj=>HN.out j hj O) (by simpa using hq));go_wp2_with fail;go_ret;exact⟨jg HE.out.symm,rfl⟩
  ·have HE:Hid (Jn.sD es id= -1):=I (Jn.ahc λj hj=>HN.out j O hj);go_wp2_with fail;go_ret;exact⟨jg HE.out.symm,rfl⟩
theorem anq (es:List aI) (id:Int) (A:Option aG) (cap:Nat) (w:Z) (hr:Rd w w.heap.size 7 A es.length (cellsOf aI.cells es)) (hn:es.length<=1000):
 aF ak 138 #[T A es.length cap,G F id] w λe w'=>e= bM (G F (Jn.zw es id))/\w=w':=by
 have HR:=I hr;clear hr;go_enter Tryz.func138,Tryz.ntmps138;go_wp2_with fail;go_loopw [5] (λt wr=> ∃ k:Nat,k<=es.length/\(∀ j (h:j<k) (h2:j<es.length),Jn.AL id (es[j]'h2)=ag)/\t= G F k/\w=wr) (λt _=>es.length - (intOf t).toNat)
 case atStart=>exact⟨0,O,λj h=>O,rfl,rfl⟩
 case round=>
  obtain⟨k,hk,hno,rfl,rfl⟩:=hrel;have HN:=I hno;clear hno
  by_cases hlt:k<es.length
  ·obtain⟨b,o,hA,aX,f0,f1,f2,f3,f4,f5,f6⟩:=aI.at_ HR.out hlt;subst hA;have HD:Hid (Jn.AL id es[k]=(es[k].kind==3&&es[k].of==id)):=I rfl;have HST:Hid (Jn.AL id es[k]=ag-> ∀ j (h:j<k+1) (h2:j<es.length),Jn.AL id (es[j]'h2)=ag):=I (λhq j h h1=>by
    by_cases e:j=k
    ·subst e;exact hq
    ·exact HN.out j O h1)
   cases h3:(es[k].kind==3)
   ·have HQ:=I (HST.out (by rw[HD.out,h3];rfl));go_wp2_with fail;go_roundw
    case rel=>exact⟨k+1,O,HQ.out,by go_num,trivial⟩
    case measure=>simp[intOf];omega
   ·cases hq:(es[k].of==id)
    ·have HQ:=I (HST.out (by rw[HD.out,h3,hq];rfl));go_wp2_with fail;go_roundw
     case rel=>exact⟨k+1,O,HQ.out,by go_num,trivial⟩
     case measure=>simp[intOf];omega
    ·have HE:Hid (Jn.zw es id=es[k].id):=I (Jn.amR hlt (λj hj=>HN.out j hj O) (by rw[HD.out,h3,hq];rfl));go_wp2_with fail;go_ret;exact⟨jg HE.out.symm,rfl⟩
  ·have HE:Hid (Jn.zw es id=0):=I (Jn.amS λj hj=>HN.out j O hj);go_wp2_with fail;go_ret;exact⟨jg HE.out.symm,rfl⟩
namespace Jn
def nW (V:Bool) (n:Int) (x:aI):Int:=if lJ V n x then 0 else 1
structure Ab (V:Bool) (n:Int) (x:aI):Prop where
 v:V=ae
 id:1<=x.id
 e0:0<=x.bF
 e1:x.bF<n
 k0:1<=x.kind
 k1:x.kind<=3
 Lr:x.kind=3->1<=x.of
 Lp:x.kind≠3->x.of=0
 pl:jH x.text=ae
 l0:2<=x.lines.l.length
 l1:x.lines.l.length<=40
theorem TF {V:Bool} {n:Int} {x:aI}:EN V n x=ae↔Ab V n x:=by
 unfold EN;simp only[bR,dm]
 constructor
 ·rintro⟨⟨⟨⟨⟨⟨⟨⟨⟨a,b⟩,c⟩,d⟩,e⟩,f⟩,g⟩,h⟩,i⟩,j⟩;refine⟨a,b,c,d,e,f,λh3=> ?_,λh3=> ?_,h,i,j⟩
  ·rw[bB h3]at g;simpa using g
  ·rw[bE h3]at g;simpa using g
 ·intro h;refine⟨⟨⟨⟨⟨⟨⟨⟨⟨h.v,h.id⟩,h.e0⟩,h.e1⟩,h.k0⟩,h.k1⟩,?_⟩,h.pl⟩,h.l0⟩,h.l1⟩
  by_cases h3:x.kind=3
  ·rw[bB h3];simpa using h.Lr h3
  ·rw[bE h3];simpa using h.Lp h3
theorem Og {V:Bool} {n:Int} {x:aI} (h: ¬ Ab V n x):nW V n x=1:=by
 unfold nW lJ;have:EN V n x=ag:=by
  cases h2:EN V n x
  ·rfl
  ·exact absurd (TF.1 h2) h
 rw[this]
 rfl
theorem GD {V:Bool} {n:Int} {x:aI} {k:Nat} (hk:k<x.lines.l.length) (h:jc n x.bF x.lines.l[k]=ag):nW V n x=1:=by
 unfold nW lJ;have:x.lines.l.all (jc n x.bF)=ag:=by
  cases h2:x.lines.l.all (jc n x.bF)
  ·rfl
  ·rw[ng]at h2;rw[h2 _ (bP hk)]at h
   cases h
 rw[this,Bool.and_false]
 rfl
theorem YL {V:Bool} {n:Int} {x:aI} (h:Ab V n x) (h2: ∀ k (hk:k<x.lines.l.length),jc n x.bF x.lines.l[k]=ae):nW V n x=0:=by
 unfold nW lJ;have:x.lines.l.all (jc n x.bF)=ae:=by
  rw[ng];intro y hy;obtain⟨k,hk,rfl⟩:=iK.1 hy;exact h2 k hk
 rw[this,TF.2 h]
 rfl
theorem SE {V:Bool} {n:Int} {x:aI} (h:nW V n x=0):Ab V n x/\ ∀ l∈x.lines.l,jc n x.bF l=ae:=by
 unfold nW at h
 cases hf:lJ V n x
 ·rw[hf]at h;simp at h
 ·unfold lJ at hf;rw[bR,ng]at hf;exact⟨TF.1 hf.1,hf.2⟩
structure XD (n e:Int) (l:bq):Prop where
 nz:l.amount≠0
 am:pF l.amount=ae
 p0: -1<=l.partner
 p1:l.partner<n
 pe:l.partner≠e
theorem aaC {n e:Int} {l:bq} (hn:0<=n) (he:0<=e):jc n e l=ae↔XD n e l:=by
 unfold jc;simp only[bR,ou,Dv,dm,VE,ne_eq]
 constructor
 ·rintro⟨⟨a,b⟩,c|⟨⟨c,d⟩,f⟩⟩
  ·exact⟨a,b,O,O,O⟩
  ·exact⟨a,b,O,d,f⟩
 ·intro h;refine⟨⟨h.nz,h.am⟩,?_⟩
  by_cases h1:l.partner= -1
  ·exact .inl h1
  ·exact .inr ⟨⟨by have:=h.p0;omega,h.p1⟩,h.pe⟩
theorem OP {n e:Int} {l:bq} (hn:0<=n) (he:0<=e) (h: ¬ XD n e l):jc n e l=ag:=by
 cases h2:jc n e l
 ·rfl
 ·exact absurd ((aaC hn he).1 h2) h
def wu (K:Int->Int->Bool) (x:aI):Int:=if x.lines.l.all (λl=>K x.bF l.ek) then 0 else 17
def Ck (D:Int->Bool) (x:aI):Int:=if D x.date then 0 else 2
def Eu (x:aI):Int:=if nL x.lines.l=0 then 0 else 11
theorem Yg {K:Int->Int->Bool} {x:aI} {k:Nat} (hk:k<x.lines.l.length) (h:K x.bF x.lines.l[k].ek=ag):wu K x=17:=by
 unfold wu;have:(x.lines.l.all λl=>K x.bF l.ek)=ag:=by
  cases h2:x.lines.l.all (λl=>K x.bF l.ek)
  ·rfl
  ·rw[ng]at h2;rw[h2 _ (bP hk)]at h
   cases h
 rw[this]
 rfl
theorem afa {K:Int->Int->Bool} {x:aI} (h2: ∀ k (hk:k<x.lines.l.length),K x.bF x.lines.l[k].ek=ae):wu K x=0:=by
 unfold wu;have:(x.lines.l.all λl=>K x.bF l.ek)=ae:=by
  rw[ng];intro y hy;obtain⟨k,hk,rfl⟩:=iK.1 hy;exact h2 k hk
 rw[this]
 rfl
theorem Yk (V:Bool) (n:Int) (K:Int->Int->Bool) (D:Int->Bool) (x:aI):
 bJ V n K D x=if nW V n x=0 then (if wu K x=0 then (if Ck D x=0 then Eu x else Ck D x) else wu K x) else nW V n x:=by
 unfold bJ nW wu Ck Eu
 cases lJ V n x<;>cases x.lines.l.all (λl=>K x.bF l.ek)<;>cases D x.date<;>simp
theorem Aj {V:Bool} {n:Int} {K:Int->Int->Bool} {D:Int->Bool} {x:aI} (h:bJ V n K D x=0):nW V n x=0:=by
 rw[Yk]at h
 by_cases h1:nW V n x=0
 ·exact h1
 ·rw[bE h1]at h;exact absurd h h1
theorem Yj {V:Bool} {n:Int} {K:Int->Int->Bool} {D:Int->Bool} {x:aI} (h:bJ V n K D x=0):2<=x.lines.l.length/\x.lines.l.length<=40/\ ∀ l∈x.lines.l,-1000000000000<=l.amount/\l.amount<=1000000000000:=by
 obtain⟨h1,h2⟩:=SE (Aj h);refine⟨h1.l0,h1.l1,λl hl=> ?_⟩;have:=h2 l hl;unfold jc at this;simp only[bR]at this;exact R6 this.1.2
end Jn
instance apm:DecidableEq bq:=λa b=>decidable_of_iff (a.ek=b.ek/\a.amount=b.amount/\a.partner=b.partner) (by cases a;cases b;simp)
namespace Jn
def yj (x y:bq):Bool:=x.ek==y.ek&&(x.partner==y.partner&&x.amount== -y.amount)
theorem ak0 {a b:List bq} (h:mr a b=ae) {k:Nat} (hk:k<a.length) (hk2:k<b.length):yj a[k] b[k]=ae:=by
 obtain⟨x,y,z⟩:=((O0 a b).1 h).2 k hk hk2;unfold yj;simp[x,y,z]
theorem akZ {a b:List bq} (hl:a.length=b.length) (h: ∀ k (hk:k<a.length) (hk2:k<b.length),yj a[k] b[k]=ae):mr a b=ae:=by
 refine(O0 a b).2 ⟨hl,λk hk hk2=> ?_⟩;have:=h k hk hk2;unfold yj at this;simp only[bR,vD]at this;exact⟨this.1,this.2.1,this.2.2⟩
theorem ak3 {a b:List bq} {k:Nat} (hk:k<a.length) (hk2:k<b.length) (h:yj a[k] b[k]=ag):mr a b=ag:=by
 cases h2:mr a b
 ·rfl
 ·rw[ak0 h2 hk hk2]at h;cases h
theorem ak1 {a b:List bq} (h: ¬ a.length=b.length):mr a b=ag:=by
 cases h2:mr a b
 ·rfl
 ·exact absurd ((O0 a b).1 h2).1 h
theorem ak2 (a b:List bq):decide (a=b.map neg)=mr a b:=by
 rw[qm,dm,O0]
 constructor
 ·rintro rfl;refine⟨by simp,λk hk hk2=> ?_⟩;rw[vw];exact⟨rfl,rfl,rfl⟩
 ·rintro⟨hl,h⟩;refine MC (by simpa using hl) λk hk hk2=> ?_
  rw[vw];obtain⟨x,y,z⟩:=h k hk O;have e: ∀ u:bq,u=⟨u.ek,u.amount,u.partner⟩:=λ_=>rfl
  rw[e a[k],x,y,z]
  rfl
theorem aj5 (s t:bq):s=t\/((s.ek==t.ek)=ag/\s≠t)\/((s.ek==t.ek)=ae/\(s.amount==t.amount)=ag/\s≠t)\/((s.ek==t.ek)=ae/\(s.amount==t.amount)=ae/\(s.partner==t.partner)=ag/\s≠t):=by
 by_cases h1:s.ek=t.ek
 ·by_cases h2:s.amount=t.amount
  ·by_cases h3:s.partner=t.partner
   ·refine .inl ?_
    cases s;cases t;simp at h1 h2 h3 |-;exact⟨h1,h2,h3⟩
   ·exact .inr (.inr (.inr ⟨by simpa using h1,by simpa using h2,by simpa using h3,λe=>h3 (by rw[e])⟩))
  ·exact .inr (.inr (.inl ⟨by simpa using h1,by simpa using h2,λe=>h2 (by rw[e])⟩))
 ·exact .inr (.inl ⟨by simpa using h1,λe=>h1 (by rw[e])⟩)
end Jn
theorem akY (x y:bq) (w:Z) (hy: -4611686018427387904<=y.amount/\y.amount<=4611686018427387904):
 aF ak 256 #[az #[G F x.ek,G F x.amount,G F x.partner],az #[G F y.ek,G F y.amount,G F y.partner]] w (fD (Jn.yj x y) w):=by
 have hb:Below w.heap.size w ((w.alloc (U #[G F x.ek,G F x.amount,G F x.partner] 131)).alloc (U #[G F y.ek,G F y.amount,G F y.partner] 131)):=((aD _ _).alloc (aC _) _).alloc aL _;have HB:=I hb;clear hb;obtain⟨xa,xm,xp⟩:=x;obtain⟨ya,ym,yp⟩:=y;dsimp only at*;obtain⟨m0,m1⟩:=hy;have hw:F.wrap (-ym)= -ym:=iL _ O;have hw2:wrap64 (-ym)= -ym:=Vr _ ⟨by omega,O⟩;have HD:Hid (Jn.yj ⟨xa,xm,xp⟩ ⟨ya,ym,yp⟩=(xa==ya&&(xp==yp&&xm== -ym))):=I rfl
 cases h1:(xa==ya)
 ·go_enter Tryz.func256,Tryz.ntmps256;go_wp2_with fail;go_ret;exact⟨by rw[HD.out,h1];rfl,HB.out⟩
 ·cases h2:(xp==yp)
  ·go_enter Tryz.func256,Tryz.ntmps256;go_wp2_with fail;go_ret;exact⟨by rw[HD.out,h1,h2];rfl,HB.out⟩
  ·cases h3:(xm== -ym)
   ·go_enter Tryz.func256,Tryz.ntmps256;go_wp2_with fail;go_ret;exact⟨by rw[HD.out,h1,h2,h3];rfl,HB.out⟩
   ·go_enter Tryz.func256,Tryz.ntmps256;go_wp2_with fail;go_ret;exact⟨by rw[HD.out,h1,h2,h3];rfl,HB.out⟩
theorem agD (a b:List bq) (A B:Option aG) (c1 c2:Nat) (w:Z) (hr:Rd w w.heap.size 3 A a.length (cellsOf bq.cells a)) (hq:Rd w w.heap.size 3 B b.length (cellsOf bq.cells b)) (hn:a.length<=1000) (hn2:b.length<=1000)
 (hm: ∀ y∈b,-4611686018427387904<=y.amount/\y.amount<=4611686018427387904):
 aF ak 255 #[T A a.length c1,T B b.length c2,.func (.func 256) #[] #[]] w (fD (Jn.mr a b) w):=by
 have hb:=aD w.heap.size w;have HR:=I hr;have HQ:=I hq;have HM:=I hm;clear hr hq hm
 cases hl:((a.length:Int) !=(b.length:Int))
 ·have HL:Hid (a.length=b.length):=I (by simp at hl;omega);go_enter Tryz.func255,Tryz.ntmps255;go_wp2_with fail;go_loopw [7,17] (λ_ t wr=> ∃ k:Nat,k<=a.length/\(∀ j (h:j<k) (h1:j<a.length) (h2:j<b.length),Jn.yj (a[j]'h1) (b[j]'h2)=ae)/\t= G F k/\Below w.heap.size w wr) (λ_ t _=>a.length - (intOf t).toNat)
  case atStart=>exact⟨0,O,λj h=>O,rfl,hb⟩
  case round=>
   clear hb;obtain⟨k,hk,hno,rfl,hb⟩:=hrel;have HN:=I hno;have hz:=hb.size;clear hno
   by_cases hlt:k<a.length
   ·have hlt2:k<b.length:=by have:=HL.out;omega
    obtain⟨x,o,hA,aX,f0,f1,f2⟩:=bq.at_ (Rd.now HR.out hb) hlt;obtain⟨y,p,hB,hbp,g0,g1,g2⟩:=bq.at_ (Rd.now HQ.out hb) hlt2;subst hA hB;have eH:=I (Jn.ak3 (a:=a) (b:=b) hlt hlt2);have HST:Hid (Jn.yj a[k] b[k]=ae-> ∀ j (h:j<k+1) (h1:j<a.length) (h2:j<b.length),Jn.yj (a[j]'h1) (b[j]'h2)=ae):=I (λhq j h h1 h2=>by
     by_cases e:j=k
     ·subst e;exact hq
     ·exact HN.out j O h1 h2)
    have HMK:=I (HM.out _ (bP hlt2));generalize a[k]=u at*;generalize b[k]=v at*;have HK:=I (λW=>akY u v W HMK.out);obtain⟨ua,um,up⟩:=u;obtain⟨va,vm,vp⟩:=v;dsimp only at*;have g0':(wr.alloc (U #[G F ua,G F um,G F up] 131)).cell? ⟨y,p+k*3,J⟩=N (G F va):=(LZ wr _ ⟨y,p+k*3,J⟩ hbp).trans g0;have g1':(wr.alloc (U #[G F ua,G F um,G F up] 131)).cell? ⟨y,p+k*3+1,J⟩=N (G F vm):=(LZ wr _ ⟨y,p+k*3+1,J⟩ hbp).trans g1;have g2':(wr.alloc (U #[G F ua,G F um,G F up] 131)).cell? ⟨y,p+k*3+2,J⟩=N (G F vp):=(LZ wr _ ⟨y,p+k*3+2,J⟩ hbp).trans g2;have hb2:Below w.heap.size w ((wr.alloc (U #[G F ua,G F um,G F up] 131)).alloc (U #[G F va,G F vm,G F vp] 131)):=(hb.alloc hz _).alloc bL _
    cases hop:Jn.yj ⟨ua,um,up⟩ ⟨va,vm,vp⟩
    ·have HE:=I (eH.out hop);rw[hop]at HK;clear hop;go_wp2_with (go_at_call 256;refine(HK.out _).mono ?_;rintro e w5 ⟨rfl,ah⟩;have hb5:=ay hb2 ah;clear ah);go_ret;exact⟨gz HE.out.symm,hb5⟩
    ·have HE:=I (HST.out hop);rw[hop]at HK;clear hop;go_wp2_with (go_at_call 256;refine(HK.out _).mono ?_;rintro e w5 ⟨rfl,ah⟩;have hb5:=ay hb2 ah;clear ah);go_roundw
     case rel=>exact⟨k+1,O,HE.out,by go_num,hb5⟩
     case measure=>simp[intOf];omega
   ·have HE:Hid (Jn.mr a b=ae):=I (Jn.akZ HL.out (λj h1 h2=>HN.out j O h1 h2));go_wp2_with fail;go_ret;exact⟨gz HE.out.symm,hb⟩
 ·have HE:Hid (Jn.mr a b=ag):=I (Jn.ak1 (λe=>by rw[e]at hl;simp at hl));go_enter Tryz.func255,Tryz.ntmps255;go_wp2_with fail;go_ret;exact⟨gz HE.out.symm,hb⟩
theorem alp (a b:List bq) (A B:Option aG) (c1 c2:Nat) (w:Z) (hr:Rd w w.heap.size 3 A a.length (cellsOf bq.cells a)) (hq:Rd w w.heap.size 3 B b.length (cellsOf bq.cells b)) (hn:a.length<=1000) (hn2:b.length<=1000)
 (hm: ∀ y∈b,-4611686018427387904<=y.amount/\y.amount<=4611686018427387904):
 aF ak 223 #[T A a.length c1,T B b.length c2] w (fD (Jn.mr a b) w):=by
 have HK:=I (agD a b A B c1 c2 w hr hq hn hn2 hm);clear hr hq hm;generalize Jn.mr a b=V at*;go_enter Tryz.func223,Tryz.ntmps223;go_wp2_with (go_at_call 255;refine HK.out.mono ?_;rintro e w5 ⟨rfl,ah⟩);go_ret;exact⟨rfl,ah⟩
theorem anr (m n:List bq) (A B:Option aG) (c1 c2:Nat) (w:Z) (hr:Rd w w.heap.size 3 A m.length (cellsOf bq.cells m)) (hq:Rd w w.heap.size 3 B n.length (cellsOf bq.cells n)) (hn:m.length<=1000) (hn2:n.length<=1000):
 aF ak 203 #[T A m.length c1,T B n.length c2] w (fD (decide (m=n)) w):=by
 have hb:=aD w.heap.size w;have HR:=I hr;have HQ:=I hq;clear hr hq
 cases hl:((m.length:Int) !=(n.length:Int))
 ·have HL:Hid (m.length=n.length):=I (by simp at hl;omega);go_enter Tryz.func203,Tryz.ntmps203;go_wp2_with fail;go_loopw [5] (λt wr=> ∃ k:Nat,k<=m.length/\(∀ j (h:j<k) (h1:j<m.length) (h2:j<n.length),m[j]'h1=n[j]'h2)/\t= G F k/\Below w.heap.size w wr) (λt _=>m.length - (intOf t).toNat)
  case atStart=>exact⟨0,O,λj h=>O,rfl,hb⟩
  case round=>
   clear hb;obtain⟨k,hk,hno,rfl,hb⟩:=hrel;have HN:=I hno;clear hno
   by_cases hlt:k<m.length
   ·have hlt2:k<n.length:=by have:=HL.out;omega
    obtain⟨x,o,hA,aX,f0,f1,f2⟩:=bq.at_ (Rd.now HR.out hb) hlt;obtain⟨y,p,hB,hbp,g0,g1,g2⟩:=bq.at_ (Rd.now HQ.out hb) hlt2;subst hA hB;have q0: ∀ d:Later wr,d.now.cell? ⟨x,o+k*3,J⟩=N (G F m[k].ek):=λd=>d.cell aX f0
    have q1: ∀ d:Later wr,d.now.cell? ⟨x,o+k*3+1,J⟩=N (G F m[k].amount):=λd=>d.cell aX f1
    have q2: ∀ d:Later wr,d.now.cell? ⟨x,o+k*3+2,J⟩=N (G F m[k].partner):=λd=>d.cell aX f2
    have q3: ∀ d:Later wr,d.now.cell? ⟨y,p+k*3,J⟩=N (G F n[k].ek):=λd=>d.cell hbp g0
    have q4: ∀ d:Later wr,d.now.cell? ⟨y,p+k*3+1,J⟩=N (G F n[k].amount):=λd=>d.cell hbp g1
    have q5: ∀ d:Later wr,d.now.cell? ⟨y,p+k*3+2,J⟩=N (G F n[k].partner):=λd=>d.cell hbp g2
    clear f0 f1 f2 g0 g1 g2
    rcases Jn.aj5 m[k] n[k]with hc|⟨hc1,hc2⟩|⟨hc1,hc2,hc3⟩|⟨hc0,hc1,hc2,hc3⟩
    ·have HC:=I hc;rw[hc]at q0 q1 q2;clear hc;go_wp2_with fail;refine eX ai ai ?_;(repeat (go_big_quiet_step ((fail))));refine wpQuiet_nil ?_;rintro _ ⟨dq,rfl⟩;have hbe:=ay hb dq.below;go_wp2_with fail;go_roundw
     case rel=>
      refine⟨k+1,O,λj h h1 h2=> ?_,by go_num,hbe⟩
      by_cases hj:j=k
      ·subst hj;exact HC.out
      ·exact HN.out j O h1 h2
     case measure=>simp[intOf];omega
    ·have HE:Hid (¬ m=n):=I (λe=>hc2 (by subst e;rfl));clear hc2;go_wp2_with fail;refine eX ai ai ?_;(repeat (go_big_quiet_step ((fail))));refine wpQuiet_nil ?_;rintro _ ⟨dq,rfl⟩;have hbe:=ay hb dq.below;go_wp2_with fail;go_ret;exact⟨gz (by simp[HE.out]),hbe⟩
    ·have HE:Hid (¬ m=n):=I (λe=>hc3 (by subst e;rfl));clear hc3;go_wp2_with fail;refine eX ai ai ?_;(repeat (go_big_quiet_step ((fail))));refine wpQuiet_nil ?_;rintro _ ⟨dq,rfl⟩;have hbe:=ay hb dq.below;go_wp2_with fail;go_ret;exact⟨gz (by simp[HE.out]),hbe⟩
    ·have HE:Hid (¬ m=n):=I (λe=>hc3 (by subst e;rfl));clear hc3;go_wp2_with fail;refine eX ai ai ?_;(repeat (go_big_quiet_step ((fail))));refine wpQuiet_nil ?_;rintro _ ⟨dq,rfl⟩;have hbe:=ay hb dq.below;go_wp2_with fail;go_ret;exact⟨gz (by simp[HE.out]),hbe⟩
   ·have HE:Hid (m=n):=I (MC HL.out (λj h1 h2=>HN.out j O h1 h2));go_wp2_with fail;go_ret;exact⟨gz (by simp[HE.out]),hb⟩
 ·have HE:Hid (¬ m=n):=I (λe=>by subst e;simp at hl);go_enter Tryz.func203,Tryz.ntmps203;go_wp2_with fail;go_ret;exact⟨gz (by simp[HE.out]),hb⟩
theorem anf (a b:List bq) (A B:Option aG) (c1 c2:Nat) (w:Z) (hr:Rd w w.heap.size 3 A a.length (cellsOf bq.cells a)) (hq:Rd w w.heap.size 3 B b.length (cellsOf bq.cells b)) (hn:a.length<=1000) (hn2:b.length<=1000)
 (hm: ∀ y∈b,-4611686018427387904<=y.amount/\y.amount<=4611686018427387904):
 aF ak 139 #[T A a.length c1,T B b.length c2] w (fD (Jn.mr a b) w):=by
 have hb:=aD w.heap.size w;have HR:=I hr;have HQ:=I hq;have HM:=I hm;obtain⟨i0,hi,hz0,hz1,hz2⟩:=jh bq.info;clear hr hq hm;go_enter Tryz.func139,Tryz.ntmps139;go_wp2_with fail;go_loopw [5,6] (λv t wr=> ∃ k:Nat,k<=b.length/\t= G F k/\wr.ownsRow w.heap.size 131 3 v ((b.take k).map Jn.neg).length (cellsOf bq.cells ((b.take k).map Jn.neg))/\Below w.heap.size w wr) (λ_ t _=>b.length - (intOf t).toNat)
 case atStart=>exact⟨0,O,rfl,jZ _ _ _ _,hb⟩
 case round=>
  clear hb;obtain⟨k,hk,rfl,ho,hb⟩:=hrel;have hz:=hb.size
  by_cases hlt:k<b.length
  ·obtain⟨x,o,hA,aX,f0,f1,f2⟩:=bq.at_ (Rd.now HQ.out hb) hlt;subst hA;obtain⟨m0,m1⟩:=HM.out _ (bP hlt);have HT:Hid ((b.take (k+1)).map Jn.neg=(b.take k).map Jn.neg++ [Jn.neg b[k]]):=I (by rw[gY hlt,mJ];rfl);have hln:((b.take k).map Jn.neg).length<=1000:=by rw[pM,jR];omega
   generalize (b.take k).map Jn.neg=S at*;generalize b[k]=u at*;obtain⟨ua,um,up⟩:=u;dsimp only at*;have HO:=I ho;clear ho;have hw:F.wrap (-um)= -um:=iL _ O;have hw2:wrap64 (-um)= -um:=Vr _ ⟨by omega,O⟩;have hst:=(aD wr.heap.size wr).alloc (aC _) (U #[G F ua,G F (-um),G F up] 131);have gU:=hst.alloc hst.size (U #[G F ua,G F (-um),G F up] 131);go_wp2_with (at_builtin;refine yw bq.cells 3 (λ_=>rfl) bq.one rfl (.tmp 22) (.tmp 24) 105 rfl w.heap.size 131 i0 (az #[G F 0,G F 0,G F 0]) 24 PW hi hz0 hz1 hz2 rfl aJ _ S rfl (dF HO.out gU) (wr.heap.size+1) 1 ⟨ua,-um,up⟩ _ rfl (eT _ _ _ _) rfl (by simp only[bK];omega) O bL ?_);intro v7 w7 eQ eU;have fu:Below w.heap.size w w7:=iI (ay hb gU) (by have:=gU.size;omega) (dF HO.out gU) eU;clear eU;go_wp2_with fail;go_roundw
   case rel=>exact⟨k+1,O,by go_num,by rw[HT.out,fK,ow];exact eQ,fu⟩
   case measure=>simp[intOf];omega
  ·have hke:b.take k=b:=kS O;rw[hke]at ho;have hlm:(b.map Jn.neg).length<=1000:=by rw[pM];exact hn2
   have HN:=I (Jn.ak2 a b);generalize b.map Jn.neg=S at*;obtain⟨A5,c5,rfl,hrx⟩:=Rd.dE ho;have H5:=I hrx;clear hrx ho;go_wp2_with (go_at_call 203;refine(anr a S A A5 c1 c5 _ (Rd.now HR.out hb) H5.out hn hlm).mono ?_;rintro e w5 ⟨rfl,ah⟩;have hb5:=ay hb ah;clear ah);go_ret;exact⟨gz HN.out,hb5⟩
def gp {α:Type} (f:α->List aj) (base:Nat) (e:TypeId) (sz:Nat) (w:Z) (s:Sl α):Prop:=w.ownsRow base e sz s.val s.l.length (cellsOf f s.l)
def MO {α:Type} (f:α->List aj) (e:TypeId) (sz:Nat) (l:List α) (w:Z) (en:eG) (w':Z):Prop:=
 ∃ (A2:Option aG) (c2:Nat),en= .returned (T A2 l.length c2)/\gp f w.heap.size e sz w' ⟨l,A2,c2⟩/\Below w.heap.size w w'
theorem gp.lies {α:Type} {f:α->List aj} {base:Nat} {e:TypeId} {sz:Nat} {w:Z} {s:Sl α} (h:gp f base e sz w s):s.pW w f sz:=by
 obtain⟨l,A,c⟩:=s;obtain⟨A',c',he,hr⟩:=Rd.dE h;unfold Sl.val at he;dsimp only at he;injection he with h1 _ h3
 subst h1 h3;refine⟨hr,?_⟩;unfold gp Sl.val at h;dsimp only at h |-
 rcases h.2 with ⟨hv,h0⟩|⟨g,cap,cur,hv,_,_,hnc,hcm,_⟩
 ·injection hv with _ hv2 hv3
  rw[h0];exact⟨by omega,by rw[hv3];decide⟩
 ·injection hv with _ _ hv3
  subst hv3;exact⟨hnc,hcm⟩
theorem Acc.info:(ak.info? 212).map (λi=>(i.zero,i.size,i.bytes))=N (N (az #[G F 0,G F 0,G F 0,G F 0]),4,32):=ai
theorem Acc.one (x:Acc): ∀ u∈Acc.cells x,u.oneCell'=ae:=by
 intro u hu;simp only[Acc.cells,Ch.Cc,fT,lV,lW]at hu
 rcases hu with rfl|rfl|rfl|rfl
 all_goals rfl
theorem Ym (l:List Acc) (A:Option aG) (cap:Nat) (w:Z) (hr:Rd w w.heap.size 4 A l.length (cellsOf Acc.cells l)) (hn:l.length<=1000000):
 aF ak 216 #[T A l.length cap] w (MO Acc.cells 212 4 l w):=by
 have hnil: ∀ (w:Z) (a:Option aG) (n c n' c':Nat),(binOp .eql 24 (T a n c) (T J n' c')).run ak w= .ok (aA a.isNone) w:=λw a n c n' c'=>ME w _ _ a n c n' c' PU
 have HR:=I hr;clear hr;obtain⟨i0,hi,hz0,hz1,hz2⟩:=jh Acc.info
 cases A with
 |none=>
  have hl:l= []:=by
   rcases ry l.length with h0|h0
   ·exact zC h0
   ·obtain⟨b,o,h,_⟩:=HR.out.2 h0
    cases h
  subst hl;go_enter Tryz.func216,Tryz.ntmps216;go_wp2_with fail;go_ret;exact⟨J,0,rfl,jZ _ _ _ _,aD _ _⟩
 |some ad=>
  go_enter Tryz.func216,Tryz.ntmps216;go_wp2_with (at_builtin;(refine zA _ rfl (.tmp 5) (.tmp 6) 24 rfl w.heap.size 212 i0 (az #[G F 0,G F 0,G F 0,G F 0]) 4 32 PU hi hz0 hz1 hz2 rfl aJ _ 0 [] rfl (zn w 212 w.heap.size 4 0 (aC _) #[] rfl aJ) w.heap.size (N ad) l.length cap (cellsOf Acc.cells l) rfl (HR.out.alloc (aC _) _) (cells_one Acc.one l) (by simp only[bK];omega) O aL ?_));intro v7 w7 eQ eU;have fu:Below w.heap.size w w7:=iI ((aD _ _).alloc (aC _) _) aL (zn w 212 w.heap.size 4 0 (aC _) #[] rfl aJ) eU;obtain⟨A2,c2,rfl,-⟩:=Rd.dE eQ;have HO:=I eQ;clear eU eQ;go_wp2_with fail;go_ret;exact⟨A2,c2,rfl,HO.out,fu⟩
theorem afh (l:List aY) (A:Option aG) (cap:Nat) (w:Z) (hr:Rd w w.heap.size 5 A l.length (cellsOf aY.cells l)) (hn:l.length<=1000000):
 aF ak 217 #[T A l.length cap] w (MO aY.cells 179 5 l w):=by
 have hnil: ∀ (w:Z) (a:Option aG) (n c n' c':Nat),(binOp .eql 27 (T a n c) (T J n' c')).run ak w= .ok (aA a.isNone) w:=λw a n c n' c'=>ME w _ _ a n c n' c' Tryz.underlying27
 have HR:=I hr;clear hr;obtain⟨i0,hi,hz0,hz1,hz2⟩:=jh aY.info
 cases A with
 |none=>
  have hl:l= []:=by
   rcases ry l.length with h0|h0
   ·exact zC h0
   ·obtain⟨b,o,h,_⟩:=HR.out.2 h0
    cases h
  subst hl;go_enter Tryz.func217,Tryz.ntmps217;go_wp2_with fail;go_ret;exact⟨J,0,rfl,jZ _ _ _ _,aD _ _⟩
 |some ad=>
  go_enter Tryz.func217,Tryz.ntmps217;go_wp2_with (at_builtin;(refine zA _ rfl (.tmp 5) (.tmp 6) 27 rfl w.heap.size 179 i0 (az #[av ⟨#[]⟩,av ⟨#[]⟩,T J 0 0,T J 0 0,aA ag]) 5 88 Tryz.underlying27 hi hz0 hz1 hz2 rfl aJ _ 0 [] rfl (zn w 179 w.heap.size 5 0 (aC _) #[] rfl aJ) w.heap.size (N ad) l.length cap (cellsOf aY.cells l) rfl (HR.out.alloc (aC _) _) (cells_one aY.one l) (by simp only[bK];omega) O aL ?_));intro v7 w7 eQ eU;have fu:Below w.heap.size w w7:=iI ((aD _ _).alloc (aC _) _) aL (zn w 179 w.heap.size 5 0 (aC _) #[] rfl aJ) eU;obtain⟨A2,c2,rfl,-⟩:=Rd.dE eQ;have HO:=I eQ;clear eU eQ;go_wp2_with fail;go_ret;exact⟨A2,c2,rfl,HO.out,fu⟩
theorem afi (l:List bV) (A:Option aG) (cap:Nat) (w:Z) (hr:Rd w w.heap.size 3 A l.length (cellsOf bV.cells l)) (hn:l.length<=1000000):
 aF ak 218 #[T A l.length cap] w (MO bV.cells 250 3 l w):=by
 have hnil: ∀ (w:Z) (a:Option aG) (n c n' c':Nat),(binOp .eql 177 (T a n c) (T J n' c')).run ak w= .ok (aA a.isNone) w:=λw a n c n' c'=>ME w _ _ a n c n' c' PV
 have HR:=I hr;clear hr;obtain⟨i0,hi,hz0,hz1,hz2⟩:=jh bV.info
 cases A with
 |none=>
  have hl:l= []:=by
   rcases ry l.length with h0|h0
   ·exact zC h0
   ·obtain⟨b,o,h,_⟩:=HR.out.2 h0
    cases h
  subst hl;go_enter Tryz.func218,Tryz.ntmps218;go_wp2_with fail;go_ret;exact⟨J,0,rfl,jZ _ _ _ _,aD _ _⟩
 |some ad=>
  go_enter Tryz.func218,Tryz.ntmps218;go_wp2_with (at_builtin;(refine zA _ rfl (.tmp 5) (.tmp 6) 177 rfl w.heap.size 250 i0 (az #[G F 0,G F 0,G F 0]) 3 24 PV hi hz0 hz1 hz2 rfl aJ _ 0 [] rfl (zn w 250 w.heap.size 3 0 (aC _) #[] rfl aJ) w.heap.size (N ad) l.length cap (cellsOf bV.cells l) rfl (HR.out.alloc (aC _) _) (cells_one bV.one l) (by simp only[bK];omega) O aL ?_));intro v7 w7 eQ eU;have fu:Below w.heap.size w w7:=iI ((aD _ _).alloc (aC _) _) aL (zn w 250 w.heap.size 3 0 (aC _) #[] rfl aJ) eU;obtain⟨A2,c2,rfl,-⟩:=Rd.dE eQ;have HO:=I eQ;clear eU eQ;go_wp2_with fail;go_ret;exact⟨A2,c2,rfl,HO.out,fu⟩
theorem Yn (l:List bq) (A:Option aG) (cap:Nat) (w:Z) (hr:Rd w w.heap.size 3 A l.length (cellsOf bq.cells l)) (hn:l.length<=1000000):
 aF ak 215 #[T A l.length cap] w (MO bq.cells 131 3 l w):=by
 have hnil: ∀ (w:Z) (a:Option aG) (n c n' c':Nat),(binOp .eql 105 (T a n c) (T J n' c')).run ak w= .ok (aA a.isNone) w:=λw a n c n' c'=>ME w _ _ a n c n' c' PW
 have HR:=I hr;clear hr;obtain⟨i0,hi,hz0,hz1,hz2⟩:=jh bq.info
 cases A with
 |none=>
  have hl:l= []:=by
   rcases ry l.length with h0|h0
   ·exact zC h0
   ·obtain⟨b,o,h,_⟩:=HR.out.2 h0
    cases h
  subst hl;go_enter Tryz.func215,Tryz.ntmps215;go_wp2_with fail;go_ret;exact⟨J,0,rfl,jZ _ _ _ _,aD _ _⟩
 |some ad=>
  go_enter Tryz.func215,Tryz.ntmps215;go_wp2_with (at_builtin;(refine zA _ rfl (.tmp 5) (.tmp 6) 105 rfl w.heap.size 131 i0 (az #[G F 0,G F 0,G F 0]) 3 24 PW hi hz0 hz1 hz2 rfl aJ _ 0 [] rfl (zn w 131 w.heap.size 3 0 (aC _) #[] rfl aJ) w.heap.size (N ad) l.length cap (cellsOf bq.cells l) rfl (HR.out.alloc (aC _) _) (cells_one bq.one l) (by simp only[bK];omega) O aL ?_));intro v7 w7 eQ eU;have fu:Below w.heap.size w w7:=iI ((aD _ _).alloc (aC _) _) aL (zn w 131 w.heap.size 3 0 (aC _) #[] rfl aJ) eU;obtain⟨A2,c2,rfl,-⟩:=Rd.dE eQ;have HO:=I eQ;clear eU eQ;go_wp2_with fail;go_ret;exact⟨A2,c2,rfl,HO.out,fu⟩
def sU:Array aj:= #[G F 0,G F 0,G F 0,G F 0,G F 0,av ⟨#[]⟩,T J 0 0]
def acs (id en da kd fo:Int) (tx:ByteArray) (ll:List bq) (w:Z) (e:eG) (w':Z):Prop:=
 ∃ (A2:Option aG) (c2:Nat),e= .returned (az #[G F id,G F en,G F da,G F kd,G F fo,av tx,T A2 ll.length c2])/\gp bq.cells w.heap.size 131 3 w' ⟨ll,A2,c2⟩/\Below w.heap.size w w'
theorem gp.row {α:Type} {f:α->List aj} {base:Nat} {e:TypeId} {sz:Nat} {w:Z} {s:Sl α} (h:gp f base e sz w s) {g:Nat} (hg:g<base) (cs:Array aj):gp f base e sz (w.setRow g cs) s:=
 ⟨h.1,h.2.imp id λ⟨g',cap,cur,h1,h2,h3,h4⟩=>⟨g',cap,cur,h1,h2,(FE w g g' cs O).trans h3,h4⟩⟩
theorem gp.JF {α:Type} {f:α->List aj} {base base':Nat} {e:TypeId} {sz:Nat} {w:Z} {s:Sl α} (h:gp f base e sz w s) (hB:base'<=base):gp f base' e sz w s:=oO h hB
theorem agz (id en da kd fo:Int) (tx:ByteArray) (ll:List bq) (A:Option aG) (c:Nat):(#[G F id,G F en,G F da,G F kd,G F fo,av tx,T A ll.length c]:Array aj).all (·.oneCell')=ae:=by
 rw[Array.all_eq_true'];intro u hu;exact aI.one ⟨id,en,da,kd,fo,tx,⟨ll,A,c⟩⟩ u (by simpa [aI.cells,Sl.val] using hu)
theorem Al:(ak.info? 107).map (·.size)=N 7:=ai
theorem Yq (id en da kd fo:Int) (tx:ByteArray) (ll:List bq) (lA:Option aG) (lc:Nat) (w:Z) (hr:Rd w w.heap.size 3 lA ll.length (cellsOf bq.cells ll)) (hn:ll.length<=1000):
 aF ak 149 #[az #[G F id,G F en,G F da,G F kd,G F fo,av tx,T lA ll.length lc]] w (acs id en da kd fo tx ll w):=by
 have HR:=I hr;clear hr;have hb:Below w.heap.size w ((w.alloc (U #[G F id,G F en,G F da,G F kd,G F fo,av tx,T lA ll.length lc] 107)).alloc (U sU 107)):=((aD _ _).alloc (aC _) _).alloc aL _;have HB:=I ((au.new w 107 #[G F id,G F en,G F da,G F kd,G F fo,av tx,T lA ll.length lc]).alloc (U sU 107));have HZ:=I (eT w (U #[G F id,G F en,G F da,G F kd,G F fo,av tx,T lA ll.length lc] 107) 107 sU);have hws:w.heap.size+2<=((w.alloc (U #[G F id,G F en,G F da,G F kd,G F fo,av tx,T lA ll.length lc] 107)).alloc (U sU 107)).heap.size:=aL;go_enter Tryz.func149,Tryz.ntmps149;go_upto_region 1 with fail
 change Code.wp _ _ _ _ ((w.alloc (U #[G F id,G F en,G F da,G F kd,G F fo,av tx,T lA ll.length lc] 107)).alloc (U sU 107))
 generalize (w.alloc (U #[G F id,G F en,G F da,G F kd,G F fo,av tx,T lA ll.length lc] 107)).alloc (U sU 107)=W at*;have k6:W.cell? ⟨w.heap.size,6,J⟩=N (T lA ll.length lc):=HB.out.cell 6;go_upto_region 2 with (go_at_call 215;refine(Yn ll lA lc _ (Rd.now HR.out hb) O).mono ?_;rintro e w5 ⟨A2,c2,rfl,nI,ah⟩;have mO:=I nI;have hb5:=ay hb ah;have gB:=I (HB.out.step ah);have rP:=I (HZ.out.step ah);clear ah nI;have f6:=gB.out.frozen 6;have g6:w5.cell? ⟨w.heap.size,6,J⟩=N (T lA ll.length lc):=gB.out.cell 6)
 have mK:Hid (au (w5.setCell ⟨w.heap.size,6,J⟩ (T A2 ll.length c2)) w.heap.size 107 #[G F id,G F en,G F da,G F kd,G F fo,av tx,T A2 ll.length c2]):=I (gB.out.bZ 6 _);have xJ:=I (rP.out.far (p:=⟨w.heap.size,6,J⟩) (by show w.heap.size+1≠w.heap.size;omega) (T A2 ll.length c2));have zV:Hid (gp bq.cells W.heap.size 131 3 (w5.setCell ⟨w.heap.size,6,J⟩ (T A2 ll.length c2)) ⟨ll,A2,c2⟩):=I (MF mO.out (a:=⟨w.heap.size,6,J⟩) (by show w.heap.size<_;omega) _);have hb6:=hb5.setCell (p:=⟨w.heap.size,6,J⟩) (aC _) (T A2 ll.length c2);generalize w5.setCell ⟨w.heap.size,6,J⟩ (T A2 ll.length c2)=w6 at*;clear f6 g6 k6;go_wp2_with (first
  |(refine cZ 107 (.tmp 1) rfl w.heap.size rfl ai mK.out mH Al ?_)
  |((refine oQ rfl 107 (.tmp 2) (.tmp 7) rfl (w.heap.size+1) #[G F id,G F en,G F da,G F kd,G F fo,av tx,T A2 ll.length c2] rfl rfl 107 sU xJ.out Al rfl (agz _ _ _ _ _ _ _ _ _) ?_)))
 refine iq (v:= az #[G F id,G F en,G F da,G F kd,G F fo,av tx,T A2 ll.length c2]) (FL Tryz.results149 _ _ (w.heap.size+1) 107 #[G F id,G F en,G F da,G F kd,G F fo,av tx,T A2 ll.length c2] (0,0) _ rfl (mQ xJ.out _) mH rfl Al) rfl ?_;exact⟨A2,c2,rfl,(zV.out.row O _).JF O,oJ hb6 O⟩
end Go.Proofs.YtbedbfdhfokifaaGreat
