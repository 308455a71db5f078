/- Part of the proof of WholeMatching. -/
import Derived.Test.YtbedbfdhfokifaaGreatJAF
import Derived.Test.YtbedbfdhfokifaaGreatJAG
import Derived.Laws.Cover1
import Derived.Sort.Walk0
import Derived.Great.CaseRows
namespace Go.Proofs.YtbedbfdhfokifaaGreat
set_option maxRecDepth 100000
set_option maxHeartbeats 16000000
set_option linter.unusedVariables false
set_option linter.unusedSimpArgs false
open _root_.Bool renaming true->ae,false->ag
open Go renaming World->Z,Calls->aF,Addr->aG,Value->aj,maxLen->bK,Ending->eG
open Go.Ending renaming returned->bM
open Go.IntKind renaming i64->F
open Go.Lit renaming int->jQ
open Go.Obj renaming cells->U
open Go.Proofs.Tryz renaming prog->ak
open Go.Value renaming int->G,slice->T,bool->aA,string->av,agg->az,tuple->bG
open _root_.List renaming range->kJ
open _root_.Option renaming none->J,some->N
open Go.RowKit
theorem getD_lt {α:Type} (l:List α) (k:Nat) (d:α) (h:k<l.length):l.getD k d=l[k]:=by simp[List.getD,h]
namespace Gr
def byte (s:ByteArray) (k:Nat):UInt8:=s.data.toList.getD k 0
theorem byte_at (s:ByteArray) (k:Nat) (h:k<s.size):byte s k=s[k]:=by
 unfold byte;rw[getD_lt _ _ _ (by simpa using h)]
 rfl
def om (c:UInt8):Bool:=decide (65<=(c.toNat:Int))&&decide ((c.toNat:Int)<=90)
def ed (s:ByteArray):Bool:=iZ s.size (λk=>om (byte s k))&&decide (s.size=3)
def AO (c:UInt8):Bool:=(decide (97<=(c.toNat:Int))&&decide ((c.toNat:Int)<=122))||(decide (65<=(c.toNat:Int))&&decide ((c.toNat:Int)<=90))
def jV (s:ByteArray) (k:Nat):Bool:=AO (byte s k)||(decide (k≠0)&&(decide ((byte s k).toNat=45)||(decide (48<=((byte s k).toNat:Int))&&decide (((byte s k).toNat:Int)<=57))))
def jG (s:ByteArray):Bool:=iZ s.size (jV s)&&(decide (1<=s.size)&&decide (s.size<=16))
def uJ (a:Acc):Bool:=if a.kind=1\/a.kind=2 then decide (a.basis=1\/a.basis=3) else if a.kind=3 then decide (a.basis=3) else decide (a.basis=2)
end Gr
structure eY where
 name:ByteArray
 code:Int
 kind:Int
 basis:Int
 mapped:Bool
instance aqp:Inhabited eY:=⟨⟨ByteArray.empty,0,0,0,ag⟩⟩
def eY.cells (x:eY):List aj:= [av x.name,G F x.code,G F x.kind,G F x.basis,aA x.mapped]
theorem eY.len (x:eY):x.cells.length=5:=rfl
theorem eY.at_ {w:Z} {B:Nat} {A:Option aG} {l:List eY} (h:Rd w B 5 A l.length (cellsOf eY.cells l)) {k:Nat} (hk:k<l.length):
 ∃ b o,A=N ⟨b,o,J⟩/\b<B/\w.cell? ⟨b,o+k*5,J⟩=N (av l[k].name)/\w.cell? ⟨b,o+k*5+1,J⟩=N (G F l[k].code)/\w.cell? ⟨b,o+k*5+2,J⟩=N (G F l[k].kind)/\
  w.cell? ⟨b,o+k*5+3,J⟩=N (G F l[k].basis)/\w.cell? ⟨b,o+k*5+4,J⟩=N (aA l[k].mapped):=by
 obtain⟨b,o,e,hb,hc⟩:=qj (f:=eY.cells) (sz:=5) (λ_=>rfl) h hk;exact⟨b,o,e,hb,hc 0 _ rfl,hc 1 _ rfl,hc 2 _ rfl,hc 3 _ rfl,hc 4 _ rfl⟩
namespace Gr
def txt (l:List UInt8):ByteArray:=⟨l.toArray⟩
def dG (r:dZ):List eY:=
 [⟨txt [105,110,118,101,115,116,109,101,110,116],r.dU,1,3,ae⟩,⟨txt [103,111,111,100,119,105,108,108],r.dR,1,3,ag⟩,⟨txt [97,115,115,111,99,105,97,116,101,115],r.dO,1,3,ag⟩,⟨txt [105,110,118,101,110,116,111,114,121],r.inventory,1,1,ae⟩,
  ⟨txt [114,101,115,101,114,118,101],r.reserve,3,3,ag⟩,⟨txt [109,105,110,111,114,105,116,121],r.dV,3,3,ag⟩,⟨txt [114,101,116,97,105,110,101,100],r.dJ,3,3,ae⟩,⟨txt [97,99,113,117,105,114,101,100],r.acquired,3,3,ag⟩,⟨txt [111,119,110,101,114,115],r.dX,3,3,ag⟩,
  ⟨txt [100,105,115,112,111,115,97,108],r.dP,4,2,ag⟩,⟨txt [97,115,115,111,99,105,97,116,101,80,114,111,102,105,116],r.dN,4,2,ag⟩,⟨txt [100,105,118,105,100,101,110,100,115],r.dQ,4,2,ae⟩,
  ⟨txt [109,105,110,111,114,105,116,121,80,114,111,102,105,116],r.dW,5,2,ag⟩,⟨txt [100,105,102,102,101,114,101,110,99,101],r.difference,5,2,ag⟩,⟨txt [109,97,114,103,105,110],r.dL,5,2,ag⟩]
theorem Pq (r:dZ):(dG r).length=15:=rfl
def rX (R:List eY) (k:Nat):Bool:=(R.take k).any λx=>x.code==(R.getD k default).code
def uW (ch:List Acc) (R:List eY) (k:Nat):Bool:=
 Ch.eO ch (R.getD k default).code&&(!rX R k&&(decide ((Ch.bU ch (R.getD k default).code).kind=(R.getD k default).kind)&&decide ((Ch.bU ch (R.getD k default).code).basis=(R.getD k default).basis)))
def Dk (ch:List Acc) (R:List eY):Bool:=iZ R.length (uW ch R)
def Af (ch:List Acc):Bool:=iZ ch.length λk=>uJ (ch.getD k Ch.zero)
def lH (ch:List Acc) (R:List eY):Bool:=Ch.mG ch ae&&(Af ch&&Dk ch R)
def eZ (n:Int):Bool:=decide (-25567<=n)&&decide (n<=84005)
def CZ (e c:List Acc) (l:bV):Bool:=Ch.eO e l.from_&&(Ch.eO c l.to&&(decide ((Ch.bU e l.from_).kind=(Ch.bU c l.to).kind)&&eZ l.since))
def wJ (L:List bV) (k:Nat):Bool:=(L.take k).any λx=>x.from_==(L.getD k default).from_&&x.since==(L.getD k default).since
def wK (e c:List Acc) (L:List bV) (k:Nat):Bool:=CZ e c (L.getD k default)&& !wJ L k
def jd (e c:List Acc) (L:List bV):Bool:=Ch.mG c ae&&(Ch.mG e ag&&(decide (L.length<=400)&&iZ L.length (wK e c L)))
def shut (R:List eY) (c:Int):Bool:=R.any λx=>x.code==c&& !x.mapped
def Fe (R:List eY) (L:List bV):Bool:=iZ L.length λk=> !shut R (L.getD k default).to
def nV (ch:List Acc) (R:List eY) (x:aY):Bool:=jG x.name&&(ed x.cK&&(jd x.jw.l ch x.links.l&&Fe R x.links.l))
def pI (E:List aY) (k:Nat):Bool:=(E.take k).any λx=>decide (x.name=(E.getD k default).name)
def uM (ch:List Acc) (R:List eY) (E:List aY):Bool:=iZ E.length λk=> !pI E k&&nV ch R (E.getD k default)
def Cg (R:List eY) (c:Int):Bool:=R.foldl (λb x=>if x.code=c then !x.mapped else b) ag
theorem Sn (R:List eY) (k:Nat) (h:k<R.length) (c:Int):Cg (R.take (k+1)) c=if R[k].code=c then !R[k].mapped else Cg (R.take k) c:=by
 unfold Cg;rw[gY h,Vv]
 rfl
theorem afo (R:List eY) (h: ∀ k,k<R.length->rX R k=ag) (c:Int):Cg R c=shut R c:=by
 have: ∀ k,k<=R.length->Cg (R.take k) c=shut (R.take k) c:=by
  intro k
  induction k with
  |zero=>intro _;rfl
  |succ k ih=>
   intro hk;have hk':k<R.length:=O;have e:shut (R.take (k+1)) c=(shut (R.take k) c||(R[k].code==c&& !R[k].mapped)):=by
    unfold shut;rw[gY hk',List.any_append];simp
   rw[Sn R k hk',e,ih O]
   by_cases hc:R[k].code=c
   ·have h0:shut (R.take k) c=ag:=by
     have h1:=h k hk';unfold rX at h1;unfold shut;rw[uy]at h1 |-;intro x hx;have:=h1 x hx;rw[getD_lt R k default hk',hc]at this;simp at this |-;exact λe=>absurd e this
    rw[bB hc,h0];simp[hc]
   ·rw[bE hc];simp[hc]
 have:=this R.length (aC _)
 rwa [FC]at this
theorem anc {ch:List Acc} {R:List eY} (h:Dk ch R=ae): ∀ k,k<R.length->rX R k=ag:=by
 intro k hk;have:=tO h hk;unfold uW at this;simp only[bR,Dv]at this;exact this.2.1
end Gr
theorem Bd (c:UInt8):0<=(c.toNat:Int)/\(c.toNat:Int)<=255:=by have:=c.toNat_lt;omega
theorem y9 (s:ByteArray) (w:Z) (hs:s.size<=bK):aF ak 121 #[av s] w λe w'=>e= bM (aA (Gr.ed s))/\w=w':=by
 unfold bK at hs;go_enter Tryz.func121,Tryz.ntmps121;go_wp2_with fail;go_loopw [3,6] (λ_ t wr=> ∃ k:Nat,k<=s.size/\(∀ j,j<k->Gr.om (Gr.byte s j)=ae)/\t= G F k/\w=wr) (λ_ t _=>s.size - (intOf t).toNat)
 case atStart=>exact⟨0,O,λj h=>O,rfl,rfl⟩
 case round=>
  obtain⟨k,hk,hno,rfl,rfl⟩:=hrel;have HN:=I hno;clear hno
  by_cases hlt:k<s.size
  ·have HB:=I (Gr.byte_at s k hlt);have Cz:=Bd s[k]
   by_cases h1:65<=(s[k].toNat:Int)
   ·by_cases h2:(s[k].toNat:Int)<=90
    ·have HE:Hid (Gr.om (Gr.byte s k)=ae):=I (by rw[HB.out];unfold Gr.om;simp[h1,h2]);go_wp2_with fail;go_roundw
     case rel=>
      refine⟨k+1,O,λj h=> ?_,by go_num,trivial⟩
      by_cases e:j=k
      ·subst e;exact HE.out
      ·exact HN.out j O
     case measure=>simp[intOf];omega
    ·have HE:Hid (Gr.ed s=ag):=I (by unfold Gr.ed;rw[kD hlt (by rw[HB.out];unfold Gr.om;simp[h2])];rfl);go_wp2_with fail;go_ret;exact⟨by rw[HE.out];rfl,rfl⟩
   ·have HE:Hid (Gr.ed s=ag):=I (by unfold Gr.ed;rw[kD hlt (by rw[HB.out];unfold Gr.om;simp[h1])];rfl);go_wp2_with fail;go_ret;exact⟨by rw[HE.out];rfl,rfl⟩
  ·have HA:Hid (iZ s.size (λk=>Gr.om (Gr.byte s k))=ae):=I (nT λj hj=>HN.out j O)
   cases h3:((s.size:Int)==3)
   ·have HE:Hid (Gr.ed s=ag):=I (by unfold Gr.ed;rw[HA.out];simp at h3 |-;omega);go_wp2_with fail;go_ret;exact⟨by rw[HE.out];rfl,rfl⟩
   ·have HE:Hid (Gr.ed s=ae):=I (by unfold Gr.ed;rw[HA.out];simp at h3 |-;omega);go_wp2_with fail;go_ret;exact⟨by rw[HE.out];rfl,rfl⟩
theorem Fj (s:ByteArray) (w:Z) (hs:s.size<=bK):aF ak 191 #[av s] w λe w'=>e= bM (aA (Gr.ed s))/\w=w':=by
 unfold bK at hs;go_enter Tryz.func191,Tryz.ntmps191;go_wp2_with fail;go_loopw [3] (λt wr=> ∃ k:Nat,k<=s.size/\(∀ j,j<k->Gr.om (Gr.byte s j)=ae)/\t= G F k/\w=wr) (λt _=>s.size - (intOf t).toNat)
 case atStart=>exact⟨0,O,λj h=>O,rfl,rfl⟩
 case round=>
  obtain⟨k,hk,hno,rfl,rfl⟩:=hrel;have HN:=I hno;clear hno
  by_cases hlt:k<s.size
  ·have HB:=I (Gr.byte_at s k hlt);have Cz:=Bd s[k]
   by_cases h1:65<=(s[k].toNat:Int)
   ·by_cases h2:(s[k].toNat:Int)<=90
    ·have HE:Hid (Gr.om (Gr.byte s k)=ae):=I (by rw[HB.out];unfold Gr.om;simp[h1,h2]);go_wp2_with fail;go_roundw
     case rel=>
      refine⟨k+1,O,λj h=> ?_,by go_num,trivial⟩
      by_cases e:j=k
      ·subst e;exact HE.out
      ·exact HN.out j O
     case measure=>simp[intOf];omega
    ·have HE:Hid (Gr.ed s=ag):=I (by unfold Gr.ed;rw[kD hlt (by rw[HB.out];unfold Gr.om;simp[h2])];rfl);go_wp2_with fail;go_ret;exact⟨by rw[HE.out];rfl,rfl⟩
   ·have HE:Hid (Gr.ed s=ag):=I (by unfold Gr.ed;rw[kD hlt (by rw[HB.out];unfold Gr.om;simp[h1])];rfl);go_wp2_with fail;go_ret;exact⟨by rw[HE.out];rfl,rfl⟩
  ·have HA:Hid (iZ s.size (λk=>Gr.om (Gr.byte s k))=ae):=I (nT λj hj=>HN.out j O)
   cases h3:((s.size:Int)==3)
   ·have HE:Hid (Gr.ed s=ag):=I (by unfold Gr.ed;rw[HA.out];simp at h3 |-;omega);go_wp2_with fail;go_ret;exact⟨by rw[HE.out];rfl,rfl⟩
   ·have HE:Hid (Gr.ed s=ae):=I (by unfold Gr.ed;rw[HA.out];simp at h3 |-;omega);go_wp2_with fail;go_ret;exact⟨by rw[HE.out];rfl,rfl⟩
theorem aeK (a:Acc) (w:Z):aF ak 169 #[az #[G F a.code,G F a.kind,G F a.basis,G F a.parent]] w (λe w'=>e= .returned (aA (Gr.uJ a))/\Below w.heap.size w w'):=by
 have hb:Below w.heap.size w (w.alloc (U #[G F a.code,G F a.kind,G F a.basis,G F a.parent] 212)):=(aD _ _).alloc (aC _) _;have HB:=I hb;have HD:Hid (Gr.uJ a=if a.kind=1\/a.kind=2 then decide (a.basis=1\/a.basis=3) else if a.kind=3 then decide (a.basis=3) else decide (a.basis=2)):=I rfl;clear hb
 cases k1:(a.kind==1)<;>cases k2:(a.kind==2)<;>cases k3:(a.kind==3)<;>cases b1:(a.basis==1)<;>cases b2:(a.basis==2)<;>cases b3:(a.basis==3)
 all_goals first
  |(exfalso;simp at k1 k2 k3 b1 b2 b3;omega)
  |(have HE:=HD
    go_enter Tryz.func169,Tryz.ntmps169;go_wp2_with fail;go_ret;refine⟨?_,HB.out⟩;rw[HE.out];simp at k1 k2 k3 b1 b2 b3;simp[k1,k2,k3,b1,b2,b3])
theorem abn (a:Acc) (w:Z):aF ak 194 #[az #[G F a.code,G F a.kind,G F a.basis,G F a.parent]] w (λe w'=>e= .returned (aA (Gr.uJ a))/\Below w.heap.size w w'):=by
 have hb:Below w.heap.size w (w.alloc (U #[G F a.code,G F a.kind,G F a.basis,G F a.parent] 212)):=(aD _ _).alloc (aC _) _;have HB:=I hb;have HD:Hid (Gr.uJ a=if a.kind=1\/a.kind=2 then decide (a.basis=1\/a.basis=3) else if a.kind=3 then decide (a.basis=3) else decide (a.basis=2)):=I rfl;clear hb
 cases k1:(a.kind==1)<;>cases k2:(a.kind==2)<;>cases k3:(a.kind==3)<;>cases b1:(a.basis==1)<;>cases b2:(a.basis==2)<;>cases b3:(a.basis==3)
 all_goals first
  |(exfalso;simp at k1 k2 k3 b1 b2 b3;omega)
  |(have HE:=HD
    go_enter Tryz.func194,Tryz.ntmps194;go_wp2_with fail;go_ret;refine⟨?_,HB.out⟩;rw[HE.out];simp at k1 k2 k3 b1 b2 b3;simp[k1,k2,k3,b1,b2,b3])
theorem G5 (c:UInt8) (w:Z):aF ak 230 #[G .u8 c.toNat] w λe w'=>e= bM (aA (Gr.AO c))/\w=w':=by
 have Cz:=Bd c;have HD:Hid (Gr.AO c=((decide (97<=(c.toNat:Int))&&decide ((c.toNat:Int)<=122))||(decide (65<=(c.toNat:Int))&&decide ((c.toNat:Int)<=90)))):=I rfl;generalize (c.toNat:Int)=n at*;generalize Gr.AO c=b at*
 by_cases h1:97<=n<;>by_cases h2:n<=122<;>by_cases h3:65<=n<;>by_cases h4:n<=90
 all_goals first
  |(exfalso;omega)
  |(go_enter Tryz.func230,Tryz.ntmps230
    go_wp2_with fail;go_ret;exact⟨gz (by rw[HD.out];simp[h1,h2,h3,h4]),rfl⟩)
theorem Ho (c:UInt8) (w:Z):aF ak 245 #[G .u8 c.toNat] w λe w'=>e= bM (aA (Gr.AO c))/\w=w':=by
 have Cz:=Bd c;have HD:Hid (Gr.AO c=((decide (97<=(c.toNat:Int))&&decide ((c.toNat:Int)<=122))||(decide (65<=(c.toNat:Int))&&decide ((c.toNat:Int)<=90)))):=I rfl;generalize (c.toNat:Int)=n at*;generalize Gr.AO c=b at*
 by_cases h1:97<=n<;>by_cases h2:n<=122<;>by_cases h3:65<=n<;>by_cases h4:n<=90
 all_goals first
  |(exfalso;omega)
  |(go_enter Tryz.func245,Tryz.ntmps245
    go_wp2_with fail;go_ret;exact⟨gz (by rw[HD.out];simp[h1,h2,h3,h4]),rfl⟩)
theorem OW (s:ByteArray) (w:Z) (hs:s.size<=bK):aF ak 171 #[av s] w λe w'=>e= bM (aA (Gr.jG s))/\w=w':=by
 unfold bK at hs;go_enter Tryz.func171,Tryz.ntmps171;go_wp2_with fail;go_loopw [3,4,7] (λ_ _ t wr=> ∃ k:Nat,k<=s.size/\(∀ j,j<k->Gr.jV s j=ae)/\t= G F k/\w=wr) (λ_ _ t _=>s.size - (intOf t).toNat)
 case atStart=>exact⟨0,O,λj h=>O,rfl,rfl⟩
 case round=>
  obtain⟨k,hk,hno,rfl,rfl⟩:=hrel;have HN:=I hno;clear hno
  by_cases hlt:k<s.size
  ·have HB:=I (Gr.byte_at s k hlt);have Cz:=Bd s[k]
   cases hl:Gr.AO s[k]
   ·cases hk0:((k:Int)==0)
    ·cases h45:((s[k].toNat:Int) !=45)
     ·have HE:Hid (Gr.jV s k=ae):=I (by unfold Gr.jV;rw[HB.out];simp only[ou,bR,dm];first|exact .inl hl|((try simp at hk0);(try simp at h45);exact .inr ⟨by omega,O⟩));go_wp2_with (go_at_call 230;refine(G5 _ _).mono ?_;rintro e w2 ⟨rfl,rfl⟩;rw[hl]);go_roundw
      case rel=>
       refine⟨k+1,O,λj h=> ?_,by go_num,trivial⟩
       by_cases e:j=k
       ·subst e;exact HE.out
       ·exact HN.out j O
      case measure=>simp[intOf];omega
     ·by_cases h1:48<=(s[k].toNat:Int)
      ·by_cases h2:(s[k].toNat:Int)<=57
       ·have HE:Hid (Gr.jV s k=ae):=I (by unfold Gr.jV;rw[HB.out];simp only[ou,bR,dm];first|exact .inl hl|((try simp at hk0);(try simp at h45);exact .inr ⟨by omega,O⟩));go_wp2_with (go_at_call 230;refine(G5 _ _).mono ?_;rintro e w2 ⟨rfl,rfl⟩;rw[hl]);go_roundw
        case rel=>
         refine⟨k+1,O,λj h=> ?_,by go_num,trivial⟩
         by_cases e:j=k
         ·subst e;exact HE.out
         ·exact HN.out j O
        case measure=>simp[intOf];omega
       ·have oC:Hid (Gr.jV s k=ag):=I (by unfold Gr.jV;rw[HB.out,<- qo];simp only[ou,bR,dm];rintro(h|⟨h8,h9⟩)<;>first|(rw[hl]at h;cases h;done)|((try simp at hk0);(try simp at h45);omega));have HE:Hid (Gr.jG s=ag):=I (by unfold Gr.jG;rw[kD hlt oC.out];rfl);go_wp2_with (go_at_call 230;refine(G5 _ _).mono ?_;rintro e w2 ⟨rfl,rfl⟩;rw[hl]);go_ret;exact⟨by rw[HE.out];rfl,rfl⟩
      ·have oC:Hid (Gr.jV s k=ag):=I (by unfold Gr.jV;rw[HB.out,<- qo];simp only[ou,bR,dm];rintro(h|⟨h8,h9⟩)<;>first|(rw[hl]at h;cases h;done)|((try simp at hk0);(try simp at h45);omega));have HE:Hid (Gr.jG s=ag):=I (by unfold Gr.jG;rw[kD hlt oC.out];rfl);go_wp2_with (go_at_call 230;refine(G5 _ _).mono ?_;rintro e w2 ⟨rfl,rfl⟩;rw[hl]);go_ret;exact⟨by rw[HE.out];rfl,rfl⟩
    ·have h45:(ae:Bool)=ae:=rfl;have oC:Hid (Gr.jV s k=ag):=I (by unfold Gr.jV;rw[HB.out,<- qo];simp only[ou,bR,dm];rintro(h|⟨h8,h9⟩)<;>first|(rw[hl]at h;cases h;done)|((try simp at hk0);(try simp at h45);omega));have HE:Hid (Gr.jG s=ag):=I (by unfold Gr.jG;rw[kD hlt oC.out];rfl);go_wp2_with (go_at_call 230;refine(G5 _ _).mono ?_;rintro e w2 ⟨rfl,rfl⟩;rw[hl]);go_ret;exact⟨by rw[HE.out];rfl,rfl⟩
   ·have h45:(1:Nat)=1:=rfl;have hk0:(1:Nat)=1:=rfl;have HE:Hid (Gr.jV s k=ae):=I (by unfold Gr.jV;rw[HB.out];simp only[ou,bR,dm];first|exact .inl hl|((try simp at hk0);(try simp at h45);exact .inr ⟨by omega,O⟩));go_wp2_with (go_at_call 230;refine(G5 _ _).mono ?_;rintro e w2 ⟨rfl,rfl⟩;rw[hl]);go_roundw
    case rel=>
     refine⟨k+1,O,λj h=> ?_,by go_num,trivial⟩
     by_cases e:j=k
     ·subst e;exact HE.out
     ·exact HN.out j O
    case measure=>simp[intOf];omega
  ·have HA:Hid (iZ s.size (Gr.jV s)=ae):=I (nT λj hj=>HN.out j O)
   by_cases h1:1<=s.size
   ·by_cases h2:s.size<=16
    ·have HE:Hid (Gr.jG s=ae):=I (by unfold Gr.jG;rw[HA.out];simp[h1,h2]);go_wp2_with fail;go_ret;exact⟨gz (by rw[HE.out];simp;omega),rfl⟩
    ·have HE:Hid (Gr.jG s=ag):=I (by unfold Gr.jG;rw[HA.out];simp[h1,h2]);go_wp2_with fail;go_ret;exact⟨gz (by rw[HE.out];simp;omega),rfl⟩
   ·have HE:Hid (Gr.jG s=ag):=I (by unfold Gr.jG;rw[HA.out];simp[h1]);go_wp2_with fail;go_ret;exact⟨gz (by rw[HE.out]<;>first|rfl|(simp;done)|(simp;omega)),rfl⟩
theorem Po (s:ByteArray) (w:Z) (hs:s.size<=bK):aF ak 197 #[av s] w λe w'=>e= bM (aA (Gr.jG s))/\w=w':=by
 unfold bK at hs;go_enter Tryz.func197,Tryz.ntmps197;go_wp2_with fail;go_loopw [3] (λt wr=> ∃ k:Nat,k<=s.size/\(∀ j,j<k->Gr.jV s j=ae)/\t= G F k/\w=wr) (λt _=>s.size - (intOf t).toNat)
 case atStart=>exact⟨0,O,λj h=>O,rfl,rfl⟩
 case round=>
  obtain⟨k,hk,hno,rfl,rfl⟩:=hrel;have HN:=I hno;clear hno
  by_cases hlt:k<s.size
  ·have HB:=I (Gr.byte_at s k hlt);have Cz:=Bd s[k]
   cases hl:Gr.AO s[k]
   ·cases hk0:((k:Int)==0)
    ·cases h45:((s[k].toNat:Int) !=45)
     ·have HE:Hid (Gr.jV s k=ae):=I (by unfold Gr.jV;rw[HB.out];simp only[ou,bR,dm];first|exact .inl hl|((try simp at hk0);(try simp at h45);exact .inr ⟨by omega,O⟩));go_wp2_with (go_at_call 245;refine(Ho _ _).mono ?_;rintro e w2 ⟨rfl,rfl⟩;rw[hl]);go_roundw
      case rel=>
       refine⟨k+1,O,λj h=> ?_,by go_num,trivial⟩
       by_cases e:j=k
       ·subst e;exact HE.out
       ·exact HN.out j O
      case measure=>simp[intOf];omega
     ·by_cases h1:48<=(s[k].toNat:Int)
      ·by_cases h2:(s[k].toNat:Int)<=57
       ·have HE:Hid (Gr.jV s k=ae):=I (by unfold Gr.jV;rw[HB.out];simp only[ou,bR,dm];first|exact .inl hl|((try simp at hk0);(try simp at h45);exact .inr ⟨by omega,O⟩));go_wp2_with (go_at_call 245;refine(Ho _ _).mono ?_;rintro e w2 ⟨rfl,rfl⟩;rw[hl]);go_roundw
        case rel=>
         refine⟨k+1,O,λj h=> ?_,by go_num,trivial⟩
         by_cases e:j=k
         ·subst e;exact HE.out
         ·exact HN.out j O
        case measure=>simp[intOf];omega
       ·have oC:Hid (Gr.jV s k=ag):=I (by unfold Gr.jV;rw[HB.out,<- qo];simp only[ou,bR,dm];rintro(h|⟨h8,h9⟩)<;>first|(rw[hl]at h;cases h;done)|((try simp at hk0);(try simp at h45);omega));have HE:Hid (Gr.jG s=ag):=I (by unfold Gr.jG;rw[kD hlt oC.out];rfl);go_wp2_with (go_at_call 245;refine(Ho _ _).mono ?_;rintro e w2 ⟨rfl,rfl⟩;rw[hl]);go_ret;exact⟨by rw[HE.out];rfl,rfl⟩
      ·have oC:Hid (Gr.jV s k=ag):=I (by unfold Gr.jV;rw[HB.out,<- qo];simp only[ou,bR,dm];rintro(h|⟨h8,h9⟩)<;>first|(rw[hl]at h;cases h;done)|((try simp at hk0);(try simp at h45);omega));have HE:Hid (Gr.jG s=ag):=I (by unfold Gr.jG;rw[kD hlt oC.out];rfl);go_wp2_with (go_at_call 245;refine(Ho _ _).mono ?_;rintro e w2 ⟨rfl,rfl⟩;rw[hl]);go_ret;exact⟨by rw[HE.out];rfl,rfl⟩
    ·have h45:(ae:Bool)=ae:=rfl;have oC:Hid (Gr.jV s k=ag):=I (by unfold Gr.jV;rw[HB.out,<- qo];simp only[ou,bR,dm];rintro(h|⟨h8,h9⟩)<;>first|(rw[hl]at h;cases h;done)|((try simp at hk0);(try simp at h45);omega));have HE:Hid (Gr.jG s=ag):=I (by unfold Gr.jG;rw[kD hlt oC.out];rfl);go_wp2_with (go_at_call 245;refine(Ho _ _).mono ?_;rintro e w2 ⟨rfl,rfl⟩;rw[hl]);go_ret;exact⟨by rw[HE.out];rfl,rfl⟩
   ·have h45:(1:Nat)=1:=rfl;have hk0:(1:Nat)=1:=rfl;have HE:Hid (Gr.jV s k=ae):=I (by unfold Gr.jV;rw[HB.out];simp only[ou,bR,dm];first|exact .inl hl|((try simp at hk0);(try simp at h45);exact .inr ⟨by omega,O⟩));go_wp2_with (go_at_call 245;refine(Ho _ _).mono ?_;rintro e w2 ⟨rfl,rfl⟩;rw[hl]);go_roundw
    case rel=>
     refine⟨k+1,O,λj h=> ?_,by go_num,trivial⟩
     by_cases e:j=k
     ·subst e;exact HE.out
     ·exact HN.out j O
    case measure=>simp[intOf];omega
  ·have HA:Hid (iZ s.size (Gr.jV s)=ae):=I (nT λj hj=>HN.out j O)
   by_cases h1:1<=s.size
   ·by_cases h2:s.size<=16
    ·have HE:Hid (Gr.jG s=ae):=I (by unfold Gr.jG;rw[HA.out];simp[h1,h2]);go_wp2_with fail;go_ret;exact⟨gz (by rw[HE.out];simp;omega),rfl⟩
    ·have HE:Hid (Gr.jG s=ag):=I (by unfold Gr.jG;rw[HA.out];simp[h1,h2]);go_wp2_with fail;go_ret;exact⟨gz (by rw[HE.out];simp;omega),rfl⟩
   ·have HE:Hid (Gr.jG s=ag):=I (by unfold Gr.jG;rw[HA.out];simp[h1]);go_wp2_with fail;go_ret;exact⟨gz (by rw[HE.out]<;>first|rfl|(simp;done)|(simp;omega)),rfl⟩
def iN {α:Type} (q:α->Bool) (l:List α):Int:=match l.findIdx? q with|some i=>(i:Int)|none=> -1
section
variable {α:Type} {q:α->Bool} {l:List α}
theorem Cs (k:Nat) (hk:k<l.length) (h: ∀ j (hj:j<k),q (l[j]'O)=ag) (hq:q l[k]=ae):iN q l=k:=by
 unfold iN;have:l.findIdx? q=N k:=by
  rw[Im];exact⟨hk,hq,λj hj=>by simp[h j hj]⟩
 rw[this]
theorem Gy (h: ∀ j (hj:j<l.length),q l[j]=ag):iN q l= -1:=by
 unfold iN;have:l.findIdx? q=J:=by
  rw[Io];intro x hx;obtain⟨j,hj,rfl⟩:=iK.1 hx;exact h j hj
 rw[this]
end
def uS (s:ByteArray) (x:aY):Bool:=x.name.toList==s.toList
structure eB (w:Z) (cl:List Acc) (cA:Option aG) (el:List aY) (eA:Option aG):Prop where
 ch:Rd w w.heap.size 4 cA cl.length (Ch.cells cl)
 en:Rd w w.heap.size 5 eA el.length (cellsOf aY.cells el)
 ok: ∀ x∈el,x.Ok w
 wf: ∀ a∈cl,(jQ .i64 a.code).wf=ae
theorem eB.step {w w2:Z} {cl:List Acc} {cA:Option aG} {el:List aY} {eA:Option aG} (h:eB w cl cA el eA) (hb:Below w.heap.size w w2):eB w2 cl cA el eA:=
 ⟨Rd.now h.ch hb,Rd.now h.en hb,λx hx=>(h.ok x hx).step hb,h.wf⟩
section
variable (cur:ByteArray) (y m p:Int) (cl:List Acc) (cA:Option aG) (cc:Nat) (ro:dZ) (el:List aY) (eA:Option aG) (ec:Nat) (w:Z)
def Cx (el:List aY) (s:ByteArray):Int:=if 0<=iN (uS s) el then iN (uS s) el else 0
def Oi (el:List aY) (s:ByteArray):Bool:=decide (0<=iN (uS s) el)
theorem ahh (s:ByteArray) (h:eB w cl cA el eA) (hn:el.length<=1000000):
 aF ak 135 #[az #[av cur,G F y,G F m,G F p,T cA cl.length cc,G F ro.dU,G F ro.dR,G F ro.dO,G F ro.inventory,G F ro.reserve,G F ro.dV,G F ro.dJ,G F ro.acquired,G F ro.dX,G F ro.dP,G F ro.dN,G F ro.dQ,G F ro.dW,G F ro.difference,G F ro.dL,T eA el.length ec],av s] w (λe w'=>e= .returned (bG #[G F (Cx el s),aA (Oi el s)])/\Below w.heap.size w w'):=by
 have H:=I h;clear h;have hb:Below w.heap.size w (w.alloc (U #[av cur,G F y,G F m,G F p,T cA cl.length cc,G F ro.dU,G F ro.dR,G F ro.dO,G F ro.inventory,G F ro.reserve,G F ro.dV,G F ro.dJ,G F ro.acquired,G F ro.dX,G F ro.dP,G F ro.dN,G F ro.dQ,G F ro.dW,G F ro.difference,G F ro.dL,T eA el.length ec] 29)):=(aD _ _).alloc (aC _) _;have HB:=I (au.new w 29 #[av cur,G F y,G F m,G F p,T cA cl.length cc,G F ro.dU,G F ro.dR,G F ro.dO,G F ro.inventory,G F ro.reserve,G F ro.dV,G F ro.dJ,G F ro.acquired,G F ro.dX,G F ro.dP,G F ro.dN,G F ro.dQ,G F ro.dW,G F ro.difference,G F ro.dL,T eA el.length ec]);obtain⟨W,hW⟩: ∃ W,W=w.alloc (U #[av cur,G F y,G F m,G F p,T cA cl.length cc,G F ro.dU,G F ro.dR,G F ro.dO,G F ro.inventory,G F ro.reserve,G F ro.dV,G F ro.dJ,G F ro.acquired,G F ro.dX,G F ro.dP,G F ro.dN,G F ro.dQ,G F ro.dW,G F ro.difference,G F ro.dL,T eA el.length ec] 29):=⟨_,rfl⟩;have HW:=I hW;rw[<- hW]at hb HB;clear hW;have e4:W.cell? ⟨w.heap.size,20,J⟩=N (T eA el.length ec):=HB.out.cell 20;have HI:=Rd.now H.out.en hb;have F6:=I HI;clear HI;go_enter Tryz.func135,Tryz.ntmps135;go_wp2_with fail;rw[<- HW.out];clear HW;go_loopw [6] (λt wr=> ∃ k:Nat,k<=el.length/\(∀ j (h:j<k) (h1:j<el.length),uS s (el[j]'h1)=ag)/\t= G F k/\W=wr) (λt _=>el.length - (intOf t).toNat)
 case atStart=>exact⟨0,O,λj h=>O,rfl,rfl⟩
 case round=>
  obtain⟨k,hk,hno,rfl,rfl⟩:=hrel;have HN:=I hno;clear hno
  by_cases hlt:k<el.length
  ·obtain⟨b,o,hA,aX,f0,f1,f2,f3,f4⟩:=aY.at_ F6.out hlt;subst hA
   cases hq:(el[k].name.toList==s.toList)
   ·have HQ:Hid (uS s el[k]=ag):=I hq;go_wp2_with fail;go_roundw
    case rel=>
     refine⟨k+1,O,λj h h1=> ?_,by go_num,trivial⟩
     by_cases e:j=k
     ·subst e;exact HQ.out
     ·exact HN.out j O h1
    case measure=>simp[intOf];omega
   ·have HE:Hid (iN (uS s) el=k):=I (Cs k hlt (λj hj=>HN.out j hj O) hq);go_wp2_with fail;go_ret2;exact⟨by unfold Cx Oi;rw[HE.out];simp,hb⟩
  ·have HE:Hid (iN (uS s) el= -1):=I (Gy λj hj=>HN.out j O hj);go_wp2_with fail;go_ret2;exact⟨by unfold Cx Oi;rw[HE.out];simp,hb⟩
end
section
open Go.Maps (Keyed)
section
variable (cur:ByteArray) (y m p:Int) (cl:List Acc) (cA:Option aG) (cc:Nat) (ro:dZ) (el:List aY) (eA:Option aG) (ec:Nat) (w:Z)
end
end
theorem aeM (a b:yY):(a==b)=decide (a=b):=by by_cases h:a=b<;>simp[h]
section
variable (cur:ByteArray) (y m p:Int) (cl:List Acc) (cA:Option aG) (cc:Nat) (ro:dZ) (el:List aY) (eA:Option aG) (ec:Nat) (w:Z)
end
def XN (ro:dZ) (w:Z) (e:eG) (w':Z):Prop:=
 ∃ A c,e= .returned (T A (Gr.dG ro).length c)/\Rd w' w'.heap.size 5 A (Gr.dG ro).length (cellsOf eY.cells (Gr.dG ro))/\Below w.heap.size w w'
theorem abL (ro:dZ) (w:Z):aF ak 170 #[az #[G F ro.dU,G F ro.dR,G F ro.dO,G F ro.inventory,G F ro.reserve,G F ro.dV,G F ro.dJ,G F ro.acquired,G F ro.dX,G F ro.dP,G F ro.dN,G F ro.dQ,G F ro.dW,G F ro.difference,G F ro.dL]] w (XN ro w):=by
 have hb:=aD w.heap.size w;go_enter Tryz.func170,Tryz.ntmps170;go_wp2_with (first|(refine jL rfl 5 rfl 268 _ rfl #[av ⟨#[105,110,118,101,115,116,109,101,110,116]⟩,G F ro.dU,G F 1,G F 3,aA ae] ai ?_)|(refine jL rfl 8 rfl 268 _ rfl #[av ⟨#[103,111,111,100,119,105,108,108]⟩,G F ro.dR,G F 1,G F 3,aA ag] ai ?_)|(refine jL rfl 11 rfl 268 _ rfl #[av ⟨#[97,115,115,111,99,105,97,116,101,115]⟩,G F ro.dO,G F 1,G F 3,aA ag] ai ?_)|(refine jL rfl 14 rfl 268 _ rfl #[av ⟨#[105,110,118,101,110,116,111,114,121]⟩,G F ro.inventory,G F 1,G F 1,aA ae] ai ?_)|(refine jL rfl 17 rfl 268 _ rfl #[av ⟨#[114,101,115,101,114,118,101]⟩,G F ro.reserve,G F 3,G F 3,aA ag] ai ?_)|(refine jL rfl 20 rfl 268 _ rfl #[av ⟨#[109,105,110,111,114,105,116,121]⟩,G F ro.dV,G F 3,G F 3,aA ag] ai ?_)|(refine jL rfl 23 rfl 268 _ rfl #[av ⟨#[114,101,116,97,105,110,101,100]⟩,G F ro.dJ,G F 3,G F 3,aA ae] ai ?_)|(refine jL rfl 26 rfl 268 _ rfl #[av ⟨#[97,99,113,117,105,114,101,100]⟩,G F ro.acquired,G F 3,G F 3,aA ag] ai ?_)|(refine jL rfl 29 rfl 268 _ rfl #[av ⟨#[111,119,110,101,114,115]⟩,G F ro.dX,G F 3,G F 3,aA ag] ai ?_)|(refine jL rfl 32 rfl 268 _ rfl #[av ⟨#[100,105,115,112,111,115,97,108]⟩,G F ro.dP,G F 4,G F 2,aA ag] ai ?_)|(refine jL rfl 35 rfl 268 _ rfl #[av ⟨#[97,115,115,111,99,105,97,116,101,80,114,111,102,105,116]⟩,G F ro.dN,G F 4,G F 2,aA ag] ai ?_)|(refine jL rfl 38 rfl 268 _ rfl #[av ⟨#[100,105,118,105,100,101,110,100,115]⟩,G F ro.dQ,G F 4,G F 2,aA ae] ai ?_)|(refine jL rfl 41 rfl 268 _ rfl #[av ⟨#[109,105,110,111,114,105,116,121,80,114,111,102,105,116]⟩,G F ro.dW,G F 5,G F 2,aA ag] ai ?_)|(refine jL rfl 44 rfl 268 _ rfl #[av ⟨#[100,105,102,102,101,114,101,110,99,101]⟩,G F ro.difference,G F 5,G F 2,aA ag] ai ?_)|(refine jL rfl 47 rfl 268 _ rfl #[av ⟨#[109,97,114,103,105,110]⟩,G F ro.dL,G F 5,G F 2,aA ag] ai ?_)|(refine acm 265 _ _ rfl ?_;refine Great.wpList_buildRows rfl 265 268 _ 5 [az #[av ⟨#[105,110,118,101,115,116,109,101,110,116]⟩,G F ro.dU,G F 1,G F 3,aA ae],az #[av ⟨#[103,111,111,100,119,105,108,108]⟩,G F ro.dR,G F 1,G F 3,aA ag],az #[av ⟨#[97,115,115,111,99,105,97,116,101,115]⟩,G F ro.dO,G F 1,G F 3,aA ag],az #[av ⟨#[105,110,118,101,110,116,111,114,121]⟩,G F ro.inventory,G F 1,G F 1,aA ae],az #[av ⟨#[114,101,115,101,114,118,101]⟩,G F ro.reserve,G F 3,G F 3,aA ag],az #[av ⟨#[109,105,110,111,114,105,116,121]⟩,G F ro.dV,G F 3,G F 3,aA ag],az #[av ⟨#[114,101,116,97,105,110,101,100]⟩,G F ro.dJ,G F 3,G F 3,aA ae],az #[av ⟨#[97,99,113,117,105,114,101,100]⟩,G F ro.acquired,G F 3,G F 3,aA ag],az #[av ⟨#[111,119,110,101,114,115]⟩,G F ro.dX,G F 3,G F 3,aA ag],az #[av ⟨#[100,105,115,112,111,115,97,108]⟩,G F ro.dP,G F 4,G F 2,aA ag],az #[av ⟨#[97,115,115,111,99,105,97,116,101,80,114,111,102,105,116]⟩,G F ro.dN,G F 4,G F 2,aA ag],az #[av ⟨#[100,105,118,105,100,101,110,100,115]⟩,G F ro.dQ,G F 4,G F 2,aA ae],az #[av ⟨#[109,105,110,111,114,105,116,121,80,114,111,102,105,116]⟩,G F ro.dW,G F 5,G F 2,aA ag],az #[av ⟨#[100,105,102,102,101,114,101,110,99,101]⟩,G F ro.difference,G F 5,G F 2,aA ag],az #[av ⟨#[109,97,114,103,105,110]⟩,G F ro.dL,G F 5,G F 2,aA ag]] rfl (λi=>5+3*i) (w.heap.size+1) (by first|rfl|simp) _ rfl Tryz.underlying265 ai ai aJ (Nat.zero_lt_succ _) (by show 15*5<=2 ^ 24;decide) (by rfl) (by intro v hv;simp only[fT,lV,lW]at hv;rcases hv with rfl|rfl|rfl|rfl|rfl|rfl|rfl|rfl|rfl|rfl|rfl|rfl|rfl|rfl|rfl;all_goals rfl) (λi hi=>match i,hi with|0,_=>rfl|1,_=>rfl|2,_=>rfl|3,_=>rfl|4,_=>rfl|5,_=>rfl|6,_=>rfl|7,_=>rfl|8,_=>rfl|9,_=>rfl|10,_=>rfl|11,_=>rfl|12,_=>rfl|13,_=>rfl|14,_=>rfl) ?_;generalize hrc:(List.flatMap (λv:aj=>v.cells.toList) ([az #[av ⟨#[105,110,118,101,115,116,109,101,110,116]⟩,G F ro.dU,G F 1,G F 3,aA ae],az #[av ⟨#[103,111,111,100,119,105,108,108]⟩,G F ro.dR,G F 1,G F 3,aA ag],az #[av ⟨#[97,115,115,111,99,105,97,116,101,115]⟩,G F ro.dO,G F 1,G F 3,aA ag],az #[av ⟨#[105,110,118,101,110,116,111,114,121]⟩,G F ro.inventory,G F 1,G F 1,aA ae],az #[av ⟨#[114,101,115,101,114,118,101]⟩,G F ro.reserve,G F 3,G F 3,aA ag],az #[av ⟨#[109,105,110,111,114,105,116,121]⟩,G F ro.dV,G F 3,G F 3,aA ag],az #[av ⟨#[114,101,116,97,105,110,101,100]⟩,G F ro.dJ,G F 3,G F 3,aA ae],az #[av ⟨#[97,99,113,117,105,114,101,100]⟩,G F ro.acquired,G F 3,G F 3,aA ag],az #[av ⟨#[111,119,110,101,114,115]⟩,G F ro.dX,G F 3,G F 3,aA ag],az #[av ⟨#[100,105,115,112,111,115,97,108]⟩,G F ro.dP,G F 4,G F 2,aA ag],az #[av ⟨#[97,115,115,111,99,105,97,116,101,80,114,111,102,105,116]⟩,G F ro.dN,G F 4,G F 2,aA ag],az #[av ⟨#[100,105,118,105,100,101,110,100,115]⟩,G F ro.dQ,G F 4,G F 2,aA ae],az #[av ⟨#[109,105,110,111,114,105,116,121,80,114,111,102,105,116]⟩,G F ro.dW,G F 5,G F 2,aA ag],az #[av ⟨#[100,105,102,102,101,114,101,110,99,101]⟩,G F ro.difference,G F 5,G F 2,aA ag],az #[av ⟨#[109,97,114,103,105,110]⟩,G F ro.dL,G F 5,G F 2,aA ag]]:List aj)).toArray=rc;have Gd:Hid (rc=(cellsOf eY.cells (Gr.dG ro)).toArray):=I (hrc.symm.trans ai);clear hrc));go_ret;have hB:=au.new (w.alloc (U #[G F ro.dU,G F ro.dR,G F ro.dO,G F ro.inventory,G F ro.reserve,G F ro.dV,G F ro.dJ,G F ro.acquired,G F ro.dX,G F ro.dP,G F ro.dN,G F ro.dQ,G F ro.dW,G F ro.difference,G F ro.dL] 26)) 268 rc;have e:(w.alloc (U #[G F ro.dU,G F ro.dR,G F ro.dO,G F ro.inventory,G F ro.reserve,G F ro.dV,G F ro.dJ,G F ro.acquired,G F ro.dX,G F ro.dP,G F ro.dN,G F ro.dQ,G F ro.dW,G F ro.difference,G F ro.dL] 26)).heap.size=w.heap.size+1:=aL;rw[e]at hB;exact⟨N ⟨w.heap.size+1,0,J⟩,15,rfl,Rd.uT hB (by rw[Gd.out]) (Ce eY.len _),bC⟩
theorem abM (ro:dZ) (w:Z):aF ak 195 #[az #[G F ro.dU,G F ro.dR,G F ro.dO,G F ro.inventory,G F ro.reserve,G F ro.dV,G F ro.dJ,G F ro.acquired,G F ro.dX,G F ro.dP,G F ro.dN,G F ro.dQ,G F ro.dW,G F ro.difference,G F ro.dL]] w (XN ro w):=by
 have hb:=aD w.heap.size w;go_enter Tryz.func195,Tryz.ntmps195;go_wp2_with (first|(refine jL rfl 5 rfl 291 _ rfl #[av ⟨#[105,110,118,101,115,116,109,101,110,116]⟩,G F ro.dU,G F 1,G F 3,aA ae] ai ?_)|(refine jL rfl 8 rfl 291 _ rfl #[av ⟨#[103,111,111,100,119,105,108,108]⟩,G F ro.dR,G F 1,G F 3,aA ag] ai ?_)|(refine jL rfl 11 rfl 291 _ rfl #[av ⟨#[97,115,115,111,99,105,97,116,101,115]⟩,G F ro.dO,G F 1,G F 3,aA ag] ai ?_)|(refine jL rfl 14 rfl 291 _ rfl #[av ⟨#[105,110,118,101,110,116,111,114,121]⟩,G F ro.inventory,G F 1,G F 1,aA ae] ai ?_)|(refine jL rfl 17 rfl 291 _ rfl #[av ⟨#[114,101,115,101,114,118,101]⟩,G F ro.reserve,G F 3,G F 3,aA ag] ai ?_)|(refine jL rfl 20 rfl 291 _ rfl #[av ⟨#[109,105,110,111,114,105,116,121]⟩,G F ro.dV,G F 3,G F 3,aA ag] ai ?_)|(refine jL rfl 23 rfl 291 _ rfl #[av ⟨#[114,101,116,97,105,110,101,100]⟩,G F ro.dJ,G F 3,G F 3,aA ae] ai ?_)|(refine jL rfl 26 rfl 291 _ rfl #[av ⟨#[97,99,113,117,105,114,101,100]⟩,G F ro.acquired,G F 3,G F 3,aA ag] ai ?_)|(refine jL rfl 29 rfl 291 _ rfl #[av ⟨#[111,119,110,101,114,115]⟩,G F ro.dX,G F 3,G F 3,aA ag] ai ?_)|(refine jL rfl 32 rfl 291 _ rfl #[av ⟨#[100,105,115,112,111,115,97,108]⟩,G F ro.dP,G F 4,G F 2,aA ag] ai ?_)|(refine jL rfl 35 rfl 291 _ rfl #[av ⟨#[97,115,115,111,99,105,97,116,101,80,114,111,102,105,116]⟩,G F ro.dN,G F 4,G F 2,aA ag] ai ?_)|(refine jL rfl 38 rfl 291 _ rfl #[av ⟨#[100,105,118,105,100,101,110,100,115]⟩,G F ro.dQ,G F 4,G F 2,aA ae] ai ?_)|(refine jL rfl 41 rfl 291 _ rfl #[av ⟨#[109,105,110,111,114,105,116,121,80,114,111,102,105,116]⟩,G F ro.dW,G F 5,G F 2,aA ag] ai ?_)|(refine jL rfl 44 rfl 291 _ rfl #[av ⟨#[100,105,102,102,101,114,101,110,99,101]⟩,G F ro.difference,G F 5,G F 2,aA ag] ai ?_)|(refine jL rfl 47 rfl 291 _ rfl #[av ⟨#[109,97,114,103,105,110]⟩,G F ro.dL,G F 5,G F 2,aA ag] ai ?_)|(refine acm 288 _ _ rfl ?_;refine Great.wpList_buildRows rfl 288 291 _ 5 [az #[av ⟨#[105,110,118,101,115,116,109,101,110,116]⟩,G F ro.dU,G F 1,G F 3,aA ae],az #[av ⟨#[103,111,111,100,119,105,108,108]⟩,G F ro.dR,G F 1,G F 3,aA ag],az #[av ⟨#[97,115,115,111,99,105,97,116,101,115]⟩,G F ro.dO,G F 1,G F 3,aA ag],az #[av ⟨#[105,110,118,101,110,116,111,114,121]⟩,G F ro.inventory,G F 1,G F 1,aA ae],az #[av ⟨#[114,101,115,101,114,118,101]⟩,G F ro.reserve,G F 3,G F 3,aA ag],az #[av ⟨#[109,105,110,111,114,105,116,121]⟩,G F ro.dV,G F 3,G F 3,aA ag],az #[av ⟨#[114,101,116,97,105,110,101,100]⟩,G F ro.dJ,G F 3,G F 3,aA ae],az #[av ⟨#[97,99,113,117,105,114,101,100]⟩,G F ro.acquired,G F 3,G F 3,aA ag],az #[av ⟨#[111,119,110,101,114,115]⟩,G F ro.dX,G F 3,G F 3,aA ag],az #[av ⟨#[100,105,115,112,111,115,97,108]⟩,G F ro.dP,G F 4,G F 2,aA ag],az #[av ⟨#[97,115,115,111,99,105,97,116,101,80,114,111,102,105,116]⟩,G F ro.dN,G F 4,G F 2,aA ag],az #[av ⟨#[100,105,118,105,100,101,110,100,115]⟩,G F ro.dQ,G F 4,G F 2,aA ae],az #[av ⟨#[109,105,110,111,114,105,116,121,80,114,111,102,105,116]⟩,G F ro.dW,G F 5,G F 2,aA ag],az #[av ⟨#[100,105,102,102,101,114,101,110,99,101]⟩,G F ro.difference,G F 5,G F 2,aA ag],az #[av ⟨#[109,97,114,103,105,110]⟩,G F ro.dL,G F 5,G F 2,aA ag]] rfl (λi=>5+3*i) (w.heap.size+1) (by first|rfl|simp) _ rfl Tryz.underlying288 ai ai aJ (Nat.zero_lt_succ _) (by show 15*5<=2 ^ 24;decide) (by rfl) (by intro v hv;simp only[fT,lV,lW]at hv;rcases hv with rfl|rfl|rfl|rfl|rfl|rfl|rfl|rfl|rfl|rfl|rfl|rfl|rfl|rfl|rfl;all_goals rfl) (λi hi=>match i,hi with|0,_=>rfl|1,_=>rfl|2,_=>rfl|3,_=>rfl|4,_=>rfl|5,_=>rfl|6,_=>rfl|7,_=>rfl|8,_=>rfl|9,_=>rfl|10,_=>rfl|11,_=>rfl|12,_=>rfl|13,_=>rfl|14,_=>rfl) ?_;generalize hrc:(List.flatMap (λv:aj=>v.cells.toList) ([az #[av ⟨#[105,110,118,101,115,116,109,101,110,116]⟩,G F ro.dU,G F 1,G F 3,aA ae],az #[av ⟨#[103,111,111,100,119,105,108,108]⟩,G F ro.dR,G F 1,G F 3,aA ag],az #[av ⟨#[97,115,115,111,99,105,97,116,101,115]⟩,G F ro.dO,G F 1,G F 3,aA ag],az #[av ⟨#[105,110,118,101,110,116,111,114,121]⟩,G F ro.inventory,G F 1,G F 1,aA ae],az #[av ⟨#[114,101,115,101,114,118,101]⟩,G F ro.reserve,G F 3,G F 3,aA ag],az #[av ⟨#[109,105,110,111,114,105,116,121]⟩,G F ro.dV,G F 3,G F 3,aA ag],az #[av ⟨#[114,101,116,97,105,110,101,100]⟩,G F ro.dJ,G F 3,G F 3,aA ae],az #[av ⟨#[97,99,113,117,105,114,101,100]⟩,G F ro.acquired,G F 3,G F 3,aA ag],az #[av ⟨#[111,119,110,101,114,115]⟩,G F ro.dX,G F 3,G F 3,aA ag],az #[av ⟨#[100,105,115,112,111,115,97,108]⟩,G F ro.dP,G F 4,G F 2,aA ag],az #[av ⟨#[97,115,115,111,99,105,97,116,101,80,114,111,102,105,116]⟩,G F ro.dN,G F 4,G F 2,aA ag],az #[av ⟨#[100,105,118,105,100,101,110,100,115]⟩,G F ro.dQ,G F 4,G F 2,aA ae],az #[av ⟨#[109,105,110,111,114,105,116,121,80,114,111,102,105,116]⟩,G F ro.dW,G F 5,G F 2,aA ag],az #[av ⟨#[100,105,102,102,101,114,101,110,99,101]⟩,G F ro.difference,G F 5,G F 2,aA ag],az #[av ⟨#[109,97,114,103,105,110]⟩,G F ro.dL,G F 5,G F 2,aA ag]]:List aj)).toArray=rc;have Gd:Hid (rc=(cellsOf eY.cells (Gr.dG ro)).toArray):=I (hrc.symm.trans ai);clear hrc));go_ret;have hB:=au.new (w.alloc (U #[G F ro.dU,G F ro.dR,G F ro.dO,G F ro.inventory,G F ro.reserve,G F ro.dV,G F ro.dJ,G F ro.acquired,G F ro.dX,G F ro.dP,G F ro.dN,G F ro.dQ,G F ro.dW,G F ro.difference,G F ro.dL] 26)) 291 rc;have e:(w.alloc (U #[G F ro.dU,G F ro.dR,G F ro.dO,G F ro.inventory,G F ro.reserve,G F ro.dV,G F ro.dJ,G F ro.acquired,G F ro.dX,G F ro.dP,G F ro.dN,G F ro.dQ,G F ro.dW,G F ro.difference,G F ro.dL] 26)).heap.size=w.heap.size+1:=aL;rw[e]at hB;exact⟨N ⟨w.heap.size+1,0,J⟩,15,rfl,Rd.uT hB (by rw[Gd.out]) (Ce eY.len _),bC⟩
structure lY (cur:ByteArray) (cl:List Acc) (el:List aY):Prop where
 ch:cl.length<=300
 en:el.length<=20
 cur:cur.size<=bK
 EE: ∀ j (h:j<el.length),el[j].jw.l.length<=300000/\el[j].links.l.length<=300000
section
variable (cur:ByteArray) (y m p:Int) (cl:List Acc) (cA:Option aG) (cc:Nat) (ro:dZ) (el:List aY) (eA:Option aG) (ec:Nat) (w:Z)
def Jy (p:Prop) (w:Z) (e:eG) (w':Z):Prop:= ∃ b:Bool,e= .returned (aA b)/\Below w.heap.size w w'/\(b=ae->p)
theorem agG (h:eB w cl cA el eA) (hc:cur.size<=bK) (hcl:cl.length<=bK) (hel:el.length<=bK):
 aF ak 50 #[az #[av cur,G F y,G F m,G F p,T cA cl.length cc,G F ro.dU,G F ro.dR,G F ro.dO,G F ro.inventory,G F ro.reserve,G F ro.dV,G F ro.dJ,G F ro.acquired,G F ro.dX,G F ro.dP,G F ro.dN,G F ro.dQ,G F ro.dW,G F ro.difference,G F ro.dL,T eA el.length ec]] w (Jy (lY cur cl el) w):=by
 have H:=I h;clear h;have hb:Below w.heap.size w (w.alloc (U #[av cur,G F y,G F m,G F p,T cA cl.length cc,G F ro.dU,G F ro.dR,G F ro.dO,G F ro.inventory,G F ro.reserve,G F ro.dV,G F ro.dJ,G F ro.acquired,G F ro.dX,G F ro.dP,G F ro.dN,G F ro.dQ,G F ro.dW,G F ro.difference,G F ro.dL,T eA el.length ec] 29)):=(aD _ _).alloc (aC _) _;have HB:=I (au.new w 29 #[av cur,G F y,G F m,G F p,T cA cl.length cc,G F ro.dU,G F ro.dR,G F ro.dO,G F ro.inventory,G F ro.reserve,G F ro.dV,G F ro.dJ,G F ro.acquired,G F ro.dX,G F ro.dP,G F ro.dN,G F ro.dQ,G F ro.dW,G F ro.difference,G F ro.dL,T eA el.length ec]);unfold bK at hc hcl hel;go_enter Tryz.func50,Tryz.ntmps50;go_wp2_with fail;generalize mh:w.alloc (U #[av cur,G F y,G F m,G F p,T cA cl.length cc,G F ro.dU,G F ro.dR,G F ro.dO,G F ro.inventory,G F ro.reserve,G F ro.dV,G F ro.dJ,G F ro.acquired,G F ro.dX,G F ro.dP,G F ro.dN,G F ro.dQ,G F ro.dW,G F ro.difference,G F ro.dL,T eA el.length ec] 29)=W at*;clear mh;go_loopw [3] (λt wr=> ∃ k:Nat,k<=el.length/\t= G F k/\(∀ j (h:j<k) (h1:j<el.length),(el[j]'h1).jw.l.length<=40/\(el[j]'h1).links.l.length<=60)/\au wr w.heap.size 29 #[av cur,G F y,G F m,G F p,T cA cl.length cc,G F ro.dU,G F ro.dR,G F ro.dO,G F ro.inventory,G F ro.reserve,G F ro.dV,G F ro.dJ,G F ro.acquired,G F ro.dX,G F ro.dP,G F ro.dN,G F ro.dQ,G F ro.dW,G F ro.difference,G F ro.dL,T eA el.length ec]/\Below w.heap.size w wr) (λt _=>el.length - (intOf t).toNat)
 case atStart=>exact⟨0,O,rfl,λj h=>O,HB.out,hb⟩
 case round=>
  clear hb HB;obtain⟨k,hk,rfl,hno,hB,hb⟩:=hrel;have HB:=I hB;have HN:=I hno;have hz:=hb.size;have e0:wr.cell? ⟨w.heap.size,0,J⟩=N (av cur):=hB.cell 0;have e2:wr.cell? ⟨w.heap.size,4,J⟩=N (T cA cl.length cc):=hB.cell 4;have e4:wr.cell? ⟨w.heap.size,20,J⟩=N (T eA el.length ec):=hB.cell 20;clear hB hno
  by_cases hlt:k<el.length
  ·obtain⟨b,o,hA,aX,f0,f1,f2,f3,f4⟩:=aY.at_ (Rd.now H.out.en hb) hlt;subst hA;have HST:Hid (el[k].jw.l.length<=40->el[k].links.l.length<=60-> ∀ j (h:j<k+1) (h1:j<el.length),(el[j]'h1).jw.l.length<=40/\(el[j]'h1).links.l.length<=60):=I λh1 h2 j hj hjl=>by
    by_cases e:j=k
    ·subst e;exact⟨h1,h2⟩
    ·exact HN.out j O hjl
   have Wy:=I (H.out.ok _ (bP hlt));generalize el[k]=x at*;obtain⟨xn,xc,⟨l1,A1,c1⟩,⟨l2,A2,c2⟩,xj⟩:=x;dsimp only[Sl.val]at*;have hk1:=Wy.out.2.2.1.1;have hk2:=Wy.out.2.2.2.1.1;have hn1:=iT hk1.2.1 hk1.2.2;have hn2:=iT hk2.2.1 hk2.2.2;dsimp only at hn1 hn2;unfold bK at hn1 hn2;clear hk1 hk2;have hb1:Below w.heap.size w (wr.alloc (U #[av xn,av xc,T A1 l1.length c1,T A2 l2.length c2,aA xj] 179)):=hb.alloc hz _
   by_cases h1:l1.length<=40
   ·by_cases h2:l2.length<=60
    ·by_cases h3:wrap64 ((xn.size:Int)+(xc.size:Int))<=60
     ·have HR:=I (HST.out h1 h2);go_wp2_with fail;go_roundw
      case rel=>exact⟨k+1,O,by go_num,HR.out,HB.out.step ((aD _ _).alloc (aC _) _),hb1⟩
      case measure=>simp[intOf];omega
     ·go_wp2_with fail;go_ret;exact⟨_,rfl,(by first|exact hb1|exact hb),λh=>by first|(cases h;done)|(exfalso;simp at h;omega)⟩
    ·go_wp2_with fail;go_ret;exact⟨_,rfl,(by first|exact hb1|exact hb),λh=>by first|(cases h;done)|(exfalso;simp at h;omega)⟩
   ·go_wp2_with fail;go_ret;exact⟨_,rfl,(by first|exact hb1|exact hb),λh=>by first|(cases h;done)|(exfalso;simp at h;omega)⟩
  ·have HE:Hid (∀ j (h:j<el.length),el[j].jw.l.length<=40/\el[j].links.l.length<=60):=I λj h=>HN.out j O h
   by_cases h1:cl.length<=60
   ·by_cases h2:el.length<=14
    ·by_cases h3:cur.size<=20
     ·go_wp2_with fail;go_ret;exact⟨_,rfl,hb,λ_=>⟨by omega,O,fQ,λj h=>by have:=HE.out j h;omega⟩⟩
     ·go_wp2_with fail;go_ret;exact⟨_,rfl,(by first|exact hb1|exact hb),λh=>by first|(cases h;done)|(exfalso;simp at h;omega)⟩
    ·go_wp2_with fail;go_ret;exact⟨_,rfl,(by first|exact hb1|exact hb),λh=>by first|(cases h;done)|(exfalso;simp at h;omega)⟩
   ·go_wp2_with fail;go_ret;exact⟨_,rfl,(by first|exact hb1|exact hb),λh=>by first|(cases h;done)|(exfalso;simp at h;omega)⟩
end
theorem gy:(ak.info? 29).map (·.size)=N 21:=ai
theorem ahg {w:Z} {x:zL} (h:x.Ok w):eB w x.jw.l x.jw.A x.Gw.l x.Gw.A:=
 ⟨by rw[<- BR];exact h.2.2.1.1.1,h.2.2.2.2.1.1,h.2.2.2.2.2,λa ha=>(h.2.2.1.2 a ha).1⟩
section
variable (cur:ByteArray) (y m p:Int) (cl:List Acc) (cA:Option aG) (cc:Nat) (ro:dZ) (el:List aY) (eA:Option aG) (ec:Nat) (w:Z)
end
namespace Jn
def qh (s:ByteArray) (k:Nat):Bool:=decide (32<=((Gr.byte s k).toNat:Int))&&decide (((Gr.byte s k).toNat:Int)<=126)
def jH (s:ByteArray):Bool:=iZ s.size (qh s)&&decide (s.size<=80)
def jc (n e:Int) (l:bq):Bool:= !(l.amount==0)&&pF l.amount&&(decide (l.partner= -1)||decide (0<=l.partner)&&decide (l.partner<n)&& !(l.partner==e))
def EN (V:Bool) (n:Int) (x:aI):Bool:=
 V&&decide (1<=x.id)&&decide (0<=x.bF)&&decide (x.bF<n)&&decide (1<=x.kind)&&decide (x.kind<=3)&&
  (if x.kind=3 then decide (1<=x.of) else decide (x.of=0))&&jH x.text&&decide (2<=x.lines.l.length)&&decide (x.lines.l.length<=40)
def lJ (V:Bool) (n:Int) (x:aI):Bool:=EN V n x&&x.lines.l.all (jc n x.bF)
def nL (l:List bq):Int:=(l.map bq.amount).sum
theorem U8 (l:List bq) (k:Nat) (h:k<l.length):nL (l.take (k+1))=nL (l.take k)+l[k].amount:=by
 unfold nL;rw[gY h,mJ,List.sum_append];simp
theorem acd (l:List bq) (h: ∀ x∈l,-1000000000000<=x.amount/\x.amount<=1000000000000): ∀ k,k<=l.length-> -(1000000000000*(k:Int))<=nL (l.take k)/\nL (l.take k)<=1000000000000*k:=by
 intro k
 induction k with
 |zero=>intro _;simp[nL]
 |succ k ih=>
  intro hk;have h1:=ih O;rw[U8 l k O];have h2:=h (l[k]'O) (bP _);omega
def bJ (V:Bool) (n:Int) (K:Int->Int->Bool) (D:Int->Bool) (x:aI):Int:=
 if lJ V n x then (if x.lines.l.all (λl=>K x.bF l.ek) then (if D x.date then (if nL x.lines.l=0 then 0 else 11) else 2) else 17) else 1
def get (es:List aI) (id:Int):Option Nat:=es.findIdx? (λx=>x.id==id)
def rev (es:List aI) (id:Int):Option Int:=(es.find? (λx=>x.kind==3&&x.of==id)).map aI.id
theorem YR {es:List aI} {id:Int} {k:Nat} (h:get es id=N k):k<es.length/\ ∀ h:k<es.length,es[k].id=id:=by
 unfold get at h;obtain⟨h1,h2,_⟩:=Im.1 h;exact⟨h1,λ_=>by simpa using h2⟩
theorem ahf (es:List aI) (x:aI) (id:Int):get (es++ [x]) id=if (get es id).isSome then get es id else if x.id=id then N es.length else J:=by
 unfold get;rw[List.findIdx?_append]
 cases h:List.findIdx? (λx=>x.id==id) es
 ·by_cases h2:x.id=id
  ·simp[h2,List.findIdx?_cons]
  ·simp[h2,List.findIdx?_cons]
 ·simp
theorem abC (es:List aI) (x:aI) (id:Int):rev (es++ [x]) id=if (rev es id).isSome then rev es id else if x.kind=3/\x.of=id then N x.id else J:=by
 unfold rev;rw[Qd]
 cases h:es.find? (λx=>x.kind==3&&x.of==id)
 ·by_cases h2:x.kind=3/\x.of=id
  ·simp[h2,Qe]
  ·have h3:(x.kind==3&&x.of==id)=ag:=by
    cases hb:(x.kind==3&&x.of==id)
    ·rfl
    ·exact absurd (by simpa using hb) h2
   simp[h2,h3,Qe]
 ·simp
def mr (a b:List bq):Bool:=a.length==b.length&&(a.zip b).all (λq=>q.1.ek==q.2.ek&&q.1.partner==q.2.partner&&q.1.amount== -q.2.amount)
def mX (es:List aI) (x:aI):Int:=
 match get es x.of with
 |none=>8
 |some k=>
  let o:=es.getD k default
  if decide (o.kind=3)||(rev es x.of).isSome then 7
  else if decide (o.bF=x.bF)&&decide (o.date<=x.date)&&mr x.lines.l o.lines.l then 0 else 18
def qi (C:aI->Int) (es:List aI) (x:aI):Int:=
 if C x=0 then (if (get es x.id).isSome then 9 else if x.kind=3 then (if mX es x=0 then (if 2000<=es.length then 6 else 0) else mX es x) else if 2000<=es.length then 6 else 0) else C x
def AU (C:aI->Int) (es:List aI) (k:Nat):Prop:= ∀ j (h:j<es.length),j<k->qi C (es.take j) es[j]=0
def xR (C:aI->Int) (es:List aI):Bool:=(kJ es.length).all (λj=>decide (qi C (es.take j) (es.getD j default)=0))
theorem NN {C:aI->Int} {es:List aI}:xR C es=ae↔AU C es es.length:=by
 unfold xR AU;rw[ng]
 constructor
 ·intro h j hj _;have:=h j (zD.2 hj);rw[Mv,rq hj]at this
  simpa using this
 ·intro h j hj;have hj2:=zD.1 hj;have:=h j hj2 hj2;rw[Mv,rq hj2]
  simpa using this
theorem aiM {V:Bool} {n:Int} {K:Int->Int->Bool} {D:Int->Bool} {x:aI} (h:bJ V n K D x=0):1<=x.id:=by
 cases hf:lJ V n x
 ·unfold bJ at h;rw[hf]at h;simp at h
 ·unfold lJ EN at hf;simp only[bR,dm]at hf;omega
theorem amX {V:Bool} {n:Int} {K:Int->Int->Bool} {D:Int->Bool} {es:List aI} (h: ∀ x∈es,bJ V n K D x=0) (id:Int):(rev es id).isSome=ae↔(rev es id).getD 0≠0:=by
 unfold rev
 cases h2:es.find? (λx=>x.kind==3&&x.of==id) with
 |none=>simp
 |some y=>
  have:=aiM (h y (Mi h2));simp;omega
theorem aaW (C:aI->Int) (es:List aI):AU C es 0:=λ_ _ h=>O
theorem aaV {C:aI->Int} {es:List aI} {k:Nat} (hk:k<es.length) (h:AU C es k) (h2:qi C (es.take k) es[k]=0):AU C es (k+1):=λj hj hl=>by
 by_cases e:j<k
 ·exact h j hj e
 ·have:j=k:=O;subst this;exact h2
theorem aaT {C:aI->Int} {es:List aI} {k:Nat} (hk:es.length<=k) (h:AU C es k):xR C es=ae:=NN.2 (λj hj _=>h j hj O)
theorem aaU {C:aI->Int} {es:List aI} {k:Nat} (hk:k<es.length) (h2:qi C (es.take k) es[k]≠0):xR C es=ag:=by
 cases h:xR C es
 ·rfl
 ·exact absurd (NN.1 h k hk hk) h2
theorem O8 {C:aI->Int} {es:List aI} {x:aI} (h:qi C es x=0):C x=0/\get es x.id=J/\(x.kind=3->mX es x=0)/\es.length<2000:=by
 unfold qi at h
 by_cases h1:C x=0
 ·rw[bB h1]at h
  cases h2:get es x.id with
  |some k=>rw[h2]at h;simp at h
  |none=>
   rw[h2]at h;simp only[wV,zI,zJ]at h;refine⟨h1,rfl,?_,?_⟩
   ·intro h3;rw[bB h3]at h
    by_cases h4:mX es x=0
    ·exact h4
    ·rw[bE h4]at h;exact absurd h h4
   ·by_cases h3:x.kind=3
    ·rw[bB h3]at h
     by_cases h4:mX es x=0
     ·rw[bB h4]at h
      by_cases h5:2000<=es.length
      ·rw[bB h5]at h;omega
      ·omega
     ·rw[bE h4]at h;exact absurd h h4
    ·rw[bE h3]at h
     by_cases h5:2000<=es.length
     ·rw[bB h5]at h;omega
     ·omega
 ·rw[bE h1]at h;exact absurd h h1
theorem anI {es:List aI} {x:aI} (h:mX es x=0):rev es x.of=J:=by
 unfold mX at h
 cases h1:get es x.of with
 |none=>rw[h1]at h;simp at h
 |some k=>
  rw[h1]at h
  cases h2:rev es x.of with
  |none=>rfl
  |some y=>rw[h2]at h;simp at h
theorem aoD (es:List aI) (k:Nat) (h:k<es.length):es.take (k+1)=es.take k++ [es[k]]:=gY h
theorem aaX {C:aI->Int} {es:List aI} {k:Nat} (h:AU C es k): ∀ x∈es.take k,C x=0:=by
 intro x hx;obtain⟨j,hj,rfl⟩:=iK.1 hx;rw[jR]at hj;rw[yD];exact(O8 (h j O O)).1
end Jn
namespace aT
def seen (h e d:Int) (b:Option aM) (x:aM):Option aM:=
 if x.holder=h/\x.bF=e/\x.date<=d/\(∀ y,b=N y->y.date<x.date) then N x else b
def last (l:List aM) (h e d:Int):Option aM:=l.foldl (seen h e d) J
def zy:Option aM->Int
 |none=>0
 |some x=>x.share
def at_ (l:List aM) (h e d:Int):Int:=zy (last l h e d)
theorem anP (h e d:Int) (b:Option aM) (x:aM):seen h e d b x=N x\/seen h e d b x=b:=by
 unfold seen;split<;>simp
theorem ajM (l:List aM) (h e d:Int) (b:Option aM) (y:aM) (hy:l.foldl (seen h e d) b=N y):y∈l\/b=N y:=by
 induction l generalizing b with
 |nil=>exact .inr hy
 |cons x l ih=>
  rcases ih _ hy with h1|h1
  ·exact .inl (by simp[h1])
  ·rcases anP h e d b x with h2|h2
   ·rw[h2]at h1;obtain rfl:=uz h1;exact .inl aL
   ·rw[h2]at h1;exact .inr h1
theorem JE (l:List aM) (h e d:Int) (hl: ∀ x∈l,0<=x.share/\x.share<=10000):0<=at_ l h e d/\at_ l h e d<=10000:=by
 unfold at_
 rcases hy:last l h e d with _|y
 ·simp[zy]
 ·rcases ajM l h e d J y hy with h1|h1
  ·exact hl y h1
  ·simp at h1
theorem ajP (l:List aM) (h e d1 d2:Int) (b:Option aM) (hd:d1<=d2) (hl: ∀ x∈l,x.bF=e->x.date<=d2->x.date<=d1):l.foldl (seen h e d1) b=l.foldl (seen h e d2) b:=by
 induction l generalizing b with
 |nil=>rfl
 |cons x l ih=>
  simp only[Mr];have e1:seen h e d1 b x=seen h e d2 b x:=by
   unfold seen;have h1:=hl x aL
   by_cases c:x.holder=h/\x.bF=e/\x.date<=d1/\(∀ y,b=N y->y.date<x.date)
   ·rw[bB c,bB ⟨c.1,c.2.1,O,c.2.2.2⟩]
   ·rw[bE c,bE];exact λk=>c ⟨k.1,k.2.1,h1 k.2.1 k.2.2.1,k.2.2.2⟩
  rw[e1];exact ih _ λy hy=>hl y (by simp[hy])
def jU:List aM->List Int
 | []=> []
 |x::l=>x.holder::(jU l).filter λh=>h≠x.holder
def jA (l:List aM) (e d:Int):List Int->Int
 | []=>0
 |h::t=>at_ l h e d+jA l e d t
theorem ab9 (l:List aM) (e d:Int) (a b:List Int):jA l e d (a++b)=jA l e d a+jA l e d b:=by
 induction a with
 |nil=>simp[jA]
 |cons x a ih=>simp[jA,ih];omega
theorem aov (l:List aM) (e d:Int) {a b:List Int} (h:a.Perm b):jA l e d a=jA l e d b:=by
 induction h with
 |nil=>rfl
 |cons x _ ih=>simp[jA,ih]
 |swap x y t=>simp only[jA];omega
 |trans _ _ ih1 ih2=>exact ih1.trans ih2
theorem aca (l:List aM) (e d:Int) (hl: ∀ x∈l,0<=x.share/\x.share<=10000) (t:List Int):0<=jA l e d t/\jA l e d t<=10000*t.length:=by
 induction t with
 |nil=>simp[jA]
 |cons x t ih=>
  have:=JE l x e d hl;simp only[jA,gX];omega
theorem aow (l:List aM) (e d1 d2:Int) (hd:d1<=d2) (hl: ∀ x∈l,x.bF=e->x.date<=d2->x.date<=d1) (t:List Int):jA l e d1 t=jA l e d2 t:=by
 induction t with
 |nil=>rfl
 |cons x t ih=>simp only[jA,at_,last];rw[ajP l x e d1 d2 J hd hl,ih]
def total (l:List aM) (e d:Int):Int:=jA l e d (jU l)
theorem akr (l:List aM) (h:Int):h∈jU l↔ ∃ x∈l,x.holder=h:=by
 induction l with
 |nil=>simp[jU]
 |cons x l ih=>
  simp only[jU,fT,vF,ih,dm]
  constructor
  ·rintro(rfl|⟨⟨y,hy,rfl⟩,_⟩)
   ·exact⟨x,.inl rfl,rfl⟩
   ·exact⟨y,.inr hy,rfl⟩
  ·rintro⟨y,rfl|hy,rfl⟩
   ·exact .inl rfl
   ·by_cases c:y.holder=x.holder
    ·exact .inl c
    ·exact .inr ⟨⟨y,hy,rfl⟩,c⟩
theorem agR (l:List aM):(jU l).Nodup:=by
 induction l with
 |nil=>simp[jU]
 |cons x l ih=>
  simp only[jU,wQ,vF,dm];exact⟨λh=>h.2 rfl,ih.filter _⟩
theorem agS (l:List aM) (x:aM):jU (l++ [x])=if (∃ y∈l,y.holder=x.holder) then jU l else jU l++ [x.holder]:=by
 induction l with
 |nil=>simp[jU]
 |cons z l ih=>
  simp only[oV,jU,ih]
  by_cases h1: ∃ y∈l,y.holder=x.holder
  ·have h2: ∃ y∈z::l,y.holder=x.holder:=by obtain⟨y,hy,e⟩:=h1;exact⟨y,by simp[hy],e⟩
   rw[bB h1,bB h2]
  ·rw[bE h1,zH]
   by_cases h3:z.holder=x.holder
   ·have h2: ∃ y∈z::l,y.holder=x.holder:=⟨z,aL,h3⟩;rw[bB h2];simp[h3]
   ·have h2: ¬ ∃ y∈z::l,y.holder=x.holder:=by
     rintro⟨y,hy,e⟩
     rcases fT.1 hy with rfl|hy
     ·exact h3 e
     ·exact h1 ⟨y,hy,e⟩
    rw[bE h2];have:x.holder≠z.holder:=λe=>h3 e.symm
    simp[this]
theorem aoM (l:List aM) (e d1 d2:Int) (hd:d1<=d2) (hl: ∀ x∈l,x.bF=e->x.date<=d2->x.date<=d1):total l e d1=total l e d2:=aow l e d1 d2 hd hl _
theorem ajN (l:List aM) (h e d:Int) (b:Option aM) (hl: ∀ x∈l,x.bF=e->d<x.date):l.foldl (seen h e d) b=b:=by
 induction l generalizing b with
 |nil=>rfl
 |cons x l ih=>
  simp only[Mr];rw[show seen h e d b x=b from by
   unfold seen;rw[bE];rintro⟨_,h2,h3,_⟩;have:=hl x aL h2;omega]
  exact ih _ λy hy=>hl y (by simp[hy])
theorem aoL (l:List aM) (e d:Int) (hl: ∀ x∈l,x.bF=e->d<x.date):total l e d=0:=by
 unfold total;generalize jU l=t
 induction t with
 |nil=>rfl
 |cons x t ih=>simp only[jA,at_,last,ajN l x e d J hl,zy,ih];rfl
theorem latest (l:List aM) (e d:Int):(∀ x∈l,x.bF=e->d<x.date)\/ ∃ y∈l,y.bF=e/\y.date<=d/\ ∀ x∈l,x.bF=e->x.date<=d->x.date<=y.date:=by
 induction l with
 |nil=>exact .inl aL
 |cons x l ih=>
  by_cases c:x.bF=e/\x.date<=d
  ·rcases ih with h|⟨y,hy,h1,h2,h3⟩
   ·refine .inr ⟨x,aL,c.1,c.2,?_⟩;intro z hz e1 e2
    rcases fT.1 hz with rfl|hz
    ·omega
    ·have:=h z hz e1;omega
   ·by_cases c2:y.date<=x.date
    ·refine .inr ⟨x,aL,c.1,c.2,?_⟩;intro z hz e1 e2
     rcases fT.1 hz with rfl|hz
     ·omega
     ·have:=h3 z hz e1 e2;omega
    ·refine .inr ⟨y,by simp[hy],h1,h2,?_⟩;intro z hz e1 e2
     rcases fT.1 hz with rfl|hz
     ·omega
     ·exact h3 z hz e1 e2
  ·rcases ih with h|⟨y,hy,h1,h2,h3⟩
   ·refine .inl ?_;intro z hz e1
    rcases fT.1 hz with rfl|hz
    ·have: ¬ z.date<=d:=λk=>c ⟨e1,k⟩
     omega
    ·exact h z hz e1
   ·refine .inr ⟨y,by simp[hy],h1,h2,?_⟩;intro z hz e1 e2
    rcases fT.1 hz with rfl|hz
    ·exact absurd ⟨e1,e2⟩ c
    ·exact h3 z hz e1 e2
def yl (n:Int) (x:aM):Bool:=decide (0<=x.holder)&&(decide (x.holder<n)&&(decide (0<=x.bF)&&(decide (x.bF<n)&&(!(x.holder==x.bF)&&(Gr.eZ x.date&&(decide (0<=x.share)&&decide (x.share<=10000)))))))
def same (a b:aM):Bool:=a.holder==b.holder&&(a.bF==b.bF&&a.date==b.date)
def before (l:List aM) (k:Nat):Bool:=(l.take k).any λx=>same x (l.getD k default)
def one (n:Int) (l:List aM) (k:Nat):Bool:=yl n (l.getD k default)&& !before l k
def few (l:List aM) (k:Nat):Bool:=decide (total l (l.getD k default).bF (l.getD k default).date<=10000)
def valid (n:Int) (l:List aM):Bool:=decide (1<=n)&&(decide (n<=12)&&(decide (l.length<=200)&&(iZ l.length (one n l)&&iZ l.length (few l))))
theorem aax (l:List aM) (h e d:Int) (k:Nat) (hk:k<l.length):last (l.take (k+1)) h e d=seen h e d (last (l.take k) h e d) l[k]:=by
 unfold last;rw[gY hk,Vv]
 rfl
theorem agT (l:List aM) (k:Nat) (hk:k<l.length):jU (l.take (k+1))=if (∃ y∈l.take k,y.holder=l[k].holder) then jU (l.take k) else jU (l.take k)++ [l[k].holder]:=by
 rw[gY hk,agS]
theorem agQ (l:List aM):(jU l).length<=l.length:=by
 induction l with
 |nil=>simp[jU]
 |cons x l ih=>
  simp only[jU,gX];have:=FM (λh=>decide (h≠x.holder)) (jU l);omega
theorem aoN (l:List aM) (h: ∀ x∈l,total l x.bF x.date<=10000) (e d:Int):total l e d<=10000:=by
 rcases latest l e d with h1|⟨y,hy,h1,h2,h3⟩
 ·rw[aoL l e d h1];omega
 ·rw[<- aoM l e y.date d h2 h3,<- h1];exact h y hy
end aT
namespace Rt
def sameKey (a b:aW):Bool:=decide (a.cK=b.cK)&&(a.kind==b.kind&&a.eF==b.eF)
def aav (r:aW):Bool:=(r.kind==1&&Gr.eZ r.eF)||(r.kind==2&&(decide (0<=r.eF)&&decide (r.eF<120)))
def proper (g:ByteArray) (r:aW):Bool:=Gr.ed r.cK&&(!decide (r.cK=g)&&(decide (1<=r.value)&&(decide (r.value<=1000000000000)&&aav r)))
def before (l:List aW) (k:Nat):Bool:=(l.take k).any λx=>sameKey x (l.getD k default)
def one (g:ByteArray) (l:List aW) (k:Nat):Bool:=proper g (l.getD k default)&& !before l k
def valid (g:ByteArray) (l:List aW):Bool:=iZ l.length (one g l)&&(Gr.ed g&&decide (l.length<=1000))
theorem PK {g:ByteArray} {l:List aW} (h:valid g l=ae) (r:aW) (hr:r∈l):proper g r=ae:=by
 obtain⟨k,hk,rfl⟩:=zG hr;simp only[valid,bR]at h;have:=tO h.1 hk;simp only[one,bR,List.getD,hk,rq,rz]at this;exact this.1
def hit (c:ByteArray) (a b:Int) (r:aW):Bool:=decide (r.cK=c)&&(r.kind==1&&(decide (a<=r.eF)&&decide (r.eF<=b)))
def oh (l:List aW) (c:ByteArray) (a b:Int):List aW:=l.filter (hit c a b)
def newer (o:Option aW) (r:aW):Option aW:=match o with
 |none=>N r
 |some x=>if x.eF<r.eF then N r else N x
def latest (l:List aW):Option aW:=l.foldl newer J
theorem ajQ (l:List aW) (o:Option aW) (y:aW) (h:l.foldl newer o=N y):y∈l\/o=N y:=by
 induction l generalizing o with
 |nil=>exact .inr h
 |cons x l ih=>
  rcases ih _ h with h1|h1
  ·exact .inl (by simp[h1])
  ·unfold newer at h1
   split at h1
   ·obtain rfl:=uz h1;exact .inl aL
   ·split at h1
    ·obtain rfl:=uz h1;exact .inl aL
    ·exact .inr h1
def spot (l:List aW) (c:ByteArray) (d:Int):Option Int:=(latest (oh l c (d - 40) d)).map aW.value
theorem aoa {g:ByteArray} {l:List aW} (h:valid g l=ae) (c:ByteArray) (d v:Int) (hv:spot l c d=N v):1<=v/\v<=1000000000000:=by
 unfold spot at hv;rw[P6]at hv;obtain⟨r,hr,rfl⟩:=hv
 rcases ajQ _ _ _ hr with h1|h1
 ·have:=PK h r (vF.1 h1).1;simp only[proper,bR,dm]at this;exact⟨this.2.2.1,this.2.2.2.1⟩
 ·simp at h1
def Ao (l:List aW) (c:ByteArray) (k t:Int):Option aW:=l.find? λr=>sameKey r ⟨c,k,t,0⟩
def kX:List aW->Int
 | []=>0
 |r::t=>r.value+kX t
theorem aoA {a b:List aW} (h:a.Perm b):kX a=kX b:=by
 induction h with
 |nil=>rfl
 |cons x _ ih=>simp[kX,ih]
 |swap x y t=>simp only[kX];omega
 |trans _ _ ih1 ih2=>exact ih1.trans ih2
theorem aoz (a b:List aW):kX (a++b)=kX a+kX b:=by
 induction a with
 |nil=>simp[kX]
 |cons x a ih=>simp[kX,ih];omega
theorem U9 (l:List aW) (h: ∀ r∈l,1<=r.value/\r.value<=1000000000000):(l.length:Int)<=kX l/\kX l<=1000000000000*l.length:=by
 induction l with
 |nil=>simp[kX]
 |cons x l ih=>
  have h1:=ih λr hr=>h r (by simp[hr])
  have h2:=h x aL;simp only[kX,gX];omega
def mean (l:List aW):Int:=(2*kX l+l.length) / (2*l.length)
theorem akq (l:List aW) (h0:l≠ []) (h: ∀ r∈l,1<=r.value/\r.value<=1000000000000):1<=mean l/\mean l<=1000000000000:=by
 have h1:=U9 l h;have h2:1<=l.length:=by cases l with|nil=>exact absurd rfl h0|cons _ _=>simp
 unfold mean
 constructor
 ·rw[Int.le_ediv_iff_mul_le O];omega
 ·have:(2*kX l+l.length) / (2*l.length)<1000000000001:=by
   rw[Int.ediv_lt_iff_lt_mul O];omega
  omega
def BU (l:List aW) (c:ByteArray) (p a b:Int):Option Int:=match Ao l c 2 p with
 |some r=>N r.value
 |none=>if oh l c a b= [] then J else N (mean (oh l c a b))
theorem aew {g:ByteArray} {l:List aW} (h:valid g l=ae) (c:ByteArray) (p a b v:Int) (hv:BU l c p a b=N v):1<=v/\v<=1000000000000:=by
 have hp: ∀ r∈l,1<=r.value/\r.value<=1000000000000:=λr hr=>by
  have:=PK h r hr;simp only[proper,bR,dm]at this;exact⟨this.2.2.1,this.2.2.2.1⟩
 unfold BU at hv
 split at hv
 ·rename_i r hr;obtain rfl:=uz hv;exact hp r (Mi hr)
 ·split at hv
  ·simp at hv
  ·rename_i hne;obtain rfl:=uz hv;exact akq _ hne λr hr=>hp r (vF.1 hr).1
def conv (n r:Int):Option Int:=
 let a:Int:=n.natAbs
 let q:=r / 1000000
 if 0<q/\1000000000000 / q<a then J
 else
  let v:=a*q+(2*a*(r % 1000000)+1000000) / 2000000
  if v<=1000000000000 then N (if n<0 then -v else v) else J
end Rt
namespace Sc
def step (kR:Int->Int) (mx:Int) (out:List fE) (d:Int):List fE:=
 match out[out.length - 1]? with
 |none=>out++ [⟨d,mx,kR d⟩]
 |some x=>if x.method=kR d then out else out.set (out.length - 1) ⟨x.from_,d,x.method⟩++ [⟨d,mx,kR d⟩]
def wI (kR:Int->Int) (mx:Int) (ds:List Int):List fE:=ds.foldl (step kR mx) []
theorem aji (kR:Int->Int) (mx:Int) (ds:List Int) (d:Int):wI kR mx (ds++ [d])=step kR mx (wI kR mx ds) d:=by simp[wI]
theorem aoo (kR:Int->Int) (mx:Int) (out:List fE) (d:Int):(step kR mx out d).length<=out.length+1:=by
 unfold step
 split
 ·simp
 ·split<;>simp
theorem ajh (kR:Int->Int) (mx:Int) (ds:List Int):(wI kR mx ds).length<=ds.length:=by
 suffices h: ∀ (ds:List Int) (o:List fE),(ds.foldl (step kR mx) o).length<=o.length+ds.length from (by have:=h ds [];simp only[mI,nN]at this;exact this)
 intro ds
 induction ds with
 |nil=>simp
 |cons d ds ih=>
  intro o;have h1:=ih (step kR mx o d);have h2:=aoo kR mx o d;simp only[Mr,gX];omega
theorem aon (kR:Int->Int) (mx:Int) (out:List fE) (d:Int) (h:out= []):step kR mx out d=out++ [⟨d,mx,kR d⟩]:=by subst h;rfl
theorem aoq (kR:Int->Int) (mx:Int) (out:List fE) (d:Int) (h:0<out.length) (he:(out[out.length - 1]'O).method=kR d):step kR mx out d=out:=by
 unfold step;rw[rq O];simp[he]
theorem aop (kR:Int->Int) (mx:Int) (out:List fE) (d:Int) (h:0<out.length) (he:(out[out.length - 1]'O).method≠kR d):
 step kR mx out d=out.set (out.length - 1) ⟨(out[out.length - 1]'O).from_,d,(out[out.length - 1]'O).method⟩++ [⟨d,mx,kR d⟩]:=by
 unfold step;rw[rq O];simp[he]
theorem XV: ∀ {a b:List Int},a.Pairwise (· < ·)->b.Pairwise (· < ·)->(∀ x,x∈a↔x∈b)->a=b
 | [],[],_,_,_=>rfl
 | [],y::b,_,_,h=>by have:=(h y).2 aL;simp at this
 |x::a,[],_,_,h=>by have:=(h x).1 aL;simp at this
 |x::a,y::b,ha,hb,h=>by
  rw[Iw]at ha hb;have e:x=y:=by
   have h1:=(h x).1 aL;have h2:=(h y).2 aL
   rcases fT.1 h1 with h1|h1
   ·exact h1
   ·rcases fT.1 h2 with h2|h2
    ·exact h2.symm
    ·have:=hb.1 x h1;have:=ha.1 y h2;omega
  subst e;rw[XV ha.2 hb.2 λz=> ?_];have hz:=h z;simp only[fT]at hz
  constructor
  ·intro m
   rcases hz.1 (.inr m) with rfl|k
   ·have:=ha.1 z m;omega
   ·exact k
  ·intro m
   rcases hz.2 (.inr m) with rfl|k
   ·have:=hb.1 z m;omega
   ·exact k
def ins (x:Int):List Int->List Int
 | []=> [x]
 |y::t=>if x<y then x::y::t else if x=y then y::t else y::ins x t
def wm (l:List Int):List Int:=l.foldr ins []
theorem aaJ (x z:Int) (l:List Int):z∈ins x l↔z=x\/z∈l:=by
 induction l with
 |nil=>simp[ins]
 |cons y t ih=>
  simp only[ins]
  split
  ·simp
  ·split
   ·rename_i h;subst h;simp
   ·simp only[fT,ih];constructor
    ·rintro(h|h|h)<;>simp[h]
    ·rintro(h|h|h)<;>simp[h]
theorem aiY (x:Int) (l:List Int) (h:l.Pairwise (· < ·)):(ins x l).Pairwise (· < ·):=by
 induction l with
 |nil=>simp[ins]
 |cons y t ih=>
  rw[Iw]at h;simp only[ins]
  split
  ·rename_i hx;rw[Iw,Iw];refine⟨λz hz=> ?_,h⟩
   rcases fT.1 hz with rfl|hz
   ·exact hx
   ·have:=h.1 z hz;omega
  ·split
   ·rw[Iw];exact h
   ·rename_i h1 h2;rw[Iw];refine⟨λz hz=> ?_,ih h.2⟩
    rcases (aaJ x z t).1 hz with rfl|hz
    ·omega
    ·exact h.1 z hz
theorem aaI (z:Int) (l:List Int):z∈wm l↔z∈l:=by
 induction l with
 |nil=>simp[wm]
 |cons x l ih=>simp only[wm,List.foldr_cons]at ih |-;rw[aaJ,ih,fT]
theorem aeu (l:List Int):(wm l).Pairwise (· < ·):=by
 induction l with
 |nil=>simp[wm]
 |cons x l ih=>simp only[wm,List.foldr_cons]at ih |-;exact aiY x _ ih
theorem aev (l:List Int):(wm l).length<=l.length:=by
 induction l with
 |nil=>simp[wm]
 |cons x l ih=>
  have h: ∀ (t:List Int),(ins x t).length<=t.length+1:=by
   intro t
   induction t with
   |nil=>simp[ins]
   |cons y t ih=>
    simp only[ins]
    split
    ·simp
    ·split
     ·simp
     ·simp only[gX];omega
  have h1:=h (wm l);simp only[wm,List.foldr_cons,gX]at ih h1 |-;omega
def days (mn:Int) (l:List aM):List Int:=mn::(wm (l.map aM.date)).filter λd=>mn<d
end Sc
end Go.Proofs.YtbedbfdhfokifaaGreat
