/- Part of the proof of WholeMatching. -/
import Derived.Test.YtbedbfdhfokifaaGreatJAA
import Derived.DeepKeys4
namespace Go.Proofs.YtbedbfdhfokifaaGreat
set_option maxRecDepth 100000
set_option maxHeartbeats 16000000
set_option linter.unusedVariables false
set_option linter.unusedSimpArgs false
open _root_.Bool renaming true->ae,false->ag
open Go renaming World->Z,Addr->aG,undef->aV,Value->aj,maxLen->bK,Oper->dC,Program->dH,Operand->lU
open Go.Value renaming bool->aA
open _root_.Option renaming none->J,some->N
open Go.RowKit
section
open Go.Maps (Keyed)
def fw (P:dH) (k e:TypeId) (w:Z) (b n:Nat) (f:aj->Bool):Prop:=
 ∃ D:DataW Unit,w.ownsMap P k (plainElem P e) b n D/\Maps.IsMap D/\ ∀ v l,keyOf P k v=N l->D.atKey l (.lit (.bool ag))= .lit (.bool (f v))
section
variable {P:dH} {k e t:TypeId} {w w':Z} {b n:Nat} {f g:aj->Bool}
theorem fw.made (w:Z):fw P k e (w.alloc (.map #[] 0)) w.heap.size 0 (λ_=>ag):=⟨.map [],H8 _ _ _ _,H9,λ_ _ _=>by simp[DataW.atKey]⟩
theorem fw.lt (h:fw P k e w b n f):b<w.heap.size:=by obtain⟨D,h,_⟩:=h;exact h.lt
theorem fw.kept {row:Option Nat} (h:fw P k e w b n f) (hg:w.grownBy w' row) (hne:N b≠row):fw P k e w' b n f:=by obtain⟨D,h,r⟩:=h;exact⟨D,h.kept hg hne,r⟩
theorem fw.step (h:fw P k e w b n f) (hb:Below w.heap.size w w'):fw P k e w' b n f:=h.kept (sF hb J) aL
theorem fw.alloc (h:fw P k e w b n f) (o:Obj):fw P k e (w.alloc o) b n f:=h.kept (zB w o J) aL
theorem fw.lI {g:Nat} {E:TypeId} {cs:Array aj} (h:fw P k e w b n f) (hr:au w g E cs):b≠g:=by
 obtain⟨D,⟨es,cl,hb,_⟩,_⟩:=h;rintro rfl;unfold au at hr;rw[hb]at hr;simp at hr
theorem fw.look (h:fw P k e w b n f) (hk:Keyed P k) (he:P.underlying e=N .bool) (ht:P.underlying t=N (.map k e)) (hz:(zeroValue e).run P w= .ok (aA ag) w)
 {v:aj} {l:Lit} (hl:keyOf P k v=N l):(Instr.lookup t (.map (N b)) v ag).run P w= .ok (.bool (f v)) w:=by
 obtain⟨D,h,_,hD⟩:=h;obtain⟨v',ps,hrun,hv⟩:=h.lookup hk ht hz (FB he ag) hl;obtain⟨x,rfl,e2⟩:=O5 he hv;rw[hD v l hl]at e2;injection e2 with e2 _
 injection e2 with e2
 injection e2 with e2
 rw[hrun,e2]
theorem fw.put {D:DataW Unit} {v:aj} {l:Lit} {x:Bool} (hk:Keyed P k) (hm:Maps.IsMap D) (hD: ∀ v l,keyOf P k v=N l->D.atKey l (.lit (.bool ag))= .lit (.bool (f v))) (hl:keyOf P k v=N l)
 (hg:g v=x) (hgo: ∀ u lu,keyOf P k u=N lu->u≠v->g u=f u) (h2:w'.ownsMap P k (plainElem P e) b (n+1) (D.put l (.lit (.bool x)))):fw P k e w' b (n+1) g:=by
 refine⟨_,h2,hm.put _ _,λu lu hu=> ?_⟩
 by_cases hd:lu=l
 ·subst hd;obtain rfl:=hk.inj hu hl;rw[Ma hm (hk.key hl),hg]
 ·rw[Mc hd,hD u lu hu,hgo u lu hu (λe=>hd (by rw[e,hl]at hu;injection hu with hu;exact hu.symm))]
theorem Bf {ops:Array dC} {rest:List dC} {o:dC} {a:Act} {Q:Exit->Act->Z->Prop} (g:aj->Bool) (hgd:o.guard=J) (m x v:lU) (t:TypeId) (hop:o.op=Op.mapUpdate t m x v)
 (hk:Keyed P k) (he:P.underlying e=N .bool) (ht:P.underlying t=N (.map k e)) (h:fw P k e w b n f) (hn:n<bK) (y:aj) (l:Lit) (z:Bool) (hl:keyOf P k y=N l)
 (hm:a.eval m= .map (N b)) (hx:a.eval x=y) (hv:a.eval v= .bool z) (hg:g y=z) (hgo: ∀ u lu,keyOf P k u=N lu->u≠y->g u=f u)
 (hK: ∀ w',fw P k e w' b (n+1) g->w.grownBy w' (N b)->wpList P ops Q rest (a.put o.dst aV) w'):wpList P ops Q (o::rest) a w:=by
 obtain⟨D,h,hM,hD⟩:=h;exact PN w hgd m x v t hop k e hk ht _ b n D hm h hn _ _ _ hx hv hl _ [] (FB he z) λw' h2 g2=>hK w' (fw.put hk hM hD hl hg hgo h2) g2
end
theorem iH.isMap {P:dH} {k e:TypeId} {w:Z} {b n:Nat} {S:List Int} (h:iH P k e w b n S): ∃ es cl,w.heap[b]? =N (.map es cl):=by
 obtain⟨D,⟨es,cl,hb,_⟩,_⟩:=h;exact⟨es,cl,hb⟩
theorem fw.isMap {P:dH} {k e:TypeId} {w:Z} {b n:Nat} {f:aj->Bool} (h:fw P k e w b n f): ∃ es cl,w.heap[b]? =N (.map es cl):=by
 obtain⟨D,⟨es,cl,hb,_⟩,_⟩:=h;exact⟨es,cl,hb⟩
theorem Rd.past {w w':Z} {B sz n m:Nat} {A:Option aG} {xs:List aj} (h:Rd w B sz A n xs) (hg:w.grownBy w' (N m)) (hm: ∃ es cl,w.heap[m]? =N (.map es cl)):Rd w' B sz A n xs:=
 ⟨h.1,λhn=>by
  obtain⟨b,o,e,hb,hc⟩:=h.2 hn;refine⟨b,o,e,hb,λj u hu=>hg.cell (hc j u hu) λe2=> ?_⟩;injection e2 with e2
  obtain⟨es,cl,hm⟩:=hm;have h1:=hc j u hu;subst e2;simp[World.cell?,hm]at h1⟩
end
namespace Dt
def nZ (n:Int):Bool:=decide (-25567<=n)&&decide (n<=84005)
theorem AJ (n:Int):nZ n=ae↔ -25567<=n/\n<=84005:=by unfold nZ;simp
theorem aah (n:Int):nZ n=ag↔n< -25567\/84005<n:=by
 rw[<- qo,AJ];omega
def Hd (y m d:Int):Int:=if kG y m d then num y m d else 0
def Ha (y m d:Int):Int:=if kG y m d then 0 else 2
def oN (n k:Int):Int:=12*cY n+cM n - 1+k
def qN (n k:Int):Bool:=nZ n&&(decide (22800<=oN n k)&&decide (oN n k<=26399))
def addN (n k:Int):Int:=num (oN n k / 12) (oN n k % 12+1) (min (cD n) (days (oN n k / 12) (oN n k % 12+1)))
def Er (n k:Int):Int:=if qN n k then addN n k else 0
def Ep (n k:Int):Int:=if qN n k then 0 else 2
theorem UG (n:Int) (h:nZ n=ae):kG (cY n) (cM n) (cD n)=ae/\num (cY n) (cM n) (cD n)=n:=by
 rw[AJ]at h;exact Yi n h.1 h.2
theorem aai (y m d:Int) (h:kG y m d=ae):nZ (num y m d)=ae:=by
 rw[AJ];exact OY y m d h
theorem JK (n:Int) (h:nZ n=ae):1900<=cY n/\cY n<=2199/\1<=cM n/\cM n<=12/\1<=cD n/\cD n<=days (cY n) (cM n)/\cD n<=31:=by
 have k:=Hw _ _ _ (UG n h).1;have:=(uw _ _ _).1 (UG n h).1;omega
theorem ael (n k:Int) (h:qN n k=ae):kG (oN n k / 12) (oN n k % 12+1) (min (cD n) (days (oN n k / 12) (oN n k % 12+1)))=ae:=by
 unfold qN at h;simp only[bR,dm]at h;have c:=JK n h.1;have d0:0<days (oN n k / 12) (oN n k % 12+1):=by
  rw[qO _ _ O O O O];have l:=uo (oN n k / 12);have:=Li (lp (oN n k / 12)) (oN n k % 12+1) O O O O;omega
 rw[uw];omega
end Dt
namespace ax
def tm (Y M p:Int):Int:=12*Y+M - 1+p
def fd (t:Int):Int:=Dt.num (t / 12) (t % 12+1) 1
def mq (Y M P:Int):Prop:=1<=M/\M<=12/\1<=P/\P<=120/\1900<=Y/\Y<=2199/\tm Y M (P - 1)<=26399
instance (Y M P:Int):Decidable (mq Y M P):=by unfold mq;infer_instance
def ok (Y M P:Int):Bool:=decide (mq Y M P)
theorem Fb (Y M P:Int):ok Y M P=ae↔mq Y M P:=by unfold ok;simp
theorem UH (Y M P:Int):ok Y M P=ag↔ ¬ mq Y M P:=by unfold ok;simp
def wM (t:Int):Bool:=decide (22800<=t)&&decide (t<=26399)
theorem Lj (t:Int):wM t=ae↔22800<=t/\t<=26399:=by unfold wM;simp
def Am (t:Int):Int:=if wM t then fd t else 0
def uN (t:Int):Int:=if wM t then 0 else 2
def bJ (Y M P p:Int):Int:=if ok Y M P then (if 0<=p/\p<P then 0 else 2) else 1
def gW (Y M P p:Int):Int:=if bJ Y M P p=0 then fd (tm Y M p) else 0
def ld (t:Int):Int:=fd t+Dt.days (t / 12) (t % 12+1) - 1
def cB (Y M P p:Int):Int:=if bJ Y M P p=0 then ld (tm Y M p) else 0
def pG (Y M P p:Int):Int:=if bJ Y M P p=0 then fd (tm Y M (p - p % 12)) else 0
def pq (Y M d:Int):Int:=12*Dt.cY d+Dt.cM d - 12*Y - M
def qX (Y M P d:Int):Bool:=Dt.nZ d&&(decide (0<=pq Y M d)&&decide (pq Y M d<P))
def mD (Y M P d:Int):Int:=if ok Y M P&&qX Y M P d then pq Y M d else 0
def oP (Y M P d:Int):Int:=if ok Y M P then (if qX Y M P d then 0 else 2) else 1
theorem Aj (Y M P p:Int):bJ Y M P p=0↔mq Y M P/\0<=p/\p<P:=by
 unfold bJ
 by_cases h:ok Y M P=ae
 ·rw[bB h];rw[Fb]at h
  split<;>simp_all
 ·rw[bE h];rw[Fb]at h;simp[h]
theorem yu (Y M P p:Int) (h:mq Y M P) (h0:0<=p) (h1:p<P):22800<=tm Y M p/\tm Y M p<=26399:=by
 unfold mq at h;unfold tm at h |-;omega
theorem Gx (t:Int) (h0:22800<=t) (h1:t<=26399):Dt.kG (t / 12) (t % 12+1) 1=ae:=by
 rw[Dt.uw,Dt.qO _ _ O O O O];have l:=Dt.uo (t / 12);have:=Dt.Li (Dt.lp (t / 12)) (t % 12+1) O O O O;omega
theorem akQ (t:Int) (h:18000<=t):Dt.Hd (t / 12) (t % 12+1) 1=Am t/\Dt.Ha (t / 12) (t % 12+1) 1=uN t:=by
 unfold Dt.Hd Dt.Ha Am uN
 by_cases hm:wM t=ae
 ·rw[bB hm,bB hm];rw[Lj]at hm;rw[Gx t hm.1 hm.2];exact⟨rfl,rfl⟩
 ·rw[bE hm,bE hm];rw[Lj]at hm;have:Dt.kG (t / 12) (t % 12+1) 1=ag:=by
   rw[<- qo,Dt.uw];unfold Dt.days;rw[bB O];omega
  rw[this];exact⟨rfl,rfl⟩
theorem Yh (t:Int) (h0:22800<=t) (h1:t<=26399):Dt.nZ (fd t)=ae/\Dt.cY (fd t)=t / 12/\Dt.cM (fd t)=t % 12+1/\Dt.cD (fd t)=1:=by
 have v:=Gx t h0 h1;exact⟨Dt.aai _ _ _ v,Dt.Sm _ _ _ _ v rfl⟩
theorem SA (t:Int) (h0:22800<=t) (h1:t<=26398):fd (t+1)=ld t+1:=by
 unfold ld fd;have l:=Dt.uo (t / 12);have dd:=Dt.qO (t / 12) (t % 12+1) O O O O;have ms:=Dt.E9 (Dt.lp (t / 12)) (t % 12+1) O O
 by_cases hm:t % 12=11
 ·rw[show (t+1) / 12=t / 12+1 from O,show (t+1) % 12+1=1 from O,dd];have s:=Dt.Cn (t / 12);rw[show t % 12+1=12 from O]at*;have GH:=Dt.Uy (Dt.lp (t / 12));unfold Dt.num;rw[Dt.E8];rw[show (12:Int)+1=13 from rfl]at ms;omega
 ·rw[show (t+1) / 12=t / 12 from O,show (t+1) % 12+1=t % 12+1+1 from O,dd];unfold Dt.num;omega
theorem Sz (t:Int) (h0:22800<=t) (h1:t<=26399):fd t+27<=ld t:=by
 unfold ld;have v:=Gx t h0 h1;rw[Dt.uw]at v;have:=Dt.afO (t / 12) (t % 12+1) O;omega
theorem YC (t:Int) (h0:22800<=t) (h1:t<=26399): -25567<=fd t/\fd t<=84005:=Dt.OY _ _ _ (Gx t h0 h1)
theorem aiX (t d:Int) (h0:22800<=t) (h1:t<=26399):(fd t<=d/\d<=ld t)↔(Dt.nZ d=ae/\12*Dt.cY d+Dt.cM d - 1=t):=by
 have v:=Gx t h0 h1;have d0:=Dt.zb (t / 12) (t % 12+1)
 constructor
 ·intro ⟨ha,hb⟩;have v2:Dt.kG (t / 12) (t % 12+1) (d - fd t+1)=ae:=by
   rw[Dt.uw];unfold ld at hb;omega
  have e:Dt.num (t / 12) (t % 12+1) (d - fd t+1)=d:=by
   unfold fd Dt.num;omega
  have r:=Dt.OY _ _ _ v2;rw[e]at r;obtain⟨c1,c2,_⟩:=Dt.Sm d _ _ _ v2 e;exact⟨(Dt.AJ d).2 r,by rw[c1,c2];omega⟩
 ·intro ⟨hD,ht⟩;have c:=Dt.JK d hD;have e1:t / 12=Dt.cY d:=O;have e2:t % 12+1=Dt.cM d:=O;have n:=(Dt.UG d hD).2;unfold ld fd;rw[e1,e2];unfold Dt.num at n |-;omega
theorem agE (n:Nat): ∀ (s:Int),22800<=s->s+n<=26399->fd s<=fd (s+n):=by
 induction n with
 |zero=>intro s _ _;simp
 |succ n ih=>
  intro s h0 h1;have a:=ih s h0 O;have b:=SA (s+n) O O;have c:=Sz (s+n) O O;rw[show s+((n+1:Nat):Int)=s+n+1 from O];omega
theorem YD (s t:Int) (h0:22800<=s) (h:s<=t) (h1:t<=26399):fd s<=fd t:=by
 obtain⟨n,hn⟩:=Int.eq_ofNat_of_zero_le (show 0<=t - s by omega);have:=agE n s h0 O
 rwa [show s+(n:Int)=t from O]at this
end ax
section
open Go.Maps (Keyed)
def Kv (v:aj):Option (DataW aj×List MemPlace):=N (.held v,[])
def ig (P:dH) (k:TypeId) (z:aj) (w:Z) (b n:Nat) (f:aj->Option aj):Prop:=
 ∃ D:DataW aj,w.ownsMap P k Kv b n D/\Maps.IsMap D/\ ∀ v l,keyOf P k v=N l->Maps.has D l=(f v).isSome/\D.atKey l (.held z)= .held ((f v).getD z)
section
variable {P:dH} {k e t:TypeId} {z:aj} {w w':Z} {b n:Nat} {f g:aj->Option aj}
theorem ig.made (w:Z):ig P k z (w.alloc (.map #[] 0)) w.heap.size 0 (λ_=>J):=⟨.map [],H8 _ _ _ _,H9,λ_ _ _=>⟨by simp[Maps.has_eq],by simp[DataW.atKey]⟩⟩
theorem ig.lt (h:ig P k z w b n f):b<w.heap.size:=by obtain⟨D,h,_⟩:=h;exact h.lt
theorem ig.kept {row:Option Nat} (h:ig P k z w b n f) (hg:w.grownBy w' row) (hne:N b≠row):ig P k z w' b n f:=by obtain⟨D,h,r⟩:=h;exact⟨D,h.kept hg hne,r⟩
theorem ig.step (h:ig P k z w b n f) (hb:Below w.heap.size w w'):ig P k z w' b n f:=h.kept (sF hb J) aL
theorem ig.alloc (h:ig P k z w b n f) (o:Obj):ig P k z (w.alloc o) b n f:=h.kept (zB w o J) aL
theorem ig.isMap (h:ig P k z w b n f): ∃ es cl,w.heap[b]? =N (.map es cl):=by
 obtain⟨D,⟨es,cl,hb,_⟩,_⟩:=h;exact⟨es,cl,hb⟩
theorem ig.same (h:ig P k z w b n f) (hb:w'.heap[b]? =w.heap[b]?):ig P k z w' b n f:=by
 obtain⟨D,⟨es,cl,h1,h2⟩,r⟩:=h;exact⟨D,⟨es,cl,hb.trans h1,h2⟩,r⟩
theorem ig.lI {q:Nat} {E:TypeId} {cs:Array aj} (h:ig P k z w b n f) (hr:au w q E cs):b≠q:=by
 obtain⟨es,cl,hb⟩:=h.isMap;rintro rfl;unfold au at hr;rw[hb]at hr;simp at hr
theorem ig.look (h:ig P k z w b n f) (hk:Keyed P k) (ht:P.underlying t=N (.map k e)) (hz:(zeroValue e).run P w= .ok z w) {y:aj} {l:Lit} (hl:keyOf P k y=N l):
 (Instr.lookup t (.map (N b)) y ae).run P w= .ok (.tuple #[(f y).getD z,aA (f y).isSome]) w:=by
 obtain⟨D,h,_,hD⟩:=h;obtain⟨v,ps,hrun,hv⟩:=h.look_ok hk ht hz (show Kv z=N (.held z,[]) from rfl) hl;obtain⟨h1,h2⟩:=hD y l hl;unfold Kv at hv;rw[h2]at hv;injection hv with hv
 injection hv with hv _
 injection hv with hv
 rw[hrun,hv,h1]
theorem ig.put {D:DataW aj} {y x:aj} {l:Lit} (hk:Keyed P k) (hm:Maps.IsMap D) (hD: ∀ v l,keyOf P k v=N l->Maps.has D l=(f v).isSome/\D.atKey l (.held z)= .held ((f v).getD z)) (hl:keyOf P k y=N l)
 (hg:g y=N x) (hgo: ∀ u lu,keyOf P k u=N lu->u≠y->g u=f u) (h2:w'.ownsMap P k Kv b (n+1) (D.put l (.held x))):ig P k z w' b (n+1) g:=by
 refine⟨_,h2,hm.put _ _,λu lu hu=> ?_⟩
 by_cases hd:lu=l
 ·subst hd;obtain rfl:=hk.inj hu hl;rw[P9 hm (hk.key hl),Ma hm (hk.key hl),hg];exact⟨rfl,rfl⟩
 ·rw[Qa hd,Mc hd,hgo u lu hu (λe=>hd (by rw[e,hl]at hu;injection hu with hu;exact hu.symm))];exact hD u lu hu
end
end
end Go.Proofs.YtbedbfdhfokifaaGreat
