/- TopOnce: part 25 of the proof. -/
import Derived.Test.YtoaehdgokeicoaaGreatDoorZ21
import Derived.Test.YtoaehdgokeicoaaGreatDoorZ22
import Derived.Test.YtoaehdgokeicoaaGreatDoorZ23
import Derived.Test.YtoaehdgokeicoaaGreatDoorZ24
set_option maxRecDepth 100000
set_option maxHeartbeats 30000000
set_option linter.all false
namespace Go.Proofs.YtoaehdgokeicoaaGreatDoor
open K9 Z9 Go.Proofs.Tryz
section
variable{w v u W V U:eI}{n k m i j p b c d g N B K G M:Nat}{x y z X Y Z:eS}{D E F:Int}{A C H I:fE}{l L J T:fY}{r s t:fe}{f:ik}{a:Act}{O P Q:List Oper}{kB kC:List (eS×fS)}{kJ:kx}{kK:DataW eS}{kM:fS}{kO:mB}{kR kS:gh}
section
open Go.RowKit Go.Maps
section
def Px(G:Nat->fe)(k:Nat):eS:=jj 1 (oB k) (fI (ii G k).enc) ByteArray.empty
def si(D0:DataW eS)(G:Nat->fe):Nat->DataW eS
 |0=>D0.put (.string (jk 0)) (.held (Px G 0))
 |k+1=>(si D0 G k).put (.string (jk (k+1))) (.held (Px G (k+1)))
theorem wq(c:n<=12)(d:k<=12)(h:jk n=jk k):n=k:=by
 unfold jk qK at h;by_cases a:n=0<;>by_cases b:k=0
 ·omega
 ·rw[fW a,fG b] at h;simp[ff,hH] at h
 ·rw[fG a,fW b] at h;simp[ff,hH] at h
 ·rw[fG a,fG b] at h;exact Iu c d (by simpa[ff,hH] using h)
theorem qL(h:kR≠kS):(Lit.string kR)≠ .string kS:=λe=>h (by injection e)
section
variable {D0:DataW eS} {G:Nat->fe}
theorem zv(h:IsMap D0):∀a,IsMap (si D0 G a)
 |0=>h.put _ _
 |a+1=>(zv h a).put _ _
theorem BM(h:IsMap D0):∀a,a<=12->∀b,b<=a->At (si D0 G a) (.string (jk b)) (Px G b)
 |0,_,b,c=>by
  obtain rfl:b=0:=by omega
  exact At.put h (show WideAt.IsKeyLit (.string (jk 0)) from trivial) _
 |a+1,d,b,c=>by
  by_cases e:b=a+1
  ·subst e;exact At.put (zv h a) (show WideAt.IsKeyLit (.string (jk (a+1))) from trivial) _
  ·exact(BM h a (by omega) b (by omega)).other (qL λf=>e (wq (by omega) d f)) _
theorem qM(h:At D0 (.string kR) x)(b:∀c,c<=12->kR≠jk c):∀a,a<=12->At (si D0 G a) (.string kR) x
 |0,_=>h.other (qL (b 0 (by omega))) _
 |a+1,d=>(qM h b a (by omega)).other (qL (b (a+1) d)) _
theorem BN(h:∀a,a<=12->No D0 (.string (jk a))):∀k,∀a,k<a->a<=12->No (si D0 G k) (.string (jk a))
 |0,a,c,b=>(h a b).other (qL λe=>by have:=wq b (by omega) e;omega) _
 |k+1,a,c,b=>(BN h k a (by omega) b).other (qL λe=>by have:=wq b (by omega) e;omega) _
end
def u5:gh:=ff qz
theorem xC{k:Nat}(a:k<=12):mL (qK k):=by
 unfold qK;by_cases h:k=0
 ·rw[fW h];refine⟨λc b=> ?_,by simp,by decide⟩;rw[fF.1 b];exact⟨by unfold tY;decide,by decide,by decide⟩
 ·rw[fG h];exact(Iy (nB k) (xj a) (by simp[nB]) (by simp[nB])).1
theorem Fx{D0:DataW eS}(f:Nat->fe)(h:IsMap D0)(a:Nat)(g:a<=12)(c:a=0\/At D0 (.string u5) uB):uH f a (si D0 f a):=by
 have l:∀d,d<=12->u5≠jk d:=λd o e=>by unfold u5 qz jk qK at e;split at e<;>simp[ff,hH] at e
 refine⟨λb i=>⟨xC (by omega),λm p j=> ?_⟩,λb i=>BM h a g b i⟩;have k:b≠0:=λe=>by subst e;simp[qK] at j;omega
 rcases c with rfl|c
 ·omega
 ·have n:m=1:=by simp[qK,k] at j;omega
  subst n;have e:rI (qK b) 1=u5:=by simp[rI,qK,k,u5,qz]
  rw[e];exact qM c l a g
end
section
def TX:mB:=87::91::51::127::124::9::Fv
theorem BO{b:ik}{c d:eS->Option (DataW eS×List MemPlace)}{D1:DataW eS}{g:Lit}(i:w.ownsMap prog f c n 0 kK)(j:w.ownsMap prog b d k m D1)(l:Maps.has D1 g=true):n≠k:=by rintro rfl;obtain⟨o,r,p,_,s,_⟩:=i;obtain⟨t,u,a,_,_,rfl⟩:=j;rw[p] at a;cases a;have:o=#[]:=Array.size_eq_zero_iff.1 (by omega);subst this;cases l
section
variable {w w':eI} {B p:Nat} {s:LS} {ex:List (eS×fS)}
theorem it.files(h:it w B p s ex)(n:s.tl.iQ=[]){key:Lit}(E:Maps.has s.D key=true){o:Nat}{r:DataW eS}{t:Int}(F:kg w' B s.fp s.fb o r t)(b:CH B [] [s.fp,s.fb] w w'):it w' B p {s with D:=r,fn:=o,fl:=t} ex:=by
 have d:∀{u:Nat} {f:ik} {i:kx},eQ w u f i->f≠206->u∉[s.fp,s.fb]:=λd l e=>by
  simp only[fm,gp,gq] at e;rcases e with e|e
  ·exact d.ne h.qb.eH l e
  ·exact iD d h.qb.map e
 have g:∀{v j:Nat} {c:ik} {D:DataW eS} {G:eS->Option (DataW eS×List MemPlace)},w.ownsMap prog c G v j D->j=0->v∉[s.fp,s.fb]:=λg H e=>by
  subst H;simp only[fm,gp,gq] at e;rcases e with e|e
  ·exact iD h.qb.eH g e.symm
  ·exact BO g h.qb.map E e
 have k:∀{I J j:Nat} {f:ik} {x:eS} {K:fY},w.ownsRow I f J x j K->f≠206->∀c,x.ownBlock=some c->c∉[s.fp,s.fb]:=λk l c m=>by obtain⟨i,L⟩:=lX k m;exact d (show eQ w c _ i from L) l
 have a:=h.rT;exact⟨b.eH h.eH (by simp) (d h.eH (by decide)),h.low,h.vH.ch b (by simp) (λN y i f O z=>by
  simp only[fm,gp,gq] at y;rcases y with rfl|rfl
  ·have:=h.qb.eH;unfold eQ at this;rw[z] at this;simp only[fd,yV] at this;rw[this.2.1];decide
  ·obtain⟨P,Q,A,_⟩:=h.qb.map;rw[z] at A;cases A),
  ⟨b.eH a.eH (by simp) (d a.eH (by decide)),a.low,a.Eh,a.Ei,a.Ck,b.map a.rS (g a.rS rfl),b.map a.tM (g a.tM rfl),b.map a.rj (g a.rj (by rw[n];rfl)),λR C=>by rw[n] at C;cases C⟩,
  F,b.own h.row (by simp) (k h.row (by decide)),h.ints.ch b (by simp) (λc m=>by obtain⟨S,M,e⟩:=fu.1 m;exact k (h.ints.mem M) (by decide) c e),h.ku⟩
end
structure zw(w:eI)(B pp lp mt m p:Nat)(SA:fE)(fL:List lM)(ex:List (eS×fS))(s:LS):Prop where
 pr:z6 w pp lp mt 0 (.map [])
 lb:eQ w lp 91 (L5 p m 0 false)
 lm:w.ownsMap prog 3 rV m 0 (.map [])
 lk:it w B p s ex
 P8:s.rs=[]/\s.os=[]/\s.scope=[]/\s.gF=[]/\s.last=0/\s.inits=0/\s.tl.iQ=[]
 low:B<=lp/\B<=m/\B<=mt
 ne:m≠mt
 gL:At s.D (.string [47]) uB
 SP:IsMap s.D
 sp:mT w 51 SA (fO lM.eL fL)
 Hh:∀x∈fL,oC w x
section
variable {w w':eI} {B pp lp mt m p:Nat} {SA:fE} {fL:List lM} {ex:List (eS×fS)} {s:LS}
theorem oC.Wd{B:Nat}{f:lM}(h:oC w f)(a:CH B kO r w w')(b:∀d∈[130,127,124,9],d∉kO)(c:∀d∈[130,127,124,9],∀m∈r,¬jT w [d] m):oC w' f:=
 ⟨h.h'.ch a (b _ (by simp)) (c _ (by simp)),h.Ej.ch a (b _ (by simp)) (c _ (by simp)),λg i=>(h.AX g i).ch a (b _ (by simp)) (c _ (by simp)),h.rM.ch a (b _ (by simp)) (c _ (by simp)),h.yv.ch a (b _ (by simp)) (c _ (by simp))⟩
theorem zw.ch(h:zw w B pp lp mt m p SA fL ex s){B0:Nat}{L:mB}(a:CH B0 L [] w w')(b:∀t∈TX,t∉L:=by decide):zw w' B pp lp mt m p SA fL ex s:=
 ⟨h.pr.pN a (b _ (by decide)) (by simp) (by simp),a.eH h.lb (b _ (by decide)) (by simp),a.map h.lm (by simp),h.lk.pN a (λt c=>b t ((by decide:∀t∈Fv,t∈TX) t c)),h.P8,h.low,h.ne,h.gL,h.SP,h.sp.ch a (b _ (by decide)) (by simp),λd f=>(h.Hh d f).Wd a (λt c=>b t ((by decide:∀t∈[130,127,124,9],t∈TX) t c)) (by simp)⟩
theorem zw.files(h:zw w B pp lp mt m p SA fL ex s){l:Nat}{n:Int}{f:gh}{o:eS}(z:f≠[47])(A:kg w' B s.fp s.fb l (s.D.put (.string f) (.held o)) n)(b:CH B [] [s.fp,s.fb] w w'):zw w' B pp lp mt m p SA fL ex {s with D:=s.D.put (.string f) (.held o),fn:=l,fl:=n}:=by
 have c:∀{r:Nat} {g:ik} {t:kx},eQ w r g t->g≠206->r∉[s.fp,s.fb]:=λc i e=>by
  simp only[fm,gp,gq] at e;rcases e with e|e
  ·exact c.ne h.lk.qb.eH i e
  ·exact iD c h.lk.qb.map e
 have d:∀{u:Nat} {D:DataW eS},w.ownsMap prog 3 rV u 0 D->u∉[s.fp,s.fb]:=λd e=>by
  simp only[fm,gp,gq] at e;rcases e with e|e
  ·exact iD h.lk.qb.eH d e.symm
  ·exact BO d h.lk.qb.map h.gL.1 e
 have v:∀a,a≠206->∀m∈[s.fp,s.fb],¬jT w [a] m:=λa j m x i=>by
  obtain⟨t,g,G,k,C⟩:=i;rw[fF.1 C] at k;simp only[fm,gp,gq] at x;rcases x with rfl|rfl
  ·have:=h.lk.qb.eH;unfold eQ at this;rw[k] at this;simp only[fd,yV] at this;exact j this.2.1
  ·obtain⟨H,I,y,_⟩:=h.lk.qb.map;rw[k] at y;cases y
 exact⟨h.pr.pN b (by simp) (c h.pr.eH (by decide)) (d h.pr.map),b.eH h.lb (by simp) (c h.lb (by decide)),b.map h.lm (d h.lm),h.lk.files h.P8.2.2.2.2.2.2 h.gL.1 A b,h.P8,h.low,h.ne,h.gL.other (qL λe=>z e.symm) _,h.SP.put _ _,h.sp.ch b (by simp) (v _ (by decide)),λE F=>(h.Hh E F).Wd b (by simp) (λa j=>v a ((by decide:∀a∈[130,127,124,9],a≠206) a j))⟩
end
theorem I'{B0:Nat}{L L2:mB}{M:fe}(i:CH B0 L M w v)(j:CH w L2 [] v u)(k:71∉L/\63∉L)(l:∀a∈M,¬jT w [71] a/\¬jT w [63] a):Kp w u:=by
 have c:∀{f:ik} {m n o:Nat} {p:eS} {r:fY},w.ownsRow n f m p o r->f∉L->(∀a∈M,¬jT w [f] a)->u.ownsRow n f m p o r:=λb s d=>by
  have t:=i.own b s (λg c x=>by obtain⟨y,z⟩:=lX b c;exact d g x ⟨y,_,_,z,by simp⟩)
  exact fi.own j t (λg c A=>by have:=(b.lt g c).2;have:=A.1;omega)
 exact⟨eY i.size j.size,λ_ _ _ _ b=>c b k.1 (λa d=>(l a d).1),λ_ _ _ _ b=>c b k.2 (λa d=>(l a d).2)⟩
section
variable {w:eI} {B wp pp lp mt m p sc:Nat} {SA:fE} {fL:List lM} {ex:List (eS×fS)} {s:LS} {d:Int}
theorem zw.Wf(h:zw w B pp lp mt m p SA fL ex s){g:eI}(l:CH 0 [83] [] w g):∀a,a≠206->a≠83->∀c∈[s.fp,s.fb],¬jT w [a] c:=λa i _ c d j=>by
 obtain⟨n,o,r,b,k⟩:=j;rw[fF.1 k] at b;simp only[fm,gp,gq] at d;rcases d with rfl|rfl
 ·have:=h.lk.qb.eH;unfold eQ at this;rw[b] at this;simp only[fd,yV] at this;exact i this.2.1
 ·obtain⟨t,u,f,_⟩:=h.lk.qb.map;rw[b] at f;cases f
def zx(w:eI)(B wp pp lp mt m p:Nat)(SA:fE)(fL:List lM)(ex:List (eS×fS))(sc:Nat)(d:Int)(s:LS)(e:Ending)(w':eI):Prop:=e=fH (fV (gS 0 (eW) (eW)).toArray)/\eQ w' wp 83 (tu pp SA fL sc (d+1))/\zw w' B pp lp mt m p SA fL ex s/\Kp w w'/\Lw B w w'
theorem zw.cells(h:zw w B pp lp mt m p SA fL ex s):∀a,CH wp [83] [] w a->a.cell? (eJ pp 0)=some (fw lp)/\a.cell? (eJ lp 0)=some (fw p)/\a.cell? (eJ p 2)=some (fw s.fp):=λa b=>
 ⟨(b.eH h.pr.eH).cell 0 rfl,(b.eH h.lb).cell 0 rfl,(b.eH h.lk.eH).cell 2 rfl⟩
theorem zw.done(h:zw w B pp lp mt m p SA fL ex s)(z:B<=wp){w1 b:eI}(l:CH wp [83] [] w w1)(r:eQ w1 wp 83 (tu pp SA fL.length sc (d+1))){t:Nat}{u:Int}{k:gh}{v:eS}(a:k≠[47])(A:kg b B s.fp s.fb t (s.D.put (.string k) (.held v)) u)(c:CH B [] [s.fp,s.fb] w1 b):
 (∀n,CH w.heap.size [71] [] b n->zx w B wp pp lp mt m p SA fL ex sc d {s with D:=s.D.put (.string k) (.held v),fn:=t,fl:=u} (.returned (.agg (gS 0 (.slice none 0 0) (.slice none 0 0)).toArray)) n)/\∀g f,eQ w1 g 71 f->eQ b g 71 f:=by
 have o:=h.ch l (by decide);have C:=o.files a A c;have i:∀{g:Nat} {x:ik} {f:kx},eQ w1 g x f->x≠206->g∉[s.fp,s.fb]:=λi E e=>by
  simp only[fm,gp,gq] at e;rcases e with e|e
  ·exact i.ne o.lk.qb.eH E e
  ·exact iD i o.lk.qb.map e
 refine⟨λn j=>⟨rfl,j.eH (c.eH r (by simp) (i r (by decide))),C.ch j (by decide), ?_,(l.lw z).trans ((c.lw (fJ _)).trans (j.lw (eY h.low.1 (lN h.lb.lt))))⟩,λg f y=>c.eH y (by simp) (i y (by decide))⟩;have F:=(l.b0.mono (M':=[s.fp,s.fb]) (λ_ h=>h) (λ_ h=>by cases h)).trans (fi.mono c λk a=>⟨eX _,a.2.elim (λ⟨_,_,_,_,h⟩=>by cases h) .inr⟩:CH 0 [83] [s.fp,s.fb] w1 b) (λH G=>.inl G);exact I' F j (by decide) (λk a=>⟨h.Wf (CH.refl _ _ _ _) _ (by decide) (by decide) k a,h.Wf (CH.refl _ _ _ _) _ (by decide) (by decide) k a⟩)
theorem Pz(h:zw w B pp lp mt m p SA fL ex s)(n:B<=wp)(o:eQ w wp 83 (tu pp SA fL.length sc d))(r:0<=d/\d<400){ps:List gh}(t:Way s.D ps)(u:No s.D (.string (ff ps)))(v:s.fn<400)(x:ff ps≠[47])(c:jw)(f:fE)(g i:Nat)(j k arg:Int):
 Calls prog 15 #[.pointer (some ⟨wp,0,none⟩),.agg (iE 1 (fI (ff ps)) c f g i j k arg).toArray] w (zx w B wp pp lp mt m p SA fL ex sc d {s with D:=s.D.put (.string (ff ps)) (.held uB),fn:=s.fn+1,fl:=s.fl}):=by
 have y:=eY h.low.1 (lN h.lb.lt);refine(Pu o r (fI (ff ps)) c f g i j k arg (R:=λl=>∀a,CH w.heap.size [71] [] l a->zx w B wp pp lp mt m p SA fL ex sc d {s with D:=s.D.put (.string (ff ps)) (.held uB),fn:=s.fn+1,fl:=s.fl} (.returned (.agg (gS 0 (.slice none 0 0) (.slice none 0 0)).toArray)) a) h.cells (λa b z=> ?_)).mono ?_
 ·refine(JQ B s.fp s.fb s.fn s.D s.fl ps a ((h.ch b (by decide)).lk.qb) t u v (eY y b.size)).mono ?_;rintro e H ⟨rfl,A,C⟩;obtain⟨d1,d2⟩:=h.done n b z x A C;exact⟨rfl,d1,λE F=>d2 _ E F⟩
 ·rintro e a ⟨I,l,rfl,_,_,⟨rfl,G⟩,b⟩;exact G a b
theorem zy(h:zw w B pp lp mt m p SA fL ex s)(r:B<=wp)(t:eQ w wp 83 (tu pp SA fL.length sc d))(u:0<=d/\d<400){ps:List gh}(v:Way s.D ps)(x:No s.D (.string (ff ps)))(y:s.fn<400)(j:0<=s.fl/\s.fl<=1000)(z:ff ps≠[47]){k:Nat}(l:k<fL.length){c:lu}(A:Cm fL[k] c)(C:Bh c)(f:jw)(g arg:Int):
 Calls prog 15 #[.pointer (some ⟨wp,0,none⟩),.agg (iE 2 (fI (ff ps)) f none 0 0 g (k:Nat) arg).toArray] w (zx w B wp pp lp mt m p SA fL ex sc d {s with D:=s.D.put (.string (ff ps)) (.held (jj 1 (s.fl+1) (fI c.enc) ByteArray.empty)),fn:=s.fn+1,fl:=s.fl+1}):=by
 have E:=eY h.low.1 (lN h.lb.lt);refine(Ps t u (fI (ff ps)) f none 0 0 g (k:Nat) arg (R:=λn=>∀a,CH w.heap.size [71] [] n a->zx w B wp pp lp mt m p SA fL ex sc d {s with D:=s.D.put (.string (ff ps)) (.held (jj 1 (s.fl+1) (fI c.enc) ByteArray.empty)),fn:=s.fn+1,fl:=s.fl+1} (.returned (.agg (gS 0 (.slice none 0 0) (.slice none 0 0)).toArray)) a) (λa b o=> ?_)).mono ?_
 ·have i:=h.ch b (by decide);obtain⟨F,G,H⟩:=h.cells a b;refine(G9 i.lk.qb v x y j.1 j.2 (eY E b.size) o F G H i.sp.rd l (i.Hh _ (eU l)) A C f g arg).mono ?_;rintro e N ⟨rfl,I,J⟩;obtain⟨d1,d2⟩:=h.done r b o z I J;exact⟨rfl,d1,λK L=>d2 _ K L⟩
 ·rintro e a ⟨O,n,rfl,_,_,⟨rfl,M⟩,b⟩;exact M a b
end
end
section
def Ab:mB:=83::71::rm
structure BP(w:eI)(G:Nat->fe)(N B wp pp lp mt m p:Nat)(SA:fE)(sn sc d:Nat)(s:LS)(X E:List (eS×fS))(a tp:Int)(hs:List Hn)(next:Nat):Prop where
 wb:eQ w wp 83 (tu pp SA sn sc (d:Int))
 pr:z6 w pp lp mt 1 (Lr tp a)
 hd:∃D n,n<=2*d+1/\rb w lp p m next true hs D n
 lk:gG w G N B p s (X++E) [a]
 im:∀o∈s.os,lW o.im (ii G o.fQ) E
 low:B<=lp/\B<=m/\B<=mt
 ne:m≠mt/\∀x∈s.maps,x≠m
 iQ:s.tl.iQ.map (λx=>(x.1,x.2.1))=[(0,tp)]
 bd:d<=200/\1<=d/\s.last<=20*d/\s.inits<=20*d/\next<=d/\∀x∈hs,x.count<=d
section
variable {w w':eI} {G:Nat->fe} {N B wp pp lp mt m p sn sc d:Nat} {SA:fE} {s:LS} {X E:List (eS×fS)} {a tp:Int} {hs:List Hn} {next:Nat} {order:fe} {cnt hnd:Nat->Nat}
def PB:mB:=83::87::91::Fv
theorem BP.ch(h:BP w G N B wp pp lp mt m p SA sn sc d s X E a tp hs next){B0:Nat}{L:mB}(b:CH B0 L [] w w')(c:∀t∈PB,t∉L:=by decide):BP w' G N B wp pp lp mt m p SA sn sc d s X E a tp hs next:=by obtain⟨f,g,i,j⟩:=h.hd;exact⟨b.eH h.wb (c _ (by decide)) (by simp),h.pr.pN b (c _ (by decide)) (by simp) (by simp),⟨f,g,i,j.pN b (c _ (by decide)) (by simp) (by simp)⟩,h.lk.pN b (λt k=>c t ((by decide:∀t∈Fv,t∈PB) t k)),h.im,h.low,h.ne,h.iQ,h.bd⟩
theorem RR(a:List OV)(pl:fe):gw a pl=pl.map (VW (a.map OV.ob)):=by refine mP λb _=> ?_;simp only[VW,jx,vy];cases a[b]?<;>rfl
theorem Lv{a:List OV}{pl:fe}(h:∀b∈pl,kr (a.map OV.ob) b≠0):hY a pl=eM (pl.map (kr (a.map OV.ob))):=by
 induction pl with
 |nil=>rfl
 |cons b pl d=>have c:=d λf g=>h f (gD _ g);simp only[hY,oz,eM,hU] at c ⊢;rw[fG (h b (gM ..)),c];rfl
theorem Lx(i:gG w G N B p s E [a])(Q:G 0=[])(mi:kw G N s.gd s.last s.inits order hs next cnt hnd){f:Nat}(t:1<=f)(n:f<=N)(c:LS)(j:Nat)(u:fe)(v:pz G N (s.gd,s.last) f=((c.gd,c.last),j,u))(R:c.os.length<=13)(x:∀d∈c.os,d.eP.length<=8)(gO:(c.os.map OV.id).Nodup)(y:∃d∈c.os,d.id=j):
 ∃pl,RD p c B j pl/\(pl.map (kr c.gd)=hJ G (N+1) f (qa c.gd)/\∀k∈pl,k<c.gd.length):=by
 obtain⟨T,l,U,z,V,A,C,d,b,D,F⟩:=Fi i.up t n (λd b=>(mi.sh.le d b).2) mi.sh.ids mi.sh.qy v;obtain⟨q,H,o⟩:=y;obtain⟨I,m,rfl⟩:=gN H;have J:(c.gd.map Ob.id).Nodup:=by rw[show c.gd=c.os.map OV.ob from rfl,<-CV];exact gO
 have K:kr c.gd I=f:=by have L:=nT J (fy.2 ⟨_,eU m,rfl⟩) b (o.trans D.symm);simp only[kr,LS.gd,vy,gg m,qO,L];exact F
 obtain⟨pl,g,r⟩:=I6 i.up (s:=c) (B:=B) (p:=p) gO C (λd b=>by
  rw[l] at b;rcases gu.1 b with b|b
  ·exact mi.sh.QV d b
  ·exact(z d b).2.2.1.mO (S:=(· <=N)) (λM _ f O=>(i.up M f O).2) n) (λd b=>by
  rw[l] at b;rcases gu.1 b with b|b
  ·exact(mi.sh.eP d b).mono λp g=>⟨p,by rw[l];exact iL _ g,rfl,rfl⟩
  ·exact A d b) (by omega) (λd b=>by have:=x d b;omega) m
 rw[K] at r;rw[o] at g;exact⟨pl,g,r,λk P=>by have:=g.2.1 k P;simpa[LS.gd] using this⟩
theorem kw.Wo(mi:kw G N s.gd s.last s.inits order hs next cnt hnd):(∀a∈hs,0<a.h/\a.h<=next/\0<a.count/\a.gL<=s.last)/\hs.length<=next+1:=by
 refine⟨λa b=> ?_, ?_⟩
 ·have c:=mi.le a b;refine⟨c.1,c.2.1,c.2.2, ?_⟩;by_cases e:a.h=1
  ·have:=mR mi.hn b mi.one e;subst this;have:=mi.sh.le _ mi.CN;exact this.2
  ·obtain⟨i,_,_,_,_,d,f,j,_⟩:=mi.SB a b e;have:=(mi.sh.le d f).2;omega
 ·have:=iM (m:=next+1) (hs.map Hn.h) mi.hn (λk g=>by obtain⟨a,b,rfl⟩:=fy.1 g;have:=(mi.le a b).2.1;omega)
  simpa using this
def Hi(w:eI)(G:Nat->fe)(N B wp pp lp mt m p:Nat)(SA:fE)(sn sc d:Nat)(s:LS)(X E:List (eS×fS))(a tp:Int)(hs:List Hn)(next:Nat)(order:fe)(cnt hnd:Nat->Nat)(k:Nat)(l:fY)(w':eI):Prop:=
 ∃hh A c s2 E2 hs2 next2,l=gS ((hh:Nat):Int) (.slice A (hJ G (N+1) k order).length c) (eW)/\mT w' 3 A (ints (eM (hJ G (N+1) k order)))/\BP w' G N B wp pp lp mt m p SA sn sc (d+1) s2 X (E++E2) a tp hs2 next2/\
  kw G N s2.gd s2.last s2.inits (order++hJ G (N+1) k order) hs2 next2 (km cnt k (cnt k+1)) (km hnd k hh)/\(0<cnt k->hh=hnd k)/\L7 w w'/\CH 0 Ab [m] w w'/\Lw B w w'
theorem RS(h:BP w G N B wp pp lp mt m p SA sn sc d s X E a tp hs next)(aw:B<=wp)(ak:G 0=[])(mi:kw G N s.gd s.last s.inits order hs next cnt hnd){c:Nat}(al:1<=c)(T:c<=N){M:jw}(ha:vW c M)(U:jw)(V:fE)(W Y:Nat)(k arg:Int){gl:Bool}(ax:(k==1)=gl)(am:d<200):
 Calls prog 15 #[fw wp,fV (iE 9 M U V W Y 0 k arg).toArray] w λe w'=>∃b:fY,e=fH (fV b.toArray)/\b.length=13/\Hi w G N B wp pp lp mt m p SA sn sc d s X E a tp hs next order cnt hnd c b w':=by
 obtain⟨D,nn,aO,hd⟩:=h.hd;obtain⟨b1,b2,b3,b4,b5,Z⟩:=h.bd;obtain⟨ay,aP⟩:=mi.Wo;have az:=eY h.low.1 (lN hd.eH.lt);refine(TT h.wb (by omega) M U V W Y 0 k arg (C:=nR 0 tp 0 (a+1016) 0) rfl (se _ _ _ _ _) (R:=λb y=>Hi w G N B wp pp lp mt m p SA sn sc d s X E a tp hs next order cnt hnd c b y) (λw1 l=> ?_) (λw1 l ad=> ?_)).mono ?_
 ·exact qJ (h.pr.pN l) ⟨by omega,by omega⟩ (At.put (D:=DataW.map []) ⟨_,rfl⟩ (show WideAt.IsKeyLit (.int .i64 0) from trivial) _)
 ·have H:=hd.pN l;have ae:=h.pr.pN l;have aA:=h.lk.pN l;refine(Pw (R:=λr n mm o y=>Hi w G N B wp pp lp mt m p SA sn sc d s X E a tp hs next order cnt hnd c (gS r (.slice n mm o) (eW)) y) (ad.cell 0 rfl) (ae.eH.cell 0 rfl) (C:=nR 0 tp 0 (a+1016) 0) rfl M U V W Y 0 k arg ax (λw2 g=> ?_)).mono ?_
  ·refine(Li (aA.ext g) h.im (λaQ I=>gT _ I) ak T (by omega) (by omega) ha gl (H.ext g) ⟨h.low.1,h.low.2.1⟩ (by omega) (λz j=>by have:=ay z j;have:=Z z j;omega) (by omega) (by omega) (a:=a) (by simp) tp 0 (PQ:=λi af pl=>pl.map (kr i.gd)=hJ G (N+1) c (qa i.gd)/\∀aB∈pl,aB<i.gd.length) (λi af an hf t hn _ gO I=>Lx h.lk ak mi al T i af an hf t hn gO I)).mono ?_;rintro e w3 ⟨i,A,aC,af,an,r,ag,ah,D',n,o,pl,rfl,hf,aD,⟨aE,aF⟩,ao,ap,aq,O,aG,aH,P,am,aI,F⟩;rw[RR] at O;rw[aD] at O;obtain⟨o1,o2,o3,o4,o5,o6,o7⟩:=Lh h.lk.up mi al T hf (f:=N+1) (by omega) (pl:=pl) aF aE O ap;have ar:hY i.os pl=eM (hJ G (N+1) c order):=by rw[Lv o2];exact congrArg eM o1
   rw[ar,iK] at P;have au:(eM (hJ G (N+1) c order)).length=(hJ G (N+1) c order).length:=fv _;have ai:=P.mem.ints.mem (p:=(Value.slice n (eM (hJ G (N+1) c order)).length o,eM (hJ G (N+1) c order))) (by simp);have aJ:=(l.lw aw).trans ((Lw.fg g).trans (F.lw (fJ _)));have aK:=((l.b0.mono (L':=Ab) (M':=[m]) (by decide) (by simp)).ext g).trans (M':=[m]) (fi.mono F λav J=>⟨eX _,J.2.imp (λ⟨u,K,fr,q1,q2⟩=>⟨u,K,fr,q1,(by decide:∀L∈rm,L∈Ab) K q2⟩) id⟩) (λav J=>.inl J);have aL:L7 w w3:=λaj u v=>by have h5:=g.eH (l.eH v);exact F.eH h5 (by decide) (by simp[iD h5 (H.ext g).map])
   have aR:i.gd.length<=13:=by
    have h1:=P.iO;have h2:A.gd.length=i.gd.length:=by
     have:=congrArg (λL=>L.1.length) O;simp only at this;rw[this];have t:∀(Q:fe) (b:List Ob) (k:Nat),(pH b k Q).1.length=b.length:=by
      intro Q;induction Q with
      |nil=>intro b k;rfl
      |cons id Q ih=>intro b k;have:=ih (rP (b,k) id).1 (k+1);simp only[pH,nK,rP,gW] at this ⊢;exact this
     exact t _ _ _
    have h3:=h.lk.n12;have h4:A.gd.length=A.os.length:=by simp[LS.gd]
    omega
   have aS:pl.length<=13:=by
    have:=iM (m:=i.os.length) pl ao.1 ao.2.1;have:i.gd.length=i.os.length:=by simp[LS.gd]
    omega
   refine⟨(r:Nat),n,(hJ G (N+1) c order).length,o, ?_,⟨r,n,o,A,aC,ag,ah,rfl,mT.fC (by rw[au] at ai;exact ai) (Rd.fC ai), ?_, ?_,o4,aL,aK,aJ⟩, ?_⟩
   ·rw[ar,au]
   ·refine⟨?_, ?_,⟨D',nn+1,by omega,am⟩,P.OZ (tm ..) (λaM S=>(aq aM S).mono λ_ h=>gT _ h),aq,h.low,⟨h.ne.1,λz j=> ?_⟩, ?_, ?_⟩
    ·have e:(((d+1:Nat)):Int)=(d:Int)+1:=by omega
     rw[e];exact F.eH (g.eH ad) (by decide) (by simp[iD (g.eH ad) (H.ext g).map])
    ·exact(ae.ext g).pN F (by decide) (by simp[iD (ae.ext g).eH (H.ext g).map]) (by simp;exact λe=>h.ne.1 e.symm)
    ·exact aI z j
    ·rw[aH];exact h.iQ
    ·refine⟨by omega,by omega,by omega,by omega,by omega,λz j=> ?_⟩;rcases ap with⟨aT,hy,_,_,rfl,_⟩|⟨_,_,rfl,_⟩
     ·obtain⟨aN,hz,rfl⟩:=jd.1 j;have:=Z aN hz;split
      ·simp only[Hn.more];omega
      ·omega
     ·rcases gu.1 j with j|j
      ·have:=Z z j;omega
      ·rw[fF.1 j];simp only;omega
   ·rw[aG];exact o3
   ·exact λaj u v=>F.eH v (by decide) (by simp[iD v (H.ext g).map])
  ·rintro e w2 ⟨b,y,rfl,t,S,⟨r,n,mm,o,rfl,I⟩,hk,x⟩;exact⟨_,y,rfl,t,S,I,hk,x⟩
 ·rintro e w' ⟨b,y,rfl,t,S,⟨r,n,o,A,E2,ag,ah,q1,q2,q3,q4,q5,qk,q6,q7⟩,x⟩;exact⟨b,rfl,t,r,n,o,A,E2,ag,ah,q1,q2.ch x,q3.ch x (by decide),q4,q5,λaj u v=>fi.eH x (qk aj u v) (λhs=>by have:=v.lt;have:=hs.1;omega),q6.trans (M':=[]) (fi.mono x λav J=>⟨eX _,J.2.imp (λ⟨u,K,fr,r1,r2⟩=>⟨u,K,fr,r1,(by decide:∀L∈[71],L∈Ab) K r2⟩) id⟩) (by simp),q7.trans (x.lw az)⟩
end
end
section
section
variable {w w':eI} {G:Nat->fe} {N B wp pp lp mt m p sn sc d:Nat} {SA:fE} {s:LS} {X E:List (eS×fS)} {a tp:Int} {hs:List Hn} {next:Nat} {order:fe} {cnt hnd:Nat->Nat}
def j2(order stay:fe):fS:=(order.reverse.filter λx=>decide (x∉stay)).map λx=> -((x:Nat):Int)
theorem fo.PC{w:eI}{B:Nat}{a:List (eS×fS)}(h:fo B w (a++kB)):fo B w (a++(.slice none 0 0,[])::kB):=
 .of (λp hp=>by
   rcases gu.1 hp with hp|hp
   ·exact h.mem (iL _ hp)
   ·rcases fm.1 hp with rfl|hp
    ·exact ji _ _ _ _
    ·exact h.mem (gT _ hp)) (by have:=h.nodup;simpa[iG,Value.ownBlock] using this)
def CZ(w:eI)(G:Nat->fe)(N B wp pp lp mt m p:Nat)(SA:fE)(sn sc d:Nat)(X E:List (eS×fS))(a tp:Int)(next:Nat)(order:fe)(cnt hnd:Nat->Nat)(k:Nat)(stay:fe)(l:fY)(w':eI):Prop:=
 ∃A c gA gc s2 hs2,l=gS 0 (.slice A (j2 order stay).length c) (.slice gA (j2 order stay).length gc)/\fo 0 w' (s2.rows++((.slice A (j2 order stay).length c,j2 order stay)::(X++E)))/\BP w' G N B wp pp lp mt m p SA sn sc (d+1) s2 X E a tp hs2 next/\
  kw G N s2.gd s2.last s2.inits (order.filter λx=>decide (x∈stay)) hs2 next (km cnt k (cnt k- 1)) hnd/\L7 w w'/\CH 0 Ab [m] w w'/\Lw B w w'
theorem FB{ids:fe}(h:∀a∈ids,(oG s.gd a).fQ≠0):j0 s ids=(ids.map λa=>(oG s.gd a).fQ).map λc=> -((c:Nat):Int):=by
 induction ids with
 |nil=>rfl
 |cons d ids f=>have b:=f λg i=>h g (gD _ i);simp only[j0,oz,hU] at b ⊢;rw[b];simp only[z',fG (h d (gM ..)),nO,j6]
theorem FC(r:∀k,∀c∈G k,k<c/\c<=N)(t:G 0=[])(mi:kw G N s.gd s.last s.inits order hs next cnt hnd){c:Nat}(u:1<=c)(v:c<=N)(w:cnt c=1){i out ids:fe}(x:∀d,d∈i↔∃y∈oE hs (hnd c),y.gL=d)(z:C' (zL (s.os.map OV.ob)) (St s.os i) out out)(A:ids.Perm (gw s.os ((List.range s.os).filter λb=> !decide (b∈out))))(B:ids.Pairwise λa l=>¬Hc (oi s ids) l a<0){f:fe}(C:∀g,g∈f↔∃d,(1<=d/\d<=N/\0<km cnt c 0 d)/\RT G d g):
 j0 s ids=j2 order f/\ids.length=(j2 order f).length/\kw G N (qG s.gd ids) s.last s.inits (order.filter λg=>decide (g∈f)) (oE hs (hnd c)) next (km cnt c 0) hnd:=by
 have m:s.gd.length=s.os.length:=by simp[LS.gd]
 obtain⟨D,n,E⟩:=Ha r t mi u v w (at_:=St s.os i) (out:=out) (ids:=ids) (λb o=>by
  have p:b<s.os.length:=by omega
  have F:s.gd[b]=s.os[b].ob:=by simp[LS.gd]
  simp only[St,jb,ll,p,ky,Da,gg p,Qg,jh,F];rw[x];exact Iff.rfl) (λb o=>by
  have:=(jb.1 o).1;rw[m];exact ll.1 this) z (by
  rw[m];have e:gw s.os ((List.range s.os.length).filter λb=> !decide (b∈out))=((List.range s.os.length).filter λb=> !decide (b∈out)).map λb=>(s.gd.map Ob.id).getD b 0:=by rw[show s.gd=s.os.map OV.ob from rfl,<-CV];rfl
  rw[<-e];exact A) (B.imp_of_mem fun {a l} H I h=>by
  rw[xB] at h;unfold oi at h;rw[fW H,fW I] at h;omega) C
 have j:=FB n;rw[D] at j;refine⟨j, ?_,E⟩;rw[show j2 order f=j0 s ids from j.symm,FB n];simp
theorem filter_all{p:Nat->Bool}(h:∀a∈r,p a=true):r.filter p=r:=JL.2 h
theorem PD(h:BP w G N B wp pp lp mt m p SA sn sc d s X E a tp hs next)(ap:B<=wp)(aq:G 0=[])(mi:kw G N s.gd s.last s.inits order hs next cnt hnd){f:Nat}(T:1<=f)(U:f<=N)(k:0<cnt f){J:fe}(P:∀V,V∈J↔∃Q,(1<=Q/\Q<=N/\0<km cnt f (cnt f- 1) Q)/\RT G Q V)(W Y:jw)(Z:fE)(bn bc:Nat)(arg:Int)(aJ:d<200):
 Calls prog 15 #[fw wp,fV (iE 12 W Y Z bn bc 0 (hnd f:Nat) arg).toArray] w λe w'=>∃l:fY,e=fH (fV l.toArray)/\l.length=13/\CZ w G N B wp pp lp mt m p SA sn sc d X E a tp next order cnt hnd f J l w':=by
 obtain⟨D,nn,aK,hd⟩:=h.hd;obtain⟨b1,b2,b3,b4,b5,b6⟩:=h.bd;obtain⟨V,hx,x1,_,x3,_⟩:=mi.IZ f T U k;refine(RQ h.wb (by omega) W Y Z bn bc 0 (hnd f:Nat) arg (C:=nR 0 tp 0 (a+1016) 0) rfl (se _ _ _ _ _) (R:=λl z=>CZ w G N B wp pp lp mt m p SA sn sc d X E a tp next order cnt hnd f J l z) (λw1 n=> ?_) (λw1 n ad=> ?_)).mono ?_
 ·exact qJ (h.pr.pN n) ⟨by omega,by omega⟩ (At.put (D:=DataW.map []) ⟨_,rfl⟩ (show WideAt.IsKeyLit (.int .i64 0) from trivial) _)
 ·have K:=hd.pN n;have ae:=h.pr.pN n;have ar:=h.lk.pN n;refine(Lt (R:=λo mm r t gm u z=>CZ w G N B wp pp lp mt m p SA sn sc d X E a tp next order cnt hnd f J (gS 0 (.slice o mm r) (.slice t gm u)) z) (ad.cell 0 rfl) (ae.eH.cell 0 rfl) (C:=nR 0 tp 0 (a+1016) 0) rfl W Y Z bn bc 0 (hnd f:Nat) arg (λA g=> ?_)).mono ?_
  ·have ai:=Lz (ar.ext g) (K.ext g) ⟨h.low.1,h.low.2.1⟩ h.ne.2 (by omega) (λi j=>(h.im i j).mono λ_ h=>gT _ h) (λi j=>by have:=mi.sh.rM i.ob (fy.2 ⟨i,j,rfl⟩);have h2:i.ob.gE=i.gE:=rfl;omega) hx (by omega) (a:=a) (by simp) tp 0
   rw[x1] at ai;have au:(((d+1:Nat)):Int)=(d:Int)+1:=by omega
   have aj:∀b,CH B rm [m] A b->Lw B w b:=λb c=>(n.lw ap).trans ((Lw.fg g).trans (c.lw (fJ _)));have ak:∀b,CH B rm [m] A b->CH 0 Ab [m] w b:=λb c=>((n.b0.mono (L':=Ab) (M':=[m]) (by decide) (by simp)).ext g).trans (M':=[m]) (fi.mono c λal L=>⟨eX _,L.2.imp (λ⟨v,M,fr,q1,O⟩=>⟨v,M,fr,q1,(by decide:∀af∈rm,af∈Ab) M O⟩) id⟩) (λal L=>.inl L);have am:∀b,CH B rm [m] A b->L7 w b:=λb c ag v x=>by have h5:=g.eH (n.eH x);exact c.eH h5 (by decide) (by simp[iD h5 (K.ext g).map])
   have F:∀b,CH B rm [m] A b->eQ b wp 83 (tu pp SA sn sc ((d+1:Nat):Int))/\z6 b pp lp mt 1 (Lr tp a)/\L7 A b:=λb c=>⟨by rw[au];exact c.eH (g.eH ad) (by decide) (by simp[iD (g.eH ad) (K.ext g).map]),(ae.ext g).pN c (by decide) (by simp[iD (ae.ext g).eH (K.ext g).map]) (by simp;exact λe=>h.ne.1 e.symm),λag v x=>c.eH x (by decide) (by simp[iD x (K.ext g).map])⟩
   refine ai.mono ?_;rintro e b (⟨hm,rfl,D',ah,H,c⟩|⟨hm,o,r,t,u,out,aL,aM,S,D',rfl,av,aw,ax,ay,az,aA,aB,aC,aD,H,ah,aE,c⟩)
   ·have an:(j2 order J)=[]:=by unfold j2;rw[List.filter_eq_nil_iff.2 λI y=> ?_,jt];have:=mi.E4 (by omega) P I (List.mem_reverse.1 y);simp[this]
    have aF:=filter_all λI y=>jU (mi.E4 (by omega) P I y);refine⟨none,0,0,none,0,0,rfl,⟨none,0,none,0,s,mW Hn.nS hs (hnd f),by rw[an];rfl,(by rw[an];exact H.mem.ints.PC), ?_, ?_,am b c,ak b c,aj b c⟩,(F b c).2.2⟩
    ·refine⟨(F b c).1,(F b c).2.1,⟨D',nn+1,by omega,ah⟩,H,h.im,h.low,h.ne,h.iQ, ?_⟩;refine⟨by omega,by omega,by omega,by omega,by omega,λI y=> ?_⟩;obtain⟨aG,hz,rfl⟩:=jd.1 y;have:=b6 aG hz;split
     ·simp only[Hn.nS];omega
     ·omega
    ·rw[aF];exact mi.Rv T U (by omega)
   ·have aH:cnt f=1:=by omega
    rw[show cnt f- 1=0 by omega] at P;obtain⟨e1,e2,e3⟩:=FC h.lk.up aq mi T U aH av aw ax ay P;rw[e1,e2] at H;rw[e1,e2];refine⟨o,_,r,t,_,u,rfl,⟨o,r,t,u,S,oE hs (hnd f),rfl,H.mem.ints.sub ((DM _).append (List.Sublist.cons_cons _ (tm _ _))), ?_, ?_,am b c,ak b c,aj b c⟩,(F b c).2.2⟩
    ·have ao:∀i∈S.os,lW i.im (ii G i.fQ) E:=λi j=>by obtain⟨q,hq,q1,O⟩:=aD i j;rw[q1,O];exact h.im q hq
     refine⟨(F b c).1,(F b c).2.1,⟨D',nn+1,by omega,ah⟩,H.OZ ((tm ..).trans (tm ..)) (λi j=>(ao i j).mono λ_ h=>gT _ h),ao,h.low,⟨h.ne.1,aE⟩,by rw[aC];exact h.iQ, ?_⟩;refine⟨by omega,by omega,by omega,by omega,by omega,λI y=> ?_⟩;have:=b6 I (jb.1 y).1;omega
    ·rw[show cnt f- 1=0 by omega,az,aA,aB];exact e3
  ·rintro e A ⟨l,z,rfl,hl,j,⟨o,mm,r,t,gm,u,rfl,hr⟩,hk,k⟩;exact⟨_,z,rfl,hl,j,hr,hk,k⟩
 ·rintro e w' ⟨l,z,rfl,hl,j,⟨o,r,t,u,S,aI,q1,O,q3,q4,qk,q6,q7⟩,k⟩;exact⟨l,rfl,hl,o,r,t,u,S,aI,q1,O.ch k,q3.ch k (by decide),q4,λag v x=>fi.eH k (qk ag v x) (λhs=>by have:=x.lt;have:=hs.1;omega),q6.trans (M':=[]) (fi.mono k λal L=>⟨eX _,L.2.imp (λ⟨v,M,fr,r1,r2⟩=>⟨v,M,fr,r1,(by decide:∀af∈[71],af∈Ab) M r2⟩) id⟩) (by simp),q7.trans (k.lw (eY h.low.1 (lN hd.eH.lt)))⟩
end
end
section
def PE:mB:=83::71::Fw
theorem kw.start(G:Nat->fe)(N:Nat)(a:G 0=[])(b:Nat->Nat):kw G N [⟨1,0,[],1,true⟩] 1 1 [] [⟨1,1,1⟩] 1 (λ_=>0) b:=by
 refine⟨⟨⟨[],rfl⟩,by simp,by simp,by simp,by simp,λf c=> ?_,by simp,by simp,⟨[],by simp⟩⟩,by simp,by simp,by simp,by simp,λg _ _ h=>absurd h (tr _),λi d h=> ?_,by simp⟩
 ·rw[fF.1 c];unfold jM;simp only[a];exact .nil
 ·rw[fF.1 d] at h;exact absurd rfl h
section
variable {w w':eI} {G:Nat->fe} {N B wp pp lp mt m p sn sc d:Nat} {SA:fE} {fL:List lM} {s:LS} {X X' E:List (eS×fS)} {a tp:Int} {hs:List Hn} {next:Nat}
theorem zw.ok(h:zw w B pp lp mt m p SA fL X s)(c:uH G N s.D)(d:∀n,∀k∈G n,n<k/\k<=N)(f:N<=12)(g:∀n,(G n).length<=8):gG w G N B p s X []:=by obtain⟨i,a,b,j,o,r,l⟩:=h.P8;refine⟨h.lk,by simp[a], ?_,c,by simp[LS.gd,a],by simp[LS.gd,a],d,f,g,by omega,by omega,by rw[b];simp,by rw[b];simp,by rw[a];simp,by rw[j];simp,by rw[l];simp⟩;rw[i,a];exact⟨⟨.nil,by simp⟩,by simp,by simp,by simp,by simp,by simp,by simp⟩
theorem gG.PF(h:gG w G N B p s (X++E) kM)(g:∀b∈s.os,lW b.im (ii G b.fQ) E){i:Nat}(c:CH i [3] [] w w')(j:fo 0 w' (s.rows++(X'++E))):gG w' G N B p s (X'++E) kM:=by
 have e:s.re s.oA s.oc s.os s.sA s.sc s.scope s.last s.inits s.lA s.lc s.gF=s:=rfl;have d:=h.mem.km c (by decide) (c.eH h.mem.eH) (c.own h.mem.row) j h.mem.ku;rw[e] at d;exact {h with mem:=d,each:=λb f=>
  have a:=(h.each b f).ch c (by decide)
  ⟨a.fQ,a.im,a.tZ,(g b f).mono λ_ h=>gT _ h,a.id,a.iO,a.ms⟩}
theorem BP.PF(h:BP w G N B wp pp lp mt m p SA sn sc d s X E a tp hs next){c:Nat}(b:CH c [3] [] w w')(f:fo 0 w' (s.rows++(X'++E))):BP w' G N B wp pp lp mt m p SA sn sc d s X' E a tp hs next:=by
 obtain⟨g,i,j,hd⟩:=h.hd;exact {h with
  wb:=b.eH h.wb
  pr:=h.pr.pN b
  hd:=⟨g,i,j,hd.pN b⟩
  lk:=h.lk.PF h.im b f}
def PG(w:eI)(G:Nat->fe)(N B wp pp lp mt m p:Nat)(SA:fE)(sn sc d:Nat)(X:List (eS×fS))(e:Ending)(w':eI):Prop:=
 ∃A c s2 E a tp b,e=fH (fV (gS 0 (.slice A 0 c) (eW)).toArray)/\BP w' G N B wp pp lp mt m p SA sn sc (d+1) s2 X E a tp [⟨1,1,1⟩] 1/\kw G N s2.gd s2.last s2.inits [] [⟨1,1,1⟩] 1 (λ_=>0) (λ_=>0)/\
  s2.tl.iQ=[(0,tp,b)]/\LZ s2.tl s2.fb/\s2.tl.m3≠b/\(∀x∈s2.maps,x≠mt)/\s2.scope=[1]/\s2.gd=[⟨1,0,[],1,true⟩]/\(∀o∈s2.os,o.base<=4294967296)/\Kp w w'/\CH 0 PE [m,mt] w w'/\Lw B w w'
theorem Ja(h:zw w B pp lp mt m p SA fL X s)(ae:B<=wp)(af:eQ w wp 83 (tu pp SA sn sc (d:Int)))(hd:d<200)(hf:uH G N s.D)(ag:∀l,∀k∈G l,l<k/\k<=N)(hN:N<=12)(h8:∀l,(G l).length<=8)(I:G 0=[]){A:jw}(ha:vW 0 A)(J:jw)(K:fE)(L M:Nat)(O l arg:Int):
 Calls prog 15 #[fw wp,fV (iE 8 A J K L M O l arg).toArray] w (PG w G N B wp pp lp mt m p SA sn sc d X):=by
 have n:((d:Int)+1)=((d+1:Nat):Int):=by omega
 refine(RP af (by omega) A J K L M O l arg (R:=λC x=>∀w',CH w [71] [] x w'->PG w G N B wp pp lp mt m p SA sn sc d X (fH (fV C.toArray)) w') (λD y E=> ?_)).mono ?_
 ·have g:=h.ch y (by decide);have hb:=Ls (g.ok hf ag hN h8) ⟨h.P8.2.1,h.P8.2.2.2.2.1,h.P8.2.2.2.2.2.1,h.P8.2.2.2.2.2.2⟩ I g.lb g.lm g.pr h.low h.ne E (by rfl) ha;refine hb.mono ?_;rintro e x ⟨ah,ai,z,aj,a,tp,ak,al,rfl,i,am,F,an,ao,ap,aq,P,ar,au,Q,S,av,o⟩;have T:∀{U:Nat} {b:ik} {j:kx},eQ D U b j->U∉[m,mt]:=λV W=>by
   simp only[fm,gp,gq] at W;rcases W with rfl|rfl
   ·exact iD V g.lm rfl
   ·exact iD V g.pr.map rfl
  have Y:∀b,∀k∈[m,mt],¬jT w b k:=λb k i Z=>by
   simp only[fm,gp,gq] at i;rcases i with rfl|rfl
   ·exact pB h.lm b Z
   ·exact pB h.pr.map b Z
  have h3:=(y.b0.mono (L':=PE) (M':=[m,mt]) (by decide) (by simp)).trans (fi.mono o λt c=>⟨eX _,c.2.imp (λ⟨j,b,u,q1,v⟩=>⟨j,b,u,q1,(by decide:∀H∈Fw,H∈PE) b v⟩) id⟩:CH 0 PE [m,mt] D x) (λt c=>.inl c);have h5:=(y.b0.mono (L':=83::Fw) (M':=[m,mt]) (by decide) (by simp)).trans (fi.mono o λt c=>⟨eX _,c.2.imp (λ⟨j,b,u,q1,v⟩=>⟨j,b,u,q1,gD _ v⟩) id⟩:CH 0 (83::Fw) [m,mt] D x) (λt c=>.inl c);refine⟨_,rfl,by simp[gS],by simp[gS,Value.oneCell'],λw' r=> ?_,λj hg=>o.eH hg (by decide) (T hg)⟩;refine⟨ah,ai,z,aj,a,tp,ak,rfl,⟨?_,aq.pN r,⟨al,1,by omega,ap.pN r⟩,i.pN r,am,h.low,⟨h.ne,λf n=>(Q f n).1⟩,by rw[P];rfl,⟨by omega,by omega,by omega,by omega,by omega,by simp⟩⟩,by rw[F,an,ao];exact kw.start G N I _,P,ar,au,λf n=>(Q f n).2, ?_,F,av, ?_, ?_, ?_⟩
  ·rw[<-n];exact r.eH (o.eH E (by decide) (T E))
  ·have g:∀f∈z.scope,f=1:=λf n=>by obtain⟨ad,ho,e,_⟩:=i.J6 f n;have h2:ad.ob∈z.gd:=fy.2 ⟨ad,ho,rfl⟩;rw[F] at h2;rw[<-e];exact congrArg Ob.id (fF.1 h2)
   have hn:=i.LX;match hs:z.scope with
   |[]=>rw[hs] at S;cases S
   |[f]=>rw[g f (by rw[hs];simp)]
   |f::aw::C=>have e1:=g f (by rw[hs];simp);have e2:=g aw (by rw[hs];simp);rw[hs,e1,e2] at hn;simp at hn
  ·exact I' h5 r (by decide) (λk i=>⟨Y _ k i,Y _ k i⟩)
  ·exact h3.trans (M':=[]) (fi.mono r λt c=>⟨eX _,c.2.imp (λ⟨j,b,u,q1,v⟩=>⟨j,b,u,q1,(by decide:∀H∈[71],H∈PE) b v⟩) id⟩) (by simp)
  ·exact(y.lw ae).trans (Lw.trans (fi.mono o λt c=>c.1) (r.lw (eY h.low.1 (lN h.lb.lt))))
 ·rintro e w' ⟨C,wm,rfl,_,_,hr,o⟩;exact hr w' o
end
end
section
def lj(f:Nat->Nat):fe:=(List.range 13).map f
theorem nI(a:Nat->Nat):(eM (lj a)).length=13:=by simp[lj,eM]
theorem rNa(a:Nat->Nat){n:Nat}(h:n<13):(ints (eM (lj a)))[n]? =some (eE (a n:Nat)):=by simp[lj,eM,ints,vy,Uu h]
theorem zz(a:Nat->Nat){n:Nat}(h:n<13)(b:Nat):ints (eM (lj (km a n b)))=(ints (eM (lj a))).set n (eE (b:Nat)):=by
 refine Dv λc=> ?_;by_cases d:c<13
 ·rw[rNa _ d,List.getElem?_set,rNa _ d];by_cases e:n=c
  ·subst e;simp[km,lj,eM,ints,h]
  ·rw[fG e];simp only[km];rw[fG (nW e)]
 ·rw[tB (by simp[lj,eM,ints];omega),tB (by simp[lj,eM,ints];omega)]
def wu(es:List Ed)(OA:fE)(oc:Nat)(order:fe)(cg hg:Nat)(cnt hnd:Nat->Nat):List (eS×fS):=
 (.slice OA order oc,eM order)::(fN cg 13 13,eM (lj cnt))::(fN hg 13 13,eM (lj hnd))::es.map λe=>(e.cell,eM e.l)
def PH(wp:Nat)(SA:fE)(sn sc:Nat)(NA:fE)(en nc:Nat)(O:eS)(cg hg:Nat):fY:=[fw wp,.slice SA sn sc,.slice NA en nc,O,fN cg 13 13,fN hg 13 13]
structure P'(w:eI)(es:List Ed)(SA:fE)(fL:List lM)(NA:fE):Prop where
 ri:yR es
 n13:2<=es.length/\es.length<=13
 g0:mQ es 0=[]
 out:mT w 23 NA (es.map Ed.cell)
 sp:mT w 51 SA (fO lM.eL fL)
 sn:fL.length=es.length
 nm:∀k (h:k<fL.length),1<=k->fL[k].name=nB k
structure L8 where
 B:Nat
 xp:Nat
 wp:Nat
 pp:Nat
 lp:Nat
 mt:Nat
 m:Nat
 p:Nat
 SA:fE
 sc:Nat
 NA:fE
 nc:Nat
 cg:Nat
 hg:Nat
 a:Int
 tp:Int
 es:List Ed
 fL:List lM
structure sj(w:eI)(x:L8)(d:Nat)(OA:fE)(oc:Nat)(order:fe)(cnt hnd:Nat->Nat)(o1:fe)(c1 h1:Nat->Nat)(s:LS)(E:List (eS×fS))(hs:List Hn)(next:Nat):Prop where
 c:P' w x.es x.SA x.fL x.NA
 eH:eQ w x.xp 31 (PH x.wp x.SA x.fL x.sc x.NA x.es x.nc (.slice OA order oc) x.cg x.hg).toArray
 wb:BP w (mQ x.es) (x.es.length- 1) x.B x.wp x.pp x.lp x.mt x.m x.p x.SA x.fL x.sc d s (wu x.es OA oc order x.cg x.hg cnt hnd) E x.a x.tp hs next
 mi:kw (mQ x.es) (x.es.length- 1) s.gd s.last s.inits o1 hs next c1 h1
 lo:x.B<=x.wp/\x.B<=x.xp/\x.B<=x.cg/\x.B<=x.hg
 ol:∀k,(Value.slice OA order oc).ownBlock=some k->x.B<=k
section
variable {w w':eI} {es:List Ed} {SA NA:fE} {fL:List lM} {x:L8} {d:Nat} {OA:fE} {oc:Nat} {order o1:fe} {cnt hnd c1 h1:Nat->Nat} {s:LS} {E:List (eS×fS)} {hs:List Hn} {next:Nat}
theorem P'.ch(h:P' w es SA fL NA){B0:Nat}{L:mB}{M:fe}(b:CH B0 L M w w')(h1:23∉L:=by decide)(c:51∉L:=by decide)(hM:∀m∈M,∀d,¬jT w d m:=by simp):P' w' es SA fL NA:=
 {h with out:=h.out.ch b h1 (λm a=>hM m a _),sp:=h.sp.ch b c (λm a=>hM m a _)}
theorem P'.ext(h:P' w es SA fL NA)(a:eF w w'):P' w' es SA fL NA:={h with out:=h.out.ext a,sp:=h.sp.ext a}
theorem sj.ext(h:sj w x d OA oc order cnt hnd o1 c1 h1 s E hs next)(a:eF w w'):sj w' x d OA oc order cnt hnd o1 c1 h1 s E hs next:=
 {h with c:=h.c.ext a,eH:=a.eH h.eH,wb:=h.wb.ch (B0:=0) (L:=[]) (CH.fg a) (by simp)}
def VZ:mB:=31::23::51::PB
theorem sj.ch(h:sj w x d OA oc order cnt hnd o1 c1 h1 s E hs next){B0:Nat}{L:mB}(b:CH B0 L [] w w')(a:∀t∈VZ,t∉L):sj w' x d OA oc order cnt hnd o1 c1 h1 s E hs next:=
 {h with c:=h.c.ch b (a _ (by decide)) (a _ (by decide)),eH:=b.eH h.eH (a _ (by decide)),wb:=h.wb.ch b (λt f=>a t (gD _ (gD _ (gD _ f))))}
theorem sj.rows(h:sj w x d OA oc order cnt hnd o1 c1 h1 s E hs next):fo 0 w (s.rows++(wu x.es OA oc order x.cg x.hg cnt hnd++E)):=h.wb.lk.mem.ints
theorem sj.row(h:sj w x d OA oc order cnt hnd o1 c1 h1 s E hs next){v:eS}{l:fS}(a:(v,l)∈wu x.es OA oc order x.cg x.hg cnt hnd):w.ownsRow 0 3 1 v l (ints l):=
 h.rows.mem (gT _ (iL _ a))
theorem sj.Wg(h:sj w x d OA oc order cnt hnd o1 c1 h1 s E hs next):nF w x.NA x.es:=
 ⟨h.c.out.rd,λe a=>by have:=h.row (v:=e.cell) (l:=eM e.l) (by unfold wu;exact gD _ (gD _ (gD _ (fy.2 ⟨e,a,rfl⟩))));exact Rd.fC (by simpa[Ed.cell,eM] using this)⟩
theorem sj.U1(h:sj w x d OA oc order cnt hnd o1 c1 h1 s E hs next):Rd w OA (ints (eM order)):=
 Rd.fC (cap:=oc) (by simpa[eM] using h.row (v:=.slice OA order.length oc) (l:=eM order) (gM ..))
theorem C0{w:eI}{g c n:Nat}{i:Nat}(h:w.ownsRow 0 3 1 (fN g n c) n l)(e:l[i]? =some y):w.cell? (eJ g i)=some y:=by obtain⟨d,f,a,b⟩:=Rd.fC h i (jS.1 e).1;simp only[fd,ny,gP] at a;obtain⟨rfl,rfl⟩:=a;rw[lH,<-gg,e] at b;exact b
theorem sj.BQ(h:sj w x d OA oc order cnt hnd o1 c1 h1 s E hs next):w.ownsRow 0 3 1 (fN x.cg 13 13) 13 (ints (eM (lj cnt))):=by have:=h.row (v:=fN x.cg 13 13) (l:=eM (lj cnt)) (by simp[wu]);rwa [nI] at this
theorem sj.BR(h:sj w x d OA oc order cnt hnd o1 c1 h1 s E hs next):w.ownsRow 0 3 1 (fN x.hg 13 13) 13 (ints (eM (lj hnd))):=by have:=h.row (v:=fN x.hg 13 13) (l:=eM (lj hnd)) (by simp[wu]);rwa [nI] at this
theorem sj.RU(h:sj w x d OA oc order cnt hnd o1 c1 h1 s E hs next){n:Nat}(a:n<13):w.cell? (eJ x.cg n)=some (eE (cnt n:Nat)):=C0 h.BQ (rNa _ a)
theorem sj.TY(h:sj w x d OA oc order cnt hnd o1 c1 h1 s E hs next){n:Nat}(a:n<13):w.cell? (eJ x.hg n)=some (eE (hnd n:Nat)):=C0 h.BR (rNa _ a)
theorem P'.name(h:P' w es SA fL NA){n:Nat}(h1:1<=n)(i:n<es.length):∃b a,SA=some (eJ b a)/\b<w.heap.size/\w.cell? (eJ b (a+n*9))=some (eV (fI (nB n))):=by
 have d:n<fL.length:=by rw[h.sn];exact i
 have g:(fO lM.eL fL)[n*9]? =some (eV (fI (nB n))):=by have:=iI (f:=lM.eL) (k:=9) (λ_=>rfl) fL n 0 d (by omega);rw[<-m5 (n*9),this,<-h.nm n d h1];rfl
 obtain⟨b,a,j,c⟩:=h.sp.rd (n*9) (jS.1 g).1;rw[<-gg,g] at c;exact⟨b,a,j,js c,c⟩
theorem sj.re(h:sj w x d OA oc order cnt hnd o1 c1 h1 s E hs next){a:fE}{b:Nat}{c:fe}{g i:Nat->Nat}{f w':eI}{B0 B1:Nat}(j:CH B0 [3] [] w f)(m:fo 0 f (s.rows++(wu x.es a b c x.cg x.hg g i++E)))(l:CH B1 [31] [] f w')(n:eQ w' x.xp 31 (PH x.wp x.SA x.fL x.sc x.NA x.es x.nc (.slice a c b) x.cg x.hg).toArray)(o:∀k,(Value.slice a c b).ownBlock=some k->x.B<=k):
 sj w' x d a b c g i o1 c1 h1 s E hs next:=
 ⟨(h.c.ch j).ch l,n,(h.wb.PF j m).ch l (by decide),h.mi,h.lo,o⟩
theorem Hj(a b c:List (eS×fS))(d:eS×fS):(a++((d::b)++c)).Perm (d::(a++(b++c))):=Fc
theorem fo.PI{a b:List (eS×fS)}{g n c i:Nat}{l l':fS}{u:Int}(h:fo 0 w (a++(.slice (some ⟨g,0,none⟩) n c,l)::b))(d:l.length=n)(o:i<n)(e:ints l'=(ints l).set i (.int .i64 u)):fo 0 (w.setCell ⟨g,i,none⟩ (.int .i64 u)) (a++(.slice (some ⟨g,0,none⟩) n c,l')::b):=by
 have f:=h.mem (p:=(fN g n c,l)) (by simp);have j:l'.length=n:=by have:=congrArg List.length e;simpa[ints,d] using this
 rw[d] at f;obtain⟨h1,k⟩:=f.stored i (eE u);exact h.swap (v:=fN g n c) (v':=fN g n c) (by rw[j,e];exact h1) k (λr m=>.inl m)
end
end
end
section
open Go.RowKit Pl
theorem mT.new{w:eI}{g:Nat}{xs:fY}(h:eQ w g f xs.toArray):mT w f (some (eJ g 0)) xs:=⟨h.rd,λ_ a b e=>by simp only[fd,ny,gP] at e;obtain⟨rfl,rfl⟩:=e;exact⟨_,f,_,h,by simp⟩⟩
theorem FD(a:eI):Calls prog 10 #[eV ⟨#[]⟩,eE 1,eV (fI [102]),eE 9] a λe j=>∃A k,e=fH (fV (kP k 1 A 3).eL.toArray)/\oC j (kP k 1 A 3)/\eF a j:=by
 have f:∀b c d,eQ (((a.alloc (eN b 51)).alloc (eN c 124)).alloc (eN d 127)) a 51 b:=λb c d=>((eF.alloc _ _).trans (eF.alloc _ _)).eH (eQ.new _ _ _);have g:∀b c d,eQ (((a.alloc (eN b 51)).alloc (eN c 124)).alloc (eN d 127)) (a.heap.size+1) 124 c:=λb c d=>by have:=(eF.alloc _ (eN d 127)).eH (eQ.new (a.alloc (eN b 51)) 124 c);rwa [fM] at this
 have i:∀b c d,eQ (((a.alloc (eN b 51)).alloc (eN c 124)).alloc (eN d 127)) (a.heap.size+1+1) 127 d:=λb c d=>by have:=eQ.new ((a.alloc (eN b 51)).alloc (eN c 124)) 127 d;rwa [fM,fM] at this
 have m:=eD (And.intro f (And.intro g i));clear f g i;go_in;go_wp2;obtain⟨f,g,i⟩:=m.out;refine iA (iN rfl rfl ((f _ _ _).fK (P:=prog) 51 _ underlying51 rfl (by kernel_rfl))) rfl ⟨some (eJ (a.heap.size+1) 0),some (eJ (a.heap.size+1+1) 0),rfl,⟨mT.nil _ _ _,mT.new (i _ _ _),λn l=> ?_,mT.nil _ _ _,mT.nil _ _ _⟩,((eF.alloc _ _).trans (eF.alloc _ _)).trans (eF.alloc _ _)⟩;simp only[kP,fm,gp,gq] at l;subst l;exact mT.new (g _ _ _)
end
section
open Go.RowKit Go.Maps
theorem Hk{R:eI->Prop}(V:w.cell? ⟨k,0,none⟩=some (.pointer (some ⟨m,0,none⟩)))(W:w.cell? ⟨m,0,none⟩=some (.pointer (some ⟨i,0,none⟩)))(X:w.cell? ⟨i,0,none⟩=some (.pointer (some ⟨j,0,none⟩)))(o t:jw)(u:fE)(x y:Nat)(z n arg:Int){id at_:Int}{S:fY}(B:S.length=9)(M:∀ak∈S,ak.oneCell'=true)(al:S[3]? =some (.int .i64 1))(gO:(id==0)=false)(Y:∀d,eF w d->Calls prog 22 #[.pointer (some ⟨j,0,none⟩)] d λe p=>∃A c,e=.returned (.slice A 1 c)/\Rd p A (ints [id])/\eF d p)(Z:∀d,eF w d->∀A c,Rd d A (ints [id])->Calls prog 69 #[.pointer (some ⟨j,0,none⟩),.string o,.slice A 1 c] d λe p=>e=.returned (.tuple #[.int .i64 id,.int .i64 at_,.agg S.toArray,.int .i64 0])/\eF d p)(ad:∀d,eF w d->Calls prog 62 #[.pointer (some ⟨m,0,none⟩),.int .i64 n,.int .i64 at_,.int .i64 arg] d λe p=>e=.returned (.int .i64 0)/\R p):
 Calls prog 41 #[.pointer (some ⟨k,0,none⟩),.agg (iE 13 o t u x y z n arg).toArray] w λe p=>e=.returned (.int .i64 0)/\R p:=by
 have G:=eF.alloc w (eN #[eE 13,eV o,eV t,.slice u x y,eE z,eE n,eE arg] 63);have C:=eD G;have N:=eD (eQ.new w 63 #[eE 13,eV o,eV t,.slice u x y,eE z,eE n,eE arg]);have D:=eD (λd (a:eF (w.alloc (eN #[eE 13,eV o,eV t,.slice u x y,eE z,eE n,eE arg] 63)) d)=>Y d (G.trans a));have s:=eD (λd (a:eF (w.alloc (eN #[eE 13,eV o,eV t,.slice u x y,eE z,eE n,eE arg] 63)) d)=>Z d (G.trans a));have ae:=eD ad;have H:=eD (And.intro V (And.intro W X));unfold iE;clear Y Z ad V W X G;go_in;go_wp
 generalize w.alloc (eN #[eE 13,eV o,eV t,.slice u x y,eE z,eE n,eE arg] 63)=O at*;have P:=oO (C.cell H.1);have e1:=oO (C.cell H.2.1);have e2:=oO (C.cell H.2.2);have e3:=N.ew 1 (eV o) rfl;go_cut [5,6,7,8] (λs5 s6 s7 s8 wx=>∃g,s5=eE id/\s6=eE at_/\s7=fw g/\s8=eE 0/\eQ wx g 118 S.toArray/\eF O wx)
 case first=>
  refine iW [0,1,2,3,4,5,6,7,8,9,10,11,12,13,14,15,16,17,18,19,20,21] [22,29] (.jG (.e [22] (.jG (.e [23] (.q [24,25,26,27,28] (.e [29] (.q [30,31] (.e [32] (.q [33] .done)))))) (.e [29] (.e [23] (.q [24,25,26,27,28,30,31] (.e [32] (.q [33] .done))))))) (.e [29] (.e [22] (.e [23] (.q [24,25,26,27,28,30,31] (.e [32] (.q [33] .done))))))) ?_;repeat(go_big_quiet_step (fail))
  refine eO ?_;clear P e1 e2 e3;have I:=eD (eF.drew O);generalize World.drew O=J at*;refine fX ?_ ?_
  ·skip
   refine eZ ?_;go_wp
   refine(D _ I).mono ?_;rintro e K ⟨A,c,rfl,E,a⟩;have F:=eD (I.trans a);have l:=eD E;clear a E D;go_wp2;refine⟨⟨⟨_,F⟩,rfl⟩, ?_⟩;refine fX ?_ ?_
   ·skip
    refine eT ?_;go_wp
    refine(s _ F A c l).mono ?_;rintro e L ⟨rfl,a⟩;have af:=eD (F.trans a);clear a l s;go_wp2;refine iH ?_;refine fj ?_;repeat(go_big_quiet_step (fail))
    refine eO ?_;refine eZ ?_;go_wp
    have b:=eQ.new L 118 rf;have a:=eF.alloc L (eN rf 118);have ag:=af.size;have ah:=eD (af.trans a);generalize L.heap.size=g at*;generalize L.alloc (eN rf 118)=y3 at*;have f:=eD b;clear b a;refine⟨⟨⟨_,ah⟩,rfl⟩, ?_⟩;refine fj ?_;repeat(go_big_quiet_step (fail))
    refine eO ?_;refine eT ?_;go_wp2_with (refine eG rfl 118 (.tmp 7) (.tmp 36) rfl g rfl S rfl f M (by rw[B];kernel_rfl) (by rw[B];rfl) ?_)
    intro y4 b r;have am:=eD ((fi.grown r).ext ah);have f:=eD b;clear b r;go_wp
    refine iH ?_;refine fj ?_;repeat(go_big_quiet_step (fail))
    refine eO ?_;refine fP ?_;go_wp
    go_meet;exact⟨g,rfl,rfl,rfl,rfl,f,am⟩
   ·skip
    refine eZ ?_;go_wp
    have b:=eQ.new K 118 rf;have a:=eF.alloc K (eN rf 118);have ag:=F.size;have l:=eD (a.rd l);have Q:=eD (F.trans a);generalize K.heap.size=g at*;generalize K.alloc (eN rf 118)=y5 at*;have f:=eD b;clear b a;refine⟨⟨⟨_,Q⟩,rfl⟩, ?_⟩;refine eT ?_;go_wp
    refine(s _ Q A c l).mono ?_;rintro e y6 ⟨rfl,a⟩;have an:=eD (Q.trans a);have f:=eD (a.eH f);clear a l s;go_wp2;refine iH ?_;refine fj ?_;repeat(go_big_quiet_step (fail))
    refine eO ?_;refine eT ?_;go_wp2_with (refine eG rfl 118 (.tmp 7) (.tmp 36) rfl g rfl S rfl f M (by rw[B];kernel_rfl) (by rw[B];rfl) ?_)
    intro y7 b r;have ao:=eD ((fi.grown r).ext an);have f:=eD b;clear b r;go_wp
    refine iH ?_;refine fj ?_;repeat(go_big_quiet_step (fail))
    refine eO ?_;refine fP ?_;go_wp
    go_meet;exact⟨g,rfl,rfl,rfl,rfl,f,ao⟩
  ·skip
   refine eZ ?_;go_wp
   have b:=eQ.new J 118 rf;have a:=eF.alloc J (eN rf 118);have ag:=I.size;have T:=eD (I.trans a);generalize J.heap.size=g at*;generalize J.alloc (eN rf 118)=y8 at*;have f:=eD b;clear b a;refine⟨⟨⟨_,T⟩,rfl⟩, ?_⟩;refine eZ ?_;go_wp
   refine(D _ T).mono ?_;rintro e y9 ⟨A,c,rfl,E,a⟩;have U:=eD (T.trans a);have l:=eD E;have f:=eD (a.eH f);clear a E D;go_wp2;refine⟨⟨⟨_,U⟩,rfl⟩, ?_⟩;refine eT ?_;go_wp
   refine(s _ U A c l).mono ?_;rintro e ar ⟨rfl,a⟩;have ap:=eD (U.trans a);have f:=eD (a.eH f);clear a l s;go_wp2;refine iH ?_;refine fj ?_;repeat(go_big_quiet_step (fail))
   refine eO ?_;refine eT ?_;go_wp2_with (refine eG rfl 118 (.tmp 7) (.tmp 36) rfl g rfl S rfl f M (by rw[B];kernel_rfl) (by rw[B];rfl) ?_)
   intro au b r;have aq:=eD ((fi.grown r).ext ap);have f:=eD b;clear b r;go_wp
   refine iH ?_;refine fj ?_;repeat(go_big_quiet_step (fail))
   refine eO ?_;refine fP ?_;go_wp
   go_meet;exact⟨g,rfl,rfl,rfl,rfl,f,aq⟩
 case rest=>
 obtain⟨g,rfl,rfl,rfl,rfl,b,a⟩:=hcut;have d3:=b.cell 3 (v:=eE 1) (by rw[List.getElem?_toArray];exact al);have P:=oO ((C.trans a).cell H.1);have e5:=(a.eH N).ew 5 (eE n) rfl;have e6:=(a.eH N).ew 6 (eE arg) rfl;have ai:=eD (C.trans a);clear b a D s e1 e2 e3;go_wp
 refine iW [0,1,2,3,4,5,6,7,8] [] (.e [9] (.q [10] .done)) ?_;repeat(go_big_quiet_step (fail))
 refine eO ?_;clear P e5 e6 d3;have aj:=eD (ai.trans (eF.drew wc));generalize World.drew wc=v1 at*;refine eT ?_;go_wp
 refine(ae v1 aj).mono ?_;rintro e w9 ⟨rfl,hr⟩;have HR:=eD hr;clear hr ae aj ai;go_wp2;refine iH ?_;refine fj ?_;repeat(go_big_quiet_step (fail))
 refine eO ?_;refine fP ?_;go_wp
 go_ret;exact⟨rfl,HR⟩
section
structure L9(w:eI)(B wp pp lp mt m p:Nat)(SA:fE)(sn sc d n:Nat)(D:DataW eS)(s:LS)(ex:List (eS×fS)):Prop where
 wb:eQ w wp 83 (tu pp SA sn sc (d:Int))
 pr:z6 w pp lp mt n D
 hd:∃Dh nh hs next,rb w lp p m next true hs Dh nh
 lk:it w B p s ex
 low:B<=mt/\B<=lp/\n<=100
 os:s.os.length=1/\(s.os.map OV.id).Nodup/\(∀o∈s.os,o.eP.length<=1000/\o.group.length<=1000/\o.im.rh.n=0)/\s.scope.length<=1000
 rg:sB s.rs/\∀r∈s.rs,r.bs.length<=1048576/\oR r.iU 0
 th:Jd D s.tl/\(Go.intKeys D).length=2
 mx:(∀x∈s.maps,x≠mt)/\m≠mt
section
variable {w w':eI} {G:Nat->fe} {N B wp pp lp mt m p sn sc d n:Nat} {SA:fE} {s:LS} {X E ex:List (eS×fS)} {a tp:Int} {hs:List Hn} {next:Nat} {D:DataW eS}
theorem L9.ch(h:L9 w B wp pp lp mt m p SA sn sc d n D s ex){B0:Nat}{L:mB}(a:CH B0 L [] w w')(b:∀t∈PB,t∉L:=by decide):L9 w' B wp pp lp mt m p SA sn sc d n D s ex:=by
 obtain⟨c,f,hs,next,hd⟩:=h.hd;exact {h with
  wb:=a.eH h.wb (b _ (by decide)) (by simp)
  pr:=h.pr.pN a (b _ (by decide)) (by simp) (by simp)
  hd:=⟨c,f,hs,next,hd.pN a (b _ (by decide)) (by simp) (by simp)⟩
  lk:=h.lk.pN a (λt g=>b t ((by decide:∀t∈Fv,t∈PB) t g))}
def FM(D:DataW eS)(s:LS):Prop:=∃a0 tp0 b0 b2 pc tp sp stack m r m2 r2,D=(Lr tp0 a0).put (.int .i64 1) (.held (.agg (pK pc tp 0 sp 1 stack false).toArray))/\s.tl.iQ=[(0,tp0,b0),(1,tp,b2)]/\qF s.rs m r pc 9/\0<pc/\jK s.rs m2 r2 sp 8 1/\r2.cut sp 8=z8
theorem Rn{D:DataW eS}{k:TL}{tp tp2:Int}{b b2:Nat}(a:Go.intKeys D=[0,1])(l:Maps.size D<=10000)(m:∃pc tp c d f g i,At D (.int .i64 0) (.agg (pK pc tp c d f g i).toArray))(n:∃pc tp c d f g i,At D (.int .i64 1) (.agg (pK pc tp c d f g i).toArray))(o:k.iQ=[(0,tp,b),(1,tp2,b2)]):Jd D k/\(Go.intKeys D).length=2:=by
 have p:IsMap (Cj [((0:Int),tp,b)]):=⟨_,rfl⟩;refine⟨⟨l,by rw[a];simp,λid j=> ?_⟩,by rw[a];rfl⟩;rw[a] at j;simp only[fm,gp,gq] at j;rw[o];rcases j with rfl|rfl
 ·exact⟨by omega,by omega,m,tp,b,(At.put (D:=DataW.map []) ⟨_,rfl⟩ (show WideAt.IsKeyLit (.int .i64 0) from trivial) (Vr (0,tp,b))).other (by simp) _⟩
 ·exact⟨by omega,by omega,n,tp2,b2,At.put p (show WideAt.IsKeyLit (.int .i64 1) from trivial) _⟩
theorem Ho{rs:List Rg}(h:sB rs){b:Rg}(c:b∈rs){a n q:Int}(d:b.at_<=a)(f:1<=n)(g:n<=1048576)(i:a+n<=b.at_+b.bs.length)(j:oR b.iU q):∃m,jK rs m b a n q:=by obtain⟨m,k,rfl⟩:=gN c;exact⟨m,.of h (gg k) d f g i j⟩
theorem C4:∀{b:fe} {a:Nat},a∈b->a<=b.sum
 |[],a,h=>by cases h
 |c::d,a,h=>by
  rw[DK];rcases fm.1 h with rfl|h
  ·omega
  ·have:=C4 h;omega
theorem PU(h:BP w G N B wp pp lp mt m p SA sn sc d s X E a tp hs next)(aq:B<=wp)(ar:s.gd=[⟨1,0,[],1,true⟩])(ad:s.scope=[1])(au:∀g∈s.os,g.base<=4294967296){b:Nat}(F:s.tl.iQ=[(0,tp,b)])(av:LZ s.tl s.fb)(aw:s.tl.m3≠b)(al:∀ae∈s.maps,ae≠mt)(af:jw)(bA:fE)(bn bc:Nat)(th:Int)(aF:d<200):
 Calls prog 15 #[fw wp,fV (iE 13 (fI [102]) af bA bn bc th 1 0).toArray] w λe w'=>∃j D,e=fH (fV (gS 0 (eW) (eW)).toArray)/\L9 w' B wp pp lp mt m p SA sn sc (d+1) 2 D j (X++E)/\FM D j/\Kp w w'/\Lw B w w':=by
 obtain⟨Dh,nn,aG,hd⟩:=h.hd;obtain⟨g,v,am,ag⟩:∃g,s.os=[g]/\g.id=1/\g.fQ=0:=by have i:s.os.map OV.ob=[⟨1,0,[],1,true⟩]:=ar;have hl:=congrArg List.length i;simp only[gW,iw,jH] at hl;obtain⟨g,x⟩:=List.length_eq_one_iff.1 hl;rw[x] at i;simp only[hU,jt,zK,gP] at i;exact⟨g,x,congrArg Ob.id i,congrArg Ob.fQ i⟩
 have H:g∈s.os:=by rw[v];simp
 obtain⟨_,_,aH,aI⟩:=h.lk.rg.zM H (by omega);have ax:=au g H;have hE:((d:Int)+1)=((d+1:Nat):Int):=by omega
 refine(Pv h.wb (by omega) (fI [102]) af bA bn bc th 1 0 (R:=λI=>∀w',CH w [71] [] I w'->∃j D,L9 w' B wp pp lp mt m p SA sn sc (d+1) 2 D j (X++E)/\FM D j/\Kp w w'/\Lw B w w') (λw1 J ah=> ?_)).mono ?_
 ·have W:=hd.pN J;have Y:=h.pr.pN J;have l:=h.lk.pN J;refine(Hk (id:=((1:Nat):Int)) (at_:=g.base) (S:=(gR [102] 0 true 0 24).eL) (R:=λI=>(∀w',CH w [71] [] I w'->∃j D,L9 w' B wp pp lp mt m p SA sn sc (d+1) 2 D j (X++E)/\FM D j/\Kp w w'/\Lw B w w')/\∀o,eQ w1 (w.heap.size+1) 71 o->eQ I (w.heap.size+1) 71 o) (ah.cell 0 rfl) (Y.eH.cell 0 rfl) (W.eH.cell 0 rfl) (fI [102]) af bA bn bc th 1 0 rfl (by simp[iV.eL,gR,Value.oneCell']) rfl rfl (λw' f=> ?_) (λw' f A c y=> ?_) (λw' f=> ?_)).mono ?_
  ·refine(yX (l.mem.ext f) (by rw[ad];simp)).mono ?_;rintro e w2 ⟨aJ,rfl,x,Z⟩;rw[ad] at x;obtain⟨A,c,rfl⟩:=eR x;exact⟨A,c,rfl,Rd.fC x,Z⟩
  ·have:=T1 (l.mem.ext f) v ⟨by omega,ax⟩ (by have:=(l.each g H).tZ ag;rw[ag] at this;exact this.ext f) (λr t=>by
    have i:=(l.each g H).rows (r.cell,r.is) (by simp only[oX,fm,fy];exact .inr (.inr ⟨r,t,rfl⟩))
    exact f.rd (Rd.fC (l.mem.ints.mem (gT _ i)))) (A:=A) (c:=c) (by rw[am];exact y)
   rw[am] at this;exact this
  ·refine(wW (id:=1) (pc:=g.base) (l.mem.ext f) l.rg (by rw[v];simp) (by simp) (Y.ext f) (W.ext f).eH (by omega) ?_ (by rw[F];simp) (by rw[F];simp) (by omega) av (by rw[F];simpa using aw) (λf=>al mt f rfl) h.low.2.2).mono ?_
   ·exact(rfl:Maps.has (Lr tp a) (.int .i64 1)=false)
   ·rintro e w3 ⟨K,O,z,C,g3,c3,v',b2,rfl,aK,ay,az,P⟩;have Q:=h.lk.rg.Pe (by rw[v];simp) (by simp) K O z C g3 c3;have aA:(⟨mh s.rs+256,3,z,C,iF 1024⟩:Rg)∈nz (mX s.rs K O z C) (iq 64 (mX s.rs K O z C) 4096) 3 64 g3 c3:=by refine(nH _ _ _ _ _ _).mem_iff.2 (gD _ ?_);unfold mX;exact(nH _ _ _ _ _ _).mem_iff.2 (gM ..)
    generalize iq 64 (mX s.rs K O z C) 4096=tp2 at*;generalize nz (mX s.rs K O z C) tp2 3 64 g3 c3=an at*;generalize mh s.rs+256=u at*;have aB:∀k,∀r∈[s.tl.m3,mt],¬jT w' k r:=λk r t hT=>by
     simp only[fm,gp,gq] at t;rcases t with rfl|rfl
     ·exact pB (l.mem.ext f).rT.rj k hT
     ·exact pB (Y.ext f).map k hT
    have ai:∀{aj:Nat} {k:ik} {o:kx},eQ w' aj k o->aj∉[s.tl.m3,mt]:=fun {aj k o} hq hm=>aB [k] _ hm ⟨_,_,_,hq,by simp⟩;have aC:m∉[s.tl.m3,mt]:=by simp only[fm,gp,gq,wJ];exact⟨λe=>h.ne.2 s.tl.m3 (by simp[LS.maps]) e.symm,h.ne.1⟩
    have hW:L9 w3 B wp pp lp mt m p SA sn sc (d+1) 2 ((Lr tp a).put (.int .i64 1) (.held (.agg (pK g.base tp2 0 (u+1016) 1 u false).toArray))) {s with rs:=an,rv:=v',tl:=s.tl.start 1 tp2 b2} (X++E):=by
     refine⟨by rw[<-hE];exact P.eH (f.eH ah) (by decide) (ai (f.eH ah)),az,⟨Dh,nn,hs,next,(W.ext f).pN P (by decide) (ai (W.ext f).eH) aC⟩,ay,⟨h.low.2.2,h.low.1,by omega⟩,⟨by show s.os.length=1;rw[v];rfl, ?_,λq hq=> ?_,by show s.scope.length<=1000;rw[ad];simp⟩,⟨Q.wf,λT y=>⟨?_, ?_⟩⟩,Rn rfl (show(2:Nat)<=10000 by omega) ⟨_,_,_,_,_,_,_,(At.put (D:=DataW.map []) ⟨_,rfl⟩ (show WideAt.IsKeyLit (.int .i64 0) from trivial) _).other (by simp) _⟩ ⟨_,_,_,_,_,_,_,At.put (D:=Lr tp a) ⟨_,rfl⟩ (show WideAt.IsKeyLit (.int .i64 1) from trivial) _⟩ (tp:=tp) (b:=b) (tp2:=tp2) (b2:=b2) (by show s.tl.iQ++_=_;rw[F];rfl),⟨λae Z=> ?_,h.ne.1⟩⟩
     ·have:=h.lk.ids;rw[jD] at this;exact this
     ·have h5:=h.lk.each q hq;exact⟨by have:=h5.iO;omega,by have:=h5.ms;omega,h5.im.Sk⟩
     ·have h5:=C4 (fy.2 ⟨T,y,rfl⟩:T.bs.length∈an.map λT=>T.bs.length);have h6:=Q.sum;rw[v] at h6;simp only[iw,jH] at h6;omega
     ·rcases Q.uG T y with e|e|e<;>rw[e]
      ·exact .inl ⟨rfl,rfl⟩
      ·exact .inr (.inl ⟨rfl,rfl⟩)
      ·exact .inr (.inr (.inl ⟨rfl,rfl⟩))
     ·simp only[LS.maps,iC,hU,jt,fm,gu,gp,gq] at Z;have h7:=(Y.ext f).map.lt;have U:=λf=>al ae (by simp only[LS.maps,fm];exact f);rcases Z with h|h|h|h|h|h
      ·exact U (.inl h)
      ·exact U (.inr (.inl h))
      ·exact U (.inr (.inr (.inl h)))
      ·exact U (.inr (.inr (.inr (.inl h))))
      ·exact U (.inr (.inr (.inr (.inr h))))
      ·omega
    refine⟨rfl,λw9 ak=>⟨_,_,hW.ch ak (by decide), ?_, ?_,(J.lw aq).trans ((Lw.fg f).trans (Lw.trans (fi.mono P λao V=>V.1) (ak.lw (eY h.low.1 (lN hd.eH.lt)))))⟩,λo hg=>P.eH (f.eH hg) (by decide) (ai (f.eH hg))⟩
    ·obtain⟨_,_,aD,_⟩:=Q.zM H (by omega);obtain⟨m1,r1,ap⟩:=aD ag;rw[Int.add_zero] at ap;obtain⟨m2,aE⟩:=Ho Q.wf aA (a:=u+1016) (n:=8) (q:=1) (by simp only;omega) (by omega) (by omega) (by simp[iF];omega) (by unfold oR;simp);refine⟨a,tp,b,b2,g.base,tp2,u+1016,u,m1,r1,m2,_,rfl,by show s.tl.iQ++_=_;rw[F];rfl,ap,by omega,aE, ?_⟩;have e:(u+1016- u).toNat=1016:=by omega
     simp only[Rg.cut,e];decide
    ·refine I' (B0:=0) (L:=83::193::jr) (M:=[s.tl.m3,mt]) ?_ ak (by decide) (λr t=> ?_)
     ·exact((J.b0.ext f).mono (L':=83::193::jr) (M':=[s.tl.m3,mt]) (by decide) (by simp)).trans (fi.mono P λao V=>⟨eX _,V.2.imp (λ⟨o,k,fr,q1,q2⟩=>⟨o,k,fr,q1,gD _ q2⟩) id⟩:CH 0 (83::193::jr) [s.tl.m3,mt] w' w3) (λao V=>.inl V)
     ·simp only[fm,gp,gq] at t;rcases t with rfl|rfl
      ·exact⟨pB h.lk.mem.rT.rj _,pB h.lk.mem.rT.rj _⟩
      ·exact⟨pB h.pr.map _,pB h.pr.map _⟩
  ·rintro e w2 ⟨rfl,i,h2⟩;exact⟨rfl,i,h2⟩
 ·rintro e w' ⟨aL,I,rfl,_,_,⟨rfl,y⟩,hc⟩;obtain⟨j,D',i⟩:=y w' hc;exact⟨j,D',rfl,i⟩
theorem T3(h:L9 w B wp pp lp mt m p SA sn sc d n D s ex)(T:B<=wp)(U:FM D s)(F G:jw)(H:fE)(I J:Nat)(arg:Int)(ak:d<200)(hn:n<100):
 Calls prog 15 #[fw wp,fV (iE 14 F G H I J 1 99 arg).toArray] w λe w'=>∃a c V,e=fH (fV ([eE 0,eE 3,fN a 1 c,eW,eE 1,eE 0,eE 0,eE 0,eE 0,eV ⟨#[]⟩,eE 0,eV ⟨#[]⟩,eE 0]:fY).toArray)/\
  mT w' 3 (some (eJ a 0)) (ints [9])/\L9 w' B wp pp lp mt m p SA sn sc (d+1) (n+1) V s ex/\Kp w w'/\Lw B w w':=by
 obtain⟨l,o,b0,b2,r,g,i,t,W,X,Y,Z,rfl,ad,ae,af,ag,hz⟩:=U;have hE:((d:Int)+1)=((d+1:Nat):Int):=by omega
 obtain⟨Dh,nh,hs,next,K⟩:=h.hd;refine(TU h.wb (by omega) F G H I J 1 99 arg (R:=λa c j=>j.ownsRow 0 3 1 (.slice (some ⟨a,0,none⟩) 1 c) 1 [.int .i64 9]/\L9 j B wp pp lp mt m p SA sn sc (d+1) (n+1) (((Lr o l).put (.int .i64 1) (.held (.agg (pK r g 0 i 1 t false).toArray))).put (.int .i64 1) (.held (.agg (pK 0 g 9 (i+8) 1 t true).toArray))) s ex/\CH 0 [83] [mt] w j/\Lw B w j) (λN k O=> ?_)).mono ?_
 ·have u:=K.pN k;have v:=h.pr.pN k;have x:=h.lk.pN k;refine(OL (B:=B) v h.low.1 (by have:=h.low.2.2;omega) (u.eH.cell 0 rfl) (id:=1) (by omega) (At.put (D:=Lr o l) ⟨_,rfl⟩ (show WideAt.IsKeyLit (.int .i64 1) from trivial) _) (by omega) (C2:=mA 0 g 9 (i+8)) rfl (by simp[mA,Value.oneCell']) (nn:=9) (λw' P=>Br p s.sp r g i 1 9 99 w' B s.rs s.rv W Y X Z (x.ext P).vH h.rg.1 ae af ag hz ((x.ext P).eH.cell 0 rfl) (by omega))).mono ?_;rintro e w2 ⟨a,c,rfl,y,ah,b⟩;have z:∀{a:Nat} {A:ik} {C:kx},eQ N a A C->a∉[mt]:=fun {a A C} Q hm=>by rw[fF.1 hm] at Q;exact iD Q v.map rfl
  refine⟨a,c,rfl,⟨fq y (eX _), ?_,(k.b0.mono (M':=[mt]) (λ_ h=>h) (by simp)).trans (fi.mono b λE f=>⟨eX _,f.2.imp (λ⟨_,_,_,_,q⟩=>by cases q) id⟩:CH 0 [83] [mt] N w2) (λE f=>.inl f),(k.lw T).trans (fi.mono b λE f=>f.1)⟩,λai A C S=>b.eH S (by simp) (z S),b.size⟩;exact⟨by rw[<-hE];exact b.eH O (by simp) (z O),ah,⟨Dh,nh,hs,next,u.pN b (by simp) (z u.eH) (by simp;exact h.mx.2)⟩,x.CU h.mx.1 v.map (fi.mono b λE f=>⟨eX _,f.2⟩),⟨h.low.1,h.low.2.1,by omega⟩,h.os,h.rg,Rn rfl (show(2:Nat)<=10000 by omega) ⟨_,_,_,_,_,_,_,((At.put (D:=DataW.map []) ⟨_,rfl⟩ (show WideAt.IsKeyLit (.int .i64 0) from trivial) _).other (by simp) _).other (by simp) _⟩ ⟨_,_,_,_,_,_,_,At.put (D:=(Lr o l).put (.int .i64 1) (.held (.agg (pK r g 0 i 1 t false).toArray))) ⟨_,rfl⟩ (show WideAt.IsKeyLit (.int .i64 1) from trivial) _⟩ ad,h.mx⟩
 ·rintro e w' ⟨a,c,j,rfl,⟨y,hw,hc,aj⟩,b⟩;refine⟨a,c,_,rfl, ?_,hw.ch b (by decide), ?_,aj.trans (b.lw (eY h.low.2.1 (lN K.eH.lt)))⟩
  ·have:=b.own y;exact mT.fC this (Rd.fC this)
  ·refine I' (B0:=0) (L:=[83]) (M:=[mt]) hc (L2:=[67,71]) b (by decide) (λai hk=> ?_);rw[fF.1 hk];exact⟨pB h.pr.map _,pB h.pr.map _⟩
end
end
section
theorem eQ.LK{n size B:Nat}{e:ik}{xs:fY}(h:eQ w k e xs.toArray)(a:xs.length=n*size)(c:n<=1000)(b:B<=k):w.ownsRow B e size (fN k n n) n xs:=
 ⟨a,.inr ⟨k,n,_,rfl,b,h,fJ _,by unfold maxLen;omega,by simpa using a,by simp[<-a]⟩⟩
def FN(k:Int)(nm:jw)(th n:Int):Av:=⟨iE k nm ⟨#[]⟩ none 0 0 th n 0,rfl,by simp[iE,Value.oneCell']⟩
def Ah:List Av:=[FN 2 (fI (ff [[112]])) 0 0,FN 8 (fI (ff [[112]])) 0 0,FN 13 (fI [102]) 0 1,FN 14 ⟨#[]⟩ 1 99]
def T4(g c:Nat):fY:=[eE 0,eE 3,fN g 1 c,eW,eE 1,eE 0,eE 0,eE 0,eE 0,eV ⟨#[]⟩,eE 0,eV ⟨#[]⟩,eE 0]
def PV(t:Tv):Prop:=∃A c,t.l=gS 0 (.slice A 0 c) (eW)
def Wh(B wp pp lp mt m p:Nat)(SA:fE)(sp:lM)(s0:LS)(ts:List Tv)(w:eI):Prop:=ts=[]/\eQ w wp 83 (tu pp SA 1 1 0)/\zw w B pp lp mt m p SA [sp] [] s0
def V0(B wp pp lp mt m p:Nat)(SA:fE)(sp:lM)(ts:List Tv)(w:eI):Prop:=∃t0 s1,ts=[t0]/\eQ w wp 83 (tu pp SA 1 1 ((1:Nat):Int))/\zw w B pp lp mt m p SA [sp] [] s1/\uH (λ_=>[]) 0 s1.D
def V1(B wp pp lp mt m p:Nat)(SA:fE)(ts:List Tv)(w:eI):Prop:=∃t0 t1 s2 E a tp b,ts=[t0,t1]/\PV t1/\BP w (λ_=>[]) 0 B wp pp lp mt m p SA 1 1 2 s2 [] E a tp [⟨1,1,1⟩] 1/\s2.gd=[⟨1,0,[],1,true⟩]/\s2.scope=[1]/\(∀o∈s2.os,o.base<=4294967296)/\s2.tl.iQ=[(0,tp,b)]/\LZ s2.tl s2.fb/\s2.tl.m3≠b/\∀x∈s2.maps,x≠mt
def V2(B wp pp lp mt m p:Nat)(SA:fE)(ts:List Tv)(w:eI):Prop:=∃t0 t1 t2 s2 D E,ts=[t0,t1,t2]/\PV t1/\L9 w B wp pp lp mt m p SA 1 1 3 2 D s2 E/\FM D s2
def V3(B wp pp lp mt m p:Nat)(SA:fE)(ts:List Tv)(w:eI):Prop:=∃t0 t1 t2 t3 s2 D E g c,ts=[t0,t1,t2,t3]/\PV t1/\t3.l=T4 g c/\mT w 3 (some (eJ g 0)) (ints [9])/\L9 w B wp pp lp mt m p SA 1 1 4 3 D s2 E
def U4(B wp pp lp mt m p:Nat)(SA:fE)(sp:lM)(s0:LS)(k:Nat)(ts:List Tv)(w:eI):Prop:=
 match k with
 |0=>Wh B wp pp lp mt m p SA sp s0 ts w
 |1=>V0 B wp pp lp mt m p SA sp ts w
 |2=>V1 B wp pp lp mt m p SA ts w
 |3=>V2 B wp pp lp mt m p SA ts w
 |_=>V3 B wp pp lp mt m p SA ts w
section
variable {B wp pp lp mt m p:Nat} {SA:fE} {FA A:fE} {s0:LS}
theorem U5(k:Nat)(l:List Tv){n o:eI}{B0:Nat}(h:U4 B wp pp lp mt m p SA (kP FA 1 A 3) s0 k l n)(d:CH B0 [71] [] n o):U4 B wp pp lp mt m p SA (kP FA 1 A 3) s0 k l o:=by
 match k,h with
 |0,⟨a,b,c⟩=>exact⟨a,d.eH b,c.ch d (by decide)⟩
 |1,⟨t0,r,a,b,c,f⟩=>exact⟨t0,r,a,d.eH b,c.ch d (by decide),f⟩
 |2,⟨t0,t1,g,i,s,t,u,a,b,c,f⟩=>exact⟨t0,t1,g,i,s,t,u,a,b,c.ch d (by decide),f⟩
 |3,⟨t0,t1,t2,g,j,i,a,b,c,f⟩=>exact⟨t0,t1,t2,g,j,i,a,b,c.ch d (by decide),f⟩
 |k+4,⟨t0,t1,t2,t3,g,j,i,v,w,a,b,c,f,x⟩=>exact⟨t0,t1,t2,t3,g,j,i,v,w,a,b,c,f.ch d,x.ch d (by decide)⟩
theorem qN(a:Int)(A:fE)(k b:Nat)(c:fE)(d f:Nat):∀g∈gS a (.slice A k b) (.slice c d f),g.oneCell'=true:=by simp[gS,Value.oneCell']
theorem U6(g:s0.D=zJ/\s0.fn=1/\s0.fl=0)(i:B<=wp)(c:List Tv)(a:eI)(h:Wh B wp pp lp mt m p SA (kP FA 1 A 3) s0 c a):
 Calls prog 15 #[fw wp,fV (iE 2 (fI (ff [[112]])) ⟨#[]⟩ none 0 0 0 ((0:Nat):Int) 0).toArray] a λe b=>∃d:Tv,e=fH (fV d.l.toArray)/\V0 B wp pp lp mt m p SA (kP FA 1 A 3) (c++[d]) b/\Kp a b/\Lw B a b:=by obtain⟨f,u,j⟩:=g;obtain⟨rfl,l,n⟩:=h;refine(zy n i l (by omega) (ps:=[[112]]) ⟨xC (k:=0) (by omega),λv w o=>by simp at o;omega⟩ (by rw[f];rfl) (by omega) (by omega) (by decide) (k:=0) (by simp) (IB FA 1 A 3) uM ⟨#[]⟩ 0 0).mono ?_;rintro e b ⟨rfl,q1,r,s,t⟩;refine⟨⟨_,rfl,qN _ _ _ _ _ _ _⟩,rfl,⟨_,_,rfl,q1,r, ?_⟩,s,t⟩;have:=Fx (D0:=zJ) (λ_=>[]) ⟨_,rfl⟩ 0 (by omega) (.inl rfl);simp only[f,j];exact this
theorem U7(f:B<=wp)(c:List Tv)(a:eI)(h:V0 B wp pp lp mt m p SA (kP FA 1 A 3) c a):
 Calls prog 15 #[fw wp,fV (iE 8 (fI (ff [[112]])) ⟨#[]⟩ none 0 0 0 0 0).toArray] a λe b=>∃d:Tv,e=fH (fV d.l.toArray)/\V1 B wp pp lp mt m p SA (c++[d]) b/\Kp a b/\Lw B a b:=by obtain⟨t0,F,rfl,g,i,j⟩:=h;refine(Ja (G:=λ_=>[]) (N:=0) i f g (by omega) j (by simp) (by omega) (by simp) rfl (.prog rfl) ⟨#[]⟩ none 0 0 0 0 0).mono ?_;rintro e b ⟨k,l,n,o,r,s,t,rfl,q1,H,u,v,w,x,y,z,C,D,I,E⟩;exact⟨⟨_,rfl,qN _ _ _ _ _ _ _⟩,rfl,⟨t0,_,n,o,r,s,t,rfl,⟨k,l,rfl⟩,q1,z,y,C,u,v,w,x⟩,D,E⟩
theorem U8(f:B<=wp)(c:List Tv)(a:eI)(h:V1 B wp pp lp mt m p SA c a):
 Calls prog 15 #[fw wp,fV (iE 13 (fI [102]) ⟨#[]⟩ none 0 0 0 1 0).toArray] a λe b=>∃d:Tv,e=fH (fV d.l.toArray)/\V2 B wp pp lp mt m p SA (c++[d]) b/\Kp a b/\Lw B a b:=by obtain⟨t0,t1,y,z,A,C,D,rfl,g,i,j,k,l,n,o,r,s⟩:=h;refine(PU i f j k l n o r s ⟨#[]⟩ none 0 0 0 (by omega)).mono ?_;rintro e b ⟨t,u,rfl,q1,v,w,x⟩;exact⟨⟨_,rfl,qN _ _ _ _ _ _ _⟩,rfl,⟨t0,t1,_,t,u,_,rfl,g,q1,v⟩,w,x⟩
theorem U9(f:B<=wp)(c:List Tv)(a:eI)(h:V2 B wp pp lp mt m p SA c a):
 Calls prog 15 #[fw wp,fV (iE 14 ⟨#[]⟩ ⟨#[]⟩ none 0 0 1 99 0).toArray] a λe b=>∃d:Tv,e=fH (fV d.l.toArray)/\V3 B wp pp lp mt m p SA (c++[d]) b/\Kp a b/\Lw B a b:=by obtain⟨t0,t1,t2,g,v,i,rfl,j,k,l⟩:=h;refine(T3 k f l ⟨#[]⟩ ⟨#[]⟩ none 0 0 0 (by omega) (by omega)).mono ?_;rintro e b ⟨n,o,r,rfl,q1,s,t,u⟩;exact⟨⟨_,rfl,by simp[Value.oneCell']⟩,rfl,⟨t0,t1,t2,_,g,r,i,n,o,rfl,j,rfl,q1,s⟩,t,u⟩
theorem U'(n:s0.D=zJ/\s0.fn=1/\s0.fl=0)(l:B<=wp)(k:Nat)(j:k<Ah.length)(i:List Tv)(b:eI)(h:U4 B wp pp lp mt m p SA (kP FA 1 A 3) s0 k i b):
 Calls prog 15 #[fw wp,fV Ah[k].l.toArray] b λe c=>∃a:Tv,e=fH (fV a.l.toArray)/\U4 B wp pp lp mt m p SA (kP FA 1 A 3) s0 (k+1) (i++[a]) c/\Kp b c/\Lw B b c:=by
 have o:∀(h:0<Ah.length),Ah[0].l=iE 2 (fI (ff [[112]])) ⟨#[]⟩ none 0 0 0 ((0:Nat):Int) 0:=λ_=>rfl;have r:∀(h:1<Ah.length),Ah[1].l=iE 8 (fI (ff [[112]])) ⟨#[]⟩ none 0 0 0 0 0:=λ_=>rfl;have s:∀(h:2<Ah.length),Ah[2].l=iE 13 (fI [102]) ⟨#[]⟩ none 0 0 0 1 0:=λ_=>rfl;have t:∀(h:3<Ah.length),Ah[3].l=iE 14 ⟨#[]⟩ ⟨#[]⟩ none 0 0 1 99 0:=λ_=>rfl;have u:k<4:=j;obtain rfl|rfl|rfl|rfl:k=0\/k=1\/k=2\/k=3:=by omega
 ·rw[o j];refine(U6 n l i b h).mono ?_;rintro e c ⟨a,d,f,g⟩;exact⟨a,d,f,g⟩
 ·rw[r j];refine(U7 l i b h).mono ?_;rintro e c ⟨a,d,f,g⟩;exact⟨a,d,f,g⟩
 ·rw[s j];refine(U8 l i b h).mono ?_;rintro e c ⟨a,d,f,g⟩;exact⟨a,d,f,g⟩
 ·rw[t j];refine(U9 l i b h).mono ?_;rintro e c ⟨a,d,f,g⟩;exact⟨a,d,f,g⟩
end
end
section
def D1:DataW eS:=zJ.put (.string u5) (.held uB)
theorem T5:IsMap D1:=IsMap.put ⟨_,rfl⟩ _ _
theorem PW:At D1 (.string u5) uB:=At.put ⟨_,rfl⟩ (show WideAt.IsKeyLit (.string u5) from trivial) _
theorem sm(a:Nat):jk a≠[47]/\jk a≠u5:=by unfold jk qK u5 qz;split<;>simp[ff,hH]
theorem SQ(a:Nat):No D1 (.string (jk a)):=by refine No.other ?_ (qL (sm a).2) _;exact No.other (D:=DataW.map []) rfl (qL (sm a).1) _
theorem T6{c:Nat->fe}{k:Nat}(d:n<=12)(f:k<=12):Way (si D1 c n) (qK k):=by
 refine⟨xC f,λg j a=> ?_⟩;have b:k≠0:=λe=>by subst e;simp[qK] at a;omega
 have i:g=1:=by simp[qK,b] at a;omega
 subst i;have e:rI (qK k) 1=u5:=by simp[rI,qK,b,u5,qz]
 rw[e];exact qM PW (λn _ e=>(sm n).2 e.symm) n d
def C5(n:Nat):List Av:=FN 1 (fI u5) 0 0::FN 2 (fI (jk 0)) 0 0::(((List.range n).map λi=>FN 2 (fI (jk (i+1))) 0 ((i+1:Nat):Int))++[FN 8 (fI (ff [[112]])) 0 0])
theorem xD(n:Nat):(C5 n).length=n+3:=by simp[C5]
theorem RX(a:k<n)(h:k+2<(C5 n).length):(C5 n)[k+2]=FN 2 (fI (jk (k+1))) 0 ((k+1:Nat):Int):=by simp only[C5,If];rw[J3 (by simpa using a)];simp
theorem RY(h:n+2<(C5 n).length):(C5 n)[n+2]=FN 8 (fI (ff [[112]])) 0 0:=by simp only[C5,If];rw[Ec (by simp)];simp
def Wq(G:Nat->fe)(k:Nat)(s:LS):Prop:=(k=0/\s.D=zJ/\s.fn=1/\s.fl=0)\/(k=1/\s.D=D1/\s.fn=2/\s.fl=0)\/∃j,k=j+2/\s.D=si D1 G j/\s.fn=j+3/\s.fl=(j:Int)+1
def Uf(B wp pp lp mt m p sc:Nat)(SA:fE)(fL:List lM)(X:List (eS×fS))(G:Nat->fe)(n:Nat)(k:Nat)(ts:List Tv)(w:eI):Prop:=
 ts.length=k/\(∀t∈ts,t.l[0]? =some (.int .i64 0))/\((k<=n+2/\∃s,eQ w wp 83 (tu pp SA fL.length sc (k:Int))/\zw w B pp lp mt m p SA fL X s/\Wq G k s)\/
   (k=n+3/\∃s2 E a tp,BP w G n B wp pp lp mt m p SA fL.length sc k s2 X E a tp [⟨1,1,1⟩] 1/\kw G n s2.gd s2.last s2.inits [] [⟨1,1,1⟩] 1 (λ_=>0) (λ_=>0)))
section
variable {B wp pp lp mt m p sc n:Nat} {SA:fE} {fL:List lM} {X:List (eS×fS)} {G:Nat->fe}
theorem Va(k:Nat)(f:List Tv){g i:eI}{o:Nat}(h:Uf B wp pp lp mt m p sc SA fL X G n k f g)(a:CH o [71] [] g i):Uf B wp pp lp mt m p sc SA fL X G n k f i:=by
 obtain⟨j,l,⟨b,r,c,d,s⟩|⟨b,t,u,v,w,c,d⟩⟩:=h
 ·exact⟨j,l,.inl ⟨b,r,a.eH c,d.ch a (by decide),s⟩⟩
 ·exact⟨j,l,.inr ⟨b,t,u,v,w,c.ch a (by decide),d⟩⟩
theorem Je{c:List Tv}{a:Tv}(h:∀a∈c,a.l[0]? =some (.int .i64 0))(d:a.l[0]? =some (.int .i64 0)):∀b∈c++[a],b.l[0]? =some (.int .i64 0):=λb hu=>by
 rcases gu.1 hu with hu|hu
 ·exact h b hu
 ·rw[fF.1 hu];exact d
theorem Vb(i:B<=wp)(w:∀j,∀k∈G j,j<k/\k<=n)(l:n<=12)(x:∀j,(G j).length<=8)(E:G 0=[])(T:fL.length=n+1)(z:∀k (h:k<fL.length),Cm fL[k] (ii G k))(k:Nat)(o:k<(C5 n).length)(A:List Tv)(r:eI)(h:Uf B wp pp lp mt m p sc SA fL X G n k A r):
 Calls prog 15 #[fw wp,fV (C5 n)[k].l.toArray] r λe b=>∃C:Tv,e=fH (fV C.l.toArray)/\Uf B wp pp lp mt m p sc SA fL X G n (k+1) (A++[C]) b/\Kp r b/\Lw B r b:=by
 have U:k<n+3:=by rw[xD] at o;exact o
 obtain⟨s,t,⟨F,V,u,v,H⟩|⟨F,_⟩⟩:=h
 ·have I:(((k+1:Nat)):Int)=(k:Int)+1:=by omega
  rcases H with⟨rfl,d1,d2,d3⟩|⟨rfl,d1,d2,d3⟩|⟨a,rfl,d1,d2,d3⟩
  ·have c:(C5 n)[0].l=iE 1 (fI (ff qz)) ⟨#[]⟩ none 0 0 0 0 0:=rfl;rw[c];refine(Pz v i u (by omega) (ps:=qz) ⟨by unfold qz;exact⟨λp J=>by rw[fF.1 J];exact⟨by unfold tY;decide,by decide,by decide⟩,by simp,by decide⟩,λK L y=>by simp[qz] at y;omega⟩ (by rw[d1];exact No.other (D:=DataW.map []) rfl (qL (by simp[qz,ff,hH])) _) (by omega) (by simp[qz,ff,hH]) ⟨#[]⟩ none 0 0 0 0 0).mono ?_;rintro e b ⟨rfl,q1,d,f,g⟩;refine⟨⟨_,rfl,qN _ _ _ _ _ _ _⟩,rfl,⟨by simp[s],Je t rfl,.inl ⟨by omega,_,q1,d,.inr (.inl ⟨rfl,by simp only[d1];rfl,by simp only[d2],by simp only[d3]⟩)⟩⟩,f,g⟩
  ·have c:(C5 n)[1].l=iE 2 (fI (ff (qK 0))) ⟨#[]⟩ none 0 0 0 ((0:Nat):Int) 0:=rfl;rw[c];refine(zy v i u (by omega) (ps:=qK 0) ⟨xC (by omega),λK L y=>by simp[qK] at y;omega⟩ (by rw[d1];exact SQ 0) (by omega) (by omega) (sm 0).1 (k:=0) (by omega) (z 0 (by omega)) (Cz w l x (by omega)) ⟨#[]⟩ 0 0).mono ?_;rintro e b ⟨rfl,q1,d,f,g⟩;refine⟨⟨_,rfl,qN _ _ _ _ _ _ _⟩,rfl,⟨by simp[s],Je t rfl,.inl ⟨by omega,_,q1,d,.inr (.inr ⟨0,rfl,by simp only[d1,d3];rfl,by simp only[d2],by simp only[d3];rfl⟩)⟩⟩,f,g⟩
  ·by_cases M:a<n
   ·have c:(C5 n)[a+2].l=iE 2 (fI (ff (qK (a+1)))) ⟨#[]⟩ none 0 0 0 ((a+1:Nat):Int) 0:=by rw[RX M o];rfl
    rw[c];refine(zy v i u (by omega) (ps:=qK (a+1)) (by rw[d1];exact T6 (by omega) (by omega)) (by rw[d1];exact BN (λa _=>SQ a) a (a+1) (by omega) (by omega)) (by omega) (by omega) (sm (a+1)).1 (k:=a+1) (by omega) (z (a+1) (by omega)) (Cz w l x (by omega)) ⟨#[]⟩ 0 0).mono ?_;rintro e b ⟨rfl,q1,d,f,g⟩;refine⟨⟨_,rfl,qN _ _ _ _ _ _ _⟩,rfl,⟨by simp[s],Je t rfl,.inl ⟨by omega,_,by rw[I];exact q1,d,.inr (.inr ⟨a+1,by omega, ?_,by simp only[d2],by simp only[d3];omega⟩)⟩⟩,f,g⟩;simp only[d1,d3];rfl
   ·obtain rfl:a=n:=by omega
    have c:(C5 a)[a+2].l=iE 8 (fI (ff [[112]])) ⟨#[]⟩ none 0 0 0 0 0:=by rw[RY o];rfl
    rw[c];refine(Ja v i u (by omega) (by rw[d1];exact Fx G T5 a l (.inr PW)) w l x E (.prog rfl) ⟨#[]⟩ none 0 0 0 0 0).mono ?_;rintro e b ⟨W,Y,N,O,P,Q,Z,rfl,q1,d,f,g,q5,q6,q7,q8,q9,R,ad,S⟩;exact⟨⟨_,rfl,qN _ _ _ _ _ _ _⟩,rfl,⟨by simp[s],Je t rfl,.inr ⟨by omega,N,O,P,Q,q1,d⟩⟩,R,S⟩
 ·omega
end
end
end
section
open Go.RowKit Go.Maps Pl
section
section
variable {w w':eI} {x:L8} {d:Nat} {OA:fE} {oc:Nat} {order:fe} {cnt hnd:Nat->Nat} {s:LS} {E:List (eS×fS)} {hs:List Hn} {next:Nat}
def sq(x:L8)(n:Nat)(order:fe):fe:=hJ (mQ x.es) (x.es.length- 1+1) n order
structure Qa(w:eI)(x:L8)(d:Nat)(OA:fE)(oc:Nat)(order:fe)(cnt hnd:Nat->Nat)(n hh:Nat)(A:fE)(w':eI):Prop where
 rd:mT w' 3 A (ints (eM (sq x n order)))
 sh:∃s2 E2 hs2 next2,sj w' x (d+1) OA oc order cnt hnd (order++sq x n order) (km cnt n (cnt n+1)) (km hnd n hh) s2 E2 hs2 next2
 hh:0<cnt n->hh=hnd n
 kb:∀k,jT w [31,51] k->w'.heap[k]? =w.heap[k]?
 kt:L7 w w'
 lw:Lw x.B w w'
theorem Qa.ext{n:Nat}{A:fE}(h:Qa w x d OA oc order cnt hnd n k A u)(c:eF v w)(a:eF u w'):Qa v x d OA oc order cnt hnd n k A w':=by obtain⟨i,j,l,m,hs⟩:=h.sh;exact⟨h.rd.ext a,⟨i,j,l,m,hs.ext a⟩,h.hh,λb f=>by have g:=f.ext c;have o:=h.kb b g;have p:=nX g.lt h.lw.size;rw[a.below.block b p,o,c.below.block b f.lt],λb r s=>a.eH (h.kt b r (c.eH s)),(Lw.fg c).trans (h.lw.trans (Lw.fg a))⟩
theorem Qa.put{n g:Nat}{A:fE}(h:Qa w x d OA oc order cnt hnd n k A v)(f:eQ v g 71 kJ)(i:v.grownBy w' (some g))(j:w.heap.size<=g)(l:x.B<=w.heap.size):Qa w x d OA oc order cnt hnd n k A w':=by
 have b:CH w [71] [] v w':=fi.mono (fi.grown i) λc a=>by simp only[fd] at a;subst a;exact⟨j,.inl ⟨_,_,_,f,by simp⟩⟩
 obtain⟨m,o,p,r,hs⟩:=h.sh;exact⟨h.rd.ch b,⟨m,o,p,r,hs.ch b (by decide)⟩,h.hh,λc a=>(b.block c (nX a.lt h.lw.size) (λhs=>by have:=a.lt;have:=hs.1;omega)).trans (h.kb c a),λc kJ f=>fi.eH b (h.kt c kJ f) (λhs=>by have:=f.lt;have:=hs.1;omega),h.lw.trans (b.lw l)⟩
theorem sj.open(h:sj w x d OA oc order cnt hnd order cnt hnd s E hs next){n:Nat}(m:1<=n)(F:n<x.es.length)(gl:Int)(o:d<200):
 Calls prog 15 #[fw x.wp,fV #[eE 9,eV (fI (nB n)),eV ⟨#[]⟩,eW,eE 0,eE gl,eE 0]] w λe w'=>∃(b:Nat) (f:fE) (c:Nat),e=fH (fV (gS b (.slice f (sq x n order).length c) (eW)).toArray)/\Qa w x d OA oc order cnt hnd n b f w':=by
 obtain⟨G,H,I,p⟩:=h.wb.hd;refine(RS h.wb h.lo.1 h.c.g0 h.mi m (by omega) (.fQ m) ⟨#[]⟩ none 0 0 gl 0 (gl:=gl==1) rfl o).mono ?_;rintro e w' ⟨J,rfl,K,b,f,c,r,L,t,u,rfl,v,y,z,A,B,i,C⟩;have j:∀g∈[x.m],∀k,¬jT w k g:=λg a k=>by rw[fF.1 a];exact pB p.map k
 exact⟨b,f,c,rfl,v,⟨r,_,t,u,h.c.ch i (by decide) (by decide) j,i.eH h.eH (by decide) (λl=>j _ l [31] ⟨_,_,_,h.eH,by simp⟩),y,z,h.lo,h.ol⟩,A,λg a=>i.block g a.lt (λhs=>hs.2.elim (λD=>a.not (L':=Ab) (by decide) D) (λl=>j _ l _ a)),B,C⟩
theorem Qa.kc{n:Nat}(h:Qa w x d OA oc order cnt hnd n k A w')(b:jT w [31,51] x.xp)(c:jT w [31,51] m):∃u:KW [x.xp,m] w,w'=u.w:=
 ⟨⟨w',λf a=>by
   simp only[fm,gp,gq] at a;rcases a with rfl|rfl
   ·exact h.kb _ b
   ·exact h.kb _ c⟩,rfl⟩
end
end
section
section
variable {w w':eI} {x:L8} {d:Nat} {OA:fE} {oc:Nat} {order:fe} {cnt hnd:Nat->Nat} {s:LS} {E:List (eS×fS)} {hs:List Hn} {next:Nat}
open Classical in
noncomputable def lR (x:L8) (cnt:Nat->Nat) (n:Nat):fe:=(List.range x.es).filter λy=>decide (∃r,(1<=r/\r<=x.es.length- 1/\0<km cnt n (cnt n- 1) r)/\RT (mQ x.es) r y)
theorem FO{w:eI}(h:P' w x.es x.SA x.fL x.NA)(cnt:Nat->Nat)(n a:Nat):a∈lR x cnt n↔∃b,(1<=b/\b<=x.es.length- 1/\0<km cnt n (cnt n- 1) b)/\RT (mQ x.es) b a:=by simp only[lR,jb,ll,jh];refine⟨λh=>h.2,λc=>⟨?_,c⟩⟩;obtain⟨b,⟨i,j,_⟩,d⟩:=c;have k:=h.n13;exact d.mO (S:=λa=>a<x.es.length) (λa _ f g=>by have:=h.ri.up a f g;omega) (by omega)
theorem PX{order a b:fe}(h:∀c,c∈a↔c∈b):j2 order a=j2 order b:=by
 unfold j2;congr 1
 refine E3 λc _=> ?_;rw[decide_eq_decide];exact not_congr (h c)
structure Qb(w:eI)(x:L8)(d:Nat)(OA:fE)(oc:Nat)(order:fe)(cnt hnd:Nat->Nat)(n:Nat)(A:fE)(w':eI):Prop where
 sh:∃s2 E2 hs2 next2,sj w' x (d+1) OA oc order cnt hnd (order.filter λy=>decide (y∈lR x cnt n)) (km cnt n (cnt n- 1)) hnd s2 E2 hs2 next2/\∃c,fo 0 w' (s2.rows++((.slice A (j2 order (lR x cnt n)).length c,j2 order (lR x cnt n))::(wu x.es OA oc order x.cg x.hg cnt hnd++E2)))
 kb:∀k,k=x.xp\/k=x.hg->w'.heap[k]? =w.heap[k]?
 kt:L7 w w'
 lw:Lw x.B w w'
theorem sL{w:eI}{g n:Nat}(h:w.ownsRow 0 f 1 (.slice (some ⟨g,0,none⟩) n n) n l):w.heap[g]? =some (.cells l.toArray f (0,0)):=by
 rcases h.2 with⟨a,_⟩|⟨j,k,b,a,_,c,_,_,m,d⟩
 ·cases a
 ·injection a with a _ i
  simp only[fd,ny,gP] at a;subst a i;rw[c];have:b.toList=l:=by rw[<-d,mZ (by simp only[Sd];omega)]
  rw[<-this]
theorem Qb.ext{n:Nat}{A:fE}(h:Qb w x d OA oc order cnt hnd n A u)(c:eF v w)(b:eF u w')(f:x.xp<v.heap.size/\x.hg<v.heap.size):Qb v x d OA oc order cnt hnd n A w':=by
 obtain⟨j,k,l,m,hs,o,p⟩:=h.sh;exact⟨⟨j,k,l,m,hs.ext b,o,p.ext b⟩,λa g=>by
  have i:a<v.heap.size:=by rcases g with rfl|rfl;exact f.1;exact f.2
  have r:=h.kb a g;have s:=nX (nX i c.size) h.lw.size;rw[b.below.block a s,r,c.below.block a i],λa t y=>b.eH (h.kt a t (c.eH y)),(Lw.fg c).trans (h.lw.trans (Lw.fg b))⟩
theorem sj.close(h:sj w x d OA oc order cnt hnd order cnt hnd s E hs next){n:Nat}(r:1<=n)(G:n<x.es.length)(t:0<cnt n)(u:d<200):
 Calls prog 15 #[fw x.wp,fV #[eE 12,eV ⟨#[]⟩,eV ⟨#[]⟩,eW,eE 0,eE (hnd n:Nat),eE 0]] w λe w'=>∃(a b:fE) (c f:Nat),e=fH (fV (gS 0 (.slice a (j2 order (lR x cnt n)).length c) (.slice b (j2 order (lR x cnt n)).length f)).toArray)/\Qb w x d OA oc order cnt hnd n a w':=by
 obtain⟨H,I,J,v⟩:=h.wb.hd;refine(PD h.wb h.lo.1 h.c.g0 h.mi r (by omega) t (FO h.c cnt n) ⟨#[]⟩ ⟨#[]⟩ none 0 0 0 u).mono ?_;rintro e w' ⟨K,rfl,L,a,c,b,f,l,m,rfl,y,z,A,B,o,C⟩;have p:∀g∈[x.m],∀i,¬jT w i g:=λg j i=>by rw[fF.1 j];exact pB v.map i
 have k:sj w' x (d+1) OA oc order cnt hnd (order.filter λD=>decide (D∈lR x cnt n)) (km cnt n (cnt n- 1)) hnd l E m next:=⟨h.c.ch o (by decide) (by decide) p,o.eH h.eH (by decide) (λF=>p _ F [31] ⟨_,_,_,h.eH,by simp⟩),z,A,h.lo,h.ol⟩;refine⟨a,b,c,f,rfl,⟨l,_,m,next,k,c,y⟩,λg j=> ?_,B,C⟩;rcases j with rfl|rfl
 ·exact(k.eH:w'.heap[x.xp]? =_).trans (h.eH:w.heap[x.xp]? =_).symm
 ·rw[sL k.BR,sL h.BR]
end
end
section
section
variable {w w':eI} {x:L8} {d:Nat} {OA:fE} {oc:Nat} {order:fe} {cnt hnd:Nat->Nat} {s:LS} {E:List (eS×fS)} {hs:List Hn} {next:Nat}
def RZ(w:eI)(x:L8)(d:Nat):Prop:=∃OA oc order cnt hnd s E hs next,sj w x d OA oc order cnt hnd order cnt hnd s E hs next
theorem vb(n:Int)(a:fE)(k c:Nat)(b:fE)(d f:Nat):∀u∈gS n (.slice a k c) (.slice b d f),u.oneCell'=true:=by simp[gS,Value.oneCell']
theorem LL(h:sj w x d OA oc order cnt hnd order cnt hnd s E hs next){n:Nat}(Q:1<=n)(hn:n<x.es.length)(gl:Int)(a3:d<150):
 Calls prog 7 #[fw x.xp,eE (n:Nat),eE gl] w λe w'=>e=fH (fz true)/\RZ w' x (d+1)/\Lw x.B w w':=by
 obtain⟨R,aC,aD,a4,aE⟩:=h.c.name Q hn;have a5:=h.c.n13;have bk:n<x.fL.length:=by rw[h.c.sn];exact hn
 have aF:jT w [31,51] R:=by
  obtain⟨cs,a6,fr,q1,q2⟩:=h.c.sp.ty (λe=>by have:=congrArg List.length e;rw[kU (k:=9) (λ_=>rfl)] at this;simp at this;omega) R aC aD
  exact⟨cs,a6,fr,q1,by simp only[fm,gp,gq] at q2 ⊢;exact .inr q2⟩
 have j:=h.eH;have aG:jT w [31,51] x.xp:=⟨_,_,_,j,by simp⟩;unfold PH at j;rw[aD] at j;have J:=λu:KW [x.xp,R] w=>u.cell (j.ce 0 (fw x.wp)) (by simp);have e1:=λu:KW [x.xp,R] w=>u.cell (j.ce 1 (.slice (some (eJ R aC)) x.fL.length x.sc)) (by simp);have e2:=λu:KW [x.xp,R] w=>u.cell aE (by simp);have an:=eD (λw' (o:eF w w')=>(h.ext o).open Q hn gl (by omega));have ao:=eD aG;have aH:=eD aF;have ak:=eD h.mi.sh.nodup;have bl:cnt n<=200:=by
  rcases x5 (cnt n) with e|e
  ·omega
  ·obtain⟨C,T,_,_,bm,_⟩:=h.mi.IZ n Q (by omega) e;have:=h.wb.bd.2.2.2.2.2 C T;omega
 have a7:x.xp≠x.cg:=λe=>by have:=sL h.BQ;rw[<-e] at this;exact absurd (show eQ w x.xp 3 _ from this) (λj=>(h.eH.ne j (by decide)) rfl)
 have ap:=eY h.lo.2.1 (lN h.eH.lt);clear h j aF aG aE Q a3;go_in;go_wp
 go_cut [7] (λs7 wx=>∃(g f:Nat) (z:fE) (c:Nat),s7=fw g/\eQ wx g 71 (gS f (.slice z (sq x n order).length c) (eW)).toArray/\Qa w x d OA oc order cnt hnd n f z wx)
 case first=>
  refine rx [x.xp,R] [0,1,2,3,4,5,6,7,8,9,10,11,12,13] [15] (.jG (.e [14] (.e [15] (.e [16] .done))) (.e [15] (.e [14] (.e [16] .done)))) ?_;repeat(go_big_quiet_step (fail))
  refine eO ?_;clear J e1 e2;have HV:=eD (eF.drew w);generalize World.drew w=v0 at*;refine fX ?_ ?_
  ·skip
   refine eT ?_;go_wp
   refine(an v0 HV).mono ?_;rintro e U ⟨f,z,c,rfl,r⟩;have aI:=r.ext HV (eF.alloc U (eN jf 71));have ah:=eQ.new U 71 jf;obtain⟨l,D⟩:∃l,l=gS f (.slice z (sq x n order).length c) (eW):=⟨_,rfl⟩;rw[<-D];have F:Hid (l.length=13/\(∀u∈l,u.oneCell'=true)/\l=gS f (.slice z (sq x n order).length c) (eW)):=eD ⟨by rw[D];rfl,by rw[D];exact vb _ _ _ _ _ _ _,D⟩;have aq:=eY HV.size r.lw.size;clear D r;go_wp2;refine iH ?_;refine eZ ?_;go_wp
   generalize U.heap.size=g at*;generalize U.alloc (eN jf 71)=y2 at*;have O:=eD aI;have K:=eD ah;clear aI ah;refine⟨O.kc ao aH, ?_⟩;refine eT ?_;go_wp2_with (refine eG rfl 71 (.tmp 7) (.tmp 23) rfl g rfl l rfl K F.2.1 (by rw[F.1];kernel_rfl) (by rw[F.1];rfl) ?_)
   intro y3 V g3;have O:=eD (O.put K g3 aq ap);rw[F.2.2] at V;have K:=eD V;clear V g3 F;go_wp
   refine iH ?_;refine fP ?_;go_wp
   go_meet;exact⟨g,f,z,c,rfl,K,O⟩
  ·skip
   refine eZ ?_;go_wp
   have ah:=eQ.new v0 71 jf;have aJ:=eF.alloc v0 (eN jf 71);have aq:=HV.size;generalize v0.heap.size=g at*;generalize v0.alloc (eN jf 71)=W at*;have ar:=eD (HV.trans aJ);have K:=eD ah;clear aJ ah HV;refine⟨⟨⟨W,λb j=>ar.below.block b (by
    simp only[fm,gp,gq] at j;rcases j with rfl|rfl
    ·exact ao.lt
    ·exact a4)⟩,rfl⟩, ?_⟩
   refine eT ?_;go_wp
   refine(an W ar).mono ?_;rintro e U ⟨f,z,c,rfl,r⟩;obtain⟨l,D⟩:∃l,l=gS f (.slice z (sq x n order).length c) (eW):=⟨_,rfl⟩;rw[<-D];have F:Hid (l.length=13/\(∀u∈l,u.oneCell'=true)/\l=gS f (.slice z (sq x n order).length c) (eW)):=eD ⟨by rw[D];rfl,by rw[D];exact vb _ _ _ _ _ _ _,D⟩;have au:=eD (r.kt _ _ K);have O:=eD (r.ext ar (eF.refl U));clear D r K;go_wp2;refine iH ?_;refine eT ?_;go_wp2_with (refine eG rfl 71 (.tmp 7) (.tmp 23) rfl g rfl l rfl au F.2.1 (by rw[F.1];kernel_rfl) (by rw[F.1];rfl) ?_)
   intro y3 V g3;have O:=eD (O.put au g3 aq ap);rw[F.2.2] at V;have K:=eD V;clear V g3 F au;go_wp
   refine iH ?_;refine fP ?_;go_wp
   go_meet;exact⟨g,f,z,c,rfl,K,O⟩
 case rest=>
 obtain⟨g,f,z,c,rfl,aK,r⟩:=hcut;generalize wc=wa at*;obtain⟨X,Y,a8,a9,aL⟩:=r.sh;have a':=eD r.hh;have aM:=eD r.lw;have aN:=eD r.rd;have ai:=eD aK;have I:=eD aL;clear J e1 e2 an ao aH r aL aK;have aO:=eD (λw' (o:eF wa w')=>NP x.es I.c.ri x.NA x.nc (x.es.length- 1+1) n order OA order.length oc w' (I.Wg.ext o) hn (by omega) (o.rd I.U1) rfl ak.1 (λC T=>by have:=ak.2 C T;omega));have j:=I.eH;unfold PH at j;have J:=j.ew 2 (.slice x.NA x.es.length x.nc) rfl;have e1:=j.ew 3 (.slice OA order.length oc) rfl;have HB:=eD j;clear j;go_wp
 refine iW [0,1,2,3,4,5,6,7,8] [] (.e [9] (.q [10] .done)) ?_;repeat(go_big_quiet_step (fail))
 refine eO ?_;clear J e1;have Z:=eD (eF.drew wa);generalize World.drew wa=v0 at*;refine eT ?_;go_wp
 refine(aO _ Z).mono ?_;rintro e W ⟨lv,rfl,r,o⟩;obtain⟨LA,lc,rfl⟩:=eR r;have ae:=eD (Z.trans o);have HO:=eD r;clear o Z aO r;go_wp2;refine iH ?_;refine fj ?_;repeat(go_big_quiet_step (fail))
 refine eO ?_;refine fP ?_;go_wp
 have bn:(sq x n order).length<=100:=by have Q:=oT (G:=mQ x.es) (N:=x.es.length- 1) I.c.ri.up (x.es.length- 1+1) n order (by omega) (by omega);exact eY (iM _ Q.nodup λC T=>(Q.p7 C T).mO (S:=λC=>C<x.es.length) (λC _ k H=>by have:=I.c.ri.up C k H;omega) hn) (by omega)
 have J:=(ae.eH ai).ew 0 (eE 0) rfl;have e2:=(ae.eH ai).ew 2 (.slice z (sq x n order).length c) rfl;have av:=eD (λw' (o:eF W w')=>tV (eM (sq x n order)) z LA c lc (sq x n order).length w' (fv _) (by omega) ((ae.trans o).rd aN.rd) (o.rd (Rd.fC HO)));go_cut [65] (λbb wx=>bb=fz false/\eF W wx)
 case first=>
  refine iW [0,1,2,3,4,5,6] [] (.e [7] (.q [8,9,10,11,12,13,15] (.e [14] (.q [16] (.e [17] (.q [18,19,20,22,23,24,26] (.jG (.e [21] (.e [25] (.q [27] (.e [28] (.q [29,30,31] .done))))) (.e [25] (.q [27] (.jG (.e [21] (.e [28] (.q [29,30,31] .done))) (.e [28] (.e [21] (.q [29,30,31] .done))))))))))))) ?_;repeat(go_big_quiet_step (fail))
  refine eO ?_;clear J e2;have Z:=eD (eF.drew W);generalize World.drew W=y0 at*;refine eT ?_;go_wp21
  refine(av _ Z).mono ?_;rintro e U ⟨rfl,o⟩;have A:=eD (Z.trans o);have aj:=eD (ae.trans A);have k1:=(aj.eH ai).ce 1 (eE (f:Nat));have k4:=(aj.eH HB).ce 4 (fN x.cg 13 13);have k5:=(aj.eH HB).ce 5 (fN x.hg 13 13);have kc:=aj.cell (I.RU (n:=n) (by omega));have kh:=aj.cell (I.TY (n:=n) (by omega));have bc:=a'.out;clear o Z av;go_wp2;refine iH ?_;refine fj ?_;repeat(go_big_quiet_step (fail))
  refine eO ?_;refine eT ?_;go_wp
  refine iH ?_;refine fj ?_;repeat(go_big_quiet_step (fail))
  refine eO ?_;by_cases bd:0<cnt n
  ·obtain rfl:=bc bd;have aP:((cnt n:Nat):Int)>0:=by omega
   refine eT ?_;go_wp2;try refine iH ?_
   refine fj ?_;repeat(go_big_quiet_step (fail))
   refine eO ?_;refine fX ?_ ?_
   ·skip
    refine eT ?_;go_wp
    try refine iH ?_
    refine eT ?_;go_wp
    try refine iH ?_
    refine fj ?_;repeat(go_big_quiet_step (fail))
    refine eO ?_;refine eT ?_;go_wp
    try refine iH ?_
    refine fj ?_;repeat(go_big_quiet_step (fail))
    refine eO ?_;refine fP ?_;go_wp
    go_meet;exact⟨rfl,A⟩
   ·skip
    refine eT ?_;go_wp
    try refine iH ?_
    refine fj ?_;repeat(go_big_quiet_step (fail))
    refine eO ?_;refine fX ?_ ?_
    ·skip
     refine eT ?_;go_wp
     try refine iH ?_
     refine eT ?_;go_wp
     try refine iH ?_
     refine fj ?_;repeat(go_big_quiet_step (fail))
     refine eO ?_;refine fP ?_;go_wp
     go_meet;exact⟨rfl,A⟩
    ·skip
     refine eT ?_;go_wp
     try refine iH ?_
     refine eT ?_;go_wp
     try refine iH ?_
     refine fj ?_;repeat(go_big_quiet_step (fail))
     refine eO ?_;refine fP ?_;go_wp
     go_meet;exact⟨rfl,A⟩
  ·have aP:cnt n=0:=by omega
   rw[aP] at kc;refine eT ?_;go_wp
   try refine iH ?_
   refine fj ?_;repeat(go_big_quiet_step (fail))
   refine eO ?_;refine fX ?_ ?_
   ·skip
    refine eT ?_;go_wp
    try refine iH ?_
    refine eT ?_;go_wp
    try refine iH ?_
    refine fj ?_;repeat(go_big_quiet_step (fail))
    refine eO ?_;refine eT ?_;go_wp
    try refine iH ?_
    refine fj ?_;repeat(go_big_quiet_step (fail))
    refine eO ?_;refine fP ?_;go_wp
    go_meet;exact⟨rfl,A⟩
   ·skip
    refine eT ?_;go_wp
    try refine iH ?_
    refine fj ?_;repeat(go_big_quiet_step (fail))
    refine eO ?_;refine fX ?_ ?_
    ·skip
     refine eT ?_;go_wp
     try refine iH ?_
     refine eT ?_;go_wp
     try refine iH ?_
     refine fj ?_;repeat(go_big_quiet_step (fail))
     refine eO ?_;refine fP ?_;go_wp
     go_meet;exact⟨rfl,A⟩
    ·skip
     refine eT ?_;go_wp
     try refine iH ?_
     refine eT ?_;go_wp
     try refine iH ?_
     refine fj ?_;repeat(go_big_quiet_step (fail))
     refine eO ?_;refine fP ?_;go_wp
     go_meet;exact⟨rfl,A⟩
 case rest=>
 obtain⟨rfl,o⟩:=hcut;have A:=eD (ae.trans o);clear J e2 av aN;have af:=eD (I.ext A);have aw:=eD (A.eH HB);have HF:=eD (af.rows.iU (Hj X.rows _ Y _));have aQ:=eD (o.rd (Rd.fC HO));have bo:=eY (iM (m:=x.es.length) order ak.1 (λC T=>by have:=ak.2 C T;omega)) a5.2;have be:=aw.ce 3 (.slice OA order.length oc);clear o HO;go_wp2_with (at_builtin;go_loud(refine iZ rfl _ _ rfl HF 0 _ (eM order) rfl rfl LA lc (sq x n order).length (eM (sq x n order)) rfl (fv _) aQ (by rw[fv];omega) (eX _) ?_))
 intro v4 t r4 g4 h4;clear be;have bf:(eM order++eM (sq x n order)).length=(order++sq x n order).length:=by rw[fT,fv,fv,fT]
 have o4:t.ownsRow 0 3 1 v4 (eM order++eM (sq x n order)).length (ints (eM order++eM (sq x n order))):=r4.own 0 _ rfl;rw[bf] at o4;obtain⟨v,y,rfl⟩:=eR o4;have al:CH 0 [3] [] wc t:=CH.grown g4 (HF.own 0 _ rfl) (by simp);have ad:=al.eH aw;have aR:Lw x.B wc t:=fi.mono (fi.grown g4) λk H=>af.ol k H.symm;have bp:=eY ap (eY aM.size A.size);have ax:fo 0 t (X.rows++(wu x.es v y (order++sq x n order) x.cg x.hg cnt hnd++Y)):=by refine fo.iU r4 ?_;rw[<-iJ];exact Fc.symm
 have ay:=ad.set 3 (.slice v (order++sq x n order).length y);have az:CH 0 [31] [] t (t.setCell (eJ x.xp 3) (.slice v (order++sq x n order).length y)):=CH.set ad (eX _) (by simp) 3 _;have aS:Lw x.B t (t.setCell (eJ x.xp 3) (.slice v (order++sq x n order).length y)):=(CH.set (B:=x.B) (L:=[31]) (M:=[]) ad af.lo.2.1 (by simp) 3 _).lw (fJ _);have aT:=af.re al ax az ay (λk H=>by
  rcases h4 with h4|h4
  ·exact af.ol k (h4▸H)
  ·rw[h4] at H;simp only[fd] at H;omega)
 have aU:=eD (aR.trans aS);have ag:=eD aT;have aV:=eD (az.eH (al.eH (A.eH ai)));have k3:=ad.ce 3 (.slice OA order.length oc);have f3:=ad.frozen 3;have aW:=eD ay;have k4:=ad.ce 4 (fN x.cg 13 13);have aA:t.ownsRow 0 3 1 (fN x.cg 13 13) 13 (ints (eM (lj cnt))):=by have:=ax.mem (p:=(fN x.cg 13 13,eM (lj cnt))) (by simp[wu]);rwa [nI] at this
 have kc:=C0 aA (rNa cnt (show n<13 by omega));have fc:=aA.frozenAt n;have bq:=a7.symm;clear aT aS aR az ay al ad r4 g4 h4 ax HF aQ I HB ai ae af aw o4 aA;go_wp
 rw[<-fT];have aX:fo 0 ((t.setCell (eJ x.xp 3) (.slice v (order++sq x n order).length y)).setCell (eJ x.cg n) (eE ((cnt n:Int)+1))) (X.rows++(wu x.es v y (order++sq x n order) x.cg x.hg (km cnt n (cnt n+1)) hnd++Y)):=by have:=fo.PI (i:=n) (u:=(cnt n:Int)+1) (a:=X.rows++[(.slice v (order++sq x n order).length y,eM (order++sq x n order))]) (b:=(.slice (some ⟨x.hg,0,none⟩) 13 13,eM (lj hnd))::(x.es.map λe=>(e.cell,eM e.l))++Y) (g:=x.cg) (c:=13) (l:=eM (lj cnt)) (l':=eM (lj (km cnt n (cnt n+1)))) (by simpa[wu] using ag.rows) (nI _) (by omega) (by have:=zz cnt (n:=n) (by omega) (cnt n+1);simpa using this);simpa[wu] using this
 have am:CH 0 [3] [] (t.setCell (eJ x.xp 3) (.slice v (order++sq x n order).length y)) ((t.setCell (eJ x.xp 3) (.slice v (order++sq x n order).length y)).setCell (eJ x.cg n) (eE ((cnt n:Int)+1))):=CH.pD ag.BQ (by simp) n _;have aY:Lw x.B (t.setCell ⟨x.xp,3,none⟩ (.slice v (order++sq x n order).length y)) ((t.setCell ⟨x.xp,3,none⟩ (.slice v (order++sq x n order).length y)).setCell ⟨x.cg,n,none⟩ (.int .i64 ((cnt n:Int)+1))):=fi.mono (fi.set _ x.cg n _) λk H=>by rw[H];exact ag.lo.2.2.1
 have aZ:=ag.re am aX (CH.refl 0 _ _ _) (am.eH aW) ag.ol;have bg:=eD (aU.trans aY);have a0:=eD aZ;have bh:=eD (am.eH aV);clear aX am aY aZ aU ag aW aV k3 f3 k4 kc fc;generalize(t.setCell (eJ x.xp 3) (.slice v (order++sq x n order).length y)).setCell (eJ x.cg n) (eE ((cnt n:Int)+1))=w6 at*;have aB:=a0.eH;unfold PH at aB;have J:=aB.ew 5 (fN x.hg 13 13) rfl;have e1:=bh.ew 1 (eE (f:Nat)) rfl;clear aB;refine iW [0,1,2,3,4,5,6,7] [] (.e [8] .done) ?_;repeat(go_big_quiet_step (fail))
 refine eO ?_;clear J e1;have a1:=eD (eF.drew w6);have P:=eD (a0.ext a1);have bi:=eD (bg.trans (Lw.fg a1));generalize World.drew w6=w7 at*;have kh:=P.TY (n:=n) (by omega);have fh:=P.BR.frozenAt n;refine eT ?_;go_wp
 refine iH ?_;refine fP ?_;go_wp
 go_ret;refine⟨rfl,⟨v,y,order++sq x n order,km cnt n (cnt n+1),km hnd n f,X,Y,a8,a9, ?_⟩, ?_⟩
 ·have bj:fo 0 (w7.setCell (eJ x.hg n) (eE (f:Nat))) (X.rows++(wu x.es v y (order++sq x n order) x.cg x.hg (km cnt n (cnt n+1)) (km hnd n f)++Y)):=by have:=fo.PI (i:=n) (u:=((f:Nat):Int)) (a:=X.rows++[(.slice v (order++sq x n order).length y,eM (order++sq x n order)),(.slice (some ⟨x.cg,0,none⟩) 13 13,eM (lj (km cnt n (cnt n+1))))]) (b:=(x.es.map λe=>(e.cell,eM e.l))++Y) (g:=x.hg) (c:=13) (l:=eM (lj hnd)) (l':=eM (lj (km hnd n f))) (by simpa[wu] using P.rows) (nI _) (by omega) (zz hnd (by omega) _);simpa[wu] using this
  have a2:CH 0 [3] [] w7 (w7.setCell (eJ x.hg n) (eE (f:Nat))):=CH.pD P.BR (by simp) n _;exact P.re a2 bj (CH.refl 0 _ _ _) (a2.eH P.eH) P.ol
 ·refine aM.trans (Lw.trans ?_ (bi.trans (fi.mono (fi.set _ x.hg n _) λk H=>by rw[H];exact P.lo.2.2.2)));exact Lw.fg A
end
end
end
section
open Go.RowKit Pl
theorem R0(b:eI)(a:UInt8):(convert 61 9 (fN b 3 3)).run prog (b.alloc (eN #[.int .u8 108,.int .u8 97,.int .u8 (a.toNat:Nat)] 5))=.ok (eV (fI [108,97,a])) (b.alloc (eN #[.int .u8 108,.int .u8 97,.int .u8 (a.toNat:Nat)] 5)):=
 tG _ _ 3 [108,97,a] (eQ.new b 5 #[.int .u8 108,.int .u8 97,.int .u8 (a.toNat:Nat)]).rd
theorem wv(k:Nat)(a:k<=12)(w:eI):Calls prog 14 #[eE (k:Nat)] w λe b=>e=fH (eV (fI (nB k)))/\eF w b:=by
 have c:=R0 w (UInt8.ofNat (97+k));match k,a with
 |0,_|1,_|2,_|3,_|4,_|5,_|6,_|7,_|8,_|9,_|10,_|11,_|12,_=>simp at c;go_in;go_wp2;go_ret;exact⟨rfl,eF.alloc _ _⟩
theorem FP(g:gh)(f:Int)(w:eI):Calls prog 30 #[eV (fI g),eE f] w λe i=>∃j,e=fH (fV (xa.eL ⟨g,2,f,j,3⟩).toArray)/\mT i 124 j (fO lL (rN f))/\eF w i:=by
 have c:∀a b,eQ ((w.alloc (eN a 127)).alloc (eN b 124)) (w.heap.size+1) 124 b:=λa b=>by have:=eQ.new (w.alloc (eN a 127)) 124 b;rwa [fM] at this
 have d:∀a b,eQ ((w.alloc (eN a 127)).alloc (eN b 124)) w 127 a:=λa b=>(eF.alloc _ _).eH (eQ.new _ _ _);have k:=eD (And.intro c d);clear c d;go_in;go_wp2;obtain⟨c,d⟩:=k.out;refine iA (iN rfl rfl ((d _ _).fK (P:=prog) 127 _ underlying127 rfl (by kernel_rfl))) rfl ⟨some (eJ (w.heap.size+1) 0),rfl,mT.new (c _ _),(eF.alloc _ _).trans (eF.alloc _ _)⟩
def Jf(w:eI)(n:Nat)(eP:fe)(e:Ending)(w':eI):Prop:=∃NA nc FA A1 A2 IA EA,e=fH (fV (qA n eP NA nc FA 2 A1 3 A2 3 IA 1 EA 1).eL.toArray)/\oC w' (qA n eP NA nc FA 2 A1 3 A2 3 IA 1 EA 1)/\eF w w'
theorem LM(n:Nat)(c:fe)(A:fE)(au:Nat)(w:eI)(hn:n<=12)(hk:∀k∈c,k<=12)(R:c.length<=8)(hr:Rd w A (ints (eM c))):Calls prog 13 #[eE (n:Nat),.slice A c au] w (Jf w n c):=by
 have HR:=eD hr;have HK:=eD hk;clear hr hk;go_in;go_wp
 have av:=eD (eF.alloc w (eN Qe 51));have S:=eD (eQ.new w 51 Qe);generalize w.alloc (eN Qe 51)=w1 at*;refine(wv n hn w1).mono ?_;rintro e w2 ⟨rfl,T⟩;have aw:=eD (av.trans T);have ax:=eD T;clear T;go_wp21
 refine(FP [105] n w2).mono ?_;rintro e w3 ⟨I,rfl,ak,U⟩;have ay:=eD (aw.trans U);have az:=eD (ax.trans U);have s:=eD ak;clear U ak;go_wp21
 refine(FP [101] (-(n:Int)) w3).mono ?_;rintro e a ⟨J,rfl,al,K⟩;have am:=eD (ay.trans K);have aA:=eD (az.trans K);have s:=eD (s.ext K);have V:=eD al;clear K al;generalize W:xa.eL ⟨[105],2,n,I,3⟩=f1;generalize X:xa.eL ⟨[101],2, -(n:Int),J,3⟩=f2;have an:Hid (f1.length=10):=eD (by rw[<-W];rfl);have ao:Hid (f2.length=10):=eD (by rw[<-X];rfl);have HF:=eD (And.intro W X);clear W X;go_wp2_with (refine ng rfl 48 127 2 _ rfl [f1,f2] 10 (by simp[go_sem]) rfl underlying48 (by kernel_rfl) (by intro aR R;simp only[fm,gp,gq] at R;rcases R with rfl|rfl;exact an;exact ao) (by decide) ?_)
 clear an ao;have t:=(((eF.alloc a (eN (f1++f2).toArray 127)).trans (eF.alloc _ (eN #[eV ⟨#[105]⟩] 9))).trans (eF.alloc _ (eN #[eV ⟨#[101]⟩] 9))).trans (eF.alloc _ (eN #[eV (fI (nB n)),eE 0,eW,eW,fN a 2 2,eW,eW,fN (a.heap.size+1) 1 1,fN (a.heap.size+1+1) 1 1] 51));have o:=eF.alloc (((a.alloc (eN (f1++f2).toArray 127)).alloc (eN #[eV ⟨#[105]⟩] 9)).alloc (eN #[eV ⟨#[101]⟩] 9)) (eN #[eV (fI (nB n)),eE 0,eW,eW,fN a 2 2,eW,eW,fN (a.heap.size+1) 1 1,fN (a.heap.size+1+1) 1 1] 51);have Y:=eF.alloc ((a.alloc (eN (f1++f2).toArray 127)).alloc (eN #[eV ⟨#[105]⟩] 9)) (eN #[eV ⟨#[101]⟩] 9);have v:=eF.alloc (a.alloc (eN (f1++f2).toArray 127)) (eN #[eV ⟨#[105]⟩] 9);have Z:=o.eH (Y.eH (v.eH (eQ.new a 127 (f1++f2).toArray)));have b2:=o.eH (Y.eH (eQ.new (a.alloc (eN (f1++f2).toArray 127)) 9 #[eV ⟨#[105]⟩]));have b3:=o.eH (eQ.new ((a.alloc (eN (f1++f2).toArray 127)).alloc (eN #[eV ⟨#[105]⟩] 9)) 9 #[eV ⟨#[101]⟩]);have b4:=eQ.new (((a.alloc (eN (f1++f2).toArray 127)).alloc (eN #[eV ⟨#[105]⟩] 9)).alloc (eN #[eV ⟨#[101]⟩] 9)) 51 #[eV (fI (nB n)),eE 0,eW,eW,fN a 2 2,eW,eW,fN (a.heap.size+1) 1 1,fN (a.heap.size+1+1) 1 1];simp only[fM] at Z b2 b3 b4;have ad:=eD (am.trans t);have s:=eD (s.ext t);have V:=eD (V.ext t);have aS:=am.size;have aB:=eD ((aA.trans t).eH S);clear t o Y v;generalize(((a.alloc (eN (f1++f2).toArray 127)).alloc (eN #[eV ⟨#[105]⟩] 9)).alloc (eN #[eV ⟨#[101]⟩] 9)).alloc (eN #[eV (fI (nB n)),eE 0,eW,eW,fN a 2 2,eW,eW,fN (a.heap.size+1) 1 1,fN (a.heap.size+1+1) 1 1] 51)=w5 at*;generalize aT:a.heap.size=b at*;have aC:=eD Z;have aD:=eD b2;have aE:=eD b3;have ae:=eD b4;clear Z b2 b3 b4;trace_state
 go_loopw [21] (λi wr=>∃(k:Nat) (j:fE) (l:Nat),k<=c.length/\i=eE k/\wr.ownsRow w 130 2 (.slice j k l) k (fO mr ((c.take k).map nB))/\eQ wr (b+1+1+1) 51 #[eV (fI (nB n)),eE 0,.slice j k l,eW,fN b 2 2,eW,eW,fN (b+1) 1 1,fN (b+1+1) 1 1]/\CH w [130] [b+1+1+1] w5 wr) (λi _=>c.length- (intOf i).toNat)
 case atStart=>exact⟨0,none,0,eX _,rfl,ji _ _ _ _,ae,CH.refl _ _ _ _⟩
 case round=>
  obtain⟨k,j,l,aU,rfl,N,x,f⟩:=hrel;by_cases af:k<c.length
  ·obtain⟨aV,aW,rfl,aF,d0⟩:=ja ((fi.ext f ad (λi m=>m.1)).rd HR) af;have aG:=HK _ (eU af);have aH:=eD (iz af);generalize c[k]=y at*;have e2:=x.ew 2 (.slice j k l) rfl;have z:=eD N;have HB:=eD x;have HC:=eD f;clear aF N x f;go_wp
   refine iW [0,1,2] [3,4,5] (.e [3] (.e [4] (.e [5] (.e [6] (.q [7] (.e [8] .done)))))) ?_;repeat(go_big_quiet_step (fail))
   refine eO ?_;clear e2 d0;have d:=eD (eF.drew wr);generalize World.drew wr=v0 at*;refine eZ ?_;go_wp
   refine(wv y aG v0).mono ?_;rintro e O ⟨rfl,o⟩;have d:=eD (d.trans o);clear o;go_wp2;refine⟨⟨⟨_,d⟩,rfl⟩, ?_⟩;refine eZ ?_;go_wp
   refine⟨⟨⟨_,d⟩,rfl⟩, ?_⟩;refine eZ ?_;go_wp
   have v:=eF.alloc O (eN #[eV (fI (nB y)),eW] 130);have b8:=eQ.new O 130 #[eV (fI (nB y)),eW];generalize aX:O.heap.size=g8 at*;have d:=eD (d.trans v);generalize O.alloc (eN #[eV (fI (nB y)),eW] 130)=w8 at*;have z:=eD (d.own z);have aI:=eD b8.rd;have aJ:w.heap.size<=w8.heap.size:=by have:=d.size;have:=HC.size;have:=ad.size;omega
   clear v b8;refine⟨⟨⟨_,d⟩,rfl⟩, ?_⟩;refine eT ?_;go_wp2_with (at_builtin;go_loud(refine A8 rfl _ _ rfl z aJ rfl _ _ [eV (fI (nB y)),eW] 1 rfl rfl aI (by simp[Value.oneCell']) (by omega) ?_))
   intro v7 w7 o7 g7 b7;obtain⟨C,D,rfl⟩:=eR o7;have ag:=CH.grown (L:=[130]) (M:=[]) g7 z (by simp);have E:=ag.eH (d.eH HB);have aK:=eD ((HC.ext d).trans (M':=[b+1+1+1]) ((ag.mono (M':=[b+1+1+1]) (λ_ h=>h) (by simp)).trans (CH.uq (w:=w7) (g:=b+1+1+1) (i:=2) (u:=.slice C (k+1) D) (by omega) (by simp)) (λi m=>.inl m)) (λi m=>.inl m));have aL:=eD (eQ.set E 2 (.slice C (k+1) D));have o8:=(CH.set (B:=0) (L:=[51]) (M:=[]) E (eX _) (by simp) 2 (.slice C (k+1) D)).own o7;have aM:Hid (World.ownsRow _ w 130 2 (.slice C (k+1) D) (k+1) (fO mr ((c.take (k+1)).map nB))):=eD (by rw[aH,iC,hZ];simpa[fO,mr] using o8);have f7:=E.frozen 2;have d7:=E.ce 2 (.slice j k l);clear g7 b7 o7 o8 ag E HC HB z d;go_wp
   refine iH ?_;refine fj ?_;repeat(go_big_quiet_step (fail))
   refine eO ?_;refine eT ?_;go_wp
   refine iH ?_;refine fP ?_;go_wp
   go_roundw
   case rel=>exact⟨k+1,C,D,by omega,by go_num,aM,aL,aK⟩
   case measure=>simp[intOf];omega
  ·obtain rfl:k=c.length:=by omega
   have hx:=fi.ext f ad (λi m=>m.1);obtain⟨L,Q⟩:∃L:fY,L=[.string (fI (nB n)),.int .i64 0,.slice j c.length l,.slice none 0 0,.slice (some ⟨b,0,none⟩) 2 2,.slice none 0 0,.slice none 0 0,.slice (some ⟨b+1,0,none⟩) 1 1,.slice (some ⟨b+1+1,0,none⟩) 1 1]:=⟨_,rfl⟩;have ah:eQ wr (b+1+1+1) 51 L.toArray:=by rw[Q];exact x
   have F:L.length=9/\∀u∈L,u.oneCell'=true:=by rw[Q];exact⟨rfl,by simp[Value.oneCell']⟩
   have ap:=eD (ah.fK (P:=prog) 51 _ underlying51 rfl (by rw[F.1];kernel_rfl));have ai:=f.eH aB (by decide) (by simp;omega);have aj:∀i,i<=2->b+i∉[b+1+1+1]:=λi m=>by simp;omega
   have c1:=f.eH aC (by decide) (aj 0 (by omega));have c2:=f.eH aD (by decide) (aj 1 (by omega));have c3:=f.eH aE (by decide) (aj 2 (by omega));have r1:=s.ch f (by decide) (λaN hm hT=>by obtain⟨cs,aO,fr,G,H⟩:=hT;rw[fF.1 hm] at G;have:=ae.out;unfold eQ at this;rw[G] at this;simp only[fd,yV] at this;rw[this.2.1] at H;exact absurd H (by decide))
   have r2:=V.ch f (by decide) (λaN hm hT=>by obtain⟨cs,aO,fr,G,H⟩:=hT;rw[fF.1 hm] at G;have:=ae.out;unfold eQ at this;rw[G] at this;simp only[fd,yV] at this;rw[this.2.1] at H;exact absurd H (by decide))
   have aq:Hid (∀p,eQ p w 51 L.toArray->wr.grownBy p (some w)->Jf w n c (fH (fV L.toArray)) p):=eD (λp ah ar=>by
    have r:=CH.mg ai ar;have o9:=r.own N;rw[iT] at o9;have e1:L.toArray=(qA n c j l (some (eJ b 0)) 2 I 3 J 3 (some (eJ (b+1) 0)) 1 (some (eJ (b+1+1) 0)) 1).eL.toArray:=by rw[Q];simp[lM.eL,qA]
    rw[e1];have e2:fO xa.eL (qA n c j l (some (eJ b 0)) 2 I 3 J 3 (some (eJ (b+1) 0)) 1 (some (eJ (b+1+1) 0)) 1).fs=f1++f2:=by rw[<-HF.1,<-HF.2];rfl
    refine⟨j,l,_,I,J,_,_,rfl,⟨mT.fC o9 (Rd.gY o9), ?_,λaY hf=> ?_,mT.new (r.eH c2),mT.new (r.eH c3)⟩,(fi.grown ar).ext hx⟩
    ·rw[e2];exact mT.new (r.eH c1)
    ·simp only[qA,fm,gp,gq] at hf;rcases hf with rfl|rfl
     ·exact r1.ch r
     ·exact r2.ch r)
   have S:=eD ai;clear Q x ah ai f N c1 c2 c3 r1 r2;go_wp2_with (first|(refine eK rfl 51 (.tmp 5) rfl _ rfl (fV L.toArray) ap ?_)|(refine eG rfl 51 (.tmp 4) (.tmp 34) rfl w rfl L rfl S F.2 (by rw[F.1];kernel_rfl) (by rw[F.1];rfl) ?_))
   intro p b9 g9;have aP:=eD (b9.fK (P:=prog) 51 _ underlying51 rfl (by rw[F.1];kernel_rfl));have aQ:=eD (aq p b9 g9);clear b9 g9 aq ap;go_wp
   try simp only[Exit.inBlock,Exit.then]
   exact iA (iN rfl rfl aP) rfl aQ
end
section
open Go.RowKit Go.Maps
theorem FT(H:eI):Calls prog 4 #[] H λe x=>e=fH (fz true)/\eF H x:=by
 go_in;go_wp
 refine(FD H).mono ?_;rintro e g ⟨I,J,rfl,ad,ae⟩;have y:=eD ad;have aE:=eD ae;clear ad ae;obtain⟨l,z⟩:∃b,b=(kP J 1 I 3).eL:=⟨_,rfl⟩;rw[<-z];have aF:=eD z;have aG:l.length=9:=by rw[z];rfl
 clear z;go_wp2_with (refine jF rfl 29 51 (.tmp 4) rfl l 9 rfl underlying29 (by kernel_rfl) aG (by decide) ?_)
 have K:=eF.alloc g (eN l.toArray 51);have M:=eD (eQ.new g 51 l.toArray);have af:=eD (aE.trans K);have y:=eD (y.ext K);clear K;generalize g.heap.size=A at*;generalize g.alloc (eN l.toArray 51)=m at*;refine(Fy (some (eJ A 0)) 1 1 m).mono ?_;rintro e c ⟨N,O,mt,P,Q,R,n,rfl,ag,ah,ai,aj,ak,al,o,d,am,B⟩;have an:=eD d.1;have S:=eD ag;have ao:Hid (zw c m O P mt Q R (some (eJ A 0)) [kP J 1 I 3] [] n):=eD (by obtain⟨i1,i2,i3,i4,i5,i6,i7,i8,i9,aH⟩:=o;exact⟨⟨ah,ai⟩,aj,ak,al,⟨i1,i2,i3,i4,i5,i6,aH⟩,⟨d.2.2.2.1,d.2.2.2.2,d.2.2.1⟩,am,by rw[i7];exact At.put (D:=DataW.map []) ⟨_,rfl⟩ (show WideAt.IsKeyLit (.string [47]) from trivial) _,by rw[i7];exact⟨_,rfl⟩,by rw[aF.out] at M;simpa[fO] using mT.new (B.eH M.out),λi hx=>by rw[fF.1 hx];exact y.ext B⟩)
 have ap:Hid (n.D=zJ/\n.fn=1/\n.fl=0):=eD ⟨o.2.2.2.2.2.2.1,o.2.2.2.2.2.2.2.1,o.2.2.2.2.2.2.2.2.1⟩;have aI:=eD (af.trans B);clear ag ah ai aj ak al o d am B M y;have p:=eF.alloc c (eN (fO Av.l Ah).toArray 63);have aq:(c.alloc (eN (fO Av.l Ah).toArray 63)).ownsRow 0 63 7 (fN c Ah.length Ah.length) Ah.length (fO Av.l Ah):=(eQ.new c 63 (fO Av.l Ah).toArray).LK rfl (by decide) (eX _);have aJ:=eY an (lN S.lt);have hP:=Fu Ah (some (eJ c 0)) Ah.length N (c.alloc (eN (fO Av.l Ah).toArray 63)) (by decide) aq (λk T x=>U4 m N O P mt Q R (some (eJ A 0)) (kP J 1 I 3) n k T x/\Lw m c x)
  ⟨⟨rfl,p.eH S.out,ao.out.ch (B0:=0) (L:=[]) (CH.fg p) (by simp)⟩,Lw.fg p⟩
  (λk b g aK h r=>⟨U5 k b h.1 r,h.2.trans (r.lw (eY aJ p.size))⟩)
  (λk U b g h=>(U' ap.out an.out k U b g h.1).mono λe aK ⟨aL,e1,e2,e3,e4⟩=>⟨aL,e1,⟨e2,h.2.trans e4⟩,e3⟩)
 have HP:=eD hP;clear p aq hP S ao ap;go_wp2_with (refine ng rfl 73 63 4 _ rfl [iE 2 ⟨#[47,112]⟩ ⟨#[]⟩ none 0 0 0 0 0,iE 8 ⟨#[47,112]⟩ ⟨#[]⟩ none 0 0 0 0 0,iE 13 ⟨#[102]⟩ ⟨#[]⟩ none 0 0 0 1 0,iE 14 ⟨#[]⟩ ⟨#[]⟩ none 0 0 1 99 0] 7 (by simp[go_sem,iE]) rfl underlying73 (by kernel_rfl) (by intro b hl;simp only[fm,gp,gq] at hl;rcases hl with rfl|rfl|rfl|rfl<;>rfl) (by decide) ?_)
 refine HP.mono ?_;rintro e w5 ⟨TA,tc,T,rfl,aM,ar,hI,au⟩;rw[show Ah.length=4 from rfl];have aN:V3 m N O P mt Q R (some (eJ A 0)) T w5:=hI;obtain⟨t0,t1,t2,t3,s2,D,aW,av,aw,rfl,⟨A1,c1,ax⟩,V,ay,a⟩:=aN;obtain⟨Dh,nh,hs,next,hd⟩:=a.hd;have HV:=eD (FK a.lk a.pr hd (a.wb.cell 0 rfl) a.rg.1 a.rg.2 a.os.2.2.2 (by have:=a.os.1;omega) a.os.2.1 a.os.2.2.1 a.th.1);have W:=eD (And.intro a.os.1 a.th.2);have aO:=eD (au.ext aI af.size);have C:=Rd.gY ar;obtain⟨j,s⟩:∃j,j=fO Tv.l [t0,t1,t2,t3]:=⟨_,rfl⟩;have X:j[13]? =some (.int .i64 0):=by rw[s];have:=iI (f:=Tv.l) (k:=13) (λi=>i.len) [t0,t1,t2,t3] 1 0 (by simp) (by omega);simpa[ax,gS] using this
 have k2:j[41]? =some (.slice (some ⟨av,0,none⟩) 1 aw):=by rw[s];have:=iI (f:=Tv.l) (k:=13) (λi=>i.len) [t0,t1,t2,t3] 3 2 (by simp) (by omega);simpa[V,T4] using this
 have k3:j[43]? =some (.int .i64 1):=by rw[s];have:=iI (f:=Tv.l) (k:=13) (λi=>i.len) [t0,t1,t2,t3] 3 4 (by simp) (by omega);simpa[V,T4] using this
 rw[<-s] at C;obtain⟨tb,aP,rfl,aQ⟩:=C 13 (jS.1 X).1;have E:∀F v,j[F]? =some v->w5.cell? (eJ tb (aP+F))=some v:=λF v h=>by obtain⟨aX,aY,e,r⟩:=C F (jS.1 h).1;simp only[fd,ny,gP] at e;obtain⟨rfl,rfl⟩:=e;rw[<-gg,h] at r;exact r
 have aR:=eD (E 13 _ X);have aS:=eD (E 41 _ k2);have aT:=eD (E 43 _ k3);have aU:=eD ay.rd;clear ar C E aQ X k2 k3 s hI hd a ay au HP aM ax V;go_wp21
 refine HV.mono ?_;rintro e Y ⟨b,rfl,az,d,⟨A0,c0,Z⟩,⟨A5,c5,h5⟩,aA⟩;rw[W.1] at Z;rw[W.2] at h5;have t:=eD (And.intro az (And.intro d (And.intro Z h5)));have aB:=eD aA;have HG:=eD (eQ.new Y 41 BY);clear az d Z h5 aA HV W;go_wp2_with (refine eG rfl 41 (.tmp 3) (.tmp 18) rfl Y rfl b rfl HG t.2.1 (by rw[t.1];kernel_rfl) (by rw[t.1];rfl) ?_)
 intro G b7 g7;have u:=eD ((fi.grown g7).ext (aB.trans (eF.alloc _ _)) (λk U=>by simp only[fd] at U;have:=aB.size;omega));have v0:=b7.cell 0 (v:=.slice A0 1 c0) (by simpa using t.2.2.1);have v5:=b7.cell 5 (v:=.slice A5 2 c5) (by simpa using t.2.2.2);have q1:=u.cell aR;have q2:=u.cell aS;have q3:=u.cell aT;generalize Y.heap.size=g6 at*;have aC:=eD (tV [9] (some (eJ av 0)) (some (eJ G 0)) aw 1 1 (G.alloc (eN #[eE 9] 3)) rfl (by omega) ((u.trans (eF.alloc _ _)).rd aU) (vz G 9));clear b7 g7;go_wp21
 refine aC.mono ?_;rintro e w8 ⟨rfl,aD⟩;have w:=(eF.alloc G (eN #[eE 9] 3)).trans aD;have q3:=w.cell q3;have v0:=w.cell v0;have v5:=w.cell v5;have aV:=eD (aO.trans (u.trans w));clear aD w q1 q2 aC;go_wp2;go_ret;exact⟨rfl,aV⟩
section
theorem FU{d:Type}{a:List d}{f b:d}(h:(a++[f])[n]? =some b):a[n]? =some b\/(n=a.length/\b=f):=by
 rcases m0 n a.length with c|c
 ·rw[qp c] at h;exact .inl h
 ·rw[qq c] at h;obtain⟨g,i⟩:=jS.1 h;simp only[ti] at g;exact .inr ⟨by omega,by rw[<-i];simp⟩
theorem FV{a:Type}{b:List a}{d c:a}(h:b[n]? =some c):(b++[d])[n]? =some c:=by rw[qp (jS.1 h).1];exact h
def Ug(k:Nat):List Av:=FN 1 (fI u5) 0 0::FN 2 (fI (jk 0)) 0 0::(List.range k).map λi=>FN 2 (fI (jk (i+1))) 0 ((i+1:Nat):Int)
theorem P0(a:Nat):Ug (a+1)=Ug a++[FN 2 (fI (jk (a+1))) 0 ((a+1:Nat):Int)]:=by simp[Ug,un]
theorem R2(n:Nat):C5 n=Ug n++[FN 8 (fI (ff [[112]])) 0 0]:=rfl
structure tX(w:eI)(n:Nat)(wr:eI)(es:List Ed)(fL:List lM)(k:Nat)(SA:fE)(sc:Nat)(NA:fE)(nc:Nat)(AA:fE)(ac:Nat)(g4 xp cg hg:Nat)(p0 p1:eS):Prop where
 ext:eF w wr
 sp:wr.ownsRow w 51 9 (.slice SA fL sc) fL (fO lM.eL fL)
 Hh:∀x∈fL,oC wr x
 st:eQ wr g4 57 #[.slice SA fL sc,eW,eW,fz false]
 xb:eQ wr xp 31 #[p0,p1,.slice NA es nc,eW,fN cg 13 13,fN hg 13 13]
 nd:wr.ownsRow w 23 1 (.slice NA es nc) es (es.map Ed.cell)
 ri:fo w wr ((fN cg 13 13,eM (lj λ_=>0))::(fN hg 13 13,eM (lj λ_=>0))::es.map λe=>(e.cell,eM e.l))
 ac:wr.ownsRow w 63 7 (.slice AA (k+2) ac) (k+2) (fO Av.l (Ug k))
 l4:w.heap.size<=g4
 lx:w.heap.size<=xp
 nm:∀k x,fL[k]? =some x->(k=0/\∃FA A,x=kP FA 1 A 3)\/(1<=k/\∃e NA nc FA A1 A2 IA EA,es[k]? =some e/\x=qA k e.l NA nc FA 2 A1 3 A2 3 IA 1 EA 1)
 e0:∃e,es[0]? =some e/\e.l=[]
 up:∀k e,es[k]? =some e->(∀y∈e.l,k<y/\y<=n)/\e.l.length<=8
section
variable {w w1 w2 w7:eI} {n k:Nat} {es:List Ed} {fL:List lM} {SA NA AA A7:fE} {sc nc ac c7 g4 xp cg hg:Nat} {p0 p1:eS}
theorem tX.to(h:tX w n w1 es fL k SA sc NA nc AA ac g4 xp cg hg p0 p1)(a:eF w1 w2):tX w n w2 es fL k SA sc NA nc AA ac g4 xp cg hg p0 p1:=
 {h with ext:=h.ext.trans a,sp:=a.own h.sp,Hh:=λb c=>(h.Hh b c).ext a,st:=a.eH h.st,xb:=a.eH h.xb,nd:=a.own h.nd,ri:=h.ri.ext a,ac:=a.own h.ac}
theorem tX.lS(h:tX w n w1 es fL k SA sc NA nc AA ac g4 xp cg hg p0 p1){L:mB}{c q1:eS}(b:CH w L [] w1 w2)(d:eQ w2 xp 31 #[c,q1,.slice NA es nc,eW,fN cg 13 13,fN hg 13 13])(a:∀f∈[51,57,23,3,63,130,127,124,9],f∉L:=by decide):tX w n w2 es fL k SA sc NA nc AA ac g4 xp cg hg c q1:=
 {h with ext:=fi.ext b h.ext λl g=>g.1,sp:=b.own h.sp (a _ (by simp)) (by simp),Hh:=λi j=>(h.Hh i j).ch b (a _ (by simp)) (a _ (by simp)) (a _ (by simp)) (a _ (by simp)),st:=b.eH h.st (a _ (by simp)),xb:=d,nd:=b.own h.nd (a _ (by simp)) (by simp),ri:=h.ri.ch b (a _ (by simp)) (by simp),ac:=b.own h.ac (a _ (by simp)) (by simp)}
theorem tX.Vf(h:tX w n w1 es fL k SA sc NA nc AA ac g4 xp cg hg p0 p1)(a:eS):tX w n (w1.setCell (eJ xp 0) a) es fL k SA sc NA nc AA ac g4 xp cg hg a p1:=
 h.lS (L:=[31]) (CH.set h.xb h.lx (by simp) 0 _) (by simpa using h.xb.set 0 a)
theorem tX.PI(h:tX w n w1 es fL k SA sc NA nc AA ac g4 xp cg hg p0 p1)(u:eS):tX w n (w1.setCell (eJ xp 1) u) es fL k SA sc NA nc AA ac g4 xp cg hg p0 u:=
 h.lS (L:=[31]) (CH.set h.xb h.lx (by simp) 1 _) (by simpa using h.xb.set 1 u)
theorem tX.h'(h:tX w n w1 es fL k SA sc NA nc AA ac g4 xp cg hg p0 p1){A:fE}{c:Nat}{l:fe}(g:OR w1 w2 3 1 (.slice A l c) l (ints (eM l)))(t:w7.ownsRow w 23 1 (.slice A7 (es.length+1) c7) (es.length+1) (es.map Ed.cell++[.slice A l c]))(u:w2.grownBy w7 (Value.slice NA es nc).ownBlock)(x:∀p∈l,es.length<p/\p<=n)(y:l.length<=8):
 tX w n (w7.setCell (eJ xp 2) (.slice A7 (es.length+1) c7)) (es++[⟨A,c,l⟩]) fL k SA sc A7 c7 AA ac g4 xp cg hg p0 p1:=by
 have a:=h.to g.ext;have b:CH w [23] [] w2 w7:=CH.grown u a.nd (by simp);have r:=b.eH a.xb;have d:CH w [31] [] w7 (w7.setCell (eJ xp 2) (.slice A7 (es.length+1) c7)):=CH.set r h.lx (by simp) 2 _;have s:(es++[Ed.mk A c l]).length=es.length+1:=by simp
 refine {h with ext:=fi.ext d (fi.ext b a.ext λz i=>i.1) λz i=>i.1,sp:=d.own (b.own a.sp),Hh:=λj B=>((a.Hh j B).ch b (by decide) (by decide) (by decide) (by decide)).ch d (by decide) (by decide) (by decide) (by decide),st:=d.eH (b.eH a.st),xb:= ?_,nd:= ?_,ri:= ?_,ac:=d.own (b.own a.ac),nm:=λk j f=> ?_,e0:= ?_,up:=λk e f=> ?_}
 ·rw[s];simpa using r.set 2 _
 ·rw[s,iC];exact d.own t
 ·have C:=h.ri.add g.ext (.one (v:=.slice A l.length c) (xs:=eM l) (by rw[fv];exact g.own)) h.ext.size;refine fo.ch (hM:=by simp) (fo.ch (hM:=by simp) ?_ b) d;simpa[Ed.cell] using C
 ·rcases h.nm k j f with m|⟨m,e,q1,o,D,E,F,G,H,I,J⟩
  ·exact .inl m
  ·exact .inr ⟨m,e,q1,o,D,E,F,G,H,FV I,J⟩
 ·obtain⟨e,q1,o⟩:=h.e0;exact⟨e,FV q1,o⟩
 ·rcases FU f with f|⟨rfl,rfl⟩
  ·exact h.up k e f
  ·exact⟨x,y⟩
theorem tX.spec(h:tX w n w1 es fL k SA sc NA nc AA ac g4 xp cg hg p0 p1)(v:eF w1 w2){e:Ed}{f:fE}{g:Nat}{i j l m o:fE}(d:oC w2 (qA fL e.l f g i 2 j 3 l 3 m 1 o 1))(x:1<=fL.length)(y:es[fL.length]? =some e)(z:w7.ownsRow w 51 9 (.slice A7 (fL.length+1) c7) (fL.length+1) (fO lM.eL fL++(qA fL e.l f g i 2 j 3 l 3 m 1 o 1).eL))(A:w2.grownBy w7 (Value.slice SA fL sc).ownBlock):
 tX w n (w7.setCell (eJ g4 0) (.slice A7 (fL.length+1) c7)) es (fL++[qA fL e.l f g i 2 j 3 l 3 m 1 o 1]) k A7 c7 NA nc AA ac g4 xp cg hg p0 p1:=by
 have a:=h.to v;have b:CH w [51] [] w2 w7:=CH.grown A a.sp (by simp);have t:=b.eH a.st;have c:CH w [57] [] w7 (w7.setCell (eJ g4 0) (.slice A7 (fL.length+1) c7)):=CH.set t h.l4 (by simp) 0 _;generalize B:qA fL.length e.l f g i 2 j 3 l 3 m 1 o 1=p at*;have u:(fL++[p]).length=fL.length+1:=by simp
 refine {h with ext:=fi.ext c (fi.ext b a.ext λC d=>d.1) λC d=>d.1,sp:= ?_,Hh:=λr hm=> ?_,st:= ?_,xb:=c.eH (b.eH a.xb),nd:=c.own (b.own a.nd),ri:=fo.ch (hM:=by simp) (fo.ch (hM:=by simp) a.ri b) c,ac:=c.own (b.own a.ac),nm:=λk r s=> ?_}
 ·rw[u,hZ];have:fO lM.eL [p]=p.eL:=by simp[fO]
  rw[this];exact c.own z
 ·refine oC.ch (oC.ch ?_ b (by decide) (by decide) (by decide) (by decide)) c (by decide) (by decide) (by decide) (by decide);rcases gu.1 hm with hm|hm
  ·exact a.Hh r hm
  ·rw[fF.1 hm];exact d
 ·rw[u];simpa using t.set 0 _
 ·rcases FU s with s|⟨rfl,rfl⟩
  ·exact h.nm k r s
  ·exact .inr ⟨x,e,_,_,_,_,_,_,_,y,B.symm⟩
theorem tX.Wr(h:tX w n w1 es fL k SA sc NA nc AA ac g4 xp cg hg p0 p1)(c:eF w1 w2)(d:w7.ownsRow w 63 7 (.slice A7 (k+2+1) c7) (k+2+1) (fO Av.l (Ug k)++iE 2 (fI (jk (k+1))) ⟨#[]⟩ none 0 0 0 ((k+1:Nat):Int) 0))(f:w2.grownBy w7 (Value.slice AA (k+2) ac).ownBlock):
 tX w n w7 es fL (k+1) SA sc NA nc A7 c7 g4 xp cg hg p0 p1:=by
 have a:=h.to c;have b:CH w [63] [] w2 w7:=CH.grown f a.ac (by simp);refine {h with ext:=fi.ext b a.ext λl g=>g.1,sp:=b.own a.sp,Hh:=λi j=>(a.Hh i j).ch b (by decide) (by decide) (by decide) (by decide),st:=b.eH a.st,xb:=b.eH a.xb,nd:=b.own a.nd,ri:=fo.ch (hM:=by simp) a.ri b,ac:= ?_};rw[P0,hZ];have:fO Av.l [FN 2 (fI (jk (k+1))) 0 ((k+1:Nat):Int)]=iE 2 (fI (jk (k+1))) ⟨#[]⟩ none 0 0 0 ((k+1:Nat):Int) 0:=by simp[fO,FN]
 rw[this];exact d
theorem tX.C7(h:tX w n w1 es fL k SA sc NA nc AA ac g4 xp cg hg p0 p1)(g:es.length=n+1)(j:n<=12):yR es/\(∀i,(mQ es i).length<=8)/\mQ es 0=[]:=by
 have c:∀i,(mQ es i).length<=8:=λi=>by
  unfold mQ;match b:es[i]? with
  |some e=>exact(h.up i e b).2
  |none=>simp
 refine⟨⟨λi d a=> ?_,by omega,λi=>by have:=c i;omega⟩,c, ?_⟩
 ·unfold mQ at a;match b:es[i]?,a with
  |some e,a=>have:=(h.up i e b).1 d a;omega
  |none,a=>simp at a
 ·obtain⟨e,q1,f⟩:=h.e0;unfold mQ;rw[q1];exact f
theorem tX.Vg(h:tX w n w1 es fL k SA sc NA nc AA ac g4 xp cg hg p0 p1)(u:fL.length=n+1)(v:n<=12):(∀i (a:i<fL.length),Cm fL[i] (ii (mQ es) i))/\∀i (a:i<fL.length),1<=i->fL[i].name=nB i:=by
 refine⟨λi a=> ?_,λi a d=> ?_⟩
 ·rcases h.nm i _ (gg a) with⟨rfl,f,g,e⟩|⟨d,e,q1,j,l,m,o,p,r,b,c⟩
  ·rw[e];exact IB f 1 g 3
  ·rw[c];have:=h.up i e b;unfold ii;rw[fG (by omega),show mQ es i=e.l by unfold mQ;rw[b]];exact Te (by omega) this.2 (λs t=>by have:=this.1 s t;omega) _ _ _ _ _ _ _ _ _ _ _ _
 ·rcases h.nm i _ (gg a) with⟨rfl,_⟩|⟨_,e,q1,j,l,m,o,p,r,b,c⟩
  ·omega
  ·rw[c];rfl
end
theorem it.down{p:Nat}{b:LS}(h:it w n p b kB)(a:k<=n):it w k p b kB:=
 ⟨h.eH,eY a h.low,h.vH.mono a,h.rT.mono a,h.qb.mono a,fq h.row a,h.ints,λc d=>eY a (h.ku c d)⟩
theorem BP.down{f:Nat->fe}{mt p next:Nat}{l:LS}{o:List Hn}(h:BP w f n k i j b mt c p A d g N l kB kC D E o next)(a:m<=k):BP w f n m i j b mt c p A d g N l kB kC D E o next:=
 {h with lk:={h.lk with mem:=h.lk.mem.down a},low:=⟨eY a h.low.1,eY a h.low.2.1,eY a h.low.2.2⟩}
section
variable {w w17 w18 w20 w21:eI} {n k:Nat} {es:List Ed} {fL:List lM} {SA NA AA:fE} {sc nc ac g4 xp cg hg wp pp lp mt m p:Nat} {p0 p1:eS} {s:LS}
theorem tX.ex(h:tX w n w17 es fL k SA sc NA nc AA ac g4 xp cg hg p0 p1)(d:eF w17 w18)(a:it w18 w17 p s []):it w18 w17 p s (wu es none 0 [] cg hg (λ_=>0) (λ_=>0)):=by
 have f:fo w17 w18 s.rows:=by
  have b:fo 0 w18 s.rows:=by have:=a.ints;rwa [ox] at this
  exact .of (λq c=>qE (b.mem c) λk g=>a.ku k (fu.2 ⟨q,c,g⟩)) b.nodup
 refine a.UN ?_;have:=(((h.ri.mono (eX _)).add d f (eX _)).iU wT).PC;simpa[wu,eM] using this
theorem tX.VO(h:tX w n w17 es fL k SA sc NA nc AA ac g4 xp cg hg (.pointer none) (.slice SA fL sc))(b:es.length=n+1)(x:fL.length=n+1)(M:1<=n)(g:n<=12)(y:eF w17 w18)(i:CH w [63] [] (w18.setCell (eJ xp 0) (fw wp)) w20)(j:Lw w17 w20 w21)(N:w17.heap.size<=wp){z:List Tv}(A:Uf w17 wp pp lp mt m p sc SA fL (wu es none 0 [] cg hg (λ_=>0) (λ_=>0)) (mQ es) n (n+3) z w21):
 ∃c l,c.xp=xp/\c.es.length=n+1/\l<=20/\c.B=w.heap.size/\RZ w21 c l:=by
 have B:=h.ext.size;have d:=(h.to y).Vf (fw wp);have o:∀{e:ik} {size m:Nat} {f:eS} {r:fY},e≠63->(∀k,f.ownBlock=some k->k<w17.heap.size)->World.ownsRow (w18.setCell (eJ xp 0) (fw wp)) w e size f m r->w21.ownsRow w e size f m r:=λb C D=>fi.own j (i.own D (by simpa using b)) λk a=>by have:=C k a;omega
 have s:=h.C7 b g;have E:=h.Vg x g;have F:=h.ri.mem (p:=(fN cg 13 13,eM (lj λ_=>0))) (by simp);have G:=h.ri.mem (p:=(fN hg 13 13,eM (lj λ_=>0))) (by simp);obtain⟨_,_,⟨O,_⟩|⟨_,H,I,J,K,L,mi⟩⟩:=A
 ·omega
 ·have t:es.length- 1=n:=by omega
  have u:=o (by decide) (λk a=>(h.nd.lt k a).2) d.nd;have v:=o (by decide) (λk a=>(h.sp.lt k a).2) d.sp;refine⟨⟨w,xp,wp,pp,lp,mt,m,p,SA,sc,NA,nc,cg,hg,J,K,es,fL⟩,n+3,rfl,b,by omega,rfl,none,0,[],λ_=>0,λ_=>0,H,I,[⟨1,1,1⟩],1,⟨⟨s.1,by simp only;omega,s.2.2,mT.fC u (Rd.gY u),mT.fC v (Rd.gY v),by simp only;omega,E.2⟩, ?_, ?_, ?_,⟨?_,h.lx, ?_, ?_⟩,λk a=>by simp[Value.ownBlock] at a⟩⟩
  ·have:=fi.eH j (i.eH d.xb) (by have:=h.xb.lt;omega);simpa[PH] using this
  ·simp only[t];exact L.down B
  ·simp only[t];exact mi
  ·simp only;omega
  ·exact(F.lt cg rfl).1
  ·exact(G.lt hg rfl).1
end
def FW(n i:Nat)(l:fS)(k:Nat):fe:=((l.take k).filter λy=>decide ((i:Int)<y/\y<=(n:Int))).map Int.toNat
theorem P1{n i:Nat}{l:fS}{k:Nat}(a:k<l.length):FW n i l (k+1)=if(i:Int)<l.getD k 0/\l.getD k 0<=(n:Int) then FW n i l k++[(l.getD k 0).toNat] else FW n i l k:=by unfold FW;rw[iz a,Dy,iC,jx,gg a,pP];by_cases h:(i:Int)<l[k]/\l[k]<=(n:Int)<;>simp[h]
theorem T8{n i:Nat}{l:fS}{k:Nat}:∀a∈FW n i l k,i<a/\a<=n:=λa b=>by obtain⟨d,c,rfl⟩:=fy.1 b;have:=xL (jb.1 c).2;omega
theorem Ji{n i:Nat}{l:fS}{k:Nat}:(FW n i l k).length<=k:=by unfold FW;rw[gW];exact eY (n8 _ _) (by rw[ig];omega)
end
