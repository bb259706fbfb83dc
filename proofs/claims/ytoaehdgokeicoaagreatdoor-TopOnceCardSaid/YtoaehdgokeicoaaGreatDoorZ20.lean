/- TopOnce: part 20 of the proof. -/
import Derived.Test.YtoaehdgokeicoaaGreatDoorZ18
import Derived.Test.YtoaehdgokeicoaaGreatDoorZ19
set_option maxRecDepth 100000
set_option maxHeartbeats 30000000
set_option linter.all false
namespace Go.Proofs.YtoaehdgokeicoaaGreatDoor
open K9 Z9 Go.Proofs.Tryz
section
variable{w v u W V U:eI}{n k m i j p b c d g N B K G M:Nat}{x y z X Y Z:eS}{D E F:Int}{A C H I:fE}{l L J T:fY}{r s t R S:fe}{f:ik}{a:Act}{O P Q:List Oper}{kB:List (eS×fS)}{kE:Oper}{kG:Array Oper}{kK:DataW eS}{kM:fS}{kO:mB}
section
open Go.RowKit Go.Maps
section
theorem it.CU{B p:Nat}{k:LS}(h:it w B p k kB){m n:Nat}{A:DataW eS}{R:eS->Option (DataW eS×List MemPlace)}(C:∀g∈k.maps,g≠m)(D:w.ownsMap prog 3 R m n A)(c:CH 0 [] [m] w v):it v B p k kB:=by
 obtain⟨I,J,o,_⟩:=D;have a:∀{x r s},eQ w x r s->x∉[m]:=λa e=>by obtain rfl:=fF.1 e;unfold eQ at a;rw[o] at a;cases a
 have l:∀{E r F n y G},w.ownsRow E r F y n G->∀d,y.ownBlock=some d->d∉[m]:=λl d i e=>by obtain rfl:=fF.1 e;obtain⟨s,a⟩:=lX l i;rw[o] at a;cases a
 have j:∀g∈k.maps,g∉[m]:=λg a e=>C g a (fF.1 e);have b:=h.rT;have f:=h.qb;exact⟨c.eH h.eH (by simp) (a h.eH),h.low,h.vH.ch c (by simp) (λd i s b K z=>by
  obtain rfl:=fF.1 i;rw[o] at z;cases z),
  ⟨c.eH b.eH (by simp) (a b.eH),b.low,b.Eh,b.Ei,b.Ck,c.map b.rS (j _ (by simp[LS.maps])),c.map b.tM (j _ (by simp[LS.maps])),c.map b.rj (j _ (by simp[LS.maps])),λt u=>⟨(b.pJ t u).1,c.map (b.pJ t u).2 (j _ (by simp only[LS.maps,fm,fy];exact .inr (.inr (.inr (.inr ⟨t,u,rfl⟩)))))⟩⟩,
  ⟨c.eH f.eH (by simp) (a f.eH),f.low,f.yn,c.map f.map (j _ (by simp[LS.maps])),f.iO⟩,
  c.own h.row (by simp) (l h.row),h.ints.ch c (by simp) (λd i=>by obtain⟨L,H,e⟩:=fu.1 i;exact l (h.ints.mem H) d e),h.ku⟩
theorem it.Wn{b:LS}(h:it w n k b kB)(a:CH 0 [91] [] w v):it v n k b kB:=
 ⟨a.eH h.eH,h.low,h.vH.ch a (by decide) (by simp),h.rT.ch a (by decide),h.qb.ch a (by decide),a.own h.row,h.ints.ch a,h.ku⟩
section
variable {w w':eI} {G:Nat->fe} {N B p:Nat} {s:LS} {ex:List (eS×fS)} {stk:fS}
theorem gG.VU(h:gG w G N B p s ex stk)(a:CH 0 [91] [] w w'):gG w' G N B p s ex stk:=
 {h with
  mem:=h.mem.Wn a
  each:=λb c=>by have:=h.each b c;exact⟨this.fQ,this.im.ch a (by decide) (by decide) (by simp),λd=>(this.tZ d).ch a (by decide) (by decide) (by decide),this.rows,this.id,this.iO,this.ms⟩}
theorem gG.CU(h:gG w G N B p s ex stk){m j:Nat}{k:DataW eS}{R:eS->Option (DataW eS×List MemPlace)}(l:∀n∈s.maps,n≠m)(a:w.ownsMap prog 3 R m j k)(b:CH 0 [] [m] w w'):gG w' G N B p s ex stk:=by
 have o:=h.mem.CU l a b;obtain⟨y,z,r,_⟩:=a;have c:∀f∈[m],∀g,¬jT w g f:=λf t g u=>by obtain rfl:=fF.1 t;obtain⟨A,C,D,i,_⟩:=u;rw[r] at i;cases i
 exact {h with
  mem:=o
  each:=λv x=>by have:=h.each v x;exact⟨this.fQ,this.im.ch b (by simp) (by simp) c,λd=>{this.tZ d with sy:=(this.tZ d).sy.ch b (by simp) (λm a=>c m a _),bk:=(this.tZ d).bk.ch b (by simp) (λm a=>c m a _),wd:=(this.tZ d).wd.ch b (by simp) (λm a=>c m a _)},this.rows,this.id,this.iO,this.ms⟩}
theorem gG.VV(h:gG w G N B p s ex stk)(f:it w' B p (s.jg (s.os.map OV.held)) ex)(g:CH B lB [] w w'):gG w' G N B p (s.jg (s.os.map OV.held)) ex stk:=by
 have i:(s.os.map OV.held).map OV.st=s.os.map OV.st:=by rw[jL];rfl
 refine h.CJ f (λ_ h=>h) (g.mono lB.sub (λ_ h=>h)) i (λj b=> ?_) (λj b c d=> ?_) h.LX (λc d=> ?_) h.rg rfl rfl h.uI h.Nf h.iQ
 ·obtain⟨q,a,rfl⟩:=fy.1 b;exact⟨(h.each q a).iO,(h.each q a).ms⟩
 ·obtain⟨q,a,rfl⟩:=fy.1 b;exact h.Gy q a c d
 ·obtain⟨q,a,k,l⟩:=h.J6 c d;exact⟨_,fy.2 ⟨q,a,rfl⟩,k,l⟩
end
abbrev L5(p m next:Nat)(b:Bool):kx:=#[fw p,.map (some m),eE (next:Nat),fz b,eE 0]
def O6(w:eI)(G:Nat->fe)(N B p lp m:Nat)(s:LS)(ex0:List (eS×fS))(stk:fS)(e:Ending)(w':eI):Prop:=
 ∃s':LS,∃ex gL news,e=fH (eE 0)/\gG w' G N B p (s'.jg (s'.os.map OV.held)) (ex0++ex) stk/\(∀o∈s'.os,lW o.im (ii G o.fQ) ex)/\pz G N (s.gd,s.last) 0=((s'.gd,s'.last),gL,news)/\eQ w' lp 91 (L5 p m 1 true)/\
  w'.ownsMap prog 3 rV m 1 ((DataW.map []).put (kI 1) (.held (fV #[eE (gL:Nat),eE 1])))/\
  s'.inits=s.inits/\LZ s'.tl s'.fb/\s'.tl.iQ.map (λx=>(x.1,x.2.1))=s.tl.iQ.map (λx=>(x.1,x.2.1))/\(∀b∈s'.maps,w.heap.size<=b)/\gL∈s'.scope/\(∀o∈s'.os,o.base<=4294967296)/\CH B (91::jz) [m] w w'
theorem O7{G:Nat->fe}{N B p:Nat}{s:LS}(h:gG w G N B p s kB kM)(t:B<=n/\B<=k)(u:s.os=[])(an:G 0=[])(ao:s.last<9700)(b:eQ w n 91 (L5 p k 0 false))(P:w.ownsMap prog 3 rV k 0 (.map []))(Q:jw)(ha:vW 0 Q):
 Calls prog 61 #[fw n,eV Q] w (O6 w G N B p n k s kB kM):=by
 have R:=eD (Fe (F:=[]) h (by rw[u];simp) (by simp) an (eX _) ao ha ⟨#[47]⟩ true);have S:=eD b;have v:=eD P;have c0:=b.ce 0 (fw p);have c3:=b.ce 3 (fz false);clear h b P;go_in;go_wp
 refine R.mono ?_;rintro e w1 ⟨aB,T,ap,x,aq,rfl,c,U,i,V,W,_,_,_,_,X,_,_,_,y,Y,Z,ad⟩;have ae:=eD (And.intro (Z rfl u) (ad u));clear ad;have j:=eD (And.intro W (And.intro Y (And.intro X y)));clear Z;have a:Hid (CH B (91::jz) [k] w w1):=eD (i.mono (λ_ h=>gD _ h) (λ_ h=>by cases h));clear W Y X;have ar:=eD c;have au:Hid (∀z∈T.maps,z≠k):=eD (λz b=>by have:=y z b;have:=v.lt;omega);clear y;have A:=eD (i.eH S);have af:=eD (i.map v (by simp));have av:=eD U;have aw:=eD V;have d0:=A.ce 0 (fw p);have HH:=eD (NZ c.mem (by have:=c.iO;have:=c.n12;omega));clear c U i V c0 c3 R S v;go_wp21
 refine HH.mono ?_;rintro e l ⟨rfl,ag,d⟩;have ax:=eD (ar.VV ag d);have a:=eD (a.fk ((d.fC lB.sub).mono (λ_ h=>gD _ h) (λ_ h=>h)));have m:=d.eH A;have C:=eD m;have ah:=eD (d.map af (by simp));have d2:=m.ce 2 (eE 0);have f2:=m.frozen 2;clear d0 ag d m HH A af;go_wp2;clear d2 f2;have ai:=eQ.set C 2 (eE 1);have D:CH 0 [91] [] l (l.setCell (eJ n 2) (eE 1)):=CH.set C (eX _) (by simp) 2 _;have ay:=eD D;have a:=eD (a.fk (CH.set C t.1 (by simp) 2 (eE 1)));have o:Hid (eQ (l.setCell (eJ n 2) (eE 1)) n 91 (L5 p k 1 false)):=eD ai;have E:=eD (D.map ah (by simp));clear ai D ah;generalize l.setCell (eJ n 2) (eE 1)=H at*;have e1:=o.ew 1 (.map (some k)) rfl;have e2:=o.ew 2 (eE 1) rfl;refine mY [0,1,2,3,4,5,6,7,8,9] [10] ?_;repeat(go_big_quiet_step (fail))
 refine eO ?_;clear e1 e2;have I:=eD (eF.drew H);generalize World.drew H=v0 at*;go_wp2_with (refine wpList_mapUpdate_own _ rfl (.tmp 44) (.tmp 48) (.tmp 50) 89 rfl 3 148 qI underlying89 rV k 0 (.map []) rfl ((CH.fg (B:=0) (L:=[]) (M:=[]) I.out).map E.out (by simp)) (by unfold maxLen;omega) (.int .i64 1) (.agg #[.int .i64 (x:Nat),.int .i64 1]) (.int .i64 1) rfl rfl (kZ 1 (by omega)) (.held (.agg #[.int .i64 (x:Nat),.int .i64 1])) [] rfl ?_)
 intro f o5 J;have K:CH 0 [] [k] H f:=(CH.fg I).trans (fi.mono (fi.grown J) λaz g=>by simp only[fd] at g;exact⟨eX _,.inr (by simp[g])⟩:CH 0 [] [k] v0 f) (by simp);have r:=K.eH o (by simp) (λe=>by obtain rfl:=fF.1 e;obtain⟨es,ck,hD,_⟩:=E.out;have:=o.out;unfold eQ at this;rw[hD] at this;cases this)
 have a:=eD ((a.ext I).trans (M':=[k]) (fi.mono (fi.grown J) λaz g=>by simp only[fd] at g;subst g;exact⟨t.2,.inr (by simp)⟩:CH B (91::jz) [k] v0 f) (λaC hi=>.inl hi));have aj:=(ax.VU ay);have ak:=aj.CU au E K;have O:=eD r;have al:=eD (And.intro ak o5);have k3:=r.ce 3 (fz false);have f3:=r.frozen 3;clear r aj ak o5 J K;go_wp
 go_ret;have am:CH 0 [91] [] f (f.setCell (eJ n 3) (fz true)):=CH.set O (eX _) (by simp) 3 _;exact⟨T,ap,x,aq,rfl,by simpa using al.1.VU am,λaA ho=>by simpa using av aA ho,aw,eQ.set O 3 (fz true),am.map al.2 (by simp),j.1,j.2.1,j.2.2.1,j.2.2.2,ae.1,ae.2,a.fk (CH.set O t.1 (by simp) 3 _)⟩
end
def O8(w:eI)(hs:List Hn)(gL:Nat)(e:Ending)(w':eI):Prop:=∃r:Nat,e=fH (eE r)/\((∃x∈hs,x.gL=gL/\r=x.h)\/((∀x∈hs,x.gL≠gL)/\r=0))/\eF w w'
structure rb(w:eI)(lp p m next:Nat)(b:Bool)(hs:List Hn)(D:DataW eS)(n:Nat):Prop where
 eH:eQ w lp 91 (L5 p m next b)
 map:w.ownsMap prog 3 rV m n D
 ok:TH D hs
 hn:(hs.map Hn.h).Nodup
 iO:hs.length<=1000
 le:∀x∈hs,x.h<=1000000/\x.gL<=1000000/\x.count<=1000000
theorem rb.ext{w w':eI}{p m next:Nat}{b:Bool}{a:List Hn}{D:DataW eS}{n:Nat}(h:rb w k p m next b a D n)(c:eF w w'):rb w' k p m next b a D n:={h with eH:=c.eH h.eH,map:=c.lD h.map}
theorem rb.look{p next:Nat}{d:Bool}{c:List Hn}(h:rb w n p k next d c kK m){a:Hn}(b:a∈c):
 (Instr.lookup 89 (.map (some k)) (eE (a.h:Nat)) true).run prog w=.ok (ij #[hV a,fz true]) w/\(Instr.lookup 89 (.map (some k)) (eE (a.h:Nat)) false).run prog w=.ok (hV a) w:=
 sE h.map qI underlying89 (zeroValue148 w) (kZ _ (by have:=(h.le a b).1;omega)) (by rw[<-nk h.hn b];exact h.ok.at_ a.h (fy.2 ⟨a,b,rfl⟩))
theorem UW(a c:Int)(b:eI):(Instr.field 148 (fV #[eE a,eE c]) 0).run prog b=.ok (eE a) b:=by kernel_rfl
theorem TO(c a:Int)(b:eI):(Instr.field 148 (fV #[eE c,eE a]) 1).run prog b=.ok (eE a) b:=by kernel_rfl
theorem O9{next:Nat}{N:Bool}{l:List Hn}(h:rb w n k m next N l kK i)(d:Nat):
 Calls prog 112 #[fw n,eE d] w (O8 w l d):=by
 have u:=eD h;obtain⟨D,O⟩:=h.ok.TK h.hn h.map;have ae:=h.iO;rw[gW] at O;have P:=eD D;have E:=eD (λv (a:eF w v) k (Q:eQ v k 89 #[.map (some m)])=>wV m i k kK rV v (a.lD h.map) Q (by omega));have R:=h.eH.ce 1 (.map (some m));clear h D;go_in;go_wp
 refine(BF m w).mono ?_;rintro e w1 ⟨rfl,rfl⟩;go_wp21
 refine(E _ (eF.alloc _ _) _ (eQ.new _ _ _)).mono ?_;rintro e S F;obtain⟨af,ag,f,rfl,x,G,a⟩:=F.V' P;have T:=eD ((eF.alloc w _).trans a);have U:=eD (Rd.gY G);have H:=eD x;have ah:f.length=l.length:=by rw[x.length_eq,gW]
 clear F G a x E R;go_wp2;go_loopw [14] (λy wr=>∃b:Nat,b<=f.length/\y=eE b/\(∀c,c<b->∀o∈l,f[c]? =some o.h->o.gL≠d)/\eF S wr) (λy _=>f.length- (intOf y).toNat)
 case atStart=>exact⟨0,eX _,rfl,λc r=>absurd r (by omega),eF.refl _⟩
 case round=>
  obtain⟨b,hk,rfl,s,a⟩:=hrel;have g:=T.trans a;have d1:=(g.eH u.eH).ce 1 (.map (some m));by_cases z:b<f.length
  ·obtain⟨bb,ai,rfl,aj,d0⟩:=ja (a.rd U) z;have t:=H.mem_iff.1 (eU z);obtain⟨o,A,B⟩:=fy.1 t;have I:=((u.ext g).look A).2;rw[<-B] at d0;have V:=eD s;have C:=eD g;have W:=eD a;have J:f[b]? =some o.h:=by rw[gg z,B]
   have X:=eD J;have K:=eD A;unfold hV at I;clear t s g a J A B;have ak:=UW;obtain⟨Y,L,xc⟩:=o;simp only at I d0;by_cases M:L=d
   ·subst M;go_wp2;go_ret;exact⟨Y,rfl,.inl ⟨_,K,rfl,rfl⟩,C⟩
   ·have al:((L:Int)==(d:Int))=false:=by simp;omega
    go_wp
    go_roundw
    case rel=>
     refine⟨b+1,by omega,by go_num,λc r j p e=> ?_,W⟩;by_cases Z:c=b
     ·subst Z;rw[X] at e;injection e with e
      rw[mR u.hn p K e.symm];exact M
     ·exact V c (by omega) j p e
    case measure=>simp[intOf];omega
  ·have ad:Hid (∀j∈l,j.gL≠d):=eD (λj p=>by have t:=H.mem_iff.2 (fy.2 ⟨j,p,rfl⟩);obtain⟨c,r,e⟩:=gN t;exact s c (by omega) j p (by rw[gg r,e]))
   have C:=eD g;clear s g a;go_wp
   go_ret;exact⟨0,rfl,.inr ⟨ad,rfl⟩,C⟩
section
def rm:mB:=91::jz
def RD(p:Nat)(s:LS)(B gL:Nat)(pl:fe):Prop:=pl.Nodup/\(∀j∈pl,j<s.os.length)/\∀w' ex',it w' B p s ex'->Calls prog 188 #[fw p,eE (gL:Nat)] w' (pu w' (gw s.os pl))
theorem Pb{a:List Hn}(b:(a.map Hn.h).Nodup){x:Hn}(f:x∈a):z3 (mW Hn.more a x.h) x.h=hV x.more/\∀y∈a,y.h≠x.h->z3 (mW Hn.more a x.h) y.h=z3 a y.h:=by
 have c:((mW Hn.more a x.h).map Hn.h).Nodup:=by rw[nG Hn.more (λ_=>rfl)];exact b
 refine⟨?_,λy d g=> ?_⟩
 ·exact nk (x:=x.more) c (jd.2 ⟨x,f,by rw[fW rfl]⟩)
 ·rw[nk b d];exact nk c (jd.2 ⟨y,d,by rw[fG g]⟩)
theorem Pc{a:List Hn}{y:Hn}(b:((a++[y]).map Hn.h).Nodup):z3 (a++[y]) y.h=hV y/\∀c∈a,z3 (a++[y]) c.h=z3 a c.h:=by
 have f:(a.map Hn.h).Nodup:=by rw[iC] at b;exact(kF.1 b).1
 exact⟨nk b (by simp),λc d=>by rw[nk f d];exact nk b (iL _ d)⟩
theorem rb.store{p next:Nat}{d:Bool}{c a:List Hn}(h:rb w n p k next d c kK m){b:Nat}(g:eQ v n 91 (L5 p k next d))(i:v.ownsMap prog 3 rV k (m+1) (kK.put (kI b) (.held (z3 a b))))(l:∀j,j∈a.map Hn.h↔j=b\/j∈c.map Hn.h)(o:∀y∈c,y.h≠b->z3 a y.h=z3 c y.h)(r:(a.map Hn.h).Nodup)(s:a.length<=1000)(le:∀f∈a,f.h<=1000000/\f.gL<=1000000/\f.count<=1000000):rb v n p k next d a (kK.put (kI b) (.held (z3 a b))) (m+1):=
 ⟨g,i,h.ok.put b l (λj t u=>by obtain⟨y,x,rfl⟩:=fy.1 t;exact o y x u),r,s,le⟩
theorem CH.UX(h:CH n kO r w v):CH 0 kO r w v:=fi.mono h λb a=>⟨eX _,a.2⟩
section
variable {w:eI} {G:Nat->fe} {N B p:Nat} {s:LS} {ex F:List (eS×fS)} {stk:fS}
def Pd(w:eI)(G:Nat->fe)(N B p lp m next:Nat)(s:LS)(ex F:List (eS×fS))(stk:fS)(k:Nat)(hs:List Hn)(n:Nat)(PQ:LS->Nat->fe->Prop)(e:Ending)(w':eI):Prop:=
 ∃s1 s2 ex' gL news hh hs' next' D' A c pl,e=fH (ij #[eE (hh:Nat),.slice A (hY s1.os pl).length c,eE 0])/\pz G N (s.gd,s.last) k=((s1.gd,s1.last),gL,news)/\s1.inits=s.inits/\PQ s1 gL pl/\RD p s1 B gL pl/\
  SL hs hs' next next' gL hh/\(∀o∈s2.os,lW o.im (ii G o.fQ) (F++ex'))/\(s2.gd,s2.inits)=pH s1.gd s1.inits (gw s1.os pl)/\s2.last=s1.last/\s2.tl.iQ.map (λx=>(x.1,x.2.1))=s.tl.iQ.map (λx=>(x.1,x.2.1))/\
  gG w' G N B p s2 ((.slice A (hY s1.os pl).length c,hY s1.os pl)::(ex++ex')) stk/\rb w' lp p m next' true hs' D' (n+1)/\(∀b∈s2.maps,b≠m)/\CH B rm [m] w w'
theorem Li(h:gG w G N B p s ex stk)(aF:∀g∈s.os,lW g.im (ii G g.fQ) F)(hF:∀W∈F,W∈ex)(aZ:G 0=[]){k0:Nat}(a0:k0<=N)(a1:s.last<9700)(aG:s.inits<=9900){nm:jw}(ha:vW k0 nm)(gl:Bool){i m next t:Nat}{j:List Hn}{D:DataW eS}(hd:rb w i p m next true j D t)(ar:B<=i/\B<=m)(a6:next<=100000)(aH:∀b∈j,0<b.h/\b.h<=next/\b.count<=100000/\b.gL<=100000)(a7:j.length<=500)(a8:t<=100000){a:Int}(aI:a∈stk)(tp aj:Int){PQ:LS->Nat->fe->Prop}(aJ:∀k d ad,pz G N (s.gd,s.last) k0=((k.gd,k.last),d,ad)->k.os.length<=13->(∀g∈k.os,g.eP.length<=8)->(∀g∈k.os,∀b∈g.eP,∃q∈k.os,q.id=b)->(k.os.map OV.id).Nodup->(∃g∈k.os,g.id=d)->∃pl,RD p k B d pl/\PQ k d pl):
 Calls prog 64 #[fw i,kX 0 tp 0 (a+1016) aj,eV nm,fz gl] w (Pd w G N B p i m next s ex F stk k0 j t PQ):=by
 have aK:=eD (λw' (hx:eF w w')=>Fe (h.ext hx) aF hF aZ a0 a1 ha ⟨#[47]⟩ gl);have HD:=eD hd;have ak:=eD aH;have HF:=eD hF;have a9:=hd.eH.lt;have c0:=hd.eH.ce 0 (fw p);have c3:=hd.eH.ce 3 (fz true);obtain⟨X,hC⟩:∃X,X=nR 0 tp 0 (a+1016) aj:=⟨_,rfl⟩;have HC:=eD hC;unfold kX;rw[<-hC];clear hC h aF hd aH hF;go_in;go_wp
 refine(aK _ (eF.alloc _ _)).mono ?_;rintro e w1 ⟨a',k,aL,d,ad,rfl,z,aM,au,J,aN,_,_,_,_,aO,aP,_,av,aQ,_,_,_⟩;have al:CH B jz [] w w1:=(CH.fg (eF.alloc w (eN X.toArray 108))).fk au;have aw:rb w1 i p m next true j D t:={HD with eH:=al.eH HD.eH,map:=al.map HD.map (by simp)};have Y:=eD (au.eH (eQ.new w 108 X.toArray));have ax:=eD z;have am:=eD aM;have an:Hid (∀K∈k.maps,K≠m):=eD (λK hb=>by have:=aQ K hb;have:=HD.map.lt;rw[fM] at*;omega);have H:=eD (And.intro J (And.intro aN (And.intro aO aP)));obtain⟨pl,aR,Z⟩:=aJ k d ad J (by have:=z.iO;have:=z.n12;omega) (λg u=>(z.each g u).iO) z.Gy (by rw[<-jD];exact z.ids) av;have bb:d<=100000:=by obtain⟨g,u,rfl⟩:=av;have:=(z.each g u).id.2;have:=z.yE;omega
 have v:=eD (And.intro aR Z);have aS:=eD al;have aT:=eD (O9 aw d);have ao:=eD aw;clear aK z aM au J aN aO aP av aQ al aw aJ c0 c3 aR Z;go_wp21
 refine aT.mono ?_;rintro e I ⟨W,rfl,l,aU⟩;have L:=eD aU;clear aU aT;rcases l with⟨b,ap,a2,rfl⟩|⟨aV,rfl⟩
 ·subst a2;have bc:=ak b ap;have bd:((b.h:Int)==0)=false:=by simp;omega
  have r:=ao.ext L;have e1:=r.eH.ew 1 (.map (some m)) rfl;have ay:∀x:EW I,(Instr.lookup 89 (.map (some m)) (eE (b.h:Nat)) false).run prog x.w=.ok (fV #[eE (b.gL:Nat),eE (b.count:Nat)]) x.w:=λx=>((r.ext x.ext).look ap).2;have J:=TO;have c:=eD r;have HX:=eD ap;clear r ap;go_wp2;refine mY [0,1,2,3,4,5,6,7,8,9,10,11,12,13,14] [15] ?_;repeat(go_big_quiet_step (fail))
  refine eO ?_;clear e1 ay J;have n:=eD (eF.drew I);generalize World.drew I=v0 at*;go_wp2_with (refine wpList_mapUpdate_own _ rfl (.tmp 58) (.tmp 59) (.tmp 69) 89 rfl 3 148 qI underlying89 rV m t D rfl (n.lD c.map) (by unfold maxLen;omega) (eE (b.h:Nat)) (fV #[eE (b.gL:Nat),eE ((b.count:Nat)+1)]) (kI b.h) rfl rfl (kZ _ (by omega)) (.held (fV #[eE (b.gL:Nat),eE ((b.count:Nat)+1)])) [] rfl ?_)
  intro w5 M A;have O:CH B rm [m] w1 w5:=(CH.fg (L.trans n)).trans (CH.mM A ar.2 (by simp)) (λaz Q=>.inl Q);have ae:eQ w5 i 91 (L5 p m next true):=((n.eH c.eH)).grown A (λe=>by
   injection e with e
   obtain⟨es,ck,R,_⟩:=c.map;have:=c.eH;unfold eQ at this;rw[e,R] at this;cases this)
  have kn:=Pb c.hn HX;have af:hV b.more=fV #[eE (b.gL:Nat),eE ((b.count:Nat)+1)]:=rfl;rw[<-af,<-kn.1] at M;have S:rb w5 i p m next true (mW Hn.more j b.h) (D.put (kI b.h) (.held (z3 (mW Hn.more j b.h) b.h))) (t+1):=c.store ae M (λa3=>by
   rw[nG Hn.more (λ_=>rfl)];exact⟨.inr,λh=>h.elim (λe=>by subst e;exact fy.2 ⟨b,HX,rfl⟩) id⟩) kn.2 (by rw[nG Hn.more (λ_=>rfl)];exact c.out.hn) (by simp only[mW,gW];omega) (λy o=>by
   obtain⟨aW,hz,rfl⟩:=jd.1 o;have:=ak aW hz;split<;>(try simp only[Hn.more])<;>omega)
  have T:=(ax.ext (L.trans n)).CU an (n.lD c.map) (CH.mM A (eX _) (by simp));have ag:=O.eH Y (by decide) (by intro e;obtain rfl:=fF.1 e;have U:=Y;obtain⟨es,ck,R,_⟩:=ao.map;unfold eQ at U;rw[R] at U;cases U);have ah:=eD (ag.fK (P:=prog) 108 _ underlying108 rfl (by rw[HC];kernel_rfl));have C:=eD (wh T (λg u=>(am g u).mono (λW l=>by
   rcases gu.1 l with l|l
   ·exact iL _ (HF W l)
   ·exact gT _ l)) S.eH rfl b.gL (by rw[H.out.2.1];exact aG) aI tp aj (λw' hx=>v.out.1.2.2 w' _ (T.mem.ext hx)) v.out.1.1 v.out.1.2.1)
  unfold kX at C;rw[<-HC] at C;have V:=eD S;have aA:=eD (aS.mono (L':=rm) (M':=[m]) (by decide) (λ_ h=>by cases h) |>.trans O (λaz Q=>.inl Q));clear M A O ae S T ag c L n Y ax kn af;go_wp2_with (refine eK rfl 108 (.tmp 5) rfl _ rfl (fV X.toArray) ah ?_)
  refine C.mono ?_;rintro e w6 ⟨aB,aC,s2,rfl,E⟩;have ai:rb w6 i p m next true (mW Hn.more j b.h) _ (t+1):={V with eH:=E.ch.eH V.eH,map:=E.ch.map V.map (by simp)};have f:=eD (And.intro E ai);clear E ai C ah;go_wp2;go_ret3
  exact⟨k,s2,aL,b.gL,ad,b.h,(mW Hn.more j b.h),next,_,aB,aC,pl,rfl,H.1,H.2.1,v.2,v.1,.inl ⟨b,HX,rfl,rfl,rfl,rfl⟩,(λg u=>by obtain⟨q,Z,e1,e2,e3,_⟩:=uU f.1.st u;rw[<-e2,<-e3];exact am q Z),f.1.gd,f.1.pg.1,by rw[f.1.pg.2.2.2.1];exact H.2.2.1,f.1.ok,f.2,(λK hb=>an K (by simpa only[LS.maps,f.1.pg.2.2.2.1,f.1.pg.2.2.2.2.2.2.2] using hb)),aA.trans (M':=[]) (f.1.ch.mono (by decide) (λ_ h=>h)) (by simp)⟩
 ·have r:=ao.ext L;have k2:=r.eH.ce 2 (eE (next:Nat));have f2:=r.eH.frozen 2;have aq:CH B [91] [] I (I.setCell (eJ i 2) (eE ((next:Nat)+1))):=CH.set r.eH ar.1 (by simp) 2 _;have aX:eQ (I.setCell (eJ i 2) (eE ((next:Nat)+1))) i 91 (L5 p m (next+1) true):=r.eH.set 2 _;have c:Hid (rb (I.setCell (eJ i 2) (eE ((next:Nat)+1))) i p m (next+1) true j D t):=eD {r with eH:=aX,map:=aq.map r.map (by simp)};have aY:=eD ((ax.ext L).VU (aq.UX));have a4:=eD (show CH B rm [m] w1 _ from((CH.fg L).fk aq).mono (by decide) (λ_ h=>h));have a5:=eD aV;clear r aq aX aV;go_wp2;clear k2 f2;generalize I.setCell (eJ i 2) (eE ((next:Nat)+1))=w3 at*;have aD:next+1∉j.map Hn.h:=λhm=>by obtain⟨y,o,e⟩:=fy.1 hm;have:=ak y o;omega
  have e1:=c.eH.ew 1 (.map (some m)) rfl;have ay:∀x:EW w3,(Instr.lookup 89 (.map (some m)) (eE ((next:Nat)+1)) false).run prog x.w=.ok (fV #[eE 0,eE 0]) x.w:=λx=>(uz (x.ext.lD c.out.map) qI underlying89 (zeroValue148 x.w) (key:=.int .i64 ((next:Nat)+1)) (kl:=kI (next+1)) (kZ _ (by omega)) (show No D (.int .i64 (((next+1:Nat)):Int)) from c.out.ok.no aD)).2
  have J:=TO;refine mY [0,1,2,3,4,5,6,7,8,9,10,11,12,13,14] [15] ?_;repeat(go_big_quiet_step (fail))
  refine eO ?_;clear e1 ay J;have n:=eD (eF.drew w3);generalize World.drew w3=v0 at*;go_wp2_with (refine wpList_mapUpdate_own _ rfl (.tmp 58) (.tmp 59) (.tmp 69) 89 rfl 3 148 qI underlying89 rV m t D rfl (n.lD c.map) (by unfold maxLen;omega) (eE ((next:Nat)+1)) (fV #[eE (d:Nat),eE 1]) (kI (next+1)) rfl rfl (kZ _ (by omega)) (.held (fV #[eE (d:Nat),eE 1])) [] rfl ?_)
  intro w5 M A;have O:=(a4.ext n).trans (CH.mM A ar.2 (by simp)) (λaz Q=>.inl Q);have ae:eQ w5 i 91 (L5 p m (next+1) true):=((n.eH c.eH)).grown A (λe=>by
   injection e with e
   obtain⟨es,ck,R,_⟩:=c.map;have:=c.eH;unfold eQ at this;rw[e,R] at this;cases this)
  have aE:((j++[(⟨next+1,d,1⟩:Hn)]).map Hn.h).Nodup:=by rw[iC];exact kF.2 ⟨c.hn,by simp,λy o aW hz e=>aD (by simp only[hU,jt,fF] at hz;rw[<-hz,<-e];exact o)⟩
  have kn:=Pc (y:=(⟨next+1,d,1⟩:Hn)) aE;have af:hV (⟨next+1,d,1⟩:Hn)=fV #[eE (d:Nat),eE 1]:=rfl;rw[<-af,<-kn.1] at M;have S:rb w5 i p m (next+1) true (j++[⟨next+1,d,1⟩]) (D.put (kI (next+1)) (.held (z3 (j++[⟨next+1,d,1⟩]) (next+1)))) (t+1):=c.store ae M (λa3=>by
   rw[iC,gu];simp only[hU,jt,fF];exact or_comm) (λy o _=>kn.2 y o) aE (by simp;omega) (λy o=>by
   rcases gu.1 o with o|o
   ·have:=ak y o;omega
   ·obtain rfl:=fF.1 o;simp only;omega)
  have T:=(aY.ext n).CU an (n.lD c.map) (CH.mM A (eX _) (by simp));have ag:=O.eH Y (by decide) (by intro e;obtain rfl:=fF.1 e;have U:=Y;obtain⟨es,ck,R,_⟩:=ao.map;unfold eQ at U;rw[R] at U;cases U);have ah:=eD (ag.fK (P:=prog) 108 _ underlying108 rfl (by rw[HC];kernel_rfl));have C:=eD (wh T (λg u=>(am g u).mono (λW l=>by
   rcases gu.1 l with l|l
   ·exact iL _ (HF W l)
   ·exact gT _ l)) S.eH rfl d (by rw[H.out.2.1];exact aG) aI tp aj (λw' hx=>v.out.1.2.2 w' _ (T.mem.ext hx)) v.out.1.1 v.out.1.2.1)
  unfold kX at C;rw[<-HC] at C;have V:=eD S;have aA:=eD (aS.mono (L':=rm) (M':=[m]) (by decide) (λ_ h=>by cases h) |>.trans O (λaz Q=>.inl Q));clear aD aE kn af M A O ae S T ag c n Y aY;go_wp2_with (refine eK rfl 108 (.tmp 5) rfl _ rfl (fV X.toArray) ah ?_)
  refine C.mono ?_;rintro e w6 ⟨aB,aC,s2,rfl,E⟩;have ai:rb w6 i p m (next+1) true (j++[⟨next+1,d,1⟩]) _ (t+1):={V with eH:=E.ch.eH V.eH,map:=E.ch.map V.map (by simp)};have f:=eD (And.intro E ai);clear E ai C ah;go_wp2;go_ret3
  exact⟨k,s2,aL,d,ad,next+1,(j++[⟨next+1,d,1⟩]),next+1,_,aB,aC,pl,rfl,H.1,H.2.1,v.2,v.1,.inr ⟨a5,rfl,rfl,rfl⟩,(λg u=>by obtain⟨q,Z,e1,e2,e3,_⟩:=uU f.1.st u;rw[<-e2,<-e3];exact am q Z),f.1.gd,f.1.pg.1,by rw[f.1.pg.2.2.2.1];exact H.2.2.1,f.1.ok,f.2,(λK hb=>an K (by simpa only[LS.maps,f.1.pg.2.2.2.1,f.1.pg.2.2.2.2.2.2.2] using hb)),aA.trans (M':=[]) (f.1.ch.mono (by decide) (λ_ h=>h)) (by simp)⟩
end
end
end
theorem I6{G:Nat->fe}{N:Nat}(w:∀x,∀c∈G x,x<c/\c<=N){s:LS}{B p:Nat}(gO:(s.os.map OV.id).Nodup)(y:(s.gd.map Ob.fQ).Nodup)(H:∀b∈s.gd,b.fQ<=N)(z:∀b∈s.gd,jM G s.gd b)(I:s.os.length<=60)(J:∀b∈s.os,b.eP.length<=60){i:Nat}(f:i<s.os.length):
 ∃pl,RD p s B s.os[i].id pl/\pl.map (kr s.gd)=hJ G (N+1) (kr s.gd i) (qa s.gd):=by
 have K:s.gd.length=s.os.length:=by simp[LS.gd]
 have L:(s.gd.map Ob.id).Nodup:=by rw[show s.gd=s.os.map OV.ob from rfl,<-CV];exact gO
 have r:=Sh (G:=G) L y z;rw[K] at r;have A:∀j (a:j<s.os.length),kr s.gd j=s.os[j].fQ:=λj a=>by simp only[kr,LS.gd,vy,gg a,qO];rfl
 have t:∀j (a:j<s.os.length),s.os[j].ob∈s.gd:=λj a=>fy.2 ⟨_,eU a,rfl⟩;have M:∀j,j<s.os.length->kr s.gd j<=N:=λj a=>by rw[A j a];exact H _ (t j a)
 have O:∀j,j<s.os.length->(((List.range s.os.length).map λj=>decide (j∈r' s.os)).getD j true=true↔kr s.gd j∈qa s.gd):=λj a=>by
  rw[jx,gg (by simpa using a)];simp only[jy,Nc,pP,jh];rw[AV,A j a];have P:j∈r' s.os↔0<s.os[j].gE:=by simp only[r',jb,ll,nt,gg a,jh,a,ky]
  rw[P];constructor
  ·intro h;exact⟨_,t j a,h,rfl⟩
  ·rintro⟨b,u,g,l⟩;have:=xx y u (t j a) l;subst this;exact g
 obtain⟨n,g,l,C,_,_⟩:=yx r (N+1) i ((List.range s.os.length).map (λj=>decide (j∈r' s.os)),[]) (qa s.gd) f (by simp) O;rw[j6] at C;have Q:=oT w (N+1) (kr s.gd i) (qa s.gd) (M i f) (by omega);have D:n.Nodup:=by
  have:(n.map (kr s.gd)).Nodup:=by rw[l];exact Q.nodup
  exact Uz _ (λR S h e=>h (congrArg _ e)) this
 have Z:=iM (m:=s.os.length) n D g;refine⟨n,⟨D,g,λw' ad T=> ?_⟩,l⟩;have U:∀b∈s.os,∀o∈b.eP,∃i,∃f:i<s.os.length,s.os[i].id=o:=λb u o E=>by
  have d:=z b.ob (fy.2 ⟨b,u,rfl⟩);unfold jM at d;have:∃p∈s.gd,p.id=o:=by
   have k:o∈b.ob.eP:=E;generalize b.ob.eP=R at d k;generalize G b.ob.fQ=S at d;clear E;induction d with
   |nil=>cases k
   |cons V _ W=>
    rcases fm.1 k with rfl|k
    ·obtain⟨p,X,e,_⟩:=V;exact⟨p,X,e⟩
    ·exact W k
  obtain⟨q,d,e⟩:=this;obtain⟨o',Y,rfl⟩:=fy.1 d;obtain⟨c,v,rfl⟩:=gN Y;exact⟨c,v,e⟩
 have F:=Ky T I J U f (λj a e=>by
  have:=fZ gO (i:=j) (j:=i) (by simp;omega) (by simpa using f) (by simpa using e);omega) (λj=>N- kr s.gd j) (λj a c v=>by
  have:kr s.gd c∈G (kr s.gd j):=by rw[<-r.map j a];exact fy.2 ⟨c,v,rfl⟩
  have:=w _ _ this;show N- kr s.gd c<N- kr s.gd j;omega) (N+1) (by show N- kr s.gd i<N+1;omega)
 rw[show s.os.map OV.ob=s.gd from rfl,C] at F;exact F (by omega) g
section
open Go.RowKit Go.Maps
section
section
variable {w:eI} {G:Nat->fe} {N B p:Nat} {s:LS} {ex:List (eS×fS)} {stk:fS}
theorem Lj(h:gG w G N B p s ex stk)(n:∀o∈s.os,lW o.im (ii G o.fQ) ex){j k next E:Nat}{F:Bool}{r:List Hn}{D:DataW eS}(f:rb w j p k next F r D E){x:Hn}(t:x∈r)(H:x.h=1)(I:s.inits<=9900){a:Int}(J:a∈stk)(tp id:Int){pl:fe}(u:∀c,eF w c->Calls prog 188 #[fw p,eE (x.gL:Nat)] c (pu c (gw s.os pl)))(K:pl.Nodup)(L:∀M∈pl,M<s.os.length):
 Calls prog 63 #[fw j,kX 0 tp 0 (a+1016) id] w (oN w G N B p s ex stk pl):=by
 have g:Hid (∀c,eF w c->Calls prog 111 #[fw j,kX 0 tp 0 (a+1016) id,eE (x.gL:Nat)] c (oN c G N B p s ex stk pl)):=eD (λc l=>wh (h.ext l) n (l.eH f.eH) rfl x.gL I J tp id (λO Q=>u O (l.trans Q)) K L);obtain⟨b,m⟩:∃b,b=nR 0 tp 0 (a+1016) id:=⟨_,rfl⟩;have R:=eD m;unfold kX at g ⊢;rw[<-m] at g ⊢;have i:=((f.ext (eF.alloc w (eN b.toArray 108))).look t).1;unfold hV at i;rw[H] at i;have v:(Instr.lookup 89 (.map (some k)) (eE 1) true).run prog (w.alloc (eN b.toArray 108))=.ok (ij #[fV #[eE (x.gL:Nat),eE (x.count:Nat)],fz true]) (w.alloc (eN b.toArray 108)):=i;have S:=(f.eH.alloc (eN b.toArray 108)).ce 1 (.map (some k));have T:=eD (eQ.new w 108 b.toArray);clear m h n f t u i;go_in;have y:=eD (((eF.alloc _ (eN #[eE (x.gL:Nat),eE (x.count:Nat)] 148)).eH T).load (P:=prog) 108 0 b (by rw[vw,iT]) _ underlying108 rfl (by rw[R];kernel_rfl));have z:=eD ((eF.alloc w (eN b.toArray 108)).trans (eF.alloc _ (eN #[eE (x.gL:Nat),eE (x.count:Nat)] 148)));go_wp2_with (first|(refine X v (by intro Y;rfl) ?_)|(refine eK rfl 108 (.tmp 3) rfl _ rfl (fV b.toArray) y ?_))
 refine(g _ z).mono ?_;rintro e U ⟨A,C,V,rfl,d⟩;have W:Hid (oN w G N B p s ex stk pl (fH (ij #[.slice A (hY s.os pl).length C,eE 0])) U):=eD ⟨A,C,V,rfl,⟨d.ok,(CH.fg z).fk d.ch,d.gd,d.pg,d.st⟩⟩;clear d g y S v;go_wp2;go_ret2
 exact W
end
end
section
theorem Pp{a:List Hn}(c:(a.map Hn.h).Nodup){x:Hn}(g:x∈a):z3 (mW Hn.nS a x.h) x.h=hV x.nS/\∀b∈a,b.h≠x.h->z3 (mW Hn.nS a x.h) b.h=z3 a b.h:=by
 have d:((mW Hn.nS a x.h).map Hn.h).Nodup:=by rw[nG Hn.nS (λ_=>rfl)];exact c
 refine⟨?_,λb f i=> ?_⟩
 ·exact nk (x:=x.nS) d (jd.2 ⟨x,g,by rw[fW rfl]⟩)
 ·rw[nk c f];exact nk d (jd.2 ⟨b,f,by rw[fG i]⟩)
section
variable {w:eI} {G:Nat->fe} {N B p:Nat} {s:LS} {ex:List (eS×fS)} {stk:fS}
def oi(s:LS)(ids:fe)(k:Nat):Nat:=if k∈ids then(oG s.gd k).gE else 0
def z'(s:LS)(k:Nat):fS:=if(oG s.gd k).fQ=0 then[] else[-((oG s.gd k).fQ:Int)]
def j0(s:LS)(ids:fe):fS:=ids.flatMap λk=>z' s k
def BK(w:eI)(G:Nat->fe)(N B p lp m next:Nat)(s:LS)(ex:List (eS×fS))(stk:fS)(hs:List Hn)(h n:Nat)(e:Ending)(w':eI):Prop:=
 ∃A c gA gc out ids roots s2 D',e=fH (ij #[.slice A (j0 s ids).length c,.slice gA ids gc,eE 0])/\
  (∀r,r∈roots↔∃y∈oE hs h,y.gL=r)/\C' (zL (s.os.map OV.ob)) (St s.os roots) out out.length/\ids.Perm (gw s.os ((List.range s.os).filter λi=> !decide (i∈out)))/\ids.Pairwise (λa b=>¬Hc (oi s ids) b a<0)/\
  s2.gd=qG s.gd ids/\s2.inits=s.inits/\s2.last=s.last/\s2.tl.iQ.map (λx=>(x.1,x.2.1))=s.tl.iQ.map (λx=>(x.1,x.2.1))/\(∀o∈s2.os,∃q∈s.os,o.fQ=q.fQ/\o.im=q.im)/\
  gG w' G N B p s2 ((.slice A (j0 s ids).length c,j0 s ids)::(.slice gA ids gc,eM ids)::ex) stk/\rb w' lp p m next true (oE hs h) D' (n+1)/\(∀b∈s2.maps,b≠m)/\CH B rm [m] w w'
end
end
section
section
variable {w:eI} {G:Nat->fe} {N B p:Nat} {s:LS} {ex:List (eS×fS)} {stk:fS}
theorem rb.ne{m next n:Nat}{b:Bool}{a:List Hn}{D:DataW eS}(h:rb w k p m next b a D n):k≠m:=λe=>by obtain⟨d,f,c,_⟩:=h.map;have:=h.eH;unfold eQ at this;rw[e,c] at this;cases this
theorem Ln{b:List Hn}(a:Nat):oE (mW Hn.nS b a) a=oE b a:=by
 induction b with
 |nil=>rfl
 |cons d g c=>
  simp only[oE,mW,hU,Dz] at c ⊢;by_cases e:d.h=a
  ·have f:(Hn.nS d).h=a:=e;simp only[e,nV,f,IY,Is,Bool.not_true,Dc,ua];simpa only[IY] using c
  ·simp only[e,ua,nY,not_false_eq_true,Is,nV];rw[c]
theorem rb.TS{w:eI}{next:Nat}{f:Bool}{b:List Hn}(h:rb w n p k next f b kK m)(s:eQ v n 91 (L5 p k next f))(t:v.ownsMap prog 3 rV k m (kK.del (kI i))):rb v n p k next f (oE b i) (kK.del (kI i)) m:=by
 have c:(oE b i).Sublist b:=Ru;have o:=List.Nodup.sublist (c.map _) h.hn;have g:=h.ok.del (ks':=(oE b i).map Hn.h) i (λu=>by
  simp only[oE,fy,jb,jh];constructor
  ·rintro⟨a,⟨j,l⟩,rfl⟩;exact⟨⟨a,j,rfl⟩,l⟩
  ·rintro⟨⟨a,j,rfl⟩,l⟩;exact⟨a,⟨j,l⟩,rfl⟩)
 refine⟨s,t,⟨g.map,λu r=> ?_,g.only⟩,o,eY c.length_le h.iO,λa d=>h.le a (c.subset d)⟩;obtain⟨a,d,rfl⟩:=fy.1 r;have:=g.at_ a.h r;rw[nk h.hn (c.subset d)] at this;rw[nk o d];exact this
theorem CX{w:eI}(h:w.mapTurned v n):w.grownBy v (some n):=by obtain⟨c,d,f,g,_,rfl⟩:=h;exact⟨rfl,rfl,rfl,by show _<=(w.heap.setIfInBounds n _).size;simp,λa i b=>by show(w.heap.setIfInBounds n _)[a]? =_;rw[Array.getElem?_setIfInBounds_ne];exact λe=>b (by rw[e])⟩
def L6(hs:List Hn)(D:DataW eS)(left:Lit->Bool)(roots:fe):Prop:=(∀kl,left kl=true->Maps.has D kl=true)/\∀r,r∈roots↔∃y∈hs,left (kI y.h)=false/\y.gL=r
theorem L6.start{a:List Hn}{D:DataW eS}(h:TH D a):L6 a D (Maps.has D) []:=by refine⟨λ_ h=>h,λf=>Iff.intro (λh=>by cases h) ?_⟩;rintro⟨b,d,c,_⟩;rw[(h.at_ b.h (fy.2 ⟨b,d,rfl⟩)).1] at c;cases c
theorem L6.entry{a:List Hn}{left:Lit->Bool}(i:L6 a kK left r)(h:TH kK a)(j:(a.map Hn.h).Nodup){b:Lit}{c:eS}(k:left b=true)(l:∀m,kK.atKey b m=.held c):∃y∈a,b=kI y.h/\c=hV y:=by obtain⟨n,d,rfl⟩:=h.only b (i.1 _ k);obtain⟨y,f,rfl⟩:=fy.1 d;refine⟨y,f,rfl, ?_⟩;have g:=(h.at_ y.h d).2 (.held undef);rw[l,nk j f] at g;injection g
theorem L6.step{c:List Hn}{left:Lit->Bool}(g:L6 c kK left r)(j:(c.map Hn.h).Nodup){y:Hn}(i:y∈c):L6 c kK (λa=>left a&& !a.sameKey (kI y.h)) (r++[y.gL]):=by
 refine⟨λk h=>g.1 k (by simp only[pC] at h;exact h.1),λl=> ?_⟩;rw[gu,g.2 l];have m:∀a:Nat,(kI a).sameKey (kI y.h)=decide (a=y.h):=λa=>by simp[Lit.sameKey];omega
 simp only[m,fF];constructor
 ·rintro(⟨a,d,f,b⟩|rfl)
  ·exact⟨a,d,by rw[f];rfl,b⟩
  ·exact⟨y,i,by simp,rfl⟩
 ·rintro⟨a,d,f,b⟩;by_cases e:a.h=y.h
  ·rw[mR j d i e] at b;exact .inr b.symm
  ·refine .inl ⟨a,d, ?_,b⟩;simpa[e] using f
theorem L6.done{c:List Hn}{D:DataW eS}{left:Lit->Bool}(d:L6 c D left t)(f:∀kl,left kl=false)(r:Nat):r∈t↔∃y∈c,y.gL=r:=by rw[d.2 r];exact⟨λ⟨y,a,_,b⟩=>⟨y,a,b⟩,λ⟨y,a,b⟩=>⟨y,a,f _,b⟩⟩
theorem Lo(s:LS)(f:(s.os.map OV.id).Nodup){a:Nat}(j:a<s.os.length)(k:List Rg)(l:eS):(s.u3 a k l s.os[a].id).gd=By s.gd s.os[a].id:=by
 have m:s.os.eraseIdx a=s.os.filter λg=>decide (g.id≠s.os[a].id):=by
  have b:=OM.1 f;clear f;generalize s.os=c at*;induction c generalizing a with
  |nil=>rfl
  |cons u c n=>
   cases a with
   |zero=>have d:=(rD.1 b).1;simp only[List.eraseIdx_cons_zero,sZ,Dz,nY,not_true,decide_false,Dc,ua];refine(JL.2 λo p=> ?_).symm;exact jU (d o p).symm
   |succ r=>
    have i:r<c.length:=by simpa using j
    have d:=(rD.1 b).1 _ (eU i);simp only[List.eraseIdx_cons_succ,If,Dz];rw[fW (jU d),n i (rD.1 b).2]
 simp only[LS.gd,By,OB,jL,m];refine mP λg _=> ?_;simp only[Function.comp,OV.ob,OV.wo];congr 1
 refine E3 λt _=> ?_;by_cases e:t=s.os[a].id<;>simp[e]
end
end
abbrev TL.start(t:TL)(id at_:Int)(b:Nat):TL:={t with iQ:=t.iQ++[(id,at_,b)]}
theorem Pq:∀(b:List (Int×Int×Nat)) (id:Int),(∀c∈b,c.1≠id)->∀a,No a (.int .i64 id)->No (b.foldl (λa d=>a.put (.int .i64 d.1) (.held (Vr d))) a) (.int .i64 id)
 |[],id,_,a,h=>h
 |c::b,id,f,a,h=>Pq b id (λg i=>f g (gD _ i)) _ (h.other (λe=>f c (gM ..) (by simp only[IS,ky] at e;exact e.symm)) _)
def I8(w:eI)(B p ps:Nat)(t:TL)(rs:List Rg)(id at_:Int)(e:Ending)(w':eI):Prop:=∃b g c v',e=fH (ij #[eE at_,eE 0])/\w.heap.size<=b/\w.heap.size<=g/\j' w' B ps (nz rs at_ 3 64 g c) v'/\
 Eg w' B p (t.start id at_ b)/\CH B (193::jr) [t.m3] w w'
theorem He{a:TL}(h:Eg w n k a){g:List Rg}{l:eS}(H:j' w n m g l)(Y:sB g){at_:Int}(I:iq (jn 8) g 4096=at_)(Z:at_+jn 8<=4294967296)(hl:g.length<4096){id:Int}(gO:0<=id/\id<16)(J:∀o∈a.iQ,o.1≠id)(hn:a.iQ.length<=10)(p:a.m3≠a.m1/\a.m3≠a.m2/\∀o∈a.iQ,a.m3≠o.2.2):
 Calls prog 110 #[fw k,fw m,eE id] w (I8 w n k m a g id at_):=by
 have hB:=eY h.low (lN h.eH.lt);have K:=(uz h.rj G4 underlying191 (zeroValue187 w) (key:=.int .i64 id) (kl:=.int .i64 id) (kZ _ (by omega)) (Pq a.iQ id J (.map []) rfl)).1;have B:=eD (λL (f:eF w L)=>QD n m g l 8 3 64 L (H.ext f) Y (by omega) (by omega) (by rw[I];exact Z) (by omega) (by omega) hl rfl (eY hB f.size));rw[I] at B;have c2:=h.eH.ce 2 (.map (some a.m3));have c4:=h.eH.ce 4 (eE 0);have ad:decide (id<0)=false:=by simp;omega
 have ae:decide (16<=id)=false:=by simp;omega
 have af:=h.eH.lt;have C:=eD h;have aC:= @run_makeMap prog;clear h H J;go_in;go_wp2_with (refine aD K (by intro a;rfl) ?_)
 refine(B _ (eF.alloc _ _)).mono ?_;rintro e i ⟨rfl,M,ag,v',N,O,P⟩;have D:CH n jr [] w i:=(CH.fg (eF.alloc w _)).fk P;have u:=C.ch D (by decide);have k0:=u.eH.ce 0 (.map (some a.m1));have ah:=eD u;have ai:=eD O;have Q:=eD D;have aj:=eD u.rS;have ak:w.heap.size<=M:=by rw[fM] at N;omega
 clear u O D P c2 c4 K ad ae B N af;go_wp2_with (first|(at_range;refine wpList_range_own _ rfl _ 189 rfl 3 196 G4 underlying189 rV a.m1 _ _ rfl aj ?_;intro r R S al))
 have v:=(fi.grown S).ext (eF.refl _) (λaE hk=>by cases hk);have am:=eD R;have d:=ah.ext v;have T:=eD v;have c:=eD d;have k2:=d.eH.ce 2 (.map (some a.m3));have k3:=d.eH.ce 3 (fz (!a.iQ.isEmpty));have f3:=d.eH.frozen 3;have aF:=C.rj.lt;have aG:w.heap.size<=i.heap.size/\i.heap.size<=r.heap.size:=⟨Q.size,v.size⟩;obtain⟨b,s⟩:∃b,b=r.setCell (eJ k 3) (fz true):=⟨_,rfl⟩;have E:CH n [193] [] r b:=by rw[s];exact CH.set d.eH d.low (by simp) 3 _
 have U:eQ b k 193 #[.map (some a.m1),.map (some a.m2),.map (some a.m3),.bool true,.int .i64 0]:=by rw[s];exact d.eH.set 3 _
 have an:Hid (((r.setCell (eJ k 3) (fz true)).alloc (.map #[] 0)).ownsMap prog 3 rV a.m3 a.iQ.length (Cj a.iQ)):=eD (by rw[<-s];exact(eF.alloc _ _).lD (E.map d.rj (by simp)));have ao:=eD (World.ownsMap_made b prog 3 rV);have x:=eD E;have ap:=eD U;have aq:b.heap.size=i.heap.size+1:=by rw[s,<-al];simp
 have aH:∀kl,Maps.has (.map []:DataW eS) kl=false:=λ_=>rfl;clear d v R S k0 E U;refine wp_loop_rounds 1 ?_;rw[rounds_succ];go_wp2_with (first|(at_next;refine wpList_next_ranges _ rfl _ rfl 3 G4 rV (Value.int .i64) (λl=>l) (λkey kl h=>by obtain⟨o,e,_⟩:=Maps.keyOf_int_inv underlying3 h;exact⟨o,e⟩) (λl y _=>⟨l,rfl⟩) a.m1 i 0 _ _ _ rfl am ?_ ?_))
 intro _;go_wp2_with (first|(refine wpList_mapUpdate_own _ rfl (.tmp 70) (.tmp 71) (.tmp 74) 191 rfl 3 187 G4 underlying191 rV a.m3 a.iQ.length (Cj a.iQ) rfl an.out (by unfold maxLen;omega) (.int .i64 id) (.agg #[.int .i64 at_,.map (some (i.heap.size+1))]) (.int .i64 id) rfl rfl (kZ _ (by omega)) (.held (.agg #[.int .i64 at_,.map (some (i.heap.size+1))])) [] rfl ?_))
 intro t V z;rw[<-s] at z;have ar:Hid (I8 w n k m a g id at_ (fH (ij #[eE at_,eE 0])) t):=eD (by
  have f:=eF.alloc b (.map #[] 0);have A:CH 0 [] [a.m3] (b.alloc (.map #[] 0)) t:=CH.mM z (eX _) (by simp);have au:k≠a.m3:=λe=>by obtain⟨es,ck,F,_⟩:=c.rj;have:=c.eH;unfold eQ at this;rw[e,F] at this;cases this
  have av:CH n (193::jr) [a.m3] w t:=by have h1:=(((Q.ext T).mono (L':=193::jr) (M':=[a.m3]) (λ_ h=>gD _ h) (λ_ h=>by cases h))).trans (x.mono (L':=193::jr) (M':=[]) (λa ht=>by rw[fF.1 ht];exact gM ..) (λ_ h=>h)) (by simp);exact(h1.ext f).trans (CH.mM z C.Ck (by simp)) (λaI hi=>.inl hi)
  have G:=λ(W aw:Nat) (ax:DataW eS) (ay:r.ownsMap prog 3 rV W aw ax) (az:W≠a.m3)=>A.map (f.lD (x.map ay (by simp))) (by simpa using az);have aA:=A.eH (f.eH ap) (by simp) (by simpa using au);have aB:(!(a.iQ++[(id,at_,b.heap.size)]).isEmpty)=true:=by simp
  refine⟨b,M,ag,v',rfl,by omega,ak,((ai.ext T).ch x (by decide) (by simp) |>.ext f).ch A (by simp) (λaJ p cs t2 fr X=> ?_),⟨by show eQ t k _ #[_,_,_,fz (!(a.iQ++[(id,at_,b.heap.size)]).isEmpty),_];rw[aB];exact aA,c.low,c.Eh,c.Ei,c.Ck,G _ _ _ c.rS (nW p.1),G _ _ _ c.tM (nW p.2.1), ?_,λy j=> ?_⟩,av⟩
  ·obtain rfl:=fF.1 p;obtain⟨es,ck,F,_⟩:=(f.lD (x.map c.rj (by simp)));rw[F] at X;cases X
  ·show t.ownsMap _ _ _ a.m3 (a.iQ++[(id,at_,b.heap.size)]).length (Cj (a.iQ++[(id,at_,b.heap.size)]));rw[fT,Cj,Dk,aq];exact V
  ·rcases gu.1 j with j|j
   ·exact⟨(c.pJ y j).1,G _ _ _ (c.pJ y j).2 (nW (p.2.2 y j))⟩
   ·obtain rfl:=fF.1 j;exact⟨by show n<=b.heap.size;omega,A.map ao (by simp;omega)⟩)
 clear V z;go_wp
 go_ret2
 exact ar
section
section
variable {w:eI} {G:Nat->fe} {N B p:Nat} {s:LS} {ex:List (eS×fS)} {stk:fS}
theorem it.rj(h:it w B p s ex)(n:LZ s.tl s.fb)(c:CH B (193::jr) [s.tl.m3] w v){rs:List Rg}{rv:eS}{tl:TL}(o:j' v B s.sp rs rv)(r:Eg v B s.tp tl):it v B p {s with rs:=rs,rv:=rv,tl:=tl} ex:=by
 obtain⟨C,D,j,_⟩:=h.rT.rj;have a:∀{k:Nat} {g:ik} {l:kx},eQ w k g l->k∉[s.tl.m3]:=λa e=>by rw[fF.1 e] at a;unfold eQ at a;rw[j] at a;cases a
 have f:∀{t u x:Nat} {g:ik} {m:eS} {y:fY},w.ownsRow t g u m x y->∀d,m.ownBlock=some d->d∉[s.tl.m3]:=λf d i e=>by obtain⟨l,a⟩:=lX f i;rw[fF.1 e,j] at a;cases a
 have z:s.fb∉[s.tl.m3]:=λe=>by exact n.2.2 (fF.1 e).symm
 have b:=h.qb;exact⟨c.eH h.eH (by decide) (a h.eH),h.low,o,r,⟨c.eH b.eH (by decide) (a b.eH),b.low,b.yn,c.map b.map z,b.iO⟩,c.own h.row (by decide) (f h.row),h.ints.ch c (by decide) (λd i=>by obtain⟨E,A,e⟩:=fu.1 i;exact f (h.ints.mem A) d e),h.ku⟩
def Fq(w:eI)(B p pp lp mt n:Nat)(D:DataW eS)(s:LS)(ex:List (eS×fS))(id pc:Int)(e:Ending)(w':eI):Prop:=
 ∃g1 c1 g2 c2 g3 c3 v' b,e=.returned (.int .i64 0)/\w.heap.size<=b/\
  it w' B p {s with rs:=nz (mX s.rs g1 c1 g2 c2) (iq 64 (mX s.rs g1 c1 g2 c2) 4096) 3 64 g3 c3,rv:=v',tl:=s.tl.start id (iq 64 (mX s.rs g1 c1 g2 c2) 4096) b} ex/\
  z6 w' pp lp mt (n+1) (D.put (.int .i64 id) (.held (.agg (pK pc (iq 64 (mX s.rs g1 c1 g2 c2) 4096) 0 (mh s.rs+256+1016) id (mh s.rs+256) false).toArray)))/\CH B (193::jr) [s.tl.m3,mt] w w'
theorem wW(h:it w B p s ex)(y:kW G s.rs s.os stk)(r:s.os.length<=13)(bh:stk.length<=1){k i mt n:Nat}{D:DataW eS}(t:z6 w k i mt n D){next m:Nat}{bb:Bool}(am:eQ w i 91 (L5 p m next bb)){id pc:Int}(gO:0<=id/\id<16)(u:No D (.int .i64 id))(an:∀x∈s.tl.iQ,x.1≠id)(hn:s.tl.iQ.length<=10)(bi:n<=1000)(ao:LZ s.tl s.fb)(aU:∀x∈s.tl.iQ,s.tl.m3≠x.2.2)(ap:mt∉s.maps)(hB:B<=mt):
 Calls prog 62 #[.pointer (some ⟨k,0,none⟩),.int .i64 id,.int .i64 pc,.int .i64 0] w (Fq w B p k i mt n D s ex id pc):=by
 have aq:=(uz t.map qI underlying85 (zeroValue160 w) (key:=.int .i64 id) (kl:=.int .i64 id) (kZ _ (by omega)) u).1;have l:=t.eH.ce 1 (.map (some mt));have bj:=t.eH.lt;have z:=eQ.new w 160 BX;have A:=eD h;have K:=eD t;have C:=eD y;have aV:=eD an;have S:=eD ao;have ar:=eD ap;have hK:∀d,CH B jr [] w d->d.cell? (eJ k 0)=some (fw i)/\d.cell? (eJ i 0)=some (fw p)/\d.cell? (eJ p 0)=some (fw s.sp)/\d.cell? (eJ p 1)=some (fw s.tp):=λd a=>⟨(a.eH t.eH).cell 0 rfl,(a.eH am).cell 0 rfl,(a.eH h.eH).cell 0 rfl,(a.eH h.eH).cell 1 rfl⟩;have L:=eD hK;have T:=eD (λd (a:eF w d)=>B4 B s.sp s.rs s.rv 1280 d (h.vH.ext a) (by omega) (by omega) (by
  have:=(y.Fk r).1;unfold mh at this;have e:jn 1280=1280:=by decide
  rw[e];omega))
 have hg:iq (jn 1280) s.rs 4096=mh s.rs:=rfl;rw[hg] at T;have aW:=eD (y.Fk r).1;clear h t y an ao ap u am hK hg;go_in;go_wp2_with (first|(refine bk aq (by intro bl;rfl) ?_)|(refine eG rfl 160 (.tmp 9) (.tmp 23) rfl w rfl [eE 0,eE 0,eE 0,eE 0,eE 0,eE 0,eE 0,eE 0,eE 0,eE 0,eE 0,eE 0,eE 0,eE 0,eE 0,eE 0,eE 0,eE 0,eE 0,eE 0,fz false] rfl z (by simp[Value.oneCell']) (by kernel_rfl) (by rfl) ?_))
 intro w1 b1 j;have U:=(fi.grown j).ext (eF.alloc _ _);obtain⟨V,W,X,Y⟩:=L w1 (CH.fg U);have Z:=eD U;clear z b1 j U aq l;go_wp
 refine(T w1 Z).mono ?_;rintro e w2 ⟨rfl,au⟩;have a:=Z.trans au;obtain⟨V,W,X,Y⟩:=L w2 (CH.fg a);have aX:=eD a;have y:=aW.out;have bm:=(C.Fk r).2.lo;have av:=eY A.size a.size;have aw:=eD (sC B s.sp s.rs s.rv (mh s.rs) 256 0 256 w2 (A.vH.ext a) (C.Fk r).2 (by decide) av);have ax:=eD (λaY aZ=>C.SM r aY aZ);have ad:=eD (λj l E F=>C.SN r j l E F);unfold mX at ad;generalize hG:mh s.rs=c at*;have HG:=eD hG;clear au a Z T hG;go_wp21
 refine aw.mono ?_;rintro e w3 ⟨rfl,j,l,v1,a0,ay,ae⟩;have af:CH B jr [] w w3:=(CH.fg aX).fk (pn.sub ae);obtain⟨V,W,X,Y⟩:=L w3 af;have az:=eD (sC B s.sp _ v1 (c+256) 1024 3 1024 w3 ay (ax j l).2 (by decide) (eY av ae.size));have aA:=eD (ad j l);have aB:=eD af;clear ay ae af aw ax ad a0;go_wp21
 refine az.mono ?_;rintro e v ⟨rfl,E,F,v2,a1,aC,aD⟩;have M:=aB.fk (pn.sub aD);have H:=eD (λb:EW v=>L b.w (M.ext b.ext));have e0:∀b:EW v,b.w.cell? (eJ k 0)=some (fw i):=λb=>(H b).1;have e1:∀b:EW v,b.w.cell? (eJ i 0)=some (fw p):=λb=>(H b).2.1;have e2:∀b:EW v,b.w.cell? (eJ p 0)=some (fw s.sp):=λb=>(H b).2.2.1;have e3:∀b:EW v,b.w.cell? (eJ p 1)=some (fw s.tp):=λb=>(H b).2.2.2;have ag:=eF.drew v;obtain⟨q1,q2,q3,q4⟩:=aA E F;have e8:jn 8=64:=by decide
 have a2:=C.len;have aE:=eD (He (id:=id) (((A.rT.ch M (by decide)).ext ag)) (aC.ext ag) q1 (at_:=iq 64 _ 4096) (by rw[e8]) (by rw[e8];exact q2) (by rw[q3];omega) gO aV hn ⟨S.1,S.2.1,aU⟩);have ah:=eD (M.ext ag);clear aC aD M az aA a1 aB q1 q2 q3 q4 e8 a2 V W X Y H;go_wp2;refine iW [0,1,2,3,4,5,6,7,8,9,10,11,12,13,14,15,16,17,18,19,20] [] (.e [21] (.q [22,23,24,25,26] .done)) ?_;repeat(go_big_quiet_step (fail))
 refine eO ?_;clear e0 e1 e2 e3;refine eT ?_;go_wp
 refine aE.mono ?_;rintro e f ⟨a3,g3,c3,v3,rfl,aF,bn,aG,aH,aI⟩;have ai:=(ah.mono (L':=193::jr) (M':=[s.tl.m3]) (λ_ h=>gD _ h) (λ_ h=>by cases h)).trans aI (λ_ h=>.inl h);have aJ:=eD (A.rj S ai aG aH);have a4:=eY ah.size aF;clear aF;have a5:=eD ai;clear aG aH aI ai aE ah;generalize aK:iq 64 (nz (nz s.rs c 0 256 j l) (c+256) 3 1024 E F) 4096=at_ at*;have aL:=eD aK;clear aK;go_wp2;refine iH ?_;refine fj ?_;repeat(go_big_quiet_step (fail))
 refine eO ?_;refine fP ?_;have z:=eQ.new f 160 BX;go_wp2_with (first|(refine eG rfl 160 (.tmp 15) (.tmp 130) rfl f rfl (pK 0 0 0 0 0 (c+256) false) rfl z (zl _ _ _ _ _ _ _) (by kernel_rfl) (by rfl) ?_))
 intro w6 g g6;have aM:=(fi.grown g6).ext (eF.alloc _ _);have aN:=eD aM;have aO:=eD g;have a6:=g.ce 18 (eE 0);have c0:=g.ce 0 (eE 0);have a7:=g.ce 1 (eE 0);have a8:=g.ce 2 (eE 0);have a9:=g.ce 17 (eE 0);have f18:=g.frozen 18;have f0:=g.frozen 0;have f1:=g.frozen 1;have f2:=g.frozen 2;have f17:=g.frozen 17;clear z g6 aM g;go_wp
 obtain⟨o,N⟩:∃o,o=((((w6.setCell (eJ f 18) (eE id)).setCell (eJ f 0) (eE pc)).setCell (eJ f 1) (eE at_)).setCell (eJ f 2) (eE 0)).setCell (eJ f 17) (eE (c+256+1024- 8)):=⟨_,rfl⟩;have aP:eQ o f 160 (pK pc at_ 0 (c+256+1024- 8) id (c+256) false).toArray:=by rw[N];exact((((aO.set 18 _).set 0 _).set 1 _).set 2 _).set 17 _
 have aj:eF f o:=by have e:∀(O:eI),eF f O->∀I b,eF f (O.setCell (eJ f I) b):=λO h I b=>(fi.set O f I b).ext h (λbo hk=>by subst hk;exact fJ _);rw[N];exact e _ (e _ (e _ (e _ (e _ aN _ _) _ _) _ _) _ _) _ _
 rw[<-N];clear N a6 c0 a7 a8 a9 f18 f0 f1 f2 f17 aO aN;have Q:=a5.ext aj;have ak:eQ o k 87 #[fw i,.map (some mt)]:=Q.eH K.eH (by decide) (by intro e;obtain rfl:=fF.1 e;obtain⟨es,ck,u,_⟩:=A.rT.rj;have:=K.eH;unfold eQ at this;rw[u] at this;cases this)
 have aQ:=Q.map K.map (by intro e;exact ar (by rw[fF.1 e];simp[LS.maps]))
 have aR:=eD ak;have al:=eD aQ;have a':=eD Q;have bc:=eD aj;have e1:=ak.ew 1 (.map (some mt)) rfl;have aS:Hid (∀d,(∃b:EW o,d=b.w)->(loadVar 160 (eJ f 0)).run prog d=.ok (fV (pK pc at_ 0 (c+256+1024- 8) id (c+256) false).toArray) d):=eD (λd ⟨b,hu⟩=>by subst hu;exact(b.ext.eH aP).fK (P:=prog) 160 _ underlying160 rfl (by kernel_rfl))
 clear ak aQ Q aj aP;refine mY [0,1,2,3,4,5] [6] ?_;iterate 5 (go_big_quiet_step (fail))
 refine fR rfl 160 (.tmp 15) rfl _ _ rfl aS (by simp[Act.put];rfl) ?_;repeat(go_big_quiet_step (fail))
 refine eO ?_;clear e1 aS;have J:=eD (eF.drew o);generalize World.drew o=v0 at*;go_wp2_with (refine wpList_mapUpdate_own _ rfl (.tmp 157) (.tmp 158) (.tmp 159) 85 rfl 3 160 qI underlying85 rV mt n D rfl (J.out.lD al.out) (by unfold maxLen;omega) (.int .i64 id) (.agg (pK pc at_ 0 (c+256+1024- 8) id (c+256) false).toArray) (.int .i64 id) rfl rfl (kZ _ (by omega)) (.held (.agg (pK pc at_ 0 (c+256+1024- 8) id (c+256) false).toArray)) [] rfl ?_)
 intro w8 R g8;have bd:Hid (Fq w B p k i mt n D s ex id pc (.returned (.int .i64 0)) w8):=eD (by
  have aT:CH 0 [] [mt] v0 w8:=CH.mM g8 (eX _) (by simp);have be:c+256+1024- 8=c+256+1016:=by omega
  rw[be] at R;have bf:eQ w8 k 87 #[fw i,.map (some mt)]:=aT.eH (J.eH aR) (by simp) (by intro e;obtain rfl:=fF.1 e;obtain⟨es,ck,u,_⟩:=al.out;have:=aR.out;unfold eQ at this;rw[u] at this;cases this)
  have bg:=((a'.ext J).mono (M':=[s.tl.m3,mt]) (λ_ h=>h) (λI hi=>by rw[fF.1 hi];simp)).trans (M':=[mt]) (CH.mM g8 hB (by simp)) (λI hi=>.inl (by rw[fF.1 hi];simp));rw[<-aL,<-HG] at R;refine⟨j,l,E,F,g3,c3,v3,a3,rfl, ?_, ?_,⟨bf,R⟩,bg⟩
  ·exact a4
  ·rw[<-aL,<-HG] at aJ;have hl:=((aJ.ext bc).ext J).CU (m:=mt) (λx a e=>by
    subst e;simp only[LS.maps,TL.start,iC,hU,jt,fm,gu,gp,gq] at a;refine ar ?_;simp only[LS.maps,fm];rcases a with a|a|a|a|a|a
    ·exact .inl a
    ·exact .inr (.inl a)
    ·exact .inr (.inr (.inl a))
    ·exact .inr (.inr (.inr (.inl a)))
    ·exact .inr (.inr (.inr (.inr a)))
    ·have:=K.map.lt;omega) (J.out.lD al.out) aT
   exact hl)
 clear R g8;go_wp
 go_ret;exact bd
end
end
theorem C3:(prog.info? 149).map (λa=>(a.zero,a.size,a.bytes))=some (some (.agg #[.int .i64 0,.int .i64 0,.int .i64 0]),3,24):=by kernel_rfl
theorem RW{rest:List Oper}{o:Exit->Act->eI->Prop}(r:kE.guard=none)(i j:Operand)(s:kE.op=.call {callee:=.builtin .append,args:=#[i,j],argTypes:=#[35,35]}){b:eS}{f:Nat}{k:fY}(h:w.ownsRow n 149 3 b f k)(t:n<=w.heap.size)(u:a.eval i=b)(l:fE)(p:Nat)(c:fY)(d:Nat)(v:a.eval j=.slice l d p)(x:c.length=d*3)(y:Rd w l c)(z:∀A∈c,A.oneCell'=true)(H:f+d<=1000000)(B:∀g m,m.ownsRow n 149 3 g (f+d) (k++c)->w.grownBy m b.ownBlock->(g.ownBlock=b.ownBlock\/g.ownBlock=some w.heap.size)->wpList prog kG o rest (a.put kE.dst g) m):wpList prog kG o (kE::rest) a w:=by obtain⟨C,D,E,F,G⟩:=info_parts C3;exact fB r i j 35 s n 149 C _ 3 24 underlying35 D E F G rfl (by omega) b f k u h l p c d v x y z (by unfold maxLen;omega) (by omega) t B
theorem PO{rest:List Oper}{o:Exit->Act->eI->Prop}(r:kE.guard=none)(j k:Operand)(s:kE.op=.call {callee:=.builtin .append,args:=#[j,k],argTypes:=#[35,35]}){g:eS}{l:Nat}{p:fY}(h:w.ownsRow n 149 3 g l p)(C:n<=w.heap.size)(t:a.eval j=g)(b:fY)(u:a.eval k=fN w 1 1)(v:b.length=3)(x:∀y∈b,y.oneCell'=true)(D:l<1000000)(z:∀c d,d.ownsRow n 149 3 c (l+1) (p++b)->(w.alloc (eN b.toArray 149)).grownBy d g.ownBlock->(∀i,c.ownBlock=some i->g.ownBlock=some i\/w.heap.size<=i)->wpList prog kG o rest (a.put kE.dst c) d):wpList prog kG o (kE::rest) a (w.alloc (eN b.toArray 149)):=
 RW r j k s ((eF.alloc _ _).own h) (by rw[fM];omega) t _ 1 b 1 u (by simpa using v) (by simpa using ip w b.toArray _) x (by omega) λc d A B f=>z c d A B λi m=>by
  rcases f with f|f
  ·exact .inl (f▸m)
  ·rw[f] at m;simp only[fM,fd] at m;exact .inr (by omega)
def Jc(w:eI)(T:ik)(k n:Nat)(e:Ending)(w':eI):Prop:=∃A c,e=fH (.slice A n c)/\eF w w'
theorem FH{next:Nat}{U:Bool}{l:List Hn}(h:rb w n k m next U l kK i):
 Calls prog 19 #[fw n] w (Jc w 149 3 l):=by
 have V:=eD h;obtain⟨C,W⟩:=h.ok.TK h.hn h.map;have am:=h.iO;rw[gW] at W;have X:=eD C;have D:=eD (λu (a:eF w u) k (Y:eQ u k 89 #[.map (some m)])=>wV m i k kK rV u (a.lD h.map) Y (by omega));have Z:=h.eH.ce 1 (.map (some m));clear h C;go_in;go_wp
 refine(BF m w).mono ?_;rintro e w1 ⟨rfl,rfl⟩;go_wp21
 refine(D _ (eF.alloc _ _) _ (eQ.new _ _ _)).mono ?_;rintro e o E;obtain⟨an,ao,f,rfl,v,F,a⟩:=E.V' X;have HX:=eD ((eF.alloc w _).trans a);have HO:=eD (Rd.gY F);have ad:=eD v;have ae:f.length=l.length:=by rw[v.length_eq,gW]
 clear E F a v D Z;go_wp2;go_loopw [13,3] (λx v3 wr=>∃b c d p,b<=f.length/\x=eE b/\v3=.slice c b d/\wr.ownsRow o 149 3 (.slice c b d) b p/\eF o wr) (λx _ _=>f.length- (intOf x).toNat)
 case atStart=>exact⟨0,none,0,[],eX _,rfl,rfl,⟨rfl,.inl ⟨rfl,rfl⟩⟩,eF.refl _⟩
 case round=>
  obtain⟨b,c,d,p,hk,rfl,rfl,y,a⟩:=hrel;have r:=HX.trans a;by_cases G:b<f.length
  ·obtain⟨bb,ap,rfl,aq,d0⟩:=ja (a.rd HO) G;have H:=ad.mem_iff.1 (eU G);obtain⟨s,I,J⟩:=fy.1 H;have z:=V.ext r;have e1:=z.eH.ew 1 (.map (some m)) rfl;have K:∀t:EW wr,(Instr.lookup 89 (.map (some m)) (eE (s.h:Nat)) false).run prog t.w=.ok (fV #[eE (s.gL:Nat),eE (s.count:Nat)]) t.w:=λt=>((z.ext t.ext).look I).2;rw[<-J] at d0;have af:=UW;have ag:=TO;have L:=eD a;have A:=eD y;have ah:=a.size;clear H r a I J z y;obtain⟨M,N,O⟩:=s;simp only at K d0;go_wp
   refine xO [0,1,2,3,4,5,6,7,8,9,10,11,12,13,14,15,16] [17,18,19] 1 ?_;repeat(go_big_quiet_step (fail))
   refine eO ?_;clear e1 K af ag;have g:=eD (eF.drew wr);generalize World.drew wr=v0 at*;refine gH ?_;go_wp2_with (refine jF rfl 35 149 (.tmp 33) rfl [eE (M:Nat),eE (N:Nat),eE (O:Nat)] 3 rfl underlying35 (by kernel_rfl) rfl (by decide) ?_)
   go_wp
   refine⟨⟨⟨_,g.trans (eF.alloc _ _)⟩,rfl⟩, ?_⟩;refine jm ?_;have ai:=g.size;go_wp2_with (at_builtin;go_loud(refine PO rfl _ _ rfl (g.own A) (eY ah ai) rfl [eE (M:Nat),eE (N:Nat),eE (O:Nat)] rfl rfl (by simp[Value.oneCell']) (by omega) ?_))
   intro v4 P B Q _;obtain⟨R,S,rfl⟩:=eR B;have T:=(fi.grown (j1 Q)).ext (L.trans g) (λaj hz=>(A.lt aj hz.symm).1);have ak:Hid (∃j c d p,j<=f.length/\Value.int .i64 ((b:Int)+1)=.int .i64 j/\(Value.slice R (b+1) S)=.slice c j d/\P.ownsRow o.heap.size 149 3 (.slice c j d) j p/\eF o P):=eD ⟨b+1,R,S,_,by omega,by go_num,rfl,B,T⟩;clear B Q T A g L;go_wp
   go_roundw
   case rel=>exact ak
   case measure=>simp[intOf];omega
  ·obtain rfl:b=f.length:=by omega
   have al:Hid (Jc w 149 3 l.length (fH (.slice c f.length d)) wr):=eD ⟨c,d,by rw[ae],r⟩;clear a r y;go_wp
   go_ret;exact al
