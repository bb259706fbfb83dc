/- TopOnce: part 13 of the proof. -/
import Derived.Test.YtoaehdgokeicoaaGreatDoorZ11
import Derived.Test.YtoaehdgokeicoaaGreatDoorZ12
set_option maxRecDepth 100000
set_option maxHeartbeats 30000000
set_option linter.all false
namespace Go.Proofs.YtoaehdgokeicoaaGreatDoor
open K9 Z9 Go.Proofs.Tryz
section
open Go.RowKit
section
def IN(x:Int)(l:fS)(w:eI)(e:Ending)(w':eI):Prop:=(∃r:Int,e=fH (eE r)/\decide (0<=r)=decide (x∈l))/\w=w'
theorem Kz(o:fE)(i w:Nat)(b:fS)(c:Int)(f:eI)(p:Rd f o (ints b))(x:b.length=i)(E:i<=1000000):
 Calls prog 230 #[.slice o i w,eE c] f (IN c b f):=by
 subst x;have y:=eD p;clear p;go_in;go_wp2;go_loop [8] (λj=>∃a:Nat,a<=b.length/\j=eE a/\∀d,d<a->∀g,b[d]? =some g->g≠c) (λj=>b.length- (intOf j).toNat)
 case atStart=>exact⟨0,eX _,rfl,λd k=>by omega⟩
 case round=>
  obtain⟨a,F,rfl,r⟩:=hrel;have s:=eD r;clear r;by_cases t:a<b.length
  ·obtain⟨z,A,rfl,u⟩:=y a (by simpa[ints] using t);have G:f.cell? ⟨z,A+a,none⟩=some (.int .i64 b[a]):=by rw[u];simp[ints]
   clear u;have v:=eD (gg t);generalize b[a]=g at*;by_cases l:c=g
   ·subst l;have B:(c==c)=true:=Dw _;have m:Hid (decide (c∈b)=true):=eD (by simpa using mp v);go_wp2;go_ret;exact⟨⟨a,rfl,by rw[m];exact jU (Mp a)⟩,rfl⟩
   ·have B:=mn.2 l;go_wp2;go_round
    case rel=>exact⟨a+1,by omega,by go_num,λd k C n=>by
     by_cases h:d=a
     ·subst h;rw[v] at n;obtain rfl:=mj n;exact λe=>l e.symm
     ·exact s d (by omega) C n⟩
    case measure=>simp[intOf];omega
  ·have m:Hid (decide (c∈b)=false):=eD (by simp only[DO];intro D;obtain⟨d,k,rfl⟩:=gN D;exact s d (by omega) _ (gg k) rfl)
   go_wp2;go_ret;exact⟨⟨-1,rfl,by rw[m];rfl⟩,rfl⟩
theorem zW(f:fE)(b g:Nat)(a:fS)(c:Int)(d:eI)(i:Rd d f (ints a))(j:a.length=b)(k:b<=1000000):
 Calls prog 190 #[.slice f b g,eE c] d λe m=>e=fH (fz (decide (c∈a)))/\d=m:=by
 have l:=eD (Kz f b g a c d i j k);clear i j k;unfold IN at l;generalize decide (c∈a)=n at*;go_in;go_wp2_with fail
 refine l.mono ?_;rintro e o ⟨⟨p,rfl,r⟩,rfl⟩;go_wp2;go_ret;exact⟨rfl,rfl⟩
def Da(os:List OV)(roots:fe)(i:Nat):Bool:=match os[i]? with|some o=>o.keep||decide (o.id∈roots)|none=>false
def St(os:List OV)(roots:fe):fe:=(List.range os).filter (Da os roots)
def EL(w:eI)(os:List OV)(roots:fe)(e:Ending)(w':eI):Prop:=∃out,C' (zL (os.map OV.ob)) (St os roots) out out.length/\pu w (gw os ((List.range os).filter λi=> !decide (i∈out))) e w'
section
variable {w:eI} {B p:Nat} {s:LS} {ex:List (eS×fS)}
theorem NV(h:it w B p s ex)(hl:s.os.length<=60)(P:∀c∈s.os,c.eP.length<=60)(Q:∀c∈s.os,∀J∈c.eP,∃i,∃hi:i<s.os.length,s.os[i].id=J)(b:fe)(R:fE)(K dc:Nat)(ao:b.length=K)(hD:Rd w R (ints (eM b)))(aA:K<=1000):
 Calls prog 115 #[fw p,.slice R K dc] w (EL w s.os b):=by
 have HE:=eD (λL (z:eF w L)=>GZ (h.ext z) (by omega) (λc j=>by have:=P c j;omega) Q);have ap:=eD (λes A r=>yW (os:=s.os) (es:=es) A r hl P Q);have ad:=eD h.Kq;have ae:=eD (h.eH.ce 6 (.slice s.oA s.os.length s.oc));have af:=eD (λL (z:eF w L) (J:Nat)=>zW R K dc (eM b) J L (z.rd hD) (by rw[fv];exact ao) (by omega));simp only[oK] at af;clear h P Q hD;go_in;have S:=ae.out;go_wp2;clear S;go_loopw [18,5] (λi l wr=>∃a:Nat,a<=s.os.length/\i=eE a/\OR w wr 3 1 l ((List.range a).filter (Da s.os b)).length (ints (eM ((List.range a).filter (Da s.os b))))) (λi _ _=>s.os.length- (intOf i).toNat)
 case atStart=>exact⟨0,eX _,rfl,OR.nil (eF.refl w) _ _⟩
 case round=>
  obtain⟨a,hk,rfl,j⟩:=hrel;have g:=eD j;clear j;by_cases x:a<s.os.length
  ·obtain⟨aq,ar,T,C,D,U⟩:=jW ad x;have E:=eD (D wr g.ext);have ag:Da s.os b a=(s.os[a].keep||decide (s.os[a].id∈b)):=by unfold Da;rw[gg x]
   have m:=eD (rZ (Da s.os b) a);rw[ag] at m;have ah:=ki (Da s.os b) a;rw[T];clear D U ag;generalize s.os[a]=c at*;have F:=eQ.new wr 177 tw;go_wp2_with (first|(refine eK rfl 177 (.tmp 21) rfl _ rfl (xd c) ?_ ?_)|(refine eG rfl 177 (.tmp 7) (.tmp 22) rfl wr rfl c.eL rfl F (j4 _) (by rw[gx];exact iR) (by rw[gx];rfl) ?_))
   ·exact E
   intro w1 y G;have n:=eD ((fi.grown G).ext (eF.alloc _ _));have ai:=y.ce 21 (fz c.keep);have M:=y.ce 0 (eE (c.id:Nat));have HC:=eD (af w1 (g.ext.trans n) c.id);clear G F E y;generalize decide (c.id∈b)=H at*;generalize c.keep=V at*;have N:Hid (∀d f,OR w f 3 1 d (((List.range a).filter (Da s.os b)).length+1) (ints (eM ((List.range a).filter (Da s.os b)))++[.int .i64 (a:Nat)])->(V||H)=true->OR w f 3 1 d ((List.range (a+1)).filter (Da s.os b)).length (ints (eM ((List.range (a+1)).filter (Da s.os b))))):=eD (λd f t u=>by have e:=m.out;rw[u,fW rfl] at e;rw[e,iJ,mI,fT];exact t)
   have W:Hid (∀d f,OR w f 3 1 d ((List.range a).filter (Da s.os b)).length (ints (eM ((List.range a).filter (Da s.os b))))->(V||H)=false->OR w f 3 1 d ((List.range (a+1)).filter (Da s.os b)).length (ints (eM ((List.range (a+1)).filter (Da s.os b))))):=eD (λd f t u=>by have e:=m.out;rw[u,fG (by decide),ox] at e;rw[e];exact t)
   clear m;cases V with
   |true=>
    clear HC;go_wp2_with (at_builtin;go_loud(refine lZ rfl _ _ rfl (g.to (n.trans (eF.alloc _ _))) rfl (some (eJ _ 0)) 1 [eE a] 1 rfl rfl (ip _ #[eE (a:Nat)] _) (by simp[Value.oneCell']) (by omega) ?_))
    intro d f o I _;have k:=eD (N d f o rfl);clear o I ai M;go_wp2;go_roundw
    case rel=>exact⟨a+1,by omega,by go_num,k⟩
    case measure=>simp[intOf];omega
   |false=>
    go_wp2_with fail
    refine HC.mono ?_;rintro e w2 ⟨rfl,rfl⟩;cases H with
    |true=>
     go_wp2_with (at_builtin;go_loud(refine lZ rfl _ _ rfl (g.to (n.trans (eF.alloc _ _))) rfl (some (eJ _ 0)) 1 [eE a] 1 rfl rfl (ip _ #[eE (a:Nat)] _) (by simp[Value.oneCell']) (by omega) ?_))
     intro d f o I _;have k:=eD (N d f o rfl);clear o I ai M;go_wp2;go_roundw
     case rel=>exact⟨a+1,by omega,by go_num,k⟩
     case measure=>simp[intOf];omega
    |false=>
     have k:=eD (W _ _ (g.to n) rfl);go_wp2;go_roundw
     case rel=>exact⟨a+1,by omega,by go_num,k⟩
     case measure=>simp[intOf];omega
  ·obtain rfl:a=s.os.length:=by omega
   have ah:=ki (Da s.os b) s.os.length;obtain⟨Ad,cd,r⟩:=g.mb;subst r;have aj:=eD (g.rd rfl);go_wp2_with fail
   refine(HE wr g.ext).mono ?_;rintro e w2 ⟨au,av,es,A,r,rfl,ak,X⟩;have al:=ap es A r;have hg:=funext r;have aw:=eD (g.ext.trans X);have Y:=eD (Kv es au av w2 ak al (St s.os b) (by intro J z;simp only[St,jb,ll] at z;omega) (by unfold St;omega) Ad ((List.range s.os.length).filter (Da s.os b)).length cd rfl (X.rd aj));rw[A] at Y;have HG:=eD hg;have ax:=eD A;clear HE ak X al hg r aj;go_wp2_with fail
   refine Y.mono ?_;rintro e v ⟨out,aB,C,he,Z,aC,am⟩;rw[ax] at he Z;subst he;rw[HG] at C;have HB:=eD C;have O:=eD (aw.trans am);have ay:=eD Z;clear C am Z Y HG;have S:=O.cell ae;go_wp2;clear S;go_loopw [48,10] (λi l wr=>∃a:Nat,a<=s.os.length/\i=eE a/\OR v wr 3 1 l (gw s.os ((List.range a).filter λi=> !decide (i∈out))).length (ints (eM (gw s.os ((List.range a).filter λi=> !decide (i∈out)))))) (λi _ _=>s.os.length- (intOf i).toNat)
   case atStart=>exact⟨0,eX _,rfl,OR.nil (eF.refl v) _ _⟩
   case round=>
    obtain⟨a,hk,rfl,j⟩:=hrel;have g:=eD j;clear j;by_cases x:a<s.os.length
    ·obtain⟨aq,ar,T,C,D,U⟩:=jW ad x;have E:=eD (D wr (O.trans g.ext));have m:=eD (rZ (λi=> !decide (i∈out)) a);have gO:=IK x;have an:=eD gO;have ah:(gw s.os ((List.range a).filter λi=> !decide (i∈out))).length<=a:=by simp only[gw,gW];exact ki _ a
     rw[T];clear D U gO;generalize s.os[a]=c at*;have F:=eQ.new wr 177 tw;go_wp2_with (first|(refine eK rfl 177 (.tmp 51) rfl _ rfl (xd c) ?_ ?_)|(refine eG rfl 177 (.tmp 12) (.tmp 52) rfl wr rfl c.eL rfl F (j4 _) (by rw[gx];exact iR) (by rw[gx];rfl) ?_))
     ·exact E
     intro w1 y G;have n:=eD ((fi.grown G).ext (eF.alloc _ _));have M:=y.ce 0 (eE (c.id:Nat));have cs:=(g.ext.trans n).cell (ay.cell a (uS x));clear G F E y;have N:Hid (∀d f,OR v f 3 1 d ((gw s.os ((List.range a).filter λi=> !decide (i∈out))).length+1) (ints (eM (gw s.os ((List.range a).filter λi=> !decide (i∈out))))++[.int .i64 (c.id:Nat)])->decide (a∈out)=false->OR v f 3 1 d (gw s.os ((List.range (a+1)).filter λi=> !decide (i∈out))).length (ints (eM (gw s.os ((List.range (a+1)).filter λi=> !decide (i∈out)))))):=eD (λd f t u=>by
      have e:=m.out;rw[u,fW (by decide)] at e;have e2:gw s.os ((List.range (a+1)).filter λi=> !decide (i∈out))=gw s.os ((List.range a).filter λi=> !decide (i∈out))++[c.id]:=by rw[e];simp only[gw,iC,hU,jt,an.out]
      rw[e2,iJ,mI,fT];exact t)
     have W:Hid (∀d f,OR v f 3 1 d (gw s.os ((List.range a).filter λi=> !decide (i∈out))).length (ints (eM (gw s.os ((List.range a).filter λi=> !decide (i∈out)))))->decide (a∈out)=true->OR v f 3 1 d (gw s.os ((List.range (a+1)).filter λi=> !decide (i∈out))).length (ints (eM (gw s.os ((List.range (a+1)).filter λi=> !decide (i∈out)))))):=eD (λd f t u=>by have e:=m.out;rw[u,fG (by decide),ox] at e;rw[e];exact t)
     clear m an;generalize(gw s.os ((List.range a).filter λi=> !decide (i∈out)))=aD at*;generalize decide (a∈out)=H at*;cases H with
     |false=>
      go_wp2_with (at_builtin;go_loud(refine lZ rfl _ _ rfl (g.to (n.trans (eF.alloc _ _))) rfl (some (eJ _ 0)) 1 [eE c.id] 1 rfl rfl (ip _ #[eE (c.id:Nat)] _) (by simp[Value.oneCell']) (by omega) ?_))
      intro d f o I _;have k:=eD (N d f o (by simp));clear o I M cs;go_wp2;go_roundw
      case rel=>exact⟨a+1,by omega,by go_num,k⟩
      case measure=>simp[intOf];omega
     |true=>
      have k:=eD (W _ _ (g.to n) (by simp));go_wp2;go_roundw
      case rel=>exact⟨a+1,by omega,by go_num,k⟩
      case measure=>simp[intOf];omega
    ·obtain rfl:a=s.os.length:=by omega
     have az:Hid (∀l,OR v wr 3 1 l (gw s.os ((List.range s.os.length).filter λi=> !decide (i∈out))).length (ints (eM (gw s.os ((List.range s.os.length).filter λi=> !decide (i∈out)))))->EL w s.os b (fH l) wr):=eD (λl j=>⟨out,HB,l,rfl,fq j.own O.size,O.trans j.ext⟩);go_wp2;go_ret;exact az _ g
end
end
end
section
variable{w v u W V U:eI}{n k m i j p b c d g N B K G M:Nat}{x y z X Y Z:eS}{D E F:Int}{A C H I:fE}{l L J T:fY}{r s t R S:fe}{f:ik}{a:Act}{O P Q:List Oper}{kB:List (eS×fS)}{kH:Program}{kJ:kx}{kK:DataW eS}{kR:gh}
section
open Go.RowKit
section
theorem CH.fC{B:Nat}{L:mB}{w:eI}(h:CH B L [] w v){L':mB}(a:∀t∈L,t∈L'):CH B L' [] w v:=h.mono a (λ_ h=>h)
section
variable {w:eI} {B p:Nat} {s:LS} {ex:List (eS×fS)}
abbrev LS.ke(s:LS)(n:Nat):LS:=s.re s.oA s.oc s.os s.sA s.sc s.scope s.last n s.lA s.lc s.gF
theorem KB(h:it w B p s ex)(a:Nat):it (w.setCell (eJ p 9) (eE (a:Nat))) B p (s.ke a) ex/\CH B [97] [] w (w.setCell (eJ p 9) (eE (a:Nat))):=by have b:CH B [97] [] w (w.setCell (eJ p 9) (eE (a:Nat))):=CH.set h.eH h.low (by simp) 9 _;exact⟨h.km b (by decide) (h.eH.set 9 _) (b.own h.row) (h.ints.ch b) h.ku,b⟩
def OV.ke(o:OV)(n:Nat):OV:={o with gE:=n}
def KD(p:Nat)(s:LS)(k:Nat):Prop:=k=p\/s.oA=some (eJ k 0)
def Rh(w:eI)(B p:Nat)(s:LS)(ex:List (eS×fS))(os:List OV)(n:Nat)(e:Ending)(w':eI):Prop:=e=fH (ij #[])/\it w' B p ((s.ke n).jg os) ex/\CH B lB [] w w'/\fi (KD p s) w w'
theorem Ri(h:it w B p s ex)(C:s.os.length<=1000)(Z:s.inits<=100000){i:Nat}(c:i<s.os.length)(m:∀j (hj:j<i),s.os[j].id≠s.os[i].id):
 Calls prog 268 #[fw p,eE (s.os[i].id:Nat)] w (Rh w B p s ex (s.os.set i (s.os[i].ke (s.inits+1))) (s.inits+1)):=by
 have n:=eD (kv h C s.os[i].id);rw[mv c rfl m] at n;obtain⟨D,o,ad,ae,_⟩:=h.at c;have N:=eD h;have O:Hid (∀d a,it d B p a ex->a.os=s.os->a.oA=s.oA->Calls prog 126 #[fw p,eE (s.os[i].id:Nat)] d λe f=>e=fH (.pointer (some (eJ D (i*27))))/\eF d f):=eD (λd a r e t=>by
  have:=uO (i:=i) r (by rw[e];exact C) (by rw[e];exact c) (by simp only[e];exact m) (t.trans o);have P:(a.os[i]'(by rw[e];exact c)).id=s.os[i].id:=by simp only[e]
  rw[P] at this;exact this)
 have Q:=eD (λd a (r:it d B p a ex) (e:a.os=s.os) (t:a.oA=s.oA)=>uN r (i:=i) (by rw[e];exact c) (t.trans o) (j:=25) (by omega) (u:=.int .i64 ((s.inits+1:Nat):Int)) (o':=(a.os[i]'(by rw[e];exact c)).ke (s.inits+1)) (v0:=.int .i64 ((a.os[i]'(by rw[e];exact c)).gE:Nat)) rfl rfl rfl)
 clear h m;generalize gO:s.os[i].id=id at*;clear gO;have E:Hid (((s.inits:Int)+1)=((s.inits+1:Nat):Int)):=eD (by omega);go_in;go_wp2_with fail
 refine n.mono ?_;rintro e F ⟨rfl,g⟩;have k:=N.ext g;have R:=k.eH.ce 9 (eE (s.inits:Nat));have f9:=k.eH.frozen 9;obtain⟨v,x⟩:=KB k (s.inits+1);rw[<-E] at v x;have T:=eD (CH.fk (CH.fg (L:=lB) (M:=[]) g) (x.fC (by decide)));have U:=eD (fi.trans (fi.fg (S:=KD p s) g) (fi.mono (fi.set F p 9 (eE ((s.inits:Int)+1))) (S':=KD p s) (λl b=>.inl b)) (λl b=>.inl b));have G:=eD v;clear g k x v n;go_wp2;generalize F.setCell (eJ p 9) (eE ((s.inits:Int)+1))=f at*;clear R f9 E;have V:=G.eH.ew 9 (eE ((s.inits+1:Nat):Int)) rfl;refine R7 [0,1,3,4,5,6] [2,7,8,9] ?_;repeat(go_big_quiet_step (fail))
 refine eO ?_;clear V;go_wp2_with fail
 have y:=G.ext (eF.drew f);refine(O f.drew _ y rfl rfl).mono ?_;rintro e H ⟨rfl,z⟩;have I:=y.ext z;obtain⟨J,K,f4,d4⟩:=Q H _ I rfl rfl;have A:=eD ((eF.drew f).trans z);have W:=eD J;have X:=eD K;clear z I J K y;go_wp2;refine⟨⟨⟨_,A⟩,rfl⟩, ?_⟩;have Y:=eD (fi.trans (U.trans (fi.fg (S:=KD p s) A) (λl b=>.inl b)) (fi.mono (fi.set H D (i*27+25) (eE ((s.inits+1:Nat):Int))) (S':=KD p s) (λl b=>.inr (by rw[b];exact o))) (λl b=>.inl b));go_wp2;go_end0
 exact⟨rfl,W,(T.ext A).fk (X.fC (by decide)),Y⟩
def OV.held(o:OV):OV:={o with keep:=true}
def pa(os:List OV)(k:Nat):List OV:=(os.take k).map OV.held++os.drop k
theorem KE(a:List OV)(b:Nat):(pa a b).length=a.length:=by simp only[pa,fT,gW,ig,jE];omega
theorem NW(b:List OV){a:Nat}(c:a<b.length)(d:a<(pa b a).length):(pa b a)[a]=b[a]:=by simp only[pa];rw[Ec (by rw[gW,ig];exact IM _ _)];simp[ig,lK (lN c)]
theorem KF(b:List OV){a:Nat}(c:a<b.length):(pa b a).set a b[a].held=pa b (a+1):=by
 simp only[pa];rw[yj _ _ (by rw[gW,ig];exact IM _ _),iz c,iC,iK];congr 1
 have:a- ((b.take a).map OV.held).length=0:=by simp[ig,lK (lN c)]
 rw[this,sN c];rfl
def NY(w:eI)(B p:Nat)(s:LS)(ex:List (eS×fS))(e:Ending)(w':eI):Prop:=e=fH (ij #[])/\it w' B p (s.jg (s.os.map OV.held)) ex/\CH B lB [] w w'
theorem NZ(h:it w B p s ex)(H:s.os.length<=1000):Calls prog 107 #[fw p] w (NY w B p s ex):=by
 have z:=eD h;have k:=h.eH.ce 6 (.slice s.oA s.os.length s.oc);have l:pa s.os 0=s.os:=by simp[pa]
 have m:pa s.os s.os.length=s.os.map OV.held:=by simp[pa]
 have A:=eD l;have C:=eD m;clear h l m;go_in;go_wp2;clear k;go_loopw [8] (λi wr=>∃(a:Nat) (b:List OV),a<=s.os.length/\i=eE a/\b=pa s.os a/\it wr B p (s.jg b) ex/\CH B lB [] w wr) (λi _=>s.os.length- (intOf i).toNat)
 case atStart=>exact⟨0,s.os,eX _,rfl,A.symm,z,CH.refl _ _ _ _⟩
 case round=>
  obtain⟨a,b,I,rfl,d,c,f⟩:=hrel;have n:b.length=s.os.length:=by rw[d,KE]
  by_cases o:a<s.os.length
  ·have r:a<b.length:=by omega
   obtain⟨t,g,J,K,_⟩:=c.at (i:=a) r;have g:s.oA=some (eJ t 0):=g;have k:=c.eH.ce 6 (.slice s.oA b.length s.oc);rw[g,n] at k;obtain⟨v,x,f21,d21⟩:=uN c (i:=a) r g (j:=21) (by omega) (u:=fz true) (o':=b[a].held) (v0:=fz b[a].keep) rfl rfl rfl;have y:b.set a b[a].held=pa s.os (a+1):=by subst d;rw[NW _ o];exact KF _ o
   have D:Hid (it (wr.setCell (eJ t (a*27+21)) (fz true)) B p (s.jg (pa s.os (a+1))) ex):=eD (by rw[<-y];exact v);have E:=eD (f.fk (x.fC (L':=lB) (by decide)));clear c f v x y;generalize b[a].keep=L at*;clear d;go_wp2;go_roundw
   case rel=>exact⟨a+1,_,by omega,by go_num,rfl,D,E⟩
   case measure=>simp[intOf];omega
  ·obtain rfl:a=s.os.length:=by omega
   rw[C] at d;subst d;have F:=eD c;have G:=eD f;clear c f n;go_wp2;go_end0
   exact⟨rfl,F,G⟩
end
end
section
theorem fo.UG{a b:List (eS×fS)}{c p':eS×fS}(h:fo n w (a++c::b))(d:eF w v)(f:fo w v [p'])(g:n<=w.heap.size):fo n v (a++p'::b):=by have i:=(h.sub (L':=a++b) (List.append_sublist_append_left a |>.2 (tm _ _))).add d f g;refine i.iU ?_;rw[iK];exact Rj a (wT (l₁:=b) (l₂:=[p']))
theorem qD{d:eS×fS}{L:List (eS×fS)}:(∀a∈iG (d::L),n<=a)↔(∀a,d.1.ownBlock=some a->n<=a)/\∀a∈iG L,n<=a:=by
 constructor
 ·intro h;exact⟨λa b=>h a (fu.2 ⟨d,gM ..,b⟩),λa b=>by obtain⟨q,c,e⟩:=fu.1 b;exact h a (fu.2 ⟨q,gD _ c,e⟩)⟩
 ·rintro⟨f,g⟩ a b;obtain⟨q,c,e⟩:=fu.1 b;rcases fm.1 c with rfl|c
  ·exact f a e
  ·exact g a (fu.2 ⟨q,c,e⟩)
section
variable {w:eI} {B p:Nat} {s:LS} {ex:List (eS×fS)}
abbrev LS.IP(s:LS)(lA:fE)(lc:Nat)(l:fe):LS:=s.re s.oA s.oc s.os s.sA s.sc s.scope s.last s.inits lA lc l
theorem it.size(h:it w B p s ex):B<=w.heap.size:=eY h.low (lN h.eH.lt)
theorem KG(h:it w B p s ex){d:eI}(l:eF w d){f:fE}{g:Nat}{c:fe}(m:d.ownsRow w 3 1 (.slice f c g) c (ints (eM c))):
 it (d.setCell (eJ p 10) (.slice f c g)) B p (s.IP f g c) ex/\CH B [97] [] w (d.setCell (eJ p 10) (.slice f c g)):=by have i:=h.ext l;have j:CH B [97] [] d (d.setCell (eJ p 10) (.slice f c.length g)):=CH.set i.eH i.low (by simp) 10 _;have n:fo w d [(Value.slice f c.length g,eM c)]:=.one (by rw[fv];exact m);have o:fo 0 d ((s.IP f g c).rows++ex):=fo.UG (a:=[s.mz]) (b:=s.os.flatMap OV.rows++ex) h.ints l n (eX _);refine⟨i.km j (by decide) (i.eH.set 10 _) (j.own i.row) (o.ch j) ?_,(CH.fg (L:=[97]) (M:=[]) l).fk j⟩;have k:=h.ku;simp only[LS.rows] at k ⊢;rw[qD,qD] at k ⊢;refine⟨k.1,λr t=> ?_,k.2.2⟩;exact eY h.size (m.lt r t).1
def KH(w:eI)(B p:Nat)(s:LS)(ex:List (eS×fS))(l:fe)(e:Ending)(w':eI):Prop:=∃lA lc,e=fH (ij #[])/\it w' B p (s.IP lA lc l) ex/\CH B lB [] w w'
theorem KI(h:it w B p s ex)(l:fe)(a:fE)(b c:Nat)(n:l.length=b)(i:Rd w a (ints (eM l)))(j:a=none->b=0)(x:b<=1000):
 Calls prog 119 #[fw p,.slice a b c] w (KH w B p s ex l):=by
 subst n;have o:=eD (lE a l.length c (ints (eM l)) w j (by simp[ints,eM]) i (jP _) (by omega));have f:=eD h;clear h i j;go_in;go_wp2_with fail
 refine o.mono ?_;rintro e y ⟨z,rfl,g,d⟩;obtain⟨r,t,rfl⟩:=eR g;have A:=(d.eH f.eH).ce 10 (.slice s.lA s.gF.length s.lc);have f10:=(d.eH f.eH).frozen 10;obtain⟨k,m⟩:=KG f d g;have u:=eD k;have v:=eD (m.fC (L':=lB) (by decide));clear k m g d;go_wp2;go_end0
 exact⟨r,t,rfl,u,v⟩
end
end
section
def OV.yY(o:OV):OV:={o with lh:=true}
def ni(os:List OV)(l:fe):List OV:=os.map λo=>if o.id∈l then o.yY else o
def sR(os:List OV)(l:fe):fe:=l.filter λx=> !os.any λo=>o.id==x&&o.lh
theorem EM(a:List OV)(l:fe):(ni a l).length=a.length:=gW _
theorem Rk(a:List OV)(l:fe):(ni a l).map OV.id=a.map OV.id:=by simp only[ni,jL];refine mP λb _=> ?_;simp only[Function.comp];split<;>rfl
theorem N0(a:List OV):ni a []=a:=by simp[ni]
theorem CF(a:List OV)(l:fe){i:Nat}(b:i<a.length)(c:i<(ni a l).length):(ni a l)[i]=if a[i].id∈l then a[i].yY else a[i]:=by simp[ni]
theorem KJ(a:List OV)(d:(a.map OV.id).Nodup)(l:fe){i:Nat}(f:i<a.length)(h:a[i].id∉l):ni a (l++[a[i].id])=(ni a l).set i a[i].yY:=by
 refine Ci (by simp[ni]) λj g m=> ?_;have b:j<a.length:=by simpa[ni] using g
 rw[CF a _ b,tk];by_cases c:i=j
 ·subst c;rw[fW rfl,fW (by simp)]
 ·have k:a[j].id≠a[i].id:=λe=>c (fZ d (i:=i) (j:=j) (by simpa using f) (by simpa using b) (by simpa using e.symm));rw[fG c,CF a _ b];simp[k]
theorem N1(a:List OV)(d:(a.map OV.id).Nodup)(l:fe){i:Nat}(f:i<a.length)(g:a[i].lh=true):ni a (l++[a[i].id])=ni a l:=by
 refine mP λb k=> ?_;obtain⟨j,m,rfl⟩:=gN k;by_cases c:i=j
 ·subst c;have n:a[i].yY=a[i]:=by generalize a[i]=b at*;cases b;simp only[OV.yY] at*;rw[g]
  simp[n]
 ·have o:a[j].id≠a[i].id:=λe=>c (fZ d (i:=i) (j:=j) (by simpa using f) (by simpa using m) (by simpa using e.symm));simp[o]
theorem KK(a:List OV)(f:(a.map OV.id).Nodup)(l:fe){i:Nat}(d:i<a.length):sR a (l++[a[i].id])=sR a l++(if a[i].lh then[] else[a[i].id]):=by
 simp only[sR,Dy];congr 1
 have g:(a.any λb=>b.id==a[i].id&&b.lh)=a[i].lh:=by
  rw[Qw,S1];constructor
  ·rintro⟨b,k,c⟩;obtain⟨j,m,rfl⟩:=gN k;simp only[pC,sT] at c;have:j=i:=fZ f (i:=j) (j:=i) (by simpa using m) (by simpa using d) (by simpa using c.1);subst this;exact c.2
  ·intro h;exact⟨a[i],eU d,by simp[h]⟩
 rw[Dz,g];cases a[i].lh<;>rfl
theorem N2(a:List OV)(l:fe):(sR a l).length<=l.length:=n8 _ _
theorem qE{v:eS}{xs:fY}(h:w.ownsRow n f i v j xs)(c:∀k,v.ownBlock=some k->m<=k):w.ownsRow m f i v j xs:=by
 obtain⟨a,d|⟨b,g,l,o,_,p⟩⟩:=h
 ·exact⟨a,.inl d⟩
 ·subst o;exact⟨a,.inr ⟨b,g,l,rfl,c b rfl,p⟩⟩
section
variable {w:eI} {B p:Nat} {s:LS} {ex:List (eS×fS)}
abbrev LS.Qc(s:LS)(sA:fE)(sc:Nat)(l:fe):LS:=s.re s.oA s.oc s.os sA sc l s.last s.inits s.lA s.lc s.gF
theorem KL(h:it w B p s ex){c:eI}{sA:fE}{sc:Nat}{l:fe}(k:c.ownsRow B 3 1 (.slice sA l sc) l (ints (eM l)))(m:w.grownBy c (Value.ownBlock (.slice s.sA s.scope s.sc)))(o:∀d,(Value.slice sA l sc).ownBlock=some d->(Value.slice s.sA s.scope s.sc).ownBlock=some d\/w.heap.size<=d):
 it (c.setCell (eJ p 7) (.slice sA l sc)) B p (s.Qc sA sc l) ex/\CH B lB [] w (c.setCell (eJ p 7) (.slice sA l sc))/\eQ c p 97 s.cells:=by have f:=h.ku;simp only[LS.rows] at f;rw[qD] at f;have r:=h.ints.own 0 s.mz rfl;have t:=qE r f.1;have g:CH B [3] [] w c:=CH.grown (v:=s.mz.1) m t (by simp);have i:=g.eH h.eH;have j:CH B [97] [] c (c.setCell (eJ p 7) (.slice sA l.length sc)):=CH.set i h.low (by simp) 7 _;have n:CH B lB [] w (c.setCell (eJ p 7) (.slice sA l.length sc)):=(g.fC (by decide)).fk (j.fC (by decide));have u:fo 0 c ((s.Qc sA sc l).rows++ex):=fo.swap (a:=[]) (b:=s.nD::s.os.flatMap OV.rows++ex) h.ints (xs':=eM l) (by rw[fv];exact fq k (eX _)) m o;refine⟨h.km n (λz x=>x) (i.set 7 _) (j.own (g.own h.row)) (u.ch j) ?_,n,i⟩;simp only[LS.rows];rw[qD];exact⟨λd y=>(k.lt d y).1,f.2⟩
theorem uT(h:it w B p s ex)(b:s.os.length<=1000)(c:(s.os.map OV.id).Nodup){i:Nat}(a:i<s.os.length){x:Nat}(d:s.os[i].id=x){g:Nat}(f:s.oA=some (eJ g 0)):
 Calls prog 126 #[fw p,eE (x:Nat)] w λe k=>e=fH (.pointer (some (eJ g (i*27))))/\eF w k:=by subst d;exact uO h b a (λj l e=>by have:=fZ c (i:=j) (j:=i) (by simpa using Nat.lt_trans l a) (by simpa using a) (by simpa using e);omega) f
abbrev LS.yY(s:LS)(os:List OV)(sA:fE)(sc:Nat)(l:fe):LS:=s.re s.oA s.oc os sA sc l s.last s.inits s.lA s.lc s.gF
def Rl(w:eI)(B p:Nat)(s:LS)(ex:List (eS×fS))(l:fe)(e:Ending)(w':eI):Prop:=∃sA sc,e=fH (ij #[])/\it w' B p (s.yY (ni s.os l) sA sc (s.scope++sR s.os l)) ex/\CH B lB [] w w'
theorem EN(h:it w B p s ex)(hl:s.os.length<=1000)(Y:(s.os.map OV.id).Nodup)(aW:s.scope.length<=1000)(l:fe)(A:fE)(c:Nat)(E:(Value.slice A l c,eM l)∈ex)(Z:l.Nodup)(ad:∀x∈l,∃i,∃g:i<s.os.length,s.os[i].id=x)(aX:l.length<=1000):
 Calls prog 179 #[fw p,.slice A l c] w (Rl w B p s ex l):=by
 have aD:=eD h;have HM:=eD E;have aE:=eD Z;have aF:=eD ad;have F:=eD Y;clear h E Z ad Y;obtain⟨i0,aG,aH,aI,aJ⟩:=info_parts lr;go_in;go_wp
 go_loopw [9] (λi wr=>∃(a:Nat) (sA:fE) (sc:Nat),a<=l.length/\i=eE a/\it wr B p (s.yY (ni s.os (l.take a)) sA sc (s.scope++sR s.os (l.take a))) ex/\CH B lB [] w wr) (λi _=>l.length- (intOf i).toNat)
 case atStart=>exact⟨0,s.sA,s.sc,eX _,rfl,by simpa[N0,sR] using aD.out,CH.refl _ _ _ _⟩
 case round=>
  obtain⟨a,sA,sc,b,rfl,k,G⟩:=hrel;by_cases z:a<l.length
  ·have ae:Rd wr A (ints (eM l)):=Rd.fC (by have:=k.ints.mem (gT _ HM);rw[fv] at this;exact this);obtain⟨aK,aL,rfl,af⟩:=ae a (by simpa[ints,eM] using z);have aM:wr.cell? ⟨aK,aL+a,none⟩=some (.int .i64 (l[a]:Nat)):=by rw[af];simp[ints,eM]
   clear af;obtain⟨i,g,m⟩:=aF _ (eU z);have M:l[a]∉l.take a:=λE=>by
    obtain⟨j,hj,e⟩:=gN E;rw[N4] at e;have aY:j<a:=by simp at hj;omega
    have:=fZ aE (i:=j) (j:=a) (by omega) z e;omega
   have N:=KJ s.os F (l.take a) g (by rw[m];exact M);have O:=λn=>N1 s.os F (l.take a) g n;have P:=KK s.os F (l.take a) g;rw[m,<-iz z] at N P;simp only[m,<-iz z] at O;have ag:(ni s.os (l.take a))[i]? =some s.os[i]:=by rw[gg (by rw[EM];exact g),CF _ _ g,m,fG M]
   have ah:((ni s.os (l.take a)).map OV.id).Nodup:=by rw[Rk];exact F
   have ai:=N2 s.os (l.take a);have aZ:=EM s.os (l.take a);have aN:=eD ag;have aj:=eD N;have Q:=eD O;have H:Hid (s.scope++sR s.os (l.take (a+1))=(s.scope++sR s.os (l.take a))++if s.os[i].lh then[] else[l[a]]):=eD (by rw[P,iK]);have aO:=eD ah;have C:=eD k;have I:=eD G;have aP:Hid ((s.scope++sR s.os (l.take a)).length<=2000):=eD (by simp at ai;rw[fT];omega);clear ae M N O P ag ah k G ai;generalize ni s.os (l.take a)=o at*;generalize s.scope++sR s.os (l.take a)=d at*;generalize ak:ni s.os (l.take (a+1))=t2 at*;generalize al:s.scope++sR s.os (l.take (a+1))=am at*;have an:=eD ak;have ao:=eD al;clear ak al;generalize aQ:l[a]=x at*;have hit:i<o.length:=by omega
   have r:o[i]=s.os[i]:=by have:=aN.out;rw[gg hit] at this;exact mj this
   obtain⟨R,n,a0,a1,ap⟩:=C.at (i:=i) hit;have n:s.oA=some (eJ R 0):=n;have HG:=eD (λS f (T:it S B p f ex) (e:f.os=o) (t:f.oA=s.oA)=>uT T (i:=i) (x:=x) (by rw[e];omega) (by rw[e];exact aO) (by rw[e];exact hit) (by simp only[e];rw[r];exact m) (t.trans n));have aq:=ap 20 (fz s.os[i].lh) (by show(OV.eL o[i])[20]? =_;rw[r];rfl);have ar:=eD (λS f (T:it S B p f ex) (e:f.os=o) (t:f.oA=s.oA)=>uN T (i:=i) (by rw[e];exact hit) (t.trans n) (j:=20) (by omega) (u:=fz true) (o':=s.os[i].yY) (v0:=fz s.os[i].lh) (by simp only[e];rw[r];rfl) (by simp only[e];rw[r];rfl) (by simp only[e];rw[r];rfl));clear ap r aQ m;generalize s.os[i].yY=op at*;generalize s.os[i].lh=og at*;go_wp21
   refine(HG wr _ C rfl rfl).mono ?_;rintro e D ⟨rfl,J⟩;have au:=eD J;have av:=eD (C.ext J);have d20:=J.cell aq;clear J aq HG aM;cases og with
   |true=>
    have aR:Hid (it D B p (s.yY t2 sA sc am) ex):=eD (by rw[Q.out rfl,H.out];simpa using av.out);clear Q H;go_wp2;go_roundw
    case rel=>exact⟨a+1,sA,sc,by omega,by go_num,by rw[an,ao];exact aR,I.ext au⟩
    case measure=>simp[intOf];omega
   |false=>
    obtain⟨v,aw,f20,aS⟩:=ar D _ av rfl rfl;have H2:=eD v;have ax:=eD ((I.ext au).fk (aw.fC (L':=lB) (by decide)));have c7:=v.eH.ce 7 (.slice sA d.length sc);have ay:=qE (v.ints.own 0 _ rfl) (λa b=>v.ku a (fu.2 ⟨_,gM ..,b⟩));have U:=(eF.alloc (D.setCell (eJ R (i*27+20)) (fz true)) (eN #[eE (x:Nat)] 3));have az:=eD (U.own (by have:=ay;simp only[LS.mz,fv] at this;exact this));have aA:=eD (U.size);have V:=eD (ip (D.setCell (eJ R (i*27+20)) (fz true)) #[eE (x:Nat)] 3);rw[World.size_setCell] at V;have aT:=v.size;have aB:=eD aP.out;clear v aw ay U ar aS;go_wp2_with (at_builtin;go_loud(refine fB rfl _ _ 23 rfl B 3 i0 (eE 0) 1 8 underlying23 aG aH aI aJ rfl (by omega) (.slice sA d.length sc) d.length (ints (eM d)) rfl az.out (some (eJ D 0)) 1 [eE (x:Nat)] 1 rfl rfl V.out (by simp[Value.oneCell']) (by have:=aB.out;simp only[maxLen];omega) (by have:=aB.out;omega) (by exact eY aT aA.out) ?_))
    intro v7 w7 W g7 y;obtain⟨K,L,rfl⟩:=eR W;obtain⟨h8,aC,X⟩:=KL (s:=s.yY (o.set i op) sA sc d) (l:=d++[x]) (sA:=K) (sc:=L) (H2.ext (eF.alloc _ (eN #[eE (x:Nat)] 3))) (by simpa[ints,eM] using W) g7 (λa b=>by
     rw[fT,ti] at b;rcases y with y|y
     ·exact .inl (y▸b)
     ·rw[y] at b;exact .inr (by injection b with b;rw[<-b,fM,World.size_setCell];exact fJ _))
    have aU:Hid (it (w7.setCell (eJ p 7) (.slice K (d.length+1) L)) B p (s.yY t2 K L am) ex):=eD (by have e1:=aj.out;have t:=H.out;simp only[Dc,ua] at t;rw[e1,t];simpa using h8)
    have aV:=eD ((ax.ext (eF.alloc _ (eN #[eE (x:Nat)] 3))).fk (by simpa using aC));have a2:=X.ce 7 (.slice sA d.length sc);have a3:=X.frozen 7;clear h8 aC X W g7 y az V aA H2 ax aj Q H c7 d20 f20;go_wp
    go_roundw
    case rel=>exact⟨a+1,K,L,by omega,by go_num,by rw[an,ao];exact aU,aV⟩
    case measure=>simp[intOf];omega
  ·obtain rfl:a=l.length:=by omega
   rw[iT] at k;have C:=eD k;have I:=eD G;clear k G;go_wp
   go_end0
   exact⟨sA,sc,rfl,C,I⟩
end
end
theorem jK.of{rs:List Rg}(h:sB rs){b:Nat}{r:Rg}(c:rs[b]? =some r){a n q:Int}(d:r.at_<=a)(f:1<=n)(g:n<=1048576)(i:a+n<=r.at_+r.bs.length)(j:oR r.iU q):jK rs b r a n q:=by refine⟨c,d,f,g,i,j,λk l s m=>.inr ?_⟩;obtain⟨o,rfl⟩:=jS.1 c;obtain⟨p,rfl⟩:=jS.1 m;have:=jJ.1 h.pw k b p o l;unfold Rg.ka at this;omega
theorem sB.set{a:List Rg}(h:sB a){m:Nat}{r b:Rg}(l:a[m]? =some r)(c:b.at_=r.at_)(i:b.bs.length=r.bs.length):sB (a.set m b):=by
 obtain⟨n,rfl⟩:=jS.1 l;refine⟨jJ.2 λd f o p s=> ?_,λt g=> ?_⟩
 ·have u:d<a.length:=by simpa using o
  have v:f<a.length:=by simpa using p
  have:=jJ.1 h.pw d f u v s;unfold Rg.ka at this ⊢;by_cases j:m=d
  ·subst j;rw[Ax,xY (by omega),c,i];exact this
  ·rw[xY j];by_cases k:m=f
   ·subst k;rw[Ax,c];exact this
   ·rw[xY k];exact this
 ·rcases qR g with g|rfl
  ·exact h.ok t g
  ·have:=h.ok a[m] (eU n);rw[c,i];exact this
theorem IQ{a:Rg}(b:a.at_<=D)(c:D+kR.length<=a.at_+a.bs.length):(a.put D kR).bs.length=a.bs.length:=by simp only[Rg.put,fT,ig,jE];omega
theorem Rm{a:Rg}(c:a.at_<=D)(d:D+kR.length<=a.at_+a.bs.length)(b:E=kR.length):(a.put D kR).cut D E=kR:=by subst b;have e:(a.put D kR).at_=a.at_:=rfl;unfold Rg.cut;rw[e];simp only[Rg.put,uv];rw[iK,QA (by rw[ig];omega),tC (by rw[ig];omega),j6,List.take_left]
theorem N5{r:Rg}{a:Int}{n k j:Nat}(b:r.at_<=a)(c:k+j<=n):r.cut (a+k) j=((r.cut a n).drop k).take j:=by
 unfold Rg.cut;rw[uv,uv,S5,AG,QE,lK (by omega)];congr 2
 omega
structure qF(rs:List Rg)(m:Nat)(r:Rg)(a n:Int):Prop where
 is:rs[m]? =some r
 iU:r.iU=5
 low:r.at_<=a
 high:a+24<=r.at_+r.bs.length
 zM:r.cut a 24=j8 (rN n)
 small: -100<=n/\n<=100
theorem qF.step{rs:List Rg}{m:Nat}{r:Rg}{a n:Int}(b:sB rs)(h:qF rs m r a n)(k:Nat)(c:k+8<=24):jK rs m r (a+k) 8 4/\r.cut (a+k) 8=((j8 (rN n)).drop k).take 8:=
 ⟨.of b h.is (by have:=h.low;omega) (by omega) (by omega) (by have:=h.high;omega) (by rw[h.iU];exact .inr (.inr (.inr (.inl ⟨rfl,rfl⟩)))),by have:=N5 (r:=r) (a:=a) (n:=24) (k:=k) (j:=8) h.low (by omega);rw[<-h.zM];exact this⟩
theorem Tn(a:Int):((j8 (rN a)).drop 0).take 8=Ins.B ⟨1,1,a⟩:=by simp only[j8,rN,oz,vw];exact wH (lV _)
theorem To(a:Int):((j8 (rN a)).drop 8).take 8=Ins.B ⟨19,1,0⟩:=by simp only[j8,rN,oz];rw[Tp (lV _)];exact wH (lV _)
theorem Tq(a:Int):((j8 (rN a)).drop 16).take 8=Ins.B ⟨18,0,0⟩:=by simp only[j8,rN,oz];rw[show(16:Nat)=8+8 from rfl,<-QE,Tp (lV _),Tp (lV _)];exact wH (lV _)
theorem qe(c d f g:Int):∀a∈mA c d f g,a.oneCell'=true:=by intro a b;simp only[mA,fm,gp,gq] at b;rcases b with rfl|rfl|rfl|rfl|rfl|rfl|rfl|rfl|rfl|rfl|rfl|rfl|rfl|rfl|rfl|rfl|rfl|rfl<;>rfl
def nR(pc tp x sp id:Int):fY:=mA pc tp x sp++[.int .i64 id]
def kX(pc tp x sp id:Int):eS:=fV (nR pc tp x sp id).toArray
theorem Br(r q:Nat)(a d b id c i:Int)(k:eI)(B:Nat)(f:List Rg)(l:eS)(m z:Nat)(n s:Rg)(t:j' k B q f l)(u:sB f)(o:qF f m n a c)(E:0<a)(F:jK f z s b 8 1)(G:s.cut b 8=z8)(H:k.cell? (eJ r 0)=some (fw q))(I:4<=i/\i<=10000):
 Calls prog 70 #[fw r,kX a d 0 b id,eE i] k (uQ k (mA 0 d c (b+8)) id c):=by
 obtain⟨A,v⟩:=o.step u 0 (by omega);obtain⟨C,w⟩:=o.step u 8 (by omega);obtain⟨D,x⟩:=o.step u 16 (by omega);rw[Tn] at v;rw[To] at w;rw[Tq] at x;rw[show a+((0:Nat):Int)=a by omega] at A v;rw[show a+((8:Nat):Int)=a+8 by omega] at C w;rw[show a+((16:Nat):Int)=a+8+8 by omega] at D x;refine NO r q (mA a d 0 b) (mA (a+8+8) d c b) (mA 0 d c (b+8)) id c i k rfl rfl rfl (qe _ _ _ _) (qe _ _ _ _) ⟨by omega,by omega⟩ H (λy p=> ?_) (λy p=> ?_)
 ·exact II q (mA a d 0 b) (mA (a+8) d c b) (mA (a+8+8) d c b) 2 c 2 i y rfl rfl rfl (qe _ _ _ _) (qe _ _ _ _) (.inr ⟨rfl,rfl⟩) (by omega)
   (λg j=>Kr q a d 0 b g B f l m n c o.small (t.ext (p.trans j)) A v E)
   (λg j=>NN q (a+8) d c b g B f l m n (t.ext (p.trans j)) C w (by omega))
 ·exact II q (mA (a+8+8) d c b) (mA 0 d c (b+8)) (mA 0 d c (b+8)) 1 0 1 (i- 2) y rfl rfl rfl (qe _ _ _ _) (qe _ _ _ _) (.inl ⟨rfl,rfl⟩) (by omega)
   (λg j=>step_ret q (a+8+8) d c b g B f l m z n s (t.ext (p.trans j)) D x (by omega) F G)
   (λg j=>step_end q g d c (b+8))
def N6(w:eI)(B q:Nat)(rs:List Rg)(v:eS)(n:Int)(e:Ending)(w':eI):Prop:=∃g c,e=fH (ij #[fN g 1 c,eE 0])/\w'.ownsRow w 3 1 (fN g 1 c) 1 [eE n]/\j' w' B q rs v/\CH B jr [] w w'
theorem N7(k q:Nat)(N:kx)(f c b id o:Int)(a:eI)(l:Nat)(g:List Rg)(p:eS)(v j:Nat)(y d:Rg)(O:eQ a k 97 N)(Q:N[0]? =some (.pointer (some ⟨q,0,none⟩)))(z:j' a l q g p)(A:sB g)(R:qF g v y f o)(h0:0<f)(r:g[j]? =some d)(B:d.iU=3)(m:d.at_<=b- 136)(ax:b- 128<=d.at_+d.bs.length):
 Calls prog 277 #[.pointer (some ⟨k,0,none⟩),kX 0 c 0 b id,.int .i64 f] a (N6 a l q (g.set j (d.put (b- 136) z8)) p o):=by
 have ak:b- 136=b- 128- 8:=by omega
 rw[ak] at m ⊢;have al:=z.vq d (mp r);have ay:0<=b- 128- 8/\b<=4294968000:=by omega
 have HS:=eD z;have T:=eD O;have U:=eD Q;have HW:=eD (λa (h:j' a l q g p)=>B9 l q g p (b- 128- 8) j d a h (.of A r m (by omega) (by omega) (by omega) (by rw[B];exact .inr (.inr (.inr (.inr (.inr ⟨rfl,rfl⟩)))))));have s:=(eQ.new a 108 #[eE 0,eE c,eE 0,eE 0,eE 0,eE 0,eE 0,eE 0,eE 0,eE 0,eE 0,eE 0,eE 0,eE 0,eE 0,eE 0,eE 0,eE b,eE id]).alloc (eN nJ 108);have C:=eQ.new (a.alloc (eN #[eE 0,eE c,eE 0,eE 0,eE 0,eE 0,eE 0,eE 0,eE 0,eE 0,eE 0,eE 0,eE 0,eE 0,eE 0,eE 0,eE 0,eE b,eE id] 108)) 108 nJ;rw[fM] at C;have V:eF a ((a.alloc (eN #[eE 0,eE c,eE 0,eE 0,eE 0,eE 0,eE 0,eE 0,eE 0,eE 0,eE 0,eE 0,eE 0,eE 0,eE 0,eE 0,eE 0,eE b,eE id] 108)).alloc (eN nJ 108)):=(eF.alloc _ _).trans (eF.alloc _ _);have w:=eD R;have am:=eD A;clear O Q z R A al;simp only[kX,nR,mA,nO,j6];go_in;go_wp2_with (refine eG rfl 108 (.tmp 8) (.tmp 15) rfl (a.heap.size+1) rfl [eE 0,eE 0,eE 0,eE 0,eE 0,eE 0,eE 0,eE 0,eE 0,eE 0,eE 0,eE 0,eE 0,eE 0,eE 0,eE 0,eE 0,eE 0,eE id] rfl C (by simp[Value.oneCell']) (by kernel_rfl) rfl ?_)
 intro n i D;have s:=(fi.grown D).eH s;have an:=eD ((fi.grown D).ext V);clear D C V;go_wp2;have c1:=λt:KW [a.heap.size] n=>t.cell (s.ce 1 (eE c)) (by simp);refine gU [a.heap.size] [0,1,2,3,4,5] [6,7,8,9] 1 ?_;repeat(go_big_quiet_step (fail))
 refine eO ?_;clear c1;refine gH ?_;have f0:=i.frozen 0;have f1:=i.frozen 1;have f17:=i.frozen 17;have d0:=i.ce 0 (eE 0);have d1:=i.ce 1 (eE 0);have d17:=i.ce 17 (eE 0);have ao:=s.ce 17 (eE b);go_wp2;refine⟨KC.of (λaz W=>by simp only[fm,gp,gq] at W;subst W;exact Dg _ _ _ _ (by simp only;omega)), ?_⟩;refine jm ?_;go_wp2;have X:fi (λE=>E=a.heap.size+1) n (((n.setCell (eJ (a.heap.size+1) 0) (eE f)).setCell (eJ (a.heap.size+1) 1) (eE c)).setCell (eJ (a.heap.size+1) 17) (eE (b- 128- 8))).drew:=((((fi.set n _ 0 _).trans (fi.set _ _ 1 _) (λY h=>.inl h)).trans (fi.set _ _ 17 _) (λY h=>.inl h)).trans (fi.fg (S:=λE=>E=a.heap.size+1) (eF.drew _)) (λY h=>.inl h));have F:eQ (((n.setCell (eJ (a.heap.size+1) 0) (eE f)).setCell (eJ (a.heap.size+1) 1) (eE c)).setCell (eJ (a.heap.size+1) 17) (eE (b- 128- 8))).drew (a.heap.size+1) 108 #[eE f,eE c,eE 0,eE 0,eE 0,eE 0,eE 0,eE 0,eE 0,eE 0,eE 0,eE 0,eE 0,eE 0,eE 0,eE 0,eE 0,eE (b- 128- 8),eE id]:=(((i.set 0 (eE f)).set 1 (eE c)).set 17 (eE (b- 128- 8))).drew;generalize(((n.setCell (eJ (a.heap.size+1) 0) (eE f)).setCell (eJ (a.heap.size+1) 1) (eE c)).setCell (eJ (a.heap.size+1) 17) (eE (b- 128- 8))).drew=G at*;have H:=eD (X.ext an (λap hz=>by have:ap=_:=hz;omega));have Z:=H.eH T;clear X f0 f1 f17 d0 d1 d17 ao s i;have c0:=λt:KW [k,a.heap.size+1] G=>t.cell (Z.cell 0 U) (by simp);have aq:=λt:KW [k,a.heap.size+1] G=>t.cell (F.ce 17 (eE (b- 128- 8))) (by simp);refine gU [k,a.heap.size+1] [0,1,2,3,4,5,6,7] [8,9] 0 ?_;repeat(go_big_quiet_step (fail))
 refine eO ?_;clear c0 aq;refine jm ?_;go_wp2_with fail
 refine(HW G.drew (HS.ext (H.trans (eF.drew _)))).mono ?_;rintro e w5 ⟨rfl,ad,I⟩;have ae:=eD ad;have J:Hid (CH l jr [] a w5):=eD ((CH.fg (H.trans (eF.drew _))).fk I);have b5:=CH.eH I F.drew (by decide) (by simp);have p5:=CH.eH J T (by decide) (by simp);clear ad I F Z;have ar:=eD J.size;have K:sB (g.set j (d.put (b- 128- 8) z8)):=am.set r rfl (IQ m (by simp only[z8,iw,jH];omega));have au:=(jS.1 r).1;have af:v≠j:=λe=>by
  subst e;have:=w.is;rw[r] at this;injection this with this
  have h2:=w.iU;rw[<-this,B] at h2;cases h2
 have ag:qF (g.set j (d.put (b- 128- 8) z8)) v y f o:={w with is:=by rw[ur (nW af)];exact w.is};have HR:=eD (Br k q f c (b- 128- 8) id o 500 w5 l _ p v j y (d.put (b- 128- 8) z8) ae K ag h0
  (.of K (by rw[xX au]) m (by omega) (by omega) (by rw[IQ m (by simp only[z8,iw,jH];omega)];show _<=d.at_+_;omega) (by show oR d.iU 1;rw[B];exact .inr (.inr (.inr (.inr (.inl ⟨rfl,rfl⟩))))))
  (Rm m (by simp only[z8,iw,jH];omega) rfl) (p5.cell 0 U.out) (by omega))
 simp only[kX,nR,mA,nO,j6] at HR;have HL:=eD (b5.load (P:=prog) 108 0 [eE f,eE c,eE 0,eE 0,eE 0,eE 0,eE 0,eE 0,eE 0,eE 0,eE 0,eE 0,eE 0,eE 0,eE 0,eE 0,eE 0,eE (b- 128- 8),eE id] rfl _ underlying108 rfl (by kernel_rfl));clear b5 p5 K ag af;go_wp2_with (refine eK rfl 108 (.tmp 8) rfl _ rfl (fV #[eE f,eE c,eE 0,eE 0,eE 0,eE 0,eE 0,eE 0,eE 0,eE 0,eE 0,eE 0,eE 0,eE 0,eE 0,eE 0,eE 0,eE (b- 128- 8),eE id]) ?_ ?_)
 ·exact HL
 go_wp2_with fail
 refine HR.mono ?_;rintro e x ⟨av,aw,rfl,ho,ah⟩;have HO:=eD ho;have ai:=eD ah;have k1:=(eQ.new x 108 nJ).alloc (eN j3 67);have u:=eQ.new (x.alloc (eN nJ 108)) 67 j3;rw[fM] at u;clear ho ah HL;simp only[mA,nO,j6,CB];go_wp2_with (go_loud(refine eG rfl 108 (.tmp 9) (.tmp 47) rfl x rfl [eE 0,eE c,eE 0,eE o,eE 0,eE 0,eE 0,eE 0,eE 0,eE 0,eE 0,eE 0,eE 0,eE 0,eE 0,eE 0,eE 0,eE _,eE id] rfl k1 (by simp[Value.oneCell']) (by kernel_rfl) rfl ?_))
 intro w7 b7 L;have u:=(fi.grown L).eH u;have aj:=(fi.grown L).ext ((eF.alloc _ _).trans (eF.alloc _ _));clear L b7 k1;go_wp2_with (refine eG rfl 67 (.tmp 11) (.tmp 49) rfl (x.heap.size+1) rfl [eE 1,eE 0,eE 0,eE 0,eE 0] rfl u (by simp[Value.oneCell']) (by kernel_rfl) rfl ?_)
 intro w8 b8 g8;have M:=eD ((fi.grown g8).ext aj);have e0:=b8.ce 0 (eE 1);clear g8 aj u;go_wp2;go_ret2
 exact⟨av,aw,rfl,fq (M.own HO) ar,ae.ext (ai.trans M),J.ext (ai.trans M)⟩
def CG(w:eI)(B q:Nat)(rs:List Rg)(v:eS)(ns:fS)(e:Ending)(w':eI):Prop:=∃v',e=fH (ij #[v',eE 0])/\w'.ownsRow w 3 1 v' ns (ints ns)/\j' w' B q rs v/\CH B jr [] w w'
theorem N8(g q:Nat)(i j id k:Int)(l:fE)(m:Nat)(a:eI)(b:Nat)(c:List Rg)(d:eS)(f:j' a b q c d):
 Calls prog 194 #[fw g,kX 0 i 0 j id,eE k,.slice l 0 m] a (CG a b q c d []):=by
 have n:=eD f;clear f;simp only[kX,nR,mA,nO,j6];go_in;go_wp2;refine wp_loop_rounds 1 ?_;rw[rounds_succ];go_wp2;go_ret2
 exact⟨_,rfl,ji _ _ _ _,n.ext (eF.alloc _ _),CH.fg (eF.alloc _ _)⟩
theorem N9(o q:Nat)(p:kx)(c a id f g k:Int)(y:fE)(J:Nat)(b:eI)(l:Nat)(i:List Rg)(r:eS)(z s:Nat)(t d:Rg)(A:eQ b o 97 p)(B:p[0]? =some (.pointer (some ⟨q,0,none⟩)))(u:j' b l q i r)(C:sB i)(m:qF i z t (f+g) k)(K:0<f+g)(D:Rd b y (ints [g]))(L:i[s]? =some d)(M:d.iU=3)(N:d.at_<=a- 136)(O:a- 128<=d.at_+d.bs.length)(hB:l<=b.heap.size):
 Calls prog 194 #[.pointer (some ⟨o,0,none⟩),kX 0 c 0 a id,.int .i64 f,.slice y 1 J] b (CG b l q (i.set s (d.put (a- 136) z8)) r [k]):=by
 have Q:=u.vq t (mp m.is);have R:=m.high;have j:=eF.alloc b (eN #[eE 0,eE c,eE 0,eE 0,eE 0,eE 0,eE 0,eE 0,eE 0,eE 0,eE 0,eE 0,eE 0,eE 0,eE 0,eE 0,eE 0,eE a,eE id] 108);have v:=eD (N7 o q p (f+g) c a id k _ l i r z s t d (j.eH A) B (u.ext j) C m K L M N O);simp only[kX,nR,mA,nO,j6] at v;have E:=eD ((eQ.new b 108 #[eE 0,eE c,eE 0,eE 0,eE 0,eE 0,eE 0,eE 0,eE 0,eE 0,eE 0,eE 0,eE 0,eE 0,eE 0,eE 0,eE 0,eE a,eE id]).load (P:=prog) 108 0 [eE 0,eE c,eE 0,eE 0,eE 0,eE 0,eE 0,eE 0,eE 0,eE 0,eE 0,eE 0,eE 0,eE 0,eE 0,eE 0,eE 0,eE a,eE id] rfl _ underlying108 rfl (by kernel_rfl));obtain⟨ad,ae,rfl,n⟩:=D 0 (by simp[ints]);simp only[ints,hU,jt,sZ,m5] at n;have n:=j.cell n;have af:0<=f+g/\f+g<=4294967296:=by omega
 have F:=eD j;clear u C m A B Q R j D;simp only[kX,nR,mA,nO,j6];go_in;go_wp2;generalize S:b.alloc (eN #[eE 0,eE c,eE 0,eE 0,eE 0,eE 0,eE 0,eE 0,eE 0,eE 0,eE 0,eE 0,eE 0,eE 0,eE 0,eE 0,eE 0,eE a,eE id] 108)=w1 at*;clear S;refine wp_loop_rounds 2 ?_;rw[rounds_succ];go_wp2_with (refine eK rfl 108 (.tmp 5) rfl _ rfl (fV #[eE 0,eE c,eE 0,eE 0,eE 0,eE 0,eE 0,eE 0,eE 0,eE 0,eE 0,eE 0,eE 0,eE 0,eE 0,eE 0,eE 0,eE a,eE id]) ?_ ?_)
 ·exact E
 go_wp2_with fail
 refine v.mono ?_;rintro e T ⟨U,V,rfl,G,H,w⟩;have W:=Rd.fC G;have X:=w.size;have Y:=eD H;have Z:=eD w;clear G H w n E v;go_wp2_with (at_builtin;go_loud(refine lZ rfl _ _ rfl (OR.nil (eF.refl T) 3 1) rfl (some (eJ U 0)) V [eE k] 1 rfl rfl W (by simp[Value.oneCell']) (by omega) ?_))
 intro v3 w3 I g3 _;have x:=eD I;clear I g3;go_wp2;rw[rounds_succ];go_wp2;go_ret2
 exact⟨_,rfl,fq x.own (eY F.size X),Y.ext x.ext,((CH.fg F).fk Z).ext x.ext⟩
section
abbrev KM:kx:=tw
structure EO(rs:List Rg)(sp:Int)(m2:Nat)(r2:Rg):Prop where
 is:rs[m2]? =some r2
 iU:r2.iU=3
 lo:r2.at_<=sp- 136
 hi:sp- 128<=r2.at_+r2.bs.length
def qZ(rs:List Rg)(m2:Nat)(r2:Rg)(sp:Int)(l:fS):List Rg:=if l.isEmpty then rs else rs.set m2 (r2.put (sp- 136) z8)
def EP(rs:List Rg)(base:Int)(l ns:fS):Prop:=(l=[]/\ns=[])\/∃o n m r,l=[o]/\ns=[n]/\qF rs m r (base+o) n/\0<base+o
theorem EQ(d q:Nat)(l:kx)(m c id f:Int)(g s:fS)(i:fE)(n:Nat)(a:eI)(B:Nat)(b:List Rg)(j:eS)(o:Nat)(p:Rg)(u:eQ a d 97 l)(v:l[0]? =some (.pointer (some ⟨q,0,none⟩)))(t:j' a B q b j)(w:sB b)(r:EP b f g s)(x:Rd a i (ints g))(k:EO b c o p)(y:B<=a.heap.size):
 Calls prog 194 #[.pointer (some ⟨d,0,none⟩),kX 0 m 0 c id,.int .i64 f,.slice i g.length n] a (CG a B q (qZ b o p c g) j s):=by
 rcases r with⟨rfl,rfl⟩|⟨z,A,C,D,rfl,rfl,r,E⟩
 ·exact N8 d q m c id f i n a B b j t
 ·exact N9 d q l m c id f z A i n a B b j C o D p u v t w r E x k.is k.iU k.lo k.hi y
theorem N'{B:Nat}{g:LS}(h:it w B n g kB){b:fE}{c d:Nat}{a:fS}(i:(Value.slice b c d,a)∈kB):c=a.length/\Rd w b (ints a):=by
 have f:w.ownsRow 0 3 1 (.slice b c d) a.length (ints a):=h.ints.mem (gT _ i);obtain⟨k,l,e⟩:=eR f;injection e with m j o
 obtain rfl:=j;exact⟨rfl,Rd.fC f⟩
def Oa(w:eI)(B p:Nat)(s:LS)(ex:List (eS×fS))(ns:fS)(rs:List Rg)(e:Ending)(w':eI):Prop:=
 ∃v',e=fH (ij #[v',eE 0])/\w'.ownsRow w 3 1 v' ns (ints ns)/\it w' B p (s.rX rs s.rv) ex/\CH B jz [] w w'
section
variable {w:eI} {B p:Nat} {s:LS} {ex:List (eS×fS)}
theorem KN(h:it w B p s ex)(U:s.os.length<=1000){i:Nat}(V:i<s.os.length)(z:∀j (hj:j<i),s.os[j].id≠s.os[i].id)(A:s.os[i].eP.length<=1000/\s.os[i].group.length<=1000)(d a id:Int){f r:fS}(C:(Value.slice s.os[i].im.pV.A s.os[i].im.pV.n s.os[i].im.pV.c,f)∈ex)(D:sB s.rs)(g:EP s.rs s.os[i].base f r){k:Nat}{l:Rg}(E:EO s.rs a k l):
 Calls prog 120 #[fw p,kX 0 d 0 a id,eE (s.os[i].id:Nat)] w (Oa w B p s ex r (qZ s.rs k l a f)):=by
 obtain⟨F,G⟩:=N' h C;have H:=h.size;have I:=eD (λn (b:eF w n)=>pv (h.ext b) U V z A);have t:=λn (b:eF w n)=>EQ p s.sp s.cells d a id s.os[i].base f r s.os[i].im.pV.A s.os[i].im.pV.c n B s.rs s.rv k l (h.ext b).eH rfl (h.ext b).vH D g (b.rd G) E (eY H b.size);simp only[<-F,kX,nR,mA,nO,j6] at t;have W:=eD t;have X:Hid (∀o c,eF w o->j' c B s.sp (qZ s.rs k l a f) s.rv->CH B jr [] o c->it c B p (s.rX (qZ s.rs k l a f) s.rv) ex/\CH B jz [] w c):=eD (λo c b Y g=>⟨(h.ext b).Vu Y g,CH.fk (CH.fg b) (g.fC jr.sub)⟩);clear h z A C G t g D E F H;generalize s.os[i]=m at*;have J:=eQ.new w 108 #[eE 0,eE d,eE 0,eE 0,eE 0,eE 0,eE 0,eE 0,eE 0,eE 0,eE 0,eE 0,eE 0,eE 0,eE 0,eE 0,eE 0,eE a,eE id];have K:=eD (eF.alloc w (eN #[eE 0,eE d,eE 0,eE 0,eE 0,eE 0,eE 0,eE 0,eE 0,eE 0,eE 0,eE 0,eE 0,eE 0,eE 0,eE 0,eE 0,eE a,eE id] 108));simp only[kX,nR,mA,nO,j6];go_in;go_wp
 generalize Z:w.alloc (eN #[eE 0,eE d,eE 0,eE 0,eE 0,eE 0,eE 0,eE 0,eE 0,eE 0,eE 0,eE 0,eE 0,eE 0,eE 0,eE 0,eE 0,eE a,eE id] 108)=o at*;clear Z;refine(I _ K).mono ?_;rintro e c ⟨nA,nc,gA,gc,bA,bc,rfl,_,u⟩;have ad:=eD (K.trans u);have L:=u.eH J;have M:=eQ.new c 177 KM;clear J I u;go_wp2_with (refine eG rfl 177 (.tmp 8) (.tmp 14) rfl c rfl (OV.eL (m.re nA nc gA gc bA bc)) rfl M (j4 _) (by rw[gx];exact iR) (by rw[gx];rfl) ?_)
 intro w3 v N;have x:=(fi.grown N).ext (eF.alloc _ _);have y:=eD (ad.trans x);have O:=eD ((x.eH L).load (P:=prog) 108 0 [eE 0,eE d,eE 0,eE 0,eE 0,eE 0,eE 0,eE 0,eE 0,eE 0,eE 0,eE 0,eE 0,eE 0,eE 0,eE 0,eE 0,eE a,eE id] rfl _ underlying108 rfl (by kernel_rfl));have ae:=v.ce 18 (eE m.base);have af:=v.ce 15 (.slice m.im.pV.A m.im.pV.n m.im.pV.c);clear N x L M v;go_wp2_with (refine eK rfl 108 (.tmp 4) rfl _ rfl (fV #[eE 0,eE d,eE 0,eE 0,eE 0,eE 0,eE 0,eE 0,eE 0,eE 0,eE 0,eE 0,eE 0,eE 0,eE 0,eE 0,eE 0,eE a,eE id]) ?_ ?_)
 ·exact O
 go_wp
 clear ae af O;refine(W _ y).mono ?_;rintro e w4 ⟨v4,rfl,Q,R,S⟩;have T:=eD (X _ _ y R S);have HO:=eD (fq Q y.size);clear Q R S;go_wp2;go_ret2
 exact⟨_,rfl,HO,T.1,T.2⟩
theorem KO(h:it w B p s ex)(R:s.os.length<=1000)(ak:s.inits<=100000){i:Nat}(u:i<s.os.length)(v:∀j (hj:j<i),s.os[j].id≠s.os[i].id)(S:s.os[i].eP.length<=1000/\s.os[i].group.length<=1000)(b a id:Int){f x:fS}(y:(Value.slice s.os[i].im.pU.A s.os[i].im.pU.n s.os[i].im.pU.c,f)∈ex)(T:sB s.rs)(n:EP s.rs s.os[i].base f x){k:Nat}{l:Rg}(U:EO s.rs a k l):
 Calls prog 189 #[fw p,kX 0 b 0 a id,eE (s.os[i].id:Nat)] w (Oa w B p ((s.ke (s.inits+1)).jg (s.os.set i (s.os[i].ke (s.inits+1)))) ex x (qZ s.rs k l a f)):=by
 obtain⟨V,_⟩:=N' h y;obtain⟨az,W,al,am,_⟩:=h.at u;have an:=h.eH.lt;have X:=eD (λg (z:eF w g)=>pv (h.ext z) R u v S);have Y:=eD (λg (z:eF w g)=>Ri (h.ext z) R ak u v);have A:=λg (o:it g B p ((s.ke (s.inits+1)).jg (s.os.set i (s.os[i].ke (s.inits+1)))) ex)=>EQ p s.sp _ b a id s.os[i].base f x s.os[i].im.pU.A s.os[i].im.pU.c g B s.rs s.rv k l o.eH rfl o.vH T n (N' o y).2 U o.size;simp only[<-V,kX,nR,mA,nO,j6] at A;have ao:=eD A;have ap:Hid (∀r c,it r B p ((s.ke (s.inits+1)).jg (s.os.set i (s.os[i].ke (s.inits+1)))) ex->j' c B s.sp (qZ s.rs k l a f) s.rv->CH B jr [] r c->it c B p (((s.ke (s.inits+1)).jg (s.os.set i (s.os[i].ke (s.inits+1)))).rX (qZ s.rs k l a f) s.rv) ex):=eD (λr c h1 hs n=>h1.Vu hs n);have C:Hid (∀D,w.heap.size<=D->¬KD p s D):=eD (λD hb d=>by
  rcases d with rfl|d
  ·omega
  ·rw[W] at d;injection d with d;injection d with d _ _;omega)
 generalize E:(s.ke (s.inits+1)).jg (s.os.set i (s.os[i].ke (s.inits+1)))=aq at*;have HS:=eD E;have ar:Hid (aq.rv=s.rv):=eD (by rw[<-E]);clear E h v S y A n T U V W al am an;generalize s.os[i]=m at*;have Z:=eQ.new w 108 #[eE 0,eE b,eE 0,eE 0,eE 0,eE 0,eE 0,eE 0,eE 0,eE 0,eE 0,eE 0,eE 0,eE 0,eE 0,eE 0,eE 0,eE a,eE id];have F:=eD (eF.alloc w (eN #[eE 0,eE b,eE 0,eE 0,eE 0,eE 0,eE 0,eE 0,eE 0,eE 0,eE 0,eE 0,eE 0,eE 0,eE 0,eE 0,eE 0,eE a,eE id] 108));simp only[kX,nR,mA,nO,j6];go_in;go_wp
 generalize hW:w.alloc (eN #[eE 0,eE b,eE 0,eE 0,eE 0,eE 0,eE 0,eE 0,eE 0,eE 0,eE 0,eE 0,eE 0,eE 0,eE 0,eE 0,eE 0,eE a,eE id] 108)=r at*;clear hW;refine(X _ F).mono ?_;rintro e c ⟨nA,nc,gA,gc,bA,bc,rfl,_,G⟩;have H:=eD (F.trans G);have ad:=G.eH Z;have bz:=eQ.new c 177 KM;clear Z X G;go_wp2_with (refine eG rfl 177 (.tmp 8) (.tmp 14) rfl c rfl (OV.eL (m.re nA nc gA gc bA bc)) rfl bz (j4 _) (by rw[gx];exact iR) (by rw[gx];rfl) ?_)
 intro w3 b3 g3;have I:=(fi.grown g3).ext (eF.alloc _ _);have t:=eD (H.trans I);have ae:=eD (I.eH ad);have af:=eD b3;have ag:=eD H.size;clear g3 I ad bz b3;go_wp
 refine(Y _ t).mono ?_;rintro e w4 ⟨rfl,J,K,N⟩;rw[HS] at J;have ah:=N.eH ae (C _ (fJ _));have O:=N.eH af (C _ ag);have ai:=eD J;have au:=eD (CH.fk (CH.fg (B:=B) (L:=jz) (M:=[]) t) (K.fC lB.sub));have aj:=eD (ah.load (P:=prog) 108 0 [eE 0,eE b,eE 0,eE 0,eE 0,eE 0,eE 0,eE 0,eE 0,eE 0,eE 0,eE 0,eE 0,eE 0,eE 0,eE 0,eE 0,eE a,eE id] rfl _ underlying108 rfl (by kernel_rfl));have av:=O.ce 18 (eE m.base);have aw:=O.ce 14 (.slice m.im.pU.A m.im.pU.n m.im.pU.c);have ax:=eD (eY t.size K.size);clear J K N ah O Y C ae af ag H t F;go_wp2_with (refine eK rfl 108 (.tmp 4) rfl _ rfl (fV #[eE 0,eE b,eE 0,eE 0,eE 0,eE 0,eE 0,eE 0,eE 0,eE 0,eE 0,eE 0,eE 0,eE 0,eE 0,eE 0,eE 0,eE a,eE id]) ?_ ?_)
 ·exact aj
 go_wp
 clear av aw aj;refine(ao _ ai).mono ?_;rintro e w5 ⟨v5,rfl,o5,s5,Q⟩;have HE:=eD (ap _ _ ai s5 Q);have ay:=eD (au.fk (Q.fC jr.sub));have HO:=eD (fq o5 ax);clear o5 s5 Q;go_wp2;go_ret2
 exact⟨_,rfl,HO,by rw[ar];exact HE,ay⟩
end
end
section
theorem ER(a:List gh)(b:eI)(h:mL a):Calls prog 319 #[eV (fI (ff a))] b λe c=>e=fH (eV (fI (JM a)))/\eF b c:=by
 have d:=eD (Gn a b h);clear h;go_in;go_wp
 refine d.mono ?_;rintro e g ⟨rfl,f⟩;go_wp2;go_ret;exact⟨rfl,f⟩
inductive Sv (name:jw) (file:Int) (pd:OV->Bool):Prop
 |name (h0:file=0) (h1:Lib.indexByte name.data.toList 47<0) (h2:∀o,pd o=decide (o.im.c0=name))
 |path (h0:file=0) (h1:0<=Lib.indexByte name.data.toList 47) (h2:∀o,pd o=false)
 |file (h0:file≠0) (h2:∀o,pd o=decide (oB o.fQ=file))
def tR(w:eI)(os:List OV)(pd:OV->Bool)(e:Ending)(w':eI):Prop:=
 ((∃i,∃hi:i<os.length,pd os[i]=true/\(∀j (hj:j<i),pd os[j]=false)/\e=fH (ij #[eE (os[i].id:Nat),fz true]))\/((∀o∈os,pd o=false)/\e=fH (ij #[eE 0,fz false])))/\eF w w'
section
variable {w:eI} {B p:Nat} {s:LS} {ex:List (eS×fS)}
theorem yZ(h:it w B p s ex)(U:s.os.length<=1000)(name:jw)(file:Int)(f:OV->Bool)(z:Sv name file f)(V: -9223372036854775808<=file/\file<=9223372036854775807):
 Calls prog 313 #[fw p,eV name,eE file] w (tR w s.os f):=by
 have J:=eD h.Kq;have K:=eD (h.eH.ce 6 (.slice s.oA s.os.length s.oc));have L:=eD z;clear h z;go_in;have M:=K.out;go_wp
 clear M;go_loopw [15] (λv wr=>∃a:Nat,a<=s.os.length/\v=eE a/\(∀b (i:b<s.os.length),b<a->f s.os[b]=false)/\eF w wr) (λv _=>s.os.length- (intOf v).toNat)
 case atStart=>exact⟨0,eX _,rfl,λb _ i=>by omega,eF.refl _⟩
 case round=>
  obtain⟨a,W,rfl,A,r⟩:=hrel;have n:=eD A;have x:=eD r;clear A r;by_cases C:a<s.os.length
  ·obtain⟨X,Y,N,Z,D,O⟩:=jW J C;have E:=eD (D wr x);have F:Hid (∀m,f s.os[a]=true->eF w m->tR w s.os f (fH (ij #[eE (s.os[a].id:Nat),fz true])) m):=eD (λm d r=>⟨.inl ⟨a,C,d,λb i=>n b (by omega) i,rfl⟩,r⟩);have y:Hid (f s.os[a]=false->∀b (i:b<s.os.length),b<a+1->f s.os[b]=false):=eD (λd b i ad=>by
    by_cases P:b=a
    ·subst P;exact d
    ·exact n b i (by omega))
   rw[N];clear D O n;generalize s.os[a]=c at*;have G:=eQ.new wr 177 KM;go_wp2_with (first|(refine eK rfl 177 (.tmp 17) rfl _ rfl (xd c) ?_ ?_)|(refine eG rfl 177 (.tmp 9) (.tmp 18) rfl wr rfl c.eL rfl G (j4 _) (by rw[gx];exact iR) (by rw[gx];rfl) ?_))
   ·exact E
   intro w1 t H;have I:=(fi.grown H).ext (eF.alloc _ _);have o:=eD (x.trans I);have c0:=t.ce 0 (eE (c.id:Nat));have c2:=t.ce 2 (eE (oB c.fQ));have c3:=t.ce 3 (eV c.im.c0);clear H G E t I;rcases L.out with⟨rfl,u,k⟩|⟨rfl,u,k⟩|⟨h0,k⟩
   ·have g:=λw=>oy name 47 w;rw[kD (by omega:¬(0:Int)<=Lib.indexByte name.data.toList 47)] at g;have g:=eD g;have d:=k c;clear u k;by_cases l:c.im.c0=name
    ·subst l;have j:Hid (f c=true):=eD (by rw[d];simp);clear d;go_wp21
     refine(g _).mono ?_;rintro e m ⟨rfl,rfl⟩;go_wp2;go_ret2
     exact F _ j o
    ·have j:Hid (f c=false):=eD (by rw[d];simpa using l);have Q:=QZ l;clear d l;go_wp21
     refine(g _).mono ?_;rintro e m ⟨rfl,rfl⟩;go_wp2;go_roundw
     case rel=>exact⟨a+1,by omega,by go_num,y j,o⟩
     case measure=>simp[intOf];omega
   ·have g:=λw=>oy name 47 w;rw[jU u] at g;have g:=eD g;have j:=eD (k c);clear u k;go_wp21
    refine(g _).mono ?_;rintro e m ⟨rfl,rfl⟩;go_wp2;go_roundw
    case rel=>exact⟨a+1,by omega,by go_num,y j,o⟩
    case measure=>simp[intOf];omega
   ·have d:=k c;clear k;generalize oB c.fQ=R at*;by_cases l:R=file
    ·subst l;have j:Hid (f c=true):=eD (by rw[d];simp);clear d;go_wp
     go_ret2
     exact F _ j o
    ·have j:Hid (f c=false):=eD (by rw[d];simpa using l);have Q:=mn.mpr l;clear d;go_wp
     go_roundw
     case rel=>exact⟨a+1,by omega,by go_num,y j,o⟩
     case measure=>simp[intOf];omega
  ·obtain rfl:a=s.os.length:=by omega
   have S:Hid (tR w s.os f (fH (ij #[eE 0,fz false])) wr):=eD ⟨.inr ⟨λc T=>by obtain⟨b,i,rfl⟩:=gN T;exact n.out b i i,rfl⟩,x.out⟩
   clear n;go_wp
   go_ret2
   exact S
end
end
end
section
open Go.RowKit Go.Maps
section
theorem G4:Keyed prog 3:=int_keyed underlying3
theorem eF.lC(g:eF w v){a:ik}{b:eS->Option (DataW eS×List MemPlace)}{c d:Nat}{f:DataW eS}(h:w.ownsMap prog a b c d f):v.ownsMap prog a b c d f:=(CH.fg (B:=0) (L:=[]) (M:=[]) g).map h (by simp)
def UH(w:eI)(e:Ending)(w':eI):Prop:=∃p t,e=fH (fw p)/\Eg w' w p t/\t.iQ=[]/\eF w w'
theorem Oc(a:eI):Calls prog 142 #[] a (UH a):=by
 have k:= @run_makeMap prog;go_in;go_wp
 go_ret;have j:=World.ownsMap_made a prog 3 rV;have d:=World.ownsMap_made (a.alloc (.map #[] 0)) prog 3 rV;have f:=World.ownsMap_made ((a.alloc (.map #[] 0)).alloc (.map #[] 0)) prog 3 rV;simp only[fM] at d f;have g:=eF.alloc (a.alloc (.map #[] 0)) (.map #[] 0);have c:=eF.alloc ((a.alloc (.map #[] 0)).alloc (.map #[] 0)) (.map #[] 0);have b:=eF.alloc (((a.alloc (.map #[] 0)).alloc (.map #[] 0)).alloc (.map #[] 0)) (eN #[.map (some a),.map (some (a.heap.size+1)),.map (some (a.heap.size+1+1)),fz false,eE 0] 193);have i:=eQ.new (((a.alloc (.map #[] 0)).alloc (.map #[] 0)).alloc (.map #[] 0)) 193 #[.map (some a),.map (some (a.heap.size+1)),.map (some (a.heap.size+1+1)),fz false,eE 0];simp only[fM] at i;exact⟨_,⟨a,a.heap.size+1,a.heap.size+1+1,[]⟩,rfl,⟨i,by omega,fJ _,tj _,by show _<=a.heap.size+1+1;omega,b.lC (c.lC (g.lC j)),b.lC (c.lC d),b.lC f,by simp⟩,rfl,(((eF.alloc _ _).trans g).trans c).trans b⟩
theorem ES{a:eS->Option (DataW eS×List MemPlace)}{left:Lit->Bool}(h:w.ranges kH f a n k m kK left i)(b:v.heap[n]? =w.heap[n]?)(c:v.heap[k]? =w.heap[k]?):v.ranges kH f a n k m kK left i:=by obtain⟨d,g,since,seen,j,l,o,p,r,s,t⟩:=h;exact⟨d,g,since,seen,j,b.trans l,o,p,r,c.trans s,t⟩
def Od(w:eI)(t:TL)(e:Ending)(w':eI):Prop:=∃p t',e=fH (fw p)/\Eg w' w p t'/\t'.iQ.map (λx=>(x.1,x.2.1))=t.iQ.map (λx=>(x.1,x.2.1))/\eF w w'/\t'.m1≠t'.m3/\t'.m2≠t'.m3
theorem Ts(a:Int)(h: -9223372036854775808<=a/\a<=9223372036854775807):keyOf prog 3 (.int .i64 a)=some (.int .i64 a):=Maps.keyOf_int_mk (P:=prog) (k:=3) underlying3 (by simp only[Lit.wf,pC,jh];exact h)
theorem Tt(a:Int×Int×Nat):Maps.has (Cj [a]) (.int .i64 a.1)=true:=has_put_same (D:=DataW.map []) ⟨_,rfl⟩ (show WideAt.IsKeyLit (.int .i64 a.1) from trivial) _
theorem UI(a:Int×Int×Nat)(b:DataW eS):(Cj [a]).atKey (.int .i64 a.1) b=.held (Vr a):=atKey_put_same (D:=DataW.map []) ⟨_,rfl⟩ (show WideAt.IsKeyLit (.int .i64 a.1) from trivial) _ _
theorem Oe{b:Int×Int×Nat}{a:Lit}(h:Maps.has (Cj [b]) a=true):a=.int .i64 b.1:=Classical.byContradiction λc=>by have:Maps.has (Cj [b]) a=Maps.has (DataW.map []) a:=has_put_other (D:=DataW.map []) c _;rw[this] at h;cases h
structure vU(B:Nat)(w:eI)(p m1 m2 m3:Nat)(b:Bool)(iQ:List (Int×Int×Nat)):Prop where
 eH:eQ w p 193 #[.map (some m1),.map (some m2),.map (some m3),.bool b,.int .i64 0]
 low:B<=p/\B<=m1/\B<=m2/\B<=m3
 Ub:m1≠m3/\m2≠m3
 rS:w.ownsMap prog 3 rV m1 0 (.map [])
 tM:w.ownsMap prog 3 rV m2 0 (.map [])
 rj:w.ownsMap prog 3 rV m3 iQ.length (Cj iQ)
 pJ:∀x∈iQ,B<=x.2.2/\w.ownsMap prog 3 rV x.2.2 0 (.map [])
section
variable {B:Nat} {w w':eI} {p m1 m2 m3:Nat} {b:Bool} {iQ:List (Int×Int×Nat)}
theorem vU.ext(h:vU B w p m1 m2 m3 b iQ)(a:eF w w'):vU B w' p m1 m2 m3 b iQ:=
 ⟨a.eH h.eH,h.low,h.Ub,a.lC h.rS,a.lC h.tM,a.lC h.rj,λc d=>⟨(h.pJ c d).1,a.lC (h.pJ c d).2⟩⟩
theorem vU.Tw(h:vU B w p m1 m2 m3 b iQ)(a:CH 0 [] [n] w w')(d:p≠n/\m1≠n/\m2≠n/\m3≠n)(g:∀c∈iQ,c.2.2≠n):vU B w' p m1 m2 m3 b iQ:=
 ⟨a.eH h.eH (by simp) (by simpa using d.1),h.low,h.Ub,a.map h.rS (by simpa using d.2.1),a.map h.tM (by simpa using d.2.2.1),a.map h.rj (by simpa using d.2.2.2),λc f=>⟨(h.pJ c f).1,a.map (h.pJ c f).2 (by simpa using g c f)⟩⟩
theorem vU.put{id tp:Int}(h:vU B w p m1 m2 m3 b [])(i:w'.ownsMap prog 3 rV m3 1 ((DataW.map []).put (.int .i64 id) (.held (.agg #[.int .i64 tp,.map (some n)]))))(g:w.grownBy w' (some m3))(j:n≠m3)(d:B<=n/\w.ownsMap prog 3 rV n 0 (.map [])):vU B w' p m1 m2 m3 b [(id,tp,n)]:=by
 have a:CH 0 [] [m3] w w':=fi.mono (fi.grown g) λo f=>by simp only[fd] at f;exact⟨eX _,.inr (by simp[f])⟩
 have k:p≠m3:=λe=>by have c:=h.eH;obtain⟨r,s,l,_⟩:=h.rj;unfold eQ at c;rw[e,l] at c;cases c
 exact⟨a.eH h.eH (by simp) (by simpa using k),h.low,h.Ub,a.map h.rS (by simpa using h.Ub.1),a.map h.tM (by simpa using h.Ub.2),i,λt m=>by obtain rfl:=fF.1 m;exact⟨d.1,a.map d.2 (by simpa using j)⟩⟩
end
def sa(t:TL)(r:Nat)(ths':List (Int×Int×Nat))(left:Lit->Bool):Prop:=(ths'=[]/\left=Maps.has (Cj t.iQ))\/((∀kl,left kl=false)/\ths'.map (λx=>(x.1,x.2.1))=t.iQ.map (λx=>(x.1,x.2.1)))
theorem IR{a:List (Int×Int×Nat)}(c:a.length<=1):a=[]\/∃b,a=[b]:=by
 cases a with
 |nil=>exact .inl rfl
 |cons b a=>cases a with
  |nil=>exact .inr ⟨b,rfl⟩
  |cons d a=>simp at c
theorem sa.done{a:TL}{r:Nat}{b:List (Int×Int×Nat)}{left:Lit->Bool}(h:sa a r b left)(c:a.iQ.length<=1)(d:∀kl,left kl=false):b.map (λx=>(x.1,x.2.1))=a.iQ.map (λx=>(x.1,x.2.1)):=by
 rcases h with⟨f,g⟩|⟨_,e⟩
 ·subst f;rcases IR c with e|⟨i,e⟩
  ·rw[e]
  ·have:=d (.int .i64 i.1);rw[g,e,Tt] at this;cases this
 ·exact e
theorem sa.entry{b:TL}{j:List (Int×Int×Nat)}{left:Lit->Bool}(h:sa b n j left)(r:b.iQ.length<=1){k:Int}{c:eS}{i:Lit}{y:DataW eS×List MemPlace}(s:keyOf prog 3 (eE k)=some i)(a:left i=true)(l:rV c=some y)(m:∀t,(Cj b.iQ).atKey i t=y.1):
 ∃id d f,b.iQ=[(id,d,f)]/\j=[]/\k=id/\c=fV #[eE d,.map (some f)]/\(-9223372036854775808<=id/\id<=9223372036854775807):=by
 obtain⟨x,u,rfl,o⟩:=Maps.keyOf_int_inv underlying3 s;cases u;rcases h with⟨v,w⟩|⟨e,_⟩
 ·rw[w] at a;rcases IR r with e|⟨⟨id,d,f⟩,e⟩
  ·rw[e] at a;cases a
  ·rw[e] at a m;have p:=Oe a;simp only[IS,ky] at p;subst p;have g:=m (.held undef);rw[UI] at g;simp only[rV,fd] at l;rw[<-l] at g;simp only[S9] at g;refine⟨_,d,f,e,v,rfl,g.symm, ?_⟩;simp only[Lit.wf,pC,jh] at o;exact o
 ·rw[e] at a;cases a
theorem sa.Tx{b:TL}{g:List (Int×Int×Nat)}{left:Lit->Bool}(h:sa b n g left)(o:b.iQ.length<=1){id c:Int}{d:Nat}(i:b.iQ=[(id,c,d)]){f:Lit}(j:keyOf prog 3 (eE id)=some f):∀a,(left a&& !a.sameKey f)=false:=λa=>by
 obtain⟨p,k,rfl,r⟩:=Maps.keyOf_int_inv underlying3 j;cases k;rcases h with⟨s,l⟩|⟨e,_⟩
 ·rw[l,i];cases m:Maps.has (Cj [(id,c,d)]) a with
  |false=>rfl
  |true=>have:=Oe m;subst this;simp[Lit.sameKey]
 ·rw[e];rfl
theorem KP{b:TL}{c:List (Int×Int×Nat)}(a:vU w v n k m i (!b.iQ.isEmpty) c)(g:eF w v)(l:b.iQ.length<=1)(f:c.map (λd=>(d.1,d.2.1))=b.iQ.map (λd=>(d.1,d.2.1))):Od w b (fH (fw n)) v:=by
 have j:c.isEmpty=b.iQ.isEmpty:=by have:=congrArg List.length f;simp only[gW] at this;cases c<;>cases h:b.iQ<;>simp_all
 refine⟨n,⟨k,m,i,c⟩,rfl,⟨?_,a.low.1,a.low.2.1,a.low.2.2.1,a.low.2.2.2,a.rS,a.tM,a.rj,a.pJ⟩,f,g,a.Ub⟩;have:=a.eH;rw[<-j] at this;exact this
theorem KQ{p:Nat}{a:TL}(h:Eg w n p a)(R:a.iQ.length<=1):Calls prog 255 #[fw p] w (Od w a):=by
 have a6:= @run_makeMap prog;have ad:=eD (λG (m:eF w G)=>Gp rV a.m1 0 (.map []) G (m.lC h.rS));have S:=eD (λG (m:eF w G)=>Gq rV a.m2 0 (.map []) G (m.lC h.tM));have HT:=eD h;have c0:=h.eH.ew 0 (.map (some a.m1)) rfl;have c1:=h.eH.ew 1 (.map (some a.m2)) rfl;have c3:=h.eH.ew 3 (fz (!a.iQ.isEmpty)) rfl;have c4:=h.eH.ew 4 (eE 0) rfl;clear h;go_in;go_wp
 go_cut [3] (λs3 H=>∃z d c b,s3=fw z/\w.heap.size<=z/\w.heap.size<=d/\w.heap.size<=c/\w.heap.size<=b/\(d≠b/\c≠b)/\eQ H z 193 #[.map (some d),.map (some c),.map (some b),fz (!a.iQ.isEmpty),eE 0]/\H.ownsMap prog 3 rV d 0 (.map [])/\H.ownsMap prog 3 rV c 0 (.map [])/\H.ownsMap prog 3 rV b 0 (.map [])/\eF w H)
 case first=>
  refine iW [0,1,2,3,5,6,7,8,11,12,13,14,15,16,17,18] [4,9,10] (.jG (.e [4] (.jG (.e [9] (.e [10] (.q [19] (.e [20] (.q [21] .done))))) (.e [10] (.e [9] (.q [19] (.e [20] (.q [21] .done))))))) (.e [10] (.e [4] (.e [9] (.q [19] (.e [20] (.q [21] .done))))))) ?_;repeat(go_big_quiet_step (fail))
  refine eO ?_;clear c0 c1 c3 c4;have I:=eD (eF.drew w);generalize World.drew w=C at*;refine fX ?_ ?_
  ·skip
   refine eZ ?_;go_wp
   refine(ad _ I).mono ?_;rintro e v ⟨rfl,o,D,z1⟩;have r:=eD (I.trans D);have T:=eD I.size;have U:=eD o.lt;have j:=eD o;clear o D z1;generalize C.heap.size=d at*;go_wp2;refine⟨⟨⟨_,r⟩,rfl⟩, ?_⟩;refine fX ?_ ?_
   ·skip
    refine eZ ?_;go_wp
    refine(S _ r).mono ?_;rintro e s ⟨rfl,g,l,J⟩;have f:=eD (r.trans l);have K:=eD r.size;have j:=eD (l.lC j);have L:=eD g.lt;have A:=eD g;clear g l J;generalize v.heap.size=c at*;go_wp2;refine⟨⟨⟨_,f⟩,rfl⟩, ?_⟩;refine eZ ?_;go_wp
    have i:=eD (f.trans (eF.alloc s (.map #[] 0)));have M:=eD f.size;have j:=eD ((eF.alloc s (.map #[] 0)).lC j);have A:=eD ((eF.alloc s (.map #[] 0)).lC A);have N:=eD (World.ownsMap_made s prog 3 rV).lt;have t:=eD (World.ownsMap_made s prog 3 rV);generalize s.alloc (.map #[] 0)=O at*;generalize s.heap.size=b at*;refine⟨⟨⟨_,i⟩,rfl⟩, ?_⟩;refine fj ?_;repeat(go_big_quiet_step (fail))
    refine eO ?_;refine eT ?_;go_wp
    refine fj ?_;repeat(go_big_quiet_step (fail))
    refine eO ?_;refine fP ?_;have k:=eF.alloc O (eN #[.map (some d),.map (some c),.map (some b),fz (!a.iQ.isEmpty),eE 0] 193);go_wp
    go_meet;have q1:=U.out;have q2:=L.out;have q3:=N.out;exact⟨_,d,c,b,rfl,i.size,T,K,M,⟨by omega,by omega⟩,eQ.new _ _ _,k.lC j,k.lC A,k.lC t,i.trans k⟩
   ·skip
    refine eZ ?_;go_wp
    have f:=eD (r.trans (eF.alloc v (.map #[] 0)));have M:=eD r.size;have j:=eD ((eF.alloc v (.map #[] 0)).lC j);have N:=eD (World.ownsMap_made v prog 3 rV).lt;have t:=eD (World.ownsMap_made v prog 3 rV);generalize v.alloc (.map #[] 0)=s at*;generalize v.heap.size=b at*;refine⟨⟨⟨_,f⟩,rfl⟩, ?_⟩;refine eZ ?_;go_wp
    refine(S _ f).mono ?_;rintro e O ⟨rfl,g,l,J⟩;have i:=eD (f.trans l);have K:=eD f.size;have j:=eD (l.lC j);have t:=eD (l.lC t);have L:=eD g.lt;have A:=eD g;clear g l J;generalize s.heap.size=c at*;go_wp2;refine⟨⟨⟨_,i⟩,rfl⟩, ?_⟩;refine fj ?_;repeat(go_big_quiet_step (fail))
    refine eO ?_;refine eT ?_;go_wp
    refine fj ?_;repeat(go_big_quiet_step (fail))
    refine eO ?_;refine fP ?_;have k:=eF.alloc O (eN #[.map (some d),.map (some c),.map (some b),fz (!a.iQ.isEmpty),eE 0] 193);go_wp
    go_meet;have q1:=U.out;have q2:=L.out;have q3:=N.out;exact⟨_,d,c,b,rfl,i.size,T,K,M,⟨by omega,by omega⟩,eQ.new _ _ _,k.lC j,k.lC A,k.lC t,i.trans k⟩
  ·skip
   refine eZ ?_;go_wp
   have r:=eD (I.trans (eF.alloc C (.map #[] 0)));have M:=eD I.size;have N:=eD (World.ownsMap_made C prog 3 rV).lt;have t:=eD (World.ownsMap_made C prog 3 rV);generalize C.alloc (.map #[] 0)=v at*;generalize C.heap.size=b at*;refine⟨⟨⟨_,r⟩,rfl⟩, ?_⟩;refine eZ ?_;go_wp
   refine(ad _ r).mono ?_;rintro e s ⟨rfl,o,D,z1⟩;have f:=eD (r.trans D);have T:=eD r.size;have t:=eD (D.lC t);have U:=eD o.lt;have j:=eD o;clear o D z1;generalize v.heap.size=d at*;go_wp2;refine⟨⟨⟨_,f⟩,rfl⟩, ?_⟩;refine eZ ?_;go_wp
   refine(S _ f).mono ?_;rintro e O ⟨rfl,g,l,J⟩;have i:=eD (f.trans l);have K:=eD f.size;have t:=eD (l.lC t);have j:=eD (l.lC j);have L:=eD g.lt;have A:=eD g;clear g l J;generalize s.heap.size=c at*;go_wp2;refine⟨⟨⟨_,i⟩,rfl⟩, ?_⟩;refine fj ?_;repeat(go_big_quiet_step (fail))
   refine eO ?_;refine eT ?_;go_wp
   refine fj ?_;repeat(go_big_quiet_step (fail))
   refine eO ?_;refine fP ?_;have k:=eF.alloc O (eN #[.map (some d),.map (some c),.map (some b),fz (!a.iQ.isEmpty),eE 0] 193);go_wp
   go_meet;have q1:=U.out;have q2:=L.out;have q3:=N.out;exact⟨_,d,c,b,rfl,i.size,T,K,M,⟨by omega,by omega⟩,eQ.new _ _ _,k.lC j,k.lC A,k.lC t,i.trans k⟩
 case rest=>
  obtain⟨z,d,c,b,rfl,l0,l1,l2,l3,ld,hb,o,g,o3,m⟩:=hcut;have ae:=HT.ext m;have c2:=ae.eH.ce 2 (.map (some a.m3));have HR:=eD ae.rj;have a7:=HT.rj.lt;have aq:Hid (vU w wc z d c b (!a.iQ.isEmpty) []):=eD ⟨hb,⟨l0,l1,l2,l3⟩,ld,o,g,o3,by simp⟩;have aO:z<wc.heap.size/\d<wc.heap.size/\c<wc.heap.size/\b<wc.heap.size:=⟨hb.lt,o.lt,g.lt,o3.lt⟩;have ar:=eD m;have aP:=m.size;clear c0 c1 c3 c4 ae hb o g o3 ad S m;go_wp2_with (first|(at_range;refine wpList_range_own _ rfl _ 191 rfl 3 187 G4 underlying191 rV a.m3 _ _ rfl HR ?_;intro w1 au av aQ))
  go_frame;have af:=eD (show eF wc w1 from(fi.grown av).ext (eF.refl _) (λaR V=>by cases V));have ag:=eD au;have aw:=eD (aq.ext af);obtain⟨u,hr⟩:∃u,u=wc.heap.size:=⟨_,rfl⟩;rw[<-hr] at ag aO aP ⊢;have ax:=eD (ar.trans af);clear hr au av aQ c2 HR aq ar af;go_loopw [4] (λ_ wr=>∃left W E,wr.ranges prog 3 rV a.m3 u a.iQ.length (Cj a.iQ) left W/\eF w wr/\vU w wr z d c b (!a.iQ.isEmpty) E/\sa a u E left) (λ_ wr=>wr.rangeLeft a.m3 u)
  case atStart=>exact⟨_,_,[],ag,ax,aw,.inl ⟨rfl,rfl⟩⟩
  case round=>
   obtain⟨left,W,E,ay,m,az,aA⟩:=hrel;have aB:=eD ay;have HX:=eD m;have ah:=eD az;have P:=eD aA;clear ay m az aA ag ax aw;go_wp2_with (first|(at_next;refine wpList_next_ranges _ rfl _ rfl 3 G4 rV (Value.int .i64) (λai=>ai) (λkey kl h=>by obtain⟨aC,e,_⟩:=Maps.keyOf_int_inv underlying3 h;exact⟨aC,e⟩) (λai y _=>⟨ai,rfl⟩) a.m3 u a.iQ.length (Cj a.iQ) left W rfl aB ?_ ?_))
   ·intro _ aD;have aS:=eD (KP ah HX R (P.done R aD));clear aD P;go_wp
    go_ret;exact aS
   ·intro aC a8 kl yd yp Q aT aj aE aF aG ak aH al aU aV;obtain⟨id,x,B,X,e2,ex,ec,gO⟩:=P.entry R (y:=(yd,yp)) aj aE aF aG;have ex:=ex.symm;subst ex ec;subst e2;have f:=eD ((fi.grown al).ext HX);have aI:CH 0 [] [u] wr Q:=fi.mono (fi.grown al) λaR V=>by simp only[fd] at V;exact⟨eX _,.inr (by simp[V])⟩
    have aJ:=eD (ah.Tw aI ⟨by omega,by omega,by omega,by omega⟩ (by simp));have aW:=eD (HT.pJ (id,x,B) (by rw[X];simp)).2;have aX:=eD ak;have aY:=eD aH;have aZ:=eD X;have a9:=ak.lt;have a0:=eD (P.Tx R X aj);have a1:=eD gO;clear aj aF aG ak aH al aU X aE ah P aI gO;go_wp2;have am:=eQ.new Q 187 #[eE x,.map (some B)];have aK:=fM Q (eN #[eE x,.map (some B)] 187);have Y:=eF.alloc Q (eN #[eE x,.map (some B)] 187);generalize Q.alloc (eN #[eE x,.map (some B)] 187)=Z at*;try rw[<-aK]
    clear aK;have i:=eD (f.trans Y);have an:=eD (aJ.ext Y);have d2:=an.eH.ew 2 (.map (some b)) rfl;have e0:=am.ew 0 (eE x) rfl;have e1:=am.ew 1 (.map (some B)) rfl;have ao:=eD Y;clear am Y aV f aJ;refine iW [0,1,2,3,4,5,6,7,8] [9,10] (.e [9] (.e [10] (.e [11] .done))) ?_;repeat(go_big_quiet_step (fail))
    refine eO ?_;clear d2 e0 e1;refine eZ ?_;go_wp
    refine(Gr rV B 0 (.map []) _ ((i.trans (eF.drew Z)).lC aW)).mono ?_;rintro e w4 ⟨rfl,o4,x4,z4⟩;have F:=eD ((eF.drew Z).trans x4);have aL:=eD o4;have a':=eY ao.size (eF.drew Z).size;clear o4 x4 z4;generalize(World.drew Z).heap.size=nb at*;go_wp2;refine⟨⟨⟨_,F⟩,rfl⟩, ?_⟩;refine eZ ?_;go_wp
    refine⟨⟨⟨_,F⟩,rfl⟩, ?_⟩;refine eT ?_;have ap:=eD (an.ext F);go_wp2_with (refine wpList_mapUpdate_own _ rfl (.tmp 40) (.tmp 41) (.tmp 47) 191 rfl 3 187 G4 underlying191 rV b 0 (.map []) rfl ap.out.rj (by unfold maxLen;omega) (.int .i64 id) (.agg #[.int .i64 x,.map (some nb)]) (.int .i64 id) rfl rfl (Ts _ a1.out) (.held (.agg #[.int .i64 x,.map (some nb)])) [] rfl ?_)
    intro w5 o5 g5;have a2:Hid (∃left aM E,w5.ranges prog 3 rV a.m3 u a.iQ.length (Cj a.iQ) left aM/\aM<W/\eF w w5/\vU w w5 z d c b (!a.iQ.isEmpty) E/\sa a u E left):=eD (by have aN:=ao.trans F;have a3:=ES aX (aN.below.block a.m3 (by omega)) (aN.below.block u (by omega));refine⟨_,aT,[(id,x,nb)],a3.kept g5 (by simp;omega) (by simp;omega),aY,(fi.grown g5).ext ((i).trans F),ap.put o5 g5 ?_ ⟨by omega,aL⟩,.inr ⟨a0,by rw[aZ];rfl⟩⟩;omega)
    clear o5 g5 aL ap F ao an i;refine iH ?_;refine fP ?_;go_wp
    obtain⟨a4,a5,Rn,r1,r2,r3,r4,r5⟩:=a2.out;go_roundw
    case rel=>exact⟨a4,a5,Rn,r1,r3,r4,r5⟩
    case measure=>rw[r1.left_eq,aB.out.left_eq];exact r2
end
end
section
open Go.RowKit
def oh(rs rs':List Rg):Prop:=rs'.map (λr=>(r.at_,r.iU,r.bs))=rs.map (λr=>(r.at_,r.iU,r.bs))
def IT(w:eI)(rs:List Rg)(e:Ending)(w':eI):Prop:=∃p rs' v,e=fH (fw p)/\j' w' w p rs' v/\oh rs rs'/\eF w w'
theorem j'.nil(w:eI)(B p:Nat)(a:eQ w p 152 #[eW])(b:B<=p):j' w B p [] (eW):=
 ⟨a,b,⟨by simp[fO],.inl ⟨rfl,rfl⟩⟩,by simp,by simp,by simp,by simp⟩
theorem KR(a:eI):Calls prog 141 #[] a (IT a []):=by go_in;go_wp2;have b:eQ (a.alloc (.cells #[eW] 152)) a 152 #[eW]:=eQ.new _ _ _;have c:Hid (IT a [] (fH (fw a)) (a.alloc (.cells #[eW] 152))):=eD ⟨_,_,_,rfl,j'.nil _ _ _ b (fJ _),rfl,eF.alloc _ _⟩;clear b;go_ret;exact c
theorem G5(ar p:Nat)(i:List Rg)(Y:eS)(d:eI)(h:j' d ar p i Y)(hl:i.length<4096)(Z:∀r∈i,0<r.bs.length):
 Calls prog 254 #[fw p] d (IT d i):=by
 obtain⟨i0,au,av,aw,ax⟩:=info_parts sY;have HS:=eD h;have hp:=h.eH.ce 0 Y;have aO:=h.eH.lt;obtain⟨aP,aQ,rfl⟩:=h.slice;have ay:=eD Z;clear h Z;go_in;go_wp2;have u:eQ (d.alloc (.cells #[eW] 152)) d 152 #[eW]:=eQ.new _ _ _;have y:=eF.alloc d (.cells #[eW] 152);generalize d.alloc (.cells #[eW] 152)=w1 at*;have HN:=eD (j'.nil w1 d d u (fJ _));have v:=eD y;clear u y;have HB:=eD (fJ d);generalize hG:d.heap.size=b at*;have J:=eD hG;clear hG;go_loopw [13,5] (λK aR wr=>∃(k:Nat) (j:List Rg) (n:eS),k<=i.length/\K=eE k/\j.length=k/\j' wr b b j n/\oh (i.take k) j/\eF d wr) (λK _ _=>i.length- (intOf K).toNat)
 case atStart=>exact⟨0,[],eW,eX _,rfl,rfl,HN,by simp[oh],v⟩
 case round=>
  obtain⟨k,j,n,hk,rfl,F,hs,ad,y⟩:=hrel;have v:=eD y;have w:=eD hs;have ae:=eD ad;have z:=eD F;clear y hs ad F;by_cases A:k<i.length
  ·have B:=HS.ext v;obtain⟨gr,cr,hv,_,aS,_,c0,c1,c2,c3⟩:=B.at A;have L:=B.each _ (eU A);have az:=B.vq _ (eU A);have af:=ay _ (eU A);injection hv with aA _ aB
   subst aA aB;have HT:=eD (iz A);generalize i[k]=r at*;obtain⟨l,m,rg,C,a⟩:=r;simp only at c0 c1 c2 c3 L az af;have aC:=eD L;clear L B;go_wp2_with fail
   have M:=eQ.new wr 157 #[eE l,eE a.length,eE m,fN rg a.length C];have D:=eF.alloc wr (.cells #[eE l,eE a.length,eE m,fN rg a.length C] 157);generalize wr.alloc (.cells #[eE l,eE a.length,eE m,fN rg a.length C] 157)=w2 at*;obtain⟨t5,N⟩:∃t5,wr.heap.size=t5:=⟨_,rfl⟩;rw[N] at M ⊢;have ag:=eD N;clear N;have ah:=eD (DE (some (eJ rg 0)) a.length C (jl a) w2 (λh=>by cases h) (by rw[ju,qP]) (by simpa using mo (D.own aC) 0) (pj _) (by omega));refine ah.mono ?_;rintro e O ⟨v',rfl,G,P⟩;obtain⟨f,g,rfl,_⟩:=jI G af;have x:=P.eH M;have ai:=D.trans P;have Q:eF wr (O.setCell (eJ t5 3) (fN f a.length g)):=eF.of (ai.below.setCell (by rw[ag];exact fJ _) _);have s:=x.set 3 (fN f a.length g);have aT:=x.lt;have aj:=eY D.size (Me G).1;have ak:(O.setCell (eJ t5 3) (fN f a.length g)).ownsRow b 5 1 (fN f a.length g) a.length (jl a):=il (fq G (by have:=v.size;have:=D.size;have:=J.out;omega)) x (by decide) _;have d3:=x.ce 3 (fN rg a.length C);have f3:=x.frozen 3;clear D P M x ai G ah c0 c1 c2 c3;go_wp2;generalize O.setCell (eJ t5 3) (fN f a.length g)=w4 at*;have s:eQ w4 t5 157 #[eE l,eE a.length,eE m,fN f a.length g]:=s;clear d3 f3;have al:=w.ext Q;have aU:=eD s;have aD:=eD Q;have aE:=eD ak;have aF:=eD aj;have R:=al.eH.lt;have am:=s.lt;have e0:∀c:KW [b,t5] w4,c.w.cell? (eJ b 0)=some n:=λc=>c.cell (al.eH.cell 0 rfl) (by simp);have e1:∀c:KW [b,t5] w4,c.w.cell? (eJ t5 0)=some (eE l):=λc=>c.cell (s.cell 0 rfl) (by simp);have e2:∀c:KW [b,t5] w4,c.w.cell? (eJ t5 1)=some (eE a.length):=λc=>c.cell (s.cell 1 rfl) (by simp);have e3:∀c:KW [b,t5] w4,c.w.cell? (eJ t5 2)=some (eE m):=λc=>c.cell (s.cell 2 rfl) (by simp);have e4:∀c:KW [b,t5] w4,c.w.cell? (eJ t5 3)=some (fN f a.length g):=λc=>c.cell (s.cell 3 rfl) (by simp);clear s Q ak aj;refine gU [b,t5] [0,1,2,3,4,5] [6,7,8,9,10] 2 ?_;repeat(go_big_quiet_step (fail))
   refine eO ?_;clear e0 e1 e2 e3 e4;refine gH ?_;go_wp2;have t:=(eF.alloc w4 (.cells #[eE l,eE a.length,eE m,fN f a.length g] 157)).trans (eF.drew _);have an:Rd (w4.alloc (.cells #[eE l,eE a.length,eE m,fN f a.length g] 157)).drew (some (eJ w4 0)) (Rg.eL ⟨l,m,f,g,a⟩):=eQ.rd (eQ.drew (eQ.new w4 157 _));generalize(w4.alloc (.cells #[eE l,eE a.length,eE m,fN f a.length g] 157)).drew=w5 at*;have S:=eD (aD.trans t);have aG:=eD an;have aH:=eD ((w.ext S).row);have aI:=eD (t.own aE);have aJ:=lN (nX R t.size);have F:=z.out;refine⟨KC.of (λao u=>t.below.block ao (by simp only[fm,gp,gq] at u;rcases u with rfl|rfl<;>omega)), ?_⟩;clear F;have aK:Hid (∀o,w5.grownBy o n.ownBlock->KC [b,t5] w4 o/\o.cell? (eJ b 0)=some n/\o.frozen? (eJ b 0)=false):=eD (λo T=>by
    have U:=w.ext S;have ap:=oS U.row U.eH (by decide);have aL:n.ownBlock≠some t5:=λe=>by have h1:=((w).row.lt _ e).2;have B:=ag.out;omega
    have aq:=(fi.grown T).eH U.eH (λe=>ap e.symm);refine⟨KC.of (λao u=> ?_),aq.cell 0 rfl,aq.frozen 0⟩;simp only[fm,gp,gq] at u;rcases u with rfl|rfl
    ·exact(T.block _ (nX R t.size) (λe=>ap e.symm)).trans (t.below.block _ R)
    ·exact(T.block _ (nX am t.size) (λe=>aL e.symm)).trans (t.below.block _ am))
   clear t an;refine gH ?_;go_wp2_with (at_builtin;go_loud(refine fB rfl _ _ 150 rfl b 157 i0 _ 4 48 underlying150 au av aw ax rfl (by omega) n j.length (iY j) rfl aH.out (some (eJ w4 0)) 1 (Rg.eL ⟨l,m,f,g,a⟩) 1 rfl rfl aG.out (vv _) (by have:=z.out;unfold maxLen;omega) (by have:=z.out;omega) aJ ?_))
   intro H o V W _;obtain⟨k1,E,k3⟩:=aK o W;have I:=w.Vp (r:=⟨l,m,f,g,a⟩) (k:=j.length) (v':=H) (w4:=o) S.out aI.out aF.out (fJ _) (by rw[iT,Jr,ov];simpa[fO] using V) (fi.mono (fi.grown W) (λq X=>X.symm)) (by have:=z.out;omega) (by simp only;omega);have aM:Hid (∃(E:Nat) (j:List Rg) (n:eS),E<=i.length/\Value.int .i64 ((k:Int)+1)=.int .i64 E/\j.length=E/\j' (o.setCell ⟨b,0,none⟩ H) b b j n/\oh (i.take E) j/\eF d (o.setCell ⟨b,0,none⟩ H)):=eD (by rw[iT,Jr] at I;refine⟨k+1,j++[⟨l,m,f,g,a⟩],H,by omega,by go_num,by simp[z.out],I.1, ?_,fi.ext I.2 v.out (λq X=>by rw[J.out];exact X.1)⟩;have:=ae.out;unfold oh at this ⊢;rw[HT,iC,iC,this];rfl)
   obtain⟨A6,c6,rfl⟩:=eR V;clear V W I;go_wp2;refine⟨k1, ?_⟩;refine jm ?_;go_wp2;go_roundw
   case rel=>exact aM
   case measure=>simp[intOf];omega
  ·obtain rfl:k=i.length:=by omega
   have aN:Hid (IT d i (fH (fw b)) wr):=eD ⟨b,j,n,rfl,by rw[J];exact w,by have:=ae;rwa [iT] at this,v⟩;go_wp2;go_ret;exact aN
end
section
open Go.RowKit Go.Maps
theorem j'.mono{w:eI}{B p:Nat}{rs:List Rg}{v:eS}(h:j' w B p rs v)(a:n<=B):j' w n p rs v:=⟨h.eH,eY a h.low,fq h.row a,λb c=>fq (h.each b c) a,h.pX,h.iO,h.vq⟩
theorem Eg.mono{w:eI}{B p:Nat}{t:TL}(h:Eg w B p t)(a:n<=B):Eg w n p t:=⟨h.eH,eY a h.low,eY a h.Eh,eY a h.Ei,eY a h.Ck,h.rS,h.tM,h.rj,λb c=>⟨eY a (h.pJ b c).1,(h.pJ b c).2⟩⟩
theorem kg.mono{w:eI}{B p b n:Nat}{D:DataW eS}{last:Int}(h:kg w B p b n D last)(a:k<=B):kg w k p b n D last:=⟨h.eH,eY a h.low,eY a h.yn,h.map,h.iO⟩
theorem KS{a:List Rg}(h:oh [] a):a=[]:=by unfold oh at h;simpa using h
theorem Of(b:eI)(c:Nat):fo c b [(eW,[]),(eW,[])]:=.of (λd a=>by simp only[fm,gp,gq] at a;rcases a with rfl|rfl<;>exact ji _ _ _ _) (by simp[iG,Value.ownBlock])
def Og(w:eI)(n:Nat)(D:DataW eS)(last:Int)(e:Ending)(w':eI):Prop:=∃p s,e=fH (fw p)/\it w' w p s []/\(s.rs=[]/\s.os=[]/\s.scope=[]/\s.gF=[]/\s.last=0/\s.inits=0/\s.D=D/\s.fn=n/\s.fl=last/\s.tl.iQ=[])/\eF w w'
theorem Oh(a:eI)(B k p c:Nat)(d:DataW eS)(f:Int)(h:kg a B k p c d f):Calls prog 82 #[fw k,rR,fz false] a (Og a c d f):=by
 have G:=eD h;clear h;unfold rR;go_in;go_wp
 have l:=eQ.new a 55 #[eW,eW];have r:=fM a (eN #[eW,eW] 55);have b:=eF.alloc a (eN #[eW,eW] 55);generalize a.alloc (eN #[eW,eW] 55)=s at*;try rw[<-r]
 clear r;have t:=eD b;have H:=l.ew 0 (eW) rfl;have I:=l.ew 1 (eW) rfl;refine xO [2,4,5] [0,1,3,6,7,8] 3 ?_;repeat(go_big_quiet_step (fail))
 refine eO ?_;clear H I l;have u:=eD (eF.drew s);generalize World.drew s=J at*;refine gH ?_;go_wp
 refine(KR J).mono ?_;rintro e K ⟨v,Z,L,rfl,w,x,y⟩;have m:=eD (u.trans y);have M:=eD (eY b.size u.size);have N:=eD (w.mono M);have O:=eD (KS x);clear w x y;go_wp2;refine⟨⟨⟨_,m⟩,rfl⟩, ?_⟩;refine gH ?_;go_wp
 refine(Oc K).mono ?_;rintro e P ⟨z,t2,rfl,A,C,n⟩;have g:=eD (m.trans n);have Q:=eD (A.mono (eY b.size m.size));have R:=eD (N.ext n);have S:=eD C;clear A C n;go_wp2;refine⟨⟨⟨_,g⟩,rfl⟩, ?_⟩;refine gH ?_;go_wp
 refine(AP B k p c d f P (G.ext (t.trans g))).mono ?_;rintro e D ⟨E,T,rfl,F,i⟩;have o:=eD (g.trans i);have U:=eD (F.mono (eY b.size g.size));have V:=eD (R.ext i);have W:=eD (Q.ext i);have X:=eD (eY b.size o.size);clear F i;go_wp2;refine⟨⟨⟨_,o⟩,rfl⟩, ?_⟩;refine jm ?_;go_wp
 go_ret;have j:=eF.alloc D (eN #[fw v,fw z,fw E,eW,eW,fz false,eW,eW,eE 0,eE 0,eW] 97);have Y:=O.out;subst Y;refine⟨D,⟨v,[],L,z,t2,E,T,c,d,f,none,0,[],none,0,[],0,0,none,0,[]⟩,rfl,⟨eQ.new _ _ _,X,V.ext j,W.ext j,U.ext j,ji _ _ _ _,Of _ _,by simp[LS.rows,LS.mz,LS.nD,iG,Value.ownBlock]⟩,⟨rfl,rfl,rfl,rfl,rfl,rfl,rfl,rfl,rfl,S⟩,t.trans (o.trans j)⟩
def pK(pc tp x sp id stack:Int)(over:Bool):fY:=nR pc tp x sp id++[.int .i64 stack,.bool over]
structure z6(w:eI)(pp lp mt n:Nat)(D:DataW eS):Prop where
 eH:eQ w pp 87 #[fw lp,.map (some mt)]
 map:w.ownsMap prog 3 rV mt n D
theorem z6.ext{w w':eI}{mt n:Nat}{D:DataW eS}(h:z6 w k m mt n D)(a:eF w w'):z6 w' k m mt n D:=⟨a.eH h.eH,a.lD h.map⟩
theorem zl(a b c d id f:Int)(g:Bool):∀i∈pK a b c d id f g,i.oneCell'=true:=by simp[pK,nR,mA,Value.oneCell']
theorem se(pc tp x sp id:Int):∀a∈nR pc tp x sp id,a.oneCell'=true:=by simp[nR,mA,Value.oneCell']
theorem qJ{mt:Nat}{D:DataW eS}(g:z6 w n k mt m D){id pc tp x sp i stack:Int}{over:Bool}(gO:0<=id/\id<16)(j:At D (.int .i64 id) (.agg (pK pc tp x sp i stack over).toArray)):
 Calls prog 26 #[.pointer (some ⟨n,0,none⟩),.int .i64 id] w λe G=>e=.returned (.tuple #[kX pc tp x sp i,.int .i64 0])/\eF w G:=by
 obtain⟨b,d⟩:∃b,b=pK pc tp x sp i stack over:=⟨_,rfl⟩;obtain⟨a,f⟩:∃a,a=nR pc tp x sp i:=⟨_,rfl⟩;rw[<-d] at j;have s:b=a++[.int .i64 stack,.bool over]:=by rw[d,f];rfl
 have c:b.length=21/\a.length=19:=by rw[d,f];exact⟨rfl,rfl⟩
 have H:∀l∈b,l.oneCell'=true:=by rw[d];exact zl _ _ _ _ _ _ _
 have I:∀l∈a,l.oneCell'=true:=by rw[f];exact se _ _ _ _ _
 unfold kX;rw[<-f];have J:=eD s;clear s d f;have t:=eQ.new w 108 nJ;have o:=eF.alloc w (eN nJ 108);have u:=(sE (g.ext o).map qI underlying85 (zeroValue160 _) (key:=.int .i64 id) (kl:=.int .i64 id) (kZ _ (by omega)) j).1;have K:=g.eH.ce 1 (.map (some mt));have N:=g.eH.lt;have p:=eQ.new (w.alloc (eN nJ 108)) 160 BX;rw[fM] at p;have v:=eD (o.trans (eF.alloc _ (eN BX 160)));have y:=eD ((eF.alloc (w.alloc (eN nJ 108)) (eN BX 160)).eH t);clear j g o;go_in;go_wp2_with (first|(refine O u (by intro Q;rfl) ?_)|(refine eG rfl 160 (.tmp 6) (.tmp 15) rfl (w.heap.size+1) rfl b rfl p H (by rw[c.1];kernel_rfl) (by rw[c.1];rfl) ?_))
 intro R z r;have A:=eD ((fi.grown r).ext v);have B:=eD (y.grown r (λe=>by injection e with e;omega));have C:=eD (z.load (P:=prog) 108 0 a (by rw[J];simp) _ underlying108 rfl (by rw[c.2];kernel_rfl));clear p t z r u v y K;go_wp2_with (first|(refine eK rfl 108 (.tmp 20) rfl _ rfl (fV a.toArray) C ?_)|(refine eG rfl 108 (.tmp 4) (.tmp 21) rfl w rfl a rfl B I (by rw[c.2];kernel_rfl) (by rw[c.2];rfl) ?_))
 intro S E F;have L:=eD ((fi.grown F).ext A);have M:=eD (E.fK (P:=prog) 108 _ underlying108 rfl (by rw[c.2];kernel_rfl));clear E F A B C;go_wp2;try simp only[Exit.inBlock,Exit.then]
 exact iA (oY rfl rfl M) rfl ⟨rfl,L⟩
section
theorem CP{c:Func}{d q g i:Tmp}(h:c.results=#[.tmp d,.cell q f,.tmp g,.tmp i]){a:kx}{P:Program}{b:eI}{j:Addr}{k:eS}(l:a.getD q undef=.pointer (some j))(m:(loadVar f j).run P b=.ok k b):(results c a).run P b=.ok (ij #[a.getD d undef,k,a.getD g undef,a.getD i undef]) b:=by simp only[Sl] at l;simp only[results,h];simp[nU,Result.andThen,l,m,asAddr]
theorem CH.mg{w:eI}{g:Nat}(b:eQ w g f kJ)(c:w.grownBy v (some g)):CH 0 [f] [] w v:=fi.mono (fi.grown c) λd a=>by simp only[fd] at a;subst a;exact⟨eX _,.inl ⟨kJ,f,_,b,by simp⟩⟩
section
variable {w:eI} {pp lp mt n p:Nat} {D:DataW eS}
def OJ(w:eI)(B pp lp mt n:Nat)(D:DataW eS)(id stack nn:Int)(C2:fY)(e:Ending)(w':eI):Prop:=∃g c,e=.returned (.tuple #[.slice (some ⟨g,0,none⟩) 1 c,CB 1 0,.int .i64 3,.int .i64 0])/\w'.ownsRow w.heap.size 3 1 (.slice (some ⟨g,0,none⟩) 1 c) 1 [.int .i64 nn]/\
 z6 w' pp lp mt (n+1) (D.put (.int .i64 id) (.held (.agg (C2++[Value.int .i64 id,Value.int .i64 stack,Value.bool true]).toArray)))/\CH B [] [mt] w w'
theorem OL(hp:z6 w pp lp mt n D){B:Nat}(hB:B<=mt)(s:n<=1000)(c0:w.cell? ⟨lp,0,none⟩=some (.pointer (some ⟨p,0,none⟩))){id pc tp sp C nn ah:Int}(gO:0<=id/\id<16)(ax:At D (.int .i64 id) (.agg (pK pc tp 0 sp id C false).toArray))(bg:0<=ah/\ah<=10000){C2:fY}(G:C2.length=18)(bh:∀t∈C2,t.oneCell'=true)(ai:∀m,eF w m->Calls prog 70 #[.pointer (some ⟨p,0,none⟩),kX pc tp 0 sp id,.int .i64 ah] m (uQ m C2 id nn)):
 Calls prog 42 #[.pointer (some ⟨pp,0,none⟩),.int .i64 id,.int .i64 ah] w (OJ w B pp lp mt n D id C nn C2):=by
 have aJ:∀t∈C2++[Value.int .i64 id],t.oneCell'=true:=λt hu=>by
  rcases gu.1 hu with hu|hu
  ·exact bh t hu
  ·rw[fF.1 hu];rfl
 have aK:(prog.info? 108).map (·.size)=some (C2++[Value.int .i64 id]).length:=by rw[fT,G];kernel_rfl
 have bi:(C2++[Value.int .i64 id]).length=(#[.int .i64 0,.int .i64 0,.int .i64 0,.int .i64 0,.int .i64 0,.int .i64 0,.int .i64 0,.int .i64 0,.int .i64 0,.int .i64 0,.int .i64 0,.int .i64 0,.int .i64 0,.int .i64 0,.int .i64 0,.int .i64 0,.int .i64 0,.int .i64 0,.int .i64 0]:kx).size:=by rw[fT,G];rfl
 obtain⟨l,L⟩:∃l,l=pK pc tp 0 sp id C false:=⟨_,rfl⟩;obtain⟨M,aj⟩:∃M,M=nR pc tp 0 sp id:=⟨_,rfl⟩;rw[<-L] at ax;have aL:l=M++[.int .i64 C,.bool false]:=by rw[L,aj];rfl
 have X:l.length=21/\M.length=19:=by rw[L,aj];exact⟨rfl,rfl⟩
 have bj:∀t∈l,t.oneCell'=true:=by rw[L];exact zl _ _ _ _ _ _ _
 have aM:l.toArray[20]? =some (.bool false):=by rw[L];rfl
 unfold kX at ai;rw[<-aj] at ai;have HL:=eD aL;have N:=eD hp;have aN:=eD ai;clear aL L aj ai;have b7:=eQ.new w 67 j3;have ak:=eF.alloc w (eN j3 67);have aO:=(sE (hp.ext ak).map qI underlying85 (zeroValue160 _) (key:=.int .i64 id) (kl:=.int .i64 id) (kZ _ (by omega)) ax).1;have c1:=ak.cell (hp.eH.ce 1 (.map (some mt)));have bz:=eQ.new (w.alloc (eN j3 67)) 160 BX;rw[fM] at bz;have aP:=eD (ak.trans (eF.alloc _ (eN BX 160)));have aQ:=eD ((eF.alloc (w.alloc (eN j3 67)) (eN BX 160)).eH b7);clear ax hp ak;go_in;go_wp2_with (first|(refine bG aO (by intro bH;rfl) ?_)|(refine eG rfl 160 (.tmp 10) (.tmp 23) rfl (w.heap.size+1) rfl l rfl bz bj (by rw[X.1];kernel_rfl) (by rw[X.1];rfl) ?_))
 intro H b3 g3;have O:=eD ((fi.grown g3).ext aP);have Q:=eD (aQ.grown g3 (λe=>by injection e with e;omega));have al:=eD b3;have d20:=b3.cell 20 (v:=fz false) aM;have Y:=O.size;clear bz b7 b3 g3 aO aP aQ c1;obtain⟨bI,bJ⟩:=bg;go_wp2;clear d20 aM;have e0:=(O.eH N.eH).ew 0 (fw lp) rfl;have e1:=oO (O.cell c0);have R:Hid (∀m,(∃t:EW H,m=t.w)->(loadVar 108 (eJ (w.heap.size+1) 0)).run prog m=.ok (fV M.toArray) m):=eD (λm ⟨t,hu⟩=>by subst hu;exact(t.ext.eH al).load (P:=prog) 108 0 M (by rw[HL];simp) _ underlying108 rfl (by rw[X.2];kernel_rfl))
 have F:=eD (λm (a:eF H m)=>aN m (O.trans a));clear aN;go_cut [12,13,14,15] (λbk bl bm bn wx=>∃am S i r,bk=.pointer (some ⟨am,0,none⟩)/\bl=.slice (some ⟨i,0,none⟩) 1 r/\bm=.pointer (some ⟨S,0,none⟩)/\bn=.int .i64 3/\eQ wx am 108 (C2++[Value.int .i64 id]).toArray/\eQ wx S 67 #[.int .i64 1,.int .i64 0,.int .i64 0,.int .i64 0,.int .i64 0]/\wx.ownsRow w.heap.size 3 1 (.slice (some ⟨i,0,none⟩) 1 r) 1 [.int .i64 nn]/\eF H wx/\H.heap.size<=am/\H.heap.size<=S)
 case first=>
  refine iW [0,1,2,3,4,5,6,7,8,9] [16,17] (.jG (.e [10] (.q [11,12,13,14,15] (.jG (.e [16] (.e [17] (.e [18] (.q [19] (.e [20] (.q [21] .done)))))) (.e [17] (.e [16] (.e [18] (.q [19] (.e [20] (.q [21] .done))))))))) (.jG (.e [16] (.jG (.e [10] (.q [11,12,13,14,15] (.e [17] (.e [18] (.q [19] (.e [20] (.q [21] .done))))))) (.e [17] (.e [10] (.q [11,12,13,14,15] (.e [18] (.q [19] (.e [20] (.q [21] .done))))))))) (.e [17] (.jG (.e [10] (.q [11,12,13,14,15] (.e [16] (.e [18] (.q [19] (.e [20] (.q [21] .done))))))) (.e [16] (.e [10] (.q [11,12,13,14,15] (.e [18] (.q [19] (.e [20] (.q [21] .done))))))))))) ?_;iterate 8 (go_big_quiet_step (fail))
  refine fR rfl 108 (.tmp 46) rfl _ _ rfl R (by simp[Act.put];rfl) ?_;repeat(go_big_quiet_step (fail))
  refine eO ?_;clear e0 e1 R;have I:=eD (eF.drew H);generalize World.drew H=Z at*;unfold CB uQ at F;apply Uk
  case k=>
   intro T;refine fX ?_ ?_
   ·skip
    refine eT ?_;go_wp2_with fail
    refine(F _ I).mono ?_;rintro e y1 ⟨i,r,rfl,j,a⟩;have an:=eD (I.trans a);have g:=eD (fq j (eY Y I.size));clear j a;go_wp2;refine iH ?_;refine fj ?_;repeat(go_big_quiet_step (fail))
    refine eO ?_;refine fX ?_ ?_
    ·skip
     refine eZ ?_;go_wp2;obtain⟨y2,b⟩:∃o,o=y1.alloc (eN nJ 108):=⟨_,rfl⟩;rw[<-b];have a:=b▸eF.alloc _ _;have c:=b▸eQ.new _ _ _;have y:=an.size;have g:=eD (a.own g);have ay:=eD (an.trans a);clear b a;generalize y1.heap.size=u at*;have f:=eD c;clear c;refine⟨⟨⟨_,ay⟩,rfl⟩, ?_⟩;refine eZ ?_;go_wp2;obtain⟨y3,b⟩:∃o,o=y2.alloc (eN j3 67):=⟨_,rfl⟩;rw[<-b];have a:=b▸eF.alloc _ _;have c:=b▸eQ.new _ _ _;have z:=ay.size;have s:=za f.lt;have f:=eD (a.eH f);have g:=eD (a.own g);have aR:=eD (ay.trans a);clear b a;generalize y2.heap.size=x at*;have d:=eD c;clear c;refine⟨⟨⟨_,aR⟩,rfl⟩, ?_⟩;exact T y3 u x i r (And.intro aR (And.intro g (And.intro f (And.intro d (And.intro s (And.intro y z))))))
    ·skip
     refine eZ ?_;go_wp2;obtain⟨y4,b⟩:∃o,o=y1.alloc (eN j3 67):=⟨_,rfl⟩;rw[<-b];have a:=b▸eF.alloc _ _;have c:=b▸eQ.new _ _ _;have z:=an.size;have g:=eD (a.own g);have az:=eD (an.trans a);clear b a;generalize y1.heap.size=x at*;have d:=eD c;clear c;refine⟨⟨⟨_,az⟩,rfl⟩, ?_⟩;refine eZ ?_;go_wp2;obtain⟨y5,b⟩:∃o,o=y4.alloc (eN nJ 108):=⟨_,rfl⟩;rw[<-b];have a:=b▸eF.alloc _ _;have c:=b▸eQ.new _ _ _;have y:=az.size;have s:=za d.lt;have d:=eD (a.eH d);have g:=eD (a.own g);have aS:=eD (az.trans a);clear b a;generalize y4.heap.size=u at*;have f:=eD c;clear c;refine⟨⟨⟨_,aS⟩,rfl⟩, ?_⟩;exact T y5 u x i r (And.intro aS (And.intro g (And.intro f (And.intro d (And.intro s.symm (And.intro y z))))))
   ·skip
    refine fX ?_ ?_
    ·skip
     refine eZ ?_;go_wp2;obtain⟨y6,b⟩:∃o,o=Z.alloc (eN nJ 108):=⟨_,rfl⟩;rw[<-b];have a:=b▸eF.alloc _ _;have c:=b▸eQ.new _ _ _;have y:=I.size;have U:=eD (I.trans a);clear b a;generalize Z.heap.size=u at*;have f:=eD c;clear c;refine⟨⟨⟨_,U⟩,rfl⟩, ?_⟩;refine fX ?_ ?_
     ·skip
      refine eT ?_;go_wp2_with fail
      refine(F _ U).mono ?_;rintro e y7 ⟨i,r,rfl,j,a⟩;have aT:=eD (U.trans a);have g:=eD (fq j (eY Y U.size));have f:=eD (a.eH f);clear j a;go_wp2;refine iH ?_;refine fj ?_;repeat(go_big_quiet_step (fail))
      refine eO ?_;refine eZ ?_;go_wp2;obtain⟨y8,b⟩:∃o,o=y7.alloc (eN j3 67):=⟨_,rfl⟩;rw[<-b];have a:=b▸eF.alloc _ _;have c:=b▸eQ.new _ _ _;have z:=aT.size;have s:=za f.lt;have f:=eD (a.eH f);have g:=eD (a.own g);have aU:=eD (aT.trans a);clear b a;generalize y7.heap.size=x at*;have d:=eD c;clear c;refine⟨⟨⟨_,aU⟩,rfl⟩, ?_⟩;exact T y8 u x i r (And.intro aU (And.intro g (And.intro f (And.intro d (And.intro s (And.intro y z))))))
     ·skip
      refine eZ ?_;go_wp2;obtain⟨y9,b⟩:∃o,o=y6.alloc (eN j3 67):=⟨_,rfl⟩;rw[<-b];have a:=b▸eF.alloc _ _;have c:=b▸eQ.new _ _ _;have z:=U.size;have s:=za f.lt;have f:=eD (a.eH f);have ao:=eD (U.trans a);clear b a;generalize y6.heap.size=x at*;have d:=eD c;clear c;refine⟨⟨⟨_,ao⟩,rfl⟩, ?_⟩;refine eT ?_;go_wp2_with fail
      refine(F _ ao).mono ?_;rintro e bo ⟨i,r,rfl,j,a⟩;have bp:=eD (ao.trans a);have g:=eD (fq j (eY Y ao.size));have f:=eD (a.eH f);have d:=eD (a.eH d);clear j a;go_wp2;refine iH ?_;refine fj ?_;repeat(go_big_quiet_step (fail))
      refine eO ?_;exact T bo u x i r (And.intro bp (And.intro g (And.intro f (And.intro d (And.intro s (And.intro y z))))))
    ·skip
     refine eZ ?_;go_wp2;obtain⟨aV,b⟩:∃o,o=Z.alloc (eN j3 67):=⟨_,rfl⟩;rw[<-b];have a:=b▸eF.alloc _ _;have c:=b▸eQ.new _ _ _;have z:=I.size;have V:=eD (I.trans a);clear b a;generalize Z.heap.size=x at*;have d:=eD c;clear c;refine⟨⟨⟨_,V⟩,rfl⟩, ?_⟩;refine fX ?_ ?_
     ·skip
      refine eT ?_;go_wp2_with fail
      refine(F _ V).mono ?_;rintro e aW ⟨i,r,rfl,j,a⟩;have aX:=eD (V.trans a);have g:=eD (fq j (eY Y V.size));have d:=eD (a.eH d);clear j a;go_wp2;refine iH ?_;refine fj ?_;repeat(go_big_quiet_step (fail))
      refine eO ?_;refine eZ ?_;go_wp2;obtain⟨bq,b⟩:∃o,o=aW.alloc (eN nJ 108):=⟨_,rfl⟩;rw[<-b];have a:=b▸eF.alloc _ _;have c:=b▸eQ.new _ _ _;have y:=aX.size;have s:=za d.lt;have d:=eD (a.eH d);have g:=eD (a.own g);have aY:=eD (aX.trans a);clear b a;generalize aW.heap.size=u at*;have f:=eD c;clear c;refine⟨⟨⟨_,aY⟩,rfl⟩, ?_⟩;exact T bq u x i r (And.intro aY (And.intro g (And.intro f (And.intro d (And.intro s.symm (And.intro y z))))))
     ·skip
      refine eZ ?_;go_wp2;obtain⟨bK,b⟩:∃o,o=aV.alloc (eN nJ 108):=⟨_,rfl⟩;rw[<-b];have a:=b▸eF.alloc _ _;have c:=b▸eQ.new _ _ _;have y:=V.size;have s:=za d.lt;have d:=eD (a.eH d);have ap:=eD (V.trans a);clear b a;generalize aV.heap.size=u at*;have f:=eD c;clear c;refine⟨⟨⟨_,ap⟩,rfl⟩, ?_⟩;refine eT ?_;go_wp2_with fail
      refine(F _ ap).mono ?_;rintro e br ⟨i,r,rfl,j,a⟩;have bs:=eD (ap.trans a);have g:=eD (fq j (eY Y ap.size));have f:=eD (a.eH f);have d:=eD (a.eH d);clear j a;go_wp2;refine iH ?_;refine fj ?_;repeat(go_big_quiet_step (fail))
      refine eO ?_;exact T br u x i r (And.intro bs (And.intro g (And.intro f (And.intro d (And.intro s.symm (And.intro y z))))))
  case l=>
   intro va u x i r hh;obtain⟨a,j,ad,ae,s,y,z⟩:=hh;have bt:=eD a;have g:=eD j;have f:=eD ad;have d:=eD ae;clear a j ad ae F;refine eT ?_;go_wp2_with (refine eG rfl 108 (.tmp 12) (.tmp 50) rfl u rfl (C2++[Value.int .i64 id]) rfl f.out aJ aK bi ?_)
   intro bL c E;have g:=eD ((CH.mg f E:CH 0 [108] [] _ _).own g);have d:=eD (d.grown E (λe=>by injection e with e;exact s (by first|exact e|exact e.symm)));have bu:=eD ((fi.grown E).ext bt (λbv hz=>by simp only[fd] at hz;omega));have f:=eD c;clear c E;go_wp2;refine iH ?_;refine fj ?_;repeat(go_big_quiet_step (fail))
   refine eO ?_;refine eT ?_;go_wp2_with (refine eG rfl 67 (.tmp 14) (.tmp 52) rfl x rfl [eE 1,eE 0,eE 0,eE 0,eE 0] rfl d (by simp[Value.oneCell']) (by kernel_rfl) (by rfl) ?_)
   intro bM c E;have g:=eD ((CH.mg d E:CH 0 [67] [] _ _).own g);have f:=eD (f.grown E (λe=>by injection e with e;exact s (by first|exact e|exact e.symm)));have bw:=eD ((fi.grown E).ext bu (λbv hz=>by simp only[fd] at hz;omega));have d:=eD c;clear c E;go_wp2;refine iH ?_;refine fj ?_;repeat(go_big_quiet_step (fail))
   refine eO ?_;refine fP ?_;go_wp2;go_meet;exact⟨u,x,i,r,rfl,rfl,rfl,rfl,f,d,g,bw,⟨y,z⟩⟩
 case rest=>
 obtain⟨am,S,i,r,rfl,rfl,rfl,rfl,ad,ae,j,a,bN,bO⟩:=hcut;have bP:=N.map.lt;have aZ:=O.trans a;have HX:=eD aZ;have aA:=eD (a.eH al);have a0:=eD (a.eH Q);have d:=eD ae;have g:=eD j;have a1:=eD (ad.fK (P:=prog) 108 _ underlying108 rfl (by rw[fT,G];kernel_rfl));have bQ:=al.lt;clear a aZ ad ae j O al Q F R e0 e1;go_wp2_with (first|(refine eK rfl 108 (.tmp 12) rfl _ rfl (.agg (C2++[Value.int .i64 id]).toArray) a1.out ?_)|(refine gI rfl 108 (.tmp 55) (.tmp 54) rfl (w.heap.size+1) 0 rfl (.agg (C2++[Value.int .i64 id]).toArray) rfl (C2++[Value.int .i64 id]) rfl aA.out aJ aK (by simp[G,X.1]) ?_))
 intro w6 b6 g6;have a2:l.drop 19=[Value.int .i64 C,Value.bool false]:=by rw[HL,<-X.2];simp
 rw[a2] at b6;have aq:CH B [] [w.heap.size+1] wc w6:=fi.mono (fi.grown g6) λk J=>by simp only[fd] at J;subst J;exact⟨by omega,.inr (by simp)⟩
 have a3:S≠w.heap.size+1:=by omega
 have aB:=eD (aq.eH d (by simp) (by simpa using a3));have a4:=eD (aq.eH a0 (by simp) (by simp));have a5:=eD ((CH.mg aA g6).own g);have a6:=eD ((CH.fg HX:CH B [] [] w wc).trans aq (λaf A=>.inr (by rw[fF.1 A];omega)));have aC:=eD b6;have k0:=aB.ce 0 (eE 1);have f20:=b6.frozen 20;have bx:=b6.cell 20 (v:=fz false) (by simp[qq,G]);clear b6 g6 aq a1 aA a0 d g HX a2;go_wp2;have a7:eQ (w6.setCell ⟨w.heap.size+1,20,none⟩ (.bool true)) (w.heap.size+1) 160 (C2++[Value.int .i64 id,Value.int .i64 C,Value.bool true]).toArray:=by have:=aC.set 20 (fz true);simpa[List.set_append,G] using this
 have ar:CH B [] [w.heap.size+1] w6 (w6.setCell (eJ (w.heap.size+1) 20) (fz true)):=CH.uq (by omega) (by simp);have aD:=eD ((CH.set aC (eX _) (by simp) 20 (fz true):CH 0 [160] [] _ _).own a5);have d:=eD (ar.eH aB (by simp) (by simpa using a3));have Q:=eD (ar.eH a4 (by simp) (by simp));have au:=eD (a6.trans ar (λaf A=>.inr (by rw[fF.1 A];omega)));have a8:=eD a7;clear k0 f20 bx a7 ar aC a6 a5 aB a4;generalize w6.setCell (eJ (w.heap.size+1) 20) (fz true)=w7 at*;have bA:∀{i:Nat} {aE:ik} {cs:kx},eQ w i aE cs->i∉[mt]:=λc e=>by obtain⟨es,ck,hD,_⟩:=N.map;rw[fF.1 e] at c;unfold eQ at c;rw[hD] at c;cases c
 have av:=eD (au.eH N.eH (by simp) (by simp));have e1:=av.out.ew 1 (.map (some mt)) rfl;have R:Hid (∀m,(∃t:EW w7,m=t.w)->(loadVar 160 ⟨w.heap.size+1,0,none⟩).run prog m=.ok (.agg (C2++[Value.int .i64 id,Value.int .i64 C,Value.bool true]).toArray) m):=eD (λm ⟨t,hu⟩=>by subst hu;exact(t.ext.eH a8).fK (P:=prog) 160 _ underlying160 rfl (by rw[fT,G];kernel_rfl))
 refine mY [0,1,2,3,4,5] [6] ?_;iterate 5 (go_big_quiet_step (fail))
 refine fR rfl 160 (.tmp 10) rfl _ _ rfl R (by simp[Act.put];rfl) ?_;repeat(go_big_quiet_step (fail))
 refine eO ?_;clear e1 R;have K:=eD (eF.drew w7);have aF:=eD (au.map N.map (by simp));generalize World.drew w7=Z at*;go_wp2_with (refine wpList_mapUpdate_own _ rfl (.tmp 68) (.tmp 69) (.tmp 70) 85 rfl 3 160 qI underlying85 rV mt n D rfl (K.out.lD aF.out) (by unfold maxLen;omega) (.int .i64 id) (.agg (C2++[Value.int .i64 id,Value.int .i64 C,Value.bool true]).toArray) (.int .i64 id) rfl rfl (kZ _ (by omega)) (.held (.agg (C2++[Value.int .i64 id,Value.int .i64 C,Value.bool true]).toArray)) [] rfl ?_)
 intro w8 o8 g8;have aw:∀{i:Nat} {aE:ik} {cs:kx},eQ w7 i aE cs->i∉[mt]:=λc e=>by obtain⟨es,ck,hD,_⟩:=aF.out;rw[fF.1 e] at c;unfold eQ at c;rw[hD] at c;cases c
 have W:CH B [] [mt] w7 w8:=(CH.fg K).trans (CH.mM g8 hB (by simp)) (λaf A=>.inl A);have a9:=eD (au.mono (M':=[mt]) (λ_ h=>h) (λ_ h=>by cases h) |>.trans W (λaf A=>.inl A));have a':=eD (W.eH av.out (by simp) (aw av.out));have aG:=eD (W.eH d (by simp) (aw d));have bb:=eD (W.eH Q (by simp) (aw Q));have bc:=eD (W.own aD (by simp) (λk J e=>by have:=(aD.lt k J).1;rw[fF.1 e] at this;omega))
 have bd:=eD o8;clear o8 g8 W aw av d Q aD au a8 aF K bA;go_wp2;refine jA [0,1,2,3] [4] (.e [4] (.q [5,6] .done)) (λm=>eQ m S 67 Qf) (by kernel_rfl) (by kernel_rfl) (by simp[gj];first|rfl|exact⟨rfl,rfl⟩) ((eF.drew w8).eH aG) ?_;iterate 1 (go_big_quiet_step (fail))
 refine fR rfl 67 (.tmp 14) rfl _ _ rfl (λm c=>c.fK (P:=prog) 67 _ underlying67 rfl (by kernel_rfl)) (by simp[Act.put];rfl) ?_;repeat(go_big_quiet_step (fail))
 refine eO ?_;have K:=eD (eF.drew w8);generalize World.drew w8=v9 at*;refine eZ ?_;have aH:=eD (K.eH bb);go_wp2_with (refine eG rfl 67 (.tmp 7) (.tmp 72) rfl w rfl [eE 1,eE 0,eE 0,eE 0,eE 0] rfl aH (by simp[Value.oneCell']) (by kernel_rfl) (by rfl) ?_)
 intro be bf aI;have ag:=(CH.fg K).trans (fi.mono (fi.grown aI) λk J=>by simp only[fd] at J;subst J;exact⟨by omega,.inr (by simp)⟩:CH B [] [w.heap.size] v9 be) (λaf A=>.inl A);have bB:=eD (a9.trans ag (λaf A=>.inr (by rw[fF.1 A];omega)));have bC:=eD (ag.eH aG (by simp) (by simp;omega));have bD:Hid (z6 be pp lp mt (n+1) _):=eD ⟨ag.eH a' (by simp) (by simp;have:=N.eH.lt;omega),ag.map bd (by simp;omega)⟩;have bE:=eD ((CH.mg aH aI).own (K.own bc));have bF:=eD (bf.fK (P:=prog) 67 _ underlying67 rfl (by kernel_rfl));clear bf aI ag aG bb aH a' bd bc a9;go_wp2;refine⟨bC, ?_⟩;refine fj ?_;repeat(go_big_quiet_step (fail))
 refine eO ?_;refine fP ?_;go_wp2;try simp only[Exit.inBlock,Exit.then]
 exact iA (CP rfl rfl bF) rfl ⟨i,r,rfl,bE,bD,bB⟩
end
end
def SH(x y:Int):Int:=if x=0 then y else x
theorem Ry(d f k:Nat)(a b:Int)(c:eI)(l:c.cell? (eJ d f)=some (eE a))(o:c.cell? (eJ d (f+1))=some (eE b)):Calls prog 118 #[.slice (some (eJ d f)) 2 k] c λe m=>e=fH (eE (SH a b))/\m=c:=by
 have p:c.cell? (eJ d (f+0))=some (eE a):=l;have n:(a=0/\b=0)\/(a=0/\(b != 0)=true)\/(a != 0)=true:=by
  by_cases g:a=0
  ·by_cases i:b=0
   ·exact .inl ⟨g,i⟩
   ·exact .inr (.inl ⟨g,by simpa using i⟩)
  ·exact .inr (.inr (by simpa using g))
 rcases n with⟨rfl,rfl⟩|⟨rfl,j⟩|j;all_goals
  go_in;go_wp2;refine wp_loop_rounds 3 ?_;repeat(rw[rounds_succ];go_wp2_with fail)
  go_ret
 ·exact⟨rfl,rfl⟩
 ·exact⟨rfl,rfl⟩
 ·exact⟨by rw[show SH a b=a from fG (by simpa using j)];rfl,rfl⟩
theorem I4(f g c:Nat)(a b:Int)(d:eI)(l:d.cell? (eJ f g)=some (eE a))(o:d.cell? (eJ f (g+1))=some (eE b)):Calls prog 121 #[.slice (some (eJ f g)) 2 c] d λe m=>e=fH (eE (SH a b))/\m=d:=by
 have p:d.cell? (eJ f (g+0))=some (eE a):=l;have n:(a=0/\b=0)\/(a=0/\(b != 0)=true)\/(a != 0)=true:=by
  by_cases i:a=0
  ·by_cases j:b=0
   ·exact .inl ⟨i,j⟩
   ·exact .inr (.inl ⟨i,by simpa using j⟩)
  ·exact .inr (.inr (by simpa using i))
 rcases n with⟨rfl,rfl⟩|⟨rfl,k⟩|k;all_goals
  go_in;go_wp2;refine wp_loop_rounds 3 ?_;repeat(rw[rounds_succ];go_wp2_with fail)
  go_ret
 ·exact⟨rfl,rfl⟩
 ·exact⟨rfl,rfl⟩
 ·exact⟨by rw[show SH a b=a from fG (by simpa using k)];rfl,rfl⟩
theorem BG(b:Nat)(a:eI):Calls prog 68 #[fw b,eE 0] a λe c=>e=fH (eE 0)/\c=a:=by go_in;go_wp2;go_ret;exact⟨rfl,rfl⟩
def OO(w:eI)(n:Nat)(D:DataW eS)(last:Int)(e:Ending)(w':eI):Prop:=∃lp m p s,e=fH (fw lp)/\eQ w' lp 91 #[fw p,.map (some m),eE 0,fz false,eE 0]/\w'.ownsMap prog 3 rV m 0 (.map [])/\
 it w' w p s []/\(s.rs=[]/\s.os=[]/\s.scope=[]/\s.gF=[]/\s.last=0/\s.inits=0/\s.D=D/\s.fn=n/\s.fl=last/\s.tl.iQ=[])/\(w.heap.size<=lp/\w.heap.size<=m)/\eF w w'
theorem OP(d:eI)(B g n i:Nat)(j:DataW eS)(k:Int)(h:kg d B g n i j k):Calls prog 53 #[fw g,rR,fz false] d (OO d i j k):=by
 have C:= @run_makeMap prog;have f:=eF.alloc d (eN #[eW,eW] 55);have o:=eD (Oh (d.alloc (eN #[eW,eW] 55)) B g n i j k (h.ch (CH.fg (B:=0) (L:=[]) (M:=[]) f) (by simp)));unfold rR at*;clear h;go_in;go_wp
 refine o.mono ?_;rintro e b ⟨l,v,rfl,p,w,r⟩;have x:=eD p;have s:=eD (f.trans r);have c:=eD (f.size);clear p r o f;go_wp2;go_ret;have y:=World.ownsMap_made b prog 3 rV;have t:=eF.alloc b (.map #[] 0);have m:=eF.alloc (b.alloc (.map #[] 0)) (eN #[fw l,.map (some b),eE 0,fz false,eE 0] 91);have u:=eQ.new (b.alloc (.map #[] 0)) 91 #[fw l,.map (some b),eE 0,fz false,eE 0];simp only[fM] at u;have D:=s.size;have a:=(x.ext t).ext m;exact⟨_,_,l,v,rfl,u,m.lC y,⟨a.eH,eY c a.low,a.vH.mono c,a.rT.mono c,a.qb.mono c,fq a.row c,a.ints,λz A=>eY c (a.ku z A)⟩,w,⟨by omega,by omega⟩,(s.trans t).trans m⟩
end
section
def oG(l:List Ob)(x:Nat):Ob:=(l.find? λo=>o.id==x).getD ⟨0,0,[],0,false⟩
theorem oH{l:List Ob}(d:(l.map Ob.id).Nodup){a:Ob}(b:a∈l):oG l a.id=a:=by
 unfold oG;cases e:l.find? (λf=>f.id==a.id) with
 |none=>exact absurd (QU.1 e a b) (by simp)
 |some g=>have c:=Ml e;simp only[sT] at c;exact nT d (Dj e) b c
theorem RE{b:List Ob}(m:(b.map Ob.id).Nodup){out f:fe}(o:f.Perm (((List.range b).filter λa=> !decide (a∈out)).map λa=>(b.map Ob.id).getD a 0)):
 (∀c∈f,∃i∈b,i.id=c)/\(f.map (oG b)).map Ob.id=f/\∀i,i∈f.map (oG b)↔∃a,∃d:a<b.length,b[a]=i/\decide (a∈out)=false:=by
 have l:∀c,c∈f↔∃a,∃d:a<b.length,b[a].id=c/\decide (a∈out)=false:=λc=>by
  rw[o.mem_iff];simp only[fy,jb,ll];constructor
  ·rintro⟨a,⟨j,g⟩,n⟩;refine⟨a,j, ?_,by simpa using g⟩;rw[<-n,jx,gg (by simpa using j)];simp
  ·rintro⟨a,j,g,n⟩;refine⟨a,⟨j,by simpa using n⟩, ?_⟩;rw[<-g,jx,gg (by simpa using j)];simp
 refine⟨λc k=> ?_, ?_,λi=> ?_⟩
 ·obtain⟨a,d,e,_⟩:=(l c).1 k;exact⟨_,eU d,e⟩
 ·rw[jL];have:f.map (Ob.id∘oG b)=f.map id:=mP λc k=>by obtain⟨a,d,e,_⟩:=(l c).1 k;subst e;simp only[uE,oH m (eU d),id]
  rw[this,Ig]
 ·rw[fy];constructor
  ·rintro⟨c,k,rfl⟩;obtain⟨a,d,e,g⟩:=(l c).1 k;subst e;exact⟨a,d,(oH m (eU d)).symm,g⟩
  ·rintro⟨a,d,rfl,g⟩;exact⟨b[a].id,(l _).2 ⟨a,d,rfl,g⟩,oH m (eU d)⟩
section
variable {G:Nat->fe} {N:Nat} {l:List Ob} {last inits:Nat} {order:fe} {hs:List Hn} {next:Nat} {cnt hnd:Nat->Nat}
theorem p9.UY(h:p9 G N l last inits order){a b:Ob}(o:a∈l)(p:b∈l)(r:a.fQ≠0)(s:b.fQ≠0)(e:a.gE=b.gE):a=b:=by
 obtain⟨t,u,_,j⟩:=h.Ua;obtain⟨v,rfl⟩:=h.prog;have k:∀c∈(⟨1,0,[],1,true⟩:Ob)::v,c.fQ≠0->c∈t:=λc d w=>by
  rcases fm.1 d with rfl|d
  ·exact absurd rfl w
  ·exact u.mem_iff.2 d
 obtain⟨f,m,rfl⟩:=gN (k a o r);obtain⟨g,n,rfl⟩:=gN (k b p s);rcases Az f g with i|rfl|i
 ·have:=jJ.1 j f g m n i;omega
 ·rfl
 ·have:=jJ.1 j g f n m i;omega
theorem Ha(Z:∀d,∀f∈G d,d<f/\f<=N)(ad:G 0=[])(h:kw G N l last inits order hs next cnt hnd){d:Nat}(J:1<=d)(K:d<=N)(hc:cnt d=1){at_ out ids:fe}(L:∀a (b:a<l.length),a∈at_↔l[a].keep=true\/∃s∈oE hs (hnd d),s.gL=l[a].id)(ae:∀a∈at_,a<l.length)(M:C' (zL l) at_ out out)(O:ids.Perm (((List.range l).filter λa=> !decide (a∈out)).map λa=>(l.map Ob.id).getD a 0))(af:ids.Pairwise λA B=>(oG l B).gE<=(oG l A).gE){stay:fe}(P:∀j,j∈stay↔∃c,(1<=c/\c<=N/\0<km cnt d 0 c)/\RT G c j):
 ids.map (λf=>(oG l f).fQ)=order.reverse.filter (λj=>decide (j∉stay))/\(∀f∈ids,(oG l f).fQ≠0)/\kw G N (qG l ids) last inits (order.filter λj=>decide (j∈stay)) (oE hs (hnd d)) next (km cnt d 0) hnd:=by
 obtain⟨g1,u,Q⟩:=RE h.sh.ids O;have v:∃h0:0<l.length,l[0]=⟨1,0,[],1,true⟩:=by obtain⟨c,e⟩:=h.sh.prog;subst e;exact⟨by simp,rfl⟩
 obtain⟨v,R⟩:=v;have ag:∀a,a<l.length->(decide (a∈out)=true↔∃c,c∈at_/\RT (zL l) c a):=λa _=>by rw[jh];exact M.mem (fJ _) a
 have ah:=(M.mem (fJ _) 0).2 ⟨0,(L 0 v).2 (.inl (by rw[R])),.refl _⟩;have C:∀g∈ids.map (oG l),g∈l/\g.fQ≠0:=λg m=>by obtain⟨a,b,rfl,S⟩:=(Q g).1 m;refine⟨eU b,λe=> ?_⟩;have:a=0:=fZ h.sh.qy (by simpa using b) (by simpa using v) (by simp[e,R]);subst this;rw[jU ah] at S;cases S
 have ai:ids.Nodup:=by
  rw[<-u];refine jJ.2 λa w b i D e=> ?_;simp only[u] at e;have hn:ids.Nodup:=by rw[O.nodup_iff];refine jJ.2 λa w b i D e=> ?_;simp only[gW] at b i;simp only[jy] at e;have aj:((List.range l.length).filter λa=> !decide (a∈out)).Nodup:=List.nodup_range.filter _;have p:=ll.1 (jb.1 (eU b)).1;have r:=ll.1 (jb.1 (eU i)).1;rw[jx,jx,gg (by simpa using p),gg (by simpa using r),pP,pP] at e;have:=fZ h.sh.ids (by simpa using p) (by simpa using r) e;exact absurd (fZ aj b i this) (by omega)
  rw[u] at b i;exact absurd (fZ hn b i e) (by omega)
 have ak:(ids.map (oG l)).Pairwise λA B=>B.gE<A.gE:=by
  refine jJ.2 λa w b i D=> ?_;simp only[gW] at b i;have h1:=jJ.1 af a w b i D;simp only[jy];have p:=C _ (fy.2 ⟨_,eU b,rfl⟩);have r:=C _ (fy.2 ⟨_,eU i,rfl⟩);refine Nat.lt_of_le_of_ne h1 λe=> ?_;have e2:=h.sh.UY r.1 p.1 r.2 p.2 e;have T:∀f (o:f<ids.length),(oG l ids[f]).id=ids[f]:=λf o=>by obtain⟨g,m,e⟩:=g1 _ (eU o);have:=oH h.sh.ids m;rw[e] at this;rw[this,e]
  have:=T a b;rw[<-e2,T w i] at this;exact absurd (fZ ai i b this) (by omega)
 have U:=K3 Z h.sh (at_:=at_) (roots:=(List.range (N+1)).filter λc=>decide (1<=c/\0<km cnt d 0 c)) (stay:=stay) ad (λc n=>by
  simp only[jb,ll,jh] at n;obtain⟨E,x,k⟩:=n;refine h.OE x (by omega) ?_;unfold km at k;split at k
  ·omega
  ·exact k) (λa b=>by
  rw[L a b];constructor
  ·rintro(o|⟨s,hy,e⟩)
   ·exact .inl o
   ·obtain⟨y,F⟩:=jb.1 hy;have F:s.h≠hnd d:=by simpa using F
    by_cases V:s.h=1
    ·have:=mR h.hn y h.one V;subst this;have:=nT h.sh.ids h.CN (eU b) e;exact .inl (by rw[<-this])
    ·obtain⟨al,p,r,m3,m4,g,m,z,H⟩:=h.SB s y V;have:=nT h.sh.ids m (eU b) (z.trans e);rw[<-this,H];refine .inr (jb.2 ⟨ll.2 (by omega),jU ⟨p, ?_⟩⟩);have:al≠d:=λe=>F (by rw[m4,e]);unfold km;rw[fG this];exact m3
  ·rintro(o|n)
   ·exact .inl o
   ·simp only[jb,ll,jh] at n;obtain⟨E,x,k⟩:=n;have W:l[a].fQ≠d:=λe=>by rw[e] at k;simp[km] at k
    have t:0<cnt l[a].fQ:=by unfold km at k;rw[fG W] at k;exact k
    obtain⟨j,X,x1,_,_,g,m,z,H⟩:=h.IZ _ x (by omega) t;have:=xx h.sh.qy m (eU b) H;subst this;refine .inr ⟨j,jb.2 ⟨X,jU λe=> ?_⟩,z.symm⟩;obtain⟨x',am,y,_,_,o',an,o3,Y⟩:=h.IZ d J K (by omega);have:=mR h.hn X am (e.trans y.symm);subst this;have:=nT h.sh.ids an (eU b) (o3.trans z.symm);rw[this] at Y;exact W Y) ae (λj=>by
  rw[P];constructor
  ·rintro⟨c,⟨E,x,k⟩,t⟩;exact⟨c,jb.2 ⟨ll.2 (by omega),jU ⟨E,k⟩⟩,t⟩
  ·rintro⟨c,n,t⟩;simp only[jb,ll,jh] at n;exact⟨c,⟨n.2.1,by omega,n.2.2⟩,t⟩) ag Q ak
 rw[u] at U;obtain⟨I,c2⟩:=U;rw[jL] at I;refine⟨I,λf o=>(C _ (fy.2 ⟨f,o,rfl⟩)).2,h.Rw J K hc P c2 λg m ao=> ?_⟩;rw[qH];refine⟨_,fy.2 ⟨g,jb.2 ⟨m,jU λhm=> ?_⟩,rfl⟩,rfl,rfl⟩;have:g.fQ∈order.reverse.filter (λj=>decide (j∉stay)):=by rw[<-I];refine fy.2 ⟨g.id,hm, ?_⟩;simp only[uE,oH h.sh.ids m]
 exact(by simpa using(jb.1 this).2:g.fQ∉stay) ao
end
end
theorem CV(a:List OV):a.map OV.id=(a.map OV.ob).map Ob.id:=by simp only[jL];rfl
section
open Go.RowKit Go.Maps
def TV(w:eI)(n:Nat)(D:DataW eS)(last:Int)(e:Ending)(w':eI):Prop:=∃pp mt lp m p s,e=fH (fw pp)/\eQ w' pp 87 #[fw lp,.map (some mt)]/\w'.ownsMap prog 3 rV mt 0 (.map [])/\
 eQ w' lp 91 #[fw p,.map (some m),eE 0,fz false,eE 0]/\w'.ownsMap prog 3 rV m 0 (.map [])/\
 it w' w p s []/\(s.rs=[]/\s.os=[]/\s.scope=[]/\s.gF=[]/\s.last=0/\s.inits=0/\s.D=D/\s.fn=n/\s.fl=last/\s.tl.iQ=[])/\(w.heap.size<=pp/\m<mt/\w.heap.size<=lp/\w.heap.size<=m)/\eF w w'
theorem Lu(d:eI)(B j p k:Nat)(l:DataW eS)(m:Int)(h:kg d B j p k l m):Calls prog 28 #[fw j,rR,fz false] d (TV d k l m):=by
 have H:= @run_makeMap prog;have g:=eF.alloc d (eN #[eW,eW] 55);have r:=eD (OP (d.alloc (eN #[eW,eW] 55)) B j p k l m (h.ch (CH.fg (B:=0) (L:=[]) (M:=[]) g) (by simp)));unfold rR at*;clear h;go_in;go_wp
 refine r.mono ?_;rintro e c ⟨n,y,z,A,rfl,s,t,u,C,I,v⟩;have D:=eD u;have o:=eD (And.intro s t);have w:=eD (g.trans v);have b:=eD (g.size);clear u v r g s t;go_wp2;go_ret;have E:=World.ownsMap_made c prog 3 rV;have i:=eF.alloc c (.map #[] 0);have f:=eF.alloc (c.alloc (.map #[] 0)) (eN #[fw n,.map (some c)] 87);have x:=eQ.new (c.alloc (.map #[] 0)) 87 #[fw n,.map (some c)];simp only[fM] at x;have J:=w.size;have K:=b.out;have N:=o.2.lt;have a:=(D.ext i).ext f;exact⟨_,_,n,y,z,A,rfl,x,f.lC E,f.eH (i.eH o.1),f.lC (i.lC o.2),⟨a.eH,eY b a.low,a.vH.mono b,a.rT.mono b,a.qb.mono b,fq a.row b,a.ints,λF G=>eY b (a.ku F G)⟩,C,⟨by omega,by omega,by omega,by omega⟩,(w.trans i).trans f⟩
def Py(w:eI)(SA:fE)(sn sc:Nat)(e:Ending)(w':eI):Prop:=∃wp pp mt lp m p s,e=fH (fw wp)/\eQ w' wp 83 #[fw pp,.slice SA sn sc,eE 0]/\eQ w' pp 87 #[fw lp,.map (some mt)]/\w'.ownsMap prog 3 rV mt 0 (.map [])/\
 eQ w' lp 91 #[fw p,.map (some m),eE 0,fz false,eE 0]/\w'.ownsMap prog 3 rV m 0 (.map [])/\
 it w' w p s []/\(s.rs=[]/\s.os=[]/\s.scope=[]/\s.gF=[]/\s.last=0/\s.inits=0/\s.D=zJ/\s.fn=1/\s.fl=0/\s.tl.iQ=[])/\(w.heap.size<=wp/\w.heap.size<=pp/\w.heap.size<=mt/\w.heap.size<=lp/\w.heap.size<=m)/\m≠mt/\eF w w'
theorem Fy(a:fE)(b c:Nat)(f:eI):Calls prog 9 #[fV #[.slice a b c,eW,eW,fz false]] f (Py f a b c):=by
 go_in;go_wp
 have j:=eQ.new f 57 #[.slice a b c,eW,eW,fz false];have w:=fM f (eN #[.slice a b c,eW,eW,fz false] 57);have D:=eF.alloc f (eN #[.slice a b c,eW,eW,fz false] 57);generalize f.alloc (eN #[.slice a b c,eW,eW,fz false] 57)=x at*;try rw[<-w]
 clear w;have r:=eD D;have E:=j.ew 0 (.slice a b c) rfl;have F:=j.ew 1 (eW) rfl;have G:=j.ew 2 (eW) rfl;have H:=j.ew 3 (fz false) rfl;refine xO [1,2,3,4,6,7] [0,5,8,9,10] 2 ?_;repeat(go_big_quiet_step (fail))
 refine eO ?_;clear E F G H j;have I:=eD (eF.drew x);generalize World.drew x=J at*;refine gH ?_;go_wp
 refine(MU J).mono ?_;rintro e K ⟨N,O,rfl,y,z⟩;have P:=eD y;have s:=eD (I.trans z);clear y z;go_wp2;refine⟨⟨⟨_,s⟩,rfl⟩, ?_⟩;refine gH ?_;have t:=eD (Lu K _ N O 1 zJ 0 P);unfold rR at t;go_wp
 refine t.mono ?_;rintro e Q ⟨A,mt,R,S,T,U,rfl,k,l,m,n,o,p,u,C⟩;have V:=eD (eY r.size s.size);have v:=eD (s.trans C);have W:=eD (And.intro k (And.intro l (And.intro m (And.intro n (And.intro o (And.intro p u))))));clear k l m n o p u C t;go_wp2;refine⟨⟨⟨_,v⟩,rfl⟩, ?_⟩;refine jm ?_;go_wp
 go_ret;obtain⟨k,l,m,n,o,p,u⟩:=W.out;have g:=V.out;have i:=eF.alloc Q (eN #[fw A,.slice a b c,eE 0] 83);have Z:=v.size;have h1:=r.size;have d:=o.ext i;exact⟨_,A,mt,R,S,T,U,rfl,eQ.new _ _ _,i.eH k,(CH.fg (B:=0) (L:=[]) (M:=[]) i).map l (by simp),i.eH m,(CH.fg (B:=0) (L:=[]) (M:=[]) i).map n (by simp),⟨d.eH,eY g d.low,d.vH.mono g,d.rT.mono g,d.qb.mono g,fq d.row g,d.ints,λX Y=>eY g (d.ku X Y)⟩,p,⟨by omega,by omega,by omega,by omega,by omega⟩,(by omega),(r.trans v).trans i⟩
def FI(w:eI)(D:DataW eS)(e:Ending)(w':eI):Prop:=∃(v:eS) (ss:fS),e=fH v/\ss.Perm (Go.intKeys D)/\w'.ownsRow w 3 1 v ss (ints (ss.mergeSort (λx y=>decide (x<=y))))/\eF w w'
theorem PR{mt:Nat}(a:z6 w n k mt m kK)(i:Maps.size kK<=10000):
 Calls prog 21 #[fw n] w (FI w kK):=by
 have j:=a.eH.ce 1 (.map (some mt));have d:=eD (λc (b:eF w c) q (l:eQ c q 85 #[.map (some mt)])=>E6 mt m q kK rV c (b.lD a.map) l i);clear a;go_in;go_wp2_with fail
 refine(K7 mt w).mono ?_;rintro e s ⟨rfl,rfl⟩;go_wp2_with fail
 refine(d _ (eF.alloc _ _) _ (eQ.new _ _ _)).mono ?_;rintro e o ⟨f,p,rfl,a,g,b⟩;have r:Hid (FI w kK (fH f) o):=eD ⟨f,p,rfl,a,fq g (by rw[fM];omega),(eF.alloc _ _).trans b⟩;clear a g b d j;go_wp2;go_ret;exact r
