/- TopOnce: part 8 of the proof. -/
import Derived.Shelf.SlMaps.Clone
import Derived.Test.YtoaehdgokeicoaaGreatDoorZ05
set_option maxRecDepth 100000
set_option maxHeartbeats 30000000
set_option linter.all false
namespace Go.Proofs.YtoaehdgokeicoaaGreatDoor
open K9 Z9 Go.Proofs.Tryz
section
variable{w v u W:eI}{n k m i j p b c d g N B K G M:Nat}{x y z:eS}{D E F:Int}{A C H I:fE}{l L J:fY}{r s t:fe}{f:ik}{a:Act}{kH:Program}{kK:DataW eS}
section
open Go.RowKit Go.Maps
def jj(k id:Int)(b e:jw):eS:=fV #[eE k,eE id,eV b,eV e]
def uB:eS:=jj 2 0 ByteArray.empty ByteArray.empty
def Up:eS:=jj 0 0 ByteArray.empty ByteArray.empty
theorem AL(a:eI):(zeroValue 203).run prog a=.ok Up a:=by kernel_rfl
theorem QM:Keyed prog 9:=string_keyed underlying9
theorem Ch(a:gh)(h:a.length<=4096):keyOf prog 9 (.string (fI a))=some (.string a):=by have:=Go.WideMaps.keyOf_string_mk (P:=prog) (k:=9) underlying9 (s:=fI a) (by rw[gV];unfold maxLen;omega);rwa [fU] at this
structure kg(w:eI)(B p b n:Nat)(D:DataW eS)(last:Int):Prop where
 eH:eQ w p 206 #[.map (some b),.int .i64 last]
 low:B<=p
 yn:B<=b
 map:w.ownsMap prog 9 rV b n D
 iO:n<=400
theorem kg.ext{w w':eI}{B p b n:Nat}{D:DataW eS}(h:kg w B p b n D E)(a:eF w w'):kg w' B p b n D E:=
 ⟨a.eH h.eH,h.low,h.yn,h.map.kept (row:=none) ⟨a.below.os,a.below.tape,a.below.output,a.size,λc d _=>a.below.block c d⟩ (by simp),h.iO⟩
theorem kg.ne{B p b n:Nat}{D:DataW eS}(h:kg w B p b n D E):p≠b:=by rintro rfl;have a:=h.eH;obtain⟨d,f,c,_⟩:=h.map;unfold eQ at a;rw[c] at a;cases a
theorem kg.look{B p:Nat}(h:kg w B p n k kK D){l:gh}{v:eS}(a:l.length<=4096)(b:At kK (.string l) v):
 (Instr.lookup 204 (.map (some n)) (.string (fI l)) true).run prog w=.ok (.tuple #[v,.bool true]) w/\(Instr.lookup 204 (.map (some n)) (.string (fI l)) false).run prog w=.ok v w:=
 sE h.map QM underlying204 (AL w) (Ch l a) b
theorem kg.none{w:eI}{B p b n:Nat}{D:DataW eS}(h:kg w B p b n D E){l:gh}(a:l.length<=4096)(c:No D (.string l)):
 (Instr.lookup 204 (.map (some b)) (.string (fI l)) true).run prog w=.ok (.tuple #[Up,.bool false]) w/\(Instr.lookup 204 (.map (some b)) (.string (fI l)) false).run prog w=.ok Up w:=
 uz h.map QM underlying204 (AL w) (Ch l a) c
def rI(ps:List gh)(k:Nat):gh:=if k=0 then[47] else ff (ps.take k)
theorem rJ:∀(d:List gh) (a:Nat),(hH (d.take a)).length<=(hH d).length
 |[],a=>by simp
 |[b],0=>by simp[hH]
 |[b],a+1=>by simp
 |b::q::c,0=>by simp[hH]
 |b::q::c,1=>by simp[hH]
 |b::q::c,a+2=>by have:=rJ (q::c) (a+1);simp only[xI,hH,fT,iw] at this ⊢;omega
theorem MS{b:List gh}(h:mL b){a:Nat}(k:a<b.length):DW (rI b a) b[a]=rI b (a+1):=by
 have l:=iz k;unfold rI DW;rw[fG (Nat.succ_ne_zero a),l];by_cases f:a=0
 ·subst f;simp[ff,hH]
 ·rw[fG f];have g:b.take a≠[]:=by intro e;have c:=congrArg List.length e;rw[ig,jH] at c;omega
  have m:ff (b.take a)≠[47]:=by
   intro e;have c:hH (b.take a)=[]:=by unfold ff at e;simpa using e
   match d:b.take a,g with
   |[j],_=>rw[d] at c;simp only[hH] at c;exact(h.low j (qT (i:=a) (by rw[d];simp))).2.2 c
   |j::q::n,_=>rw[d] at c;simp[hH] at c
  rw[fG m];unfold ff;rw[qv _ _ g];rfl
theorem Ij{a:List gh}(h:a≠[]):rI a a.length=ff a:=by have b:=Nat.ne_of_gt (pi.2 h);unfold rI;rw[fG b,iT]
theorem Ik(a:List gh)(b:Nat):(rI a b).length<=(hH a).length+1:=by
 have:=rJ a b;unfold rI ff;by_cases h:b=0
 ·rw[fW h];simp
 ·rw[fG h,iw];omega
inductive DX (D:DataW eS) (ps:List gh):Int->Prop
 |hit (v:eS) (k id:Int) (b e:jw) (hv:v=jj k id b e) (hk:k=1\/k=2) (h:At D (.string (ff ps)) v):DX D ps 0
 |Uq (h:No D (.string (ff ps))):DX D ps 31
theorem DY(X J f w:Nat)(x:DataW eS)(Y:Int)(a:List gh)(y:Int)(z:fE)(A:Nat)(Z:Bool)(k:eI)(h:kg k X J f w x Y)(o:mL a)(K:∀b,0<b->b<a.length->At x (.string (rI a b)) uB)(L:DX x a y)(p:Rd k z (iy a))(r:a.length<=A):
 Calls prog 83 #[.pointer (some ⟨J,0,none⟩),.slice z a.length A,.bool Z] k λe s=>e=.returned (.tuple #[.string (fI (ff a)),.int .i64 y])/\eF k s:=by
 have ad:=eD h;have l:=eD o;have HD:=eD K;have HR:=eD L;have HA:=eD p;have HC:=eD r;have ae:=h.eH.ce 0 (.map (some f));have aq:a.length<=191:=by have:=pZ a;have:=o.iO;omega
 have ar:=o.iO;clear h o K L p r;go_in;go_wp
 go_loopw [1,8,9] (λB af ag wr=>∃(b t:Nat) (u:fE),b<=a.length/\B=.slice u (a.length- b) t/\a.length- b<=t/\Rd wr u (iy (a.drop b))/\af=eV (fI (rI a b))/\ag=eE 0/\(b=a.length->y=0)/\eF k wr) (λB _ _ _=>match B with| .slice _ w _=>w|_=>0)
 case atStart=>exact⟨0,A,z,by omega,rfl,HC,HA,rfl,rfl,λe=>absurd (pi.2 l.rG) (by omega),eF.refl _⟩
 case round=>
  obtain⟨b,t,u,hk,rfl,ah,c,rfl,rfl,M,N⟩:=hrel;have g:=eD N;have ai:=eD c;have aj:=eD M;clear N c M;by_cases C:b<a.length
  ·obtain⟨i,D⟩:∃i,a.length- b=i+1:=⟨a.length- b- 1,by omega⟩;have O:=sN C;have c:=ai.out;rw[O] at c;have ak:Hid (∀f j,u=some (eJ f j)->Rd wr (some (eJ f (j+1))) (iy (a.drop (b+1)))):=eD λf j p E hi=>by obtain⟨b',au,F,r⟩:=c (E+1) (by simp only[iy,gW,iw] at hi ⊢;omega);rw[p] at F;simp only[fd,ny,gP] at F;obtain⟨rfl,rfl⟩:=F;refine⟨_,_,rfl, ?_⟩;rw[show j+1+E=j+(E+1) by omega,r];rfl
   obtain⟨av,j,rfl,al⟩:=c 0 (Nat.zero_lt_succ _);have P:(iy (a[b]::a.drop (b+1)))[0]'(Nat.zero_lt_succ _)=eV (fI a[b]):=rfl;rw[P,m5] at al;have Q:=l.low _ (eU C);have d:=JN (rI a b) a[b] wr (by have:=Ik a b;omega) (by omega);rw[MS l C] at d;have d:=eD d;have aw:((fI a[b]).toList==[46,46])=false:=by rw[gQ,fU];refine mn.2 λe=> ?_;have:=Q.1 46 (by rw[e];simp);simp at this
   generalize a[b]=q at*;have v:(rI a (b+1)).length<=4096:=by have:=Ik a (b+1);omega
   have G:=ad.ext g;have ax:=g.cell ae;have HM:=eD D;rw[D] at ah ⊢;clear P O Q c;have ay:i<=191:=by omega
   by_cases R:i=0
   ·subst R;have S:b+1=a.length:=by omega
    have H:rI a (b+1)=ff a:=by rw[S];exact Ij l.rG
    rw[H] at d v;have I:=eD H;have m:Hid (a.length- (b+1)=0):=eD (by omega);have am:Hid (iy (a.drop (b+1))=[]):=eD (by rw[tC (by omega)];rfl);clear S H D;rcases HR.out with⟨az,kd,id,bb,e,rfl,an,T⟩|U
    ·obtain⟨n,V⟩:=G.look v T;clear T;simp only[jj] at n;rcases an with rfl|rfl;all_goals
      go_wp2_with fail
      all_goals
       refine d.mono ?_;rintro e s ⟨rfl,rfl⟩;go_wp2;go_roundw
       case rel=>exact⟨b+1,_,_,by omega,by rw[m],by rw[m];exact eX _,by rw[am];exact Rd.nil _ _,by rw[I],rfl,λ_=>trivial,g.trans oP⟩
       case measure=>simp
    ·obtain⟨n,V⟩:=G.none v U;clear U;simp only[Up,jj] at n;go_wp2_with fail
     all_goals
      refine d.mono ?_;rintro e s ⟨rfl,rfl⟩;go_wp2;go_ret2
      exact⟨rfl,g.trans oP⟩
   ·have aA:t≠1:=by omega
    have W:=HD (b+1) (by omega) (by omega);obtain⟨n,V⟩:=G.look v W;clear W;simp only[uB,jj] at n;have aB:(0:Int)<i:=by omega
    have m:Hid (a.length- (b+1)=i):=eD (by omega);have ao:b+1<=a.length:=by omega
    have ap:Hid (b+1≠a.length):=eD (by omega);clear R;go_wp
    refine d.mono ?_;rintro e s ⟨rfl,rfl⟩;go_wp2;go_roundw
    case rel=>exact⟨b+1,_,_,ao,by rw[m],by rw[m];omega,oP.rd (ak _ _ rfl),rfl,rfl,λe=>absurd e ap,g.trans oP⟩
    case measure=>simp
  ·obtain rfl:b=a.length:=by omega
   have I:=eD (Ij l.rG);obtain rfl:=aj rfl;have hz:a.length- a.length=0:=by omega
   rw[hz];go_wp2;go_ret2
   exact⟨by rw[I];rfl,g⟩
section
structure Way(D:DataW eS)(ps:List gh):Prop where
 ok:mL ps
 Ur:∀k,0<k->k<ps.length->At D (.string (rI ps k)) uB
section
variable (B p b n:Nat) (D:DataW eS) (last:Int) (ps:List gh) (w:eI)
theorem xh(a:mL ps):(ff ps).length<=191:=by have:=a.iO;simp[ff];omega
theorem DZ(h:kg w B p b n D last)(d:Way D ps)(c id:Int)(i e:jw)(j:c=1\/c=2)(k:At D (.string (ff ps)) (jj c id i e)):
 Calls prog 58 #[.pointer (some ⟨p,0,none⟩),.string (fI (ff ps))] w λe l=>e=.returned (.tuple #[.string (fI (ff ps)),.int .i64 0])/\eF w l:=by
 have m:=eD (d.ok.parts w);have f:=eD d;have o:=eD h;have r:Hid (DX D ps 0):=eD (.hit _ c id i e rfl j k);have z:(fI (ff ps)).toList.isEmpty=false:=by rw[gQ,fU];rfl
 have A:0<(fI (ff ps)).size:=by rw[gV];simp[ff]
 have C:(fI (ff ps))[0]=47:=rfl;clear d h k j;go_in;go_wp
 refine m.mono ?_;rintro e s ⟨E,rfl,g,a⟩;obtain⟨F,t,rfl,_,_,u,_⟩:=jI g (pi.2 f.ok.rG);have v:=eD (DY B p b n D last ps 0 _ t true s (o.ext a) f.ok f.Ur r (Rd.fC g) u);have x:=eD a;clear g a;go_wp21
 refine v.mono ?_;rintro e G ⟨rfl,a⟩;have y:=eD (x.trans a);clear a;go_wp2;go_ret2
 exact⟨rfl,y⟩
def JP(w:eI)(l:gh)(v:eS)(e:Ending)(w':eI):Prop:=e=fH (ij #[eV (fI l),v,eE 0])/\eF w w'
theorem AN(h:kg w B p b n D last)(f:Way D ps)(k:Int)(M:k=0\/k=31)(y:DX D ps k)(g id:Int)(i e:jw)(z:∀o,kg o B p b n D last->(Instr.lookup 204 (.map (some b)) (eV (fI (ff ps))) false).run prog o=.ok (jj g id i e) o):
 Calls prog 54 #[fw p,eV (fI (ff ps))] w (JP w (ff ps) (jj g id i e)):=by
 have N:=eD (λw=>f.ok.parts w);have r:=eD f;have A:=eD h;have O:=eD y;have P:=eD z;have ad:(fI (ff ps)).toList.isEmpty=false:=by rw[gQ,fU];rfl
 have ae:0<(fI (ff ps)).size:=by rw[gV];simp[ff]
 have af:(fI (ff ps))[0]=47:=rfl;obtain⟨a,C⟩:∃a,ps.length=a+1:=⟨ps.length- 1,by have:=pi.2 f.ok.rG;omega⟩;have E:=f.ok.low (ps[a]'(by omega)) (eU _);have s:=eD C;have ag:((fI (ps[a]'(by omega))).toList==[46,46])=false:=by rw[gQ,fU];refine mn.2 λe=> ?_;have:=E.1 46 (by rw[e];simp);simp at this
 have F:Hid (∀h,(iy ps)[a]'h=eV (fI (ps[a]'(by omega)))):=eD (λ_=>by simp[iy]);generalize ps[a]'(by omega)=q at*;have ah:a<=191:=by have:=pZ ps;have:=f.ok.iO;omega
 clear f h y z E C;go_in;go_wp
 refine(N _).mono ?_;rintro e G ⟨v,rfl,l,c⟩;obtain⟨ai,Q,rfl,_,_,R,_⟩:=jI l (pi.2 r.ok.rG);have t:=(eF.alloc w (eN #[eE 0,eE 0,eV ByteArray.empty,eV ByteArray.empty] 203)).trans c;have m:=DY B p b n D last ps k _ Q false G (A.ext t) r.ok r.Ur O (Rd.fC l) R;rw[s] at m;have m:=eD m;obtain⟨b',aj,H,S⟩:=Rd.fC l a (by have:=s.out;simp[iy];omega);simp only[fd,ny,gP] at H;obtain⟨rfl,rfl⟩:=H;rw[F,lH] at S;have T:=eD t;have d:eQ G w 203 #[eE 0,eE 0,eV ByteArray.empty,eV ByteArray.empty]:=c.eH (eQ.new _ _ _);have U:=eD d;have I:=s.out;rw[I];clear l c t d I F;go_wp21
 refine m.mono ?_;rintro e u ⟨rfl,c⟩;have x:=T.trans c;have d:=c.eH U;have V:=eD x;have J:=eD (A.ext x);clear c x;rcases M with rfl|rfl;all_goals
  go_wp2;have W:=J.eH.ew 0 (.map (some b)) rfl;have X:=λY:EW u=>P _ (J.ext Y.ext);refine mY [0,1,2,3,4,5,6,7] [8,9] ?_;repeat(go_big_quiet_step (fail))
  refine eO ?_;have d:=(eF.drew u).eH d;clear W X;refine gI rfl 203 (.tmp 5) (.tmp 61) rfl w 0 rfl (jj g id i e) rfl [eE g,eE id,eV i,eV e] rfl d (by simp[Value.oneCell']) (by kernel_rfl) (by simp) ?_;intro w4 j K;have L:=(fi.grown K).ext (V.trans (eF.drew u));have Z:=eD L;have g0:=j.ce 0 (eE g);have g1:=j.ce 1 (eE id);have g2:=j.ce 2 (eV i);have g3:=j.ce 3 (eV e);clear d j K L;go_wp
  exact iA (v:=ij #[eV (fI (ff ps)),jj g id i e,eE 0]) (by simp[results,results54,go_sem,g0,g1,g2,g3,jj]) rfl ⟨rfl,Z⟩
def sF(w:eI)(B p b n:Nat)(D:DataW eS)(last:Int)(l:gh)(v:eS)(e:Ending)(w':eI):Prop:=
 e=.returned (.int .i64 0)/\kg w' B p b (n+1) (D.put (.string l) (.held v)) last/\CH B [] [p,b] w w'
theorem AO(d:gh)(a id:Int)(c e:jw)(h:kg w B p b n D last)(l:d.length<=4096)(m:No D (.string d))(I:n<400)(J:B<=w.heap.size):
 Calls prog 55 #[.pointer (some ⟨p,0,none⟩),.string (fI d),jj a id c e] w (sF w B p b n D last d (jj a id c e)):=by
 have K:=h.eH.lt;have u:=h.eH.ce 0 (.map (some b));have g:=eF.alloc w (eN #[eE a,eE id,eV c,eV e] 203);have i:=g.trans (eF.alloc _ (eN #[eE 0,eE 0,eV ByteArray.empty,eV ByteArray.empty] 203));obtain⟨o,v⟩:=(h.ext g).none l m;have x:=(h.ext i).map.len underlying204 3;have L:=(h.ext g).map.size_le;have r:=eD (h.ext i);have y:=eD i;simp only[Up,jj] at o ⊢;clear h m g i;go_in;go_wp
 have j:=eD ((eQ.new w 203 #[eE a,eE id,eV c,eV e]).alloc (eN #[eE 0,eE 0,eV ByteArray.empty,eV ByteArray.empty] 203));generalize(w.alloc (eN #[eE a,eE id,eV c,eV e] 203)).alloc (eN #[eE 0,eE 0,eV ByteArray.empty,eV ByteArray.empty] 203)=s at*;clear o v x u;have z:=r.eH.ew 0 (.map (some b)) rfl;have A:=j.out.ew 0 (eE a) rfl;have C:=j.out.ew 1 (eE id) rfl;have E:=j.out.ew 2 (eV c) rfl;have F:=j.out.ew 3 (eV e) rfl;refine mY [0,1,2,3,4,5] [6] ?_;repeat(go_big_quiet_step (fail))
 refine eO ?_;clear z A C E F;have f:=r.ext (eF.drew s);refine wpList_mapUpdate_own _ rfl (.tmp 31) (.tmp 32) (.tmp 33) 204 rfl 9 203 QM underlying204 rV b n D rfl f.map (by unfold maxLen;omega) (.string (fI d)) (jj a id c e) (.string d) rfl rfl (Ch d l) (.held (jj a id c e)) [] rfl ?_;intro G t k;have H:Hid (sF w B p b n D last d (jj a id c e) (fH (eE 0)) G):=eD ⟨rfl,⟨f.eH.grown k (λe=>f.ne (mj e)),f.low,f.yn,t,by omega⟩,
  (CH.fg (y.out.trans (eF.drew s))).trans (M':=[b]) (CH.mM k f.yn (gM ..)) (by simp)⟩
 clear t k f;go_wp
 go_ret;exact H
theorem JQ(h:kg w B p b n D last)(c:Way D ps)(a:No D (.string (ff ps)))(j:n<400)(k:B<=w.heap.size):
 Calls prog 31 #[.pointer (some ⟨p,0,none⟩),.string (fI (ff ps))] w (sF w B p b n D last (ff ps) uB):=by
 have x:=xh ps c.ok;have l:=eD (AN B p b n D last ps w h c 31 (.inr rfl) (.Uq a) 0 0 ByteArray.empty ByteArray.empty (λy m=>(m.none (by omega) a).2));have o:=eD h;have r:=eD a;clear h c a;go_in;go_wp
 refine l.mono ?_;rintro e s ⟨rfl,f⟩;have d:=eD (f.trans (eF.alloc s (eN #[eE 0,eE 0,eV ByteArray.empty,eV ByteArray.empty] 203)));simp only[jj];clear f;go_wp
 have t:=eD (AO B p b n D last _ (ff ps) 2 0 ByteArray.empty ByteArray.empty (o.ext d) (by omega) r j (eY k d.size));refine t.mono ?_;rintro e u ⟨rfl,g,i⟩;have v:Hid (sF w B p b n D last (ff ps) uB (fH (eE 0)) u):=eD ⟨rfl,g,(CH.fg d).trans i (by simp)⟩;clear g i;go_wp2;go_ret;exact v
end
end
section
section
variable (B p b n:Nat) (D:DataW eS) (last:Int) (ps:List gh) (w:eI)
def xi(w:eI)(B p b n:Nat)(D:DataW eS)(last:Int)(l bs:gh)(e:Ending)(w':eI):Prop:=
 e=.returned (.int .i64 0)/\kg w' B p b (n+1) (D.put (.string l) (.held (jj 1 (last+1) (fI bs) ByteArray.empty))) (last+1)/\CH B [] [p,b] w w'
theorem QO(h:kg w B p b n D last)(k:Way D ps)(f:No D (.string (ff ps)))(x:n<400)(y:B<=w.heap.size)(l:fE)(m:Nat)(a:gh)(o:Rd w l (jl a))(L:a.length<=1048576)(M:0<=last)(N:last<=1000):
 Calls prog 33 #[.pointer (some ⟨p,0,none⟩),.string (fI (ff ps)),.slice l a.length m] w (xi w B p b n D last (ff ps) a):=by
 have O:=xh ps k.ok;have z:=eD (AN B p b n D last ps w h k 31 (.inr rfl) (.Uq f) 0 0 ByteArray.empty ByteArray.empty (λP A=>(A.none (by omega) f).2));have C:=eD h;have E:=eD f;have F:=eD o;clear h k f o;go_in;go_wp
 refine z.mono ?_;rintro e r ⟨rfl,s⟩;simp only[jj];go_wp
 have g:=eD (s.trans (eF.alloc r (eN #[eE 0,eE 0,eV ByteArray.empty,eV ByteArray.empty] 203)));generalize r.alloc (eN #[eE 0,eE 0,eV ByteArray.empty,eV ByteArray.empty] 203)=d at*;clear s;have t:=eD (C.ext g);have G:=t.eH.ew 1 (eE last) rfl;have H:∀i:EW d,(convert 61 9 (.slice l a m)).run prog i.w=.ok (eV (fI a)) i.w:=λi=>tG _ _ _ _ ((g.trans i.ext).rd F);refine mY [0,1,2,3,4,5,6,7,8,9] [10,11] ?_;repeat(go_big_quiet_step (fail))
 refine eO ?_;clear G H;have I:=eD (AO B p b n D last d.drew (ff ps) 1 (last+1) (fI a) ByteArray.empty (t.ext (eF.drew d)) (by omega) E x (eY y (g.trans (eF.drew d)).size));go_wp
 refine I.mono ?_;rintro e u ⟨rfl,j,v⟩;have c:=eD j;have J:Hid (CH B [] [p,b] w u):=eD ((CH.fg (g.trans (eF.drew d))).trans v (by simp));have Q:=j.eH.ce 1 (eE last);have f1:=j.eH.frozen 1;clear j v;go_wp2;have K:Hid (xi w B p b n D last (ff ps) a (fH (eE 0)) (u.setCell (eJ p 1) (eE (last+1)))):=eD ⟨rfl,⟨by simpa using c.eH.set 1 (eE (last+1)),c.low,c.yn,c.map.setCell (by simpa using c.ne.symm) _,c.iO⟩,
  J.out.trans (M':=[p]) (CH.uq c.out.low (by simp)) (by simp)⟩
 go_ret;exact K
def MT(w:eI)(v:eS)(e:Ending)(w':eI):Prop:=e=fH (ij #[v,eE 0])/\eF w w'
theorem D2(h:kg w B p b n D last)(f:Way D ps)(id:Int)(a e:jw)(g:At D (.string (ff ps)) (jj 1 id a e)):
 Calls prog 351 #[.pointer (some ⟨p,0,none⟩),.string (fI (ff ps))] w (MT w (jj 1 id a e)):=by
 have J:=xh ps f.ok;have i:=eF.alloc w (eN #[eE 0,eE 0,eV ByteArray.empty,eV ByteArray.empty] 203);have c:=eQ.new w 203 #[eE 0,eE 0,eV ByteArray.empty,eV ByteArray.empty];have s:=eD (DZ B p b n D last ps _ (h.ext i) f 1 id a e (.inl rfl) g);have t:=eD i;have u:=eD h;have x:=eD g;have y:=eD c;clear f h g i c;go_in;go_wp
 refine s.mono ?_;rintro K L ⟨rfl,j⟩;have k:=t.trans j;have l:=u.ext k;have c:=j.eH y;obtain⟨z,o⟩:=l.look (by omega) x;have A:=l.eH.ce 0 (.map (some b));have C:=eD k;have M:∀m:eI,(Instr.field 203 (fV #[eE 1,eE id,eV a,eV e]) 0).run prog m=.ok (eE 1) m:=λm=>by kernel_rfl
 clear j k l;simp only[jj] at o;go_wp2_with (refine gI rfl 203 (.tmp 4) (.tmp 32) rfl w 0 rfl (jj 1 id a e) rfl [eE 1,eE id,eV a,eV e] rfl c (by simp[Value.oneCell']) (by kernel_rfl) (by simp) ?_)
 intro N d r;have E:=eD ((fi.grown r).ext C);have F:=d.ce 0 (eE 1);have G:=d.ce 1 (eE id);have H:=d.ce 2 (eV a);have I:=d.ce 3 (eV e);clear c d r z o A;go_wp
 exact iA (v:=ij #[jj 1 id a e,eE 0]) (by simp[results,results351,go_sem,F,G,H,I,jj]) rfl ⟨rfl,E⟩
def D3(w:eI)(bs:gh)(e:Ending)(w':eI):Prop:=∃g c,e=fH (ij #[fN g bs c,eE 0])/\Rd w' (some (eJ g 0)) (jl bs)/\eF w w'
theorem JR(h:kg w B p b n D last)(d:Way D ps)(id:Int)(a:gh)(e:jw)(f:At D (.string (ff ps)) (jj 1 id (fI a) e)):
 Calls prog 315 #[.pointer (some ⟨p,0,none⟩),.string (fI (ff ps))] w (D3 w a):=by
 have o:=eD (D2 B p b n D last ps w h d id (fI a) e f);clear h d f;go_in;go_wp
 refine o.mono ?_;rintro t g ⟨rfl,i⟩;simp only[jj];obtain⟨j,r,k,l,m,c⟩:=rF (g.alloc (eN #[eE 1,eE id,eV (fI a),eV e] 203)) (fI a);simp only[fM] at k m c;have s:Hid (D3 w a (fH (ij #[fN (g.heap.size+1) a j,eE 0])) r):=eD ⟨_,j,rfl,by rwa [gC,fU] at c,(i.trans oP).trans l⟩;rw[gV] at k;clear i l m c;go_wp
 go_ret2
 exact s
theorem JS(h:kg w B p b n D last)(a:Way D ps)(id:Int)(c e:jw)(d:At D (.string (ff ps)) (jj 1 id c e)):
 Calls prog 350 #[.pointer (some ⟨p,0,none⟩),.string (fI (ff ps))] w λe g=>e=.returned (.tuple #[.int .i64 id,.int .i64 0])/\eF w g:=by
 have i:=eD (D2 B p b n D last ps w h a id c e d);clear h a d;go_in;go_wp
 refine i.mono ?_;rintro k l ⟨rfl,f⟩;simp only[jj];have j:=eD f;clear f;go_wp
 go_ret2
 exact⟨rfl,j.trans oP⟩
end
end
theorem D4(b:eS->Option (DataW eS×List MemPlace))(c d:Nat)(f:DataW eS)(a:eI)(h:a.ownsMap prog 9 b c d f):
 Calls prog 217 #[.map (some c)] a λe g=>e=fH (.map (some a))/\g.ownsMap prog 9 b a d f/\eF a g/\g.heap.size=a.heap.size+1:=by
 obtain⟨i,j,k,l,m,n⟩:=h;have r:=λa=>run_eql_map_nil_sl (P:=prog) a 204 _ _ (some c) underlying204;have o:Hid ((a.alloc (.map i j)).ownsMap prog 9 b a d f):=eD ⟨i,j,(Il a _).1,l,m,n⟩;have p:=eD k;clear k l m n;go_in;go_wp
 rw[run_callFunc_extern func295 (by kernel_rfl) (by kernel_rfl) (by kernel_rfl) (e:=Extern.MapsClone.clone) (by kernel_rfl),run_maps_clone_sl a 204 p];simp only[Result.andThen];rw[td];go_wp
 rw[run_typeAssert_map_sl _ 204 20 _ _ _ underlying204];simp only[Result.andThen];rw[td];go_wp
 go_ret;exact⟨rfl,o,eF.alloc _ _,by simp⟩
theorem Gp(b:eS->Option (DataW eS×List MemPlace))(c d:Nat)(f:DataW eS)(a:eI)(h:a.ownsMap prog 3 b c d f):
 Calls prog 310 #[.map (some c)] a λe g=>e=fH (.map (some a))/\g.ownsMap prog 3 b a d f/\eF a g/\g.heap.size=a.heap.size+1:=by
 obtain⟨i,j,k,l,m,n⟩:=h;have r:=λa=>run_eql_map_nil_sl (P:=prog) a 189 _ _ (some c) underlying189;have o:Hid ((a.alloc (.map i j)).ownsMap prog 3 b a d f):=eD ⟨i,j,(Il a _).1,l,m,n⟩;have p:=eD k;clear k l m n;go_in;go_wp
 rw[run_callFunc_extern func295 (by kernel_rfl) (by kernel_rfl) (by kernel_rfl) (e:=Extern.MapsClone.clone) (by kernel_rfl),run_maps_clone_sl a 189 p];simp only[Result.andThen];rw[td];go_wp
 rw[run_typeAssert_map_sl _ 189 20 _ _ _ underlying189];simp only[Result.andThen];rw[td];go_wp
 go_ret;exact⟨rfl,o,eF.alloc _ _,by simp⟩
theorem Gq(b:eS->Option (DataW eS×List MemPlace))(c d:Nat)(f:DataW eS)(a:eI)(h:a.ownsMap prog 3 b c d f):
 Calls prog 311 #[.map (some c)] a λe g=>e=fH (.map (some a))/\g.ownsMap prog 3 b a d f/\eF a g/\g.heap.size=a.heap.size+1:=by
 obtain⟨i,j,k,l,m,n⟩:=h;have r:=λa=>run_eql_map_nil_sl (P:=prog) a 190 _ _ (some c) underlying190;have o:Hid ((a.alloc (.map i j)).ownsMap prog 3 b a d f):=eD ⟨i,j,(Il a _).1,l,m,n⟩;have p:=eD k;clear k l m n;go_in;go_wp
 rw[run_callFunc_extern func295 (by kernel_rfl) (by kernel_rfl) (by kernel_rfl) (e:=Extern.MapsClone.clone) (by kernel_rfl),run_maps_clone_sl a 190 p];simp only[Result.andThen];rw[td];go_wp
 rw[run_typeAssert_map_sl _ 190 20 _ _ _ underlying190];simp only[Result.andThen];rw[td];go_wp
 go_ret;exact⟨rfl,o,eF.alloc _ _,by simp⟩
theorem Gr(b:eS->Option (DataW eS×List MemPlace))(c d:Nat)(f:DataW eS)(a:eI)(h:a.ownsMap prog 3 b c d f):
 Calls prog 312 #[.map (some c)] a λe g=>e=fH (.map (some a))/\g.ownsMap prog 3 b a d f/\eF a g/\g.heap.size=a.heap.size+1:=by
 obtain⟨i,j,k,l,m,n⟩:=h;have r:=λa=>run_eql_map_nil_sl (P:=prog) a 185 _ _ (some c) underlying185;have o:Hid ((a.alloc (.map i j)).ownsMap prog 3 b a d f):=eD ⟨i,j,(Il a _).1,l,m,n⟩;have p:=eD k;clear k l m n;go_in;go_wp
 rw[run_callFunc_extern func295 (by kernel_rfl) (by kernel_rfl) (by kernel_rfl) (e:=Extern.MapsClone.clone) (by kernel_rfl),run_maps_clone_sl a 185 p];simp only[Result.andThen];rw[td];go_wp
 rw[run_typeAssert_map_sl _ 185 20 _ _ _ underlying185];simp only[Result.andThen];rw[td];go_wp
 go_ret;exact⟨rfl,o,eF.alloc _ _,by simp⟩
theorem jV{g:Type}(i:eI){l:Array Oper}{rest:List Oper}{d:Oper}{a:Act}{m:Exit->Act->eI->Prop}(w:d.guard=none)(n o p:Operand)(r:ik)(x:d.op=Op.insert r n o p)(b e:ik)(y:Keyed kH b)(z:kH.underlying r=some (.map b e))(j:eS->Option (DataW g×List MemPlace))(f k:Nat)(s:DataW g)(A:a.eval n=.map (some f))(B:i.ownsMap kH b j f k s)(C:k<maxLen)(key t:eS)(u:Lit)(D:a.eval o=key)(E:a.eval p=t)(F:keyOf kH b key=some u)(v:DataW g)(G:List MemPlace)(H:j t=some (v,G))(I:∀c,c.ownsMap kH b j f (k+1) (s.put u v)->i.grownBy c (some f)->wpList kH l m rest (a.put d.dst undef) c):
 wpList kH l m (d::rest) a i:=by refine ul w λN J=> ?_;obtain⟨c,K,L,M⟩:=B.update y z C F H;unfold Oper.wp;simp[execOp,x,A,D,E,K,Result.andThen];exact J _ _ (I c L M)
def zJ:DataW eS:=(DataW.map []).put (.string [47]) (.held uB)
def Sf(w:eI)(e:Ending)(w':eI):Prop:=∃p b,e=fH (fw p)/\kg w' w p b 1 zJ 0/\eF w w'
theorem MU(a:eI):Calls prog 29 #[] a (Sf a):=by
 have g:= @run_makeMap prog;go_in;go_wp2_with (refine jV _ rfl (.tmp 1) (.const (eV ⟨#[47]⟩)) (.tmp 2) 204 rfl 9 203 QM underlying204 rV a 0 (.map []) rfl (World.ownsMap_made _ _ _ _) (by unfold maxLen;omega) (eV (fI [47])) uB (.string [47]) rfl rfl (Ch [47] (by simp)) (.held uB) [] rfl ?_)
 intro c d f;have b:=(fi.grown f).ext (eF.alloc a _);have i:Hid (Sf a (fH (fw c)) (c.alloc (eN #[.map (some a),eE 0] 206))):=eD
  ⟨_,_,rfl,⟨eQ.new _ _ _,b.size,fJ _,d.alloc _,by omega⟩,b.trans (eF.alloc _ _)⟩
 clear d f b g;go_wp
 go_ret;exact i
def Ta(w:eI)(n:Nat)(D:DataW eS)(last:Int)(e:Ending)(w':eI):Prop:=∃p b,e=fH (fw p)/\kg w' w p b n D last/\eF w w'
theorem AP(l p c d:Nat)(f:DataW eS)(g:Int)(a:eI)(h:kg a l p c d f g):Calls prog 143 #[fw p] a (Ta a d f g):=by
 have b:=eD h;clear h;go_in;go_wp
 have m:=b.eH.ew 0 (.map (some c)) rfl;have n:=b.eH.ew 1 (eE g) rfl;refine mD [0,1,2,3,5,6,7,8] [4,9,10,11] (λo=>∃r:EW a,o=r.w) (by kernel_rfl) (by kernel_rfl) (by decide) (by simp[gj];rfl) (by simp[gj];exact⟨rfl,rfl⟩) ⟨⟨_,eF.drew a⟩,rfl⟩ ?_;repeat(go_big_quiet_step (fail))
 refine eO ?_;clear m n;have s:=eD (D4 rV c d f a.drew (b.ext (eF.drew a)).map);go_wp
 refine s.mono ?_;rintro e t ⟨rfl,j,k,u⟩;have i:=eD ((eF.drew a).trans k);have v:=eD j;clear j k u;go_wp2;refine⟨⟨⟨t,i⟩,rfl⟩, ?_⟩;go_wp
 go_ret;exact⟨_,_,rfl,⟨eQ.new _ _ _,by have:=i.size;omega,by simp,v.alloc _,b.iO⟩,i.trans oP⟩
end
section
open Go.RowKit
structure rQ(w1 w:eI)(b:Nat)(v:eS)(n:Nat)(xs:fY):Prop where
 lS:fi (λk=>k=b) w1 w
 eH:eQ w b 47 #[v]
 own:w.ownsRow w1 9 1 v n xs
 lt:b<w1.heap.size
theorem rQ.ext{w1 w w':eI}{b n:Nat}{v:eS}{xs:fY}(h:rQ w1 w b v n xs)(a:eF w w'):rQ w1 w' b v n xs:=
 ⟨h.lS.trans (fi.fg (S:=λc=>c=b) a) (λf d=>.inl d),a.eH h.eH,a.own h.own,h.lt⟩
theorem rQ.put{w:eI}{b n:Nat}{v:eS}{xs:fY}(h:rQ u w b v n xs)(g:W.ownsRow u 9 1 x k l)(c:w.grownBy W v.ownBlock):rQ u (W.setCell (eJ b 0) x) b x k l:=by
 have i:some b≠v.ownBlock:=λe=>by have:=(h.own.lt b e.symm).1;have:=h.lt;omega
 have d:=h.eH.grown c i;refine⟨(h.lS.trans (fi.grown c) (λf a=>.inr (h.own.lt f a.symm).1)).trans (fi.set W b 0 x) (λf a=>.inl a),by simpa using d.set 0 x,il g d (by decide) _,h.lt⟩
def oW(nm:gh)(qs:List (List gh)):List gh:=qs.map λq=>ff (q++[nm])
def Ee(w1:eI)(b n:Nat)(xs:fY)(out:List gh)(e:Ending)(w':eI):Prop:=e=fH (ij #[])/\∃v',rQ w1 w' b v' (n+out.length) (xs++iy out)
theorem J4(q:List gh)(a:gh)(h:q≠[]):ff q++47::a=ff (q++[a]):=by unfold ff;rw[qv a q h];rfl
theorem AW{q:List gh}(h:∀a∈q,tY a):(36:UInt8)∉ff q:=by
 have d:∀q:List gh,(∀a∈q,tY a)->(36:UInt8)∉hH q:=by
  intro q;induction q with
  |nil=>intro _;simp[hH]
  |cons b f g=>
   intro h;have c:(36:UInt8)∉b:=λi=>by have:=h b (by simp) 36 i;simp at this
   cases f with
   |nil=>simpa[hH] using c
   |cons k l=>have:=g (λa j=>h a (gD _ j));simp only[hH,gu,fm,wJ] at this ⊢;exact⟨c,by decide,this⟩
 unfold ff;simp only[fm,wJ];exact⟨by decide,d q h⟩
theorem yA(i n:eI)(C D d j:Nat)(E:jw)(b:gh)(g:eS)(o:fY)(p:fE)(ad:Nat)(a:List (List gh))(h:rQ i n d g j o)(Q:eQ i C 9 #[eV (fI b)])(R:eQ i D 9 #[eV E])(ae:C≠d)(af:D≠d)(S:∀q∈a,mL (q++[b])/\q≠[])(T:Rd n p (iy (a.map ff)))(U:∀f k,p=some (eJ f k)->g.ownBlock≠some f/\f≠d)(hl:a.length<=10)(hn:j<=100):
 Calls prog 375 #[.slice p a ad,fw D,fw C,fw d] n (Ee i d j o (oW b a)):=by
 obtain⟨i0,ag,ah,ai,aj⟩:=info_parts DR;have ak:=eD h;have H4:=eD Q;have H5:=eD R;have HQ:=eD S;have HA:=eD T;have F:=eD U;clear h Q R S T U;go_in;go_wp
 go_loopw [13] (λG wr=>∃c:Nat,c<=a.length/\G=eE c/\∃g,rQ i wr d g (j+c) (o++iy (oW b (a.take c)))/\Rd wr p (iy (a.map ff))/\∀f k,p=some (eJ f k)->g.ownBlock≠some f/\f≠d) (λG _=>a.length- (intOf G).toNat)
 case atStart=>exact⟨0,by omega,rfl,g,by simpa[oW,iy] using ak.out,HA.out,F.out⟩
 case round=>
  obtain⟨c,hk,rfl,g,r,v,H⟩:=hrel;have V:=eD r;have al:=eD v;have F:=eD H;by_cases w:c<a.length
  ·obtain⟨x,I,rfl,W⟩:=v c (by simpa[iy] using w);have X:(iy (a.map ff))[c]'(by simpa[iy] using w)=eV (fI (ff a[c])):=by simp[iy]
   rw[X] at W;have s:=HQ _ (eU w);have am:=eD (iz w);generalize a[c]=q at*;have ap:=s.1.iO;have J:=J4 q b s.2;have aq:(ff q).length+b.length<=190:=by have:=congrArg List.length J;simp[ff] at this ⊢;omega
   have Y:=(r.lS.eH H4 ae).ce 0 (eV (fI b));have c5:=(r.lS.eH H5 af).ce 0 (eV E);have HE:=eD (yr (ff q) E wr (by simp[ff]) (by omega) (AW λan hp=>(s.1.low an (by simp[hp])).1));have ao:=eD (λn=>vB (q++[b]) n s.1);have HJ:Hid (fI (ff q)++⟨#[47]⟩++fI b=fI (ff (q++[b]))):=eD (by rw[pq,pq,fU,fU,fU,<-J];simp);have ar:(fI (ff q)).size<=190:=by rw[gV];omega
   have au:(fI (ff q)++⟨#[47]⟩).size<=191:=by rw[pq,gV];simp[fU];omega
   have av:(fI b).size<=190:=by rw[gV];omega
   clear r v H X s J;go_wp
   refine HE.mono ?_;rintro e w2 ⟨rfl,m⟩;have HX:=eD m;have Y:=m.cell Y;clear m;go_wp21
   rw[HJ];refine(ao _).mono ?_;rintro e t ⟨rfl,m⟩;have K:=eD (HX.trans m);have y:=V.ext K;have cb:=y.eH.ce 0 g;obtain⟨Av,cv,rfl⟩:=eR y.own;have L:=eD y;clear m y;go_wp2_with (at_builtin;go_loud(refine fB rfl _ _ 47 rfl i 9 i0 _ 1 16 underlying47 ag ah ai aj rfl (by omega) _ (j+c) _ rfl (oP.own L.own) (some (eJ t 0)) 1 [eV (fI (ff (q++[b])))] 1 rfl rfl (ip t #[eV (fI (ff (q++[b])))] _) (by simp[Value.oneCell']) (by unfold maxLen;omega) (by omega) (by have:=L.lS.size;simp;omega) ?_))
   intro z M N A Z;have u:=(L.ext (eF.alloc t (eN #[eV (fI (ff (q++[b])))] 9)));have O:=u.eH.grown A (λe=>by have h1:=(u.own.lt d e.symm).1;have:=u.lt;omega);have P:Hid (∃g,rQ i (M.setCell ⟨d,0,none⟩ z) d g (j+(c+1)) (o++iy (oW b (a.take (c+1))))/\Rd (M.setCell ⟨d,0,none⟩ z) (some ⟨x,I,none⟩) (iy (a.map ff))/\∀f k,some (⟨x,I,none⟩:Addr)=some ⟨f,k,none⟩->g.ownBlock≠some f/\f≠d):=eD (by
    have aw:x<t.heap.size:=by have:=js W;have:=K.size;omega
    have B:=F x I rfl;refine⟨z, ?_, ?_,λf k e=> ?_⟩
    ·have:=u.put N A;rw[am];simpa[oW,iy,qX] using this
    ·have h1:=(eF.alloc t (eN #[eV (fI (ff (q++[b])))] 9)).rd (K.rd al);have h2:=(fi.grown A).rd h1 (λf k e l=>by simp only[fd,ny,gP] at e;rw[<-e.1] at l;exact B.1 l.symm)
     exact(fi.set M d 0 z).rd h2 (λf k e l=>by simp only[fd,ny,gP] at e;rw[<-e.1] at l;exact B.2 l)
    ·simp only[fd,ny,gP] at e;obtain⟨rfl,rfl⟩:=e;refine⟨?_,B.2⟩;rcases Z with e|e
     ·rw[e];exact B.1
     ·rw[e];intro l;simp at l;omega)
   have ax:=O.ce 0 (.slice Av (j+c) cv);have ay:=O.frozen 0;obtain⟨A9,c9,rfl⟩:=eR N;clear N A u O Z;go_wp
   go_roundw
   case rel=>exact⟨c+1,by omega,by go_num,P⟩
   case measure=>simp[intOf];omega
  ·obtain rfl:c=a.length:=by omega
   have P:Hid (Ee i d j o (oW b a) (fH (ij #[])) wr):=eD ⟨rfl,g,by
    have:=V.out;rw[iT] at this;have e:(oW b a).length=a.length:=by simp[oW]
    rwa [e]⟩
   clear r v H;go_wp
   go_end0
   exact P
theorem yB(a:gh)(c:eI)(b:a≠[])(d:a.length<=200):Calls prog 372 #[eV (fI a)] c λe f=>e=fH (eE 0)/\c=f:=by
 have g:(fI a).toList.isEmpty=false:=by
  rw[gQ,fU];cases a with
  |nil=>exact absurd rfl b
  |cons i j=>rfl
 have k:¬(fI a).toList=[]:=by rw[gQ,fU];exact b
 have l:(fI a).size<=200:=by rw[gV];exact d
 clear b;go_in;go_wp
 go_ret;exact⟨rfl,rfl⟩
def rR:eS:=fV #[eW,eW]
theorem Gv(b:jw)(a:eI):Calls prog 376 #[rR,eV b] a λe c=>e=fH (ij #[eV ByteArray.empty,fz false])/\eF a c:=by
 unfold rR;go_in;go_wp
 go_loop [11] (λd=>d=eE 0) (λ_=>0)
 case atStart=>exact rfl
 case round=>
  subst hrel;go_wp2;go_ret2
  exact⟨rfl,eF.alloc _ _⟩
def uF(w:eI)(out:List gh)(e:Ending)(w':eI):Prop:=∃v',e=fH (ij #[v',eE 0])/\w'.ownsRow w 9 1 v' out (iy out)/\eF w w'
theorem yC(a:List gh):(0:Int)<=Lib.indexByte (ff a) 47:=by simp[ff,Lib.indexByte]
theorem J5(a:List gh)(c:jw)(m:fE)(n:Nat)(b:eI)(f:mL a):
 Calls prog 349 #[eV (fI (ff a)),eV c,.slice m 0 n,rR] b (uF b [ff a]):=by
 have y:=xh a f;have o:=eD (λb=>yB (ff a) b (by simp[ff]) (by omega));have g:=λb=>oy (fI (ff a)) 47 b;rw[fU,jU (yC a)] at g;have g:=eD g;have p:=eD (λb=>yr (ff a) c b (by simp[ff]) (by omega) (AW λr s=>(f.low r s).1));have t:=eD (λb=>vB a b f);have j:eF b (((b.alloc (eN #[eV (fI (ff a))] 9)).alloc (eN #[eV c] 9)).alloc (eN #[eW,eW] 55)):=(oP.trans oP).trans oP;have k:=((eQ.new b 9 #[eV (fI (ff a))]).alloc (eN #[eV c] 9)).alloc (eN #[eW,eW] 55);have i:=(eQ.new (b.alloc (eN #[eV (fI (ff a))] 9)) 9 #[eV c]).alloc (eN #[eW,eW] 55);rw[fM] at i;clear f;unfold rR;go_in;go_wp
 refine(o _).mono ?_;rintro e u ⟨rfl,rfl⟩;have v:=eD j;have z:=k.ce 0 (eV (fI (ff a)));have A:=i.ce 0 (eV c);clear j k i;generalize((b.alloc (eN #[eV (fI (ff a))] 9)).alloc (eN #[eV c] 9)).alloc (eN #[eW,eW] 55)=B at*;go_wp21
 refine(g _).mono ?_;rintro e u ⟨rfl,rfl⟩;go_wp21
 refine(p _).mono ?_;rintro e C ⟨rfl,d⟩;have w:=eD (v.trans d);clear d;go_wp21
 refine(t _).mono ?_;rintro e x ⟨rfl,d⟩;have l:=eD (w.trans d);clear d;go_wp2;go_ret2
 refine⟨_,rfl, ?_,l.trans oP⟩;exact AI x #[eV (fI (ff a))] 1 l.size (by unfold maxLen;omega) rfl
def qz:List gh:=[[108,105,98]]
def Ef:List gh:=[[117,115,114],[108,105,98]]
theorem Iy(b:gh)(d:tY b)(f:b.length<=64)(g:b≠[]):mL (qz++[b])/\mL (Ef++[b]):=by
 refine⟨⟨λj c=> ?_,by simp, ?_⟩,⟨λj c=> ?_,by simp, ?_⟩⟩
 ·simp[qz] at c;rcases c with rfl|rfl
  ·exact⟨λi a=>by simp at a;rcases a with rfl|rfl|rfl<;>decide,by decide,by decide⟩
  ·exact⟨d,f,g⟩
 ·simp[qz,hH];omega
 ·simp[Ef] at c;rcases c with rfl|rfl|rfl
  ·exact⟨λi a=>by simp at a;rcases a with rfl|rfl|rfl<;>decide,by decide,by decide⟩
  ·exact⟨λi a=>by simp at a;rcases a with rfl|rfl|rfl<;>decide,by decide,by decide⟩
  ·exact⟨d,f,g⟩
 ·simp[Ef,hH];omega
theorem QW{e:ik}{size:Nat}(h:w.ownsRow n e size x k l)(a b:Nat)(c:some ((eJ w 0):Addr)=some (eJ a b)):x.ownBlock≠some a:=λe=>by have:=(h.lt a e).2;simp only[fd,ny,gP] at c;omega
theorem Nd(b:gh)(d:jw)(m:fE)(x:Nat)(a:eI)(n:tY b)(y:b.length<=64)(o:b≠[])(z:∀f g,m=some (eJ f g)->f<a.heap.size):
 Calls prog 349 #[eV (fI b),eV d,.slice m 0 x,rR] a (uF a [ff (qz++[b]),ff (Ef++[b])]):=by
 have A:=Iy b n y o;have O:=eD (λa=>yB b a o (by omega));have j:=λa=>oy (fI b) 47 a;rw[fU,pF _ _ n.MR] at j;have j:=eD j;have P:=eD (λa=>Gv (fI b) a);have B:eF a ((((a.alloc (eN #[eV (fI b)] 9)).alloc (eN #[eV d] 9)).alloc (eN #[eW,eW] 55)).alloc (eN #[eW] 47)):=((oP.trans oP).trans oP).trans oP;have C:=(((eQ.new a 9 #[eV (fI b)]).alloc (eN #[eV d] 9)).alloc (eN #[eW,eW] 55)).alloc (eN #[eW] 47);have p:=((eQ.new (a.alloc (eN #[eV (fI b)] 9)) 9 #[eV d]).alloc (eN #[eW,eW] 55)).alloc (eN #[eW] 47);have r:=(eQ.new ((a.alloc (eN #[eV (fI b)] 9)).alloc (eN #[eV d] 9)) 55 #[eW,eW]).alloc (eN #[eW] 47);have s:=eQ.new (((a.alloc (eN #[eV (fI b)] 9)).alloc (eN #[eV d] 9)).alloc (eN #[eW,eW] 55)) 47 #[eW];simp only[fM] at p r s;have D:((((a.alloc (eN #[eV (fI b)] 9)).alloc (eN #[eV d] 9)).alloc (eN #[eW,eW] 55)).alloc (eN #[eW] 47)).heap.size=a.heap.size+4:=by simp only[fM]
 clear n y o;have Q:=eD z;clear z;unfold rR;go_in;go_wp
 refine(O _).mono ?_;rintro e R ⟨rfl,rfl⟩;go_wp21
 refine(j _).mono ?_;rintro e R ⟨rfl,rfl⟩;go_wp21
 have E:=eD B;have k:=eD C;have t:=eD p;have u:=eD r;have S:=eD s;have F:=eD D;clear B C p r s D;generalize(((a.alloc (eN #[eV (fI b)] 9)).alloc (eN #[eV d] 9)).alloc (eN #[eW,eW] 55)).alloc (eN #[eW] 47)=i at*;have G:rQ i i (a.heap.size+1+1+1) (eW) 0 []:=⟨fi.refl _ _,S.out,ji _ _ _ _,by rw[F];omega⟩;have H:=yA i i a (a.heap.size+1) (a.heap.size+1+1+1) _ d b (eW) [] m x [] G k.out t.out (by omega) (by omega) (by simp) (Rd.nil _ _) (λf g e=>⟨by simp[Value.ownBlock],by have:=Q f g e;omega⟩) (by simp) (by omega);refine H.mono ?_;clear G H;rintro e T ⟨rfl,v2,c⟩;have I:=eD c;have J:=(c.lS.eH u.out (by omega)).ce 0 (eW);clear c;go_wp21
 refine(yA i T a (a.heap.size+1) (a.heap.size+1+1+1) _ d b _ _ none 0 [] I k.out t.out (by omega) (by omega) (by simp) (Rd.nil _ _) (λf g e=>by simp at e) (by simp) (by simp[oW])).mono ?_;rintro e w3 ⟨rfl,v3,c⟩;have K:=eD c;have U:=(c.lS.eH k.out (by omega)).ce 0 (eV (fI b));have J:=(c.lS.eH u.out (by omega)).ce 0 (eW);have V:=(c.lS.eH u.out (by omega)).ce 1 (eW);clear c I;go_wp21
 refine(P _).mono ?_;rintro e v ⟨rfl,L⟩;have l:=eD (K.ext L);clear L U J V K;go_wp21
 have M:=l.ext (eF.alloc v (eN #[eV ⟨#[47,108,105,98]⟩,eV ⟨#[47,117,115,114,47,108,105,98]⟩] 9));refine(yA i _ a (a.heap.size+1) (a.heap.size+1+1+1) _ d b _ _ (some (eJ v 0)) 2 [qz,Ef] M k.out t.out (by omega) (by omega) (by
  intro q N;simp only[fm,gp,gq] at N;rcases N with rfl|rfl
  ·exact⟨A.1,by simp[qz]⟩
  ·exact⟨A.2,by simp[Ef]⟩) (ip v _ _) (λf g e=>⟨QW l.out.own f g e,by have:=l.lS.size;have:=F.out;simp only[fd,ny,gP] at e;omega⟩) (by simp) (by simp[oW])).mono ?_
 rintro e W ⟨rfl,w,c⟩;have X:Hid (uF a [ff (qz++[b]),ff (Ef++[b])] (fH (ij #[w,eE 0])) W):=eD ⟨w,rfl,by have:=fq c.own (base':=a.heap.size) E.size;simpa[oW,iy] using this,c.lS.ext E.out (λY Z=>by have:Y=_:=Z;omega)⟩
 have ad:=c.eH.ce 0 w;clear c M l;go_wp2;go_ret2
 exact X
section
def Bv(w:eI)(q:List gh)(id:Int)(e:Ending)(w':eI):Prop:=e=fH (ij #[eV (fI (ff q)),eE id,eE 0])/\eF w w'
section
variable (B p b n:Nat) (D:DataW eS) (last:Int) (q:List gh) (rest:List gh) (w:eI)
theorem EX(j k:jw)(l:fE)(m:Nat)(h:kg w B p b n D last)(a:Way D q)(id:Int)(c d:jw)(f:At D (.string (ff q)) (jj 1 id c d))(F:rest.length<=10)(o:∀g,eF w g->Calls prog 349 #[.string j,.string k,.slice l 0 m,rR] g (uF g (ff q::rest))):
 Calls prog 314 #[.pointer (some ⟨p,0,none⟩),.string j,.string k,.slice l 0 m,rR] w (Bv w q id):=by
 have z:=eD o;have r:=eD h;have A:=eD (λw (h:kg w B p b n D last)=>JS B p b n D last q w h a id c d f);have C:=eD (λw (h:kg w B p b n D last)=>DZ B p b n D last q w h a 1 id c d (.inl rfl) f);clear o h a f;unfold rR at*;go_in;go_wp2_with fail
 refine(z _ (eF.alloc _ _)).mono ?_;rintro e G ⟨H,rfl,i,s⟩;have t:=eD ((eF.alloc _ _).trans s);obtain⟨I,J,rfl⟩:=eR i;obtain⟨K,L,rfl,u⟩:=Rd.fC i 0 (by simp[iy]);simp only[iy,hU,sZ] at u;clear s i;rw[iw];go_wp2;have M:decide ((0:Int)<(rest.length:Int)+1)=true:=by rw[jh];omega
 refine wp_loop_rounds 1 ?_;rw[rounds_succ];rw[m5] at u;go_wp2_with fail
 refine(A _ (r.ext t.out)).mono ?_;rintro e N ⟨rfl,v⟩;have x:=eD (t.out.trans v);clear v;go_wp2_with fail
 refine(C _ (r.ext x)).mono ?_;rintro e O ⟨rfl,y⟩;have E:=eD (x.trans y);clear y;go_wp2;go_ret3
 exact⟨rfl,E⟩
end
end
