/- TopOnce: part 7 of the proof. -/
import Derived.Test.YtoaehdgokeicoaaGreatDoorZ05
set_option maxRecDepth 100000
set_option maxHeartbeats 30000000
set_option linter.all false
namespace Go.Proofs.YtoaehdgokeicoaaGreatDoor
open K9 Z9 Go.Proofs.Tryz
section
open Go.RowKit
theorem tJ(a:jw)(c:eI)(h:tY a.data.toList)(n:1<=a.size)(o:a.size<=64):Calls prog 202 #[eV a] c λe p=>e=fH (fz true)/\eF c p:=by
 obtain⟨z,A,B,g,r,i⟩:=rF c a;have s:=eD g;have t:=eD i;have u:=eD h;have C:=eD n;have v:=eD o;clear g i h r;go_in;go_wp
 go_loop [8] (λd=>∃b:Nat,b<=a.size/\d=eE b) (λd=>a.size- (intOf d).toNat)
 case atStart=>exact⟨0,by omega,rfl⟩
 case round=>
  obtain⟨b,D,rfl⟩:=hrel;by_cases f:b<a.size
  ·have j:b<a.data.toList.length:=by simpa using f
   have E:=u _ (eU j);obtain⟨w,F,k,x⟩:=t b (by simpa[jl,gC] using f);simp only[fd,ny,gP] at k;obtain⟨rfl,rfl⟩:=k;have l:(jl (gC a))[b]'(by simpa[jl,gC] using f)=.int .u8 (a.data.toList[b].toNat):=by simp[jl,gC]
   rw[l,lH] at x;generalize a.data.toList[b]=m at*;clear l j;have G:decide ((m.toNat:Int)>=97)=true:=by rw[jh];omega
   have H:decide ((m.toNat:Int)<=122)=true:=by rw[jh];omega
   go_wp
   go_round
   case rel=>exact⟨b+1,by omega,by go_num⟩
   case measure=>simp[intOf];omega
  ·obtain rfl:b=a.size:=by omega
   go_wp2;go_ret;refine⟨?_,s⟩;have w:=v.out;have y:decide ((a.size:Int)<=64)=true:=by rw[jh];omega
   simp[y]
def gR(l:gh)(sW:Int)(dd:Bool)(v z:Int):iV:=⟨fI l,⟨#[]⟩,false,1,false,sW,dd,v,z⟩
theorem wM(b:gh)(d f g:Int)(c:eI)(h:tY b)(j:1<=b.length)(k:b.length<=64)(l:d=0\/d=2)(m:0<=f)(n:0<=g):
 Calls prog 218 #[fV (gR b d true f g).eL.toArray] c λe o=>e=fH (eE 0)/\eF c o:=by
 have p:=eD (λc=>tJ (fI b) c (by rw[fU];exact h) (by rw[gV];exact j) (by rw[gV];exact k));have s:decide ((f:Int)>=0)=true:=by rw[jh];omega
 have t:decide ((g:Int)>=0)=true:=by rw[jh];omega
 clear m n h j k;unfold gR iV.eL;simp only[List.toArray];rcases l with rfl|rfl;all_goals
  go_in;go_wp
  refine(p _).mono ?_;rintro e u ⟨rfl,i⟩;have r:=eD (oP.trans i);have a:=i.eH (eQ.new c 118 _);have v:=a.ce 1 (eV ⟨#[]⟩);have w:=a.ce 3 (eE 1);have x:=a.cell 5 rfl;have y:=a.ce 6 (fz true);have z:=a.cell 7 rfl;have A:=a.cell 8 rfl;have B:=a.ce 2 (fz false);clear i a;go_wp2;go_ret;exact⟨rfl,r⟩
theorem JW(a:gh)(w:eI)(h:tY a)(g:1<=a.length)(i:a.length<=64):
 Calls prog 123 #[eV (fI a),fz false] w λe k=>e=fH (ij #[fV #[eV (fI a),eV ⟨#[]⟩,fz false,eE 0,fz false,eE 0,fz false,eE 0,eE 0],eE 0])/\eF w k:=by
 have l:=eD (λw=>tJ (fI a) w (by rw[fU];exact h) (by rw[gV];exact g) (by rw[gV];exact i));have m:=eD (λw=>M2 (fI a) 64 w (by rw[fU];intro n;have:=h 64 n;simp at this))
 clear h g i;go_in;go_wp
 refine(m _).mono ?_;rintro e K ⟨rfl,rfl⟩;go_wp21
 refine(l _).mono ?_;rintro e L ⟨rfl,d⟩;have b:=d.eH (eQ.new (w.alloc (eN #[eV ⟨#[]⟩,eV ⟨#[]⟩,fz false,eE 0,fz false,eE 0,fz false,eE 0,eE 0] 118)) 118 #[eV (fI a),eV ⟨#[]⟩,fz false,eE 0,fz false,eE 0,fz false,eE 0,eE 0]);have j:=d.eH ((eQ.new w 118 #[eV ⟨#[]⟩,eV ⟨#[]⟩,fz false,eE 0,fz false,eE 0,fz false,eE 0,eE 0]).alloc (eN #[eV (fI a),eV ⟨#[]⟩,fz false,eE 0,fz false,eE 0,fz false,eE 0,eE 0] 118));have o:=eD (((eF.alloc w (eN #[eV ⟨#[]⟩,eV ⟨#[]⟩,fz false,eE 0,fz false,eE 0,fz false,eE 0,eE 0] 118)).trans (eF.alloc _ (eN #[eV (fI a),eV ⟨#[]⟩,fz false,eE 0,fz false,eE 0,fz false,eE 0,eE 0] 118))).trans d);rw[fM] at b;clear d;have p:=b.ce 0 (eV (fI a));have r:=b.ce 1 (eV ⟨#[]⟩);have s:=b.ce 2 (fz false);have t:=b.ce 3 (eE 0);have u:=b.ce 4 (fz false);have x:=b.ce 5 (eE 0);have y:=b.ce 6 (fz false);have z:=b.ce 7 (eE 0);have A:=b.ce 8 (eE 0);go_wp2_with (go_loud(refine gI rfl 118 (.tmp 4) (.tmp 55) rfl w.heap.size 0 rfl (.agg #[.string (fI a),.string ⟨#[]⟩,.bool false,.int .i64 0,.bool false,.int .i64 0,.bool false,.int .i64 0,.int .i64 0]) rfl [.string (fI a),.string ⟨#[]⟩,.bool false,.int .i64 0,.bool false,.int .i64 0,.bool false,.int .i64 0,.int .i64 0] rfl j (by simp[Value.oneCell']) (by kernel_rfl) (by simp) ?_))
 intro M c f;have B:=eD ((fi.grown f).ext o);clear j f p r s t u x y z A;have C:=c.ce 0 (eV (fI a));have D:=c.ce 1 (eV ⟨#[]⟩);have E:=c.ce 2 (fz false);have F:=c.ce 3 (eE 0);have f:=c.ce 4 (fz false);have G:=c.ce 5 (eE 0);have H:=c.ce 6 (fz false);have I:=c.ce 7 (eE 0);have J:=c.ce 8 (eE 0);clear b c;go_wp
 exact iA (v:=ij #[fV #[eV (fI a),eV ⟨#[]⟩,fz false,eE 0,fz false,eE 0,fz false,eE 0,eE 0],eE 0]) (by simp[results,results123,go_sem,C,D,E,F,f,G,H,I,J]) rfl ⟨rfl,B⟩
def Gz(w:eI)(e:Ending)(w':eI):Prop:=∃g,e=fH (fN g 23 23)/\w'.cell? (eJ g 3)=some (eV ⟨#[97,110]⟩)/\w'.cell? (eJ g 37)=some (eV ⟨#[]⟩)/\w'.cell? (eJ g 39)=some (eV ⟨#[97]⟩)/\eF w w'
theorem tN(a:eI):Calls prog 224 #[] a (Gz a):=by
 go_in;go_wp
 go_ret;exact⟨_,rfl,Df _ _ _ 3 rfl,Df _ _ _ 37 rfl,Df _ _ _ 39 rfl,eF.alloc _ _⟩
def IC(f:Int):Nat:=if f=97 then 1 else if f=98 then 2 else if f=99 then 3 else 4
theorem GC(b:Nat)(a:Int)(d:a=97\/a=98\/a=99\/a=110)(c:eI):Calls prog 225 #[fw b,.int .u8 a] c λe f=>e=fH (.pointer (some (eJ b (IC a))))/\c=f:=by
 rcases d with rfl|rfl|rfl|rfl;all_goals
  go_in;go_wp
  go_ret;exact⟨rfl,rfl⟩
theorem vJ(b:Nat)(a:Int)(d:Nat)(f:a=97\/a=98\/a=99\/a=110)(g:IC a=d)(c:eI):Calls prog 225 #[fw b,.int .u8 a] c λe i=>e=fH (.pointer (some (eJ b d)))/\c=i:=by subst g;exact GC b a f c
theorem J7(a:Int)(c:a=97\/a=98\/a=99\/a=110)(b:eI):Calls prog 226 #[.int .u8 a] b λe d=>e=fH (ij #[eE (if a=110 then-2147483648 else 0),eE (if a=110 then 2147483647 else 15)])/\b=d:=by
 rcases c with rfl|rfl|rfl|rfl;all_goals
  go_in;go_wp2;go_ret2
  exact⟨rfl,rfl⟩
theorem yF(a c d:Int)(f:a=97\/a=98\/a=99\/a=110)(g:(if a=110 then-2147483648 else 0)=c)(i:(if a=110 then 2147483647 else 15)=d)(b:eI):Calls prog 226 #[.int .u8 a] b λe j=>e=fH (ij #[eE c,eE d])/\b=j:=by subst g i;exact J7 a f b
theorem GD(a:jw)(b:Int)(c:eI)(d:Int)(h:Lib.indexByte a.data.toList b.toNat.toUInt8=d):Calls prog 227 #[eV a,.int .u8 b] c λe f=>e=fH (eE d)/\c=f:=by rw[<-h];exact JG a b c
theorem vK(c:Int)(h: -100<=c/\c<=100)(d:eI):Calls prog 153 #[rk 1 1 c] d λe b=>e=fH (eE 0)/\eF d b:=by
 have r:=eD tN;have g:=eD vJ;have i:=eD yF;have j:=eD GD;have y:=λ(d:eI) (s:kx) (c t:Nat)=>Lib.run_convert_bytes_const (P:=prog) d 61 5 s c t underlying61 underlying5;unfold rk;go_in;go_wp
 have m:=eQ.new d 121 #[eE 1,eE 1,eE 0,eE 0,eE c];have n:=eF.alloc d (eN #[eE 1,eE 1,eE 0,eE 0,eE c] 121);refine(r _).mono ?_;rintro e a ⟨z,rfl,o,u,v,k⟩;have l:=eF.alloc a (.cells #[.int .u8 97,.int .u8 98,.int .u8 99,.int .u8 110] 5 (4,5));have w:=eD ((n.trans k).trans l);have f:=l.eH (k.eH m);have A:=l.cell o;have B:(a.alloc (.cells #[.int .u8 97,.int .u8 98,.int .u8 99,.int .u8 110] 5 (4,5))).cell? ⟨a.heap.size,0,none⟩=some (.int .u8 97):=World.cell?_alloc_mark a _ _ _ 0;have C:(a.alloc (.cells #[.int .u8 97,.int .u8 98,.int .u8 99,.int .u8 110] 5 (4,5))).cell? ⟨a.heap.size,1,none⟩=some (.int .u8 98):=World.cell?_alloc_mark a _ _ _ 1;have D:(a.alloc (.cells #[.int .u8 97,.int .u8 98,.int .u8 99,.int .u8 110] 5 (4,5))).cell? ⟨a.heap.size,2,none⟩=some (.int .u8 99):=World.cell?_alloc_mark a _ _ _ 2;have E:(a.alloc (.cells #[.int .u8 97,.int .u8 98,.int .u8 99,.int .u8 110] 5 (4,5))).cell? ⟨a.heap.size,3,none⟩=some (.int .u8 110):=World.cell?_alloc_mark a _ _ _ 3;have p:=k.eH m;have x:=p.ce 0 (eE 1);clear k n m l;generalize d.heap.size=F at*;go_wp2;have G:=f.ce 0 (eE 1);have H:=f.ce 1 (eE 1);have I:=f.ce 2 (eE 0);have J:=f.ce 3 (eE 0);have K:=f.ce 4 (eE c);clear o u v x f p;generalize a.alloc (.cells #[.int .u8 97,.int .u8 98,.int .u8 99,.int .u8 110] 5 (4,5))=L at*;generalize a.heap.size=M at*;refine wp_loop_rounds 5 ?_;rw[rounds_succ];go_wp
 refine(g _ 97 1 (by decide) rfl _).mono ?_;rintro e b ⟨rfl,rfl⟩;go_wp21
 refine(i 97 (0) (15) (by decide) rfl rfl _).mono ?_;rintro e b ⟨rfl,rfl⟩;go_wp21
 refine(j _ 97 _ (0) (by decide)).mono ?_;rintro e b ⟨rfl,rfl⟩;go_wp2;rw[rounds_succ];go_wp
 refine(g _ 98 2 (by decide) rfl _).mono ?_;rintro e b ⟨rfl,rfl⟩;go_wp21
 refine(i 98 (0) (15) (by decide) rfl rfl _).mono ?_;rintro e b ⟨rfl,rfl⟩;go_wp21
 refine(j _ 98 _ (-1) (by decide)).mono ?_;rintro e b ⟨rfl,rfl⟩;go_wp2;rw[rounds_succ];go_wp
 refine(g _ 99 3 (by decide) rfl _).mono ?_;rintro e b ⟨rfl,rfl⟩;go_wp21
 refine(i 99 (0) (15) (by decide) rfl rfl _).mono ?_;rintro e b ⟨rfl,rfl⟩;go_wp21
 refine(j _ 99 _ (-1) (by decide)).mono ?_;rintro e b ⟨rfl,rfl⟩;go_wp2;rw[rounds_succ];go_wp
 refine(g _ 110 4 (by decide) rfl _).mono ?_;rintro e b ⟨rfl,rfl⟩;go_wp21
 refine(i 110 (-2147483648) (2147483647) (by decide) rfl rfl _).mono ?_;rintro e b ⟨rfl,rfl⟩;go_wp21
 refine(j _ 110 _ (1) (by decide)).mono ?_;rintro e b ⟨rfl,rfl⟩;go_wp2;rw[rounds_succ];go_wp
 go_ret;exact⟨rfl,w⟩
theorem Ek(c:eI):Calls prog 153 #[rk 19 1 0] c λe b=>e=fH (eE 0)/\eF c b:=by
 have p:=eD tN;have f:=eD vJ;have g:=eD yF;have i:=eD GD;have y:=λ(c:eI) (r:kx) (s t:Nat)=>Lib.run_convert_bytes_const (P:=prog) c 61 5 r s t underlying61 underlying5;unfold rk;go_in;go_wp
 have l:=eQ.new c 121 SU;have m:=eF.alloc c (eN SU 121);refine(p _).mono ?_;rintro e a ⟨z,rfl,u,v,n,j⟩;have k:=eF.alloc a (.cells #[.int .u8 97,.int .u8 98,.int .u8 99,.int .u8 110] 5 (4,5));have w:=eD ((m.trans j).trans k);have d:=k.eH (j.eH l);have A:=k.cell n;have B:(a.alloc (.cells #[.int .u8 97,.int .u8 98,.int .u8 99,.int .u8 110] 5 (4,5))).cell? ⟨a.heap.size,0,none⟩=some (.int .u8 97):=World.cell?_alloc_mark a _ _ _ 0;have C:(a.alloc (.cells #[.int .u8 97,.int .u8 98,.int .u8 99,.int .u8 110] 5 (4,5))).cell? ⟨a.heap.size,1,none⟩=some (.int .u8 98):=World.cell?_alloc_mark a _ _ _ 1;have D:(a.alloc (.cells #[.int .u8 97,.int .u8 98,.int .u8 99,.int .u8 110] 5 (4,5))).cell? ⟨a.heap.size,2,none⟩=some (.int .u8 99):=World.cell?_alloc_mark a _ _ _ 2;have E:(a.alloc (.cells #[.int .u8 97,.int .u8 98,.int .u8 99,.int .u8 110] 5 (4,5))).cell? ⟨a.heap.size,3,none⟩=some (.int .u8 110):=World.cell?_alloc_mark a _ _ _ 3;have o:=j.eH l;have x:=o.ce 0 (eE 19);clear j m l k;generalize c.heap.size=F at*;go_wp2;have G:=d.ce 0 (eE 19);have H:=d.ce 1 (eE 1);have I:=d.ce 2 (eE 0);have J:=d.ce 3 (eE 0);have K:=d.ce 4 (eE 0);clear u v n x d o;generalize a.alloc (.cells #[.int .u8 97,.int .u8 98,.int .u8 99,.int .u8 110] 5 (4,5))=L at*;generalize a.heap.size=M at*;refine wp_loop_rounds 5 ?_;rw[rounds_succ];go_wp
 refine(f _ 97 1 (by decide) rfl _).mono ?_;rintro e b ⟨rfl,rfl⟩;go_wp21
 refine(g 97 (0) (15) (by decide) rfl rfl _).mono ?_;rintro e b ⟨rfl,rfl⟩;go_wp21
 refine(i _ 97 _ (0) (by decide)).mono ?_;rintro e b ⟨rfl,rfl⟩;go_wp2;rw[rounds_succ];go_wp
 refine(f _ 98 2 (by decide) rfl _).mono ?_;rintro e b ⟨rfl,rfl⟩;go_wp21
 refine(g 98 (0) (15) (by decide) rfl rfl _).mono ?_;rintro e b ⟨rfl,rfl⟩;go_wp21
 refine(i _ 98 _ (-1) (by decide)).mono ?_;rintro e b ⟨rfl,rfl⟩;go_wp2;rw[rounds_succ];go_wp
 refine(f _ 99 3 (by decide) rfl _).mono ?_;rintro e b ⟨rfl,rfl⟩;go_wp21
 refine(g 99 (0) (15) (by decide) rfl rfl _).mono ?_;rintro e b ⟨rfl,rfl⟩;go_wp21
 refine(i _ 99 _ (-1) (by decide)).mono ?_;rintro e b ⟨rfl,rfl⟩;go_wp2;rw[rounds_succ];go_wp
 refine(f _ 110 4 (by decide) rfl _).mono ?_;rintro e b ⟨rfl,rfl⟩;go_wp21
 refine(g 110 (-2147483648) (2147483647) (by decide) rfl rfl _).mono ?_;rintro e b ⟨rfl,rfl⟩;go_wp21
 refine(i _ 110 _ (-1) (by decide)).mono ?_;rintro e b ⟨rfl,rfl⟩;go_wp2;rw[rounds_succ];go_wp
 go_ret;exact⟨rfl,w⟩
theorem El(c:eI):Calls prog 153 #[rk 18 0 0] c λe b=>e=fH (eE 0)/\eF c b:=by
 have p:=eD tN;have f:=eD vJ;have g:=eD yF;have i:=eD GD;have y:=λ(c:eI) (r:kx) (s t:Nat)=>Lib.run_convert_bytes_const (P:=prog) c 61 5 r s t underlying61 underlying5;unfold rk;go_in;go_wp2_with fail
 have l:=eQ.new c 121 SS;have m:=eF.alloc c (eN SS 121);refine(p _).mono ?_;rintro e a ⟨z,rfl,u,n,v,j⟩;have k:=eF.alloc a (.cells #[.int .u8 97,.int .u8 98,.int .u8 99,.int .u8 110] 5 (4,5));have w:=eD ((m.trans j).trans k);have d:=k.eH (j.eH l);have A:=k.cell n;have B:(a.alloc (.cells #[.int .u8 97,.int .u8 98,.int .u8 99,.int .u8 110] 5 (4,5))).cell? ⟨a.heap.size,0,none⟩=some (.int .u8 97):=World.cell?_alloc_mark a _ _ _ 0;have C:(a.alloc (.cells #[.int .u8 97,.int .u8 98,.int .u8 99,.int .u8 110] 5 (4,5))).cell? ⟨a.heap.size,1,none⟩=some (.int .u8 98):=World.cell?_alloc_mark a _ _ _ 1;have D:(a.alloc (.cells #[.int .u8 97,.int .u8 98,.int .u8 99,.int .u8 110] 5 (4,5))).cell? ⟨a.heap.size,2,none⟩=some (.int .u8 99):=World.cell?_alloc_mark a _ _ _ 2;have E:(a.alloc (.cells #[.int .u8 97,.int .u8 98,.int .u8 99,.int .u8 110] 5 (4,5))).cell? ⟨a.heap.size,3,none⟩=some (.int .u8 110):=World.cell?_alloc_mark a _ _ _ 3;have o:=j.eH l;have x:=o.ce 0 (eE 18);clear j m l k;generalize c.heap.size=F at*;go_wp2;have G:=d.ce 0 (eE 18);have H:=d.ce 1 (eE 0);have I:=d.ce 2 (eE 0);have J:=d.ce 3 (eE 0);have K:=d.ce 4 (eE 0);clear u n v x d o;generalize a.alloc (.cells #[.int .u8 97,.int .u8 98,.int .u8 99,.int .u8 110] 5 (4,5))=L at*;generalize a.heap.size=M at*;refine wp_loop_rounds 5 ?_;rw[rounds_succ];go_wp2_with fail
 refine(f _ 97 1 (by decide) rfl _).mono ?_;rintro e b ⟨rfl,rfl⟩;go_wp2_with fail
 refine(g 97 (0) (15) (by decide) rfl rfl _).mono ?_;rintro e b ⟨rfl,rfl⟩;go_wp2_with fail
 refine(i _ 97 _ (-1) (by decide)).mono ?_;rintro e b ⟨rfl,rfl⟩;go_wp2;rw[rounds_succ];go_wp2_with fail
 refine(f _ 98 2 (by decide) rfl _).mono ?_;rintro e b ⟨rfl,rfl⟩;go_wp2_with fail
 refine(g 98 (0) (15) (by decide) rfl rfl _).mono ?_;rintro e b ⟨rfl,rfl⟩;go_wp2_with fail
 refine(i _ 98 _ (-1) (by decide)).mono ?_;rintro e b ⟨rfl,rfl⟩;go_wp2;rw[rounds_succ];go_wp2_with fail
 refine(f _ 99 3 (by decide) rfl _).mono ?_;rintro e b ⟨rfl,rfl⟩;go_wp2_with fail
 refine(g 99 (0) (15) (by decide) rfl rfl _).mono ?_;rintro e b ⟨rfl,rfl⟩;go_wp2_with fail
 refine(i _ 99 _ (-1) (by decide)).mono ?_;rintro e b ⟨rfl,rfl⟩;go_wp2;rw[rounds_succ];go_wp2_with fail
 refine(f _ 110 4 (by decide) rfl _).mono ?_;rintro e b ⟨rfl,rfl⟩;go_wp2_with fail
 refine(g 110 (-2147483648) (2147483647) (by decide) rfl rfl _).mono ?_;rintro e b ⟨rfl,rfl⟩;go_wp2_with fail
 refine(i _ 110 _ (-1) (by decide)).mono ?_;rintro e b ⟨rfl,rfl⟩;go_wp2;rw[rounds_succ];go_wp2;go_ret;exact⟨rfl,w⟩
