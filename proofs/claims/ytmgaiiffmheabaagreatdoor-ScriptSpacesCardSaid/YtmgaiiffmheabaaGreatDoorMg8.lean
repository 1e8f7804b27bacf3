/- x -/
import Derived.Shelf.Sort.Plain
import Derived.Shelf.Slices.In.SortNone
import Derived.Sort.OwnSortedInts
import Derived.Test.YtmgaiiffmheabaaGreatDoorMg7
namespace Go.Proofs.YtmgaiiffmheabaaGreatDoor
open Option renaming some->ϊ,none->ϋ
open Bool renaming true->ό,false->ύ
open Go.Value renaming bool->μ,slice->δ,pointer->π,agg->θ
open Go.IntKind renaming i64->ι,u8->υ,u16->φ,u32->ω,i32->χ,u64->ψ
open _root_.Go.Proofs.Tryz
set_option linter.all false
set_option maxHeartbeats 8000000
open Go.RowKit
set_option maxRecDepth 100000
open Go.Shelf
variable {w w' w0:World} {v vp vr:Value} {b p base C B:Nat} {F:List Nat} {l:List Int} {m:Bk} {x s0 s1 s2:Int} {o:Og} {xs:List Value} {K V α:Type} {L:List (K×V)} {S:Nat->Prop} {ke:K->Value} {P:Prop}
def Kl:Go.Shelf.Ren:=⟨fun | 189=>137 | 125=>167 | 257=>166 | 128=>210 | 129=>131 | 294=>201 | 295=>202 | 296=>203 | 297=>204 | 298=>205 | 299=>206 | 216=>207 | 300=>208 | 301=>209 | 328=>259 | 329=>260 | 330=>261 | 331=>262 | 332=>263 | 215=>264 | 343=>298 | n=>n,fun | 28=>57 | 3=>3 | 46=>80 | 0=>0 | 51=>69 | 53=>170 | 4=>4 | 183=>346 | 182=>345 | 131=>120 | 5=>5 | 9=>9 | 218=>412 | 222=>416 | 228=>447 | 229=>448 | n=>n,fun | n=>n⟩
def WW:Go.Proofs.Lays.n189 prog Kl:={
 mixed:=by kernel_rfl
 f125:=func167.trans (Γ ϊ ξ)
 f128:=func210.trans (Γ ϊ ξ)
 f129:=func131.trans (Γ ϊ ξ)
 f189:=func137.trans (Γ ϊ ξ)
 f215:=func264.trans (Γ ϊ ξ)
 f216:=func207.trans (Γ ϊ ξ)
 f257:=func166.trans (Γ ϊ ξ)
 f294:=func201.trans (Γ ϊ ξ)
 f295:=func202.trans (Γ ϊ ξ)
 f296:=func203.trans (Γ ϊ ξ)
 f297:=func204.trans (Γ ϊ ξ)
 f298:=func205.trans (Γ ϊ ξ)
 f299:=func206.trans (Γ ϊ ξ)
 f300:=func208.trans (Γ ϊ ξ)
 f301:=func209.trans (Γ ϊ ξ)
 f328:=func259.trans (Γ ϊ ξ)
 f329:=func260.trans (Γ ϊ ξ)
 f330:=func261.trans (Γ ϊ ξ)
 f331:=func262.trans (Γ ϊ ξ)
 f332:=func263.trans (Γ ϊ ξ)
 f343:=func298.trans (Γ ϊ ξ)
 t0:=underlying0
 a0:=isAgg0
 z0:=sizeOf0
 v0:=zeroValue0
 t3:=underlying3
 a3:=isAgg3
 z3:=sizeOf3
 v3:=zeroValue3
 t4:=underlying4
 a4:=isAgg4
 z4:=sizeOf4
 v4:=zeroValue4
 t5:=underlying5
 a5:=isAgg5
 z5:=sizeOf5
 v5:=zeroValue5
 t9:=underlying9
 a9:=isAgg9
 z9:=sizeOf9
 v9:=zeroValue9
 t28:=underlying57
 a28:=isAgg57
 z28:=sizeOf57
 v28:=zeroValue57
 t46:=underlying80
 a46:=isAgg80
 z46:=sizeOf80
 v46:=zeroValue80
 t51:=underlying69
 a51:=isAgg69
 z51:=sizeOf69
 v51:=zeroValue69
 t53:=underlying170
 a53:=isAgg170
 z53:=sizeOf170
 v53:=zeroValue170
 t131:=underlying120
 a131:=isAgg120
 z131:=sizeOf120
 v131:=zeroValue120
 t182:=underlying345
 a182:=isAgg345
 z182:=sizeOf345
 v182:=zeroValue345
 t183:=underlying346
 a183:=isAgg346
 z183:=sizeOf346
 v183:=zeroValue346
 t218:=underlying412
 a218:=isAgg412
 z218:=sizeOf412
 v218:=zeroValue412
 t222:=underlying416
 a222:=isAgg416
 z222:=sizeOf416
 v222:=zeroValue416
 t228:=underlying447
 a228:=isAgg447
 z228:=sizeOf447
 v228:=zeroValue447
 t229:=underlying448
 a229:=isAgg448
 z229:=sizeOf448
 v229:=zeroValue448}
open Go.RowKit
def srt (l:List Int):List Int:=l.mergeSort λx y=>decide (x<=y)
def vI (l:List Int):(srt l).length=l.length:=by unfold srt;simp
def gL {a b:List Int} (h:a.Perm b):srt a=srt b:=by
 unfold srt;have I: ∀a b c:Int,decide (a<=b)=ό->decide (b<=c)=ό->decide (a<=c)=ό:=λa b c d G=>by simp at *;omega
 have H: ∀a b:Int,(decide (a<=b)||decide (b<=a))=ό:=λa b=>by simp;omega
 refine List.Perm.eq_of_pairwise (le:=λx y:Int=>decide (x<=y)=ό) ?_ (S1 I H a) (S1 I H b) (((P0 a _).trans h).trans (P0 b _).symm);intro x y _ _ d G;simp at d G;omega
def Zh (h:l.Pairwise (· <= ·)):srt l=l:=List.mergeSort_of_pairwise (by simpa using h)
def WG:x∈srt l↔x∈l:=(P0 l _).mem_iff
def jS {e size n:Nat} (h:w.ownsRow base e size v n xs) {q:Nat} (d:v.ownBlock=ϊ q):base<=q:=by
 rcases h.2 with ⟨rfl,_⟩ | ⟨b,cap,cur,rfl,G,_⟩
 ·cases d
 ·cases d;exact G
def Yx {e size n:Nat} (h:w.ownsRow base e size v n xs) (m:jt S w w') (H: ∀k,S k->k<base):w'.ownsRow base e size v n xs:=by
 obtain⟨d,G⟩:=h;refine⟨d, ?_⟩;rcases G with h | ⟨g,cap,cur,e1,hb,hg,rest⟩
 ·exact ϑ h
 ·exact ϕ ⟨g,cap,cur,e1,hb,m.blk hg (λx=>by have:=H g x;omega),rest⟩
def DQ (h:w.ownsRow base 3 1 v l.length (l.map (Value.int .i64))) (O:l.length<4611686018427387904):
  Calls prog 137 #[v] w λe w'=>e= .returned (.tuple #[])/\w'.ownsRow base 3 1 v (srt l).length ((srt l).map (Value.int .i64))/\w.grownBy w' v.ownBlock:=by
 obtain⟨ac,h⟩:=h;rcases h with ⟨rfl,U⟩ | ⟨b,cap,cur,rfl,I,H,J,N,Y,aa⟩
 ·have e0:l=[]:=by simpa using U
  subst e0;refine(Any.slices_Sort_int_none WW ϋ 0 w).mono λe w' ⟨d,G⟩=> ?_
  subst G;exact⟨d,⟨by simp[srt],ϑ ⟨rfl,by simp[srt]⟩⟩,⟨rfl,rfl,rfl,ϔ _,λ_ _ _=>rfl⟩⟩
 ·have ab:cur.toList.take l.length=l.map (Value.int .i64):=by simpa using aa
  refine(Any.slices_Sort_int WW b 0 cap l w (holds_of_blockI H ab) (lt_of_block H) O).mono λe w' ⟨d,n,os,G⟩=> ?_
  subst G;refine⟨d, ?_,grownBy_sortedI _⟩;have:=ownsRow_sortedI (w:=w) (n:=n) (os:=os) (ss:=l) (ts:=srt l) (vI l) I H J N Y;rw[vI];exact this
def xS (sub:Int) (l:Bk):List Int:=l.filterMap λp=>if p.1.1=sub/\p.2=0 then ϊ p.1.2 else ϋ
def jz (m:Bk) (sub:Int):List Int:=srt (xS sub m)
def kN (sub:Int) (l:Bk):(xS sub l).length<=l.length:=J6 _ _
def Xe (L:List (K×V)) (is:List Nat):(zj L is).length<=is.length:=J6 _ _
def Ki (sub:Int) (l:Bk) (p:(Int×Int)×Int):xS sub (l++[p])=xS sub l++(if p.1.1=sub/\p.2=0 then [p.1.2] else []):=by
 unfold xS;rw[M2];by_cases h:p.1.1=sub/\p.2=0<;>simp[h]
def Yc (h:jy w B b m) (sub:Int) (aB:m.length<=1000000):
  Calls prog 107 #[γ B,ι sub] w λe w'=>(∃v,e= .returned v/\SlI .i64 w' v (jz m sub)/\ ∀q,v.ownBlock=ϊ q->w.heap.size<=q)/\ql w w':=by
 obtain⟨aV,hi,aS,aT,aU⟩:=info_parts (P:=prog) (e:=3) (z:= ι 0) (size:=1) (bytes:=8) ξ;have aX:=β0 h.blk;have aW:=κ h;have aj:=κ aB;obtain⟨w1,bg,av,ar,aQ⟩:=h.map.range (P:=prog) underlying229;have aZ:=h.map.lt;have aI:=κ av;have aF:=κ ar;clear h aB av ar aQ
 go_enter func107,ntmps107
 go_wp2
 go_loopw [5] (λv5 wr=> ∃is:List Nat,jW wr w.heap.size b ke2 (Value.int .i64) m is/\wr.ownsRow (w.heap.size+1) 3 1 v5 (xS sub (zj m is)).length ((xS sub (zj m is)).map (Value.int .i64))/\ql w wr) (λ_ wr=>uO wr b w.heap.size)
 case atStart=>exact⟨[],aI.o,World.ownsRow_nil _ _ _ _,aF.o⟩
 case round=>
  obtain⟨is,O,an,ak⟩:=hrel;have aq:=κ O;have ac:=κ an;have af:=κ ak;have ae:=κ O.left;rcases O.next (P:=prog) with ⟨ax,am⟩ | ⟨i,aN,w2,bd,bb,am,aw,ah,aR,ay⟩
  ·clear O an ak;have ao:=κ ax;clear ax;have aO:(xS sub (zj m is)).length<4611686018427387904:=by
    have H:=kN sub (zj m is);have J:=Xe m is;have aY:=ao.o;have aK:=aj.o;omega
   go_wp2_with (go_at_call 137;(go_call DQ ac.o aO as e bj ⟨rfl,U,az⟩;have aG:=κ U;have aD:=κ az;clear U az))
   go_ret;have aP:=aq.o.perm ao.o;have aJ:srt (xS sub (zj m is))=jz m sub:=gL (aP.filterMap _);have U:=aG.o;rw[aJ] at U;refine⟨⟨_,rfl,SlI.of_owns U ?_,λq Y=>by have:=jS ac.o Y;omega⟩,af.o.grown aD.o af.o.size ?_⟩
   ·have H:=kN sub m;have J:(jz m sub).length=(xS sub m).length:=vI _;have aK:=aj.o;omega
   ·intro q Y;have:=jS ac.o Y;omega
  ·have be:=kN sub (zj m is);have bf:=Xe m is;have aA:=uW (L:=m) (is:=is) aN;have d:=Ki sub (zj m is) m[i];rw[<-aA] at d;have ba:=aj.o;have bc:is.length<1000000:=by omega
   clear O an ak aA;generalize m[i]=p at *;obtain⟨⟨aa,ad⟩,f⟩:=p;unfold ke2 at am ay;simp only at am ay d;have G:=κ (Yx ac.o ah (λk ai=>by subst ai;exact K5 _));have I:=κ (aw.more (ql.alloc w2 (.cells #[ι aa,ι ad] 233)));have au:ql w w2:=jt.to_more af.o ah (λk ai=>by subst ai;exact ϔ _);have ab:=κ au;have bh:w.heap.size+1<=w2.heap.size:=by have:=lt_of_block (aq.o.rlt |> λh=>(Q3 h));omega
   clear aw ah au aR;by_cases H:aa=sub
   ·by_cases J:f=0
    ·subst H J;rw[ϓ ⟨rfl,rfl⟩] at d;have N:=κ d;clear d
     go_wp2_with (at_builtin;refine qU _ rfl (.tmp 26) (.tmp 29) 57 rfl (w.heap.size+1) 3 aV (ι 0) 8 underlying57 hi aS aT aU rfl _ .i64 (xS aa (zj m is)) rfl ((G.o.alloc _).alloc _) _ [ad] rfl (SlI.lit .i64 (w2.alloc (.cells #[ι aa,ι ad] 233)) [ad] 3 _ 1 _ η rfl η η) (by simp;omega) ζ (by simp;omega) ?_;intro bi w6 aC ag _;have aH:=κ aC;have ap:=κ (jt.of_grown ag);have aE:=κ ag;clear aC ag)
     go_roundw
     case rel=>
      refine⟨is++[i],(I.o.more X6).away ap.o ?_ ?_, ?_, ?_⟩
      ·intro e;have:=jS G.o e;omega
      ·intro e;have:=jS G.o e;omega
      ·rw[N.o];exact aH.o
      ·exact(((ab.o.al _).al _).grown aE.o ((ab.o.al _).al _).size (λq Y=>by have:=jS G.o Y;omega))
     case measure=>
      have aL:=(I.o.more X6).away ap.o (λe=>by have:=jS G.o e;omega) (λe=>by have:=jS G.o e;omega);rw[ae.o,aL.left];simp;omega
    ·have aM:(f==0)=ύ:=by simpa using J
     rw[Ϗ (λh=>J h.2),Θ] at d;have N:=κ d;clear d J;subst H;go_wp2;go_roundw
     case rel=>exact⟨is++[i],I.o,by rw[N.o];exact G.o.alloc _,ab.o.al _⟩
     case measure=>
      rw[ae.o,I.o.left];simp;omega
   ·have aM:(aa==sub)=ύ:=by simpa using H
    rw[Ϗ (λh=>H h.1),Θ] at d;have N:=κ d;clear d H;go_wp2;go_roundw
    case rel=>exact⟨is++[i],I.o,by rw[N.o];exact G.o.alloc _,ab.o.al _⟩
    case measure=>
     rw[ae.o,I.o.left];simp;omega
def zL (sub:Int) (f:Nat) (l:Bk):Int:=((l.countP λp=>decide (p.1.1=sub/\p.2=(f:Int)):Nat):Int)
def xH (sub:Int) (l:Bk):Array Value:= #[.int .i64 (zL sub 0 l),.int .i64 (zL sub 1 l),.int .i64 (zL sub 2 l),.int .i64 (zL sub 3 l),.int .i64 (zL sub 4 l),.int .i64 (zL sub 5 l),.int .i64 (zL sub 6 l),.int .i64 (zL sub 7 l),.int .i64 (zL sub 8 l)]
def WZ (sub:Int) (f:Nat) (l:Bk):0<=zL sub f l/\zL sub f l<=l.length:=by
 unfold zL;exact⟨τ,by have:=List.countP_le_length (l:=l) (p:=λp=>decide (p.1.1=sub/\p.2=(f:Int)));omega⟩
def Z2 (sub:Int) (f:Nat) (l:Bk) (p:(Int×Int)×Int):zL sub f (l++[p])=zL sub f l+if p.1.1=sub/\p.2=(f:Int) then 1 else 0:=by
 unfold zL;rw[List.countP_append];by_cases h:p.1.1=sub/\p.2=(f:Int)<;>simp[h]
def Db (sub:Int) (f:Nat) {a b:Bk} (h:a.Perm b):zL sub f a=zL sub f b:=by unfold zL;rw[h.countP_eq]
def Ks (sub:Int) {a b:Bk} (h:a.Perm b):xH sub a=xH sub b:=by unfold xH;simp only[Db sub _ h]
def Y2 (sub:Int) (l:Bk) (p:(Int×Int)×Int) (h:p.1.1≠sub):xH sub (l++[p])=xH sub l:=by
 unfold xH;simp only[Z2,h,false_and,D4,Int.add_zero]
def Dc (sub:Int) (l:Bk) (n:Nat) (h:n<=8):(xH sub l)[n]? =ϊ (ι (zL sub n l)):=by
 have:n=0∨n=1∨n=2∨n=3∨n=4∨n=5∨n=6∨n=7∨n=8:=by omega
 rcases this with rfl | rfl | rfl | rfl | rfl | rfl | rfl | rfl | rfl<;>rfl
def Kr (sub:Int) (l:Bk) (p2:Int) (n:Nat) (h:n<=8):(xH sub l).setIfInBounds n (ι (zL sub n l+1))=xH sub (l++[((sub,p2),(n:Int))]):=by
 unfold xH;simp only[Z2,true_and];have:n=0∨n=1∨n=2∨n=3∨n=4∨n=5∨n=6∨n=7∨n=8:=by omega
 rcases this with rfl | rfl | rfl | rfl | rfl | rfl | rfl | rfl | rfl<;>simp
def MG {r:Nat} {G:V->Value} {is:List Nat} (h:jW w r b ke G L is):r<w.heap.size:=by
 obtain⟨⟨J,I,O,H,N,d,_⟩,_⟩:=h;exact lt_of_block d
def F4 (h:jy w B b m) (sub:Int) (aE:m.length<=1000000):
  Calls prog 125 #[γ B,ι sub] w λe w'=>e= .returned (θ (xH sub m))/\ql w w':=by
 have bc: ∃W0,W0=(w.alloc (.cells #[ι 0,ι 0,ι 0,ι 0,ι 0,ι 0,ι 0,ι 0,ι 0] 160)).alloc (.cells #[ι 0,ι 0,ι 0,ι 0,ι 0,ι 0,ι 0,ι 0,ι 0] 160):=⟨_,rfl⟩;obtain⟨W0,I⟩:=bc;have ac:ql w W0:=by rw[I];exact X6.al _
 have aq:W0.heap[w.heap.size]? =ϊ (.cells (xH sub []) 160 (0,0)):=by rw[I];exact qs (qj _ _) _
 have ar:W0.heap[w.heap.size+1]? =ϊ (.cells (xH sub []) 160 (0,0)):=by rw[I];exact qC η
 have aC:W0.heap.size=w.heap.size+2:=by rw[I];simp
 have ab:=h.more ac;have aN:=β0 ab.blk;obtain⟨w1,aB,ad,Y,ba⟩:=ab.map.range (P:=prog) underlying229;have aY:=κ aE;have bn:=h.map.lt;have aF:=κ (qq Y aq);have aG:=κ (qq Y ar);rw[aC] at ad aB;have aL:=κ ad;have aJ:=κ (ac.trans Y);have aK:=κ h.ok;rw[I] at aN aB;clear h aE I ac aq ar aC ab ad Y ba
 go_enter func125,ntmps125
 go_wp2
 go_loopw [] (λwr=> ∃is:List Nat,jW wr (w.heap.size+2) b ke2 (Value.int .i64) m is/\wr.heap[w.heap.size]? =ϊ (.cells (xH sub []) 160 (0,0))/\wr.heap[w.heap.size+1]? =ϊ (.cells (xH sub (zj m is)) 160 (0,0))/\ql w wr) (λwr=>uO wr b (w.heap.size+2))
 case atStart=>exact⟨[],aL.o,aF.o,aG.o,aJ.o⟩
 case round=>
  obtain⟨is,N,G,d,ah⟩:=hrel;have aM:=κ G;have aH:=κ d;have am:=κ ah;have ak:=κ N.left;rcases N.next (P:=prog) with ⟨ag,ai⟩ | ⟨i,ay,w2,bt,bq,ai,ae,U,bb,ax⟩
  ·have bi:=κ ag;rw[Ks sub (N.perm ag)] at d;have aO:=β0 d;have aP:=β1 d;have aQ:=β2 d;have aR:=β3 d;have aS:=β4 d;have aT:=β5 d;have aU:=β6 d;have aV:=β7 d;have aW:=β8 d;have z0:=β0 G;have bd:=β1 G;have be:=β2 G;have z3:=β3 G;have z4:=β4 G;have z5:=β5 G;have bf:=β6 G;have bg:=β7 G;have bh:=β8 G;have bk:=yw G;clear N G d ah ag;go_wp2
   (refine bodyPost_ret (v:= θ (xH sub m)) ?rr1 rfl ?_;(case rr1=>(simp[results,results125,go_sem,aO,aP,aQ,aR,aS,aT,aU,aV,aW,z0,bd,be,z3,z4,z5,bf,bg,bh,xH])))
   exact⟨rfl,((((((((am.o.st (ϔ _) _).st (ϔ _) _).st (ϔ _) _).st (ϔ _) _).st (ϔ _) _).st (ϔ _) _).st (ϔ _) _).st (ϔ _) _).st (ϔ _) _⟩
  ·have aA:=uW (L:=m) (is:=is) ay;have bp:=aY.o;have aZ:=aK.o m[i] (ϥ ay);have br:is.length<1000000:=by omega
   have bu:=Xe m is;clear N G d ah;have ao:=κ aA;clear aA;have bj:=κ (rfl:m[i]=m[i]);generalize m[i]=p at *;obtain⟨⟨H,J⟩,f⟩:=p;unfold ke2 at ai ax;simp only at ai ax aZ;obtain⟨n,rfl⟩: ∃n:Nat,f=n:=⟨f.toNat,τ⟩;have az:n<=8:=by omega
   have bs: ¬(w.heap.size=w.heap.size+2):=by omega
   have av:=ae.more (ql.alloc w2 (.cells #[ι H,ι J] 233));have aD:=qs (U.blk aM.o τ) (.cells #[ι H,ι J] 233);have aa:=qs (U.blk aH.o τ) (.cells #[ι H,ι J] 233);have au:ql w w2:=jt.to_more am.o U (λk aX=>by subst aX;omega);have O:=κ av;have ap:=κ aD;have aj:=κ aa;have an:=κ au;have q:=qa aa n (Dc sub (zj m is) n az);have bw:=yw aa n;have bl:=(WZ sub n (zj m is)).1;have bm:=(WZ sub n (zj m is)).2;generalize aw:zL sub n (zj m is)=c at *;have aI:=κ aw;have bv:w.heap.size+2<w2.heap.size:=by have:=MG ae;exact this
   clear av aD aa au bb ae U aw;by_cases h1:H=sub
   ·subst h1;go_wp2;go_roundw
    case rel=>
     have af:=jt.set (jt.refl (λx=>x=w.heap.size+1) (w2.alloc (.cells #[ι H,ι J] 233))) (p:=⟨w.heap.size+1,n,ϋ⟩) rfl (ι (c+1));refine⟨is++[i],O.o.away af τ τ,qo ap.o _ _ η, ?_,(an.o.al _).st η _⟩;rw[ao.o,<-Kr H (zj m is) J n az,aI.o];exact qp aj.o n _
    case measure=>
     have af:=jt.set (jt.refl (λx=>x=w.heap.size+1) (w2.alloc (.cells #[ι H,ι J] 233))) (p:=⟨w.heap.size+1,n,ϋ⟩) rfl (ι (c+1));rw[ak.o,(O.o.away af τ τ).left];simp;omega
   ·have bo:(H==sub)=ύ:=by simpa using h1
    go_wp2;go_roundw
    case rel=>exact⟨is++[i],O.o,ap.o,by rw[ao.o,Y2 sub _ _ h1];exact aj.o,an.o.al _⟩
    case measure=>
     rw[ak.o,O.o.left];simp;omega
def vM (m:Bk) (sub f:Int):Bk:=m.map λp=>if p.1.1=sub/\p.2=0 then (p.1,f) else p
def Gl (m:Bk) (sub f:Int):Bk×List Int:=if 1<=f/\f<=8 then (vM m sub f,jz m sub) else (m,[])
def Yi (m:Bk) (sub f:Int) (ps:List Int):Bk:=ps.foldl (λm p=>qx m (sub,p) f) m
def PO (m:Bk) (sub f:Int) (ps:List Int) (p:Int):Yi m sub f (ps++[p])=qx (Yi m sub f ps) (sub,p) f:=by simp[Yi,Φ]
def VF {k:Int×Int} {f:Int}: ∀{m:Bk},(m.map Prod.fst).Nodup->k∈m.map Prod.fst->qx m k f=m.map λp=>if p.1=k then (p.1,f) else p
 | [],_,h=>by simp at h
 | (a,b)::l,hn,h=>by
  simp only[Ϛ,E0] at hn;unfold qx;by_cases e:k=a
  ·subst e;rw[ϓ rfl];simp only[Ϛ,ϓ]
   congr 1
   symm;have: ∀p∈l,(if p.1=k then (p.1,f) else p)=p:=λp d=>by
    rw[Ϗ];intro e;exact hn.1 (by rw[<-e];exact N1 d)
   calc l.map (λp=>if p.1=k then (p.1,f) else p)=l.map id:=G9 this
    _=l:=by simp
  ·rw[Ϗ e];simp only[Ϛ];rw[Ϗ (λh=>e h.symm)]
   congr 1
   exact VF hn.2 (by simp[e] at h;simpa using h)
def VT (sub f:Int): ∀(ps:List Int) (m:Bk),(m.map Prod.fst).Nodup->(∀p∈ps,(sub,p)∈m.map Prod.fst)->Yi m sub f ps=m.map λp=>if p.1.1=sub/\p.1.2∈ps then (p.1,f) else p
 | [],m,_,_=>by simp[Yi]
 | p::ps,m,hn,hk=>by
  have d:=VF (f:=f) hn (hk p ϟ);have e:Yi m sub f (p::ps)=Yi (qx m (sub,p) f) sub f ps:=rfl;have G:(qx m (sub,p) f).map Prod.fst=m.map Prod.fst:=by
   rw[d,G4];refine G9 λq _=> ?_
   simp only[Function.comp];split<;>rfl
  rw[e,VT sub f ps _ (by rw[G];exact hn) (λq H=>by rw[G];exact hk q (ϛ _ H)),d,G4];refine G9 λq _=> ?_
  obtain⟨⟨a,c⟩,g⟩:=q;simp only[Function.comp];by_cases ea:a=sub
  ·subst ea;by_cases ec:c=p
   ·subst ec;simp
   ·simp[ec]
  ·simp[ea]
def pendB_mem {sub:Int}:x∈jz m sub↔((sub,x),0)∈m:=by
 unfold jz xS;rw[WG,P9];constructor
 ·rintro⟨⟨⟨a,c⟩,g⟩,d,h⟩;by_cases e:a=sub/\g=0
  ·rw[ϓ e] at h;cases h;obtain⟨rfl,rfl⟩:=e;exact d
  ·rw[Ϗ e] at h;cases h
 ·intro h;exact⟨_,h,η⟩
def Pm (d:(m.map Prod.fst).Nodup) {k:Int×Int} {f g:Int} (G:(k,f)∈m) (H:(k,g)∈m):f=g:=by
 induction m with
 | nil=>cases G
 | cons p l ih=>
  simp only[Ϛ,E0] at d;rcases Ϟ.1 G with e1 | h1'<;>rcases Ϟ.1 H with e2 | h2'
  ·rw[<-e1] at e2;cases e2;rfl
  ·exfalso;apply d.1;rw[<-e1];exact ο.2 ⟨_,h2',rfl⟩
  ·exfalso;apply d.1;rw[<-e2];exact ο.2 ⟨_,h1',rfl⟩
  ·exact ih d.2 h1' h2'
def PQ (sub f:Int) (d:(m.map Prod.fst).Nodup):Yi m sub f (jz m sub)=vM m sub f:=by
 rw[VT sub f _ m d (λp H=>N1 (f:=Prod.fst) (pendB_mem.1 H))];unfold vM;refine G9 λq G=> ?_
 obtain⟨⟨a,c⟩,g⟩:=q;simp only;by_cases e:a=sub
 ·subst e;by_cases eg:g=0
  ·subst eg;rw[ϓ ⟨rfl,pendB_mem.2 G⟩,ϓ ⟨rfl,rfl⟩]
  ·rw[Ϗ (λh=>eg (Pm d G (pendB_mem.1 h.2))),Ϗ (λh=>eg h.2)]
 ·rw[Ϗ (λh=>e h.1),Ϗ (λh=>e h.1)]
def SlI.onmap {k:IntKind} {ab:V->Value} (h:SlI k w v l) (U:jk w b ke ab L) (a:jt (λx=>x=b) w w'):SlI k w' v l:=by
 obtain⟨aa,cap,H,I,J,N⟩:=h;refine⟨aa,cap,H,I,λi hi=> ?_,N⟩;obtain⟨c,off,e,d,G⟩:=J i hi;have Y: ¬c=b:=by
  rintro rfl;obtain⟨ad,ac,O,_⟩:=U.ex;simp[World.cell?,O] at G
 exact⟨c,off,e,ϗ d a.size,by rw[a.cells c (off+i) d Y];exact G⟩
def SD (k:Int×Int) (f:Int):(qx m k f).length<=m.length+1:=by
 induction m with
 | nil=>simp[qx]
 | cons p l ih=>
  unfold qx;split<;>simp<;>omega
def MN (h:jy w B b m) (sub f:Int) (au:m.length<=1000000):
  Calls prog 66 #[γ B,ι sub,ι f] w λe w'=>(∃v,e= .returned v/\SlI .i64 w' v (Gl m sub f).2/\ ∀q,v.ownBlock=ϊ q->w.heap.size<=q)/\jy w' B b (Gl m sub f).1/\jt (λx=>x=b) w w':=by
 by_cases hf:1<=f/\f<=8
 ·have H:=κ hf;have J:=κ h;have G:Gl m sub f=(vM m sub f,jz m sub):=by unfold Gl;rw[ϓ hf]
  have O:=κ G;have aD:(jz m sub).length<=1000000:=by
   have ay:=kN sub m;have az:(jz m sub).length=(xS sub m).length:=vI _;omega
  clear h G hf
  go_enter func66,ntmps66
  go_wp2_with first | (go_at_call 106;(go_call yP f _ H.o as e w2 ⟨rfl,rfl⟩)) | (go_at_call 107;(go_call Yc J.o sub au as e aF ⟨⟨v3,rfl,ak,n3⟩,aj⟩;have ao:=κ ak;have ac:=κ aj;obtain⟨aw,av,rfl,_⟩:=ak;have an:=κ n3;clear aj n3))
  go_loopw [18] (λi wr=> ∃j:Nat,j<=(jz m sub).length/\i= ι j/\jy wr B b (Yi m sub f ((jz m sub).take j))/\SlI .i64 wr (δ aw (jz m sub).length av) (jz m sub)/\jt (λx=>x=b) w wr) (λi _=>(jz m sub).length-(intOf i).toNat)
  case atStart=>exact⟨0,τ,rfl,J.o.more ac.o,ao.o,jt.of_more ac.o⟩
  case round=>
   obtain⟨j,aA,rfl,d,Y,U⟩:=hrel;have N:=κ d;have ab:=κ Y;have aa:=κ U;have ax:=β0 d.blk;by_cases hlt:j<(jz m sub).length
   ·obtain⟨aE,cap,ap,_,ad,_⟩:=Y;cases ap;obtain⟨pb,off,rfl,aC,aq⟩:=ad j hlt;have aB:(j:Int)<((jz m sub).length:Int):=by omega
    have af:(jz m sub).getD j 0=(jz m sub)[j]:=by simp[hlt]
    rw[af] at aq;have ai:(jz m sub).take (j+1)=(jz m sub).take j++[(jz m sub)[j]]:=ϡ hlt;have am:=κ ai;clear ad af ai;generalize (jz m sub)[j]=p at *;obtain⟨w4,ah,ag,ae,_⟩:=d.map.update Ys underlying229 (sub,p) f;unfold ke2 at ah;simp only at ah;have al:=κ ag;have I:=κ ae;clear d U ag ae;go_wp2;go_roundw
    case rel=>
     refine⟨j+1,τ,by go_num, ?_,ab.o.onmap N.o.map I.o,aa.o.trans I.o⟩;rw[am.o,PO];exact N.o.put I.o (by have:=H.o;omega) al.o
    case measure=>simp[intOf];omega
   ·obtain rfl:j=(jz m sub).length:=by omega
    clear d Y U;go_wp2;go_ret;rw[O.o];have d:=N.o;rw[Ϩ,PQ sub f J.o.map.keys] at d;exact⟨⟨_,rfl,ab.o,an.o⟩,d,aa.o⟩
 ·have G:Gl m sub f=(m,[]):=by unfold Gl;rw[Ϗ hf]
  have O:=κ G;have H:=κ hf;clear G hf
  go_enter func66,ntmps66
  go_wp2_with (go_at_call 106;(go_call Jh f _ H.o as e w2 ⟨rfl,rfl⟩))
  go_ret;rw[O.o];exact⟨⟨_,rfl,SlI.nil _ _,λq ar=>by cases ar⟩,h,jt.refl _ _⟩
def yU (pr:Sb->Bool) (u:List (Int×Sb)):List Int:=u.filterMap λp=>if pr p.2 then ϊ p.1 else ϋ
def uo (pr:Sb->Bool) (u:List (Int×Sb)):List Int:=srt (yU pr u)
def zV (own:Int) (x:Sb):Bool:=decide (x.1=own)
def j8 (pub:Int) (x:Sb):Bool:=x.2.1&&decide (x.2.2=pub)
def kg (d:Sb->Bool) (u:List (Int×Sb)):(yU d u).length<=u.length:=J6 _ _
def uX (L:List (K×V)) (is:List Nat):(zj L is).length<=is.length:=J6 _ _
def ZB (d:Sb->Bool) (u:List (Int×Sb)) (p:Int×Sb):yU d (u++[p])=yU d u++(if d p.2 then [p.1] else []):=by
 unfold yU;rw[M2];by_cases h:d p.2=ό<;>simp[h]
def Hi (d:Int) (x:Sb) (G:w.cell? ⟨C,0,ϋ⟩=ϊ (ω d)) (I:C<w.heap.size):
  Calls prog 281 #[θ #[ω x.1,x.2.1,ι x.2.2],γ C] w λe w'=>e= .returned (μ (zV d x))/\ql w w':=by
 have H:=(ql.alloc w (.cells #[ω x.1,x.2.1,ι x.2.2] 193)).cells C 0 I;rw[G] at H
 go_enter func281,ntmps281
 go_wp2;go_ret;exact⟨qZ (by unfold zV;rw[D2];simp),ql.alloc _ _⟩
def Hh (d:Int) (x:Sb) (J:w.cell? ⟨C,0,ϋ⟩=ϊ (ι d)) (N:C<w.heap.size):
  Calls prog 144 #[θ #[ω x.1,x.2.1,ι x.2.2],γ C] w λe w'=>e= .returned (μ (j8 d x))/\ql w w':=by
 have H:=(ql.alloc w (.cells #[ω x.1,x.2.1,ι x.2.2] 193)).cells C 0 N;rw[J] at H;cases hb:x.2.1 with
 | false=>
  have G:j8 d x=ύ:=by unfold j8;rw[hb];rfl
  rw[hb] at H
  go_enter func144,ntmps144
  go_wp2;go_ret;exact⟨qZ G.symm,ql.alloc _ _⟩
 | true=>
  have G:j8 d x=decide (x.2.2=d):=by unfold j8;rw[hb];rfl
  rw[hb] at H;have I:=κ G;clear G
  go_enter func144,ntmps144
  go_wp2;go_ret;exact⟨qZ (by rw[I.o,D2];simp),ql.alloc _ _⟩
def Ψ7 (h:P:=by
 obtain⟨bb,hi,aY,aZ,ba⟩:=info_parts (P:=prog) (e:=3) (z:= ι 0) (size:=1) (bytes:=8) ξ;have c2:=β2 h.blk;have aG:=κ aw;have ai:=κ aE;obtain⟨w1,bk,ay,ax,aV⟩:=h.mu.range (P:=prog) underlying184;have bd:=h.mu.lt;have aM:=κ ay;have aJ:=κ ax;clear h aE ay ax aV aw;generalize aX:t.u=u at *;clear aX
 go_enter func143,ntmps143
 go_wp2
 go_loopw [5] (λv5 wr=> ∃is:List Nat,jW wr w.heap.size c (Value.int .i64) vS u is/\wr.ownsRow (w.heap.size+1) 3 1 v5 (yU (Ξa v0) (zj u is)).length ((yU (Ξa v0) (zj u is)).map (Value.int .i64))/\ql w wr) (λ_ wr=>uO wr c w.heap.size)
 case atStart=>exact⟨[],aM.o,World.ownsRow_nil _ _ _ _,aJ.o⟩
 case round=>
  obtain⟨is,J,am,aj⟩:=hrel;have au:=κ J;have aa:=κ am;have ab:=κ aj;have aq:=κ J.left;rcases J.next (P:=prog) with ⟨aA,ak⟩ | ⟨i,aS,w2,bh,bf,ak,az,ag,aW,aB⟩
  ·clear J am aj;have ao:=κ aA;clear aA;have aT:(yU (Ξa v0) (zj u is)).length<4611686018427387904:=by
    have aO:=kg (Ξa v0) (zj u is);have aP:=uX u is;have bc:=ao.o;have aQ:=ai.o;omega
   go_wp2_with (go_at_call 137;(go_call DQ aa.o aT as e bn ⟨rfl,N,aC⟩;have aK:=κ N;have aH:=κ aC;clear N aC))
   go_ret;have aU:=au.o.perm ao.o;have aN:srt (yU (Ξa v0) (zj u is))=uo (Ξa v0) u:=gL (aU.filterMap _);have N:=aK.o;rw[aN] at N;refine⟨⟨_,rfl,SlI.of_owns N ?_,λq O=>by have:=jS aa.o O;omega⟩,ab.o.grown aH.o ab.o.size ?_⟩
   ·have aO:=kg (Ξa v0) u;have aP:(uo (Ξa v0) u).length=(yU (Ξa v0) u).length:=vI _;have aQ:=ai.o;omega
   ·intro q O;have:=jS aa.o O;omega
  ·have bi:=kg (Ξa v0) (zj u is);have bj:=uX u is;have aD:=uW (L:=u) (is:=is) aS;have G:=ZB (Ξa v0) (zj u is) u[i];rw[<-aD] at G;have be:=ai.o;have bg:is.length<1000000:=by omega
   clear J am aj aD;generalize u[i]=p at *;obtain⟨k,x⟩:=p;unfold vS at ak aB;simp only at ak aB G;have H:=κ (Yx aa.o ag (λz an=>by subst an;exact K5 _));have av:=κ (az.more (ql.alloc w2 (.cells #[ω x.1,x.2.1,ι x.2.2] 193)));have ah:ql w w2:=jt.to_more ab.o ag (λz an=>by subst an;exact ϔ _);have ar:=κ ah;have bl:w.heap.size+1<=w2.heap.size:=by have:=au.o.rlt;omega
   have U:=κ (qs (qq ah aG.o) (.cells #[ω x.1,x.2.1,ι x.2.2] 193));clear az ag ah aW;cases hpr:Ξa v0 x with
   | true=>
    rw[hpr,ϓ rfl] at G;have ad:=κ G;have ae:=κ hpr;clear G hpr
    go_wp2_with first | (((with_reducible refine(Ξb v0 x (qa U.o 0 rfl) (qn U.o)).mono ?_);rintro e w4 ⟨rfl,d⟩;rw[ae.o];have I:=κ (av.o.more d);have ac:=κ (jE (H.o.alloc (.cells #[ω x.1,x.2.1,ι x.2.2] 193)) d);have Y:=κ ((ar.o.al (.cells #[ω x.1,x.2.1,ι x.2.2] 193)).trans d);have z4:w.heap.size+1<=w4.heap.size:=ϙ (by simp;omega) d.size;clear d)) | (at_builtin;refine qU _ rfl (.tmp 21) (.tmp 23) 57 rfl (w.heap.size+1) 3 bb (ι 0) 8 underlying57 hi aY aZ ba rfl _ .i64 (yU (Ξa v0) (zj u is)) rfl (ac.o.alloc _) _ [k] rfl (SlI.lit .i64 w4 [k] 3 _ 1 _ η rfl rfl η) (by simp;omega) ζ (by simp;omega) ?_;intro bm w6 aF af _;have aL:=κ aF;have ap:=κ (jt.of_grown af);have aI:=κ af;clear aF af)
    go_roundw
    case rel=>
     refine⟨is++[i],(I.o.more X6).away ap.o ?_ ?_, ?_, ?_⟩
     ·intro e;have:=jS H.o e;omega
     ·intro e;have:=jS H.o e;omega
     ·rw[ad.o];exact aL.o
     ·exact((Y.o.al _).grown aI.o (Y.o.al _).size (λq O=>by have:=jS H.o O;omega))
    case measure=>
     have aR:=(I.o.more X6).away ap.o (λe=>by have:=jS H.o e;omega) (λe=>by have:=jS H.o e;omega);rw[aq.o,aR.left];simp;omega
   | false=>
    rw[hpr,Ϗ η,Θ] at G;have ad:=κ G;have ae:=κ hpr;clear G hpr
    go_wp2_with (((with_reducible refine(Ξb v0 x (qa U.o 0 rfl) (qn U.o)).mono ?_);rintro e w4 ⟨rfl,d⟩;rw[ae.o];have I:=κ (av.o.more d);have ac:=κ (jE (H.o.alloc (.cells #[ω x.1,x.2.1,ι x.2.2] 193)) d);have Y:=κ ((ar.o.al (.cells #[ω x.1,x.2.1,ι x.2.2] 193)).trans d);clear d))
    go_roundw
    case rel=>exact⟨is++[i],I.o,by rw[ad.o];exact ac.o,Y.o⟩
    case measure=>
     rw[aq.o,I.o.left];simp;omega):P:=h
section
open _root_.Go.Proofs.YtmgaiiffmheabaaGreatDoor renaming zV->Ξa,Hi->Ξb
def Ku {T a c:Nat} {t:TS} (h:jq w T a b c t) (v0:Int) (aw:w.heap[C]? =ϊ (.cells #[ω v0] 69 (0,0))) (aE:t.u.length<=1000000):
  Calls prog 143 #[γ T,.func (.func 281) #[] #[γ C]] w λe w'=>(∃v,e= .returned v/\SlI .i64 w' v (uo (zV v0) t.u)/\ ∀q,v.ownBlock=ϊ q->w.heap.size<=q)/\ql w w':=Ψ7
end
section
open _root_.Go.Proofs.YtmgaiiffmheabaaGreatDoor renaming j8->Ξa,Hh->Ξb
def Dm {T a c:Nat} {t:TS} (h:jq w T a b c t) (v0:Int) (aw:w.heap[C]? =ϊ (.cells #[ι v0] 3 (0,0))) (aE:t.u.length<=1000000):
  Calls prog 143 #[γ T,.func (.func 144) #[] #[γ C]] w λe w'=>(∃v,e= .returned v/\SlI .i64 w' v (uo (j8 v0) t.u)/\ ∀q,v.ownBlock=ϊ q->w.heap.size<=q)/\ql w w':=Ψ7
end
def Ge (x:Int) (l:List Int) (w:World) (e:Ending) (w':World):Prop:= ∃n:Int,(0<=n↔x∈l)/\ -1<=n/\e= .returned (.int .i64 n)/\w=w'
def Ψ8 (h:P:=by
 obtain⟨af,cap,rfl,ae,H,_⟩:=s
 go_enter Ξa,Ξb
 go_wp2
 go_loop [8] (λi=> ∃k:Nat,k<=l.length/\i= ι k/\x∉l.take k) (λi=>l.length-(intOf i).toNat)
 case atStart=>exact⟨0,τ,rfl,η⟩
 case round=>
  obtain⟨k,ac,rfl,d⟩:=hrel;by_cases hlt:k<l.length
  ·obtain⟨b,off,rfl,ab,U⟩:=H k hlt;have ad:(k:Int)<(l.length:Int):=by omega
   have I:l.getD k 0=l[k]:=by simp[hlt]
   rw[I] at U;have J:l.take (k+1)=l.take k++[l[k]]:=ϡ hlt;have Y:l[k]∈l:=ϥ hlt;have O:=κ J;have G:=κ d;clear H I J d;generalize l[k]=y at *;by_cases e:x=y
   ·subst e;go_wp2;go_ret;exact⟨k,⟨λ_=>Y,λ_=>by omega⟩,τ,rfl,rfl⟩
   ·have aa:(x==y)=ύ:=by simpa using e
    have N:=κ e;clear e;go_wp2
    go_round
    case rel=>exact⟨k+1,τ,by go_num,by rw[O.o];simp;exact⟨G.o,N.o⟩⟩
    case measure=>simp[intOf];omega
  ·obtain rfl:k=l.length:=by omega
   clear H;have G:=κ d;clear d;go_wp2;go_ret;refine⟨-1,⟨λh=>by omega,λh=> ?_⟩,τ,rfl,rfl⟩;have:=G.o;rw[Ϩ] at this;exact ϧ h this):P:=h
section
open _root_.Go.Proofs.Tryz renaming func135->Ξa,ntmps135->Ξb
def Lu (x:Int) (s:SlI .u32 w v l):Calls prog 135 #[v,ω x] w (Ge x l w):=Ψ8
end
def Yb (x:Int) (s:SlI .u32 w v l):Calls prog 95 #[v,ω x] w λe w'=>e= .returned (μ (decide (x∈l)))/\w=w':=by
 go_enter func95,ntmps95
 go_wp2_with (go_at_call 135;(go_call Lu x s as e w2 ⟨n,d,H,rfl,rfl⟩;have G:=κ d;clear d))
 go_ret;exact⟨qZ (by rw[D2];simp only[C3];exact G.o),rfl⟩
def oAt (o:List (Int×Og)) (p s0 s1 s2:Int):Nat->List (Int×Og)
 | 0=>o
 | 1=>qx o s0 (p,0)
 | 2=>qx (qx o s0 (p,0)) s1 (p,1)
 | _=>qx (qx (qx o s0 (p,0)) s1 (p,1)) s2 (p,2)
def sAt (s:List (Og×Int)) (p s0 s1 s2:Int):Nat->List (Og×Int)
 | 0=>s
 | 1=>qx s (p,0) s0
 | 2=>qx (qx s (p,0) s0) (p,1) s1
 | _=>qx (qx (qx s (p,0) s0) (p,1) s1) (p,2) s2
def BE (o:List (Int×Og)) (p s0 s1 s2:Int) (k:Nat) (h:k<3):oAt o p s0 s1 s2 (k+1)=qx (oAt o p s0 s1 s2 k) ([s0,s1,s2].getD k 0) (p,(k:Int)):=by
 have:k=0∨k=1∨k=2:=by omega
 rcases this with rfl | rfl | rfl<;>rfl
def AW (s:List (Og×Int)) (p s0 s1 s2:Int) (k:Nat) (h:k<3):sAt s p s0 s1 s2 (k+1)=qx (sAt s p s0 s1 s2 k) (p,(k:Int)) ([s0,s1,s2].getD k 0):=by
 have:k=0∨k=1∨k=2:=by omega
 rcases this with rfl | rfl | rfl<;>rfl
def KI (s0 s1 s2:Int):Prop:=s1=s0∨s2=s0∨s2=s1
instance (s0 s1 s2:Int):Decidable (KI s0 s1 s2):=by unfold KI;exact inferInstance
def vA (t:TS) (p s0 s1 s2:Int):TS×Int:=if 0<=p/\p<3 then (if KI s0 s1 s2 then (t,1) else if (qh t.s (p,0)).isSome then (t,6) else if (qh t.o s0).isSome∨(qh t.o s1).isSome∨(qh t.o s2).isSome then (t,6)
 else ({t with o:=oAt t.o p s0 s1 s2 3,s:=sAt t.s p s0 s1 s2 3},0)) else (t,1)
def IK {k:Nat} (h:k<3) (d:[s0,s1,s2].getD k 0∈[s0,s1,s2].take k):KI s0 s1 s2:=by
 have:k=0∨k=1∨k=2:=by omega
 unfold KI;rcases this with rfl | rfl | rfl<;>simp at d<;>omega
def IJ (h: ∀k,k<3->[s0,s1,s2].getD k 0∉[s0,s1,s2].take k): ¬KI s0 s1 s2:=by
 have d:=h 1 τ;have G:=h 2 τ;simp at d G;unfold KI;omega
def Np {p:Int->Prop} {k:Nat} (h:k<3) (d:p ([s0,s1,s2].getD k 0)):p s0∨p s1∨p s2:=by
 have:k=0∨k=1∨k=2:=by omega
 rcases this with rfl | rfl | rfl
 ·exact ϑ d
 ·exact ϕ (ϑ d)
 ·exact ϕ (ϕ d)
def Nr {p:Int->Prop} (h: ∀k,k<3-> ¬p ([s0,s1,s2].getD k 0)): ¬(p s0∨p s1∨p s2):=by
 rintro(a | a | a)
 ·exact h 0 τ a
 ·exact h 1 τ a
 ·exact h 2 τ a
def Hy (s0 s1 s2:Int) (k:Nat) (h:k<3) (w:World):(Instr.index 70 (θ #[ω s0,ω s1,ω s2]) (ι (k:Int))).run prog w= .ok (ω ([s0,s1,s2].getD k 0)) w:=by
 have:k=0∨k=1∨k=2:=by omega
 rcases this with rfl | rfl | rfl
 all_goals first | rfl | simp[go_sem]
def sl3 (C k:Nat) (H:k<=3) (w:World):(Instr.sliceAt 70 (γ C) ϋ (ϊ (ι (k:Int))) ϋ).run prog w= .ok (δ (ϊ ⟨C,0,ϋ⟩) k 3) w:=by
 have d:prog.arrayLen 70=3:=by kernel_rfl
 have G:(sizeOf (prog.elem 70)).run prog w= .ok 1 w:=by kernel_rfl
 rw[run_sliceAt_array_h w 70 ⟨C,0,ϋ⟩ ξ .i64 (k:Int) τ (by rw[d];omega),G,d];simp[slicedAt,Addr.add]
def MQ (h:w.heap[C]? =ϊ (.cells #[ω s0,ω s1,ω s2] 70 (0,0))) (k:Nat) (G:k<=3):SlI .u32 w (δ (ϊ ⟨C,0,ϋ⟩) k 3) ([s0,s1,s2].take k):=by
 have d:([s0,s1,s2].take k).length=k:=by simp;omega
 refine⟨ϊ ⟨C,0,ϋ⟩,3,by rw[d],by rw[d];omega,λi hi=> ?_,by rw[d];exact G,by unfold maxLen;omega,λh=>by cases h⟩;rw[d] at hi;refine⟨C,0,rfl,qn h,qa h _ ?_⟩;have:i=0∨i=1∨i=2:=by omega
 rcases this with rfl | rfl | rfl
 ·have:([s0,s1,s2].take k).getD 0 0=s0:=by rw[ϒ,N3 τ];rfl
  rw[this];rfl
 ·have:([s0,s1,s2].take k).getD 1 0=s1:=by rw[ϒ,N3 τ];rfl
  rw[this];rfl
 ·have:([s0,s1,s2].take k).getD 2 0=s2:=by rw[ϒ,N3 τ];rfl
  rw[this];rfl
def kJ (r:TS×Int) (T a b c:Nat) (w:World) (e:Ending) (w':World):Prop:=e= .returned (.int .i64 r.2)/\jq w' T a b c r.1/\jt (λz=>z=a∨z=b) w w'
def Dw {T a c:Nat} {t:TS} (h:jq w T a b c t) (p s0 s1 s2:Int):
    Calls prog 56 #[γ T,ι p,θ #[ω s0,ω s1,ω s2]] w (kJ (vA t p s0 s1 s2) T a b c w):=by
  by_cases hp:0<=p/\p<3
  · have I:=κ hp
    have G:=κ h
    have aE:=qj w (.cells #[ω s0,ω s1,ω s2] 70)
    have aA:=κ aE
    clear hp h aE
    go_enter func56,ntmps56
    go_wp2_with (go_at_call 94;(go_call vw p _ I.o as e w2 ⟨rfl,rfl⟩))
    go_loop [20] (λi=> ∃k:Nat,k<=3/\i= ι k/\ ∀j,j<k->[s0,s1,s2].getD j 0∉[s0,s1,s2].take j) (λi=>3-(intOf i).toNat)
    case atStart=>exact⟨0,τ,rfl,λj ar=>by omega⟩
    case round=>
      obtain⟨k,aJ,rfl,aa⟩:=hrel
      have H:=κ aa
      clear aa
      by_cases hk3:k<3
      · have aK:(k:Int)<3:=by omega
        have aI:=λw=>Hy s0 s1 s2 k hk3 w
        have aB:=κ (MQ aA.o k τ)
        have bc:=λw'=>sl3 w.heap.size k τ w'
        have aO:=κ (IK (s0:=s0) (s1:=s1) (s2:=s2) hk3)
        have ah:Hid (∀y,[s0,s1,s2].getD k 0=y->y∉[s0,s1,s2].take k-> ∀j,j<k+1->[s0,s1,s2].getD j 0∉[s0,s1,s2].take j):=κ (λy e au j ar=>by
          subst e
          by_cases e:j<k
          · exact H.o j e
          · obtain rfl:j=k:=by omega
            exact au)
        generalize ay:[s0,s1,s2].getD k 0=y at *
        clear ay
        by_cases J:y∈[s0,s1,s2].take k
        · have U:=κ J
          clear J
          go_wp2_with (go_at_call 95;(go_call Yb y aB.o as e w2 ⟨rfl,rfl⟩;rw[ϻ U.o]))
          go_ret
          have d:vA t p s0 s1 s2=(t,1):=by unfold vA;rw[ϓ I.o,ϓ (aO.o U.o)]
          unfold kJ
          rw[d]
          exact⟨rfl,G.o.more X6,jt.of_more X6⟩
        · have U:=κ J
          clear J
          go_wp2_with (go_at_call 95;(go_call Yb y aB.o as e w2 ⟨rfl,rfl⟩;rw[ϯ U.o]))
          go_round
          case rel=>exact⟨k+1,τ,by go_num,ah.o y rfl U.o⟩
          case measure=>simp[intOf];omega
      · obtain rfl:k=3:=by omega
        have ag:=κ (IJ H.o)
        clear H
        cases hps:(qh t.s (p,0)).isSome with
        | true=>
          have O:=κ hps
          clear hps
          go_wp2_with (go_at_call 96;(go_call yC (G.o.more (ql.alloc w (.cells #[ω s0,ω s1,ω s2] 70))) p as e w2 ⟨rfl,rfl⟩;rw[O.o]))
          go_ret
          have d:vA t p s0 s1 s2=(t,6):=by unfold vA;rw[ϓ I.o,Ϗ ag.o,ϓ O.o]
          unfold kJ
          rw[d]
          exact⟨rfl,G.o.more X6,jt.of_more X6⟩
        | false=>
          have O:=κ hps
          clear hps
          go_wp2_with (go_at_call 96;(go_call yC (G.o.more (ql.alloc w (.cells #[ω s0,ω s1,ω s2] 70))) p as e w2 ⟨rfl,rfl⟩;rw[O.o]))
          go_loopw [33] (λi wr=> ∃k:Nat,k<=3/\i= ι k/\(∀j,j<k-> ¬(qh t.o ([s0,s1,s2].getD j 0)).isSome=ό)/\ql (w.alloc (.cells #[ω s0,ω s1,ω s2] 70)) wr) (λi _=>3-(intOf i).toNat)
          case atStart=>exact⟨0,τ,rfl,λj ar=>by omega,ql.refl _⟩
          case round=>
            obtain⟨k,aJ,rfl,aa,aM⟩:=hrel
            have H:=κ aa
            have N:=κ aM
            clear aa aM
            by_cases hk3:k<3
            · have aK:(k:Int)<3:=by omega
              have aI:=λw=>Hy s0 s1 s2 k hk3 w
              have ac:=(G.o.more (ql.alloc w _)).more N.o
              have ba:=β0 ac.blk
              have q:=ac.lookO ([s0,s1,s2].getD k 0)
              have ab:=κ (Np (p:=λz=>(qh t.o z).isSome=ό) (s0:=s0) (s1:=s1) (s2:=s2) hk3)
              have ah:Hid (∀y,[s0,s1,s2].getD k 0=y-> ¬(qh t.o y).isSome=ό-> ∀j,j<k+1-> ¬(qh t.o ([s0,s1,s2].getD j 0)).isSome=ό):=κ (λy e au j ar=>by
                subst e
                by_cases e:j<k
                · exact H.o j e
                · obtain rfl:j=k:=by omega
                  exact au)
              have ak:=κ ac
              clear ac
              generalize ay:[s0,s1,s2].getD k 0=y at *
              clear ay
              cases hs:(qh t.o y).isSome with
              | true=>
                rw[hs] at q
                have ai:=κ hs
                clear hs
                go_wp2
                go_ret
                have d:vA t p s0 s1 s2=(t,6):=by
                  unfold vA
                  rw[ϓ I.o,Ϗ ag.o,Ϗ (by rw[O.o];simp),ϓ]
                  exact ab.o ai.o
                unfold kJ
                rw[d]
                exact⟨rfl,ak.o.more X6,jt.of_more ((X6.trans N.o).al _)⟩
              | false=>
                rw[hs] at q
                have ai:=κ hs
                clear hs
                go_wp2
                go_roundw
                case rel=>exact⟨k+1,τ,by go_num,ah.o y rfl (by rw[ai.o];simp),N.o.al _⟩
                case measure=>simp[intOf];omega
            · obtain rfl:k=3:=by omega
              have aQ:=κ (Nr (p:=λz=>(qh t.o z).isSome=ό) H.o)
              have ae:=κ (qq N.o aA.o)
              have aW:=β0 ae.o
              have aX:=β1 ae.o
              have aY:=β2 ae.o
              have d:vA t p s0 s1 s2=({t with o:=oAt t.o p s0 s1 s2 3,s:=sAt t.s p s0 s1 s2 3},0):=by
                unfold vA
                rw[ϓ I.o,Ϗ ag.o,Ϗ (by rw[O.o];simp),Ϗ aQ.o]
              have af:=κ d
              have ak:=κ ((G.o.more (ql.alloc w _)).more N.o)
              have aP:=κ (jt.of_more (S:=λz=>z=a∨z=b) ((ql.alloc w (.cells #[ω s0,ω s1,ω s2] 70)).trans N.o))
              clear H d
              go_wp2_with fail
              clear aW aX aY
              go_loopw [48] (λi aN=> ∃k:Nat,k<=3/\i= ι k/\jq aN T a b c {t with o:=oAt t.o p s0 s1 s2 k,s:=sAt t.s p s0 s1 s2 k}/\jt (λz=>z=a∨z=b) w aN) (λi _=>3-(intOf i).toNat)
              case atStart=>exact⟨0,τ,rfl,ak.o,aP.o⟩
              case round=>
                obtain⟨k,aJ,rfl,aG,aH⟩:=hrel
                have aj:=κ aG
                have ab:=κ aH
                clear aG aH
                by_cases hk3:k<3
                · have aK:(k:Int)<3:=by omega
                  have aI:=λw=>Hy s0 s1 s2 k hk3 w
                  have aR:=κ (BE t.o p s0 s1 s2 k hk3)
                  have aS:=κ (AW t.s p s0 s1 s2 k hk3)
                  generalize [s0,s1,s2].getD k 0=y at *
                  have am:=κ (aj.o.more (ql.alloc wr (.cells #[ι p,ι (k:Int)] 111)))
                  have aZ:=κ (qj wr (.cells #[ι p,ι (k:Int)] 111))
                  have bb:a<wr.heap.size:=aj.o.mo.lt
                  obtain⟨w9,av,J,ad,_⟩:=(am.o.mo.more (ql.drewN _ 1)).update Aa underlying182 y (p,(k:Int))
                  unfold kO at av
                  simp only at av
                  have an:=κ ((am.o.more (ql.drewN _ 1)).putO ad J)
                  have aF:=κ (ad.blk (qb aZ.o 1) τ)
                  have aU:=κ ad
                  obtain⟨w8,aw,aL,ax,_⟩:=(an.o.ms.more (ql.drewN _ 1)).update Yr underlying183 (p,(k:Int)) y
                  unfold kO at aw
                  simp only at aw
                  have aV:=κ ((an.o.more (ql.drewN _ 1)).putS ax aL)
                  have aT:=κ ax
                  clear J ad aL ax
                  go_wp2_with fail
                  have ao: ∀z:qt (wr.alloc (.cells #[ι p,ι (k:Int)] 111)),z.w'.cell? ⟨T,0,ϋ⟩=ϊ (.map (ϊ a)):=λz=>qa (qq z.h am.o.blk) 0 rfl
                  have ap: ∀z:qt (wr.alloc (.cells #[ι p,ι (k:Int)] 111)),z.w'.cell? ⟨wr.heap.size,0,ϋ⟩=ϊ (ι p):=λz=>z.new 0 rfl
                  have aq: ∀z:qt (wr.alloc (.cells #[ι p,ι (k:Int)] 111)),z.w'.cell? ⟨wr.heap.size,1,ϋ⟩=ϊ (ι (k:Int)):=λz=>z.new 1 rfl
                  refine Qn (wr.alloc (.cells #[ι p,ι (k:Int)] 111)) 6 7 [6] ?_
                  refine Qq6 ?_
                  (refine Qe ?_;intro K Y)
                  refine Y _ _ ?_
                  clear Y K
                  refine qA ?_
                  clear ao ap aq av
                  go_wp2_with fail
                  have ao: ∀z:qt w9,z.w'.cell? ⟨T,1,ϋ⟩=ϊ (.map (ϊ b)):=λz=>qa (qq z.h an.o.blk) 1 rfl
                  have ap: ∀z:qt w9,z.w'.cell? ⟨wr.heap.size,0,ϋ⟩=ϊ (ι p):=λz=>qa (qq z.h aF.o) 0 rfl
                  have aq: ∀z:qt w9,z.w'.cell? ⟨wr.heap.size,1,ϋ⟩=ϊ (ι (k:Int)):=λz=>qa (qq z.h aF.o) 1 rfl
                  refine Qn w9 6 7 [6] ?_
                  refine Qq6 ?_
                  (refine Qe ?_;intro K Y)
                  refine Y _ _ ?_
                  clear Y K
                  refine qA ?_
                  clear ao ap aq aw
                  go_wp2
                  go_roundw
                  case rel=>
                    have aC:jq w8 T a b c {t with o:=oAt t.o p s0 s1 s2 (k+1),s:=sAt t.s p s0 s1 s2 (k+1)}:=by rw[aR.o,aS.o];exact aV.o
                    have aD:=(((ab.o.trans (jt.of_more (X6.dr 1))).trans (aU.o.mono (λz az=>ϑ az))).trans (jt.of_more (ql.drewN _ 1))).trans (aT.o.mono (λz az=>ϕ az))
                    first
                      | exact⟨k+1,τ,by go_num,aC,aD⟩
                      | (repeat apply Exists.intro
                         exact⟨⟨k+1,τ,by go_num,aC,aD⟩,rfl⟩)
                  case measure=>simp[intOf];omega
                · obtain rfl:k=3:=by omega
                  go_wp2
                  go_ret
                  unfold kJ
                  rw[af.o]
                  exact⟨rfl,aj.o,ab.o⟩
  · have I:=κ hp
    have G:=κ h
    have d:vA t p s0 s1 s2=(t,1):=by unfold vA;rw[Ϗ hp]
    have af:=κ d
    clear hp h d
    go_enter func56,ntmps56
    go_wp2_with (go_at_call 94;(go_call Z8 p _ I.o as e w2 ⟨rfl,rfl⟩))
    go_ret
    unfold kJ
    rw[af.o]
    exact⟨rfl,G.o.more X6,jt.of_more X6⟩
structure Gr where
 wanted:Bool
 any:Bool
 last:Int
 tries:Int
structure zu where
 buf:Jb
 any:Bool
 great:Int
 asks:Gr
 askedOf:Bool
variable {t:zu}
structure AcS where
 o:Og
 num:Int
 pk:Pk
structure RqS where
 o:Og
 at_:Int
 body:List Int
structure CfR where
 room:Int
 hold:Int
 wait:Int
 space:Int
 retry:Int
 most:Int
structure CnR where
 lost:Int
 malf:Int
 strange:Int
 told:Int
 acc:Int
structure RmS where
 cfg:CfR
 closed:Bool
 ret:List (Og×Bool)
 clock:Int
 queue:List (List Int)
 tab:TS
 lanes:List (Int×LnS)
 strs:List (Og×zu)
 pks:List AcS
 reqs:List RqS
 cnt:CnR
 book:Bk
variable {s:RmS}
def subIds:List Int:=[0,1,2,3,4,5]
def orgs:List Og:=[(0,0),(0,1),(0,2),(1,0),(1,1),(1,2),(2,0),(2,1),(2,2)]
def prR (pr:Sb->Bool) (u:List (Int×Sb)):List Int:=subIds.filter λx=>match qh u x with
 | some sb=>pr sb
 | none=>ύ
def RmS.origins (s:RmS):List Og:=orgs.filter λo=>(qh s.strs o).isSome
def RmS.readyAt (s:RmS) (o:Og):Bool:=match qh s.strs o with
 | some t=>xa t.buf s.clock
 | none=>ύ
def RmS.ready (s:RmS):Option Og:=s.origins.find? s.readyAt
def wO (l:LnS) (k:Int):Bool:=l.wanted&&(!l.gone&&(!decide (l.cur=l.tgt)&&decide (l.tgt=k)))
def RmS.wants (s:RmS) (o:Og):Bool:=(match qh s.strs o with
 | some t=>t.askedOf
 | none=>ύ)||(prR (j8 o.1) s.tab.u).any λx=>match qh s.lanes x with
 | some l=>wO l o.2
 | none=>ύ
def Zc (retry:Int):Nat->Int->Int
 | 0,g=>g
 | k+1,g=>if g<1∨retry<=g then g else Zc retry k (2* g)
def Yg (space retry tries:Int):Int:=if Zc retry (tries-1).toNat space<=retry then Zc retry (tries-1).toNat space else retry
def uq (a:Gr) (wanted:Bool):Int:=if wanted&&a.wanted then a.tries else 0
def Hc (space retry:Int) (a:Gr) (wanted:Bool) (now:Int):Bool:= !wanted||(a.any&&decide (now-a.last<Yg space retry (uq a wanted)))
def vU (space retry:Int) (a:Gr) (wanted:Bool) (now:Int):Gr×Bool:=
 if Hc space retry a wanted now then (⟨wanted,a.any,a.last,uq a wanted⟩,ύ) else (⟨wanted,ό,now,uq a wanted+1⟩,ό)
abbrev Zb (src:Int):qQ:=(1,206,qy 0 4++qy src 4,())
def ug (src:Int):List Int:=(vW [Zb src]).1
def RmS.request (s:RmS) (o:Og):RmS:={s with reqs:=s.reqs++[⟨o,s.clock,ug ((qh s.tab.s o).getD 0)⟩]}
def RmS.tick1 (s:RmS) (o:Og):RmS:=match qh s.strs o with
 | none=>s
 | some t=>if (vU s.cfg.space s.cfg.retry t.asks (s.wants o) s.clock).2
  then {s with strs:=qx s.strs o {t with asks:=(vU s.cfg.space s.cfg.retry t.asks (s.wants o) s.clock).1}}.request o
  else {s with strs:=qx s.strs o {t with asks:=(vU s.cfg.space s.cfg.retry t.asks (s.wants o) s.clock).1}}
def RmS.tick (s:RmS):RmS×Int:=if s.closed then (s,7) else (s.origins.foldl RmS.tick1 {s with clock:=s.clock+1},0)
def yp (subs:List Int):List Og:=(0,0)::(1,0)::(subIds.filter λx=>decide (x∈subs)).flatMap λx=>[(2,x),(3,x),(4,x)]
def RmS.there (s:RmS):List Int:=subIds.filter λx=>(qh s.lanes x).isSome
def RmS.workers (s:RmS):List Og:=yp s.there
def xB (n:Int):Int:=if n=2 then 1 else if n=3 then 2 else 3
def RmS.mayOpen (s:RmS) (w:Og):Bool:=
 if w.1=0 then decide (0<s.queue.length) else if w.1=1 then s.ready.isSome else match qh s.lanes w.2 with
 | some l=>vC l (xB w.1)
 | none=>ύ
def RmS.may (s:RmS) (w:Og):Bool:=decide (w∈s.workers)&&(if s.closed then !((qh s.ret w).getD ύ) else s.mayOpen w)
def jp (b:Bk) (sub id f:Int):Bk:=if qh b (sub,id)=ϊ 0 then (zi b (sub,id) f).1 else b
def RmS.tell1 (s:RmS) (x:Int):RmS:=match qh s.tab.u x with
 | none=>s
 | some sb=>if sb.2.1 then (match qh s.lanes x with
  | none=>s
  | some l=>if l.wanted&&jj l.cur then (match qh s.strs (sb.2.2,l.cur) with
   | none=>s
   | some t=>{s with strs:=qx s.strs (sb.2.2,l.cur) {t with askedOf:=ό}}) else s) else s
def RmS.tellS (s:RmS) (src:Int):RmS:=(prR (zV src) s.tab.u).foldl RmS.tell1 s
def RmS.tell (s:RmS) (b:List Int):RmS:=
 if (zx b).2=0 then (xU (zx b).1).foldl RmS.tellS {s with cnt:={s.cnt with told:=s.cnt.told+1}} else {s with cnt:={s.cnt with malf:=s.cnt.malf+1}}
def KH (near sq:Int):Int:=near+ahd (near%65536) sq
def yV (t:zu) (sq:Int):Int:=if t.any then KH t.great sq else 65536+sq
def Ji (b:Bk) (subs:List Int) (id:Int):Bk:=subs.foldl (λb x=>(vT b (x,id)).1) b
def xG (b:Bk) (subs:List Int) (id f:Int):Bk:=subs.foldl (λb x=>jp b x id f) b
def yY (e:Int):Int:=if e=10 then 3 else if e=9 then 2 else if e=8 then 6 else 0
def Ye (t:zu) (p:Pk) (clock id:Int):zu:=
 ⟨(jP t.buf (yV t p.sq) clock id).1,ό,if t.any=ύ∨t.great<yV t p.sq then yV t p.sq else t.great,t.asks,if zJ p.pl then ύ else t.askedOf⟩
def RmS.accept (s:RmS) (o:Og) (p:Pk):RmS:=match qh s.strs o with
 | none=>s
 | some t=>{s with
   strs:=qx s.strs o (Ye t p s.clock s.pks.length)
   pks:=s.pks++[⟨o,yV t p.sq,p⟩]
   cnt:={s.cnt with acc:=s.cnt.acc+1}
   book:=if yY (jP t.buf (yV t p.sq) s.clock s.pks.length).2=0 then Ji s.book (prR (j8 o.1) s.tab.u) s.pks.length
    else xG (Ji s.book (prR (j8 o.1) s.tab.u) s.pks.length) (prR (j8 o.1) s.tab.u) s.pks.length (yY (jP t.buf (yV t p.sq) s.clock s.pks.length).2)}
def Ve (b:List Int):Bool:=decide (2<=b.length)&&(decide (192<=b.getD 1 0)&&decide (b.getD 1 0<=223))
def RmS.media (s:RmS) (b:List Int):RmS:=
 if (jl b).2=0 then (match qh s.tab.o (jl b).1.sc with
  | none=>{s with cnt:={s.cnt with strange:=s.cnt.strange+1}}
  | some o=>s.accept o (jl b).1) else {s with cnt:={s.cnt with malf:=s.cnt.malf+1}}
def RmS.read (s:RmS):RmS:=match s.queue with
 | []=>s
 | b::q=>if Ve b then {s with queue:=q}.tell b else {s with queue:=q}.media b
def RmS.put1 (x:ItS) (s:RmS) (sub:Int):RmS:=if qh s.book (sub,x.id)=ϊ 0 then (match qh s.lanes sub with
 | none=>s
 | some l=>if (xp l x).2.2.1 then {s with lanes:=qx s.lanes sub (xp l x).1,book:=jp s.book sub (xp l x).2.1 6} else {s with lanes:=qx s.lanes sub (xp l x).1}) else s
def ac0:AcS:=⟨(0,0),0,pk0⟩
def RmS.item (s:RmS) (o:Og) (id:Int):ItS:=⟨id,o.2,zJ (s.pks.getD id.toNat ac0).pk.pl,(s.pks.getD id.toNat ac0).pk⟩
def RmS.orderAt (s:RmS) (o:Og) (t:zu):RmS:=
 subIds.foldl (RmS.put1 (s.item o (yD t.buf s.clock).2.2.1)) {s with strs:=qx s.strs o {t with buf:=(yD t.buf s.clock).1}}
def RmS.order (s:RmS):RmS:=match s.ready with
 | none=>s
 | some o=>(match qh s.strs o with
  | none=>s
  | some t=>s.orderAt o t)
def RmS.choose (s:RmS) (sub:Int):RmS:=match qh s.lanes sub with
 | none=>s
 | some l=>{s with
   lanes:=qx s.lanes sub (jf l).1
   book:=if (jf l).2.2.2&& !decide ((jf l).2.2.1=0) then jp s.book sub (jf l).2.1 (jf l).2.2.1 else s.book}
def RmS.rewrite (s:RmS) (sub:Int):RmS:=match qh s.lanes sub with
 | none=>s
 | some l=>{s with
   lanes:=qx s.lanes sub (qY l).1
   book:=if (qY l).2.2.2&&(qY l).2.2.1 then jp s.book sub (qY l).2.1 6 else s.book}
def RmS.write (s:RmS) (sub:Int) (acc:Bool):RmS:=match qh s.lanes sub with
 | none=>s
 | some l=>{s with
   lanes:=qx s.lanes sub (qX l acc).1
   tab:=if (qX l acc).1.gone then (zM s.tab sub).1 else s.tab
   book:=if (qX l acc).1.gone then vM (if (qX l acc).2.2.2&&decide ((qX l acc).2.2.1=1) then jp s.book sub (qX l acc).2.1 (qX l acc).2.2.1 else s.book) sub 7
    else if (qX l acc).2.2.2&&decide ((qX l acc).2.2.1=1) then jp s.book sub (qX l acc).2.1 (qX l acc).2.2.1 else s.book}
def RmS.drain1 (s:RmS) (id:Int):RmS:={s with book:=xG s.book subIds id 8}
def RmS.drainO (s:RmS) (o:Og):RmS:=match qh s.strs o with
 | none=>s
 | some t=>(thJ t.buf.holds).foldl RmS.drain1 {s with strs:=qx s.strs o {t with buf:=vP t.buf}}
def KG (l:LnS) (n:Int):List Int:=if n=1 then l.A.map (·.id) else if n=2 then l.B.map (·.1.id) else l.C.map (·.1)
def RmS.drainL (s:RmS) (w:Og):RmS:=match qh s.lanes w.2 with
 | none=>s
 | some l=>{s with
   lanes:=qx s.lanes w.2 (vh l (xB w.1))
   book:=(KG l (xB w.1)).foldl (λb id=>jp b w.2 id 8) s.book}
def RmS.drain (s:RmS) (w:Og):RmS:=
 if w.1=0 then {s with queue:=[],cnt:={s.cnt with lost:=s.cnt.lost+s.queue.length}}
 else if w.1=1 then s.origins.foldl RmS.drainO s
 else s.drainL w
def vi (w:Og):Og×Bool:=if w.1=0 then ((0,0),ύ) else if w.1=1 then ((0,0),ό) else if w.1=2 then ((1,0),ό) else ((w.1-1,w.2),ό)
def RmS.goesR (s:RmS) (w:Og):Bool:= !(vi w).2||(qh s.ret (vi w).1).getD ύ
def RmS.endW (s:RmS) (w:Og):RmS:=if s.goesR w then {s.drain w with ret:=qx s.ret w ό} else s.drain w
def RmS.stepW (s:RmS) (w:Og) (acc:Bool):RmS:=
 if s.closed then s.endW w else if w.1=0 then s.read else if w.1=1 then s.order else if w.1=2 then s.choose w.2 else if w.1=3 then s.rewrite w.2 else s.write w.2 acc
def RmS.pick (s:RmS) (w:Og) (acc:Bool):RmS×Bool:=if s.may w then (s.stepW w acc,ό) else (s,ύ)
def xY (c:CfR):Bool:=decide (1<=c.room/\c.room<=8)&&(decide (Ok c.hold c.wait)&&(decide (1<=c.space/\c.space<=c.retry/\c.retry<=1000)&&decide (1<=c.most/\c.most<=10)))
def ud (c:CfR):RmS:=⟨c,ύ,[],0,[],⟨[],[],[]⟩,[],[],[],[],⟨0,0,0,0,0⟩,[]⟩
def uc (c:CfR):zu:=⟨CU c.hold c.wait,ύ,0,⟨ύ,ύ,0,0⟩,ύ⟩
def RmS.publish (s:RmS) (p s0 s1 s2:Int):RmS×Int:=
 if s.closed then (s,7) else if (vA s.tab p s0 s1 s2).2=0 then ({s with tab:=(vA s.tab p s0 s1 s2).1,strs:=qx (qx (qx s.strs (p,0) (uc s.cfg)) (p,1) (uc s.cfg)) (p,2) (uc s.cfg)},0) else (s,(vA s.tab p s0 s1 s2).2)
def RmS.join (s:RmS) (x own sq st:Int):RmS×Int:=
 if s.closed then (s,7) else if (yI s.tab x own).2=0 then ({s with tab:=(yI s.tab x own).1,lanes:=qx s.lanes x (Vd s.cfg.room.toNat s.cfg.most own sq st)},0) else (s,(yI s.tab x own).2)
def Yh [DecidableEq K] (m:List (K×V)) (x:K):List (K×V):=m.filter λp=> !decide (p.1=x)
def JV (s:RmS) (x:Int):Bool:=match qh s.lanes x with
 | some l=>l.gone
 | none=>ύ
def RmS.subscribe (s:RmS) (x p k:Int):RmS×Int:=
 if s.closed then (s,7) else if jj k=ύ then (s,1) else if JV s x then (s,5) else if (vL s.tab x p).2=0 then (match qh s.lanes x with
  | none=>(s,0)
  | some l=>({s with tab:=(vL s.tab x p).1,lanes:=qx s.lanes x (jO l k).1},(jO l k).2)) else (s,(vL s.tab x p).2)
def RmS.want (s:RmS) (x k:Int):RmS×Int:=
 if s.closed then (s,7) else if (decide (0<=x/\x<6)&&jj k)=ύ then (s,1) else if ((qh s.tab.u x).getD sb0).2.1=ύ then (s,5) else (match qh s.lanes x with
  | none=>(s,0)
  | some l=>({s with lanes:=qx s.lanes x (jO l k).1},(jO l k).2))
def RmS.leave (s:RmS) (x:Int):RmS×Int:=
 if s.closed then (s,7) else if (zW s.tab x).2=0 then ({s with tab:=(zW s.tab x).1,book:=vM s.book x 7,lanes:=Yh s.lanes x},0) else (s,(zW s.tab x).2)
def RmS.arrive (s:RmS) (b:List Int):RmS×Int:=
 if s.closed then (s,7) else if (s.queue.length:Int)<s.cfg.room then ({s with queue:=s.queue++[b]},0) else ({s with queue:=s.queue.tail++[b],cnt:={s.cnt with lost:=s.cnt.lost+1}},0)
def RmS.shut (s:RmS):RmS×Int:=if s.closed then (s,7) else ({s with closed:=ό},0)
def RmS.ended (s:RmS):Bool:=s.closed&&decide (s.ret.length=s.workers.length)
def Γl (x:AcS) (a:Option Addr) (b:Nat) (c:Option Addr) (d:Nat) (e:Option Addr) (f:Nat):Mm:=.o
instance (x:AcS) (a:Option Addr) (b:Nat) (c:Option Addr) (d:Nat) (e:Option Addr) (f:Nat):CoeDep Mm (Γl x a b c d e f) (List Value):=⟨[ι x.o.1,ι x.o.2,ι x.num,μ x.pk.mr,υ x.pk.ty,φ x.pk.sq,ω x.pk.st,ω x.pk.sc,δ a x.pk.ss.length b,μ x.pk.has,φ x.pk.pr,δ c x.pk.ex.length d,δ e x.pk.pl.length f]⟩
instance (x:AcS) (a:Option Addr) (b:Nat) (c:Option Addr) (d:Nat) (e:Option Addr) (f:Nat):CoeDep Mm (Γl x a b c d e f) (Array Value):=⟨((Γl x a b c d e f):List Value).toArray⟩
instance (x:AcS) (a:Option Addr) (b:Nat) (c:Option Addr) (d:Nat) (e:Option Addr) (f:Nat):CoeDep Mm (Γl x a b c d e f) Value:=⟨θ (Γl x a b c d e f)⟩
inductive Tg where
 | no | junk | room | ret | queue | table | book | lns | sts | data | pks | reqs
 | lane (x:Int)
 | str (o:Og)
variable {T:Nat->Tg} {u:Tg}
structure RmK where
 R:Nat
 M1:Nat
 RQ:Nat
 AQ:Nat
 tb:Nat
 ta:Nat
 tc:Nat
 td:Nat
 B:Nat
 b:Nat
 ML:Nat
 MS:Nat
 LA:List (Int×Nat)
 SA:List (Og×Nat)
variable {k:RmK}
def gj (n:Nat):Value:= .pointer (ϊ ⟨n,0,ϋ⟩)
def zH (k:RmK) (vp vr:Value) (s:RmS):Array Value:=
 #[.pointer (ϊ ⟨k.B,0,ϋ⟩),.int .i64 s.cfg.room,.int .i64 s.cfg.hold,.int .i64 s.cfg.wait,.int .i64 s.cfg.space,.int .i64 s.cfg.retry,.int .i64 s.cfg.most,.bool s.closed,.map (ϊ k.M1),.int .i64 s.clock,
  .pointer (ϊ ⟨k.RQ,0,ϋ⟩),.pointer (ϊ ⟨k.tb,0,ϋ⟩),.map (ϊ k.ML),.map (ϊ k.MS),vp,vr,.int .i64 s.cnt.lost,.int .i64 s.cnt.malf,.int .i64 s.cnt.strange,.int .i64 s.cnt.told,.int .i64 s.cnt.acc]
def RBy:qL (List Int):=λw cs b=> ∃v,cs=[v]/\SlI .u8 w v b/\Byt b
def RAc:qL AcS:=λw cs a=> ∃vs ve vp,cs=[.int .i64 a.o.1,.int .i64 a.o.2,.int .i64 a.num,.bool a.pk.mr,.int .u8 a.pk.ty,.int .u16 a.pk.sq,.int .u32 a.pk.st,.int .u32 a.pk.sc,vs,.bool a.pk.has,.int .u16 a.pk.pr,ve,vp]/\PkS w vs ve vp a.pk
def RRq:qL RqS:=λw cs q=> ∃v,cs=[.int .i64 q.o.1,.int .i64 q.o.2,.int .i64 q.at_,v]/\SlI .u8 w v q.body
def Fe:QQ RRq:=λ_ _ _ _ m ⟨v,d,G⟩=>⟨v,d,G.keep m⟩
def gK (Rb:Nat) (t:zu):Array Value:= #[.pointer (ϊ ⟨Rb,0,ϋ⟩),.bool t.any,.int .i64 t.great,.bool t.asks.wanted,.bool t.asks.any,.int .i64 t.asks.last,.int .i64 t.asks.tries,.bool t.askedOf]
structure KJ (N:Nat->Prop) (w:World) (p Rb:Nat) (v:Value) (t:zu):Prop where
 blk:w.heap[p]? =ϊ (.cells (gK Rb t) 109 (0,0))
 buf:xZ w Rb v t.buf
 ok:JOK t.buf
 sub: ∀b,N b->b<w.heap.size
 np:N p
 nb:N Rb
 ne:p≠Rb
 nv: ∀g,v.ownBlock=ϊ g->N g/\g≠p
def Hl (N:Nat->Prop) (w:World) (p:Nat) (t:zu):Prop:= ∃Rb v,KJ N w p Rb v t
def RmK.Holds (k:RmK) (T:Nat->Tg) (w:World) (vp vr:Value) (s:RmS):Tg->Prop
 | .room=>T k.R= .room/\w.heap[k.R]? =ϊ (.cells (zH k vp vr s) 101 (0,0))
 | .ret=>T k.M1= .ret/\jk w k.M1 kO Value.bool s.ret
 | .queue=>T k.RQ= .queue/\T k.AQ= .queue/\RgR 1 238 24 RBy (λb=>T b≠ .data) w k.RQ k.AQ s.cfg.room.toNat s.queue
 | .table=>T k.tb= .table/\T k.ta= .table/\T k.tc= .table/\T k.td= .table/\jq w k.tb k.ta k.tc k.td s.tab
 | .book=>T k.B= .book/\T k.b= .book/\jy w k.B k.b s.book
 | .lns=>T k.ML= .lns/\jk w k.ML (Value.int .i64) gj k.LA
 | .sts=>T k.MS= .sts/\jk w k.MS kO gj k.SA
 | .pks=>je 13 RAc (λb=>T b≠ .data/\T b≠ .pks) w 0 327 vp s.pks/\ ∀g,vp.ownBlock=ϊ g->T g= .pks
 | .reqs=>je 4 RRq (λb=>T b≠ .data/\T b≠ .reqs) w 0 259 vr s.reqs/\ ∀g,vr.ownBlock=ϊ g->T g= .reqs
 | .lane x=>(∀p l,qh k.LA x=ϊ p->qh s.lanes x=ϊ l->zw (λb=>T b= .lane x) w p l)/\(qh k.LA x).isSome=(qh s.lanes x).isSome
 | .str o=>(∀p t,qh k.SA o=ϊ p->qh s.strs o=ϊ t->Hl (λb=>T b= .str o) w p t)/\(qh k.SA o).isSome=(qh s.strs o).isSome
 | .no=> ∀b,w.heap.size<=b->T b= .no
 | .junk=>True
 | .data=>True
structure RmX (T:Nat->Tg) (w0 w:World) (k:RmK) (vp vr:Value) (s:RmS) (F:List Nat):Prop where
 all: ∀t,k.Holds T w vp vr s t
 ge: ∀b,T b≠ .no->w0.heap.size<=b
 law: ∀b∈F,T b= .no/\w0.heap.size<=b/\b<w.heap.size
 more:ql w0 w
def qI (w0 w:World) (k:RmK) (s:RmS) (F:List Nat):Prop:= ∃T vp vr,RmX T w0 w k vp vr s F
def jZ (T:Nat->Tg) (t:Tg) (w w':World):Nat->Tg:=λb=>if w.heap.size<=b/\b<w'.heap.size then t else T b
section
variable {T T':Nat->Tg} {w0 w w':World} {k:RmK} {vp vr:Value} {s:RmS} {F:List Nat} {t:Tg}
def RmX.fresh (h:RmX T w0 w k vp vr s F): ∀b,w.heap.size<=b->T b= .no:=h.all .no
def jd (G: ∀b,w.heap.size<=b->T b= .no) (H:u≠ .no) (b:Nat):jZ T t w w' b=u↔(T b=u∨(u=t/\w.heap.size<=b/\b<w'.heap.size)):=by
 unfold jZ;split
 ·rename_i d;constructor
  ·intro e;exact ϕ ⟨e.symm,d⟩
  ·rintro(e | e)
   ·rw[G b d.1] at e;exact ϧ e.symm H
   ·exact e.1.symm
 ·rename_i d;constructor
  ·exact ϑ
  ·rintro(e | e)
   ·exact e
   ·exact ϧ e.2 d
def jF (d: ∀b,w.heap.size<=b->T b= .no) (H:u≠ .no) (G:u≠t) (b:Nat):jZ T t w w' b=u↔T b=u:=by
 rw[jd d H];constructor
 ·rintro(e | e)
  ·exact e
  ·exact ϧ e.1 G
 ·exact ϑ
def wW (d: ∀b,w.heap.size<=b->T b= .no) (G:t≠ .no):(λb=>jZ T t w w' b=t)=xf (λb=>T b=t) w w':=by
 funext b
 apply propext;rw[jd d G];unfold xf;simp
def Q9 (d: ∀b,w.heap.size<=b->T b= .no) (H:w.heap.size<=w'.heap.size): ∀b,w'.heap.size<=b->jZ T t w w' b= .no:=λb G=>by
 unfold jZ;rw[Ϗ τ];exact d b τ
def Holds.frame (h:k.Holds T w vp vr s u) (a:jt S w w') (G: ∀b,S b->T b≠u/\T b≠ .data) (H: ∀b,T' b=u↔T b=u) (Y: ∀b,T b= .data->T' b= .data) (ad:u≠ .no):k.Holds T' w' vp vr s u:=by
 have e:(λb=>T' b=u)=(λb=>T b=u):=by funext b;exact propext (H b)
 cases u with
 | no=>exact ϧ rfl ad
 | junk=>trivial
 | data=>trivial
 | room=>exact⟨(H _).2 h.1,a.blk h.2 (λx=>(G _ x).1 h.1)⟩
 | ret=>exact⟨(H _).2 h.1,h.2.away a (λx=>(G _ x).1 h.1)⟩
 | queue=>
  obtain⟨I,J,N⟩:=h;exact⟨(H _).2 I,(H _).2 J,N.step a (λx=>(G _ x).1 I) (λx=>(G _ x).1 J) (λb d=>(G b d).2) (λb d=>ϑ λe=>d (Y b e))⟩
 | table=>
  obtain⟨I,J,N,aa,ac⟩:=h;exact⟨(H _).2 I,(H _).2 J,(H _).2 N,(H _).2 aa,ac.away a (λx=>(G _ x).1 I) (λx=>(G _ x).1 J) (λx=>(G _ x).1 N) (λx=>(G _ x).1 aa)⟩
 | book=>
  obtain⟨I,J,N⟩:=h;exact⟨(H _).2 I,(H _).2 J,N.away a (λx=>(G _ x).1 I) (λx=>(G _ x).1 J)⟩
 | lns=>exact⟨(H _).2 h.1,h.2.away a (λx=>(G _ x).1 h.1)⟩
 | sts=>exact⟨(H _).2 h.1,h.2.away a (λx=>(G _ x).1 h.1)⟩
 | pks=>
  obtain⟨I,J⟩:=h;refine⟨(I.step (a.mono λb d=>⟨(G b d).2,(G b d).1⟩)).other (λb d=>ϑ ⟨λe=>d.1 (Y b e),λe=>d.2 ((H b).2 e)⟩),λg O=>(H _).2 (J g O)⟩
 | reqs=>
  obtain⟨I,J⟩:=h;refine⟨(I.step (a.mono λb d=>⟨(G b d).2,(G b d).1⟩)).other (λb d=>ϑ ⟨λe=>d.1 (Y b e),λe=>d.2 ((H b).2 e)⟩),λg O=>(H _).2 (J g O)⟩
 | lane x=>
  refine⟨λp l I J=> ?_,h.2⟩;rw[e];exact(h.1 p l I J).away a (λb d=>(G b d).1)
 | str o=>
  refine⟨λp t I J=> ?_,h.2⟩;rw[e];obtain⟨ab,v,x⟩:=h.1 p t I J;have U: ∀b,T b= .str o-> ¬S b:=λb d ae=>(G b ae).1 d
  exact⟨ab,v,a.blk x.blk (U _ x.np),⟨a.blk x.buf.blk (U _ x.nb),x.buf.row.away a (λg O=>U _ (x.nv g O).1)⟩,x.ok,λb d=>ϗ (x.sub b d) a.size,x.np,x.nb,x.ne,x.nv⟩
end
section
variable {K V:Type} [DecidableEq K]
def qF (m:List (K×V)) (k x:K) (v:V):qh (qx m k v) x=if x=k then ϊ v else qh m x:=by
 induction m with
 | nil=>simp[qx,qh]
 | cons p m ih=>
  obtain⟨a,u⟩:=p;unfold qx;by_cases e:k=a
  ·subst e;rw[ϓ rfl];by_cases e2:x=k<;>simp[qh,e2]
  ·rw[Ϗ e];by_cases e2:x=a
   ·subst e2;have: ¬x=k:=λh=>e h.symm
    simp[qh,this]
   ·simp only[qh,Ϗ e2];exact ih
def xD (m:List (K×V)) (k:K) (v:V):qh (qx m k v) k=ϊ v:=by rw[qF,ϓ rfl]
def vF (m:List (K×V)) {k x:K} (v:V) (h:x≠k):qh (qx m k v) x=qh m x:=by rw[qF,Ϗ h]
def uR (m:List (K×V)) (k x:K):qh (Yh m k) x=if x=k then ϋ else qh m x:=by
 induction m with
 | nil=>simp[Yh,qh]
 | cons p m ih=>
  obtain⟨a,u⟩:=p;unfold Yh at ih ⊢;rw[G2];by_cases e:a=k
  ·subst e;rw[Ϗ η,ih];by_cases e2:x=a<;>simp[qh,e2]
  ·rw[ϓ (by simp[e])];by_cases e2:x=a
   ·subst e2;simp[qh,e]
   ·simp only[qh,Ϗ e2];exact ih
def gD {m:List (K×V)} (d:(m.map Prod.fst).Nodup) (k x:K):qh (yK m k) x=if x=k then ϋ else qh m x:=by
 induction m with
 | nil=>simp[yK,qh]
 | cons p m ih=>
  obtain⟨a,u⟩:=p;rw[Ϛ,E0] at d;unfold yK;by_cases e:k=a
  ·subst e;rw[ϓ rfl];by_cases e2:x=k
   ·subst e2;rw[ϓ rfl];have:=d.1;clear ih;have key: ∀(m:List (K×V)),x∉m.map Prod.fst->qh m x=ϋ:=by
     intro m
     induction m with
     | nil=>intro _;rfl
     | cons q m ih=>
      intro h;rw[Ϛ,Ϟ,not_or] at h;obtain⟨b,z⟩:=q;simp only[qh,Ϗ h.1];exact ih h.2
    exact key m this
   ·simp[qh,e2]
  ·rw[Ϗ e];by_cases e2:x=a
   ·subst e2;have: ¬x=k:=λh=>e h.symm
    simp[qh,this]
   ·simp only[qh,Ϗ e2];exact ih d.2
end
def qw (F:List Nat) (w w':World):Prop:=w.heap.size<=w'.heap.size/\ ∀b∈F,w'.heap[b]? =w.heap[b]?
section
variable {T T':Nat->Tg} {w0 w w':World} {k k':RmK} {vp vr vp' vr':Value} {s s':RmS} {F F' Fn:List Nat} {t:Tg}
def qw.refl (F:List Nat) (w:World):qw F w w:=⟨ϔ _,λ_ _=>rfl⟩
def qw.trans {w'':World} (h:qw F w w') (k:qw F w' w''):qw F w w'':=⟨ϙ h.1 k.1,λb d=>(k.2 b d).trans (h.2 b d)⟩
def qw.sub (h:qw F w w') (G: ∀b∈F',b∈F):qw F' w w':=⟨h.1,λb d=>h.2 b (G b d)⟩
def qw.blk {o:Obj} (h:qw F w w') (d:b∈F) (k:w.heap[b]? =ϊ o):w'.heap[b]? =ϊ o:=by rw[h.2 b d];exact k
def RmX.own (h:RmX T w0 w k vp vr s F) (G:t≠ .no/\t≠ .data) (a:jt (λb=>T b=t) w w') (Y:k'.Holds (jZ T t w w') w' vp' vr' s' t)
  (rest: ∀u,u≠t->u≠ .no->k.Holds (jZ T t w w') w' vp vr s u->k'.Holds (jZ T t w w') w' vp' vr' s' u):RmX (jZ T t w w') w0 w' k' vp' vr' s' F/\qw F w w':=by
 have I:=h.fresh;have U: ∀b,T b=t->w0.heap.size<=b:=λb d=>h.ge b (by rw[d];exact G.1)
 refine⟨⟨λu=> ?_,λb d=> ?_,λb d=> ?_,a.to_more h.more U⟩,a.size,λb d=>a.block b (h.law b d).2.2 (λe=>G.1 (by rw[<-e];exact(h.law b d).1))⟩
 ·by_cases e:u=t
  ·subst e;exact Y
  ·by_cases en:u= .no
   ·subst en;exact Q9 I a.size
   ·refine rest u e en (Holds.frame (h.all u) a (λb d=>⟨λH=>e (H.symm.trans d),λH=>G.2 (d.symm.trans H)⟩) (λb=>jF I en e b) (λb d=> ?_) en);exact(jF I η (C4 G.2) b).2 d
 ·unfold jZ at d;split at d
  ·have:=h.more.size;omega
  ·exact h.ge b d
 ·obtain⟨J,N,O⟩:=h.law b d;refine⟨?_,N,ϗ O a.size⟩;unfold jZ;rw[Ϗ τ];exact J
def RmX.mut (h:RmX T w0 w k vp vr s F) (a:jt (λb=>b∈F) w w'):RmX T w0 w' k vp vr s F:=by
 refine⟨λu=> ?_,h.ge,λb d=>⟨(h.law b d).1,(h.law b d).2.1,ϗ (h.law b d).2.2 a.size⟩,a.to_more h.more (λb d=>(h.law b d).2.1)⟩;by_cases en:u= .no
 ·subst en;exact λb d=>h.fresh b (ϙ a.size d)
 ·exact Holds.frame (h.all u) a (λb d=>⟨λe=>en (by rw[<-e];exact(h.law b d).1),λe=>by rw[(h.law b d).1] at e;cases e⟩) (λb=>Iff.rfl) (λb d=>d) en
def RmX.on (h:RmX T w0 w k vp vr s F) (m:ql w w'):RmX T w0 w' k vp vr s F:=h.mut (jt.of_more m)
def RmX.sub (h:RmX T w0 w k vp vr s F) (G: ∀b∈F',b∈F):RmX T w0 w k vp vr s F':=⟨h.all,h.ge,λb d=>h.law b (G b d),h.more⟩
def RmX.adds (h:RmX T w0 w k vp vr s F) (m:ql w w') (G: ∀b∈Fn,w.heap.size<=b/\b<w'.heap.size):RmX T w0 w' k vp vr s (Fn++F):=by
 have d:=h.on m;refine⟨d.all,d.ge,λb H=> ?_,d.more⟩;rcases Ϫ.1 H with e | e
 ·exact⟨h.fresh b (G b e).1,ϙ h.more.size (G b e).1,(G b e).2⟩
 ·exact d.law b e
def RmX.data (h:RmX T w0 w k vp vr s F) (X:Nat->Prop) (G: ∀b,X b->T b= .no/\w0.heap.size<=b/\b<w.heap.size/\b∉F): ∃T',RmX T' w0 w k vp vr s F/\(∀b,X b->T' b= .data)/\ ∀b,¬X b->T' b=T b:=by
 classical
 have e: ∀u,u≠ .no->u≠ .data-> ∀b,(if X b then Tg.data else T b)=u↔T b=u:=λu H I b=>by
  by_cases d:X b
  ·rw[ϓ d,(G b d).1];exact⟨λx=>ϧ x.symm I,λx=>ϧ x.symm H⟩
  ·rw[Ϗ d]
 have N: ∀b,T b= .data->(if X b then Tg.data else T b)= .data:=λb d=>by
  split
  ·rfl
  ·exact d
 refine⟨λb=>if X b then .data else T b,⟨λu=> ?_,λb d=> ?_,λb d=> ?_,h.more⟩,λb d=>ϓ d,λb d=>Ϗ d⟩
 ·by_cases en:u= .no
  ·subst en;intro b d;show (if X b then Tg.data else T b)= .no;rw[Ϗ (λx=>by have:=(G b x).2.2.1;omega)];exact h.fresh b d
  ·by_cases ed:u= .data
   ·subst ed;trivial
   ·exact Holds.frame (h.all u) (jt.refl (λ_=>False) w) (λb d=>d.elim) (e u en ed) N en
 ·by_cases hx:X b
  ·exact(G b hx).2.1
  ·rw[Ϗ hx] at d;exact h.ge b d
 ·obtain⟨H,I,J⟩:=h.law b d;refine⟨?_,I,J⟩;show (if X b then Tg.data else T b)= .no;rw[Ϗ (λx=>(G b x).2.2.2 d)];exact H
def qI.on (h:qI w0 w k s F) (m:ql w w'):qI w0 w' k s F:=by
 obtain⟨T,vp,d,x⟩:=h;exact⟨T,vp,d,x.on m⟩
def qI.sub (h:qI w0 w k s F) (d: ∀b∈F',b∈F):qI w0 w k s F':=by
 obtain⟨T,vp,G,x⟩:=h;exact⟨T,vp,G,x.sub d⟩
def qI.adds (h:qI w0 w k s F) (m:ql w w') (d: ∀b∈Fn,w.heap.size<=b/\b<w'.heap.size):qI w0 w' k s (Fn++F):=by
 obtain⟨T,vp,G,x⟩:=h;exact⟨T,vp,G,x.adds m d⟩
def qI.more (h:qI w0 w k s F):ql w0 w:=h.elim λ_ h=>h.elim λ_ h=>h.elim λ_ h=>h.more
def qI.law (h:qI w0 w k s F): ∀b∈F,w0.heap.size<=b/\b<w.heap.size:=h.elim λ_ h=>h.elim λ_ h=>h.elim λ_ h b d=>(h.law b d).2
def qI.stay (h:qI w0 w k s F) (m:ql w w'):qw F w w':=⟨m.size,λb d=>m.block b (h.law b d).2⟩
end
def DM [DecidableEq K] {m:List (K×V)} (d:(m.map Prod.fst).Nodup) {k:K} {f:V}:qh m k=ϊ f↔(k,f)∈m:=by
 induction m with
 | nil=>simp[qh]
 | cons p m ih=>
  obtain⟨a,v⟩:=p;rw[Ϛ,E0] at d;simp only[qh];by_cases e:k=a
  ·subst e;rw[ϓ rfl];constructor
   ·intro h;injection h with h
    subst h;simp
   ·intro h;rcases Ϟ.1 h with h | h
    ·injection h with _ h
     rw[h]
    ·exact ϧ (ο.2 ⟨(k,f),h,rfl⟩) d.1
  ·rw[Ϗ e,ih d.2];constructor
   ·intro h;exact ϛ _ h
   ·intro h;rcases Ϟ.1 h with h | h
    ·injection h with h _
     exact ϧ h e
    ·exact h
def WL (d:Sb->Bool) (u:List (Int×Sb)) (x:Int):x∈prR d u↔x∈subIds/\ ∃sb,qh u x=ϊ sb/\d sb=ό:=by
 unfold prR;rw[E8];cases h:qh u x with
 | none=>simp[h]
 | some sb=>simp[h]
def GD:subIds.Pairwise (· < ·):=by decide
def Ur (x:Int):x∈subIds↔0<=x/\x<6:=by
 unfold subIds;constructor
 ·intro h;simp at h;omega
 ·intro h;simp;omega
def Ik (d:Sb->Bool) (u:List (Int×Sb)):(prR d u).Pairwise (· < ·):=T8 W8 GD
def Vl {u:List (Int×Sb)} (G:(u.map Prod.fst).Nodup) (I: ∀x,(qh u x).isSome=ό->0<=x/\x<6) (d:Sb->Bool):uo d u=prR d u:=by
 have aa:(yU d u).Nodup:=by
  have:yU d u=(u.filter λq=>d q.2).map Prod.fst:=by
   unfold yU;clear G I
   induction u with
   | nil=>rfl
   | cons q l ih=>
    by_cases e:d q.2=ό<;>simp[e,ih]
  rw[this];exact List.Nodup.sublist ((W8).map _) G
 have Y: ∀x,x∈yU d u↔x∈prR d u:=λx=>by
  rw[WL,Ur];unfold yU;rw[P9];constructor
  ·rintro⟨⟨a,H⟩,U,h⟩;by_cases e:d H=ό
   ·simp only[e,C1] at h;cases h;have:=(DM G).2 U;exact⟨I _ (by rw[this];rfl),H,this,e⟩
   ·simp[e] at h
  ·rintro⟨_,H,N,O⟩;exact⟨(x,H),(DM G).1 N,by simp[O]⟩
 have J:=Ik d u;have ab:(prR d u).Nodup:=J.imp λ{a b} h e=>by omega
 have ac:(yU d u).Perm (prR d u):=(List.perm_ext_iff_of_nodup aa ab).2 Y;unfold uo;rw[gL ac,Zh (J.imp λ{a b} h=>by omega)]
def ZX (a b:Og) (w:World):(Op.equal 157 (kO a) (kO b)).run prog w= .ok (decide (a=b)) w:=by
 have J:prog.stoodInHeld 157=ύ:=by kernel_rfl
 obtain⟨d,G⟩:=a;obtain⟨H,I⟩:=b;unfold Op.equal kO;rw[show Op.maxDepth=9999+1 from rfl,run_equalIn_agg w 9999 157 _ _ ξ J];simp[go_sem];by_cases e1:d=H<;>by_cases e2:G=I<;>simp[e1,e2]
def KX:yz prog 157 kO:=
 yz.of_ask underlying157 (λa b=>by simp[Instr.sameNow]) ZX (λb k w=>by
  rw[show (10000:Nat)=9999+1 from rfl];unfold Instr.checkKey kO
  simp[run_underlying underlying157,go_sem,Ga underlying3 9999 ζ]) (λk=>by simp[Instr.sameBits,kO])
def Gv (w:World):(zeroValue 4).run prog w= .ok (μ ύ) w:=by kernel_rfl
def Uf (w:World):(zeroValue 113).run prog w= .ok (π ϋ) w:=by kernel_rfl
def Gs (w:World):(zeroValue 105).run prog w= .ok (π ϋ) w:=by kernel_rfl
def Gh (o:Option Nat):Value:= .pointer (o.map λn=>⟨n,0,ϋ⟩)
def xq {L:List (Int×Nat)} (h:jk w b (Value.int .i64) gj L) (x:Int) (c:Bool):
  (Instr.lookup 94 (.map (ϊ b)) (ι x) c).run prog w= .ok (if c then .tuple #[Gh (qh L x),μ (qh L x).isSome] else Gh (qh L x)) w:=by
 rw[h.look kE underlying94 (Uf w) x c];cases qh L x<;>cases c<;>rfl
def ya {L:List (Og×Nat)} (h:jk w b kO gj L) (o:Og) (c:Bool):
  (Instr.lookup 95 (.map (ϊ b)) (θ #[ι o.1,ι o.2]) c).run prog w= .ok (if c then .tuple #[Gh (qh L o),μ (qh L o).isSome] else Gh (qh L o)) w:=by
 have:=h.look Yr underlying95 (Gs w) o c;unfold kO at this;rw[this];cases qh L o<;>cases c<;>rfl
def VH {L:List (Og×Bool)} (h:jk w b kO μ L) (o:Og):
  (Instr.lookup 91 (.map (ϊ b)) (θ #[ι o.1,ι o.2]) ύ).run prog w= .ok (μ ((qh L o).getD ύ)) w:=by
 have:=h.look KX underlying91 (Gv w) o ύ;unfold kO at this;rw[this];cases qh L o<;>rfl
def Ht (h:jy w B b m) (sub id:Int):
  Calls prog 248 #[θ #[γ B],ι sub,ι id] w λe w'=>e= .returned (.tuple #[ι ((qh m (sub,id)).getD 0),μ (qh m (sub,id)).isSome])/\ql w w':=by
 have G:=κ h;clear h
 go_enter func248,ntmps248
 go_wp2_with (go_at_call 294;(go_call MK (G.o.more (ql.alloc w (.cells #[γ B] 90))) (sub,id) as e w1 ⟨rfl,d⟩;have H:=κ d;clear d))
 go_ret2
 exact⟨rfl,X6.trans H.o⟩
def Hs (h:jy w B b m) (sub id:Int):
  Calls prog 191 #[θ #[γ B],ι sub,ι id] w λe w'=>e= .returned (μ (decide (qh m (sub,id)=ϊ 0)))/\ql w w':=by
 have J:=κ h;clear h;have e:decide (qh m (sub,id)=ϊ 0)=((qh m (sub,id)).isSome&&((qh m (sub,id)).getD 0==0)):=by cases qh m (sub,id) with | none=>simp | some x=>(by_cases hx:x=0<;>simp[hx])
 rw[e];generalize O:qh m (sub,id)=g at *;have N:=κ O;clear O;obtain⟨f,I⟩:=ν (g.getD 0);obtain⟨i,hi⟩:=ν (g.isSome);have G:=κ (Ht (J.o.more (ql.alloc w (.cells #[γ B] 90))) sub id);rw[N.o,I,hi] at G;rw[I,hi];clear e I hi N J
 go_enter func191,ntmps191
 cases i with
 | true=>
  go_wp2_with (go_at_call 248;(go_call G.o as e w1 ⟨rfl,d⟩;have H:=κ d;clear d))
  go_ret;exact⟨rfl,X6.trans H.o⟩
 | false=>
  go_wp2_with (go_at_call 248;(go_call G.o as e w1 ⟨rfl,d⟩;have H:=κ d;clear d))
  go_ret;exact⟨rfl,X6.trans H.o⟩
def gI (h:jy w B b m) (sub id f:Int):
  Calls prog 178 #[θ #[γ B],ι sub,ι id,ι f] w λe w'=>e= .returned (.tuple #[])/\jy w' B b (jp m sub id f)/\jt (λx=>x=b) w w':=by
 have I:=κ h;have O:ql w (w.alloc (.cells #[γ B] 90)):=ql.alloc _ _;have Y:=κ (qj w (.cells #[γ B] 90));have H:=κ (Hs (I.o.more O) sub id);clear h O;unfold jp;by_cases ho:qh m (sub,id)=ϊ 0
 ·rw[ϓ ho];rw[ϻ ho] at H;clear ho
  go_enter func178,ntmps178
  go_wp2_with (first | (go_at_call 191;(go_call H.o as e w1 ⟨rfl,d⟩;have G:Hid (ql w w1):=κ (X6.trans d);have ab:w1.cell? ⟨w.heap.size,0,ϋ⟩=ϊ (π (ϊ ⟨B,0,ϋ⟩)):=qa (qq d Y.o) 0 rfl;clear d)) | (go_at_call 229;(go_call F0 (I.o.more G.o) (sub,id) f as e w2 ⟨rfl,N,J⟩;have aa:=κ N;have U:=κ J;clear N J)))
  (refine bodyPost_end (v:= .tuple #[]) ?re1 rfl ?_;(case re1=>simp[results,results178,go_sem]))
  exact⟨rfl,aa.o,(jt.of_more G.o).trans U.o⟩
 ·rw[Ϗ ho];rw[ϯ ho] at H;clear ho
  go_enter func178,ntmps178
  go_wp2_with (go_at_call 191;(go_call H.o as e w1 ⟨rfl,d⟩;have G:Hid (ql w w1):=κ (X6.trans d);clear d))
  (refine bodyPost_end (v:= .tuple #[]) ?re2 rfl ?_;(case re2=>simp[results,results178,go_sem]))
  exact⟨rfl,I.o.more G.o,jt.of_more G.o⟩
def RO:qL Og:=λ_ cs o=>cs=[.int .i64 o.1,.int .i64 o.2]
def Ph {i j:Nat} (hi:i<3) (d:j<3):orgs.take (3* i+(j+1))=orgs.take (3* i+j)++[((i:Int),(j:Int))]:=by
 have hi:i=0∨i=1∨i=2:=by omega
 have d:j=0∨j=1∨j=2:=by omega
 rcases hi with rfl | rfl | rfl<;>rcases d with rfl | rfl | rfl<;>rfl
def By (n:Nat) (p:Og->Bool):((orgs.take n).filter p).length<=9:=ϙ (C7 _ _) (by rw[Ϥ];show min n 9<=9;omega)
def Yp (SA:List (Og×Nat)):List Og:=orgs.filter λo=>(qh SA o).isSome
def KC {R ad:Nat} {SA:List (Og×Nat)} (ai:R<w.heap.size) (aj:w.cell? ⟨R,13,ϋ⟩=ϊ (.map (ϊ ad))) (am:jk w ad kO gj SA):
  Calls prog 71 #[γ R] w λe w'=> ∃v,e= .returned v/\je 2 RO (λ_=>False) w' w.heap.size 111 v (Yp SA)/\ql w w':=by
 obtain⟨aM,hi,aH,aI,aJ⟩:=info_parts (P:=prog) (e:=111) (z:= θ #[ι 0,ι 0]) (size:=2) (bytes:=16) ξ;have ax:=κ am;have ar:=κ aj;have ay:=κ ai;clear am aj ai;obtain⟨p,an⟩: ∃p:Og->Bool,Hid (p=λo=>(qh SA o).isSome):=⟨_,κ rfl⟩;have e0:Yp SA=(orgs.take 9).filter p:=by rw[an.o];rfl
 rw[e0];have aw:=κ (λn=>By n p);clear e0
 go_enter func71,ntmps71
 go_wp2
 go_loopw [3,9] (λu H wr=> ∃i:Nat,i<=3/\H= ι i/\(∃N J I,u= δ N J I)/\je 2 RO (λ_=>False) wr w.heap.size 111 u ((orgs.take (3* i)).filter p)/\ql w wr) (λ_ H _=>3-(intOf H).toNat)
 case atStart=>exact⟨0,τ,rfl,⟨_,_,_,rfl⟩,je.nil _ _ _ _ _ _,ql.refl _⟩
 case round=>
  obtain⟨i,aR,rfl,⟨N,J,I,rfl⟩,Y,U⟩:=hrel;have G:=κ Y;have d:=κ U;clear Y U;by_cases hlt:i<3
  ·have aE:(i:Int)<3:=by omega
   obtain⟨aq,rfl⟩: ∃aq:World,aq=wr:=⟨_,rfl⟩;go_wp2
   go_loopw [3,12] (λu H wr=> ∃j:Nat,j<=3/\H= ι j/\(∃N J I,u= δ N J I)/\je 2 RO (λ_=>False) wr w.heap.size 111 u ((orgs.take (3* i+j)).filter p)/\ql w wr) (λ_ H _=>3-(intOf H).toNat)
   case atStart=>exact⟨0,τ,rfl,⟨_,_,_,rfl⟩,G.o,d.o⟩
   case round=>
    clear G d;obtain⟨j,aS,rfl,⟨N,J,I,rfl⟩,Y,U⟩:=hrel;have G:=κ Y;have d:=κ U;clear Y U;by_cases hltj:j<3
    ·have aF:(j:Int)<3:=by omega
     have ap:=Ph hlt hltj;have au:Hid (∀b,(δ N J I).ownBlock=ϊ b->w.heap.size<=b):=κ (λb h=>G.o.ge h);have av:=κ (aw.o (3* i+j));obtain⟨W1,ab⟩:=ν (wr.alloc (.cells #[ι (i:Int),ι (j:Int)] 111));have O:Hid (ql wr W1):=κ (by rw[<-ab];exact ql.alloc _ _);have af:Hid (W1.heap[wr.heap.size]? =ϊ (.cells #[ι (i:Int),ι (j:Int)] 111 (0,0))):=κ (by rw[<-ab];exact qj wr _);have aC:W1.cell? ⟨R,13,ϋ⟩=ϊ (.map (ϊ ad)):=by rw[(d.o.trans O.o).cells _ _ ay.o];exact ar.o
     have q: ∀n,_:=λn=>ya (ax.o.more ((d.o.trans O.o).dr n)) ((i:Int),(j:Int)) ό
     simp only[C1] at q;have ao:p ((i:Int),(j:Int))=(qh SA ((i:Int),(j:Int))).isSome:=by rw[an.o]
     have ah:=κ ap;generalize qh SA ((i:Int),(j:Int))=g at *;clear ap;have aO:=β0 af.o;have aP:=β1 af.o;have ag:=κ ao;clear ao
     go_upto_region 9 with fail
     (try rw[ab])
     clear ab;refine wp_region_quiet_lit ξ ξ ?_
     repeat (go_big_quiet_step (fail))
     refine wpQuiet_nil ?_;intro _ aG;obtain⟨nq,rfl⟩:=aG;have aa:Hid (ql w (W1.drewN nq)):=κ ((d.o.trans O.o).dr _);have aA:=κ ((G.o.on O.o).on ((ql.drewN W1 nq).al (.cells #[ι (i:Int),ι (j:Int)] 111)));clear q aC;cases g with
     | none=>
      have ac:Hid ((orgs.take (3* i+(j+1))).filter p=(orgs.take (3* i+j)).filter p):=κ (by rw[ah.o,G0,G2,Ϗ (by rw[ag.o];simp)];simp);have az:=κ ((G.o.on O.o).on (ql.drewN W1 nq));go_wp2;go_roundw
      case rel=>exact⟨j+1,τ,by go_num,⟨_,_,_,rfl⟩,by rw[ac.o];exact az.o,aa.o⟩
      case measure=>simp[intOf];omega
     | some g=>
      have ac:Hid ((orgs.take (3* i+(j+1))).filter p=(orgs.take (3* i+j)).filter p++[((i:Int),(j:Int))]):=κ (by rw[ah.o,G0,G2,ϓ (by rw[ag.o];rfl)];simp);have aT:=av.o
      go_wp2_with (at_builtin;(refine jN (R:=RO) (D:=λ_=>False) _ rfl (.tmp 28) (.tmp 30) 149 rfl w.heap.size 111 aM (θ #[ι 0,ι 0]) 2 16 underlying149 hi aH aI aJ rfl ζ _ ((orgs.take (3* i+j)).filter p) rfl aA.o W1.heap.size [ι (i:Int),ι (j:Int)] ((i:Int),(j:Int)) rfl rfl (zS η) X8 (λw' _=>rfl) (λb h=>h.elim) ζ τ (aa.o.al _).size ?_;intro v' w8 ae ak aD;have aN:Hid (ql w w8):=κ (Below.grown (aa.o.al _) ak (aa.o.al _).size au.o);obtain⟨aV,aU,aQ,rfl,aK,aL⟩:=ae.shape;have aB:=κ ae;clear ae ak aD aK aL))
      go_roundw
      case rel=>exact⟨j+1,τ,by go_num,⟨_,_,_,rfl⟩,by rw[ac.o];exact aB.o,aN.o⟩
      case measure=>simp[intOf];omega
    ·obtain rfl:j=3:=by omega
     have aF: ¬((3:Nat):Int)<3:=by omega
     go_wp2;go_roundw
     case rel=>exact⟨i+1,τ,by go_num,⟨_,_,_,rfl⟩,by rw[Nat.mul_add];exact G.o,d.o⟩
     case measure=>simp[intOf];omega
  ·obtain rfl:i=3:=by omega
   have aE: ¬((3:Nat):Int)<3:=by omega
   go_wp2;go_ret;exact⟨_,rfl,G.o,d.o⟩
def QwF (n:Int) (w:World):Calls prog 282 #[ι n] w λe w'=>e= .returned (φ (n%65536))/\w=w':=by
 go_enter func282,ntmps282
 go_wp2;go_ret;exact⟨rfl,rfl⟩
def Wa (n:Int) (d:U16 n) (w:World):Calls prog 243 #[φ n] w λe w'=>e= .returned (ι (65536+n))/\w=w':=by
 obtain⟨G,H⟩:=d
 go_enter func243,ntmps243
 go_wp2;go_ret;exact⟨rfl,rfl⟩
def IZ (a b:Int): -32768<=ahd a b/\ahd a b<=32767:=by unfold ahd;omega
def Wm (d n:Int) (J:xz d) (H:U16 n) (w:World):Calls prog 244 #[ι d,φ n] w λe w'=>e= .returned (ι (KH d n))/\w=w':=by
 obtain⟨N,O⟩:=J;have U:=IZ (d%65536) n;have G:U16 (d%65536):=by unfold U16;omega
 unfold KH;have I:=κ (λw=>Yd (d%65536) n w G H);clear G H;generalize ahd (d%65536) n=a at *
 go_enter func244,ntmps244
 go_wp2_with (first | (go_at_call 282;(go_call QwF d _ as e w1 ⟨rfl,rfl⟩)) | (go_at_call 267;(go_call I.o _ as e w2 ⟨rfl,rfl⟩)))
 go_ret;exact⟨rfl,rfl⟩
def vK (c t:Int) (w:World):Calls prog 121 #[θ #[ι c,ι t]] w λe w'=>e= .returned (μ (!decide (c=t)))/\ql w w':=by
 go_enter func121,ntmps121
 go_wp2;go_ret;exact⟨by congr 1,ql.alloc _ _⟩
def Qf (sp d:Int) (w:World):Calls prog 91 #[θ #[ι sp,ι d]] w λe w'=>e= .returned (μ (decide (1<=sp/\sp<=d/\d<=1000)))/\ql w w':=by
 have e:decide (1<=sp/\sp<=d/\d<=1000)=(decide (1<=sp)&&(decide (sp<=d)&&decide (d<=1000))):=by by_cases h1:1<=sp<;>by_cases h2:sp<=d<;>by_cases h3:d<=1000<;>simp[h1,h2,h3]
 rw[e];clear e;by_cases h1:1<=sp
 ·by_cases h2:sp<=d
  ·go_enter func91,ntmps91
   go_wp2;go_ret;exact⟨by simp[h1,h2],ql.alloc _ _⟩
  ·go_enter func91,ntmps91
   go_wp2;go_ret;exact⟨by simp[h1];omega,ql.alloc _ _⟩
 ·go_enter func91,ntmps91
  go_wp2;go_ret;exact⟨by simp;omega,ql.alloc _ _⟩
def FY (sp d G:Int) (ah:1<=sp) (ai:sp<=d) (aj:d<=1000) (ak:0<=G) (al:G<=1000000) (w:World):
  Calls prog 118 #[θ #[ι sp,ι d],ι G] w λe w'=>e= .returned (ι (Yg sp d G))/\ql w w':=by
 go_enter func118,ntmps118
 go_wp2
 go_step3
 go_wp2
 go_step3
 go_wp2
 go_loopw [5,6] (λg O wr=> ∃(k:Nat) (H:Int),O= ι (k+1)/\g= ι H/\0<=H/\H<=2000/\(k:Int)<=1000000/\Zc d ((G-1).toNat-k) H=Zc d (G-1).toNat sp/\(k=0∨(k:Int)<=G-1)/\wr=w.alloc (.cells #[ι sp,ι d] 85)) (λ_ O _=>(G-1).toNat+1-(intOf O).toNat)
 case atStart=>exact⟨0,sp,rfl,rfl,τ,τ,τ,rfl,ϑ rfl,rfl⟩
 case round=>
  obtain⟨k,H,rfl,rfl,af,ag,am,aa,ab,rfl⟩:=hrel;have ac:=κ (qj w (.cells #[ι sp,ι d] 85));have N:=κ aa;have ad:=κ ab;clear aa ab;have ae:=β1 ac.o;by_cases hlt:(k:Int)+1<G
  ·obtain⟨n,J⟩: ∃n,(G-1).toNat-k=n+1:=⟨(G-1).toNat-k-1,τ⟩;by_cases hb1:H<1
   ·have I:Hid (Yg sp d G=if H<=d then H else d):=κ (by unfold Yg;rw[<-N.o,J];unfold Zc;rw[ϓ (ϑ hb1)]);clear J;go_wp2
    (try rw[Exit.noGoto_ret])
    go_ret;exact⟨by rw[I.o];first | rfl | (congr 2;try omega) | skip,ql.alloc _ _⟩
   ·by_cases hb2:d<=H
    ·have I:Hid (Yg sp d G=if H<=d then H else d):=κ (by unfold Yg;rw[<-N.o,J];unfold Zc;rw[ϓ (ϕ hb2)]);clear J;go_wp2
     (try rw[Exit.noGoto_ret])
     go_ret;exact⟨by rw[I.o];first | rfl | (congr 2;try omega) | skip,ql.alloc _ _⟩
    ·have Y:Zc d n (2* H)=Zc d (G-1).toNat sp:=by rw[<-N.o,J];conv=>rhs;unfold Zc;rw[Ϗ τ]
     have I:=κ Y;have U:=κ J;clear Y J;go_wp2;go_roundw
     case rel=>exact⟨k+1,H* 2,by go_num,rfl,τ,τ,τ,by rw[show (G-1).toNat-(k+1)=n by have:=U.o;omega,Int.mul_comm];exact I.o,ϕ τ,trivial⟩
     case measure=>have:=U.o;simp[intOf];omega
  ·have I:Hid (Yg sp d G=if H<=d then H else d):=κ (by unfold Yg;rw[<-N.o,show (G-1).toNat-k=0 by have:=ad.o;omega];rfl);go_wp2
   (try rw[Exit.noGoto_ret])
   go_ret;exact⟨by rw[I.o];first | rfl | (congr 2;try omega) | skip,ql.alloc _ _⟩
def Cy (sp G:Int) (a:Gr) (d:Bool) (H:Int) (aV:1<=sp) (aW:sp<=G) (aX:G<=1000) (aK:0<=a.tries) (aL:a.tries<=1000000) (ba:xz a.last) (bb:xz H) (w:World):
  Calls prog 72 #[θ #[ι sp,ι G],θ #[μ a.wanted,a.any,ι a.last,ι a.tries],d,ι H] w λe w'=>
   e= .returned (.tuple #[θ #[μ (vU sp G a d H).1.wanted,μ (vU sp G a d H).1.any,ι (vU sp G a d H).1.last,ι (vU sp G a d H).1.tries],μ (vU sp G a d H).2])/\ql w w':=by
 obtain⟨O,I,al,ah⟩:=a;obtain⟨bd,l1⟩:=ba;obtain⟨n0,n1⟩:=bb;simp only at aK aL bd l1 ⊢;obtain⟨T,ao⟩:=ν (uq ⟨O,I,al,ah⟩ d);have aY:0<=T/\T<=1000000:=by rw[<-ao];unfold uq;split<;>first | exact⟨aK,aL⟩ | exact⟨τ,τ⟩
 obtain⟨t0,t1⟩:=aY;have av:=κ ao;obtain⟨c,ay⟩:=ν (Hc sp G ⟨O,I,al,ah⟩ d H);have aO:=κ ay;obtain⟨y,aB⟩:=ν (vU sp G ⟨O,I,al,ah⟩ d H);have aG:Hid (y=if c then (⟨d,I,al,T⟩,ύ) else (⟨d,ό,H,T+1⟩,ό)):=κ (by rw[<-aB,<-ay,<-ao];rfl);obtain⟨q,aJ⟩:=ν ((!d|| !O));have au:=κ aJ;obtain⟨g,az⟩:=ν (Yg sp G T);have aQ:=κ az;have ar:=κ (λw=>FY sp G T aV aW aX t0 t1 w);rw[az] at ar;rw[aB];clear ao ay aJ aB az
 go_enter func72,ntmps72
 go_upto_region 1 with fail
 obtain⟨ai,af⟩:=ν ((((w.alloc (.cells #[ι sp,ι G] 85)).alloc (.cells #[μ O,I,ι al,ι ah] 107)).alloc (.cells #[μ ύ,ύ,ι 0,ι 0] 107)));have J:Hid (ai.heap[w.heap.size+1]? =ϊ (.cells #[μ O,I,ι al,ι ah] 107 (0,0))):=κ (by rw[<-af];exact qs (qC η) _);have ac:Hid (ai.heap[w.heap.size]? =ϊ (.cells #[ι sp,ι G] 85 (0,0))):=κ (by rw[<-af];exact qs (qs (qj w _) _) _);have ad:Hid (ai.heap[w.heap.size+1+1]? =ϊ (.cells #[μ ύ,ύ,ι 0,ι 0] 107 (0,0))):=κ (by rw[<-af];exact qC η);have ae:Hid (ql w ai):=κ (by rw[<-af];exact(X6.al _).al _);rw[af];clear af;have aj:w.heap.size<=w.heap.size+1:=by omega
 have U:w.heap.size<=w.heap.size+1+1:=by omega
 have aN:w.heap.size≠w.heap.size+1:=by omega
 have ak:w.heap.size+1+1≠w.heap.size+1:=by omega
 have an:=β0 J.o
 go_cut [16] from 10 to 16 (λv Y=>v= μ q/\Y=ai)
 case first=>
  cases d<;>cases O<;>(go_wp2;go_meet;exact⟨by rw[<-au.o];rfl,rfl⟩)
 case rest=>
 obtain⟨rfl,aS⟩:=hcut;subst aS
 go_upto_if 16 with fail
 go_cut [] from 17 to 17 (λY=>Y.heap[w.heap.size+1]? =ϊ (.cells #[μ O,I,ι al,ι T] 107 (0,0))/\Y.heap[w.heap.size]? =ϊ (.cells #[ι sp,ι G] 85 (0,0))/\Y.heap[w.heap.size+1+1]? =ϊ (.cells #[μ ύ,ύ,ι 0,ι 0] 107 (0,0))/\ql w Y)
 case first=>
  have aU:=yw J.o 3;have c3:=β3 J.o;cases q with
  | true=>
   have aA:Hid (0=T):=κ (by rw[<-av.o];unfold uq;rw[Ϗ (by have:=au.o;cases d<;>cases O<;>simp_all)]);go_wp2;go_meet;exact⟨qB (qp J.o 3 _) (by rw[<-aA.o];rfl),qo ac.o _ _ aN,qo ad.o _ _ ak,ae.o.st (p:=⟨w.heap.size+1,3,ϋ⟩) aj _⟩
  | false=>
   have aA:Hid (ah=T):=κ (by rw[<-av.o];unfold uq;rw[ϓ (by have:=au.o;cases d<;>cases O<;>simp_all)]);go_wp2;go_meet;exact⟨by rw[<-aA.o];exact J.o,ac.o,ad.o,ae.o⟩
 case rest=>
 obtain⟨ax,aH,aI,aM⟩:=hcut;have aT:=yw ax 0;have aq:=κ ax;have aC:=κ aH;have aD:=κ aI;have aF:=κ aM;clear J ac ad ae an ax aH aI aM;have an:=β0 aq.o
 go_upto_region 4 with fail
 obtain⟨ab,ag⟩:=ν (wc.setCell ⟨w.heap.size+1,0,ϋ⟩ (μ d));have J:Hid (ab.heap[w.heap.size+1]? =ϊ (.cells #[μ d,I,ι al,ι T] 107 (0,0))):=κ (by rw[<-ag];exact qB (qp aq.o 0 _) rfl);have ac:Hid (ab.heap[w.heap.size]? =ϊ (.cells #[ι sp,ι G] 85 (0,0))):=κ (by rw[<-ag];exact qo aC.o _ _ aN);have ad:Hid (ab.heap[w.heap.size+1+1]? =ϊ (.cells #[μ ύ,ύ,ι 0,ι 0] 107 (0,0))):=κ (by rw[<-ag];exact qo aD.o _ _ ak);have ae:Hid (ql w ab):=κ (by rw[<-ag];exact aF.o.st (p:=⟨w.heap.size+1,0,ϋ⟩) aj _);rw[ag];clear ag aq aC aD aF an aT
 go_cut [36] from 20 to 36 (λv Y=>v= μ c/\ql ab Y)
 case first=>
  have am:=λ(x:qt ab)=>qq x.h J.o
  have bf:=λx=>β1 (am x);have bg:=λx=>β2 (am x);have bh:=λx=>β3 (am x);clear am
  have aw:=λ(x:qt ab)=>qq x.h ac.o
  have bi:=λx=>β0 (aw x);have bj:=λx=>β1 (aw x);clear aw
  obtain⟨aR,aZ⟩:=ν (decide (H-al<g));have aP:Hid ((!d||(I&&aR))=c):=κ (by rw[<-aO.o,<-aZ,<-aQ.o,<-av.o];rfl)
  cases d<;>cases I<;>(
   refine qD _ (ql.refl _) ξ ξ ?_
   repeat (go_big_quiet_step ((go_at_call 118;exact j6 (ar.o _))))
   refine wpQuiet_nil ?_;intro _ bc;obtain⟨be,rfl⟩:=bc;go_wp2;go_meet
   exact⟨by rw[<-aP.o];rfl,be.h⟩)
 case rest=>
 obtain⟨rfl,ap⟩:=hcut;have aa:=κ (qq ap J.o);have N:=κ (qq ap ad.o);have aE:=κ (ae.o.trans ap);clear J ac ad ae ap ar;have an:=β0 aa.o;have c1:=β1 aa.o;have bk:=yw aa.o 1;have c2:=β2 aa.o;have bl:=yw aa.o 2;have c3:=β3 aa.o;have aU:=yw aa.o 3;have z0:=β0 N.o;have bm:=yw N.o 0;have bq:=β1 N.o;have bn:=yw N.o 1;have br:=β2 N.o;have bo:=yw N.o 2;have z3:=β3 N.o;have bp:=yw N.o 3;cases c with
 | true=>
  obtain rfl:y=(⟨d,I,al,T⟩,ύ):=aG.o;go_wp2;refine bodyPost_ret (v:= .tuple #[θ #[μ d,I,ι al,ι T],ύ]) (yo results72 _ _ (w.heap.size+1+1) 107 #[μ d,I,ι al,ι T] _ _ rfl rfl (qB (qp (qp (qp (qp N.o 0 _) 1 _) 2 _) 3 _) rfl) underlying107 rfl ξ) rfl ?_;exact⟨rfl,((((aE.o.st (p:=⟨w.heap.size+1+1,0,ϋ⟩) U _).st (p:=⟨w.heap.size+1+1,1,ϋ⟩) U _).st (p:=⟨w.heap.size+1+1,2,ϋ⟩) U _).st (p:=⟨w.heap.size+1+1,3,ϋ⟩) U _)⟩
 | false=>
  obtain rfl:y=(⟨d,ό,H,T+1⟩,ό):=aG.o;go_wp2;refine bodyPost_ret (v:= .tuple #[θ #[μ d,ό,ι H,ι (T+1)],ό]) (yo results72 _ _ (w.heap.size+1+1) 107 #[μ d,ό,ι H,ι (T+1)] _ _ rfl rfl (qB (qp (qp (qp (qp (qo (qo (qo N.o ⟨w.heap.size+1,1,ϋ⟩ _ ak) ⟨w.heap.size+1,2,ϋ⟩ _ ak) ⟨w.heap.size+1,3,ϋ⟩ _ ak) 0 _) 1 _) 2 _) 3 _) rfl) underlying107 rfl ξ) rfl ?_;exact⟨rfl,(((((((aE.o.st (p:=⟨w.heap.size+1,1,ϋ⟩) aj _).st (p:=⟨w.heap.size+1,2,ϋ⟩) aj _).st (p:=⟨w.heap.size+1,3,ϋ⟩) aj _).st (p:=⟨w.heap.size+1+1,0,ϋ⟩) U _).st (p:=⟨w.heap.size+1+1,1,ϋ⟩) U _).st (p:=⟨w.heap.size+1+1,2,ϋ⟩) U _).st (p:=⟨w.heap.size+1+1,3,ϋ⟩) U _)⟩
def KJ.on {d:Nat->Prop} {G:Nat} (h:KJ d w p G v t) (m:ql w w'):KJ d w' p G v t:=
 ⟨qq m h.blk,h.buf.on m,h.ok,λb H=>ϗ (h.sub b H) m.size,h.np,h.nb,h.ne,h.nv⟩
def RmX.strAt (h:RmX T w0 w k vp vr s F) (I:qh s.strs o=ϊ t): ∃p d v,qh k.SA o=ϊ p/\KJ (λb=>T b= .str o) w p d v t:=by
 obtain⟨J,G⟩:=h.all (.str o);rw[I] at G;obtain⟨p,H⟩:=Ϯ.1 G;obtain⟨d,v,x⟩:=J p t H I;exact⟨p,d,v,H,x⟩
def RmX.laneAt (h:RmX T w0 w k vp vr s F) {l:LnS} (G:qh s.lanes x=ϊ l): ∃p,qh k.LA x=ϊ p/\zw (λb=>T b= .lane x) w p l:=by
 obtain⟨I,d⟩:=h.all (.lane x);rw[G] at d;obtain⟨p,H⟩:=Ϯ.1 d;exact⟨p,H,I p l H G⟩
def RmX.laneNo (h:RmX T w0 w k vp vr s F) (G:qh s.lanes x=ϋ):qh k.LA x=ϋ:=by
 obtain⟨H,d⟩:=h.all (.lane x);rw[G] at d;cases hp:qh k.LA x with
 | none=>rfl
 | some p=>rw[hp] at d;cases d
def RmX.origins (h:RmX T w0 w k vp vr s F):Yp k.SA=s.origins:=by
 unfold Yp RmS.origins
 congr 1
 funext o
 exact(h.all (.str o)).2
def RmX.blk (h:RmX T w0 w k vp vr s F):w.heap[k.R]? =ϊ (.cells (zH k vp vr s) 101 (0,0)):=(h.all .room).2
def RmX.tab (h:RmX T w0 w k vp vr s F):jq w k.tb k.ta k.tc k.td s.tab:=by
 obtain⟨_,_,_,_,x⟩:=h.all .table;exact x
def RmX.bok (h:RmX T w0 w k vp vr s F):jy w k.B k.b s.book:=by
 obtain⟨_,_,x⟩:=h.all .book;exact x
def RmX.que (h:RmX T w0 w k vp vr s F):RgR 1 238 24 RBy (λb=>T b≠ .data) w k.RQ k.AQ s.cfg.room.toNat s.queue:=by
 obtain⟨_,_,x⟩:=h.all .queue;exact x
def RmX.lnm (h:RmX T w0 w k vp vr s F):jk w k.ML (Value.int .i64) gj k.LA:=(h.all .lns).2
def RmX.stm (h:RmX T w0 w k vp vr s F):jk w k.MS kO gj k.SA:=(h.all .sts).2
def RmX.retm (h:RmX T w0 w k vp vr s F):jk w k.M1 kO μ s.ret:=(h.all .ret).2
def RmX.lt (h:RmX T w0 w k vp vr s F):k.R<w.heap.size:=qn h.blk
def RmX.orgsRow (h:RmX T w0 w k vp vr s F):Calls prog 71 #[γ k.R] w λe w'=> ∃v,e= .returned v/\je 2 RO (λ_=>False) w' w.heap.size 111 v s.origins/\ql w w':=by
 rw[<-h.origins];exact KC h.lt (qa h.blk 13 rfl) (h.all .sts).2
def yB (h:o∈s.origins): ∃t,qh s.strs o=ϊ t:=by
 unfold RmS.origins at h;exact Ϯ.1 (E8.1 h).2
def KT {L:List Og} (h:je 2 RO (λ_=>False) w base 111 v L): ∃oa cap,v= δ oa L.length cap/\L.length<=maxLen/\ ∀i (hi:i<L.length),∃b,oa=ϊ ⟨b,0,ϋ⟩/\base<=b/\b<w.heap.size/\w.cell? ⟨b,i* 2,ϋ⟩=ϊ (ι L[i].1)/\w.cell? ⟨b,i* 2+1,ϋ⟩=ϊ (ι L[i].2):=by
 obtain⟨⟨xs,d,r⟩,_⟩:=h;rcases id d.2 with ⟨rfl,H⟩ | ⟨b,cap,cur,rfl,I,J,N,O,_⟩
 ·exact⟨ϋ,0,by rw[H],by rw[H];exact ϫ _,λi hi=>by omega⟩
 ·refine⟨_,cap,rfl,τ,λi hi=>⟨b,rfl,I,lt_of_block J, ?_, ?_⟩⟩
  ·have e:(xs.drop (i* 2)).take 2=[ι L[i].1,ι L[i].2]:=(r i hi).read;have e0:=Γ (λl:List Value=>l[0]?) e;simp at e0;rw[d.cellAt _ τ];exact e0
  ·have e:(xs.drop (i* 2)).take 2=[ι L[i].1,ι L[i].2]:=(r i hi).read;have G:=Γ (λl:List Value=>l[1]?) e;simp at G;rw[d.cellAt _ τ];exact G
def RmS.readyO (s:RmS):Og:=s.ready.getD (0,0)
def ZW (p:α->Bool): ∀(l:List α) (j:Nat) (hj:j<l.length),(∀i (hi:i<l.length),i<j->p l[i]=ύ)->p l[j]=ό->l.find? p=ϊ l[j]
 | [],j,hj,_,_=>by simp at hj
 | a::l,0,_,_,h=>by simp at h;simp[h]
 | a::l,j+1,hj,h1,h2=>by
  have d:=h1 0 η τ;simp at d;simp only[List.find?_cons,d];exact ZW p l j (by simpa using hj) (λi hi G=>by have:=h1 (i+1) (by simpa using hi) τ;simpa using this) (by simpa using h2)
def PJ (p:α->Bool) (l:List α) (h: ∀i (hi:i<l.length),p l[i]=ύ):l.find? p=ϋ:=by
 rw[P5];intro x d;obtain⟨i,hi,rfl⟩:=B4.1 d;simp[h i hi]
def Al (h:RmX T w0 w k vp vr s F) (aw:xz s.clock):
  Calls prog 174 #[γ k.R] w λe w'=>e= .returned (.tuple #[θ #[ι s.readyO.1,ι s.readyO.2],s.ready.isSome])/\ql w w':=by
 have O:=κ h;have aF:=κ aw;clear h aw
 go_enter func174,ntmps174
 go_wp2_with (go_at_call 71;(go_call (O.o.on (ql.alloc w (.cells #[ι 0,ι 0] 111))).orgsRow as e w1 ⟨v,rfl,aC,ai⟩;obtain⟨ba,cap,rfl,aP,aB⟩:=KT aC;have aH:=κ aB;have ao:Hid (ql w w1):=κ (X6.trans ai);have aa:Hid (w1.heap[w.heap.size]? =ϊ (.cells #[ι 0,ι 0] 111 (0,0))):=κ (qq ai (qj w _));clear aC ai aB))
 unfold maxLen at aP
 go_loopw [9] (λah wr=> ∃j:Nat,j<=s.origins.length/\ah= ι j/\(∀i (hi:i<s.origins.length),i<j->s.readyAt s.origins[i]=ύ)/\ql w1 wr) (λah _=>s.origins.length-(intOf ah).toNat)
 case atStart=>exact⟨0,τ,rfl,λi hi h=>by omega,ql.refl _⟩
 case round=>
  obtain⟨j,aZ,rfl,ax,av⟩:=hrel;have ac:=κ ax;have G:=κ av;clear ax av;by_cases hlt:j<s.origins.length
  ·have aO:(j:Int)<(s.origins.length:Int):=by omega
   obtain⟨b,rfl,aX,ar,U,c1⟩:=aH.o j hlt;have U:wr.cell? ⟨b,j* 2,ϋ⟩=ϊ (ι (s.origins[j]).1):=by rw[G.o.cells _ _ ar];exact U
   have c1:wr.cell? ⟨b,j* 2+1,ϋ⟩=ϊ (ι (s.origins[j]).2):=by rw[G.o.cells _ _ ar];exact c1
   obtain⟨t,ag⟩:=yB (ϥ hlt);have am:=κ (λI=>ZW s.readyAt s.origins j hlt ac.o I);have aA:s.readyAt s.origins[j]=xa t.buf s.clock:=by unfold RmS.readyAt;rw[ag]
   have ad:=κ aA;clear aA;obtain⟨p,aq,v,az,Y⟩:=O.o.strAt ag;have an:Hid (∀o,o=s.origins[j]->(∀I:xa t.buf s.clock=ό,s.ready=ϊ o)):=κ (λo e I=>by rw[e];exact am.o (by rw[ad.o];exact I))
   have aJ:Hid (xa t.buf s.clock=ύ-> ∀i (hi:i<s.origins.length),i<j+1->s.readyAt s.origins[i]=ύ):=κ (λI i hi h=>by
    by_cases e:i<j
    ·exact ac.o i hi e
    ·obtain rfl:i=j:=by omega
     rw[ad.o];exact I)
   generalize s.origins[j]=o at *;obtain⟨H,o2⟩:=o;simp only at U c1;have aG:=κ (an.o (H,o2) rfl);obtain⟨W1,N⟩:=ν (wr.alloc (.cells #[ι H,ι o2] 111));have J:Hid (ql w W1):=κ (by rw[<-N];exact(ao.o.trans G.o).al _);have ap:Hid (ql w1 W1):=κ (by rw[<-N];exact G.o.al _);have aD:Hid (W1.heap[wr.heap.size]? =ϊ (.cells #[ι H,ι o2] 111 (0,0))):=κ (by rw[<-N];exact qj wr _);have ae:=λ(x:qt W1)=>qq x.h aD.o
   have aV:=λx=>β0 (ae x);have aW:=λx=>β1 (ae x);clear ae
   have af:=λ(x:qt W1)=>qq (J.o.trans x.h) O.o.blk
   have aR:=λx=>β13 (af x);have aS:=λx=>β9 (af x);clear af
   have aU:=λ(x:qt W1)=>β0 (qq (J.o.trans x.h) Y.blk)
   have aT: ∀x:qt W1,(Instr.lookup 95 (.map (ϊ k.MS)) (θ #[ι H,ι o2]) ύ).run prog x.w'= .ok (γ p) x.w':=λx=>by
    have:=ya ((O.o.all .sts).2.more (J.o.trans x.h)) (H,o2) ύ;rw[az] at this;exact this
   have ak: ∀x:qt W1,Calls prog 221 #[γ aq,ι s.clock] x.w' λe w'=>e= .returned (μ (xa t.buf s.clock))/\ql x.w' w':=λx=>Z7 t.buf Y.ok aq v s.clock aF.o x.w' (Y.buf.on (J.o.trans x.h))
   generalize xa t.buf s.clock=rd at *;have aE:=κ ak;clear ak Y az ag am ad an
   go_upto_region 4 with fail
   (try rw[N])
   clear N U c1;refine qD _ (ql.refl _) ξ ξ ?_
   repeat (go_big_quiet_step ((go_at_call 221;exact j6 (aE.o _))))
   refine wpQuiet_nil ?_;intro _ aQ;obtain⟨aj,rfl⟩:=aQ;cases rd with
   | true=>
    have au:=aG.o rfl;have aY:w.heap.size≠wr.heap.size:=by have:=G.o.size;have:=qn aa.o;omega
    have d:=κ (qq (ap.o.trans aj.h) aa.o);have aK:=yw d.o 0;have aL:=yw d.o 1;have aM:=β0 d.o;have aN:=β1 d.o;have ab:=κ au;clear au;go_wp2
    (refine bodyPost_ret (v:= .tuple #[θ #[ι H,ι o2],ό]) (yo results174 _ _ (w.heap.size) 111 #[ι H,ι o2] _ _ rfl rfl (qB (qp (qp d.o 0 _) 1 _) rfl) underlying111 rfl ξ) rfl ?_)
    refine⟨?_,(J.o.trans aj.h).st (ϔ _) _ |>.st (ϔ _) _⟩;unfold RmS.readyO;rw[ab.o];rfl
   | false=>
    have aI:=κ (aJ.o rfl);go_wp2;go_roundw
    case rel=>exact⟨j+1,τ,by go_num,aI.o,ap.o.trans aj.h⟩
    case measure=>simp[intOf];omega
  ·obtain rfl:j=s.origins.length:=by omega
   have aO: ¬(s.origins.length:Int)<(s.origins.length:Int):=by omega
   have ay:s.ready=ϋ:=PJ s.readyAt s.origins (λi hi=>ac.o i hi hi);have ab:=κ ay;have d:=κ (qq G.o aa.o);have aK:=yw d.o 0;have aL:=yw d.o 1;have aM:=β0 d.o;have aN:=β1 d.o;clear ay;go_wp2
   (refine bodyPost_ret (v:= .tuple #[θ #[ι 0,ι 0],ύ]) (yo results174 _ _ (w.heap.size) 111 #[ι 0,ι 0] _ _ rfl rfl (qB (qp (qp d.o 0 _) 1 _) rfl) underlying111 rfl ξ) rfl ?_)
   refine⟨?_,(ao.o.trans G.o).st (ϔ _) _ |>.st (ϔ _) _⟩;unfold RmS.readyO;rw[ab.o];rfl
structure zc (s:RmS):Prop where
 keys: ∀x,(qh s.tab.u x).isSome=ό->0<=x/\x<6
 lane: ∀x,(qh s.tab.u x).isSome=(qh s.lanes x).isSome
 few:s.tab.u.length<=1000000
def Hk {T a c:Nat} {t:TS} (h:jq w T a b c t) (v0:Int) (H: ∀x,(qh t.u x).isSome=ό->0<=x/\x<6) (I:t.u.length<=1000000):
  Calls prog 119 #[γ T,ι v0] w λe w'=>(∃v,e= .returned v/\SlI .i64 w' v (prR (j8 v0) t.u)/\ ∀q,v.ownBlock=ϊ q->w.heap.size<=q)/\ql w w':=by
 rw[<-Vl h.mu.keys H]
 go_enter func119,ntmps119
 go_wp2_with (go_at_call 143;(go_call Dm (h.more (ql.alloc w (.cells #[ι v0] 3))) v0 (qj w _) I as e w2 ⟨⟨v,rfl,s,d⟩,m⟩;have S:=κ s;have M:=κ m;have G:=κ d;clear s m d))
 go_ret;exact⟨⟨_,rfl,S.o,λq d=>ϙ X6.size (G.o q d)⟩,X6.trans M.o⟩
def FO {T a c:Nat} {t:TS} (h:jq w T a b c t) (v0:Int) (H: ∀x,(qh t.u x).isSome=ό->0<=x/\x<6) (I:t.u.length<=1000000):
  Calls prog 242 #[γ T,ω v0] w λe w'=>(∃v,e= .returned v/\SlI .i64 w' v (prR (zV v0) t.u)/\ ∀q,v.ownBlock=ϊ q->w.heap.size<=q)/\ql w w':=by
 rw[<-Vl h.mu.keys H]
 go_enter func242,ntmps242
 go_wp2_with (go_at_call 143;(go_call Ku (h.more (ql.alloc w (.cells #[ω v0] 69))) v0 (qj w _) I as e w2 ⟨⟨v,rfl,s,d⟩,m⟩;have S:=κ s;have M:=κ m;have G:=κ d;clear s m d))
 go_ret;exact⟨⟨_,rfl,S.o,λq d=>ϙ X6.size (G.o q d)⟩,X6.trans M.o⟩
def Vq (J:zc s) {H:Sb->Bool} (h:x∈prR H s.tab.u): ∃d l,qh s.tab.u x=ϊ d/\qh s.lanes x=ϊ l:=by
 obtain⟨_,d,G,_⟩:=(WL H s.tab.u x).1 h;have:=J.lane x;rw[G] at this;obtain⟨l,I⟩:=Ϯ.1 this.symm;exact⟨d,l,G,I⟩
def kH (s:RmS) (n:Int) (x:Int):Bool:=match qh s.lanes x with
 | some l=>wO l n
 | none=>ύ
def Ax (s:RmS) (o:Og) (d:qh s.strs o=ϊ t):s.wants o=(t.askedOf||(prR (j8 o.1) s.tab.u).any (kH s o.2)):=by
 unfold RmS.wants;rw[d];rfl
def FA (h:RmX T w0 w k vp vr s F) (bf:zc s) (aa o2:Int) (an:qh s.strs (aa,o2)=ϊ t):
  Calls prog 73 #[γ k.R,θ #[ι aa,ι o2]] w λe w'=>e= .returned (μ (s.wants (aa,o2)))/\ql w w':=by
 have ag:=κ h;obtain⟨p,bD,v,bc,ad⟩:=h.strAt an;rw[Ax s (aa,o2) an];have aw:=κ bf;obtain⟨W1,aq⟩:=ν (w.alloc (.cells #[ι aa,ι o2] 111));have ac:Hid (ql w W1):=κ (by rw[<-aq];exact ql.alloc _ _);have ar:Hid (W1.heap[w.heap.size]? =ϊ (.cells #[ι aa,ι o2] 111 (0,0))):=κ (by rw[<-aq];exact qj w _);have ay:=λ(x:qt W1)=>qq x.h ar.o
 have aU:=λx=>β0 (ay x);have bo:=λx=>β1 (ay x);clear ay
 have az:=λ(x:qt W1)=>qq (ac.o.trans x.h) ag.o.blk
 have bm:=λx=>β13 (az x);have aS:=λx=>β11 (az x);clear az
 have aT:=λ(x:qt W1)=>β7 (qq (ac.o.trans x.h) ad.blk)
 have bn: ∀x:qt W1,(Instr.lookup 95 (.map (ϊ k.MS)) (θ #[ι aa,ι o2]) ύ).run prog x.w'= .ok (γ p) x.w':=λx=>by
  have:=ya (ag.o.stm.more (ac.o.trans x.h)) (aa,o2) ύ;rw[bc] at this;exact this
 clear bc ad an h bf;obtain⟨bu,aX⟩:=ν (t.askedOf);rw[aX] at aT ⊢;clear aX
 go_enter func73,ntmps73
 go_upto_region 1 with fail
 (try rw[aq])
 clear aq;refine qD _ (ql.refl _) ξ ξ ?_
 repeat (go_big_quiet_step (fail))
 refine wpQuiet_nil ?_;intro _ bA;obtain⟨aR,rfl⟩:=bA;cases bu with
 | true=>
  go_wp2;go_ret;exact⟨rfl,ac.o.trans aR.h⟩
 | false=>
  go_upto_region 3 with fail
  obtain⟨W2,aF⟩:=ν (aR.w');have ah:Hid (ql W1 W2):=κ (by rw[<-aF];exact aR.h)
  (try rw[aF])
  clear aF aT bn bm;have bp: ∀x:qt W2,x.w'.cell? ⟨w.heap.size,0,ϋ⟩=ϊ (ι aa):=λx=>aU ⟨_,ah.o.trans x.h⟩
  have bq: ∀x:qt W2,x.w'.cell? ⟨k.R,11,ϋ⟩=ϊ (π (ϊ ⟨k.tb,0,ϋ⟩)):=λx=>aS ⟨_,ah.o.trans x.h⟩
  clear aU bo aS;refine zC W2 9 [(0,ύ),(1,ύ),(2,ύ),(3,ύ),(4,ύ),(5,ύ),(8,ύ),(6,ό),(7,ύ)] ξ ξ ?_
  refine Qq7 ?_
  (refine Ql ?_;intro K aE)
  go_call Hk (ag.o.tab.more ((ac.o.trans ah.o).dr 1)) aa aw.o.keys aw.o.few as e bl ⟨⟨v3,rfl,bC,n3⟩,bj⟩;have ak:Hid (ql W2 bl):=κ ((ql.drewN _ 1).trans bj);obtain⟨bH,cap,rfl,bz,be,_⟩:=bC;have aW:=κ be;clear bj n3 be;refine⟨_,rfl,qk ak.o,aE _ _ ?_⟩;clear aE K
  iterate 1 (refine qE rfl rfl (qk ak.o) ?_;intro K aE;go_big_quiet_op;go_big_quiet_on)
  refine qA ?_;clear bp bq;have bt:=κ (ac.o.trans (ah.o.trans ak.o));have ao:=κ (qq (ah.o.trans ak.o) ar.o);clear ac ah ak ar;obtain⟨L,am⟩:=ν (prR (j8 aa) s.tab.u);have bs:Hid (∀x∈L,∃l,qh s.lanes x=ϊ l):=κ (λx ad=>by rw[<-am] at ad;obtain⟨_,l,_,h⟩:=Vq aw.o ad;exact⟨l,h⟩);have aV:=κ am;rw[am] at aW bz;simp only[am];clear am;go_wp2
  go_loopw [27] (λaQ wr=> ∃j:Nat,j<=L.length/\aQ= ι j/\(∀i (hi:i<L.length),i<j->kH s o2 L[i]=ύ)/\ql bl wr) (λaQ _=>L.length-(intOf aQ).toNat)
  case atStart=>exact⟨0,τ,rfl,λi hi h=>by omega,ql.refl _⟩
  case round=>
   obtain⟨j,bF,rfl,bb,aM⟩:=hrel;have av:=κ bb;have U:=κ (bt.o.trans aM);have ab:=κ aM;clear bb aM;by_cases hlt:j<L.length
   ·have bx:(j:Int)<(L.length:Int):=by omega
    obtain⟨b,off,rfl,bv,aG⟩:=aW.o j hlt;have aG:wr.cell? ⟨b,off+j,ϋ⟩=ϊ (ι (L.getD j 0)):=by rw[ab.o.cells _ _ bv];exact aG
    have aZ:L.getD j 0=L[j]:=by simp[hlt]
    obtain⟨l,aH⟩:=bs.o L[j] (ϥ hlt);have aP:kH s o2 L[j]=wO l o2:=by unfold kH;rw[aH]
    have ae:Hid (wO l o2=ύ-> ∀i (hi:i<L.length),i<j+1->kH s o2 L[i]=ύ):=κ (λbw i hi h=>by
     by_cases e:i<j
     ·exact av.o i hi e
     ·obtain rfl:i=j:=by omega
      rw[aP];exact bw)
    have ax:Hid (wO l o2=ό->L.any (kH s o2)=ό):=κ (λan=>List.any_eq_true.2 ⟨L[j],ϥ hlt,by rw[aP];exact an⟩);obtain⟨p2,bd,ba⟩:=ag.o.laneAt aH;have au:=κ ba;rw[aZ] at aG;have q:=xq (ag.o.lnm.more U.o) L[j] ύ;rw[bd] at q;generalize L[j]=x at *;have bE:=β12 (qq U.o ag.o.blk);clear aZ aP aH ba bd av;obtain⟨bi,aL⟩:=ν (l.wanted);obtain⟨bh,aJ⟩:=ν (l.gone);obtain⟨H,aI⟩:=ν (l.cur);obtain⟨d,aK⟩:=ν (l.tgt);have bg:wO l o2=(bi&&(!bh&&(!decide (H=d)&&decide (d=o2)))):=by unfold wO;rw[aL,aJ,aI,aK]
    have af:=κ (λw m=>Xb (au.o.on (w':=w) m));have aj:=κ (λw m=>JB (au.o.on (w':=w) m));rw[aL,aI,aK] at af;rw[aJ] at aj;rw[bg] at ae ax;clear aL aJ aI aK bg au;have aY:((Gh (ϊ p2)):Value)= γ p2:=rfl;simp only[aY,Ξ,D4] at q;clear aY;cases bi with
    | false=>
     go_wp2_with (go_at_call 120;(go_call af.o _ U.o as e w5 ⟨rfl,O⟩;have I:=κ O;clear O))
     go_roundw
     case rel=>exact⟨j+1,τ,by go_num,ae.o rfl,(ab.o.trans I.o).al _⟩
     case measure=>simp[intOf];omega
    | true=>
     cases bh with
     | true=>
      go_wp2_with (first | (go_at_call 120;(go_call af.o _ U.o as e w5 ⟨rfl,O⟩;have I:=κ O;clear O)) | (go_at_call 61;(go_call aj.o _ ((U.o.trans I.o).al (.cells #[ι H,ι d] 221)) as e w6 ⟨rfl,N⟩;have Y:=κ N;have J:=κ (qq N (qj w5 (.cells #[ι H,ι d] 221)));have aB:=β0 J.o;have aC:=β1 J.o;clear N)) | (go_at_call 121;(go_call vK H d w6 as e w7 ⟨rfl,G⟩;rw[ap.o];have ai:=κ G;have aD:=β1 (qq G J.o);have aA:=β1 (qq (ab.o.trans (((I.o.al (.cells #[ι H,ι d] 221)).trans Y.o).trans G)) ao.o);clear G)))
      go_roundw
      case rel=>exact⟨j+1,τ,by go_num,ae.o rfl,((ab.o.trans I.o).al _).trans Y.o⟩
      case measure=>simp[intOf];omega
     | false=>
      obtain⟨bB,aN⟩:=ν ((!decide (H=d)));obtain⟨bk,aO⟩:=ν (decide (d=o2));have bG:(d==o2)=bk:=by rw[<-aO];rfl
      rw[aN,aO] at ae ax;have ap:=κ aN;clear aN aO;cases bB with
      | false=>
       go_wp2_with (first | (go_at_call 120;(go_call af.o _ U.o as e w5 ⟨rfl,O⟩;have I:=κ O;clear O)) | (go_at_call 61;(go_call aj.o _ ((U.o.trans I.o).al (.cells #[ι H,ι d] 221)) as e w6 ⟨rfl,N⟩;have Y:=κ N;have J:=κ (qq N (qj w5 (.cells #[ι H,ι d] 221)));have aB:=β0 J.o;have aC:=β1 J.o;clear N)) | (go_at_call 121;(go_call vK H d w6 as e w7 ⟨rfl,G⟩;rw[ap.o];have ai:=κ G;have aD:=β1 (qq G J.o);have aA:=β1 (qq (ab.o.trans (((I.o.al (.cells #[ι H,ι d] 221)).trans Y.o).trans G)) ao.o);clear G)))
       go_roundw
       case rel=>exact⟨j+1,τ,by go_num,ae.o rfl,(((ab.o.trans I.o).al _).trans Y.o).trans ai.o⟩
       case measure=>simp[intOf];omega
      | true=>
       cases bk with
       | false=>
        go_wp2_with (first | (go_at_call 120;(go_call af.o _ U.o as e w5 ⟨rfl,O⟩;have I:=κ O;clear O)) | (go_at_call 61;(go_call aj.o _ ((U.o.trans I.o).al (.cells #[ι H,ι d] 221)) as e w6 ⟨rfl,N⟩;have Y:=κ N;have J:=κ (qq N (qj w5 (.cells #[ι H,ι d] 221)));have aB:=β0 J.o;have aC:=β1 J.o;clear N)) | (go_at_call 121;(go_call vK H d w6 as e w7 ⟨rfl,G⟩;rw[ap.o];have ai:=κ G;have aD:=β1 (qq G J.o);have aA:=β1 (qq (ab.o.trans (((I.o.al (.cells #[ι H,ι d] 221)).trans Y.o).trans G)) ao.o);clear G)))
        go_roundw
        case rel=>exact⟨j+1,τ,by go_num,ae.o rfl,(((ab.o.trans I.o).al _).trans Y.o).trans ai.o⟩
        case measure=>simp[intOf];omega
       | true=>
        go_wp2_with (first | (go_at_call 120;(go_call af.o _ U.o as e w5 ⟨rfl,O⟩;have I:=κ O;clear O)) | (go_at_call 61;(go_call aj.o _ ((U.o.trans I.o).al (.cells #[ι H,ι d] 221)) as e w6 ⟨rfl,N⟩;have Y:=κ N;have J:=κ (qq N (qj w5 (.cells #[ι H,ι d] 221)));have aB:=β0 J.o;have aC:=β1 J.o;clear N)) | (go_at_call 121;(go_call vK H d w6 as e w7 ⟨rfl,G⟩;rw[ap.o];have ai:=κ G;have aD:=β1 (qq G J.o);have aA:=β1 (qq (ab.o.trans (((I.o.al (.cells #[ι H,ι d] 221)).trans Y.o).trans G)) ao.o);clear G)))
        go_ret;exact⟨by rw[aV.o,ax.o rfl];rfl,(((U.o.trans I.o).al _).trans Y.o).trans ai.o⟩
   ·obtain rfl:j=L.length:=by omega
    have bx: ¬(L.length:Int)<(L.length:Int):=by omega
    have br:Hid (L.any (kH s o2)=ύ):=κ (by
     rw[R0];intro x ad;obtain⟨i,hi,rfl⟩:=B4.1 ad;rw[av.o i hi hi]
     decide)
    go_wp2;go_ret;exact⟨by rw[aV.o,br.o];rfl,U.o⟩
def RmX.at (h:RmX T w0 w k vp vr s F):qI w0 w k s F:=⟨T,vp,vr,h⟩
def RmX.self (h:RmX T w0 w k vp vr s F) (a:jt (λb=>b=k.R) w w') {s':RmS} (G:w'.heap[k.R]? =ϊ (.cells (zH k vp vr s') 101 (0,0)))
  (rest: ∀u,u≠ .room->u≠ .no->k.Holds (jZ T .room w w') w' vp vr s u->k.Holds (jZ T .room w w') w' vp vr s' u):qI w0 w' k s' F/\qw F w w':=by
 obtain⟨d,_⟩:=h.all .room;have I:=h.fresh;obtain⟨x,y⟩:=h.own (t:= .room) (k':=k) (vp':=vp) (vr':=vr) (s':=s') ⟨η,η⟩ (a.mono λb H=>by rw[H];exact d) ⟨(jd I η _).2 (ϑ d),G⟩ rest;exact⟨x.at,y⟩
def RmX.book (h:RmX T w0 w k vp vr s F) (b:jy w' k.B k.b m) (a:jt (λx=>x=k.b) w w'):qI w0 w' k {s with book:=m} F/\qw F w w':=by
 obtain⟨H,d,_⟩:=h.all .book;have G:=h.fresh;obtain⟨x,y⟩:=h.own (t:= .book) (k':=k) (vp':=vp) (vr':=vr) (s':={s with book:=m}) ⟨η,η⟩ (a.mono λb I=>by rw[I];exact d) ⟨(jd G η _).2 (ϑ H),(jd G η _).2 (ϑ d),b⟩ (λu J N x=>by cases u<;>first | exact x | exact ϧ rfl J);exact⟨x.at,y⟩
def RmX.table (h:RmX T w0 w k vp vr s F) {t:TS} (b:jq w' k.tb k.ta k.tc k.td t) (a:jt (λx=>x=k.ta∨x=k.tc∨x=k.td) w w'):qI w0 w' k {s with tab:=t} F/\qw F w w':=by
 obtain⟨G,H,I,J,_⟩:=h.all .table;have d:=h.fresh;obtain⟨x,y⟩:=h.own (t:= .table) (k':=k) (vp':=vp) (vr':=vr) (s':={s with tab:=t}) ⟨η,η⟩ (a.mono λb N=>by rcases N with rfl | rfl | rfl<;>assumption)
  ⟨(jd d η _).2 (ϑ G),(jd d η _).2 (ϑ H),(jd d η _).2 (ϑ I),(jd d η _).2 (ϑ J),b⟩ (λu O U x=>by cases u<;>first | exact x | exact ϧ rfl O)
 exact⟨x.at,y⟩
def RmX.retMap (h:RmX T w0 w k vp vr s F) {m:List (Og×Bool)} (b:jk w' k.M1 kO μ m) (a:jt (λx=>x=k.M1) w w'):qI w0 w' k {s with ret:=m} F/\qw F w w':=by
 obtain⟨d,_⟩:=h.all .ret;have H:=h.fresh;obtain⟨x,y⟩:=h.own (t:= .ret) (k':=k) (vp':=vp) (vr':=vr) (s':={s with ret:=m}) ⟨η,η⟩ (a.mono λb G=>by rw[G];exact d) ⟨(jd H η _).2 (ϑ d),b⟩ (λu I J x=>by cases u<;>first | exact x | exact ϧ rfl I);exact⟨x.at,y⟩
def RmX.ring (h:RmX T w0 w k vp vr s F) {q:List (List Int)} (a:jt (RgB k.RQ k.AQ) w w') (b: ∀D:Nat->Prop,(∀b,D b->T b≠ .data∨w.heap.size<=b)->RgR 1 238 24 RBy D w' k.RQ k.AQ s.cfg.room.toNat q):qI w0 w' k {s with queue:=q} F/\qw F w w':=by
 obtain⟨H,I,_⟩:=h.all .queue;have G:=h.fresh;obtain⟨x,y⟩:=h.own (t:= .queue) (k':=k) (vp':=vp) (vr':=vr) (s':={s with queue:=q}) ⟨η,η⟩ (a.mono λb d=>by rcases d with rfl | rfl<;>assumption)
  ⟨(jd G η _).2 (ϑ H),(jd G η _).2 (ϑ I),b _ (λb d=>ϑ (λe=>d ((jF G η η b).2 e)))⟩ (λu J N x=>by cases u<;>first | exact x | exact ϧ rfl J)
 exact⟨x.at,y⟩
def RmX.lanePut (h:RmX T w0 w k vp vr s F) {l l':LnS} (U:qh s.lanes x=ϊ l) (I:qh k.LA x=ϊ p) (b:zw (xf (λb=>T b= .lane x) w w') w' p l') (a:jt (λb=>T b= .lane x) w w'):
  qI w0 w' k {s with lanes:=qx s.lanes x l'} F/\qw F w w':=by
 have J:=h.fresh;obtain⟨y,z⟩:=h.own (t:= .lane x) (k':=k) (vp':=vp) (vr':=vr) (s':={s with lanes:=qx s.lanes x l'}) ⟨η,η⟩ a
  ⟨λaa l2 G d=>by
   rw[I] at G;rw[xD] at d;injection G with G
   injection d with d
   subst G d;rw[wW J η]
   exact b,by rw[I,xD];rfl⟩
  (λu N Y y=>by
   cases u<;>first | exact y | skip
   rename_i O;have H:O≠x:=λe=>N (by rw[e])
   exact⟨λp l G d=>y.1 p l G (by rw[vF _ _ H] at d;exact d),by rw[vF _ _ H];exact y.2⟩)
 exact⟨y.at,z⟩
def RmX.strPut (h:RmX T w0 w k vp vr s F) {t':zu} (Y:qh s.strs o=ϊ t) (I:qh k.SA o=ϊ p) (b:Hl (xf (λb=>T b= .str o) w w') w' p t') (a:jt (λb=>T b= .str o) w w'):
  qI w0 w' k {s with strs:=qx s.strs o t'} F/\qw F w w':=by
 have J:=h.fresh;obtain⟨y,z⟩:=h.own (t:= .str o) (k':=k) (vp':=vp) (vr':=vr) (s':={s with strs:=qx s.strs o t'}) ⟨η,η⟩ a
  ⟨λaa l2 G d=>by
   rw[I] at G;rw[xD] at d;injection G with G
   injection d with d
   subst G d;rw[wW J η]
   exact b,by rw[I,xD];rfl⟩
  (λu N U y=>by
   cases u<;>first | exact y | skip
   rename_i O;have H:O≠o:=λe=>N (by rw[e])
   exact⟨λp l G d=>y.1 p l G (by rw[vF _ _ H] at d;exact d),by rw[vF _ _ H];exact y.2⟩)
 exact⟨y.at,z⟩
def RmX.strSet (h:RmX T w0 w k vp vr s F) {t':zu} {H:Nat} (J:qh s.strs o=ϊ t) (I:qh k.SA o=ϊ p) (x:KJ (λb=>T b= .str o) w p H v t) (a:jt (λb=>b=p) w w')
  (blk:w'.heap[p]? =ϊ (.cells (gK H t') 109 (0,0))) (e:t'.buf=t.buf):qI w0 w' k {s with strs:=qx s.strs o t'} F/\qw F w w':=by
 refine h.strPut J I ⟨H,v,blk, ?_,by rw[e];exact x.ok,λb d=> ?_,ϑ x.np,ϑ x.nb,x.ne,λg G=>⟨ϑ (x.nv g G).1,(x.nv g G).2⟩⟩ (a.mono λb d=>by rw[d];exact x.np)
 ·rw[e];exact⟨a.blk x.buf.blk (C4 x.ne),x.buf.row.away a (λg G=>(x.nv g G).2)⟩
 ·rcases d with d | d
  ·exact ϗ (x.sub b d) a.size
  ·exact d.2
def RmX.strBuf (h:RmX T w0 w k vp vr s F) {b:Jb} {H:Nat} {v':Value} (U:qh s.strs o=ϊ t) (N:qh k.SA o=ϊ p) (x:KJ (λb=>T b= .str o) w p H v t) (st:NQ w w' H v v' b) (Y:JOK b):
  qI w0 w' k {s with strs:=qx s.strs o {t with buf:=b}} F/\qw F w w':=by
 have a:jt (λb=>T b= .str o) w w':=st.away.mono λg d=>by
  rcases d with rfl | d
  ·exact x.nb
  ·exact(x.nv g d).1
 have O: ¬(p=H∨v.ownBlock=ϊ p):=by
  rintro(e | e)
  ·exact x.ne e
  ·exact(x.nv p e).2 rfl
 refine h.strPut U N ⟨H,v',st.away.blk x.blk O,st.buf,Y,λb G=> ?_,ϑ x.np,ϑ x.nb,x.ne,λg d=> ?_⟩ a
 ·rcases G with G | G
  ·exact ϗ (x.sub b G) a.size
  ·exact G.2
 ·have J:g<w'.heap.size:=by
   rcases st.buf.row.2 with ⟨e,_⟩ | ⟨ab,cap,cur,e,_,I,_⟩
   ·rw[e] at d;cases d
   ·rw[e] at d;injection d with d
    have:=lt_of_block I;simp only at d;omega
  rcases st.own with e | ⟨g',e,hge⟩
  ·rw[e] at d;exact⟨ϑ (x.nv g d).1,(x.nv g d).2⟩
  ·rw[e] at d;injection d with d
   subst d;exact⟨ϕ ⟨hge,J⟩,λaa=>by have:=lt_of_block x.blk;omega⟩
def FG (h:qI w0 w k s F) (N sub:Int) (acc:Bool) {l:LnS} (aj:qh s.lanes sub=ϊ l):
  Calls prog 150 #[γ k.R,θ #[ι N,ι sub],acc] w λe w'=>e= .returned (.tuple #[])/\qI w0 w' k (s.choose sub) F/\qw F w w':=by
 have ad:=κ (h.stay (ql.alloc w (.cells #[ι N,ι sub] 157)));have aq:=h.adds (ql.alloc w (.cells #[ι N,ι sub] 157)) (Fn:=[w.heap.size]) (λb d=>by simp at d;subst d;simp);have ab:=κ (qj w (.cells #[ι N,ι sub] 157));obtain⟨W1,ai⟩:=ν (w.alloc (.cells #[ι N,ι sub] 157));rw[ai] at aq ab ad;obtain⟨T,vp,aQ,H⟩:=aq;have U:=κ H;obtain⟨p,av,au⟩:=H.laneAt aj;have aD:=κ au;have an:=κ av;have ac:=κ aj;have aI: ¬T k.R= .lane sub:=by rw[(H.all .room).1];simp
 have aH: ¬T k.ML= .lane sub:=by rw[(H.all .lns).1];simp
 have aG: ¬T w.heap.size= .lane sub:=by rw[(H.law w.heap.size η).1];simp
 have ay:=λ(x:qz (λb=>T b= .lane sub) W1)=>β12 (x.h.blk U.o.blk aI)
 have aA:=λ(x:qz (λb=>T b= .lane sub) W1)=>β1 (x.h.blk ab.o aG)
 have az: ∀x:qz (λb=>T b= .lane sub) W1,(Instr.lookup 94 (.map (ϊ k.ML)) (ι sub) ύ).run prog x.w'= .ok (γ p) x.w':=λx=>by
  have:=xq (U.o.lnm.away x.h aH) sub ύ;rw[an.o] at this;exact this
 have am:=κ (λw (m:ql W1 w)=>Df (aD.o.on m));obtain⟨aw,id,J,ok,ah⟩: ∃aw id J ok,jf l=(aw,id,J,ok):=⟨_,_,_,_,rfl⟩;rw[ah] at am;have ao:=κ ah;clear h H aj av au ah
 go_enter func150,ntmps150
 go_upto_region 1 with fail
 (try rw[ai])
 clear ai;refine QN (λb=>T b= .lane sub) W1 15 15 [7] ?_
 refine Qs7 ?_
 (refine Ql ?_;intro K G)
 go_call am.o _ (ql.drewN _ 1) as e w2 ⟨rfl,l2,af⟩;obtain⟨ag,t2⟩:=(U.o.on (ql.drewN W1 1)).lanePut ac.o an.o l2 af;have al:=κ ag;have ae:Hid (qw ([w.heap.size]++F) W1 w2):=κ ((ag |> λ_=>(U.o.at.stay (ql.drewN W1 1))).trans t2);have ak:Hid (jt (λb=>T b= .lane sub) W1 w2):=κ (((jt.refl _ _).drewN 1).trans af);clear l2 af ag t2;refine⟨_,rfl,qi ak.o,G _ _ ?_⟩;clear G K
 iterate 7 (refine qE rfl rfl (qi ak.o) ?_;intro K G;go_big_quiet_op;go_big_quiet_on)
 refine qA ?_;clear ay aA az;have aC:=κ (ae.o.blk η ab.o);obtain⟨c,aa⟩:=ν ((ok&& !decide (J=0)));have O:=κ aa
 go_upto_region 2 with fail
 go_cut [25] from 21 (λv aL=>v= μ c/\aL=w2)
 case first=>
  cases ok with
  | false=>
   clear aa;go_wp2;go_meet;exact⟨by rw[<-O.o];rfl,rfl⟩
  | true=>
   clear aa;go_wp2;go_meet;exact⟨by rw[<-O.o];by_cases e:J=0<;>simp[e],rfl⟩
 case rest=>
 obtain⟨rfl,aF⟩:=hcut;obtain rfl:=aF.symm;clear aa;cases c with
 | false=>
  go_wp2
  (refine bodyPost_end (v:= .tuple #[]) ?re1 rfl ?_;(case re1=>simp[results,results150,go_sem]))
  exact⟨rfl,by unfold RmS.choose;rw[ac.o];simp only[ao.o];rw[O.o];exact al.o.sub (λb d=>ϐ _ d),ad.o.trans (ae.o.sub (λb d=>ϐ _ d))⟩
 | true=>
  obtain⟨aO,aP,aR,I⟩:=al.o;have Y:=κ I;have aJ:k.R≠k.b:=λe=>by
   obtain⟨_,d,_⟩:=I.all .book;rw[<-e,(I.all .room).1] at d;cases d
  have aK:w.heap.size≠k.b:=λe=>by
   obtain⟨_,d,_⟩:=I.all .book;rw[<-e,(I.law w.heap.size η).1] at d;cases d
  have aM:=λ(x:qz (λb=>b=k.b) w2)=>β0 (x.h.blk Y.o.blk aJ)
  have aN:=λ(x:qz (λb=>b=k.b) w2)=>β1 (x.h.blk aC.o aK)
  clear I
  go_upto_region 3 with fail
  refine QN (λb=>b=k.b) w2 9 9 [8] ?_
  refine Qs8 ?_
  (refine Ql ?_;intro K G)
  go_call gI (Y.o.on (ql.drewN w2 1)).bok sub id J as e w4 ⟨rfl,ap,a4⟩;obtain⟨ar,t4⟩:=(Y.o.on (ql.drewN w2 1)).book ap a4;have aB:=κ ar;have aE:Hid (qw ([w.heap.size]++F) w2 w4):=κ ((Y.o.at.stay (ql.drewN w2 1)).trans t4);have ax:Hid (jt (λb=>b=k.b) w2 w4):=κ (((jt.refl _ _).drewN 1).trans a4);clear ap a4 ar t4;refine⟨_,rfl,qi ax.o,G _ _ ?_⟩;clear G K;refine qA ?_;go_wp2
  (refine bodyPost_end (v:= .tuple #[]) ?re2 rfl ?_;(case re2=>simp[results,results150,go_sem]))
  exact⟨rfl,by unfold RmS.choose;rw[ac.o];simp only[ao.o];rw[O.o];exact aB.o.sub (λb d=>ϐ _ d),ad.o.trans ((ae.o.trans aE.o).sub (λb d=>ϐ _ d))⟩
def CE (h:qI w0 w k s F) (J sub:Int) (acc:Bool) {l:LnS} (aj:qh s.lanes sub=ϊ l):
  Calls prog 151 #[γ k.R,θ #[ι J,ι sub],acc] w λe w'=>e= .returned (.tuple #[])/\qI w0 w' k (s.rewrite sub) F/\qw F w w':=by
 have ac:=κ (h.stay (ql.alloc w (.cells #[ι J,ι sub] 157)));have aq:=h.adds (ql.alloc w (.cells #[ι J,ι sub] 157)) (Fn:=[w.heap.size]) (λb d=>by simp at d;subst d;simp);have aa:=κ (qj w (.cells #[ι J,ι sub] 157));obtain⟨W1,ai⟩:=ν (w.alloc (.cells #[ι J,ι sub] 157));rw[ai] at aq aa ac;obtain⟨T,vp,aQ,H⟩:=aq;have O:=κ H;obtain⟨p,av,au⟩:=H.laneAt aj;have aD:=κ au;have an:=κ av;have ab:=κ aj;have aI: ¬T k.R= .lane sub:=by rw[(H.all .room).1];simp
 have aH: ¬T k.ML= .lane sub:=by rw[(H.all .lns).1];simp
 have aG: ¬T w.heap.size= .lane sub:=by rw[(H.law w.heap.size η).1];simp
 have ay:=λ(x:qz (λb=>T b= .lane sub) W1)=>β12 (x.h.blk O.o.blk aI)
 have aA:=λ(x:qz (λb=>T b= .lane sub) W1)=>β1 (x.h.blk aa.o aG)
 have az: ∀x:qz (λb=>T b= .lane sub) W1,(Instr.lookup 94 (.map (ϊ k.ML)) (ι sub) ύ).run prog x.w'= .ok (γ p) x.w':=λx=>by
  have:=xq (O.o.lnm.away x.h aH) sub ύ;rw[an.o] at this;exact this
 have am:=κ (λw (m:ql W1 w)=>Uv (aD.o.on m));obtain⟨aw,id,af,ok,ah⟩: ∃aw id af ok,qY l=(aw,id,af,ok):=⟨_,_,_,_,rfl⟩;rw[ah] at am;have ao:=κ ah;clear h H aj av au ah
 go_enter func151,ntmps151
 go_upto_region 1 with fail
 (try rw[ai])
 clear ai;refine QN (λb=>T b= .lane sub) W1 15 15 [7] ?_
 refine Qs7 ?_
 (refine Ql ?_;intro K G)
 go_call am.o _ (ql.drewN _ 1) as e w2 ⟨rfl,l2,ae⟩;obtain⟨ag,t2⟩:=(O.o.on (ql.drewN W1 1)).lanePut ab.o an.o l2 ae;have al:=κ ag;have ad:Hid (qw ([w.heap.size]++F) W1 w2):=κ ((ag |> λ_=>(O.o.at.stay (ql.drewN W1 1))).trans t2);have ak:Hid (jt (λb=>T b= .lane sub) W1 w2):=κ (((jt.refl _ _).drewN 1).trans ae);clear l2 ae ag t2;refine⟨_,rfl,qi ak.o,G _ _ ?_⟩;clear G K
 iterate 7 (refine qE rfl rfl (qi ak.o) ?_;intro K G;go_big_quiet_op;go_big_quiet_on)
 refine qA ?_;clear ay aA az;have aC:=κ (ad.o.blk η aa.o);obtain⟨c,Y⟩:=ν ((ok&&af));have N:=κ Y
 go_upto_region 2 with fail
 go_cut [24] from 21 (λv aL=>v= μ c/\aL=w2)
 case first=>
  cases ok with
  | false=>
   clear Y;go_wp2;go_meet;exact⟨by rw[<-N.o];rfl,rfl⟩
  | true=>
   clear Y;go_wp2;go_meet;exact⟨by rw[<-N.o];rfl,rfl⟩
 case rest=>
 obtain⟨rfl,aF⟩:=hcut;obtain rfl:=aF.symm;clear Y;cases c with
 | false=>
  go_wp2
  (refine bodyPost_end (v:= .tuple #[]) ?re3 rfl ?_;(case re3=>simp[results,results151,go_sem]))
  exact⟨rfl,by unfold RmS.rewrite;rw[ab.o];simp only[ao.o];rw[N.o];exact al.o.sub (λb d=>ϐ _ d),ac.o.trans (ad.o.sub (λb d=>ϐ _ d))⟩
 | true=>
  obtain⟨aO,aP,aR,I⟩:=al.o;have U:=κ I;have aJ:k.R≠k.b:=λe=>by
   obtain⟨_,d,_⟩:=I.all .book;rw[<-e,(I.all .room).1] at d;cases d
  have aK:w.heap.size≠k.b:=λe=>by
   obtain⟨_,d,_⟩:=I.all .book;rw[<-e,(I.law w.heap.size η).1] at d;cases d
  have aM:=λ(x:qz (λb=>b=k.b) w2)=>β0 (x.h.blk U.o.blk aJ)
  have aN:=λ(x:qz (λb=>b=k.b) w2)=>β1 (x.h.blk aC.o aK)
  clear I
  go_upto_region 3 with fail
  refine QN (λb=>b=k.b) w2 8 8 [7] ?_
  refine Qs7 ?_
  (refine Ql ?_;intro K G)
  go_call gI (U.o.on (ql.drewN w2 1)).bok sub id 6 as e w4 ⟨rfl,ap,a4⟩;obtain⟨ar,t4⟩:=(U.o.on (ql.drewN w2 1)).book ap a4;have aB:=κ ar;have aE:Hid (qw ([w.heap.size]++F) w2 w4):=κ ((U.o.at.stay (ql.drewN w2 1)).trans t4);have ax:Hid (jt (λb=>b=k.b) w2 w4):=κ (((jt.refl _ _).drewN 1).trans a4);clear ap a4 ar t4;refine⟨_,rfl,qi ax.o,G _ _ ?_⟩;clear G K;refine qA ?_;go_wp2
  (refine bodyPost_end (v:= .tuple #[]) ?re4 rfl ?_;(case re4=>simp[results,results151,go_sem]))
  exact⟨rfl,by unfold RmS.rewrite;rw[ab.o];simp only[ao.o];rw[N.o];exact aB.o.sub (λb d=>ϐ _ d),ac.o.trans ((ad.o.trans aE.o).sub (λb d=>ϐ _ d))⟩
def Kd (b:Bk) (x i f:Int):(jp b x i f).length<=b.length+1:=by
 unfold jp zi;split
 ·split
  ·split
   ·split
    ·exact SD _ _
    ·exact D0 _
   ·exact D0 _
  ·exact D0 _
 ·exact D0 _
def LJ (h:qI w0 w k s F) (sub:Int) (H:s.book.length<=1000000):
  Calls prog 66 #[γ k.B,ι sub,ι 7] w λe w'=>(∃v,e= .returned v)/\qI w0 w' k {s with book:=vM s.book sub 7} F/\qw F w w'/\jt (λx=>x=k.b) w w':=by
 obtain⟨T,vp,I,x⟩:=h;refine(MN x.bok sub 7 H).mono ?_;rintro e w' ⟨⟨v,rfl,_⟩,b,a⟩;obtain⟨d,G⟩:=x.book b a;exact⟨⟨v,rfl⟩,d,G,a⟩
def Lc (h:qI w0 w k s F) (sub:Int):
  Calls prog 179 #[γ k.tb,ι sub] w λe w'=>(∃v,e= .returned v)/\qI w0 w' k {s with tab:=(zM s.tab sub).1} F/\qw F w w'/\jt (λx=>x=k.td) w w':=by
 obtain⟨T,vp,H,x⟩:=h;refine(Zr x.tab sub).mono ?_;rintro e w' ⟨rfl,b,a⟩;obtain⟨d,G⟩:=x.table b (a.mono λ_ e=>ϕ (ϕ e));exact⟨⟨_,rfl⟩,d,G,a⟩
def La (h:qI w0 w k s F) (Y sub:Int) (acc:Bool) {l:LnS} (ax:qh s.lanes sub=ϊ l) (bo:l.W.length<=1000000) (bw:s.book.length<=900000):
  Calls prog 146 #[γ k.R,θ #[ι Y,ι sub],acc] w λe w'=>e= .returned (.tuple #[])/\qI w0 w' k (s.write sub acc) F/\qw F w w':=by
 have aG:=κ (h.stay (ql.alloc w (.cells #[ι Y,ι sub] 157)));have aL:=h.adds (ql.alloc w (.cells #[ι Y,ι sub] 157)) (Fn:=[w.heap.size]) (λb d=>by simp at d;subst d;simp);have aa:=κ (qj w (.cells #[ι Y,ι sub] 157));obtain⟨W1,au⟩:=ν (w.alloc (.cells #[ι Y,ι sub] 157));rw[au] at aL aa aG;obtain⟨T,vp,bC,az⟩:=aL;have ab:=κ az;obtain⟨p,aS,aQ⟩:=az.laneAt ax;have bk:=κ aQ;have am:=κ aS;have aF:=κ ax;have ba:=λ(x:qt W1)=>β12 (qq x.h ab.o.blk)
 have bc:=λ(x:qt W1)=>β1 (qq x.h aa.o)
 have bb: ∀x:qt W1,(Instr.lookup 94 (.map (ϊ k.ML)) (ι sub) ύ).run prog x.w'= .ok (γ p) x.w':=λx=>by
  have:=xq (ab.o.lnm.more x.h) sub ύ;rw[am.o] at this;exact this
 have aD:=κ (λw (m:ql W1 w)=>As (bk.o.on m) bo acc);obtain⟨l2,id,H,ok,ar⟩: ∃l2 id H ok,qX l acc=(l2,id,H,ok):=⟨_,_,_,_,rfl⟩;rw[ar] at aD;have bl:=κ ar;clear h az ax aS aQ ar
 go_enter func146,ntmps146
 go_upto_region 1 with fail
 (try rw[au])
 clear au;refine qD _ (ql.refl _) ξ ξ ?_
 repeat (go_big_quiet_step (fail))
 refine wpQuiet_nil ?_;intro _ bp;obtain⟨aW,rfl⟩:=bp;obtain⟨W2,av⟩:=ν (aW.w');have ao:Hid (ql W1 W2):=κ (by rw[<-av];exact aW.h);rw[av];clear av ba bc bb;obtain⟨c,aP⟩:=ν ((ok&&decide (H=1)));have al:=κ aP;clear aP
 go_upto_region 3 with (go_at_call 177;(go_call aD.o _ ao.o as e G ⟨rfl,aM,a3⟩;obtain⟨aK,t3⟩:=(ab.o.on ao.o).lanePut aF.o am.o aM a3;have aB:=κ aK;have ap:Hid (qw ([w.heap.size]++F) W1 G):=κ ((ab.o.at.stay ao.o).trans t3);clear aM a3 aK t3))
 go_cut [28] from 24 (λv ah=>v= μ c/\ah=G)
 case first=>
  cases ok with
  | false=>
   go_wp2;go_meet;exact⟨by rw[<-al.o];rfl,rfl⟩
  | true=>
   go_wp2;go_meet;exact⟨by rw[<-al.o];by_cases e:H=1<;>simp[e],rfl⟩
 case rest=>
 obtain⟨rfl,bn⟩:=hcut;obtain rfl:=bn.symm
 go_upto_if 28 with fail
 go_cut [] from 29 (λah=>qI w0 ah k {s with lanes:=qx s.lanes sub l2,book:=if c then jp s.book sub id H else s.book} ([w.heap.size]++F)/\qw ([w.heap.size]++F) G ah)
 case first=>
  cases c with
  | false=>
   go_wp2;go_meet;exact⟨aB.o,qw.refl _ _⟩
  | true=>
   have bg:=κ (ap.o.blk η aa.o);obtain⟨bt,bz,bD,O⟩:=aB.o;have ac:=κ O;have bq:k.R≠k.b:=λe=>by
    obtain⟨_,d,_⟩:=O.all .book;rw[<-e,(O.all .room).1] at d;cases d
   have br:w.heap.size≠k.b:=λe=>by
    obtain⟨_,d,_⟩:=O.all .book;rw[<-e,(O.law (w.heap.size) η).1] at d;cases d
   have ai:=λ(x:qz (λb=>b=k.b) G)=>β0 (x.h.blk ac.o.blk bq)
   have aj:=λ(x:qz (λb=>b=k.b) G)=>β1 (x.h.blk bg.o br)
   clear O
   go_upto_region 4 with fail
   refine QN (λb=>b=k.b) G 9 9 [8] ?_
   refine Qs8 ?_
   (refine Ql ?_;intro K I)
   go_call gI (ac.o.on (ql.drewN G 1)).bok sub id H as e w4 ⟨rfl,aJ,a4⟩;obtain⟨ag,t4⟩:=(ac.o.on (ql.drewN G 1)).book aJ a4;have bd:=κ ag;have af:Hid (qw ([w.heap.size]++F) G w4):=κ ((ac.o.at.stay (ql.drewN G 1)).trans t4);have aX:Hid (jt (λb=>b=k.b) G w4):=κ (((jt.refl _ _).drewN 1).trans a4);clear aJ a4 ag t4;refine⟨_,rfl,qi aX.o,I _ _ ?_⟩;clear I K;refine qA ?_;go_wp2;go_meet;exact⟨bd.o,af.o⟩
 case rest=>
 obtain⟨ag,t4⟩:=hcut;rename_i w4;have bh:=κ ((ap.o.trans t4).blk η aa.o);have af:=κ (aG.o.trans ((ap.o.trans t4).sub (F':=F) (λb d=>ϐ _ d)));obtain⟨bu,bA,bE,aA⟩:=ag;have ad:=κ aA;obtain⟨bs,ay,aR⟩:=aA.laneAt (x:=sub) (l:=l2) (xD _ _ _);obtain rfl:bs=p:=by rw[am.o] at ay;injection ay with e;exact e.symm
 have ak:=κ (JB aR);clear aA ay aR t4;obtain⟨aq,aw⟩:=ν (l2.gone);rw[aw] at ak;have bj:=κ aw;clear aw;have aE:Hid (s.write sub acc={s with lanes:=qx s.lanes sub l2,tab:=if aq then (zM s.tab sub).1 else s.tab,book:=if aq then vM (if c then jp s.book sub id H else s.book) sub 7 else if c then jp s.book sub id H else s.book}):=κ (by unfold RmS.write;rw[aF.o];simp only[bl.o];rw[al.o,bj.o]);cases aq with
 | false=>
  go_wp2_with (go_at_call 61;(go_call ak.o as e w6 ⟨rfl,N⟩;have ae:=κ N;clear N))
  (refine bodyPost_end (v:= .tuple #[]) ?re1 rfl ?_;(case re1=>simp[results,results146,go_sem]))
  exact⟨rfl,by rw[aE.o];exact(ad.o.on ae.o).at.sub (λb d=>ϐ _ d),af.o.trans ((ad.o.at.stay ae.o).sub (λb d=>ϐ _ d))⟩
 | true=>
  go_upto_region 6 with (go_at_call 61;(go_call ak.o as e w6 ⟨rfl,N⟩;have ae:=κ N;have J:=κ (ad.o.on N);have aC:=κ (qq N bh.o);clear N))
  have aT:k.R≠k.b:=λe=>by
   obtain⟨_,d,_⟩:=J.o.all .book;rw[<-e,(J.o.all .room).1] at d;cases d
  have aU:w.heap.size≠k.b:=λe=>by
   obtain⟨_,d,_⟩:=J.o.all .book;rw[<-e,(J.o.law (w.heap.size) η).1] at d;cases d
  have ai:=λ(x:qz (λb=>b=k.b) w6)=>β0 (x.h.blk J.o.blk aT)
  have aj:=λ(x:qz (λb=>b=k.b) w6)=>β1 (x.h.blk aC.o aU)
  refine QN (λb=>b=k.b) w6 8 8 [7] ?_
  refine Qs7 ?_
  (refine Ql ?_;intro K I)
  go_call LJ (J.o.on (ql.drewN w6 1)).at sub (by have:=Kd s.book sub id H;cases c<;>simp<;>omega) as e w7 ⟨⟨bx,rfl⟩,aN,aV,aI⟩;have be:=κ aN;have aH:Hid (qw ([w.heap.size]++F) w6 w7):=κ ((J.o.at.stay (ql.drewN w6 1)).trans aV);have aY:Hid (jt (λb=>b=k.b) w6 w7):=κ (((jt.refl _ _).drewN 1).trans aI);clear aN aV aI;refine⟨_,rfl,qi aY.o,I _ _ ?_⟩;clear I K ai aj aT aU;refine qA ?_;have bi:=κ (aH.o.blk η aC.o);obtain⟨bv,bB,bF,U⟩:=be.o;have an:=κ U;have n1:k.R≠k.td:=λe=>by
   obtain⟨_,_,_,d,_⟩:=U.all .table;rw[<-e,(U.all .room).1] at d;cases d
  have n2:w.heap.size≠k.td:=λe=>by
   obtain⟨_,_,_,d,_⟩:=U.all .table;rw[<-e,(U.law w.heap.size η).1] at d;cases d
  have ai:=λ(x:qz (λb=>b=k.td) w7)=>β11 (x.h.blk an.o.blk n1)
  have aj:=λ(x:qz (λb=>b=k.td) w7)=>β1 (x.h.blk bi.o n2)
  clear U
  go_upto_region 7 with fail
  refine QN (λb=>b=k.td) w7 7 7 [6] ?_
  refine Qs6 ?_
  (refine Ql ?_;intro K I)
  go_call Lc (an.o.on (ql.drewN w7 1)).at sub as e w9 ⟨⟨v9,rfl⟩,aO,t9,a9⟩;have bf:=κ aO;have bm:Hid (qw ([w.heap.size]++F) w7 w9):=κ ((an.o.at.stay (ql.drewN w7 1)).trans t9);have aZ:Hid (jt (λb=>b=k.td) w7 w9):=κ (((jt.refl _ _).drewN 1).trans a9);clear aO t9 a9;refine⟨_,rfl,qi aZ.o,I _ _ ?_⟩;clear I K;refine qA ?_;go_wp2
  (refine bodyPost_end (v:= .tuple #[]) ?re2 rfl ?_;(case re2=>simp[results,results146,go_sem]))
  exact⟨rfl,by rw[aE.o];exact bf.o.sub (λb d=>ϐ _ d),af.o.trans (((ad.o.at.stay ae.o).trans (aH.o.trans bm.o)).sub (λb d=>ϐ _ d))⟩
def Z4 (n sub:Int) (w:World):Calls prog 176 #[θ #[ι n,ι sub]] w λe w'=>e= .returned (ι (xB n))/\ql w w':=by
 by_cases h2:n=2
 ·subst h2
  go_enter func176,ntmps176
  go_wp2;go_ret;exact⟨rfl,ql.alloc _ _⟩
 ·by_cases h3:n=3
  ·subst h3
   go_enter func176,ntmps176
   go_wp2;go_ret;exact⟨rfl,ql.alloc _ _⟩
  ·have e:xB n=3:=by unfold xB;rw[Ϗ h2,Ϗ h3]
   have d:(n==2)=ύ:=by simp[h2]
   have G:(n==3)=ύ:=by simp[h3]
   rw[e];clear h2 h3 e
   go_enter func176,ntmps176
   go_wp2;go_ret;exact⟨rfl,ql.alloc _ _⟩
def CM (n sub:Int) (J:0<=n/\n<=4) (w:World):Calls prog 183 #[θ #[ι n,ι sub]] w λe w'=>e= .returned (.tuple #[θ #[ι (vi (n,sub)).1.1,ι (vi (n,sub)).1.2],μ (vi (n,sub)).2])/\ql w w':=by
 have d:=qj (w.alloc (.cells #[ι n,ι sub] 157)) (.cells #[ι 0,ι 0] 157);by_cases h0:n=0
 ·subst h0
  go_enter func183,ntmps183
  go_wp2
  (refine bodyPost_ret (v:= .tuple #[θ #[ι 0,ι 0],ύ]) ?rr1 rfl ?_;(case rr1=>(simp[results,results183,go_sem])))
  exact⟨rfl,ρ⟩
 ·by_cases h1:n=1
  ·subst h1
   go_enter func183,ntmps183
   go_wp2
   (refine bodyPost_ret (v:= .tuple #[θ #[ι 0,ι 0],ό]) ?rr2 rfl ?_;(case rr2=>(simp[results,results183,go_sem])))
   exact⟨rfl,ρ⟩
  ·by_cases h2:n=2
   ·subst h2
    go_enter func183,ntmps183
    go_wp2
    (refine bodyPost_ret (v:= .tuple #[θ #[ι 1,ι 0],ό]) ?rr3 rfl ?_;(case rr3=>(simp[results,results183,go_sem])))
    exact⟨rfl,ρ⟩
   ·have e:vi (n,sub)=((n-1,sub),ό):=by unfold vi;rw[Ϗ h0,Ϗ h1,Ϗ h2]
    have G:(n==0)=ύ:=by simp[h0]
    have H:(n==1)=ύ:=by simp[h1]
    have I:(n==2)=ύ:=by simp[h2]
    rw[e];clear e
    go_enter func183,ntmps183
    go_wp2
    (refine bodyPost_ret (v:= .tuple #[θ #[ι (n-1),ι sub],ό]) ?rr4 rfl ?_;(case rr4=>(simp[results,results183,go_sem])))
    exact⟨rfl,ρ⟩
def PZ {J:Nat->Prop} {l:LnS} (h:zw J w p l) (n:Int) (N:n=1∨n=2∨n=3):
  Calls prog 182 #[γ p,ι n] w λe w'=>(∃v,e= .returned v/\w'.ownsRow w.heap.size 3 1 v (KG l n).length ((KG l n).map (Value.int .i64)))/\zw (xf J w w') w' p (vh l n)/\jt J w w':=by
 obtain⟨k,vo,rfl,x⟩:=h;rcases N with rfl | rfl | rfl
 ·refine(Z1 x).mono ?_;rintro e w' ⟨d,G,H⟩;exact⟨d,⟨k,vo,rfl,G⟩,H.mono λb I=>x.muts b I⟩
 ·refine(ZZ x).mono ?_;rintro e w' ⟨d,G,H⟩;exact⟨d,⟨k,vo,rfl,G⟩,H.mono λb I=>x.muts b I⟩
 ·refine(ZY x).mono ?_;rintro e w' ⟨d,G,H⟩;exact⟨d,⟨k,vo,rfl,G⟩,H.mono λb I=>x.muts b I⟩
def Kb (n:Int):xB n=1∨xB n=2∨xB n=3:=by
 unfold xB;split
 ·exact ϑ rfl
 ·split
  ·exact ϕ (ϑ rfl)
  ·exact ϕ (ϕ rfl)
def DrJ.step' {R:Nat} {v' G:Value} {b:Jb} {A:List Int} (d:DrJ w w' R v v' b G A):NQ w w' R v v' b:=⟨d.buf,d.away,d.own⟩
def FD (h:RmX T w0 w k vp vr s F):
  Calls prog 180 #[γ k.RQ] w λe w'=>(∃d cap,e= .returned (δ d s.queue.length cap))/\qI w0 w' k {s with queue:=[]} F/\qw F w w'/\jt (RgB k.RQ k.AQ) w w':=by
 obtain⟨f,q,I,J,H,N,css,g,a⟩:=h.que;have ae: ∀c∈q,∃d n cp,c=[δ d n cp]:=λc ac=>by
  obtain⟨b,_,af⟩:=a.mem c ac;obtain⟨v,rfl,⟨d,cap,rfl,_⟩,_⟩:=af.read;exact⟨d,_,cap,rfl⟩
 refine(IL w _ _ _ _ q I J H N css g ae).mono ?_;rintro e w' ⟨v,rfl,ad,⟨Y,O,U,g'⟩,G⟩;obtain⟨d,cap,rfl⟩:=zA ad;obtain⟨aa,ab⟩:=h.ring (q:=[]) G (λD _=>⟨Y,[],I,J,H,O,U,g',trivial⟩);rw[a.len];exact⟨⟨d,cap,rfl⟩,aa,ab,G⟩
end Go.Proofs.YtmgaiiffmheabaaGreatDoor
