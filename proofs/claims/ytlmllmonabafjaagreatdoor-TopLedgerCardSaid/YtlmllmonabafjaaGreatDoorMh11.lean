/- x -/
import Derived.Shelf.Sort.Plain
import Derived.Shelf.Slices.In.SortNone
import Derived.Sort.OwnSortedInts
import Derived.Test.YtlmllmonabafjaaGreatDoorMh8
namespace Go.Proofs.YtlmllmonabafjaaGreatDoor
open Option renaming some->ϊ,none->ϋ
open Bool renaming true->ό,false->ύ
open Go.Value renaming bool->μ,slice->δ,pointer->π,agg->θ
open Go.IntKind renaming i64->ι,u8->υ,u16->φ,u32->ω,i32->χ,u64->ψ
open _root_.Go.Proofs.Tryz
set_option linter.all false
set_option maxHeartbeats 8000000
open Go.RowKit
set_option maxRecDepth 100000
open Go.Shelf
variable {w w' w0:World} {v vp vr:Value} {b base p C B:Nat} {l:List Int} {m:Bk} {F:List Nat} {x s0 s1 s2:Int} {o:Og} {xs:List Value} {K V α:Type} {L:List (K×V)} {S:Nat->Prop} {ke:K->Value} {P:Prop}
def Kl:Go.Shelf.Ren:=⟨fun | 189=>116 | 125=>169 | 257=>168 | 128=>229 | 129=>230 | 294=>220 | 295=>221 | 296=>222 | 297=>223 | 298=>224 | 299=>225 | 216=>226 | 300=>227 | 301=>228 | 328=>272 | 329=>273 | 330=>274 | 331=>275 | 332=>276 | 215=>277 | 343=>302 | n=>n,fun | 28=>107 | 3=>3 | 46=>335 | 0=>0 | 51=>38 | 53=>231 | 4=>4 | 183=>400 | 182=>399 | 131=>200 | 5=>5 | 9=>9 | 218=>443 | 222=>447 | 228=>469 | 229=>100 | n=>n,fun | n=>n⟩
def WW:Go.Proofs.Lays.n189 prog Kl:={
 mixed:=by kernel_rfl
 f125:=func169.trans (ϵ ϊ ξ)
 f128:=func229.trans (ϵ ϊ ξ)
 f129:=func230.trans (ϵ ϊ ξ)
 f189:=func116.trans (ϵ ϊ ξ)
 f215:=func277.trans (ϵ ϊ ξ)
 f216:=func226.trans (ϵ ϊ ξ)
 f257:=func168.trans (ϵ ϊ ξ)
 f294:=func220.trans (ϵ ϊ ξ)
 f295:=func221.trans (ϵ ϊ ξ)
 f296:=func222.trans (ϵ ϊ ξ)
 f297:=func223.trans (ϵ ϊ ξ)
 f298:=func224.trans (ϵ ϊ ξ)
 f299:=func225.trans (ϵ ϊ ξ)
 f300:=func227.trans (ϵ ϊ ξ)
 f301:=func228.trans (ϵ ϊ ξ)
 f328:=func272.trans (ϵ ϊ ξ)
 f329:=func273.trans (ϵ ϊ ξ)
 f330:=func274.trans (ϵ ϊ ξ)
 f331:=func275.trans (ϵ ϊ ξ)
 f332:=func276.trans (ϵ ϊ ξ)
 f343:=func302.trans (ϵ ϊ ξ)
 t0:=underlying0
 a0:=isAgg0
 z0:=sizeOf0
 v0:=zeroValue0
 t3:=underlying3
 a3:=isAgg3
 z3:=sizeOf3
 v3:=zeroValue3
 t4:=underlying4
 a4:=isAgg4
 z4:=sizeOf4
 v4:=zeroValue4
 t5:=underlying5
 a5:=isAgg5
 z5:=sizeOf5
 v5:=zeroValue5
 t9:=underlying9
 a9:=isAgg9
 z9:=sizeOf9
 v9:=zeroValue9
 t28:=underlying107
 a28:=isAgg107
 z28:=sizeOf107
 v28:=zeroValue107
 t46:=underlying335
 a46:=isAgg335
 z46:=sizeOf335
 v46:=zeroValue335
 t51:=underlying38
 a51:=isAgg38
 z51:=sizeOf38
 v51:=zeroValue38
 t53:=underlying231
 a53:=isAgg231
 z53:=sizeOf231
 v53:=zeroValue231
 t131:=underlying200
 a131:=isAgg200
 z131:=sizeOf200
 v131:=zeroValue200
 t182:=underlying399
 a182:=isAgg399
 z182:=sizeOf399
 v182:=zeroValue399
 t183:=underlying400
 a183:=isAgg400
 z183:=sizeOf400
 v183:=zeroValue400
 t218:=underlying443
 a218:=isAgg443
 z218:=sizeOf443
 v218:=zeroValue443
 t222:=underlying447
 a222:=isAgg447
 z222:=sizeOf447
 v222:=zeroValue447
 t228:=underlying469
 a228:=isAgg469
 z228:=sizeOf469
 v228:=zeroValue469
 t229:=underlying100
 a229:=isAgg100
 z229:=sizeOf100
 v229:=zeroValue100}
open Go.RowKit
def srt (l:List Int):List Int:=l.mergeSort λx y=>decide (x<=y)
def vI (l:List Int):(srt l).length=l.length:=by unfold srt;simp
def gL {a b:List Int} (h:a.Perm b):srt a=srt b:=by
 unfold srt;have J: ∀a b c:Int,decide (a<=b)=ό->decide (b<=c)=ό->decide (a<=c)=ό:=λa b c d H=>by simp at *;omega
 have I: ∀a b:Int,(decide (a<=b)||decide (b<=a))=ό:=λa b=>by simp;omega
 refine List.Perm.eq_of_pairwise (le:=λx y:Int=>decide (x<=y)=ό) ?_ (R4 J I a) (R4 J I b) (((P1 a _).trans h).trans (P1 b _).symm);intro x y _ _ d H;simp at d H;omega
def Zh (h:l.Pairwise (· <= ·)):srt l=l:=List.mergeSort_of_pairwise (by simpa using h)
def WG:x∈srt l↔x∈l:=(P1 l _).mem_iff
def jS {e size n:Nat} (h:w.ownsRow base e size v n xs) {q:Nat} (d:v.ownBlock=ϊ q):base<=q:=by
 rcases h.2 with ⟨rfl,_⟩ | ⟨b,cap,cur,rfl,H,_⟩
 ·cases d
 ·cases d;exact H
def Yx {e size n:Nat} (h:w.ownsRow base e size v n xs) (m:jt S w w') (I: ∀k,S k->k<base):w'.ownsRow base e size v n xs:=by
 obtain⟨d,H⟩:=h;refine⟨d, ?_⟩;rcases H with h | ⟨g,cap,cur,e1,hb,hg,rest⟩
 ·exact ϑ h
 ·exact ϕ ⟨g,cap,cur,e1,hb,m.blk hg (λx=>by have:=I g x;omega),rest⟩
def DQ (h:w.ownsRow base 3 1 v l.length (l.map (Value.int .i64))) (O:l.length<4611686018427387904):
  Calls prog 116 #[v] w λe w'=>e= .returned (.tuple #[])/\w'.ownsRow base 3 1 v (srt l).length ((srt l).map (Value.int .i64))/\w.grownBy w' v.ownBlock:=by
 obtain⟨ac,h⟩:=h;rcases h with ⟨rfl,U⟩ | ⟨b,cap,cur,rfl,J,I,M,N,Y,aa⟩
 ·have e0:l=[]:=by simpa using U
  subst e0;refine(Any.slices_Sort_int_none WW ϋ 0 w).mono λe w' ⟨d,H⟩=> ?_
  subst H;exact⟨d,⟨by simp[srt],ϑ ⟨rfl,by simp[srt]⟩⟩,⟨rfl,rfl,rfl,ϔ _,λ_ _ _=>rfl⟩⟩
 ·have ab:cur.toList.take l.length=l.map (Value.int .i64):=by simpa using aa
  refine(Any.slices_Sort_int WW b 0 cap l w (holds_of_blockI I ab) (lt_of_block I) O).mono λe w' ⟨d,n,os,H⟩=> ?_
  subst H;refine⟨d, ?_,grownBy_sortedI _⟩;have:=ownsRow_sortedI (w:=w) (n:=n) (os:=os) (ss:=l) (ts:=srt l) (vI l) J I M N Y;rw[vI];exact this
def xS (sub:Int) (l:Bk):List Int:=l.filterMap λp=>if p.1.1=sub/\p.2=0 then ϊ p.1.2 else ϋ
def jz (m:Bk) (sub:Int):List Int:=srt (xS sub m)
def kN (sub:Int) (l:Bk):(xS sub l).length<=l.length:=J4 _ _
def Xe (L:List (K×V)) (is:List Nat):(zj L is).length<=is.length:=J4 _ _
def Ki (sub:Int) (l:Bk) (p:(Int×Int)×Int):xS sub (l++[p])=xS sub l++(if p.1.1=sub/\p.2=0 then [p.1.2] else []):=by
 unfold xS;rw[K8];by_cases h:p.1.1=sub/\p.2=0<;>simp[h]
def Yc (h:jy w B b m) (sub:Int) (aA:m.length<=1000000):
  Calls prog 70 #[γ B,ι sub] w λe w'=>(∃v,e= .returned v/\SlI .i64 w' v (jz m sub)/\ ∀q,v.ownBlock=ϊ q->w.heap.size<=q)/\ql w w':=by
 obtain⟨aV,hi,aS,aT,aU⟩:=info_parts (P:=prog) (e:=3) (z:= ι 0) (size:=1) (bytes:=8) ξ;have aX:=β0 h.blk;have aW:=κ h;have aj:=κ aA;obtain⟨w1,bg,av,ar,aQ⟩:=h.map.range (P:=prog) underlying236;have aZ:=h.map.lt;have aI:=κ av;have aF:=κ ar;clear h aA av ar aQ
 go_enter func70,ntmps70
 go_wp2
 go_loopw [5] (λv5 wr=> ∃is:List Nat,jW wr w.heap.size b ke2 (Value.int .i64) m is/\wr.ownsRow (w.heap.size+1) 3 1 v5 (xS sub (zj m is)).length ((xS sub (zj m is)).map (Value.int .i64))/\ql w wr) (λ_ wr=>uO wr b w.heap.size)
 case atStart=>exact⟨[],aI.o,World.ownsRow_nil _ _ _ _,aF.o⟩
 case round=>
  obtain⟨is,O,an,ak⟩:=hrel;have aq:=κ O;have ac:=κ an;have af:=κ ak;have ae:=κ O.left;rcases O.next (P:=prog) with ⟨ax,am⟩ | ⟨i,aN,w2,bd,bb,am,aw,ah,aR,ay⟩
  ·clear O an ak;have ao:=κ ax;clear ax;have aO:(xS sub (zj m is)).length<4611686018427387904:=by
    have I:=kN sub (zj m is);have M:=Xe m is;have aY:=ao.o;have aK:=aj.o;omega
   go_wp2_with (go_at_call 116;(go_call DQ ac.o aO as e bj ⟨rfl,U,az⟩;have aG:=κ U;have aD:=κ az;clear U az))
   go_ret;have aP:=aq.o.perm ao.o;have aJ:srt (xS sub (zj m is))=jz m sub:=gL (aP.filterMap _);have U:=aG.o;rw[aJ] at U;refine⟨⟨_,rfl,SlI.of_owns U ?_,λq Y=>by have:=jS ac.o Y;omega⟩,af.o.grown aD.o af.o.size ?_⟩
   ·have I:=kN sub m;have M:(jz m sub).length=(xS sub m).length:=vI _;have aK:=aj.o;omega
   ·intro q Y;have:=jS ac.o Y;omega
  ·have be:=kN sub (zj m is);have bf:=Xe m is;have aB:=uW (L:=m) (is:=is) aN;have d:=Ki sub (zj m is) m[i];rw[<-aB] at d;have ba:=aj.o;have bc:is.length<1000000:=by omega
   clear O an ak aB;generalize m[i]=p at *;obtain⟨⟨aa,ad⟩,f⟩:=p;unfold ke2 at am ay;simp only at am ay d;have H:=κ (Yx ac.o ah (λk ai=>by subst ai;exact F1 _));have J:=κ (aw.more (ql.alloc w2 (.cells #[ι aa,ι ad] 169)));have au:ql w w2:=jt.to_more af.o ah (λk ai=>by subst ai;exact ϔ _);have ab:=κ au;have bh:w.heap.size+1<=w2.heap.size:=by have:=lt_of_block (aq.o.rlt |> λh=>(I9 h));omega
   clear aw ah au aR;by_cases I:aa=sub
   ·by_cases M:f=0
    ·subst I M;rw[ϐ ⟨rfl,rfl⟩] at d;have N:=κ d;clear d
     go_wp2_with (at_builtin;refine qU _ rfl (.tmp 26) (.tmp 29) 107 rfl (w.heap.size+1) 3 aV (ι 0) 8 underlying107 hi aS aT aU rfl _ .i64 (xS aa (zj m is)) rfl ((H.o.alloc _).alloc _) _ [ad] rfl (SlI.lit .i64 (w2.alloc (.cells #[ι aa,ι ad] 169)) [ad] 3 _ 1 _ η rfl η η) (by simp;omega) ζ (by simp;omega) ?_;intro bi w6 aC ag _;have aH:=κ aC;have ap:=κ (jt.of_grown ag);have aE:=κ ag;clear aC ag)
     go_roundw
     case rel=>
      refine⟨is++[i],(J.o.more X8).away ap.o ?_ ?_, ?_, ?_⟩
      ·intro e;have:=jS H.o e;omega
      ·intro e;have:=jS H.o e;omega
      ·rw[N.o];exact aH.o
      ·exact(((ab.o.al _).al _).grown aE.o ((ab.o.al _).al _).size (λq Y=>by have:=jS H.o Y;omega))
     case measure=>
      have aL:=(J.o.more X8).away ap.o (λe=>by have:=jS H.o e;omega) (λe=>by have:=jS H.o e;omega);rw[ae.o,aL.left];simp;omega
    ·have aM:(f==0)=ύ:=by simpa using M
     rw[ώ (λh=>M h.2),ε] at d;have N:=κ d;clear d M;subst I;go_wp2;go_roundw
     case rel=>exact⟨is++[i],J.o,by rw[N.o];exact H.o.alloc _,ab.o.al _⟩
     case measure=>
      rw[ae.o,J.o.left];simp;omega
   ·have aM:(aa==sub)=ύ:=by simpa using I
    rw[ώ (λh=>I h.1),ε] at d;have N:=κ d;clear d I;go_wp2;go_roundw
    case rel=>exact⟨is++[i],J.o,by rw[N.o];exact H.o.alloc _,ab.o.al _⟩
    case measure=>
     rw[ae.o,J.o.left];simp;omega
def zL (sub:Int) (f:Nat) (l:Bk):Int:=((l.countP λp=>decide (p.1.1=sub/\p.2=(f:Int)):Nat):Int)
def xH (sub:Int) (l:Bk):Array Value:= #[.int .i64 (zL sub 0 l),.int .i64 (zL sub 1 l),.int .i64 (zL sub 2 l),.int .i64 (zL sub 3 l),.int .i64 (zL sub 4 l),.int .i64 (zL sub 5 l),.int .i64 (zL sub 6 l),.int .i64 (zL sub 7 l),.int .i64 (zL sub 8 l)]
def WZ (sub:Int) (f:Nat) (l:Bk):0<=zL sub f l/\zL sub f l<=l.length:=by
 unfold zL;exact⟨τ,by have:=List.countP_le_length (l:=l) (p:=λp=>decide (p.1.1=sub/\p.2=(f:Int)));omega⟩
def Z2 (sub:Int) (f:Nat) (l:Bk) (p:(Int×Int)×Int):zL sub f (l++[p])=zL sub f l+if p.1.1=sub/\p.2=(f:Int) then 1 else 0:=by
 unfold zL;rw[List.countP_append];by_cases h:p.1.1=sub/\p.2=(f:Int)<;>simp[h]
def Db (sub:Int) (f:Nat) {a b:Bk} (h:a.Perm b):zL sub f a=zL sub f b:=by unfold zL;rw[h.countP_eq]
def Ks (sub:Int) {a b:Bk} (h:a.Perm b):xH sub a=xH sub b:=by unfold xH;simp only[Db sub _ h]
def Y2 (sub:Int) (l:Bk) (p:(Int×Int)×Int) (h:p.1.1≠sub):xH sub (l++[p])=xH sub l:=by
 unfold xH;simp only[Z2,h,false_and,C2,Int.add_zero]
def Dc (sub:Int) (l:Bk) (n:Nat) (h:n<=8):(xH sub l)[n]? =ϊ (ι (zL sub n l)):=by
 have:n=0∨n=1∨n=2∨n=3∨n=4∨n=5∨n=6∨n=7∨n=8:=by omega
 rcases this with rfl | rfl | rfl | rfl | rfl | rfl | rfl | rfl | rfl<;>rfl
def Kr (sub:Int) (l:Bk) (p2:Int) (n:Nat) (h:n<=8):(xH sub l).setIfInBounds n (ι (zL sub n l+1))=xH sub (l++[((sub,p2),(n:Int))]):=by
 unfold xH;simp only[Z2,X6];have:n=0∨n=1∨n=2∨n=3∨n=4∨n=5∨n=6∨n=7∨n=8:=by omega
 rcases this with rfl | rfl | rfl | rfl | rfl | rfl | rfl | rfl | rfl<;>simp
def MG {r:Nat} {H:V->Value} {is:List Nat} (h:jW w r b ke H L is):r<w.heap.size:=by
 obtain⟨⟨M,J,O,I,N,d,_⟩,_⟩:=h;exact lt_of_block d
def F4 (h:jy w B b m) (sub:Int) (az:m.length<=1000000):
  Calls prog 62 #[γ B,ι sub] w λe w'=>e= .returned (θ (xH sub m))/\ql w w':=by
 have bc: ∃W0,W0=(w.alloc (.cells #[ι 0,ι 0,ι 0,ι 0,ι 0,ι 0,ι 0,ι 0,ι 0] 96)).alloc (.cells #[ι 0,ι 0,ι 0,ι 0,ι 0,ι 0,ι 0,ι 0,ι 0] 96):=⟨_,rfl⟩;obtain⟨W0,J⟩:=bc;have ac:ql w W0:=by rw[J];exact X8.al _
 have aq:W0.heap[w.heap.size]? =ϊ (.cells (xH sub []) 96 (0,0)):=by rw[J];exact qs (qj _ _) _
 have ar:W0.heap[w.heap.size+1]? =ϊ (.cells (xH sub []) 96 (0,0)):=by rw[J];exact qC η
 have aD:W0.heap.size=w.heap.size+2:=by rw[J];simp
 have ab:=h.more ac;have aN:=β0 ab.blk;obtain⟨w1,aC,ad,Y,ba⟩:=ab.map.range (P:=prog) underlying236;have aY:=κ az;have bn:=h.map.lt;have aF:=κ (qq Y aq);have aG:=κ (qq Y ar);rw[aD] at ad aC;have aL:=κ ad;have aJ:=κ (ac.trans Y);have aK:=κ h.ok;rw[J] at aN aC;clear h az J ac aq ar aD ab ad Y ba
 go_enter func62,ntmps62
 go_wp2
 go_loopw [] (λwr=> ∃is:List Nat,jW wr (w.heap.size+2) b ke2 (Value.int .i64) m is/\wr.heap[w.heap.size]? =ϊ (.cells (xH sub []) 96 (0,0))/\wr.heap[w.heap.size+1]? =ϊ (.cells (xH sub (zj m is)) 96 (0,0))/\ql w wr) (λwr=>uO wr b (w.heap.size+2))
 case atStart=>exact⟨[],aL.o,aF.o,aG.o,aJ.o⟩
 case round=>
  obtain⟨is,N,H,d,ah⟩:=hrel;have aM:=κ H;have aH:=κ d;have am:=κ ah;have ak:=κ N.left;rcases N.next (P:=prog) with ⟨ag,ai⟩ | ⟨i,ay,w2,bt,bq,ai,ae,U,bb,ax⟩
  ·have bi:=κ ag;rw[Ks sub (N.perm ag)] at d;have aO:=β0 d;have aP:=β1 d;have aQ:=β2 d;have aR:=β3 d;have aS:=β4 d;have aT:=β5 d;have aU:=β6 d;have aV:=β7 d;have aW:=β8 d;have z0:=β0 H;have bd:=β1 H;have be:=β2 H;have z3:=β3 H;have z4:=β4 H;have z5:=β5 H;have bf:=β6 H;have bg:=β7 H;have bh:=β8 H;have bk:=yw H;clear N H d ah ag;go_wp2
   (refine bodyPost_ret (v:= θ (xH sub m)) ?rr1 rfl ?_;(case rr1=>(simp[results,results62,go_sem,aO,aP,aQ,aR,aS,aT,aU,aV,aW,z0,bd,be,z3,z4,z5,bf,bg,bh,xH])))
   exact⟨rfl,((((((((am.o.st (ϔ _) _).st (ϔ _) _).st (ϔ _) _).st (ϔ _) _).st (ϔ _) _).st (ϔ _) _).st (ϔ _) _).st (ϔ _) _).st (ϔ _) _⟩
  ·have aB:=uW (L:=m) (is:=is) ay;have bp:=aY.o;have aZ:=aK.o m[i] (ϡ ay);have br:is.length<1000000:=by omega
   have bu:=Xe m is;clear N H d ah;have ao:=κ aB;clear aB;have bj:=κ (rfl:m[i]=m[i]);generalize m[i]=p at *;obtain⟨⟨I,M⟩,f⟩:=p;unfold ke2 at ai ax;simp only at ai ax aZ;obtain⟨n,rfl⟩: ∃n:Nat,f=n:=⟨f.toNat,τ⟩;have aA:n<=8:=by omega
   have bs: ¬(w.heap.size=w.heap.size+2):=by omega
   have av:=ae.more (ql.alloc w2 (.cells #[ι I,ι M] 169));have aE:=qs (U.blk aM.o τ) (.cells #[ι I,ι M] 169);have aa:=qs (U.blk aH.o τ) (.cells #[ι I,ι M] 169);have au:ql w w2:=jt.to_more am.o U (λk aX=>by subst aX;omega);have O:=κ av;have ap:=κ aE;have aj:=κ aa;have an:=κ au;have q:=qm aa n (Dc sub (zj m is) n aA);have bw:=yw aa n;have bl:=(WZ sub n (zj m is)).1;have bm:=(WZ sub n (zj m is)).2;generalize aw:zL sub n (zj m is)=c at *;have aI:=κ aw;have bv:w.heap.size+2<w2.heap.size:=by have:=MG ae;exact this
   clear av aE aa au bb ae U aw;by_cases h1:I=sub
   ·subst h1;go_wp2;go_roundw
    case rel=>
     have af:=jt.set (jt.refl (λx=>x=w.heap.size+1) (w2.alloc (.cells #[ι I,ι M] 169))) (p:=⟨w.heap.size+1,n,ϋ⟩) rfl (ι (c+1));refine⟨is++[i],O.o.away af τ τ,qo ap.o _ _ η, ?_,(an.o.al _).st η _⟩;rw[ao.o,<-Kr I (zj m is) M n aA,aI.o];exact qp aj.o n _
    case measure=>
     have af:=jt.set (jt.refl (λx=>x=w.heap.size+1) (w2.alloc (.cells #[ι I,ι M] 169))) (p:=⟨w.heap.size+1,n,ϋ⟩) rfl (ι (c+1));rw[ak.o,(O.o.away af τ τ).left];simp;omega
   ·have bo:(I==sub)=ύ:=by simpa using h1
    go_wp2;go_roundw
    case rel=>exact⟨is++[i],O.o,ap.o,by rw[ao.o,Y2 sub _ _ h1];exact aj.o,an.o.al _⟩
    case measure=>
     rw[ak.o,O.o.left];simp;omega
def vM (m:Bk) (sub f:Int):Bk:=m.map λp=>if p.1.1=sub/\p.2=0 then (p.1,f) else p
def Gl (m:Bk) (sub f:Int):Bk×List Int:=if 1<=f/\f<=8 then (vM m sub f,jz m sub) else (m,[])
def Yi (m:Bk) (sub f:Int) (ps:List Int):Bk:=ps.foldl (λm p=>qx m (sub,p) f) m
def PO (m:Bk) (sub f:Int) (ps:List Int) (p:Int):Yi m sub f (ps++[p])=qx (Yi m sub f ps) (sub,p) f:=by simp[Yi,Ξ]
def VF {k:Int×Int} {f:Int}: ∀{m:Bk},(m.map Prod.fst).Nodup->k∈m.map Prod.fst->qx m k f=m.map λp=>if p.1=k then (p.1,f) else p
 | [],_,h=>by simp at h
 | (a,b)::l,hn,h=>by
  simp only[Ϟ,D1] at hn;unfold qx;by_cases e:k=a
  ·subst e;rw[ϐ rfl];simp only[Ϟ,ϐ]
   congr 1
   symm;have: ∀p∈l,(if p.1=k then (p.1,f) else p)=p:=λp d=>by
    rw[ώ];intro e;exact hn.1 (by rw[<-e];exact M5 d)
   calc l.map (λp=>if p.1=k then (p.1,f) else p)=l.map id:=I2 this
    _=l:=by simp
  ·rw[ώ e];simp only[Ϟ];rw[ώ (λh=>e h.symm)]
   congr 1
   exact VF hn.2 (by simp[e] at h;simpa using h)
def VT (sub f:Int): ∀(ps:List Int) (m:Bk),(m.map Prod.fst).Nodup->(∀p∈ps,(sub,p)∈m.map Prod.fst)->Yi m sub f ps=m.map λp=>if p.1.1=sub/\p.1.2∈ps then (p.1,f) else p
 | [],m,_,_=>by simp[Yi]
 | p::ps,m,hn,hk=>by
  have d:=VF (f:=f) hn (hk p ϛ);have e:Yi m sub f (p::ps)=Yi (qx m (sub,p) f) sub f ps:=rfl;have H:(qx m (sub,p) f).map Prod.fst=m.map Prod.fst:=by
   rw[d,P2];refine I2 λq _=> ?_
   simp only[Function.comp];split<;>rfl
  rw[e,VT sub f ps _ (by rw[H];exact hn) (λq I=>by rw[H];exact hk q (ϫ _ I)),d,P2];refine I2 λq _=> ?_
  obtain⟨⟨a,c⟩,g⟩:=q;simp only[Function.comp];by_cases ea:a=sub
  ·subst ea;by_cases ec:c=p
   ·subst ec;simp
   ·simp[ec]
  ·simp[ea]
def pendB_mem {sub:Int}:x∈jz m sub↔((sub,x),0)∈m:=by
 unfold jz xS;rw[WG,P6];constructor
 ·rintro⟨⟨⟨a,c⟩,g⟩,d,h⟩;by_cases e:a=sub/\g=0
  ·rw[ϐ e] at h;cases h;obtain⟨rfl,rfl⟩:=e;exact d
  ·rw[ώ e] at h;cases h
 ·intro h;exact⟨_,h,η⟩
def Pm (d:(m.map Prod.fst).Nodup) {k:Int×Int} {f g:Int} (H:(k,f)∈m) (I:(k,g)∈m):f=g:=by
 induction m with
 | nil=>cases H
 | cons p l ih=>
  simp only[Ϟ,D1] at d;rcases Ϯ.1 H with e1 | h1'<;>rcases Ϯ.1 I with e2 | h2'
  ·rw[<-e1] at e2;cases e2;rfl
  ·exfalso;apply d.1;rw[<-e1];exact E0.2 ⟨_,h2',rfl⟩
  ·exfalso;apply d.1;rw[<-e2];exact E0.2 ⟨_,h1',rfl⟩
  ·exact ih d.2 h1' h2'
def PQ (sub f:Int) (d:(m.map Prod.fst).Nodup):Yi m sub f (jz m sub)=vM m sub f:=by
 rw[VT sub f _ m d (λp I=>M5 (f:=Prod.fst) (pendB_mem.1 I))];unfold vM;refine I2 λq H=> ?_
 obtain⟨⟨a,c⟩,g⟩:=q;simp only;by_cases e:a=sub
 ·subst e;by_cases eg:g=0
  ·subst eg;rw[ϐ ⟨rfl,pendB_mem.2 H⟩,ϐ ⟨rfl,rfl⟩]
  ·rw[ώ (λh=>eg (Pm d H (pendB_mem.1 h.2))),ώ (λh=>eg h.2)]
 ·rw[ώ (λh=>e h.1),ώ (λh=>e h.1)]
def SlI.onmap {k:IntKind} {ac:V->Value} (h:SlI k w v l) (Y:jk w b ke ac L) (a:jt (λx=>x=b) w w'):SlI k w' v l:=by
 obtain⟨ab,cap,J,M,N,O⟩:=h;refine⟨ab,cap,J,M,λi hi=> ?_,O⟩;obtain⟨c,I,e,d,H⟩:=N i hi;have aa: ¬c=b:=by
  rintro rfl;obtain⟨ae,ad,U,_⟩:=Y.ex;simp[World.cell?,U] at H
 exact⟨c,I,e,ϗ d a.size,by rw[a.cells c (I+i) d aa];exact H⟩
def SD (k:Int×Int) (f:Int):(qx m k f).length<=m.length+1:=by
 induction m with
 | nil=>simp[qx]
 | cons p l ih=>
  unfold qx;split<;>simp<;>omega
def MN (h:jy w B b m) (sub f:Int) (au:m.length<=1000000):
  Calls prog 107 #[γ B,ι sub,ι f] w λe w'=>(∃v,e= .returned v/\SlI .i64 w' v (Gl m sub f).2/\ ∀q,v.ownBlock=ϊ q->w.heap.size<=q)/\jy w' B b (Gl m sub f).1/\jt (λx=>x=b) w w':=by
 by_cases hf:1<=f/\f<=8
 ·have I:=κ hf;have M:=κ h;have H:Gl m sub f=(vM m sub f,jz m sub):=by unfold Gl;rw[ϐ hf]
  have O:=κ H;have aE:(jz m sub).length<=1000000:=by
   have az:=kN sub m;have aA:(jz m sub).length=(xS sub m).length:=vI _;omega
  clear h H hf
  go_enter func107,ntmps107
  go_wp2_with first | (go_at_call 166;(go_call yP f _ I.o as e w2 ⟨rfl,rfl⟩)) | (go_at_call 70;(go_call Yc M.o sub au as e aH ⟨⟨v3,rfl,al,ak⟩,aj⟩;have ap:=κ al;have ac:=κ aj;obtain⟨ax,aw,rfl,_⟩:=al;have ao:=κ ak;clear aj ak))
  go_loopw [18] (λi wr=> ∃j:Nat,j<=(jz m sub).length/\i= ι j/\jy wr B b (Yi m sub f ((jz m sub).take j))/\SlI .i64 wr (δ ax (jz m sub).length aw) (jz m sub)/\jt (λx=>x=b) w wr) (λi _=>(jz m sub).length-(intOf i).toNat)
  case atStart=>exact⟨0,τ,rfl,M.o.more ac.o,ap.o,jt.of_more ac.o⟩
  case round=>
   obtain⟨j,aB,rfl,d,Y,U⟩:=hrel;have N:=κ d;have ab:=κ Y;have aa:=κ U;have ay:=β0 d.blk;by_cases hlt:j<(jz m sub).length
   ·obtain⟨aF,cap,aq,_,ad,_⟩:=Y;cases aq;obtain⟨pb,aG,rfl,aD,ar⟩:=ad j hlt;have aC:(j:Int)<((jz m sub).length:Int):=by omega
    have af:(jz m sub).getD j 0=(jz m sub)[j]:=by simp[hlt]
    rw[af] at ar;have ai:(jz m sub).take (j+1)=(jz m sub).take j++[(jz m sub)[j]]:=Φ hlt;have an:=κ ai;clear ad af ai;generalize (jz m sub)[j]=p at *;obtain⟨w4,ah,ag,ae,_⟩:=d.map.update Ys underlying236 (sub,p) f;unfold ke2 at ah;simp only at ah;have am:=κ ag;have J:=κ ae;clear d U ag ae;go_wp2;go_roundw
    case rel=>
     refine⟨j+1,τ,by go_num, ?_,ab.o.onmap N.o.map J.o,aa.o.trans J.o⟩;rw[an.o,PO];exact N.o.put J.o (by have:=I.o;omega) am.o
    case measure=>simp[intOf];omega
   ·obtain rfl:j=(jz m sub).length:=by omega
    clear d Y U;go_wp2;go_ret;rw[O.o];have d:=N.o;rw[ϱ,PQ sub f M.o.map.keys] at d;exact⟨⟨_,rfl,ab.o,ao.o⟩,d,aa.o⟩
 ·have H:Gl m sub f=(m,[]):=by unfold Gl;rw[ώ hf]
  have O:=κ H;have I:=κ hf;clear H hf
  go_enter func107,ntmps107
  go_wp2_with (go_at_call 166;(go_call Jh f _ I.o as e w2 ⟨rfl,rfl⟩))
  go_ret;rw[O.o];exact⟨⟨_,rfl,SlI.nil _ _,λq av=>by cases av⟩,h,jt.refl _ _⟩
def yU (pr:Sb->Bool) (u:List (Int×Sb)):List Int:=u.filterMap λp=>if pr p.2 then ϊ p.1 else ϋ
def uo (pr:Sb->Bool) (u:List (Int×Sb)):List Int:=srt (yU pr u)
def zV (own:Int) (x:Sb):Bool:=decide (x.1=own)
def j8 (pub:Int) (x:Sb):Bool:=x.2.1&&decide (x.2.2=pub)
def kg (d:Sb->Bool) (u:List (Int×Sb)):(yU d u).length<=u.length:=J4 _ _
def uX (L:List (K×V)) (is:List Nat):(zj L is).length<=is.length:=J4 _ _
def ZB (d:Sb->Bool) (u:List (Int×Sb)) (p:Int×Sb):yU d (u++[p])=yU d u++(if d p.2 then [p.1] else []):=by
 unfold yU;rw[K8];by_cases h:d p.2=ό<;>simp[h]
def Hi (d:Int) (x:Sb) (H:w.cell? ⟨C,0,ϋ⟩=ϊ (ω d)) (J:C<w.heap.size):
  Calls prog 243 #[θ #[ω x.1,x.2.1,ι x.2.2],γ C] w λe w'=>e= .returned (μ (zV d x))/\ql w w':=by
 have I:=(ql.alloc w (.cells #[ω x.1,x.2.1,ι x.2.2] 298)).cells C 0 J;rw[H] at I
 go_enter func243,ntmps243
 go_wp2;go_ret;exact⟨qZ (by unfold zV;rw[C6];simp),ql.alloc _ _⟩
def Hh (d:Int) (x:Sb) (M:w.cell? ⟨C,0,ϋ⟩=ϊ (ι d)) (N:C<w.heap.size):
  Calls prog 204 #[θ #[ω x.1,x.2.1,ι x.2.2],γ C] w λe w'=>e= .returned (μ (j8 d x))/\ql w w':=by
 have I:=(ql.alloc w (.cells #[ω x.1,x.2.1,ι x.2.2] 298)).cells C 0 N;rw[M] at I;cases hb:x.2.1 with
 | false=>
  have H:j8 d x=ύ:=by unfold j8;rw[hb];rfl
  rw[hb] at I
  go_enter func204,ntmps204
  go_wp2;go_ret;exact⟨qZ H.symm,ql.alloc _ _⟩
 | true=>
  have H:j8 d x=decide (x.2.2=d):=by unfold j8;rw[hb];rfl
  rw[hb] at I;have J:=κ H;clear H
  go_enter func204,ntmps204
  go_wp2;go_ret;exact⟨qZ (by rw[J.o,C6];simp),ql.alloc _ _⟩
def Ψ7 (h:P:=by
 obtain⟨bb,hi,aY,aZ,ba⟩:=info_parts (P:=prog) (e:=3) (z:= ι 0) (size:=1) (bytes:=8) ξ;have c2:=β2 h.blk;have aG:=κ aw;have ai:=κ aD;obtain⟨w1,bk,ay,ax,aV⟩:=h.mu.range (P:=prog) underlying240;have bd:=h.mu.lt;have aM:=κ ay;have aJ:=κ ax;clear h aD ay ax aV aw;generalize aX:t.u=u at *;clear aX
 go_enter func203,ntmps203
 go_wp2
 go_loopw [5] (λv5 wr=> ∃is:List Nat,jW wr w.heap.size c (Value.int .i64) vS u is/\wr.ownsRow (w.heap.size+1) 3 1 v5 (yU (Ξa v0) (zj u is)).length ((yU (Ξa v0) (zj u is)).map (Value.int .i64))/\ql w wr) (λ_ wr=>uO wr c w.heap.size)
 case atStart=>exact⟨[],aM.o,World.ownsRow_nil _ _ _ _,aJ.o⟩
 case round=>
  obtain⟨is,M,am,aj⟩:=hrel;have au:=κ M;have aa:=κ am;have ab:=κ aj;have aq:=κ M.left;rcases M.next (P:=prog) with ⟨aA,ak⟩ | ⟨i,aS,w2,bh,bf,ak,az,ag,aW,aB⟩
  ·clear M am aj;have ao:=κ aA;clear aA;have aT:(yU (Ξa v0) (zj u is)).length<4611686018427387904:=by
    have aO:=kg (Ξa v0) (zj u is);have aP:=uX u is;have bc:=ao.o;have aQ:=ai.o;omega
   go_wp2_with (go_at_call 116;(go_call DQ aa.o aT as e bn ⟨rfl,N,aC⟩;have aK:=κ N;have aH:=κ aC;clear N aC))
   go_ret;have aU:=au.o.perm ao.o;have aN:srt (yU (Ξa v0) (zj u is))=uo (Ξa v0) u:=gL (aU.filterMap _);have N:=aK.o;rw[aN] at N;refine⟨⟨_,rfl,SlI.of_owns N ?_,λq O=>by have:=jS aa.o O;omega⟩,ab.o.grown aH.o ab.o.size ?_⟩
   ·have aO:=kg (Ξa v0) u;have aP:(uo (Ξa v0) u).length=(yU (Ξa v0) u).length:=vI _;have aQ:=ai.o;omega
   ·intro q O;have:=jS aa.o O;omega
  ·have bi:=kg (Ξa v0) (zj u is);have bj:=uX u is;have aE:=uW (L:=u) (is:=is) aS;have H:=ZB (Ξa v0) (zj u is) u[i];rw[<-aE] at H;have be:=ai.o;have bg:is.length<1000000:=by omega
   clear M am aj aE;generalize u[i]=p at *;obtain⟨k,x⟩:=p;unfold vS at ak aB;simp only at ak aB H;have I:=κ (Yx aa.o ag (λz an=>by subst an;exact F1 _));have av:=κ (az.more (ql.alloc w2 (.cells #[ω x.1,x.2.1,ι x.2.2] 298)));have ah:ql w w2:=jt.to_more ab.o ag (λz an=>by subst an;exact ϔ _);have ar:=κ ah;have bl:w.heap.size+1<=w2.heap.size:=by have:=au.o.rlt;omega
   have U:=κ (qs (qq ah aG.o) (.cells #[ω x.1,x.2.1,ι x.2.2] 298));clear az ag ah aW;cases hpr:Ξa v0 x with
   | true=>
    rw[hpr,ϐ rfl] at H;have ad:=κ H;have ae:=κ hpr;clear H hpr
    go_wp2_with first | (((with_reducible refine(Ξb v0 x (qm U.o 0 rfl) (qn U.o)).mono ?_);rintro e w4 ⟨rfl,d⟩;rw[ae.o];have J:=κ (av.o.more d);have ac:=κ (jE (I.o.alloc (.cells #[ω x.1,x.2.1,ι x.2.2] 298)) d);have Y:=κ ((ar.o.al (.cells #[ω x.1,x.2.1,ι x.2.2] 298)).trans d);have z4:w.heap.size+1<=w4.heap.size:=Ϙ (by simp;omega) d.size;clear d)) | (at_builtin;refine qU _ rfl (.tmp 21) (.tmp 23) 107 rfl (w.heap.size+1) 3 bb (ι 0) 8 underlying107 hi aY aZ ba rfl _ .i64 (yU (Ξa v0) (zj u is)) rfl (ac.o.alloc _) _ [k] rfl (SlI.lit .i64 w4 [k] 3 _ 1 _ η rfl rfl η) (by simp;omega) ζ (by simp;omega) ?_;intro bm w6 aF af _;have aL:=κ aF;have ap:=κ (jt.of_grown af);have aI:=κ af;clear aF af)
    go_roundw
    case rel=>
     refine⟨is++[i],(J.o.more X8).away ap.o ?_ ?_, ?_, ?_⟩
     ·intro e;have:=jS I.o e;omega
     ·intro e;have:=jS I.o e;omega
     ·rw[ad.o];exact aL.o
     ·exact((Y.o.al _).grown aI.o (Y.o.al _).size (λq O=>by have:=jS I.o O;omega))
    case measure=>
     have aR:=(J.o.more X8).away ap.o (λe=>by have:=jS I.o e;omega) (λe=>by have:=jS I.o e;omega);rw[aq.o,aR.left];simp;omega
   | false=>
    rw[hpr,ώ η,ε] at H;have ad:=κ H;have ae:=κ hpr;clear H hpr
    go_wp2_with (((with_reducible refine(Ξb v0 x (qm U.o 0 rfl) (qn U.o)).mono ?_);rintro e w4 ⟨rfl,d⟩;rw[ae.o];have J:=κ (av.o.more d);have ac:=κ (jE (I.o.alloc (.cells #[ω x.1,x.2.1,ι x.2.2] 298)) d);have Y:=κ ((ar.o.al (.cells #[ω x.1,x.2.1,ι x.2.2] 298)).trans d);clear d))
    go_roundw
    case rel=>exact⟨is++[i],J.o,by rw[ad.o];exact ac.o,Y.o⟩
    case measure=>
     rw[aq.o,J.o.left];simp;omega):P:=h
section
open _root_.Go.Proofs.YtlmllmonabafjaaGreatDoor renaming zV->Ξa,Hi->Ξb
def Ku {T a c:Nat} {t:TS} (h:jq w T a b c t) (v0:Int) (aw:w.heap[C]? =ϊ (.cells #[ω v0] 38 (0,0))) (aD:t.u.length<=1000000):
  Calls prog 203 #[γ T,.func (.func 243) #[] #[γ C]] w λe w'=>(∃v,e= .returned v/\SlI .i64 w' v (uo (zV v0) t.u)/\ ∀q,v.ownBlock=ϊ q->w.heap.size<=q)/\ql w w':=Ψ7
end
section
open _root_.Go.Proofs.YtlmllmonabafjaaGreatDoor renaming j8->Ξa,Hh->Ξb
def Dm {T a c:Nat} {t:TS} (h:jq w T a b c t) (v0:Int) (aw:w.heap[C]? =ϊ (.cells #[ι v0] 3 (0,0))) (aD:t.u.length<=1000000):
  Calls prog 203 #[γ T,.func (.func 204) #[] #[γ C]] w λe w'=>(∃v,e= .returned v/\SlI .i64 w' v (uo (j8 v0) t.u)/\ ∀q,v.ownBlock=ϊ q->w.heap.size<=q)/\ql w w':=Ψ7
end
def Ge (x:Int) (l:List Int) (w:World) (e:Ending) (w':World):Prop:= ∃n:Int,(0<=n↔x∈l)/\ -1<=n/\e= .returned (.int .i64 n)/\w=w'
def Ψ8 (h:P:=by
 obtain⟨af,cap,rfl,ae,I,_⟩:=s
 go_enter Ξa,Ξb
 go_wp2
 go_loop [8] (λi=> ∃k:Nat,k<=l.length/\i= ι k/\x∉l.take k) (λi=>l.length-(intOf i).toNat)
 case atStart=>exact⟨0,τ,rfl,η⟩
 case round=>
  obtain⟨k,ac,rfl,d⟩:=hrel;by_cases hlt:k<l.length
  ·obtain⟨b,ag,rfl,ab,U⟩:=I k hlt;have ad:(k:Int)<(l.length:Int):=by omega
   have J:l.getD k 0=l[k]:=by simp[hlt]
   rw[J] at U;have M:l.take (k+1)=l.take k++[l[k]]:=Φ hlt;have Y:l[k]∈l:=ϡ hlt;have O:=κ M;have H:=κ d;clear I J M d;generalize l[k]=y at *;by_cases e:x=y
   ·subst e;go_wp2;go_ret;exact⟨k,⟨λ_=>Y,λ_=>by omega⟩,τ,rfl,rfl⟩
   ·have aa:(x==y)=ύ:=by simpa using e
    have N:=κ e;clear e;go_wp2
    go_round
    case rel=>exact⟨k+1,τ,by go_num,by rw[O.o];simp;exact⟨H.o,N.o⟩⟩
    case measure=>simp[intOf];omega
  ·obtain rfl:k=l.length:=by omega
   clear I;have H:=κ d;clear d;go_wp2;go_ret;refine⟨-1,⟨λh=>by omega,λh=> ?_⟩,τ,rfl,rfl⟩;have:=H.o;rw[ϱ] at this;exact ϩ h this):P:=h
section
open _root_.Go.Proofs.Tryz renaming func219->Ξa,ntmps219->Ξb
def Lu (x:Int) (s:SlI .u32 w v l):Calls prog 219 #[v,ω x] w (Ge x l w):=Ψ8
end
def Yb (x:Int) (s:SlI .u32 w v l):Calls prog 164 #[v,ω x] w λe w'=>e= .returned (μ (decide (x∈l)))/\w=w':=by
 go_enter func164,ntmps164
 go_wp2_with (go_at_call 219;(go_call Lu x s as e w2 ⟨n,d,I,rfl,rfl⟩;have H:=κ d;clear d))
 go_ret;exact⟨qZ (by rw[C6];simp only[B3];exact H.o),rfl⟩
def oAt (o:List (Int×Og)) (p s0 s1 s2:Int):Nat->List (Int×Og)
 | 0=>o
 | 1=>qx o s0 (p,0)
 | 2=>qx (qx o s0 (p,0)) s1 (p,1)
 | _=>qx (qx (qx o s0 (p,0)) s1 (p,1)) s2 (p,2)
def sAt (s:List (Og×Int)) (p s0 s1 s2:Int):Nat->List (Og×Int)
 | 0=>s
 | 1=>qx s (p,0) s0
 | 2=>qx (qx s (p,0) s0) (p,1) s1
 | _=>qx (qx (qx s (p,0) s0) (p,1) s1) (p,2) s2
def BE (o:List (Int×Og)) (p s0 s1 s2:Int) (k:Nat) (h:k<3):oAt o p s0 s1 s2 (k+1)=qx (oAt o p s0 s1 s2 k) ([s0,s1,s2].getD k 0) (p,(k:Int)):=by
 have:k=0∨k=1∨k=2:=by omega
 rcases this with rfl | rfl | rfl<;>rfl
def AW (s:List (Og×Int)) (p s0 s1 s2:Int) (k:Nat) (h:k<3):sAt s p s0 s1 s2 (k+1)=qx (sAt s p s0 s1 s2 k) (p,(k:Int)) ([s0,s1,s2].getD k 0):=by
 have:k=0∨k=1∨k=2:=by omega
 rcases this with rfl | rfl | rfl<;>rfl
def KI (s0 s1 s2:Int):Prop:=s1=s0∨s2=s0∨s2=s1
instance (s0 s1 s2:Int):Decidable (KI s0 s1 s2):=by unfold KI;exact inferInstance
def vA (t:TS) (p s0 s1 s2:Int):TS×Int:=if 0<=p/\p<3 then (if KI s0 s1 s2 then (t,1) else if (qh t.s (p,0)).isSome then (t,6) else if (qh t.o s0).isSome∨(qh t.o s1).isSome∨(qh t.o s2).isSome then (t,6)
 else ({t with o:=oAt t.o p s0 s1 s2 3,s:=sAt t.s p s0 s1 s2 3},0)) else (t,1)
def IK {k:Nat} (h:k<3) (d:[s0,s1,s2].getD k 0∈[s0,s1,s2].take k):KI s0 s1 s2:=by
 have:k=0∨k=1∨k=2:=by omega
 unfold KI;rcases this with rfl | rfl | rfl<;>simp at d<;>omega
def IJ (h: ∀k,k<3->[s0,s1,s2].getD k 0∉[s0,s1,s2].take k): ¬KI s0 s1 s2:=by
 have d:=h 1 τ;have H:=h 2 τ;simp at d H;unfold KI;omega
def Np {p:Int->Prop} {k:Nat} (h:k<3) (d:p ([s0,s1,s2].getD k 0)):p s0∨p s1∨p s2:=by
 have:k=0∨k=1∨k=2:=by omega
 rcases this with rfl | rfl | rfl
 ·exact ϑ d
 ·exact ϕ (ϑ d)
 ·exact ϕ (ϕ d)
def Nr {p:Int->Prop} (h: ∀k,k<3-> ¬p ([s0,s1,s2].getD k 0)): ¬(p s0∨p s1∨p s2):=by
 rintro(a | a | a)
 ·exact h 0 τ a
 ·exact h 1 τ a
 ·exact h 2 τ a
def Hy (s0 s1 s2:Int) (k:Nat) (h:k<3) (w:World):(Instr.index 40 (θ #[ω s0,ω s1,ω s2]) (ι (k:Int))).run prog w= .ok (ω ([s0,s1,s2].getD k 0)) w:=by
 have:k=0∨k=1∨k=2:=by omega
 rcases this with rfl | rfl | rfl
 all_goals first | rfl | simp[go_sem]
def sl3 (C k:Nat) (I:k<=3) (w:World):(Instr.sliceAt 40 (γ C) ϋ (ϊ (ι (k:Int))) ϋ).run prog w= .ok (δ (ϊ ⟨C,0,ϋ⟩) k 3) w:=by
 have d:prog.arrayLen 40=3:=by kernel_rfl
 have H:(sizeOf (prog.elem 40)).run prog w= .ok 1 w:=by kernel_rfl
 rw[run_sliceAt_array_h w 40 ⟨C,0,ϋ⟩ ξ .i64 (k:Int) τ (by rw[d];omega),H,d];simp[slicedAt,Addr.add]
def MQ (h:w.heap[C]? =ϊ (.cells #[ω s0,ω s1,ω s2] 40 (0,0))) (k:Nat) (H:k<=3):SlI .u32 w (δ (ϊ ⟨C,0,ϋ⟩) k 3) ([s0,s1,s2].take k):=by
 have d:([s0,s1,s2].take k).length=k:=by simp;omega
 refine⟨ϊ ⟨C,0,ϋ⟩,3,by rw[d],by rw[d];omega,λi hi=> ?_,by rw[d];exact H,by unfold maxLen;omega,λh=>by cases h⟩;rw[d] at hi;refine⟨C,0,rfl,qn h,qm h _ ?_⟩;have:i=0∨i=1∨i=2:=by omega
 rcases this with rfl | rfl | rfl
 ·have:([s0,s1,s2].take k).getD 0 0=s0:=by rw[ϒ,J5 τ];rfl
  rw[this];rfl
 ·have:([s0,s1,s2].take k).getD 1 0=s1:=by rw[ϒ,J5 τ];rfl
  rw[this];rfl
 ·have:([s0,s1,s2].take k).getD 2 0=s2:=by rw[ϒ,J5 τ];rfl
  rw[this];rfl
def kJ (r:TS×Int) (T a b c:Nat) (w:World) (e:Ending) (w':World):Prop:=e= .returned (.int .i64 r.2)/\jq w' T a b c r.1/\jt (λz=>z=a∨z=b) w w'
def Dw {T a c:Nat} {t:TS} (h:jq w T a b c t) (p s0 s1 s2:Int):
    Calls prog 104 #[γ T,ι p,θ #[ω s0,ω s1,ω s2]] w (kJ (vA t p s0 s1 s2) T a b c w):=by
  by_cases hp:0<=p/\p<3
  · have J:=κ hp
    have H:=κ h
    have aE:=qj w (.cells #[ω s0,ω s1,ω s2] 40)
    have aA:=κ aE
    clear hp h aE
    go_enter func104,ntmps104
    go_wp2_with (go_at_call 163;(go_call vw p _ J.o as e w2 ⟨rfl,rfl⟩))
    go_loop [20] (λi=> ∃k:Nat,k<=3/\i= ι k/\ ∀j,j<k->[s0,s1,s2].getD j 0∉[s0,s1,s2].take j) (λi=>3-(intOf i).toNat)
    case atStart=>exact⟨0,τ,rfl,λj ar=>by omega⟩
    case round=>
      obtain⟨k,aJ,rfl,aa⟩:=hrel
      have I:=κ aa
      clear aa
      by_cases hk3:k<3
      · have aK:(k:Int)<3:=by omega
        have aI:=λw=>Hy s0 s1 s2 k hk3 w
        have aB:=κ (MQ aA.o k τ)
        have bc:=λw'=>sl3 w.heap.size k τ w'
        have aO:=κ (IK (s0:=s0) (s1:=s1) (s2:=s2) hk3)
        have ah:Hid (∀y,[s0,s1,s2].getD k 0=y->y∉[s0,s1,s2].take k-> ∀j,j<k+1->[s0,s1,s2].getD j 0∉[s0,s1,s2].take j):=κ (λy e au j ar=>by
          subst e
          by_cases e:j<k
          · exact I.o j e
          · obtain rfl:j=k:=by omega
            exact au)
        generalize ay:[s0,s1,s2].getD k 0=y at *
        clear ay
        by_cases M:y∈[s0,s1,s2].take k
        · have U:=κ M
          clear M
          go_wp2_with (go_at_call 164;(go_call Yb y aB.o as e w2 ⟨rfl,rfl⟩;rw[Ϫ U.o]))
          go_ret
          have d:vA t p s0 s1 s2=(t,1):=by unfold vA;rw[ϐ J.o,ϐ (aO.o U.o)]
          unfold kJ
          rw[d]
          exact⟨rfl,H.o.more X8,jt.of_more X8⟩
        · have U:=κ M
          clear M
          go_wp2_with (go_at_call 164;(go_call Yb y aB.o as e w2 ⟨rfl,rfl⟩;rw[Ϩ U.o]))
          go_round
          case rel=>exact⟨k+1,τ,by go_num,ah.o y rfl U.o⟩
          case measure=>simp[intOf];omega
      · obtain rfl:k=3:=by omega
        have ag:=κ (IJ I.o)
        clear I
        cases hps:(qh t.s (p,0)).isSome with
        | true=>
          have O:=κ hps
          clear hps
          go_wp2_with (go_at_call 165;(go_call yC (H.o.more (ql.alloc w (.cells #[ω s0,ω s1,ω s2] 40))) p as e w2 ⟨rfl,rfl⟩;rw[O.o]))
          go_ret
          have d:vA t p s0 s1 s2=(t,6):=by unfold vA;rw[ϐ J.o,ώ ag.o,ϐ O.o]
          unfold kJ
          rw[d]
          exact⟨rfl,H.o.more X8,jt.of_more X8⟩
        | false=>
          have O:=κ hps
          clear hps
          go_wp2_with (go_at_call 165;(go_call yC (H.o.more (ql.alloc w (.cells #[ω s0,ω s1,ω s2] 40))) p as e w2 ⟨rfl,rfl⟩;rw[O.o]))
          go_loopw [33] (λi wr=> ∃k:Nat,k<=3/\i= ι k/\(∀j,j<k-> ¬(qh t.o ([s0,s1,s2].getD j 0)).isSome=ό)/\ql (w.alloc (.cells #[ω s0,ω s1,ω s2] 40)) wr) (λi _=>3-(intOf i).toNat)
          case atStart=>exact⟨0,τ,rfl,λj ar=>by omega,ql.refl _⟩
          case round=>
            obtain⟨k,aJ,rfl,aa,aM⟩:=hrel
            have I:=κ aa
            have N:=κ aM
            clear aa aM
            by_cases hk3:k<3
            · have aK:(k:Int)<3:=by omega
              have aI:=λw=>Hy s0 s1 s2 k hk3 w
              have ac:=(H.o.more (ql.alloc w _)).more N.o
              have ba:=β0 ac.blk
              have q:=ac.lookO ([s0,s1,s2].getD k 0)
              have ab:=κ (Np (p:=λz=>(qh t.o z).isSome=ό) (s0:=s0) (s1:=s1) (s2:=s2) hk3)
              have ah:Hid (∀y,[s0,s1,s2].getD k 0=y-> ¬(qh t.o y).isSome=ό-> ∀j,j<k+1-> ¬(qh t.o ([s0,s1,s2].getD j 0)).isSome=ό):=κ (λy e au j ar=>by
                subst e
                by_cases e:j<k
                · exact I.o j e
                · obtain rfl:j=k:=by omega
                  exact au)
              have ak:=κ ac
              clear ac
              generalize ay:[s0,s1,s2].getD k 0=y at *
              clear ay
              cases hs:(qh t.o y).isSome with
              | true=>
                rw[hs] at q
                have ai:=κ hs
                clear hs
                go_wp2
                go_ret
                have d:vA t p s0 s1 s2=(t,6):=by
                  unfold vA
                  rw[ϐ J.o,ώ ag.o,ώ (by rw[O.o];simp),ϐ]
                  exact ab.o ai.o
                unfold kJ
                rw[d]
                exact⟨rfl,ak.o.more X8,jt.of_more ((X8.trans N.o).al _)⟩
              | false=>
                rw[hs] at q
                have ai:=κ hs
                clear hs
                go_wp2
                go_roundw
                case rel=>exact⟨k+1,τ,by go_num,ah.o y rfl (by rw[ai.o];simp),N.o.al _⟩
                case measure=>simp[intOf];omega
            · obtain rfl:k=3:=by omega
              have aQ:=κ (Nr (p:=λz=>(qh t.o z).isSome=ό) I.o)
              have ae:=κ (qq N.o aA.o)
              have aW:=β0 ae.o
              have aX:=β1 ae.o
              have aY:=β2 ae.o
              have d:vA t p s0 s1 s2=({t with o:=oAt t.o p s0 s1 s2 3,s:=sAt t.s p s0 s1 s2 3},0):=by
                unfold vA
                rw[ϐ J.o,ώ ag.o,ώ (by rw[O.o];simp),ώ aQ.o]
              have af:=κ d
              have ak:=κ ((H.o.more (ql.alloc w _)).more N.o)
              have aP:=κ (jt.of_more (S:=λz=>z=a∨z=b) ((ql.alloc w (.cells #[ω s0,ω s1,ω s2] 40)).trans N.o))
              clear I d
              go_wp2_with fail
              clear aW aX aY
              go_loopw [48] (λi aN=> ∃k:Nat,k<=3/\i= ι k/\jq aN T a b c {t with o:=oAt t.o p s0 s1 s2 k,s:=sAt t.s p s0 s1 s2 k}/\jt (λz=>z=a∨z=b) w aN) (λi _=>3-(intOf i).toNat)
              case atStart=>exact⟨0,τ,rfl,ak.o,aP.o⟩
              case round=>
                obtain⟨k,aJ,rfl,aG,aH⟩:=hrel
                have aj:=κ aG
                have ab:=κ aH
                clear aG aH
                by_cases hk3:k<3
                · have aK:(k:Int)<3:=by omega
                  have aI:=λw=>Hy s0 s1 s2 k hk3 w
                  have aR:=κ (BE t.o p s0 s1 s2 k hk3)
                  have aS:=κ (AW t.s p s0 s1 s2 k hk3)
                  generalize [s0,s1,s2].getD k 0=y at *
                  have am:=κ (aj.o.more (ql.alloc wr (.cells #[ι p,ι (k:Int)] 58)))
                  have aZ:=κ (qj wr (.cells #[ι p,ι (k:Int)] 58))
                  have bb:a<wr.heap.size:=aj.o.mo.lt
                  obtain⟨w9,av,M,ad,_⟩:=(am.o.mo.more (ql.drewN _ 1)).update Aa underlying239 y (p,(k:Int))
                  unfold kO at av
                  simp only at av
                  have an:=κ ((am.o.more (ql.drewN _ 1)).putO ad M)
                  have aF:=κ (ad.blk (qr aZ.o 1) τ)
                  have aU:=κ ad
                  obtain⟨w8,aw,aL,ax,_⟩:=(an.o.ms.more (ql.drewN _ 1)).update Yr underlying47 (p,(k:Int)) y
                  unfold kO at aw
                  simp only at aw
                  have aV:=κ ((an.o.more (ql.drewN _ 1)).putS ax aL)
                  have aT:=κ ax
                  clear M ad aL ax
                  go_wp2_with fail
                  have ao: ∀z:qt (wr.alloc (.cells #[ι p,ι (k:Int)] 58)),z.w'.cell? ⟨T,0,ϋ⟩=ϊ (.map (ϊ a)):=λz=>qm (qq z.h am.o.blk) 0 rfl
                  have ap: ∀z:qt (wr.alloc (.cells #[ι p,ι (k:Int)] 58)),z.w'.cell? ⟨wr.heap.size,0,ϋ⟩=ϊ (ι p):=λz=>z.new 0 rfl
                  have aq: ∀z:qt (wr.alloc (.cells #[ι p,ι (k:Int)] 58)),z.w'.cell? ⟨wr.heap.size,1,ϋ⟩=ϊ (ι (k:Int)):=λz=>z.new 1 rfl
                  refine Qn (wr.alloc (.cells #[ι p,ι (k:Int)] 58)) 6 7 [6] ?_
                  refine Qq6 ?_
                  (refine Qe ?_;intro K Y)
                  refine Y _ _ ?_
                  clear Y K
                  refine qA ?_
                  clear ao ap aq av
                  go_wp2_with fail
                  have ao: ∀z:qt w9,z.w'.cell? ⟨T,1,ϋ⟩=ϊ (.map (ϊ b)):=λz=>qm (qq z.h an.o.blk) 1 rfl
                  have ap: ∀z:qt w9,z.w'.cell? ⟨wr.heap.size,0,ϋ⟩=ϊ (ι p):=λz=>qm (qq z.h aF.o) 0 rfl
                  have aq: ∀z:qt w9,z.w'.cell? ⟨wr.heap.size,1,ϋ⟩=ϊ (ι (k:Int)):=λz=>qm (qq z.h aF.o) 1 rfl
                  refine Qn w9 6 7 [6] ?_
                  refine Qq6 ?_
                  (refine Qe ?_;intro K Y)
                  refine Y _ _ ?_
                  clear Y K
                  refine qA ?_
                  clear ao ap aq aw
                  go_wp2
                  go_roundw
                  case rel=>
                    have aC:jq w8 T a b c {t with o:=oAt t.o p s0 s1 s2 (k+1),s:=sAt t.s p s0 s1 s2 (k+1)}:=by rw[aR.o,aS.o];exact aV.o
                    have aD:=(((ab.o.trans (jt.of_more (X8.dr 1))).trans (aU.o.mono (λz az=>ϑ az))).trans (jt.of_more (ql.drewN _ 1))).trans (aT.o.mono (λz az=>ϕ az))
                    first
                      | exact⟨k+1,τ,by go_num,aC,aD⟩
                      | (repeat apply Exists.intro
                         exact⟨⟨k+1,τ,by go_num,aC,aD⟩,rfl⟩)
                  case measure=>simp[intOf];omega
                · obtain rfl:k=3:=by omega
                  go_wp2
                  go_ret
                  unfold kJ
                  rw[af.o]
                  exact⟨rfl,aj.o,ab.o⟩
  · have J:=κ hp
    have H:=κ h
    have d:vA t p s0 s1 s2=(t,1):=by unfold vA;rw[ώ hp]
    have af:=κ d
    clear hp h d
    go_enter func104,ntmps104
    go_wp2_with (go_at_call 163;(go_call Z8 p _ J.o as e w2 ⟨rfl,rfl⟩))
    go_ret
    unfold kJ
    rw[af.o]
    exact⟨rfl,H.o.more X8,jt.of_more X8⟩
structure Gr where
 wanted:Bool
 any:Bool
 last:Int
 tries:Int
structure zu where
 buf:Jb
 any:Bool
 great:Int
 asks:Gr
 askedOf:Bool
variable {t:zu}
structure AcS where
 o:Og
 num:Int
 pk:Pk
structure RqS where
 o:Og
 at_:Int
 body:List Int
structure CfR where
 room:Int
 hold:Int
 wait:Int
 space:Int
 retry:Int
 most:Int
structure CnR where
 lost:Int
 malf:Int
 strange:Int
 told:Int
 acc:Int
structure RmS where
 cfg:CfR
 closed:Bool
 ret:List (Og×Bool)
 clock:Int
 queue:List (List Int)
 tab:TS
 lanes:List (Int×LnS)
 strs:List (Og×zu)
 pks:List AcS
 reqs:List RqS
 cnt:CnR
 book:Bk
variable {s:RmS}
def subIds:List Int:=[0,1,2,3,4,5]
def orgs:List Og:=[(0,0),(0,1),(0,2),(1,0),(1,1),(1,2),(2,0),(2,1),(2,2)]
def prR (pr:Sb->Bool) (u:List (Int×Sb)):List Int:=subIds.filter λx=>match qh u x with
 | some sb=>pr sb
 | none=>ύ
def RmS.origins (s:RmS):List Og:=orgs.filter λo=>(qh s.strs o).isSome
def RmS.readyAt (s:RmS) (o:Og):Bool:=match qh s.strs o with
 | some t=>xa t.buf s.clock
 | none=>ύ
def RmS.ready (s:RmS):Option Og:=s.origins.find? s.readyAt
def wO (l:LnS) (k:Int):Bool:=l.wanted&&(!l.gone&&(!decide (l.cur=l.tgt)&&decide (l.tgt=k)))
def RmS.wants (s:RmS) (o:Og):Bool:=(match qh s.strs o with
 | some t=>t.askedOf
 | none=>ύ)||(prR (j8 o.1) s.tab.u).any λx=>match qh s.lanes x with
 | some l=>wO l o.2
 | none=>ύ
def Zc (retry:Int):Nat->Int->Int
 | 0,g=>g
 | k+1,g=>if g<1∨retry<=g then g else Zc retry k (2* g)
def Yg (space retry tries:Int):Int:=if Zc retry (tries-1).toNat space<=retry then Zc retry (tries-1).toNat space else retry
def uq (a:Gr) (wanted:Bool):Int:=if wanted&&a.wanted then a.tries else 0
def Hc (space retry:Int) (a:Gr) (wanted:Bool) (now:Int):Bool:= !wanted||(a.any&&decide (now-a.last<Yg space retry (uq a wanted)))
def vU (space retry:Int) (a:Gr) (wanted:Bool) (now:Int):Gr×Bool:=
 if Hc space retry a wanted now then (⟨wanted,a.any,a.last,uq a wanted⟩,ύ) else (⟨wanted,ό,now,uq a wanted+1⟩,ό)
abbrev Zb (src:Int):qQ:=(1,206,qy 0 4++qy src 4,())
def ug (src:Int):List Int:=(vW [Zb src]).1
def RmS.request (s:RmS) (o:Og):RmS:={s with reqs:=s.reqs++[⟨o,s.clock,ug ((qh s.tab.s o).getD 0)⟩]}
def RmS.tick1 (s:RmS) (o:Og):RmS:=match qh s.strs o with
 | none=>s
 | some t=>if (vU s.cfg.space s.cfg.retry t.asks (s.wants o) s.clock).2
  then {s with strs:=qx s.strs o {t with asks:=(vU s.cfg.space s.cfg.retry t.asks (s.wants o) s.clock).1}}.request o
  else {s with strs:=qx s.strs o {t with asks:=(vU s.cfg.space s.cfg.retry t.asks (s.wants o) s.clock).1}}
def RmS.tick (s:RmS):RmS×Int:=if s.closed then (s,7) else (s.origins.foldl RmS.tick1 {s with clock:=s.clock+1},0)
def yp (subs:List Int):List Og:=(0,0)::(1,0)::(subIds.filter λx=>decide (x∈subs)).flatMap λx=>[(2,x),(3,x),(4,x)]
def RmS.there (s:RmS):List Int:=subIds.filter λx=>(qh s.lanes x).isSome
def RmS.workers (s:RmS):List Og:=yp s.there
def xB (n:Int):Int:=if n=2 then 1 else if n=3 then 2 else 3
def RmS.mayOpen (s:RmS) (w:Og):Bool:=
 if w.1=0 then decide (0<s.queue.length) else if w.1=1 then s.ready.isSome else match qh s.lanes w.2 with
 | some l=>vC l (xB w.1)
 | none=>ύ
def RmS.may (s:RmS) (w:Og):Bool:=decide (w∈s.workers)&&(if s.closed then !((qh s.ret w).getD ύ) else s.mayOpen w)
def jp (b:Bk) (sub id f:Int):Bk:=if qh b (sub,id)=ϊ 0 then (zi b (sub,id) f).1 else b
def RmS.tell1 (s:RmS) (x:Int):RmS:=match qh s.tab.u x with
 | none=>s
 | some sb=>if sb.2.1 then (match qh s.lanes x with
  | none=>s
  | some l=>if l.wanted&&jj l.cur then (match qh s.strs (sb.2.2,l.cur) with
   | none=>s
   | some t=>{s with strs:=qx s.strs (sb.2.2,l.cur) {t with askedOf:=ό}}) else s) else s
def RmS.tellS (s:RmS) (src:Int):RmS:=(prR (zV src) s.tab.u).foldl RmS.tell1 s
def RmS.tell (s:RmS) (b:List Int):RmS:=
 if (zx b).2=0 then (xU (zx b).1).foldl RmS.tellS {s with cnt:={s.cnt with told:=s.cnt.told+1}} else {s with cnt:={s.cnt with malf:=s.cnt.malf+1}}
def KH (near sq:Int):Int:=near+ahd (near%65536) sq
def yV (t:zu) (sq:Int):Int:=if t.any then KH t.great sq else 65536+sq
def Ji (b:Bk) (subs:List Int) (id:Int):Bk:=subs.foldl (λb x=>(vT b (x,id)).1) b
def xG (b:Bk) (subs:List Int) (id f:Int):Bk:=subs.foldl (λb x=>jp b x id f) b
def yY (e:Int):Int:=if e=10 then 3 else if e=9 then 2 else if e=8 then 6 else 0
def Ye (t:zu) (p:Pk) (clock id:Int):zu:=
 ⟨(jP t.buf (yV t p.sq) clock id).1,ό,if t.any=ύ∨t.great<yV t p.sq then yV t p.sq else t.great,t.asks,if zJ p.pl then ύ else t.askedOf⟩
def RmS.accept (s:RmS) (o:Og) (p:Pk):RmS:=match qh s.strs o with
 | none=>s
 | some t=>{s with
   strs:=qx s.strs o (Ye t p s.clock s.pks.length)
   pks:=s.pks++[⟨o,yV t p.sq,p⟩]
   cnt:={s.cnt with acc:=s.cnt.acc+1}
   book:=if yY (jP t.buf (yV t p.sq) s.clock s.pks.length).2=0 then Ji s.book (prR (j8 o.1) s.tab.u) s.pks.length
    else xG (Ji s.book (prR (j8 o.1) s.tab.u) s.pks.length) (prR (j8 o.1) s.tab.u) s.pks.length (yY (jP t.buf (yV t p.sq) s.clock s.pks.length).2)}
def Ve (b:List Int):Bool:=decide (2<=b.length)&&(decide (192<=b.getD 1 0)&&decide (b.getD 1 0<=223))
def RmS.media (s:RmS) (b:List Int):RmS:=
 if (jl b).2=0 then (match qh s.tab.o (jl b).1.sc with
  | none=>{s with cnt:={s.cnt with strange:=s.cnt.strange+1}}
  | some o=>s.accept o (jl b).1) else {s with cnt:={s.cnt with malf:=s.cnt.malf+1}}
def RmS.read (s:RmS):RmS:=match s.queue with
 | []=>s
 | b::q=>if Ve b then {s with queue:=q}.tell b else {s with queue:=q}.media b
def RmS.put1 (x:ItS) (s:RmS) (sub:Int):RmS:=if qh s.book (sub,x.id)=ϊ 0 then (match qh s.lanes sub with
 | none=>s
 | some l=>if (xp l x).2.2.1 then {s with lanes:=qx s.lanes sub (xp l x).1,book:=jp s.book sub (xp l x).2.1 6} else {s with lanes:=qx s.lanes sub (xp l x).1}) else s
def ac0:AcS:=⟨(0,0),0,pk0⟩
def RmS.item (s:RmS) (o:Og) (id:Int):ItS:=⟨id,o.2,zJ (s.pks.getD id.toNat ac0).pk.pl,(s.pks.getD id.toNat ac0).pk⟩
def RmS.orderAt (s:RmS) (o:Og) (t:zu):RmS:=
 subIds.foldl (RmS.put1 (s.item o (yD t.buf s.clock).2.2.1)) {s with strs:=qx s.strs o {t with buf:=(yD t.buf s.clock).1}}
def RmS.order (s:RmS):RmS:=match s.ready with
 | none=>s
 | some o=>(match qh s.strs o with
  | none=>s
  | some t=>s.orderAt o t)
def RmS.choose (s:RmS) (sub:Int):RmS:=match qh s.lanes sub with
 | none=>s
 | some l=>{s with
   lanes:=qx s.lanes sub (jf l).1
   book:=if (jf l).2.2.2&& !decide ((jf l).2.2.1=0) then jp s.book sub (jf l).2.1 (jf l).2.2.1 else s.book}
def RmS.rewrite (s:RmS) (sub:Int):RmS:=match qh s.lanes sub with
 | none=>s
 | some l=>{s with
   lanes:=qx s.lanes sub (qY l).1
   book:=if (qY l).2.2.2&&(qY l).2.2.1 then jp s.book sub (qY l).2.1 6 else s.book}
def RmS.write (s:RmS) (sub:Int) (acc:Bool):RmS:=match qh s.lanes sub with
 | none=>s
 | some l=>{s with
   lanes:=qx s.lanes sub (qX l acc).1
   tab:=if (qX l acc).1.gone then (zM s.tab sub).1 else s.tab
   book:=if (qX l acc).1.gone then vM (if (qX l acc).2.2.2&&decide ((qX l acc).2.2.1=1) then jp s.book sub (qX l acc).2.1 (qX l acc).2.2.1 else s.book) sub 7
    else if (qX l acc).2.2.2&&decide ((qX l acc).2.2.1=1) then jp s.book sub (qX l acc).2.1 (qX l acc).2.2.1 else s.book}
def RmS.drain1 (s:RmS) (id:Int):RmS:={s with book:=xG s.book subIds id 8}
def RmS.drainO (s:RmS) (o:Og):RmS:=match qh s.strs o with
 | none=>s
 | some t=>(thJ t.buf.holds).foldl RmS.drain1 {s with strs:=qx s.strs o {t with buf:=vP t.buf}}
def KG (l:LnS) (n:Int):List Int:=if n=1 then l.A.map (·.id) else if n=2 then l.B.map (·.1.id) else l.C.map (·.1)
def RmS.drainL (s:RmS) (w:Og):RmS:=match qh s.lanes w.2 with
 | none=>s
 | some l=>{s with
   lanes:=qx s.lanes w.2 (vh l (xB w.1))
   book:=(KG l (xB w.1)).foldl (λb id=>jp b w.2 id 8) s.book}
def RmS.drain (s:RmS) (w:Og):RmS:=
 if w.1=0 then {s with queue:=[],cnt:={s.cnt with lost:=s.cnt.lost+s.queue.length}}
 else if w.1=1 then s.origins.foldl RmS.drainO s
 else s.drainL w
def vi (w:Og):Og×Bool:=if w.1=0 then ((0,0),ύ) else if w.1=1 then ((0,0),ό) else if w.1=2 then ((1,0),ό) else ((w.1-1,w.2),ό)
def RmS.goesR (s:RmS) (w:Og):Bool:= !(vi w).2||(qh s.ret (vi w).1).getD ύ
def RmS.endW (s:RmS) (w:Og):RmS:=if s.goesR w then {s.drain w with ret:=qx s.ret w ό} else s.drain w
def RmS.stepW (s:RmS) (w:Og) (acc:Bool):RmS:=
 if s.closed then s.endW w else if w.1=0 then s.read else if w.1=1 then s.order else if w.1=2 then s.choose w.2 else if w.1=3 then s.rewrite w.2 else s.write w.2 acc
def RmS.pick (s:RmS) (w:Og) (acc:Bool):RmS×Bool:=if s.may w then (s.stepW w acc,ό) else (s,ύ)
def xY (c:CfR):Bool:=decide (1<=c.room/\c.room<=8)&&(decide (Ok c.hold c.wait)&&(decide (1<=c.space/\c.space<=c.retry/\c.retry<=1000)&&decide (1<=c.most/\c.most<=10)))
def ud (c:CfR):RmS:=⟨c,ύ,[],0,[],⟨[],[],[]⟩,[],[],[],[],⟨0,0,0,0,0⟩,[]⟩
def uc (c:CfR):zu:=⟨CU c.hold c.wait,ύ,0,⟨ύ,ύ,0,0⟩,ύ⟩
def RmS.publish (s:RmS) (p s0 s1 s2:Int):RmS×Int:=
 if s.closed then (s,7) else if (vA s.tab p s0 s1 s2).2=0 then ({s with tab:=(vA s.tab p s0 s1 s2).1,strs:=qx (qx (qx s.strs (p,0) (uc s.cfg)) (p,1) (uc s.cfg)) (p,2) (uc s.cfg)},0) else (s,(vA s.tab p s0 s1 s2).2)
def RmS.join (s:RmS) (x own sq st:Int):RmS×Int:=
 if s.closed then (s,7) else if (yI s.tab x own).2=0 then ({s with tab:=(yI s.tab x own).1,lanes:=qx s.lanes x (Vd s.cfg.room.toNat s.cfg.most own sq st)},0) else (s,(yI s.tab x own).2)
def Yh [DecidableEq K] (m:List (K×V)) (x:K):List (K×V):=m.filter λp=> !decide (p.1=x)
def JV (s:RmS) (x:Int):Bool:=match qh s.lanes x with
 | some l=>l.gone
 | none=>ύ
def RmS.subscribe (s:RmS) (x p k:Int):RmS×Int:=
 if s.closed then (s,7) else if jj k=ύ then (s,1) else if JV s x then (s,5) else if (vL s.tab x p).2=0 then (match qh s.lanes x with
  | none=>(s,0)
  | some l=>({s with tab:=(vL s.tab x p).1,lanes:=qx s.lanes x (jO l k).1},(jO l k).2)) else (s,(vL s.tab x p).2)
def RmS.want (s:RmS) (x k:Int):RmS×Int:=
 if s.closed then (s,7) else if (decide (0<=x/\x<6)&&jj k)=ύ then (s,1) else if ((qh s.tab.u x).getD sb0).2.1=ύ then (s,5) else (match qh s.lanes x with
  | none=>(s,0)
  | some l=>({s with lanes:=qx s.lanes x (jO l k).1},(jO l k).2))
def RmS.leave (s:RmS) (x:Int):RmS×Int:=
 if s.closed then (s,7) else if (zW s.tab x).2=0 then ({s with tab:=(zW s.tab x).1,book:=vM s.book x 7,lanes:=Yh s.lanes x},0) else (s,(zW s.tab x).2)
def RmS.arrive (s:RmS) (b:List Int):RmS×Int:=
 if s.closed then (s,7) else if (s.queue.length:Int)<s.cfg.room then ({s with queue:=s.queue++[b]},0) else ({s with queue:=s.queue.tail++[b],cnt:={s.cnt with lost:=s.cnt.lost+1}},0)
def RmS.shut (s:RmS):RmS×Int:=if s.closed then (s,7) else ({s with closed:=ό},0)
def Γl (x:AcS) (a:Option Addr) (b:Nat) (c:Option Addr) (d:Nat) (e:Option Addr) (f:Nat):Mm:=.o
instance (x:AcS) (a:Option Addr) (b:Nat) (c:Option Addr) (d:Nat) (e:Option Addr) (f:Nat):CoeDep Mm (Γl x a b c d e f) (List Value):=⟨[ι x.o.1,ι x.o.2,ι x.num,μ x.pk.mr,υ x.pk.ty,φ x.pk.sq,ω x.pk.st,ω x.pk.sc,δ a x.pk.ss.length b,μ x.pk.has,φ x.pk.pr,δ c x.pk.ex.length d,δ e x.pk.pl.length f]⟩
instance (x:AcS) (a:Option Addr) (b:Nat) (c:Option Addr) (d:Nat) (e:Option Addr) (f:Nat):CoeDep Mm (Γl x a b c d e f) (Array Value):=⟨((Γl x a b c d e f):List Value).toArray⟩
instance (x:AcS) (a:Option Addr) (b:Nat) (c:Option Addr) (d:Nat) (e:Option Addr) (f:Nat):CoeDep Mm (Γl x a b c d e f) Value:=⟨θ (Γl x a b c d e f)⟩
inductive Tg where
 | no | junk | room | ret | queue | table | book | lns | sts | data | pks | reqs
 | lane (x:Int)
 | str (o:Og)
variable {T:Nat->Tg} {u:Tg}
structure RmK where
 R:Nat
 M1:Nat
 RQ:Nat
 AQ:Nat
 tb:Nat
 ta:Nat
 tc:Nat
 td:Nat
 B:Nat
 b:Nat
 ML:Nat
 MS:Nat
 LA:List (Int×Nat)
 SA:List (Og×Nat)
variable {k:RmK}
def gj (n:Nat):Value:= .pointer (ϊ ⟨n,0,ϋ⟩)
def zH (k:RmK) (vp vr:Value) (s:RmS):Array Value:=
 #[.pointer (ϊ ⟨k.B,0,ϋ⟩),.int .i64 s.cfg.room,.int .i64 s.cfg.hold,.int .i64 s.cfg.wait,.int .i64 s.cfg.space,.int .i64 s.cfg.retry,.int .i64 s.cfg.most,.bool s.closed,.map (ϊ k.M1),.int .i64 s.clock,
  .pointer (ϊ ⟨k.RQ,0,ϋ⟩),.pointer (ϊ ⟨k.tb,0,ϋ⟩),.map (ϊ k.ML),.map (ϊ k.MS),vp,vr,.int .i64 s.cnt.lost,.int .i64 s.cnt.malf,.int .i64 s.cnt.strange,.int .i64 s.cnt.told,.int .i64 s.cnt.acc]
def RBy:qL (List Int):=λw cs b=> ∃v,cs=[v]/\SlI .u8 w v b/\Byt b
def RAc:qL AcS:=λw cs a=> ∃vs ve vp,cs=[.int .i64 a.o.1,.int .i64 a.o.2,.int .i64 a.num,.bool a.pk.mr,.int .u8 a.pk.ty,.int .u16 a.pk.sq,.int .u32 a.pk.st,.int .u32 a.pk.sc,vs,.bool a.pk.has,.int .u16 a.pk.pr,ve,vp]/\PkS w vs ve vp a.pk
def RRq:qL RqS:=λw cs q=> ∃v,cs=[.int .i64 q.o.1,.int .i64 q.o.2,.int .i64 q.at_,v]/\SlI .u8 w v q.body
def gK (Rb:Nat) (t:zu):Array Value:= #[.pointer (ϊ ⟨Rb,0,ϋ⟩),.bool t.any,.int .i64 t.great,.bool t.asks.wanted,.bool t.asks.any,.int .i64 t.asks.last,.int .i64 t.asks.tries,.bool t.askedOf]
structure KJ (N:Nat->Prop) (w:World) (p Rb:Nat) (v:Value) (t:zu):Prop where
 blk:w.heap[p]? =ϊ (.cells (gK Rb t) 176 (0,0))
 buf:xZ w Rb v t.buf
 ok:JOK t.buf
 sub: ∀b,N b->b<w.heap.size
 np:N p
 nb:N Rb
 ne:p≠Rb
 nv: ∀g,v.ownBlock=ϊ g->N g/\g≠p
def Hl (N:Nat->Prop) (w:World) (p:Nat) (t:zu):Prop:= ∃Rb v,KJ N w p Rb v t
def RmK.Holds (k:RmK) (T:Nat->Tg) (w:World) (vp vr:Value) (s:RmS):Tg->Prop
 | .room=>T k.R= .room/\w.heap[k.R]? =ϊ (.cells (zH k vp vr s) 95 (0,0))
 | .ret=>T k.M1= .ret/\jk w k.M1 kO Value.bool s.ret
 | .queue=>T k.RQ= .queue/\T k.AQ= .queue/\RgR 1 229 35 RBy (λb=>T b≠ .data) w k.RQ k.AQ s.cfg.room.toNat s.queue
 | .table=>T k.tb= .table/\T k.ta= .table/\T k.tc= .table/\T k.td= .table/\jq w k.tb k.ta k.tc k.td s.tab
 | .book=>T k.B= .book/\T k.b= .book/\jy w k.B k.b s.book
 | .lns=>T k.ML= .lns/\jk w k.ML (Value.int .i64) gj k.LA
 | .sts=>T k.MS= .sts/\jk w k.MS kO gj k.SA
 | .pks=>je 13 RAc (λb=>T b≠ .data/\T b≠ .pks) w 0 65 vp s.pks/\ ∀g,vp.ownBlock=ϊ g->T g= .pks
 | .reqs=>je 4 RRq (λb=>T b≠ .data/\T b≠ .reqs) w 0 296 vr s.reqs/\ ∀g,vr.ownBlock=ϊ g->T g= .reqs
 | .lane x=>(∀p l,qh k.LA x=ϊ p->qh s.lanes x=ϊ l->zw (λb=>T b= .lane x) w p l)/\(qh k.LA x).isSome=(qh s.lanes x).isSome
 | .str o=>(∀p t,qh k.SA o=ϊ p->qh s.strs o=ϊ t->Hl (λb=>T b= .str o) w p t)/\(qh k.SA o).isSome=(qh s.strs o).isSome
 | .no=> ∀b,w.heap.size<=b->T b= .no
 | .junk=>True
 | .data=>True
structure RmX (T:Nat->Tg) (w0 w:World) (k:RmK) (vp vr:Value) (s:RmS) (F:List Nat):Prop where
 all: ∀t,k.Holds T w vp vr s t
 ge: ∀b,T b≠ .no->w0.heap.size<=b
 law: ∀b∈F,T b= .no/\w0.heap.size<=b/\b<w.heap.size
 more:ql w0 w
def qI (w0 w:World) (k:RmK) (s:RmS) (F:List Nat):Prop:= ∃T vp vr,RmX T w0 w k vp vr s F
def jZ (T:Nat->Tg) (t:Tg) (w w':World):Nat->Tg:=λb=>if w.heap.size<=b/\b<w'.heap.size then t else T b
section
variable {T T':Nat->Tg} {w0 w w':World} {k:RmK} {vp vr:Value} {s:RmS} {F:List Nat} {t:Tg}
def RmX.fresh (h:RmX T w0 w k vp vr s F): ∀b,w.heap.size<=b->T b= .no:=h.all .no
def jd (H: ∀b,w.heap.size<=b->T b= .no) (I:u≠ .no) (b:Nat):jZ T t w w' b=u↔(T b=u∨(u=t/\w.heap.size<=b/\b<w'.heap.size)):=by
 unfold jZ;split
 ·rename_i d;constructor
  ·intro e;exact ϕ ⟨e.symm,d⟩
  ·rintro(e | e)
   ·rw[H b d.1] at e;exact ϩ e.symm I
   ·exact e.1.symm
 ·rename_i d;constructor
  ·exact ϑ
  ·rintro(e | e)
   ·exact e
   ·exact ϩ e.2 d
def jF (d: ∀b,w.heap.size<=b->T b= .no) (I:u≠ .no) (H:u≠t) (b:Nat):jZ T t w w' b=u↔T b=u:=by
 rw[jd d I];constructor
 ·rintro(e | e)
  ·exact e
  ·exact ϩ e.1 H
 ·exact ϑ
def wW (d: ∀b,w.heap.size<=b->T b= .no) (H:t≠ .no):(λb=>jZ T t w w' b=t)=xf (λb=>T b=t) w w':=by
 funext b
 apply propext;rw[jd d H];unfold xf;simp
def Q9 (d: ∀b,w.heap.size<=b->T b= .no) (I:w.heap.size<=w'.heap.size): ∀b,w'.heap.size<=b->jZ T t w w' b= .no:=λb H=>by
 unfold jZ;rw[ώ τ];exact d b τ
def Holds.frame (h:k.Holds T w vp vr s u) (a:jt S w w') (H: ∀b,S b->T b≠u/\T b≠ .data) (I: ∀b,T' b=u↔T b=u) (Y: ∀b,T b= .data->T' b= .data) (ad:u≠ .no):k.Holds T' w' vp vr s u:=by
 have e:(λb=>T' b=u)=(λb=>T b=u):=by funext b;exact propext (I b)
 cases u with
 | no=>exact ϩ rfl ad
 | junk=>trivial
 | data=>trivial
 | room=>exact⟨(I _).2 h.1,a.blk h.2 (λx=>(H _ x).1 h.1)⟩
 | ret=>exact⟨(I _).2 h.1,h.2.away a (λx=>(H _ x).1 h.1)⟩
 | queue=>
  obtain⟨J,M,N⟩:=h;exact⟨(I _).2 J,(I _).2 M,N.step a (λx=>(H _ x).1 J) (λx=>(H _ x).1 M) (λb d=>(H b d).2) (λb d=>ϑ λe=>d (Y b e))⟩
 | table=>
  obtain⟨J,M,N,aa,ac⟩:=h;exact⟨(I _).2 J,(I _).2 M,(I _).2 N,(I _).2 aa,ac.away a (λx=>(H _ x).1 J) (λx=>(H _ x).1 M) (λx=>(H _ x).1 N) (λx=>(H _ x).1 aa)⟩
 | book=>
  obtain⟨J,M,N⟩:=h;exact⟨(I _).2 J,(I _).2 M,N.away a (λx=>(H _ x).1 J) (λx=>(H _ x).1 M)⟩
 | lns=>exact⟨(I _).2 h.1,h.2.away a (λx=>(H _ x).1 h.1)⟩
 | sts=>exact⟨(I _).2 h.1,h.2.away a (λx=>(H _ x).1 h.1)⟩
 | pks=>
  obtain⟨J,M⟩:=h;refine⟨(J.step (a.mono λb d=>⟨(H b d).2,(H b d).1⟩)).other (λb d=>ϑ ⟨λe=>d.1 (Y b e),λe=>d.2 ((I b).2 e)⟩),λg O=>(I _).2 (M g O)⟩
 | reqs=>
  obtain⟨J,M⟩:=h;refine⟨(J.step (a.mono λb d=>⟨(H b d).2,(H b d).1⟩)).other (λb d=>ϑ ⟨λe=>d.1 (Y b e),λe=>d.2 ((I b).2 e)⟩),λg O=>(I _).2 (M g O)⟩
 | lane x=>
  refine⟨λp l J M=> ?_,h.2⟩;rw[e];exact(h.1 p l J M).away a (λb d=>(H b d).1)
 | str o=>
  refine⟨λp t J M=> ?_,h.2⟩;rw[e];obtain⟨ab,v,x⟩:=h.1 p t J M;have U: ∀b,T b= .str o-> ¬S b:=λb d ae=>(H b ae).1 d
  exact⟨ab,v,a.blk x.blk (U _ x.np),⟨a.blk x.buf.blk (U _ x.nb),x.buf.row.away a (λg O=>U _ (x.nv g O).1)⟩,x.ok,λb d=>ϗ (x.sub b d) a.size,x.np,x.nb,x.ne,x.nv⟩
end
section
variable {K V:Type} [DecidableEq K]
def qF (m:List (K×V)) (k x:K) (v:V):qh (qx m k v) x=if x=k then ϊ v else qh m x:=by
 induction m with
 | nil=>simp[qx,qh]
 | cons p m ih=>
  obtain⟨a,u⟩:=p;unfold qx;by_cases e:k=a
  ·subst e;rw[ϐ rfl];by_cases e2:x=k<;>simp[qh,e2]
  ·rw[ώ e];by_cases e2:x=a
   ·subst e2;have: ¬x=k:=λh=>e h.symm
    simp[qh,this]
   ·simp only[qh,ώ e2];exact ih
def xD (m:List (K×V)) (k:K) (v:V):qh (qx m k v) k=ϊ v:=by rw[qF,ϐ rfl]
def vF (m:List (K×V)) {k x:K} (v:V) (h:x≠k):qh (qx m k v) x=qh m x:=by rw[qF,ώ h]
def uR (m:List (K×V)) (k x:K):qh (Yh m k) x=if x=k then ϋ else qh m x:=by
 induction m with
 | nil=>simp[Yh,qh]
 | cons p m ih=>
  obtain⟨a,u⟩:=p;unfold Yh at ih ⊢;rw[M2];by_cases e:a=k
  ·subst e;rw[ώ η,ih];by_cases e2:x=a<;>simp[qh,e2]
  ·rw[ϐ (by simp[e])];by_cases e2:x=a
   ·subst e2;simp[qh,e]
   ·simp only[qh,ώ e2];exact ih
def gD {m:List (K×V)} (d:(m.map Prod.fst).Nodup) (k x:K):qh (yK m k) x=if x=k then ϋ else qh m x:=by
 induction m with
 | nil=>simp[yK,qh]
 | cons p m ih=>
  obtain⟨a,u⟩:=p;rw[Ϟ,D1] at d;unfold yK;by_cases e:k=a
  ·subst e;rw[ϐ rfl];by_cases e2:x=k
   ·subst e2;rw[ϐ rfl];have:=d.1;clear ih;have key: ∀(m:List (K×V)),x∉m.map Prod.fst->qh m x=ϋ:=by
     intro m
     induction m with
     | nil=>intro _;rfl
     | cons q m ih=>
      intro h;rw[Ϟ,Ϯ,not_or] at h;obtain⟨b,z⟩:=q;simp only[qh,ώ h.1];exact ih h.2
    exact key m this
   ·simp[qh,e2]
  ·rw[ώ e];by_cases e2:x=a
   ·subst e2;have: ¬x=k:=λh=>e h.symm
    simp[qh,this]
   ·simp only[qh,ώ e2];exact ih d.2
end
def qw (F:List Nat) (w w':World):Prop:=w.heap.size<=w'.heap.size/\ ∀b∈F,w'.heap[b]? =w.heap[b]?
section
variable {T T':Nat->Tg} {w0 w w':World} {k k':RmK} {vp vr vp' vr':Value} {s s':RmS} {F F' Fn:List Nat} {t:Tg}
def qw.refl (F:List Nat) (w:World):qw F w w:=⟨ϔ _,λ_ _=>rfl⟩
def qw.trans {w'':World} (h:qw F w w') (k:qw F w' w''):qw F w w'':=⟨Ϙ h.1 k.1,λb d=>(k.2 b d).trans (h.2 b d)⟩
def qw.sub (h:qw F w w') (H: ∀b∈F',b∈F):qw F' w w':=⟨h.1,λb d=>h.2 b (H b d)⟩
def qw.blk {o:Obj} (h:qw F w w') (d:b∈F) (k:w.heap[b]? =ϊ o):w'.heap[b]? =ϊ o:=by rw[h.2 b d];exact k
def RmX.own (h:RmX T w0 w k vp vr s F) (H:t≠ .no/\t≠ .data) (a:jt (λb=>T b=t) w w') (Y:k'.Holds (jZ T t w w') w' vp' vr' s' t)
  (rest: ∀u,u≠t->u≠ .no->k.Holds (jZ T t w w') w' vp vr s u->k'.Holds (jZ T t w w') w' vp' vr' s' u):RmX (jZ T t w w') w0 w' k' vp' vr' s' F/\qw F w w':=by
 have J:=h.fresh;have U: ∀b,T b=t->w0.heap.size<=b:=λb d=>h.ge b (by rw[d];exact H.1)
 refine⟨⟨λu=> ?_,λb d=> ?_,λb d=> ?_,a.to_more h.more U⟩,a.size,λb d=>a.block b (h.law b d).2.2 (λe=>H.1 (by rw[<-e];exact(h.law b d).1))⟩
 ·by_cases e:u=t
  ·subst e;exact Y
  ·by_cases en:u= .no
   ·subst en;exact Q9 J a.size
   ·refine rest u e en (Holds.frame (h.all u) a (λb d=>⟨λI=>e (I.symm.trans d),λI=>H.2 (d.symm.trans I)⟩) (λb=>jF J en e b) (λb d=> ?_) en);exact(jF J η (C4 H.2) b).2 d
 ·unfold jZ at d;split at d
  ·have:=h.more.size;omega
  ·exact h.ge b d
 ·obtain⟨M,N,O⟩:=h.law b d;refine⟨?_,N,ϗ O a.size⟩;unfold jZ;rw[ώ τ];exact M
def RmX.mut (h:RmX T w0 w k vp vr s F) (a:jt (λb=>b∈F) w w'):RmX T w0 w' k vp vr s F:=by
 refine⟨λu=> ?_,h.ge,λb d=>⟨(h.law b d).1,(h.law b d).2.1,ϗ (h.law b d).2.2 a.size⟩,a.to_more h.more (λb d=>(h.law b d).2.1)⟩;by_cases en:u= .no
 ·subst en;exact λb d=>h.fresh b (Ϙ a.size d)
 ·exact Holds.frame (h.all u) a (λb d=>⟨λe=>en (by rw[<-e];exact(h.law b d).1),λe=>by rw[(h.law b d).1] at e;cases e⟩) (λb=>Iff.rfl) (λb d=>d) en
def RmX.on (h:RmX T w0 w k vp vr s F) (m:ql w w'):RmX T w0 w' k vp vr s F:=h.mut (jt.of_more m)
def RmX.sub (h:RmX T w0 w k vp vr s F) (H: ∀b∈F',b∈F):RmX T w0 w k vp vr s F':=⟨h.all,h.ge,λb d=>h.law b (H b d),h.more⟩
def RmX.adds (h:RmX T w0 w k vp vr s F) (m:ql w w') (H: ∀b∈Fn,w.heap.size<=b/\b<w'.heap.size):RmX T w0 w' k vp vr s (Fn++F):=by
 have d:=h.on m;refine⟨d.all,d.ge,λb I=> ?_,d.more⟩;rcases ϯ.1 I with e | e
 ·exact⟨h.fresh b (H b e).1,Ϙ h.more.size (H b e).1,(H b e).2⟩
 ·exact d.law b e
def RmX.data (h:RmX T w0 w k vp vr s F) (X:Nat->Prop) (H: ∀b,X b->T b= .no/\w0.heap.size<=b/\b<w.heap.size/\b∉F): ∃T',RmX T' w0 w k vp vr s F/\(∀b,X b->T' b= .data)/\ ∀b,¬X b->T' b=T b:=by
 classical
 have e: ∀u,u≠ .no->u≠ .data-> ∀b,(if X b then Tg.data else T b)=u↔T b=u:=λu I J b=>by
  by_cases d:X b
  ·rw[ϐ d,(H b d).1];exact⟨λx=>ϩ x.symm J,λx=>ϩ x.symm I⟩
  ·rw[ώ d]
 have N: ∀b,T b= .data->(if X b then Tg.data else T b)= .data:=λb d=>by
  split
  ·rfl
  ·exact d
 refine⟨λb=>if X b then .data else T b,⟨λu=> ?_,λb d=> ?_,λb d=> ?_,h.more⟩,λb d=>ϐ d,λb d=>ώ d⟩
 ·by_cases en:u= .no
  ·subst en;intro b d;show (if X b then Tg.data else T b)= .no;rw[ώ (λx=>by have:=(H b x).2.2.1;omega)];exact h.fresh b d
  ·by_cases ed:u= .data
   ·subst ed;trivial
   ·exact Holds.frame (h.all u) (jt.refl (λ_=>False) w) (λb d=>d.elim) (e u en ed) N en
 ·by_cases hx:X b
  ·exact(H b hx).2.1
  ·rw[ώ hx] at d;exact h.ge b d
 ·obtain⟨I,J,M⟩:=h.law b d;refine⟨?_,J,M⟩;show (if X b then Tg.data else T b)= .no;rw[ώ (λx=>(H b x).2.2.2 d)];exact I
def qI.on (h:qI w0 w k s F) (m:ql w w'):qI w0 w' k s F:=by
 obtain⟨T,vp,d,x⟩:=h;exact⟨T,vp,d,x.on m⟩
def qI.sub (h:qI w0 w k s F) (d: ∀b∈F',b∈F):qI w0 w k s F':=by
 obtain⟨T,vp,H,x⟩:=h;exact⟨T,vp,H,x.sub d⟩
def qI.adds (h:qI w0 w k s F) (m:ql w w') (d: ∀b∈Fn,w.heap.size<=b/\b<w'.heap.size):qI w0 w' k s (Fn++F):=by
 obtain⟨T,vp,H,x⟩:=h;exact⟨T,vp,H,x.adds m d⟩
def qI.more (h:qI w0 w k s F):ql w0 w:=h.elim λ_ h=>h.elim λ_ h=>h.elim λ_ h=>h.more
def qI.law (h:qI w0 w k s F): ∀b∈F,w0.heap.size<=b/\b<w.heap.size:=h.elim λ_ h=>h.elim λ_ h=>h.elim λ_ h b d=>(h.law b d).2
def qI.stay (h:qI w0 w k s F) (m:ql w w'):qw F w w':=⟨m.size,λb d=>m.block b (h.law b d).2⟩
end
def DM [DecidableEq K] {m:List (K×V)} (d:(m.map Prod.fst).Nodup) {k:K} {f:V}:qh m k=ϊ f↔(k,f)∈m:=by
 induction m with
 | nil=>simp[qh]
 | cons p m ih=>
  obtain⟨a,v⟩:=p;rw[Ϟ,D1] at d;simp only[qh];by_cases e:k=a
  ·subst e;rw[ϐ rfl];constructor
   ·intro h;injection h with h
    subst h;simp
   ·intro h;rcases Ϯ.1 h with h | h
    ·injection h with _ h
     rw[h]
    ·exact ϩ (E0.2 ⟨(k,f),h,rfl⟩) d.1
  ·rw[ώ e,ih d.2];constructor
   ·intro h;exact ϫ _ h
   ·intro h;rcases Ϯ.1 h with h | h
    ·injection h with h _
     exact ϩ h e
    ·exact h
def WL (d:Sb->Bool) (u:List (Int×Sb)) (x:Int):x∈prR d u↔x∈subIds/\ ∃sb,qh u x=ϊ sb/\d sb=ό:=by
 unfold prR;rw[I1];cases h:qh u x with
 | none=>simp[h]
 | some sb=>simp[h]
def GD:subIds.Pairwise (· < ·):=by decide
def Ur (x:Int):x∈subIds↔0<=x/\x<6:=by
 unfold subIds;constructor
 ·intro h;simp at h;omega
 ·intro h;simp;omega
def Ik (d:Sb->Bool) (u:List (Int×Sb)):(prR d u).Pairwise (· < ·):=T4 X0 GD
def Vl {u:List (Int×Sb)} (H:(u.map Prod.fst).Nodup) (J: ∀x,(qh u x).isSome=ό->0<=x/\x<6) (d:Sb->Bool):uo d u=prR d u:=by
 have aa:(yU d u).Nodup:=by
  have:yU d u=(u.filter λq=>d q.2).map Prod.fst:=by
   unfold yU;clear H J
   induction u with
   | nil=>rfl
   | cons q l ih=>
    by_cases e:d q.2=ό<;>simp[e,ih]
  rw[this];exact List.Nodup.sublist ((X0).map _) H
 have Y: ∀x,x∈yU d u↔x∈prR d u:=λx=>by
  rw[WL,Ur];unfold yU;rw[P6];constructor
  ·rintro⟨⟨a,I⟩,U,h⟩;by_cases e:d I=ό
   ·simp only[e,A7] at h;cases h;have:=(DM H).2 U;exact⟨J _ (by rw[this];rfl),I,this,e⟩
   ·simp[e] at h
  ·rintro⟨_,I,N,O⟩;exact⟨(x,I),(DM H).1 N,by simp[O]⟩
 have M:=Ik d u;have ab:(prR d u).Nodup:=M.imp λ{a b} h e=>by omega
 have ac:(yU d u).Perm (prR d u):=(List.perm_ext_iff_of_nodup aa ab).2 Y;unfold uo;rw[gL ac,Zh (M.imp λ{a b} h=>by omega)]
def ZX (a b:Og) (w:World):(Op.equal 37 (kO a) (kO b)).run prog w= .ok (decide (a=b)) w:=by
 have M:prog.stoodInHeld 37=ύ:=by kernel_rfl
 obtain⟨d,H⟩:=a;obtain⟨I,J⟩:=b;unfold Op.equal kO;rw[show Op.maxDepth=9999+1 from rfl,run_equalIn_agg w 9999 37 _ _ ξ M];simp[go_sem];by_cases e1:d=I<;>by_cases e2:H=J<;>simp[e1,e2]
def KX:yz prog 37 kO:=
 yz.of_ask underlying37 (λa b=>by simp[Instr.sameNow]) ZX (λb k w=>by
  rw[show (10000:Nat)=9999+1 from rfl];unfold Instr.checkKey kO
  simp[run_underlying underlying37,go_sem,Ga underlying3 9999 ζ]) (λk=>by simp[Instr.sameBits,kO])
def Gv (w:World):(zeroValue 4).run prog w= .ok (μ ύ) w:=by kernel_rfl
def Uf (w:World):(zeroValue 140).run prog w= .ok (π ϋ) w:=by kernel_rfl
def Gs (w:World):(zeroValue 177).run prog w= .ok (π ϋ) w:=by kernel_rfl
def Gh (o:Option Nat):Value:= .pointer (o.map λn=>⟨n,0,ϋ⟩)
def xq {L:List (Int×Nat)} (h:jk w b (Value.int .i64) gj L) (x:Int) (c:Bool):
  (Instr.lookup 90 (.map (ϊ b)) (ι x) c).run prog w= .ok (if c then .tuple #[Gh (qh L x),μ (qh L x).isSome] else Gh (qh L x)) w:=by
 rw[h.look kE underlying90 (Uf w) x c];cases qh L x<;>cases c<;>rfl
def ya {L:List (Og×Nat)} (h:jk w b kO gj L) (o:Og) (c:Bool):
  (Instr.lookup 91 (.map (ϊ b)) (θ #[ι o.1,ι o.2]) c).run prog w= .ok (if c then .tuple #[Gh (qh L o),μ (qh L o).isSome] else Gh (qh L o)) w:=by
 have:=h.look Yr underlying91 (Gs w) o c;unfold kO at this;rw[this];cases qh L o<;>cases c<;>rfl
def VH {L:List (Og×Bool)} (h:jk w b kO μ L) (o:Og):
  (Instr.lookup 87 (.map (ϊ b)) (θ #[ι o.1,ι o.2]) ύ).run prog w= .ok (μ ((qh L o).getD ύ)) w:=by
 have:=h.look KX underlying87 (Gv w) o ύ;unfold kO at this;rw[this];cases qh L o<;>rfl
def Ht (h:jy w B b m) (sub id:Int):
  Calls prog 20 #[θ #[γ B],ι sub,ι id] w λe w'=>e= .returned (.tuple #[ι ((qh m (sub,id)).getD 0),μ (qh m (sub,id)).isSome])/\ql w w':=by
 have H:=κ h;clear h
 go_enter func20,ntmps20
 go_wp2_with (go_at_call 61;(go_call MK (H.o.more (ql.alloc w (.cells #[γ B] 86))) (sub,id) as e w1 ⟨rfl,d⟩;have I:=κ d;clear d))
 go_ret2
 exact⟨rfl,X8.trans I.o⟩
def Hs (h:jy w B b m) (sub id:Int):
  Calls prog 135 #[θ #[γ B],ι sub,ι id] w λe w'=>e= .returned (μ (decide (qh m (sub,id)=ϊ 0)))/\ql w w':=by
 have M:=κ h;clear h;have e:decide (qh m (sub,id)=ϊ 0)=((qh m (sub,id)).isSome&&((qh m (sub,id)).getD 0==0)):=by cases qh m (sub,id) with | none=>simp | some x=>(by_cases hx:x=0<;>simp[hx])
 rw[e];generalize O:qh m (sub,id)=g at *;have N:=κ O;clear O;obtain⟨f,J⟩:=ν (g.getD 0);obtain⟨i,hi⟩:=ν (g.isSome);have H:=κ (Ht (M.o.more (ql.alloc w (.cells #[γ B] 86))) sub id);rw[N.o,J,hi] at H;rw[J,hi];clear e J hi N M
 go_enter func135,ntmps135
 cases i with
 | true=>
  go_wp2_with (go_at_call 20;(go_call H.o as e w1 ⟨rfl,d⟩;have I:=κ d;clear d))
  go_ret;exact⟨rfl,X8.trans I.o⟩
 | false=>
  go_wp2_with (go_at_call 20;(go_call H.o as e w1 ⟨rfl,d⟩;have I:=κ d;clear d))
  go_ret;exact⟨rfl,X8.trans I.o⟩
def gI (h:jy w B b m) (sub id f:Int):
  Calls prog 122 #[θ #[γ B],ι sub,ι id,ι f] w λe w'=>e= .returned (.tuple #[])/\jy w' B b (jp m sub id f)/\jt (λx=>x=b) w w':=by
 have J:=κ h;have O:ql w (w.alloc (.cells #[γ B] 86)):=ql.alloc _ _;have Y:=κ (qj w (.cells #[γ B] 86));have I:=κ (Hs (J.o.more O) sub id);clear h O;unfold jp;by_cases ho:qh m (sub,id)=ϊ 0
 ·rw[ϐ ho];rw[Ϫ ho] at I;clear ho
  go_enter func122,ntmps122
  go_wp2_with (first | (go_at_call 135;(go_call I.o as e w1 ⟨rfl,d⟩;have H:Hid (ql w w1):=κ (X8.trans d);have ab:w1.cell? ⟨w.heap.size,0,ϋ⟩=ϊ (π (ϊ ⟨B,0,ϋ⟩)):=qm (qq d Y.o) 0 rfl;clear d)) | (go_at_call 177;(go_call F0 (J.o.more H.o) (sub,id) f as e w2 ⟨rfl,N,M⟩;have aa:=κ N;have U:=κ M;clear N M)))
  (refine bodyPost_end (v:= .tuple #[]) ?re1 rfl ?_;(case re1=>simp[results,results122,go_sem]))
  exact⟨rfl,aa.o,(jt.of_more H.o).trans U.o⟩
 ·rw[ώ ho];rw[Ϩ ho] at I;clear ho
  go_enter func122,ntmps122
  go_wp2_with (go_at_call 135;(go_call I.o as e w1 ⟨rfl,d⟩;have H:Hid (ql w w1):=κ (X8.trans d);clear d))
  (refine bodyPost_end (v:= .tuple #[]) ?re2 rfl ?_;(case re2=>simp[results,results122,go_sem]))
  exact⟨rfl,J.o.more H.o,jt.of_more H.o⟩
def RO:qL Og:=λ_ cs o=>cs=[.int .i64 o.1,.int .i64 o.2]
def Ph {i j:Nat} (hi:i<3) (d:j<3):orgs.take (3* i+(j+1))=orgs.take (3* i+j)++[((i:Int),(j:Int))]:=by
 have hi:i=0∨i=1∨i=2:=by omega
 have d:j=0∨j=1∨j=2:=by omega
 rcases hi with rfl | rfl | rfl<;>rcases d with rfl | rfl | rfl<;>rfl
def By (n:Nat) (p:Og->Bool):((orgs.take n).filter p).length<=9:=Ϙ (D3 _ _) (by rw[Ϡ];show min n 9<=9;omega)
def Yp (SA:List (Og×Nat)):List Og:=orgs.filter λo=>(qh SA o).isSome
def KC {R ad:Nat} {SA:List (Og×Nat)} (ai:R<w.heap.size) (aj:w.cell? ⟨R,13,ϋ⟩=ϊ (.map (ϊ ad))) (am:jk w ad kO gj SA):
  Calls prog 64 #[γ R] w λe w'=> ∃v,e= .returned v/\je 2 RO (λ_=>False) w' w.heap.size 58 v (Yp SA)/\ql w w':=by
 obtain⟨aM,hi,aH,aI,aJ⟩:=info_parts (P:=prog) (e:=58) (z:= θ #[ι 0,ι 0]) (size:=2) (bytes:=16) ξ;have ax:=κ am;have ar:=κ aj;have ay:=κ ai;clear am aj ai;obtain⟨p,an⟩: ∃p:Og->Bool,Hid (p=λo=>(qh SA o).isSome):=⟨_,κ rfl⟩;have e0:Yp SA=(orgs.take 9).filter p:=by rw[an.o];rfl
 rw[e0];have aw:=κ (λn=>By n p);clear e0
 go_enter func64,ntmps64
 go_wp2
 go_loopw [3,9] (λu I wr=> ∃i:Nat,i<=3/\I= ι i/\(∃N M J,u= δ N M J)/\je 2 RO (λ_=>False) wr w.heap.size 58 u ((orgs.take (3* i)).filter p)/\ql w wr) (λ_ I _=>3-(intOf I).toNat)
 case atStart=>exact⟨0,τ,rfl,⟨_,_,_,rfl⟩,je.nil _ _ _ _ _ _,ql.refl _⟩
 case round=>
  obtain⟨i,aR,rfl,⟨N,M,J,rfl⟩,Y,U⟩:=hrel;have H:=κ Y;have d:=κ U;clear Y U;by_cases hlt:i<3
  ·have aE:(i:Int)<3:=by omega
   obtain⟨aq,rfl⟩: ∃aq:World,aq=wr:=⟨_,rfl⟩;go_wp2
   go_loopw [3,12] (λu I wr=> ∃j:Nat,j<=3/\I= ι j/\(∃N M J,u= δ N M J)/\je 2 RO (λ_=>False) wr w.heap.size 58 u ((orgs.take (3* i+j)).filter p)/\ql w wr) (λ_ I _=>3-(intOf I).toNat)
   case atStart=>exact⟨0,τ,rfl,⟨_,_,_,rfl⟩,H.o,d.o⟩
   case round=>
    clear H d;obtain⟨j,aS,rfl,⟨N,M,J,rfl⟩,Y,U⟩:=hrel;have H:=κ Y;have d:=κ U;clear Y U;by_cases hltj:j<3
    ·have aF:(j:Int)<3:=by omega
     have ap:=Ph hlt hltj;have au:Hid (∀b,(δ N M J).ownBlock=ϊ b->w.heap.size<=b):=κ (λb h=>H.o.ge h);have av:=κ (aw.o (3* i+j));obtain⟨W1,ab⟩:=ν (wr.alloc (.cells #[ι (i:Int),ι (j:Int)] 58));have O:Hid (ql wr W1):=κ (by rw[<-ab];exact ql.alloc _ _);have af:Hid (W1.heap[wr.heap.size]? =ϊ (.cells #[ι (i:Int),ι (j:Int)] 58 (0,0))):=κ (by rw[<-ab];exact qj wr _);have aC:W1.cell? ⟨R,13,ϋ⟩=ϊ (.map (ϊ ad)):=by rw[(d.o.trans O.o).cells _ _ ay.o];exact ar.o
     have q: ∀n,_:=λn=>ya (ax.o.more ((d.o.trans O.o).dr n)) ((i:Int),(j:Int)) ό
     simp only[A7] at q;have ao:p ((i:Int),(j:Int))=(qh SA ((i:Int),(j:Int))).isSome:=by rw[an.o]
     have ah:=κ ap;generalize qh SA ((i:Int),(j:Int))=g at *;clear ap;have aO:=β0 af.o;have aP:=β1 af.o;have ag:=κ ao;clear ao
     go_upto_region 9 with fail
     (try rw[ab])
     clear ab;refine wp_region_quiet_lit ξ ξ ?_
     repeat (go_big_quiet_step (fail))
     refine wpQuiet_nil ?_;intro _ aG;obtain⟨nq,rfl⟩:=aG;have aa:Hid (ql w (W1.drewN nq)):=κ ((d.o.trans O.o).dr _);have aA:=κ ((H.o.on O.o).on ((ql.drewN W1 nq).al (.cells #[ι (i:Int),ι (j:Int)] 58)));clear q aC;cases g with
     | none=>
      have ac:Hid ((orgs.take (3* i+(j+1))).filter p=(orgs.take (3* i+j)).filter p):=κ (by rw[ah.o,I7,M2,ώ (by rw[ag.o];simp)];simp);have az:=κ ((H.o.on O.o).on (ql.drewN W1 nq));go_wp2;go_roundw
      case rel=>exact⟨j+1,τ,by go_num,⟨_,_,_,rfl⟩,by rw[ac.o];exact az.o,aa.o⟩
      case measure=>simp[intOf];omega
     | some g=>
      have ac:Hid ((orgs.take (3* i+(j+1))).filter p=(orgs.take (3* i+j)).filter p++[((i:Int),(j:Int))]):=κ (by rw[ah.o,I7,M2,ϐ (by rw[ag.o];rfl)];simp);have aT:=av.o
      go_wp2_with (at_builtin;(refine jN (R:=RO) (D:=λ_=>False) _ rfl (.tmp 28) (.tmp 30) 171 rfl w.heap.size 58 aM (θ #[ι 0,ι 0]) 2 16 underlying171 hi aH aI aJ rfl ζ _ ((orgs.take (3* i+j)).filter p) rfl aA.o W1.heap.size [ι (i:Int),ι (j:Int)] ((i:Int),(j:Int)) rfl rfl (zS η) X9 (λw' _=>rfl) (λb h=>h.elim) ζ τ (aa.o.al _).size ?_;intro v' w8 ae ak aD;have aN:Hid (ql w w8):=κ (Below.grown (aa.o.al _) ak (aa.o.al _).size au.o);obtain⟨aV,aU,aQ,rfl,aK,aL⟩:=ae.shape;have aB:=κ ae;clear ae ak aD aK aL))
      go_roundw
      case rel=>exact⟨j+1,τ,by go_num,⟨_,_,_,rfl⟩,by rw[ac.o];exact aB.o,aN.o⟩
      case measure=>simp[intOf];omega
    ·obtain rfl:j=3:=by omega
     have aF: ¬((3:Nat):Int)<3:=by omega
     go_wp2;go_roundw
     case rel=>exact⟨i+1,τ,by go_num,⟨_,_,_,rfl⟩,by rw[Nat.mul_add];exact H.o,d.o⟩
     case measure=>simp[intOf];omega
  ·obtain rfl:i=3:=by omega
   have aE: ¬((3:Nat):Int)<3:=by omega
   go_wp2;go_ret;exact⟨_,rfl,H.o,d.o⟩
def FS (n:Int) (w:World):Calls prog 245 #[ι n] w λe w'=>e= .returned (φ (n%65536))/\w=w':=by
 go_enter func245,ntmps245
 go_wp2;go_ret;exact⟨rfl,rfl⟩
def Wa (n:Int) (d:U16 n) (w:World):Calls prog 191 #[φ n] w λe w'=>e= .returned (ι (65536+n))/\w=w':=by
 obtain⟨H,I⟩:=d
 go_enter func191,ntmps191
 go_wp2;go_ret;exact⟨rfl,rfl⟩
def IZ (a b:Int): -32768<=ahd a b/\ahd a b<=32767:=by unfold ahd;omega
def Wm (d n:Int) (M:xz d) (I:U16 n) (w:World):Calls prog 192 #[ι d,φ n] w λe w'=>e= .returned (ι (KH d n))/\w=w':=by
 obtain⟨N,O⟩:=M;have U:=IZ (d%65536) n;have H:U16 (d%65536):=by unfold U16;omega
 unfold KH;have J:=κ (λw=>Yd (d%65536) n w H I);clear H I;generalize ahd (d%65536) n=a at *
 go_enter func192,ntmps192
 go_wp2_with (first | (go_at_call 245;(go_call FS d _ as e w1 ⟨rfl,rfl⟩)) | (go_at_call 244;(go_call J.o _ as e w2 ⟨rfl,rfl⟩)))
 go_ret;exact⟨rfl,rfl⟩
def vK (c t:Int) (w:World):Calls prog 38 #[θ #[ι c,ι t]] w λe w'=>e= .returned (μ (!decide (c=t)))/\ql w w':=by
 go_enter func38,ntmps38
 go_wp2;go_ret;exact⟨by congr 1,ql.alloc _ _⟩
def Qf (sp d:Int) (w:World):Calls prog 42 #[θ #[ι sp,ι d]] w λe w'=>e= .returned (μ (decide (1<=sp/\sp<=d/\d<=1000)))/\ql w w':=by
 have e:decide (1<=sp/\sp<=d/\d<=1000)=(decide (1<=sp)&&(decide (sp<=d)&&decide (d<=1000))):=by by_cases h1:1<=sp<;>by_cases h2:sp<=d<;>by_cases h3:d<=1000<;>simp[h1,h2,h3]
 rw[e];clear e;by_cases h1:1<=sp
 ·by_cases h2:sp<=d
  ·go_enter func42,ntmps42
   go_wp2;go_ret;exact⟨by simp[h1,h2],ql.alloc _ _⟩
  ·go_enter func42,ntmps42
   go_wp2;go_ret;exact⟨by simp[h1];omega,ql.alloc _ _⟩
 ·go_enter func42,ntmps42
  go_wp2;go_ret;exact⟨by simp;omega,ql.alloc _ _⟩
def FY (sp d H:Int) (ah:1<=sp) (ai:sp<=d) (aj:d<=1000) (ak:0<=H) (al:H<=1000000) (w:World):
  Calls prog 141 #[θ #[ι sp,ι d],ι H] w λe w'=>e= .returned (ι (Yg sp d H))/\ql w w':=by
 go_enter func141,ntmps141
 go_wp2
 go_step3
 go_wp2
 go_step3
 go_wp2
 go_loopw [5,6] (λg O wr=> ∃(k:Nat) (I:Int),O= ι (k+1)/\g= ι I/\0<=I/\I<=2000/\(k:Int)<=1000000/\Zc d ((H-1).toNat-k) I=Zc d (H-1).toNat sp/\(k=0∨(k:Int)<=H-1)/\wr=w.alloc (.cells #[ι sp,ι d] 23)) (λ_ O _=>(H-1).toNat+1-(intOf O).toNat)
 case atStart=>exact⟨0,sp,rfl,rfl,τ,τ,τ,rfl,ϑ rfl,rfl⟩
 case round=>
  obtain⟨k,I,rfl,rfl,af,ag,am,aa,ab,rfl⟩:=hrel;have ac:=κ (qj w (.cells #[ι sp,ι d] 23));have N:=κ aa;have ad:=κ ab;clear aa ab;have ae:=β1 ac.o;by_cases hlt:(k:Int)+1<H
  ·obtain⟨n,M⟩: ∃n,(H-1).toNat-k=n+1:=⟨(H-1).toNat-k-1,τ⟩;by_cases hb1:I<1
   ·have J:Hid (Yg sp d H=if I<=d then I else d):=κ (by unfold Yg;rw[<-N.o,M];unfold Zc;rw[ϐ (ϑ hb1)]);clear M;go_wp2
    (try rw[Exit.noGoto_ret])
    go_ret;exact⟨by rw[J.o];first | rfl | (congr 2;try omega) | skip,ql.alloc _ _⟩
   ·by_cases hb2:d<=I
    ·have J:Hid (Yg sp d H=if I<=d then I else d):=κ (by unfold Yg;rw[<-N.o,M];unfold Zc;rw[ϐ (ϕ hb2)]);clear M;go_wp2
     (try rw[Exit.noGoto_ret])
     go_ret;exact⟨by rw[J.o];first | rfl | (congr 2;try omega) | skip,ql.alloc _ _⟩
    ·have Y:Zc d n (2* I)=Zc d (H-1).toNat sp:=by rw[<-N.o,M];conv=>rhs;unfold Zc;rw[ώ τ]
     have J:=κ Y;have U:=κ M;clear Y M;go_wp2;go_roundw
     case rel=>exact⟨k+1,I* 2,by go_num,rfl,τ,τ,τ,by rw[show (H-1).toNat-(k+1)=n by have:=U.o;omega,Int.mul_comm];exact J.o,ϕ τ,trivial⟩
     case measure=>have:=U.o;simp[intOf];omega
  ·have J:Hid (Yg sp d H=if I<=d then I else d):=κ (by unfold Yg;rw[<-N.o,show (H-1).toNat-k=0 by have:=ad.o;omega];rfl);go_wp2
   (try rw[Exit.noGoto_ret])
   go_ret;exact⟨by rw[J.o];first | rfl | (congr 2;try omega) | skip,ql.alloc _ _⟩
def Cy (sp H:Int) (a:Gr) (d:Bool) (I:Int) (aV:1<=sp) (aW:sp<=H) (aX:H<=1000) (aK:0<=a.tries) (aL:a.tries<=1000000) (ba:xz a.last) (bb:xz I) (w:World):
  Calls prog 84 #[θ #[ι sp,ι H],θ #[μ a.wanted,a.any,ι a.last,ι a.tries],d,ι I] w λe w'=>
   e= .returned (.tuple #[θ #[μ (vU sp H a d I).1.wanted,μ (vU sp H a d I).1.any,ι (vU sp H a d I).1.last,ι (vU sp H a d I).1.tries],μ (vU sp H a d I).2])/\ql w w':=by
 obtain⟨O,J,al,ah⟩:=a;obtain⟨bd,be⟩:=ba;obtain⟨br,bs⟩:=bb;simp only at aK aL bd be ⊢;obtain⟨T,ao⟩:=ν (uq ⟨O,J,al,ah⟩ d);have aY:0<=T/\T<=1000000:=by rw[<-ao];unfold uq;split<;>first | exact⟨aK,aL⟩ | exact⟨τ,τ⟩
 obtain⟨t0,t1⟩:=aY;have av:=κ ao;obtain⟨c,ay⟩:=ν (Hc sp H ⟨O,J,al,ah⟩ d I);have aO:=κ ay;obtain⟨y,aB⟩:=ν (vU sp H ⟨O,J,al,ah⟩ d I);have aG:Hid (y=if c then (⟨d,J,al,T⟩,ύ) else (⟨d,ό,I,T+1⟩,ό)):=κ (by rw[<-aB,<-ay,<-ao];rfl);obtain⟨q,aJ⟩:=ν ((!d|| !O));have au:=κ aJ;obtain⟨g,az⟩:=ν (Yg sp H T);have aQ:=κ az;have ar:=κ (λw=>FY sp H T aV aW aX t0 t1 w);rw[az] at ar;rw[aB];clear ao ay aJ aB az
 go_enter func84,ntmps84
 go_upto_region 1 with fail
 obtain⟨ai,af⟩:=ν ((((w.alloc (.cells #[ι sp,ι H] 23)).alloc (.cells #[μ O,J,ι al,ι ah] 174)).alloc (.cells #[μ ύ,ύ,ι 0,ι 0] 174)));have M:Hid (ai.heap[w.heap.size+1]? =ϊ (.cells #[μ O,J,ι al,ι ah] 174 (0,0))):=κ (by rw[<-af];exact qs (qC η) _);have ac:Hid (ai.heap[w.heap.size]? =ϊ (.cells #[ι sp,ι H] 23 (0,0))):=κ (by rw[<-af];exact qs (qs (qj w _) _) _);have ad:Hid (ai.heap[w.heap.size+1+1]? =ϊ (.cells #[μ ύ,ύ,ι 0,ι 0] 174 (0,0))):=κ (by rw[<-af];exact qC η);have ae:Hid (ql w ai):=κ (by rw[<-af];exact(X8.al _).al _);rw[af];clear af;have aj:w.heap.size<=w.heap.size+1:=by omega
 have U:w.heap.size<=w.heap.size+1+1:=by omega
 have aN:w.heap.size≠w.heap.size+1:=by omega
 have ak:w.heap.size+1+1≠w.heap.size+1:=by omega
 have an:=β0 M.o
 go_cut [16] from 10 to 16 (λv Y=>v= μ q/\Y=ai)
 case first=>
  cases d<;>cases O<;>(go_wp2;go_meet;exact⟨by rw[<-au.o];rfl,rfl⟩)
 case rest=>
 obtain⟨rfl,aS⟩:=hcut;subst aS
 go_upto_if 16 with fail
 go_cut [] from 17 to 17 (λY=>Y.heap[w.heap.size+1]? =ϊ (.cells #[μ O,J,ι al,ι T] 174 (0,0))/\Y.heap[w.heap.size]? =ϊ (.cells #[ι sp,ι H] 23 (0,0))/\Y.heap[w.heap.size+1+1]? =ϊ (.cells #[μ ύ,ύ,ι 0,ι 0] 174 (0,0))/\ql w Y)
 case first=>
  have aU:=yw M.o 3;have c3:=β3 M.o;cases q with
  | true=>
   have aA:Hid (0=T):=κ (by rw[<-av.o];unfold uq;rw[ώ (by have:=au.o;cases d<;>cases O<;>simp_all)]);go_wp2;go_meet;exact⟨qB (qp M.o 3 _) (by rw[<-aA.o];rfl),qo ac.o _ _ aN,qo ad.o _ _ ak,ae.o.st (p:=⟨w.heap.size+1,3,ϋ⟩) aj _⟩
  | false=>
   have aA:Hid (ah=T):=κ (by rw[<-av.o];unfold uq;rw[ϐ (by have:=au.o;cases d<;>cases O<;>simp_all)]);go_wp2;go_meet;exact⟨by rw[<-aA.o];exact M.o,ac.o,ad.o,ae.o⟩
 case rest=>
 obtain⟨ax,aH,aI,aM⟩:=hcut;have aT:=yw ax 0;have aq:=κ ax;have aC:=κ aH;have aD:=κ aI;have aF:=κ aM;clear M ac ad ae an ax aH aI aM;have an:=β0 aq.o
 go_upto_region 4 with fail
 obtain⟨ab,ag⟩:=ν (wc.setCell ⟨w.heap.size+1,0,ϋ⟩ (μ d));have M:Hid (ab.heap[w.heap.size+1]? =ϊ (.cells #[μ d,J,ι al,ι T] 174 (0,0))):=κ (by rw[<-ag];exact qB (qp aq.o 0 _) rfl);have ac:Hid (ab.heap[w.heap.size]? =ϊ (.cells #[ι sp,ι H] 23 (0,0))):=κ (by rw[<-ag];exact qo aC.o _ _ aN);have ad:Hid (ab.heap[w.heap.size+1+1]? =ϊ (.cells #[μ ύ,ύ,ι 0,ι 0] 174 (0,0))):=κ (by rw[<-ag];exact qo aD.o _ _ ak);have ae:Hid (ql w ab):=κ (by rw[<-ag];exact aF.o.st (p:=⟨w.heap.size+1,0,ϋ⟩) aj _);rw[ag];clear ag aq aC aD aF an aT
 go_cut [36] from 20 to 36 (λv Y=>v= μ c/\ql ab Y)
 case first=>
  have am:=λ(x:qt ab)=>qq x.h M.o
  have bg:=λx=>β1 (am x);have bh:=λx=>β2 (am x);have bi:=λx=>β3 (am x);clear am
  have aw:=λ(x:qt ab)=>qq x.h ac.o
  have bj:=λx=>β0 (aw x);have bk:=λx=>β1 (aw x);clear aw
  obtain⟨aR,aZ⟩:=ν (decide (I-al<g));have aP:Hid ((!d||(J&&aR))=c):=κ (by rw[<-aO.o,<-aZ,<-aQ.o,<-av.o];rfl)
  cases d<;>cases J<;>(
   refine qD _ (ql.refl _) ξ ξ ?_
   repeat (go_big_quiet_step ((go_at_call 141;exact j6 (ar.o _))))
   refine wpQuiet_nil ?_;intro _ bc;obtain⟨bf,rfl⟩:=bc;go_wp2;go_meet
   exact⟨by rw[<-aP.o];rfl,bf.h⟩)
 case rest=>
 obtain⟨rfl,ap⟩:=hcut;have aa:=κ (qq ap M.o);have N:=κ (qq ap ad.o);have aE:=κ (ae.o.trans ap);clear M ac ad ae ap ar;have an:=β0 aa.o;have c1:=β1 aa.o;have bl:=yw aa.o 1;have c2:=β2 aa.o;have bm:=yw aa.o 2;have c3:=β3 aa.o;have aU:=yw aa.o 3;have z0:=β0 N.o;have bn:=yw N.o 0;have bt:=β1 N.o;have bo:=yw N.o 1;have bu:=β2 N.o;have bp:=yw N.o 2;have z3:=β3 N.o;have bq:=yw N.o 3;cases c with
 | true=>
  obtain rfl:y=(⟨d,J,al,T⟩,ύ):=aG.o;go_wp2;refine bodyPost_ret (v:= .tuple #[θ #[μ d,J,ι al,ι T],ύ]) (yo results84 _ _ (w.heap.size+1+1) 174 #[μ d,J,ι al,ι T] _ _ rfl rfl (qB (qp (qp (qp (qp N.o 0 _) 1 _) 2 _) 3 _) rfl) underlying174 rfl ξ) rfl ?_;exact⟨rfl,((((aE.o.st (p:=⟨w.heap.size+1+1,0,ϋ⟩) U _).st (p:=⟨w.heap.size+1+1,1,ϋ⟩) U _).st (p:=⟨w.heap.size+1+1,2,ϋ⟩) U _).st (p:=⟨w.heap.size+1+1,3,ϋ⟩) U _)⟩
 | false=>
  obtain rfl:y=(⟨d,ό,I,T+1⟩,ό):=aG.o;go_wp2;refine bodyPost_ret (v:= .tuple #[θ #[μ d,ό,ι I,ι (T+1)],ό]) (yo results84 _ _ (w.heap.size+1+1) 174 #[μ d,ό,ι I,ι (T+1)] _ _ rfl rfl (qB (qp (qp (qp (qp (qo (qo (qo N.o ⟨w.heap.size+1,1,ϋ⟩ _ ak) ⟨w.heap.size+1,2,ϋ⟩ _ ak) ⟨w.heap.size+1,3,ϋ⟩ _ ak) 0 _) 1 _) 2 _) 3 _) rfl) underlying174 rfl ξ) rfl ?_;exact⟨rfl,(((((((aE.o.st (p:=⟨w.heap.size+1,1,ϋ⟩) aj _).st (p:=⟨w.heap.size+1,2,ϋ⟩) aj _).st (p:=⟨w.heap.size+1,3,ϋ⟩) aj _).st (p:=⟨w.heap.size+1+1,0,ϋ⟩) U _).st (p:=⟨w.heap.size+1+1,1,ϋ⟩) U _).st (p:=⟨w.heap.size+1+1,2,ϋ⟩) U _).st (p:=⟨w.heap.size+1+1,3,ϋ⟩) U _)⟩
def KJ.on {d:Nat->Prop} {H:Nat} (h:KJ d w p H v t) (m:ql w w'):KJ d w' p H v t:=
 ⟨qq m h.blk,h.buf.on m,h.ok,λb I=>ϗ (h.sub b I) m.size,h.np,h.nb,h.ne,h.nv⟩
def RmX.strAt (h:RmX T w0 w k vp vr s F) (J:qh s.strs o=ϊ t): ∃p d v,qh k.SA o=ϊ p/\KJ (λb=>T b= .str o) w p d v t:=by
 obtain⟨M,H⟩:=h.all (.str o);rw[J] at H;obtain⟨p,I⟩:=ϥ.1 H;obtain⟨d,v,x⟩:=M p t I J;exact⟨p,d,v,I,x⟩
def RmX.laneAt (h:RmX T w0 w k vp vr s F) {l:LnS} (H:qh s.lanes x=ϊ l): ∃p,qh k.LA x=ϊ p/\zw (λb=>T b= .lane x) w p l:=by
 obtain⟨J,d⟩:=h.all (.lane x);rw[H] at d;obtain⟨p,I⟩:=ϥ.1 d;exact⟨p,I,J p l I H⟩
def RmX.laneNo (h:RmX T w0 w k vp vr s F) (H:qh s.lanes x=ϋ):qh k.LA x=ϋ:=by
 obtain⟨I,d⟩:=h.all (.lane x);rw[H] at d;cases hp:qh k.LA x with
 | none=>rfl
 | some p=>rw[hp] at d;cases d
def RmX.origins (h:RmX T w0 w k vp vr s F):Yp k.SA=s.origins:=by
 unfold Yp RmS.origins
 congr 1
 funext o
 exact(h.all (.str o)).2
def RmX.blk (h:RmX T w0 w k vp vr s F):w.heap[k.R]? =ϊ (.cells (zH k vp vr s) 95 (0,0)):=(h.all .room).2
def RmX.tab (h:RmX T w0 w k vp vr s F):jq w k.tb k.ta k.tc k.td s.tab:=by
 obtain⟨_,_,_,_,x⟩:=h.all .table;exact x
def RmX.bok (h:RmX T w0 w k vp vr s F):jy w k.B k.b s.book:=by
 obtain⟨_,_,x⟩:=h.all .book;exact x
def RmX.que (h:RmX T w0 w k vp vr s F):RgR 1 229 35 RBy (λb=>T b≠ .data) w k.RQ k.AQ s.cfg.room.toNat s.queue:=by
 obtain⟨_,_,x⟩:=h.all .queue;exact x
def RmX.lnm (h:RmX T w0 w k vp vr s F):jk w k.ML (Value.int .i64) gj k.LA:=(h.all .lns).2
def RmX.stm (h:RmX T w0 w k vp vr s F):jk w k.MS kO gj k.SA:=(h.all .sts).2
def RmX.retm (h:RmX T w0 w k vp vr s F):jk w k.M1 kO μ s.ret:=(h.all .ret).2
def RmX.lt (h:RmX T w0 w k vp vr s F):k.R<w.heap.size:=qn h.blk
def RmX.orgsRow (h:RmX T w0 w k vp vr s F):Calls prog 64 #[γ k.R] w λe w'=> ∃v,e= .returned v/\je 2 RO (λ_=>False) w' w.heap.size 58 v s.origins/\ql w w':=by
 rw[<-h.origins];exact KC h.lt (qm h.blk 13 rfl) (h.all .sts).2
def yB (h:o∈s.origins): ∃t,qh s.strs o=ϊ t:=by
 unfold RmS.origins at h;exact ϥ.1 (I1.1 h).2
def KT {L:List Og} (h:je 2 RO (λ_=>False) w base 58 v L): ∃oa cap,v= δ oa L.length cap/\L.length<=maxLen/\ ∀i (hi:i<L.length),∃b,oa=ϊ ⟨b,0,ϋ⟩/\base<=b/\b<w.heap.size/\w.cell? ⟨b,i* 2,ϋ⟩=ϊ (ι L[i].1)/\w.cell? ⟨b,i* 2+1,ϋ⟩=ϊ (ι L[i].2):=by
 obtain⟨⟨xs,d,r⟩,_⟩:=h;rcases id d.2 with ⟨rfl,I⟩ | ⟨b,cap,cur,rfl,J,M,N,O,_⟩
 ·exact⟨ϋ,0,by rw[I],by rw[I];exact Δ _,λi hi=>by omega⟩
 ·refine⟨_,cap,rfl,τ,λi hi=>⟨b,rfl,J,lt_of_block M, ?_, ?_⟩⟩
  ·have e:(xs.drop (i* 2)).take 2=[ι L[i].1,ι L[i].2]:=(r i hi).read;have e0:=ϵ (λl:List Value=>l[0]?) e;simp at e0;rw[d.cellAt _ τ];exact e0
  ·have e:(xs.drop (i* 2)).take 2=[ι L[i].1,ι L[i].2]:=(r i hi).read;have H:=ϵ (λl:List Value=>l[1]?) e;simp at H;rw[d.cellAt _ τ];exact H
def RmS.readyO (s:RmS):Og:=s.ready.getD (0,0)
def ZW (p:α->Bool): ∀(l:List α) (j:Nat) (hj:j<l.length),(∀i (hi:i<l.length),i<j->p l[i]=ύ)->p l[j]=ό->l.find? p=ϊ l[j]
 | [],j,hj,_,_=>by simp at hj
 | a::l,0,_,_,h=>by simp at h;simp[h]
 | a::l,j+1,hj,h1,h2=>by
  have d:=h1 0 η τ;simp at d;simp only[List.find?_cons,d];exact ZW p l j (by simpa using hj) (λi hi H=>by have:=h1 (i+1) (by simpa using hi) τ;simpa using this) (by simpa using h2)
def PJ (p:α->Bool) (l:List α) (h: ∀i (hi:i<l.length),p l[i]=ύ):l.find? p=ϋ:=by
 rw[List.find?_eq_none];intro x d;obtain⟨i,hi,rfl⟩:=A0.1 d;simp[h i hi]
def Al (h:RmX T w0 w k vp vr s F) (aw:xz s.clock):
  Calls prog 73 #[γ k.R] w λe w'=>e= .returned (.tuple #[θ #[ι s.readyO.1,ι s.readyO.2],s.ready.isSome])/\ql w w':=by
 have O:=κ h;have aF:=κ aw;clear h aw
 go_enter func73,ntmps73
 go_wp2_with (go_at_call 64;(go_call (O.o.on (ql.alloc w (.cells #[ι 0,ι 0] 58))).orgsRow as e w1 ⟨v,rfl,aC,ai⟩;obtain⟨ba,cap,rfl,aP,aB⟩:=KT aC;have aH:=κ aB;have ao:Hid (ql w w1):=κ (X8.trans ai);have aa:Hid (w1.heap[w.heap.size]? =ϊ (.cells #[ι 0,ι 0] 58 (0,0))):=κ (qq ai (qj w _));clear aC ai aB))
 unfold maxLen at aP
 go_loopw [9] (λah wr=> ∃j:Nat,j<=s.origins.length/\ah= ι j/\(∀i (hi:i<s.origins.length),i<j->s.readyAt s.origins[i]=ύ)/\ql w1 wr) (λah _=>s.origins.length-(intOf ah).toNat)
 case atStart=>exact⟨0,τ,rfl,λi hi h=>by omega,ql.refl _⟩
 case round=>
  obtain⟨j,aZ,rfl,ax,av⟩:=hrel;have ac:=κ ax;have H:=κ av;clear ax av;by_cases hlt:j<s.origins.length
  ·have aO:(j:Int)<(s.origins.length:Int):=by omega
   obtain⟨b,rfl,aX,ar,U,c1⟩:=aH.o j hlt;have U:wr.cell? ⟨b,j* 2,ϋ⟩=ϊ (ι (s.origins[j]).1):=by rw[H.o.cells _ _ ar];exact U
   have c1:wr.cell? ⟨b,j* 2+1,ϋ⟩=ϊ (ι (s.origins[j]).2):=by rw[H.o.cells _ _ ar];exact c1
   obtain⟨t,ag⟩:=yB (ϡ hlt);have am:=κ (λJ=>ZW s.readyAt s.origins j hlt ac.o J);have aA:s.readyAt s.origins[j]=xa t.buf s.clock:=by unfold RmS.readyAt;rw[ag]
   have ad:=κ aA;clear aA;obtain⟨p,aq,v,az,Y⟩:=O.o.strAt ag;have an:Hid (∀o,o=s.origins[j]->(∀J:xa t.buf s.clock=ό,s.ready=ϊ o)):=κ (λo e J=>by rw[e];exact am.o (by rw[ad.o];exact J))
   have aJ:Hid (xa t.buf s.clock=ύ-> ∀i (hi:i<s.origins.length),i<j+1->s.readyAt s.origins[i]=ύ):=κ (λJ i hi h=>by
    by_cases e:i<j
    ·exact ac.o i hi e
    ·obtain rfl:i=j:=by omega
     rw[ad.o];exact J)
   generalize s.origins[j]=o at *;obtain⟨I,o2⟩:=o;simp only at U c1;have aG:=κ (an.o (I,o2) rfl);obtain⟨W1,N⟩:=ν (wr.alloc (.cells #[ι I,ι o2] 58));have M:Hid (ql w W1):=κ (by rw[<-N];exact(ao.o.trans H.o).al _);have ap:Hid (ql w1 W1):=κ (by rw[<-N];exact H.o.al _);have aD:Hid (W1.heap[wr.heap.size]? =ϊ (.cells #[ι I,ι o2] 58 (0,0))):=κ (by rw[<-N];exact qj wr _);have ae:=λ(x:qt W1)=>qq x.h aD.o
   have aV:=λx=>β0 (ae x);have aW:=λx=>β1 (ae x);clear ae
   have af:=λ(x:qt W1)=>qq (M.o.trans x.h) O.o.blk
   have aR:=λx=>β13 (af x);have aS:=λx=>β9 (af x);clear af
   have aU:=λ(x:qt W1)=>β0 (qq (M.o.trans x.h) Y.blk)
   have aT: ∀x:qt W1,(Instr.lookup 91 (.map (ϊ k.MS)) (θ #[ι I,ι o2]) ύ).run prog x.w'= .ok (γ p) x.w':=λx=>by
    have:=ya ((O.o.all .sts).2.more (M.o.trans x.h)) (I,o2) ύ;rw[az] at this;exact this
   have ak: ∀x:qt W1,Calls prog 119 #[γ aq,ι s.clock] x.w' λe w'=>e= .returned (μ (xa t.buf s.clock))/\ql x.w' w':=λx=>Z7 t.buf Y.ok aq v s.clock aF.o x.w' (Y.buf.on (M.o.trans x.h))
   generalize xa t.buf s.clock=rd at *;have aE:=κ ak;clear ak Y az ag am ad an
   go_upto_region 4 with fail
   (try rw[N])
   clear N U c1;refine qD _ (ql.refl _) ξ ξ ?_
   repeat (go_big_quiet_step ((go_at_call 119;exact j6 (aE.o _))))
   refine wpQuiet_nil ?_;intro _ aQ;obtain⟨aj,rfl⟩:=aQ;cases rd with
   | true=>
    have au:=aG.o rfl;have aY:w.heap.size≠wr.heap.size:=by have:=H.o.size;have:=qn aa.o;omega
    have d:=κ (qq (ap.o.trans aj.h) aa.o);have aK:=yw d.o 0;have aL:=yw d.o 1;have aM:=β0 d.o;have aN:=β1 d.o;have ab:=κ au;clear au;go_wp2
    (refine bodyPost_ret (v:= .tuple #[θ #[ι I,ι o2],ό]) (yo results73 _ _ (w.heap.size) 58 #[ι I,ι o2] _ _ rfl rfl (qB (qp (qp d.o 0 _) 1 _) rfl) underlying58 rfl ξ) rfl ?_)
    refine⟨?_,(M.o.trans aj.h).st (ϔ _) _ |>.st (ϔ _) _⟩;unfold RmS.readyO;rw[ab.o];rfl
   | false=>
    have aI:=κ (aJ.o rfl);go_wp2;go_roundw
    case rel=>exact⟨j+1,τ,by go_num,aI.o,ap.o.trans aj.h⟩
    case measure=>simp[intOf];omega
  ·obtain rfl:j=s.origins.length:=by omega
   have aO: ¬(s.origins.length:Int)<(s.origins.length:Int):=by omega
   have ay:s.ready=ϋ:=PJ s.readyAt s.origins (λi hi=>ac.o i hi hi);have ab:=κ ay;have d:=κ (qq H.o aa.o);have aK:=yw d.o 0;have aL:=yw d.o 1;have aM:=β0 d.o;have aN:=β1 d.o;clear ay;go_wp2
   (refine bodyPost_ret (v:= .tuple #[θ #[ι 0,ι 0],ύ]) (yo results73 _ _ (w.heap.size) 58 #[ι 0,ι 0] _ _ rfl rfl (qB (qp (qp d.o 0 _) 1 _) rfl) underlying58 rfl ξ) rfl ?_)
   refine⟨?_,(ao.o.trans H.o).st (ϔ _) _ |>.st (ϔ _) _⟩;unfold RmS.readyO;rw[ab.o];rfl
structure zc (s:RmS):Prop where
 keys: ∀x,(qh s.tab.u x).isSome=ό->0<=x/\x<6
 lane: ∀x,(qh s.tab.u x).isSome=(qh s.lanes x).isSome
 few:s.tab.u.length<=1000000
def Hk {T a c:Nat} {t:TS} (h:jq w T a b c t) (v0:Int) (J: ∀x,(qh t.u x).isSome=ό->0<=x/\x<6) (M:t.u.length<=1000000):
  Calls prog 142 #[γ T,ι v0] w λe w'=>(∃v,e= .returned v/\SlI .i64 w' v (prR (j8 v0) t.u)/\ ∀q,v.ownBlock=ϊ q->w.heap.size<=q)/\ql w w':=by
 rw[<-Vl h.mu.keys J]
 go_enter func142,ntmps142
 go_wp2_with (go_at_call 203;(go_call Dm (h.more (ql.alloc w (.cells #[ι v0] 3))) v0 (qj w _) M as e w2 ⟨⟨v,rfl,s,d⟩,m⟩;have S:=κ s;have I:=κ m;have H:=κ d;clear s m d))
 go_ret;exact⟨⟨_,rfl,S.o,λq d=>Ϙ X8.size (H.o q d)⟩,X8.trans I.o⟩
def FO {T a c:Nat} {t:TS} (h:jq w T a b c t) (v0:Int) (J: ∀x,(qh t.u x).isSome=ό->0<=x/\x<6) (M:t.u.length<=1000000):
  Calls prog 190 #[γ T,ω v0] w λe w'=>(∃v,e= .returned v/\SlI .i64 w' v (prR (zV v0) t.u)/\ ∀q,v.ownBlock=ϊ q->w.heap.size<=q)/\ql w w':=by
 rw[<-Vl h.mu.keys J]
 go_enter func190,ntmps190
 go_wp2_with (go_at_call 203;(go_call Ku (h.more (ql.alloc w (.cells #[ω v0] 38))) v0 (qj w _) M as e w2 ⟨⟨v,rfl,s,d⟩,m⟩;have S:=κ s;have I:=κ m;have H:=κ d;clear s m d))
 go_ret;exact⟨⟨_,rfl,S.o,λq d=>Ϙ X8.size (H.o q d)⟩,X8.trans I.o⟩
def Vq (M:zc s) {I:Sb->Bool} (h:x∈prR I s.tab.u): ∃d l,qh s.tab.u x=ϊ d/\qh s.lanes x=ϊ l:=by
 obtain⟨_,d,H,_⟩:=(WL I s.tab.u x).1 h;have:=M.lane x;rw[H] at this;obtain⟨l,J⟩:=ϥ.1 this.symm;exact⟨d,l,H,J⟩
def kH (s:RmS) (n:Int) (x:Int):Bool:=match qh s.lanes x with
 | some l=>wO l n
 | none=>ύ
def Ax (s:RmS) (o:Og) (d:qh s.strs o=ϊ t):s.wants o=(t.askedOf||(prR (j8 o.1) s.tab.u).any (kH s o.2)):=by
 unfold RmS.wants;rw[d];rfl
def FA (h:RmX T w0 w k vp vr s F) (bg:zc s) (aa o2:Int) (an:qh s.strs (aa,o2)=ϊ t):
  Calls prog 85 #[γ k.R,θ #[ι aa,ι o2]] w λe w'=>e= .returned (μ (s.wants (aa,o2)))/\ql w w':=by
 have ag:=κ h;obtain⟨p,bG,v,bd,ad⟩:=h.strAt an;rw[Ax s (aa,o2) an];have aw:=κ bg;obtain⟨W1,aq⟩:=ν (w.alloc (.cells #[ι aa,ι o2] 58));have ac:Hid (ql w W1):=κ (by rw[<-aq];exact ql.alloc _ _);have ar:Hid (W1.heap[w.heap.size]? =ϊ (.cells #[ι aa,ι o2] 58 (0,0))):=κ (by rw[<-aq];exact qj w _);have ay:=λ(x:qt W1)=>qq x.h ar.o
 have aV:=λx=>β0 (ay x);have bp:=λx=>β1 (ay x);clear ay
 have az:=λ(x:qt W1)=>qq (ac.o.trans x.h) ag.o.blk
 have bn:=λx=>β13 (az x);have aT:=λx=>β11 (az x);clear az
 have aU:=λ(x:qt W1)=>β7 (qq (ac.o.trans x.h) ad.blk)
 have bo: ∀x:qt W1,(Instr.lookup 91 (.map (ϊ k.MS)) (θ #[ι aa,ι o2]) ύ).run prog x.w'= .ok (γ p) x.w':=λx=>by
  have:=ya (ag.o.stm.more (ac.o.trans x.h)) (aa,o2) ύ;rw[bd] at this;exact this
 clear bd ad an h bg;obtain⟨bv,aY⟩:=ν (t.askedOf);rw[aY] at aU ⊢;clear aY
 go_enter func85,ntmps85
 go_upto_region 1 with fail
 (try rw[aq])
 clear aq;refine qD _ (ql.refl _) ξ ξ ?_
 repeat (go_big_quiet_step (fail))
 refine wpQuiet_nil ?_;intro _ bB;obtain⟨aS,rfl⟩:=bB;cases bv with
 | true=>
  go_wp2;go_ret;exact⟨rfl,ac.o.trans aS.h⟩
 | false=>
  go_upto_region 3 with fail
  obtain⟨W2,aF⟩:=ν (aS.w');have ah:Hid (ql W1 W2):=κ (by rw[<-aF];exact aS.h)
  (try rw[aF])
  clear aF aU bo bn;have bq: ∀x:qt W2,x.w'.cell? ⟨w.heap.size,0,ϋ⟩=ϊ (ι aa):=λx=>aV ⟨_,ah.o.trans x.h⟩
  have br: ∀x:qt W2,x.w'.cell? ⟨k.R,11,ϋ⟩=ϊ (π (ϊ ⟨k.tb,0,ϋ⟩)):=λx=>aT ⟨_,ah.o.trans x.h⟩
  clear aV bp aT;refine zC W2 9 [(0,ύ),(1,ύ),(2,ύ),(3,ύ),(4,ύ),(5,ύ),(8,ύ),(6,ό),(7,ύ)] ξ ξ ?_
  refine Qq7 ?_
  (refine Ql ?_;intro K aE)
  go_call Hk (ag.o.tab.more ((ac.o.trans ah.o).dr 1)) aa aw.o.keys aw.o.few as e bm ⟨⟨v3,rfl,bF,bC⟩,bk⟩;have ak:Hid (ql W2 bm):=κ ((ql.drewN _ 1).trans bk);obtain⟨bK,cap,rfl,bA,bf,_⟩:=bF;have aX:=κ bf;clear bk bC bf;refine⟨_,rfl,qk ak.o,aE _ _ ?_⟩;clear aE K
  iterate 1 (refine qE rfl rfl (qk ak.o) ?_;intro K aE;go_big_quiet_op;go_big_quiet_on)
  refine qA ?_;clear bq br;have bu:=κ (ac.o.trans (ah.o.trans ak.o));have ao:=κ (qq (ah.o.trans ak.o) ar.o);clear ac ah ak ar;obtain⟨L,am⟩:=ν (prR (j8 aa) s.tab.u);have bt:Hid (∀x∈L,∃l,qh s.lanes x=ϊ l):=κ (λx ad=>by rw[<-am] at ad;obtain⟨_,l,_,h⟩:=Vq aw.o ad;exact⟨l,h⟩);have aW:=κ am;rw[am] at aX bA;simp only[am];clear am;go_wp2
  go_loopw [27] (λaQ wr=> ∃j:Nat,j<=L.length/\aQ= ι j/\(∀i (hi:i<L.length),i<j->kH s o2 L[i]=ύ)/\ql bm wr) (λaQ _=>L.length-(intOf aQ).toNat)
  case atStart=>exact⟨0,τ,rfl,λi hi h=>by omega,ql.refl _⟩
  case round=>
   obtain⟨j,bI,rfl,bc,aM⟩:=hrel;have av:=κ bc;have U:=κ (bu.o.trans aM);have ab:=κ aM;clear bc aM;by_cases hlt:j<L.length
   ·have bz:(j:Int)<(L.length:Int):=by omega
    obtain⟨b,bD,rfl,bw,aG⟩:=aX.o j hlt;have aG:wr.cell? ⟨b,bD+j,ϋ⟩=ϊ (ι (L.getD j 0)):=by rw[ab.o.cells _ _ bw];exact aG
    have ba:L.getD j 0=L[j]:=by simp[hlt]
    obtain⟨l,aH⟩:=bt.o L[j] (ϡ hlt);have aP:kH s o2 L[j]=wO l o2:=by unfold kH;rw[aH]
    have ae:Hid (wO l o2=ύ-> ∀i (hi:i<L.length),i<j+1->kH s o2 L[i]=ύ):=κ (λbx i hi h=>by
     by_cases e:i<j
     ·exact av.o i hi e
     ·obtain rfl:i=j:=by omega
      rw[aP];exact bx)
    have ax:Hid (wO l o2=ό->L.any (kH s o2)=ό):=κ (λan=>Q4.2 ⟨L[j],ϡ hlt,by rw[aP];exact an⟩);obtain⟨p2,be,bb⟩:=ag.o.laneAt aH;have au:=κ bb;rw[ba] at aG;have q:=xq (ag.o.lnm.more U.o) L[j] ύ;rw[be] at q;generalize L[j]=x at *;have bH:=β12 (qq U.o ag.o.blk);clear ba aP aH bb be av;obtain⟨bj,aL⟩:=ν (l.wanted);obtain⟨bi,aJ⟩:=ν (l.gone);obtain⟨I,aI⟩:=ν (l.cur);obtain⟨d,aK⟩:=ν (l.tgt);have bh:wO l o2=(bj&&(!bi&&(!decide (I=d)&&decide (d=o2)))):=by unfold wO;rw[aL,aJ,aI,aK]
    have af:=κ (λw m=>Xb (au.o.on (w':=w) m));have aj:=κ (λw m=>JB (au.o.on (w':=w) m));rw[aL,aI,aK] at af;rw[aJ] at aj;rw[bh] at ae ax;clear aL aJ aI aK bh au;have aZ:((Gh (ϊ p2)):Value)= γ p2:=rfl;simp only[aZ,Ϭ,C2] at q;clear aZ;cases bj with
    | false=>
     go_wp2_with (go_at_call 67;(go_call af.o _ U.o as e w5 ⟨rfl,O⟩;have J:=κ O;clear O))
     go_roundw
     case rel=>exact⟨j+1,τ,by go_num,ae.o rfl,(ab.o.trans J.o).al _⟩
     case measure=>simp[intOf];omega
    | true=>
     cases bi with
     | true=>
      go_wp2_with (first | (go_at_call 67;(go_call af.o _ U.o as e w5 ⟨rfl,O⟩;have J:=κ O;clear O)) | (go_at_call 69;(go_call aj.o _ ((U.o.trans J.o).al (.cells #[ι I,ι d] 103)) as e w6 ⟨rfl,N⟩;have Y:=κ N;have M:=κ (qq N (qj w5 (.cells #[ι I,ι d] 103)));have aB:=β0 M.o;have aC:=β1 M.o;clear N)) | (go_at_call 38;(go_call vK I d w6 as e aR ⟨rfl,H⟩;rw[ap.o];have ai:=κ H;have aD:=β1 (qq H M.o);have aA:=β1 (qq (ab.o.trans (((J.o.al (.cells #[ι I,ι d] 103)).trans Y.o).trans H)) ao.o);clear H)))
      go_roundw
      case rel=>exact⟨j+1,τ,by go_num,ae.o rfl,((ab.o.trans J.o).al _).trans Y.o⟩
      case measure=>simp[intOf];omega
     | false=>
      obtain⟨bE,aN⟩:=ν ((!decide (I=d)));obtain⟨bl,aO⟩:=ν (decide (d=o2));have bJ:(d==o2)=bl:=by rw[<-aO];rfl
      rw[aN,aO] at ae ax;have ap:=κ aN;clear aN aO;cases bE with
      | false=>
       go_wp2_with (first | (go_at_call 67;(go_call af.o _ U.o as e w5 ⟨rfl,O⟩;have J:=κ O;clear O)) | (go_at_call 69;(go_call aj.o _ ((U.o.trans J.o).al (.cells #[ι I,ι d] 103)) as e w6 ⟨rfl,N⟩;have Y:=κ N;have M:=κ (qq N (qj w5 (.cells #[ι I,ι d] 103)));have aB:=β0 M.o;have aC:=β1 M.o;clear N)) | (go_at_call 38;(go_call vK I d w6 as e aR ⟨rfl,H⟩;rw[ap.o];have ai:=κ H;have aD:=β1 (qq H M.o);have aA:=β1 (qq (ab.o.trans (((J.o.al (.cells #[ι I,ι d] 103)).trans Y.o).trans H)) ao.o);clear H)))
       go_roundw
       case rel=>exact⟨j+1,τ,by go_num,ae.o rfl,(((ab.o.trans J.o).al _).trans Y.o).trans ai.o⟩
       case measure=>simp[intOf];omega
      | true=>
       cases bl with
       | false=>
        go_wp2_with (first | (go_at_call 67;(go_call af.o _ U.o as e w5 ⟨rfl,O⟩;have J:=κ O;clear O)) | (go_at_call 69;(go_call aj.o _ ((U.o.trans J.o).al (.cells #[ι I,ι d] 103)) as e w6 ⟨rfl,N⟩;have Y:=κ N;have M:=κ (qq N (qj w5 (.cells #[ι I,ι d] 103)));have aB:=β0 M.o;have aC:=β1 M.o;clear N)) | (go_at_call 38;(go_call vK I d w6 as e aR ⟨rfl,H⟩;rw[ap.o];have ai:=κ H;have aD:=β1 (qq H M.o);have aA:=β1 (qq (ab.o.trans (((J.o.al (.cells #[ι I,ι d] 103)).trans Y.o).trans H)) ao.o);clear H)))
        go_roundw
        case rel=>exact⟨j+1,τ,by go_num,ae.o rfl,(((ab.o.trans J.o).al _).trans Y.o).trans ai.o⟩
        case measure=>simp[intOf];omega
       | true=>
        go_wp2_with (first | (go_at_call 67;(go_call af.o _ U.o as e w5 ⟨rfl,O⟩;have J:=κ O;clear O)) | (go_at_call 69;(go_call aj.o _ ((U.o.trans J.o).al (.cells #[ι I,ι d] 103)) as e w6 ⟨rfl,N⟩;have Y:=κ N;have M:=κ (qq N (qj w5 (.cells #[ι I,ι d] 103)));have aB:=β0 M.o;have aC:=β1 M.o;clear N)) | (go_at_call 38;(go_call vK I d w6 as e aR ⟨rfl,H⟩;rw[ap.o];have ai:=κ H;have aD:=β1 (qq H M.o);have aA:=β1 (qq (ab.o.trans (((J.o.al (.cells #[ι I,ι d] 103)).trans Y.o).trans H)) ao.o);clear H)))
        go_ret;exact⟨by rw[aW.o,ax.o rfl];rfl,(((U.o.trans J.o).al _).trans Y.o).trans ai.o⟩
   ·obtain rfl:j=L.length:=by omega
    have bz: ¬(L.length:Int)<(L.length:Int):=by omega
    have bs:Hid (L.any (kH s o2)=ύ):=κ (by
     rw[M0];intro x ad;obtain⟨i,hi,rfl⟩:=A0.1 ad;rw[av.o i hi hi]
     decide)
    go_wp2;go_ret;exact⟨by rw[aW.o,bs.o];rfl,U.o⟩
def RmX.at (h:RmX T w0 w k vp vr s F):qI w0 w k s F:=⟨T,vp,vr,h⟩
def RmX.self (h:RmX T w0 w k vp vr s F) (a:jt (λb=>b=k.R) w w') {s':RmS} (H:w'.heap[k.R]? =ϊ (.cells (zH k vp vr s') 95 (0,0)))
  (rest: ∀u,u≠ .room->u≠ .no->k.Holds (jZ T .room w w') w' vp vr s u->k.Holds (jZ T .room w w') w' vp vr s' u):qI w0 w' k s' F/\qw F w w':=by
 obtain⟨d,_⟩:=h.all .room;have J:=h.fresh;obtain⟨x,y⟩:=h.own (t:= .room) (k':=k) (vp':=vp) (vr':=vr) (s':=s') ⟨η,η⟩ (a.mono λb I=>by rw[I];exact d) ⟨(jd J η _).2 (ϑ d),H⟩ rest;exact⟨x.at,y⟩
def RmX.book (h:RmX T w0 w k vp vr s F) (b:jy w' k.B k.b m) (a:jt (λx=>x=k.b) w w'):qI w0 w' k {s with book:=m} F/\qw F w w':=by
 obtain⟨I,d,_⟩:=h.all .book;have H:=h.fresh;obtain⟨x,y⟩:=h.own (t:= .book) (k':=k) (vp':=vp) (vr':=vr) (s':={s with book:=m}) ⟨η,η⟩ (a.mono λb J=>by rw[J];exact d) ⟨(jd H η _).2 (ϑ I),(jd H η _).2 (ϑ d),b⟩ (λu M N x=>by cases u<;>first | exact x | exact ϩ rfl M);exact⟨x.at,y⟩
def RmX.table (h:RmX T w0 w k vp vr s F) {t:TS} (b:jq w' k.tb k.ta k.tc k.td t) (a:jt (λx=>x=k.ta∨x=k.tc∨x=k.td) w w'):qI w0 w' k {s with tab:=t} F/\qw F w w':=by
 obtain⟨H,I,J,M,_⟩:=h.all .table;have d:=h.fresh;obtain⟨x,y⟩:=h.own (t:= .table) (k':=k) (vp':=vp) (vr':=vr) (s':={s with tab:=t}) ⟨η,η⟩ (a.mono λb N=>by rcases N with rfl | rfl | rfl<;>assumption)
  ⟨(jd d η _).2 (ϑ H),(jd d η _).2 (ϑ I),(jd d η _).2 (ϑ J),(jd d η _).2 (ϑ M),b⟩ (λu O U x=>by cases u<;>first | exact x | exact ϩ rfl O)
 exact⟨x.at,y⟩
def RmX.retMap (h:RmX T w0 w k vp vr s F) {m:List (Og×Bool)} (b:jk w' k.M1 kO μ m) (a:jt (λx=>x=k.M1) w w'):qI w0 w' k {s with ret:=m} F/\qw F w w':=by
 obtain⟨d,_⟩:=h.all .ret;have I:=h.fresh;obtain⟨x,y⟩:=h.own (t:= .ret) (k':=k) (vp':=vp) (vr':=vr) (s':={s with ret:=m}) ⟨η,η⟩ (a.mono λb H=>by rw[H];exact d) ⟨(jd I η _).2 (ϑ d),b⟩ (λu J M x=>by cases u<;>first | exact x | exact ϩ rfl J);exact⟨x.at,y⟩
def RmX.ring (h:RmX T w0 w k vp vr s F) {q:List (List Int)} (a:jt (RgB k.RQ k.AQ) w w') (b: ∀D:Nat->Prop,(∀b,D b->T b≠ .data∨w.heap.size<=b)->RgR 1 229 35 RBy D w' k.RQ k.AQ s.cfg.room.toNat q):qI w0 w' k {s with queue:=q} F/\qw F w w':=by
 obtain⟨I,J,_⟩:=h.all .queue;have H:=h.fresh;obtain⟨x,y⟩:=h.own (t:= .queue) (k':=k) (vp':=vp) (vr':=vr) (s':={s with queue:=q}) ⟨η,η⟩ (a.mono λb d=>by rcases d with rfl | rfl<;>assumption)
  ⟨(jd H η _).2 (ϑ I),(jd H η _).2 (ϑ J),b _ (λb d=>ϑ (λe=>d ((jF H η η b).2 e)))⟩ (λu M N x=>by cases u<;>first | exact x | exact ϩ rfl M)
 exact⟨x.at,y⟩
def RmX.lanePut (h:RmX T w0 w k vp vr s F) {l l':LnS} (U:qh s.lanes x=ϊ l) (J:qh k.LA x=ϊ p) (b:zw (xf (λb=>T b= .lane x) w w') w' p l') (a:jt (λb=>T b= .lane x) w w'):
  qI w0 w' k {s with lanes:=qx s.lanes x l'} F/\qw F w w':=by
 have M:=h.fresh;obtain⟨y,z⟩:=h.own (t:= .lane x) (k':=k) (vp':=vp) (vr':=vr) (s':={s with lanes:=qx s.lanes x l'}) ⟨η,η⟩ a
  ⟨λab aa H d=>by
   rw[J] at H;rw[xD] at d;injection H with H
   injection d with d
   subst H d;rw[wW M η]
   exact b,by rw[J,xD];rfl⟩
  (λu N Y y=>by
   cases u<;>first | exact y | skip
   rename_i O;have I:O≠x:=λe=>N (by rw[e])
   exact⟨λp l H d=>y.1 p l H (by rw[vF _ _ I] at d;exact d),by rw[vF _ _ I];exact y.2⟩)
 exact⟨y.at,z⟩
def RmX.strPut (h:RmX T w0 w k vp vr s F) {t':zu} (Y:qh s.strs o=ϊ t) (J:qh k.SA o=ϊ p) (b:Hl (xf (λb=>T b= .str o) w w') w' p t') (a:jt (λb=>T b= .str o) w w'):
  qI w0 w' k {s with strs:=qx s.strs o t'} F/\qw F w w':=by
 have M:=h.fresh;obtain⟨y,z⟩:=h.own (t:= .str o) (k':=k) (vp':=vp) (vr':=vr) (s':={s with strs:=qx s.strs o t'}) ⟨η,η⟩ a
  ⟨λab aa H d=>by
   rw[J] at H;rw[xD] at d;injection H with H
   injection d with d
   subst H d;rw[wW M η]
   exact b,by rw[J,xD];rfl⟩
  (λu N U y=>by
   cases u<;>first | exact y | skip
   rename_i O;have I:O≠o:=λe=>N (by rw[e])
   exact⟨λp l H d=>y.1 p l H (by rw[vF _ _ I] at d;exact d),by rw[vF _ _ I];exact y.2⟩)
 exact⟨y.at,z⟩
def RmX.strSet (h:RmX T w0 w k vp vr s F) {t':zu} {I:Nat} (M:qh s.strs o=ϊ t) (J:qh k.SA o=ϊ p) (x:KJ (λb=>T b= .str o) w p I v t) (a:jt (λb=>b=p) w w')
  (blk:w'.heap[p]? =ϊ (.cells (gK I t') 176 (0,0))) (e:t'.buf=t.buf):qI w0 w' k {s with strs:=qx s.strs o t'} F/\qw F w w':=by
 refine h.strPut M J ⟨I,v,blk, ?_,by rw[e];exact x.ok,λb d=> ?_,ϑ x.np,ϑ x.nb,x.ne,λg H=>⟨ϑ (x.nv g H).1,(x.nv g H).2⟩⟩ (a.mono λb d=>by rw[d];exact x.np)
 ·rw[e];exact⟨a.blk x.buf.blk (C4 x.ne),x.buf.row.away a (λg H=>(x.nv g H).2)⟩
 ·rcases d with d | d
  ·exact ϗ (x.sub b d) a.size
  ·exact d.2
def RmX.strBuf (h:RmX T w0 w k vp vr s F) {b:Jb} {I:Nat} {v':Value} (U:qh s.strs o=ϊ t) (N:qh k.SA o=ϊ p) (x:KJ (λb=>T b= .str o) w p I v t) (st:NQ w w' I v v' b) (Y:JOK b):
  qI w0 w' k {s with strs:=qx s.strs o {t with buf:=b}} F/\qw F w w':=by
 have a:jt (λb=>T b= .str o) w w':=st.away.mono λg d=>by
  rcases d with rfl | d
  ·exact x.nb
  ·exact(x.nv g d).1
 have O: ¬(p=I∨v.ownBlock=ϊ p):=by
  rintro(e | e)
  ·exact x.ne e
  ·exact(x.nv p e).2 rfl
 refine h.strPut U N ⟨I,v',st.away.blk x.blk O,st.buf,Y,λb H=> ?_,ϑ x.np,ϑ x.nb,x.ne,λg d=> ?_⟩ a
 ·rcases H with H | H
  ·exact ϗ (x.sub b H) a.size
  ·exact H.2
 ·have M:g<w'.heap.size:=by
   rcases st.buf.row.2 with ⟨e,_⟩ | ⟨ab,cap,cur,e,_,J,_⟩
   ·rw[e] at d;cases d
   ·rw[e] at d;injection d with d
    have:=lt_of_block J;simp only at d;omega
  rcases st.own with e | ⟨g',e,hge⟩
  ·rw[e] at d;exact⟨ϑ (x.nv g d).1,(x.nv g d).2⟩
  ·rw[e] at d;injection d with d
   subst d;exact⟨ϕ ⟨hge,M⟩,λaa=>by have:=lt_of_block x.blk;omega⟩
def FG (h:qI w0 w k s F) (N sub:Int) (acc:Bool) {l:LnS} (aj:qh s.lanes sub=ϊ l):
  Calls prog 81 #[γ k.R,θ #[ι N,ι sub],acc] w λe w'=>e= .returned (.tuple #[])/\qI w0 w' k (s.choose sub) F/\qw F w w':=by
 have ad:=κ (h.stay (ql.alloc w (.cells #[ι N,ι sub] 37)));have aq:=h.adds (ql.alloc w (.cells #[ι N,ι sub] 37)) (Fn:=[w.heap.size]) (λb d=>by simp at d;subst d;simp);have ab:=κ (qj w (.cells #[ι N,ι sub] 37));obtain⟨W1,ai⟩:=ν (w.alloc (.cells #[ι N,ι sub] 37));rw[ai] at aq ab ad;obtain⟨T,vp,aR,I⟩:=aq;have U:=κ I;obtain⟨p,av,au⟩:=I.laneAt aj;have aE:=κ au;have an:=κ av;have ac:=κ aj;have aJ: ¬T k.R= .lane sub:=by rw[(I.all .room).1];simp
 have aI: ¬T k.ML= .lane sub:=by rw[(I.all .lns).1];simp
 have aH: ¬T w.heap.size= .lane sub:=by rw[(I.law w.heap.size η).1];simp
 have az:=λ(x:qz (λb=>T b= .lane sub) W1)=>β12 (x.h.blk U.o.blk aJ)
 have aB:=λ(x:qz (λb=>T b= .lane sub) W1)=>β1 (x.h.blk ab.o aH)
 have aA: ∀x:qz (λb=>T b= .lane sub) W1,(Instr.lookup 90 (.map (ϊ k.ML)) (ι sub) ύ).run prog x.w'= .ok (γ p) x.w':=λx=>by
  have:=xq (U.o.lnm.away x.h aI) sub ύ;rw[an.o] at this;exact this
 have am:=κ (λw (m:ql W1 w)=>Df (aE.o.on m));obtain⟨ax,id,M,ok,ah⟩: ∃ax id M ok,jf l=(ax,id,M,ok):=⟨_,_,_,_,rfl⟩;rw[ah] at am;have ao:=κ ah;clear h I aj av au ah
 go_enter func81,ntmps81
 go_upto_region 1 with fail
 (try rw[ai])
 clear ai;refine QN (λb=>T b= .lane sub) W1 15 15 [7] ?_
 refine Qs7 ?_
 (refine Ql ?_;intro K H)
 go_call am.o _ (ql.drewN _ 1) as e w2 ⟨rfl,aw,af⟩;obtain⟨ag,t2⟩:=(U.o.on (ql.drewN W1 1)).lanePut ac.o an.o aw af;have al:=κ ag;have ae:Hid (qw ([w.heap.size]++F) W1 w2):=κ ((ag |> λ_=>(U.o.at.stay (ql.drewN W1 1))).trans t2);have ak:Hid (jt (λb=>T b= .lane sub) W1 w2):=κ (((jt.refl _ _).drewN 1).trans af);clear aw af ag t2;refine⟨_,rfl,qi ak.o,H _ _ ?_⟩;clear H K
 iterate 7 (refine qE rfl rfl (qi ak.o) ?_;intro K H;go_big_quiet_op;go_big_quiet_on)
 refine qA ?_;clear az aB aA;have aD:=κ (ae.o.blk η ab.o);obtain⟨c,aa⟩:=ν ((ok&& !decide (M=0)));have O:=κ aa
 go_upto_region 2 with fail
 go_cut [25] from 21 (λv aM=>v= μ c/\aM=w2)
 case first=>
  cases ok with
  | false=>
   clear aa;go_wp2;go_meet;exact⟨by rw[<-O.o];rfl,rfl⟩
  | true=>
   clear aa;go_wp2;go_meet;exact⟨by rw[<-O.o];by_cases e:M=0<;>simp[e],rfl⟩
 case rest=>
 obtain⟨rfl,aG⟩:=hcut;obtain rfl:=aG.symm;clear aa;cases c with
 | false=>
  go_wp2
  (refine bodyPost_end (v:= .tuple #[]) ?re1 rfl ?_;(case re1=>simp[results,results81,go_sem]))
  exact⟨rfl,by unfold RmS.choose;rw[ac.o];simp only[ao.o];rw[O.o];exact al.o.sub (λb d=>ϓ _ d),ad.o.trans (ae.o.sub (λb d=>ϓ _ d))⟩
 | true=>
  obtain⟨aP,aQ,aS,J⟩:=al.o;have Y:=κ J;have aK:k.R≠k.b:=λe=>by
   obtain⟨_,d,_⟩:=J.all .book;rw[<-e,(J.all .room).1] at d;cases d
  have aL:w.heap.size≠k.b:=λe=>by
   obtain⟨_,d,_⟩:=J.all .book;rw[<-e,(J.law w.heap.size η).1] at d;cases d
  have aN:=λ(x:qz (λb=>b=k.b) w2)=>β0 (x.h.blk Y.o.blk aK)
  have aO:=λ(x:qz (λb=>b=k.b) w2)=>β1 (x.h.blk aD.o aL)
  clear J
  go_upto_region 3 with fail
  refine QN (λb=>b=k.b) w2 9 9 [8] ?_
  refine Qs8 ?_
  (refine Ql ?_;intro K H)
  go_call gI (Y.o.on (ql.drewN w2 1)).bok sub id M as e w4 ⟨rfl,ap,a4⟩;obtain⟨ar,t4⟩:=(Y.o.on (ql.drewN w2 1)).book ap a4;have aC:=κ ar;have aF:Hid (qw ([w.heap.size]++F) w2 w4):=κ ((Y.o.at.stay (ql.drewN w2 1)).trans t4);have ay:Hid (jt (λb=>b=k.b) w2 w4):=κ (((jt.refl _ _).drewN 1).trans a4);clear ap a4 ar t4;refine⟨_,rfl,qi ay.o,H _ _ ?_⟩;clear H K;refine qA ?_;go_wp2
  (refine bodyPost_end (v:= .tuple #[]) ?re2 rfl ?_;(case re2=>simp[results,results81,go_sem]))
  exact⟨rfl,by unfold RmS.choose;rw[ac.o];simp only[ao.o];rw[O.o];exact aC.o.sub (λb d=>ϓ _ d),ad.o.trans ((ae.o.trans aF.o).sub (λb d=>ϓ _ d))⟩
def CE (h:qI w0 w k s F) (M sub:Int) (acc:Bool) {l:LnS} (aj:qh s.lanes sub=ϊ l):
  Calls prog 82 #[γ k.R,θ #[ι M,ι sub],acc] w λe w'=>e= .returned (.tuple #[])/\qI w0 w' k (s.rewrite sub) F/\qw F w w':=by
 have ac:=κ (h.stay (ql.alloc w (.cells #[ι M,ι sub] 37)));have aq:=h.adds (ql.alloc w (.cells #[ι M,ι sub] 37)) (Fn:=[w.heap.size]) (λb d=>by simp at d;subst d;simp);have aa:=κ (qj w (.cells #[ι M,ι sub] 37));obtain⟨W1,ai⟩:=ν (w.alloc (.cells #[ι M,ι sub] 37));rw[ai] at aq aa ac;obtain⟨T,vp,aR,I⟩:=aq;have O:=κ I;obtain⟨p,av,au⟩:=I.laneAt aj;have aE:=κ au;have an:=κ av;have ab:=κ aj;have aJ: ¬T k.R= .lane sub:=by rw[(I.all .room).1];simp
 have aI: ¬T k.ML= .lane sub:=by rw[(I.all .lns).1];simp
 have aH: ¬T w.heap.size= .lane sub:=by rw[(I.law w.heap.size η).1];simp
 have az:=λ(x:qz (λb=>T b= .lane sub) W1)=>β12 (x.h.blk O.o.blk aJ)
 have aB:=λ(x:qz (λb=>T b= .lane sub) W1)=>β1 (x.h.blk aa.o aH)
 have aA: ∀x:qz (λb=>T b= .lane sub) W1,(Instr.lookup 90 (.map (ϊ k.ML)) (ι sub) ύ).run prog x.w'= .ok (γ p) x.w':=λx=>by
  have:=xq (O.o.lnm.away x.h aI) sub ύ;rw[an.o] at this;exact this
 have am:=κ (λw (m:ql W1 w)=>Uv (aE.o.on m));obtain⟨ax,id,af,ok,ah⟩: ∃ax id af ok,qY l=(ax,id,af,ok):=⟨_,_,_,_,rfl⟩;rw[ah] at am;have ao:=κ ah;clear h I aj av au ah
 go_enter func82,ntmps82
 go_upto_region 1 with fail
 (try rw[ai])
 clear ai;refine QN (λb=>T b= .lane sub) W1 15 15 [7] ?_
 refine Qs7 ?_
 (refine Ql ?_;intro K H)
 go_call am.o _ (ql.drewN _ 1) as e w2 ⟨rfl,aw,ae⟩;obtain⟨ag,t2⟩:=(O.o.on (ql.drewN W1 1)).lanePut ab.o an.o aw ae;have al:=κ ag;have ad:Hid (qw ([w.heap.size]++F) W1 w2):=κ ((ag |> λ_=>(O.o.at.stay (ql.drewN W1 1))).trans t2);have ak:Hid (jt (λb=>T b= .lane sub) W1 w2):=κ (((jt.refl _ _).drewN 1).trans ae);clear aw ae ag t2;refine⟨_,rfl,qi ak.o,H _ _ ?_⟩;clear H K
 iterate 7 (refine qE rfl rfl (qi ak.o) ?_;intro K H;go_big_quiet_op;go_big_quiet_on)
 refine qA ?_;clear az aB aA;have aD:=κ (ad.o.blk η aa.o);obtain⟨c,Y⟩:=ν ((ok&&af));have N:=κ Y
 go_upto_region 2 with fail
 go_cut [24] from 21 (λv aM=>v= μ c/\aM=w2)
 case first=>
  cases ok with
  | false=>
   clear Y;go_wp2;go_meet;exact⟨by rw[<-N.o];rfl,rfl⟩
  | true=>
   clear Y;go_wp2;go_meet;exact⟨by rw[<-N.o];rfl,rfl⟩
 case rest=>
 obtain⟨rfl,aG⟩:=hcut;obtain rfl:=aG.symm;clear Y;cases c with
 | false=>
  go_wp2
  (refine bodyPost_end (v:= .tuple #[]) ?re3 rfl ?_;(case re3=>simp[results,results82,go_sem]))
  exact⟨rfl,by unfold RmS.rewrite;rw[ab.o];simp only[ao.o];rw[N.o];exact al.o.sub (λb d=>ϓ _ d),ac.o.trans (ad.o.sub (λb d=>ϓ _ d))⟩
 | true=>
  obtain⟨aP,aQ,aS,J⟩:=al.o;have U:=κ J;have aK:k.R≠k.b:=λe=>by
   obtain⟨_,d,_⟩:=J.all .book;rw[<-e,(J.all .room).1] at d;cases d
  have aL:w.heap.size≠k.b:=λe=>by
   obtain⟨_,d,_⟩:=J.all .book;rw[<-e,(J.law w.heap.size η).1] at d;cases d
  have aN:=λ(x:qz (λb=>b=k.b) w2)=>β0 (x.h.blk U.o.blk aK)
  have aO:=λ(x:qz (λb=>b=k.b) w2)=>β1 (x.h.blk aD.o aL)
  clear J
  go_upto_region 3 with fail
  refine QN (λb=>b=k.b) w2 8 8 [7] ?_
  refine Qs7 ?_
  (refine Ql ?_;intro K H)
  go_call gI (U.o.on (ql.drewN w2 1)).bok sub id 6 as e w4 ⟨rfl,ap,a4⟩;obtain⟨ar,t4⟩:=(U.o.on (ql.drewN w2 1)).book ap a4;have aC:=κ ar;have aF:Hid (qw ([w.heap.size]++F) w2 w4):=κ ((U.o.at.stay (ql.drewN w2 1)).trans t4);have ay:Hid (jt (λb=>b=k.b) w2 w4):=κ (((jt.refl _ _).drewN 1).trans a4);clear ap a4 ar t4;refine⟨_,rfl,qi ay.o,H _ _ ?_⟩;clear H K;refine qA ?_;go_wp2
  (refine bodyPost_end (v:= .tuple #[]) ?re4 rfl ?_;(case re4=>simp[results,results82,go_sem]))
  exact⟨rfl,by unfold RmS.rewrite;rw[ab.o];simp only[ao.o];rw[N.o];exact aC.o.sub (λb d=>ϓ _ d),ac.o.trans ((ad.o.trans aF.o).sub (λb d=>ϓ _ d))⟩
end Go.Proofs.YtlmllmonabafjaaGreatDoor
