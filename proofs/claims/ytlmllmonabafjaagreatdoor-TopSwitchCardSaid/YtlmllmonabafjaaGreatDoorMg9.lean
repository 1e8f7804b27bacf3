/- x -/
import Derived.Shelf.Sort.Plain
import Derived.Shelf.Slices.In.SortNone
import Derived.Sort.OwnSortedInts
import Derived.Test.YtlmllmonabafjaaGreatDoorMg7
namespace Go.Proofs.YtlmllmonabafjaaGreatDoor
open Option renaming some->ϊ,none->ϋ
open Bool renaming true->ό,false->ύ
open Go.Value renaming bool->μ,slice->δ,pointer->π,agg->θ
open Go.IntKind renaming i64->ι,u8->υ,u16->φ,u32->ω,i32->χ,u64->ψ
open _root_.Go.Proofs.Tryz
set_option linter.all false
set_option maxHeartbeats 8000000
open Go.RowKit
set_option maxRecDepth 100000
open Go.Shelf
variable {w w' w0:World} {v vp vr:Value} {F:List Nat} {l:List Int} {b p base C B:Nat} {m:Bk} {x s0 s1 s2:Int} {o:Og} {xs:List Value} {S:Nat->Prop} {K V α:Type} {P:Prop}
def Un:Go.Shelf.Ren:=⟨fun | 189=>116 | 125=>169 | 257=>168 | 128=>229 | 129=>230 | 294=>220 | 295=>221 | 296=>222 | 297=>223 | 298=>224 | 299=>225 | 216=>226 | 300=>227 | 301=>228 | 328=>272 | 329=>273 | 330=>274 | 331=>275 | 332=>276 | 215=>277 | 343=>302 | n=>n,fun | 28=>107 | 3=>3 | 46=>335 | 0=>0 | 51=>38 | 53=>231 | 4=>4 | 183=>400 | 182=>399 | 131=>200 | 5=>5 | 9=>9 | 218=>443 | 222=>447 | 228=>469 | 229=>100 | n=>n,fun | n=>n⟩
def Ps:Go.Proofs.Lays.n189 prog Un:={
 mixed:=by kernel_rfl
 f125:=func169.trans (ϰ ϊ ξ)
 f128:=func229.trans (ϰ ϊ ξ)
 f129:=func230.trans (ϰ ϊ ξ)
 f189:=func116.trans (ϰ ϊ ξ)
 f215:=func277.trans (ϰ ϊ ξ)
 f216:=func226.trans (ϰ ϊ ξ)
 f257:=func168.trans (ϰ ϊ ξ)
 f294:=func220.trans (ϰ ϊ ξ)
 f295:=func221.trans (ϰ ϊ ξ)
 f296:=func222.trans (ϰ ϊ ξ)
 f297:=func223.trans (ϰ ϊ ξ)
 f298:=func224.trans (ϰ ϊ ξ)
 f299:=func225.trans (ϰ ϊ ξ)
 f300:=func227.trans (ϰ ϊ ξ)
 f301:=func228.trans (ϰ ϊ ξ)
 f328:=func272.trans (ϰ ϊ ξ)
 f329:=func273.trans (ϰ ϊ ξ)
 f330:=func274.trans (ϰ ϊ ξ)
 f331:=func275.trans (ϰ ϊ ξ)
 f332:=func276.trans (ϰ ϊ ξ)
 f343:=func302.trans (ϰ ϊ ξ)
 t0:=underlying0
 a0:=isAgg0
 z0:=sizeOf0
 v0:=zeroValue0
 t3:=underlying3
 a3:=isAgg3
 z3:=sizeOf3
 v3:=zeroValue3
 t4:=underlying4
 a4:=isAgg4
 z4:=sizeOf4
 v4:=zeroValue4
 t5:=underlying5
 a5:=isAgg5
 z5:=sizeOf5
 v5:=zeroValue5
 t9:=underlying9
 a9:=isAgg9
 z9:=sizeOf9
 v9:=zeroValue9
 t28:=underlying107
 a28:=isAgg107
 z28:=sizeOf107
 v28:=zeroValue107
 t46:=underlying335
 a46:=isAgg335
 z46:=sizeOf335
 v46:=zeroValue335
 t51:=underlying38
 a51:=isAgg38
 z51:=sizeOf38
 v51:=zeroValue38
 t53:=underlying231
 a53:=isAgg231
 z53:=sizeOf231
 v53:=zeroValue231
 t131:=underlying200
 a131:=isAgg200
 z131:=sizeOf200
 v131:=zeroValue200
 t182:=underlying399
 a182:=isAgg399
 z182:=sizeOf399
 v182:=zeroValue399
 t183:=underlying400
 a183:=isAgg400
 z183:=sizeOf400
 v183:=zeroValue400
 t218:=underlying443
 a218:=isAgg443
 z218:=sizeOf443
 v218:=zeroValue443
 t222:=underlying447
 a222:=isAgg447
 z222:=sizeOf447
 v222:=zeroValue447
 t228:=underlying469
 a228:=isAgg469
 z228:=sizeOf469
 v228:=zeroValue469
 t229:=underlying100
 a229:=isAgg100
 z229:=sizeOf100
 v229:=zeroValue100}
open Go.RowKit
def srt (l:List Int):List Int:=l.mergeSort λx y=>decide (x<=y)
def wK (l:List Int):(srt l).length=l.length:=by unfold srt;simp
def QD {a b:List Int} (h:a.Perm b):srt a=srt b:=by
 unfold srt;have I: ∀a b c:Int,decide (a<=b)=ό->decide (b<=c)=ό->decide (a<=c)=ό:=λa b c d G=>by simp at *;omega
 have H: ∀a b:Int,(decide (a<=b)||decide (b<=a))=ό:=λa b=>by simp;omega
 refine List.Perm.eq_of_pairwise (le:=λx y:Int=>decide (x<=y)=ό) ?_ (S1 I H a) (S1 I H b) (((P6 a _).trans h).trans (P6 b _).symm);intro x y _ _ d G;simp at d G;omega
def ZY (h:l.Pairwise (· <= ·)):srt l=l:=List.mergeSort_of_pairwise (by simpa using h)
def Hp:x∈srt l↔x∈l:=(P6 l _).mem_iff
def j8 {e size n:Nat} (h:w.ownsRow base e size v n xs) {q:Nat} (d:v.ownBlock=ϊ q):base<=q:=by
 rcases h.2 with ⟨rfl,_⟩ | ⟨b,cap,cur,rfl,G,_⟩
 ·cases d
 ·cases d;exact G
def Vk {e size n:Nat} (h:w.ownsRow base e size v n xs) (m:qk S w w') (H: ∀k,S k->k<base):w'.ownsRow base e size v n xs:=by
 obtain⟨d,G⟩:=h;refine⟨d, ?_⟩;rcases G with h | ⟨g,cap,cur,e1,hb,hg,rest⟩
 ·exact ϐ h
 ·exact ϓ ⟨g,cap,cur,e1,hb,m.blk hg (λx=>by have:=H g x;omega),rest⟩
def BD (h:w.ownsRow base 3 1 v l.length (l.map (Value.int .i64))) (O:l.length<4611686018427387904):
  Calls prog 116 #[v] w λe w'=>e= .returned (.tuple #[])/\w'.ownsRow base 3 1 v (srt l).length ((srt l).map (Value.int .i64))/\w.grownBy w' v.ownBlock:=by
 obtain⟨ac,h⟩:=h;rcases h with ⟨rfl,U⟩ | ⟨b,cap,cur,rfl,I,H,J,N,Y,aa⟩
 ·have e0:l=[]:=by simpa using U
  subst e0;refine(Any.slices_Sort_int_none Ps ϋ 0 w).mono λe w' ⟨d,G⟩=> ?_
  subst G;exact⟨d,⟨by simp[srt],ϐ ⟨rfl,by simp[srt]⟩⟩,⟨rfl,rfl,rfl,ϕ _,λ_ _ _=>rfl⟩⟩
 ·have ab:cur.toList.take l.length=l.map (Value.int .i64):=by simpa using aa
  refine(Any.slices_Sort_int Ps b 0 cap l w (holds_of_blockI H ab) (lt_of_block H) O).mono λe w' ⟨d,n,os,G⟩=> ?_
  subst G;refine⟨d, ?_,grownBy_sortedI _⟩;have:=ownsRow_sortedI (w:=w) (n:=n) (os:=os) (ss:=l) (ts:=srt l) (wK l) I H J N Y;rw[wK];exact this
def yL (sub:Int) (l:Bk):List Int:=l.filterMap λp=>if p.1.1=sub/\p.2=0 then ϊ p.1.2 else ϋ
def zw (m:Bk) (sub:Int):List Int:=srt (yL sub m)
def us (sub:Int) (l:Bk):(yL sub l).length<=l.length:=J3 _ _
def Kl (L:List (K×V)) (is:List Nat):(yu L is).length<=is.length:=J3 _ _
def Uj (sub:Int) (l:Bk) (p:(Int×Int)×Int):yL sub (l++[p])=yL sub l++(if p.1.1=sub/\p.2=0 then [p.1.2] else []):=by
 unfold yL;rw[K8];by_cases h:p.1.1=sub/\p.2=0<;>simp[h]
def Bg (h:jE w B b m) (sub:Int) (aB:m.length<=1000000):
  Calls prog 70 #[γ B,ι sub] w λe w'=>(∃v,e= .returned v/\SlI .i64 w' v (zw m sub)/\ ∀q,v.ownBlock=ϊ q->w.heap.size<=q)/\qh w w':=by
 obtain⟨aV,hi,aS,aT,aU⟩:=info_parts (P:=prog) (e:=3) (z:= ι 0) (size:=1) (bytes:=8) ξ;have aX:=β0 h.blk;have aW:=κ h;have aj:=κ aB;obtain⟨w1,bg,av,ar,aQ⟩:=h.map.range (P:=prog) underlying236;have aZ:=h.map.lt;have aI:=κ av;have aF:=κ ar;clear h aB av ar aQ
 go_enter func70,ntmps70
 go_wp2
 go_loopw [5] (λv5 wr=> ∃is:List Nat,xC wr w.heap.size b ke2 (Value.int .i64) m is/\wr.ownsRow (w.heap.size+1) 3 1 v5 (yL sub (yu m is)).length ((yL sub (yu m is)).map (Value.int .i64))/\qh w wr) (λ_ wr=>Qt wr b w.heap.size)
 case atStart=>exact⟨[],aI.o,World.ownsRow_nil _ _ _ _,aF.o⟩
 case round=>
  obtain⟨is,O,an,ak⟩:=hrel;have aq:=κ O;have ac:=κ an;have af:=κ ak;have ae:=κ O.left;rcases O.next (P:=prog) with ⟨ax,am⟩ | ⟨i,aN,w2,bd,bb,am,aw,ah,aR,ay⟩
  ·clear O an ak;have ao:=κ ax;clear ax;have aO:(yL sub (yu m is)).length<4611686018427387904:=by
    have H:=us sub (yu m is);have J:=Kl m is;have aY:=ao.o;have aK:=aj.o;omega
   go_wp2_with (go_at_call 116;(go_call BD ac.o aO as e bj ⟨rfl,U,az⟩;have aG:=κ U;have aD:=κ az;clear U az))
   go_ret;have aP:=aq.o.perm ao.o;have aJ:srt (yL sub (yu m is))=zw m sub:=QD (aP.filterMap _);have U:=aG.o;rw[aJ] at U;refine⟨⟨_,rfl,SlI.of_owns U ?_,λq Y=>by have:=j8 ac.o Y;omega⟩,af.o.grown aD.o af.o.size ?_⟩
   ·have H:=us sub m;have J:(zw m sub).length=(yL sub m).length:=wK _;have aK:=aj.o;omega
   ·intro q Y;have:=j8 ac.o Y;omega
  ·have be:=us sub (yu m is);have bf:=Kl m is;have aA:=Jo (L:=m) (is:=is) aN;have d:=Uj sub (yu m is) m[i];rw[<-aA] at d;have ba:=aj.o;have bc:is.length<1000000:=by omega
   clear O an ak aA;generalize m[i]=p at *;obtain⟨⟨aa,ad⟩,f⟩:=p;unfold ke2 at am ay;simp only at am ay d;have G:=κ (Vk ac.o ah (λk ai=>by subst ai;exact J6 _));have I:=κ (aw.more (qh.alloc w2 (.cells #[ι aa,ι ad] 169)));have au:qh w w2:=qk.to_more af.o ah (λk ai=>by subst ai;exact ϕ _);have ab:=κ au;have bh:w.heap.size+1<=w2.heap.size:=by have:=lt_of_block (aq.o.rlt |> λh=>(R0 h));omega
   clear aw ah au aR;by_cases H:aa=sub
   ·by_cases J:f=0
    ·subst H J;rw[ϒ ⟨rfl,rfl⟩] at d;have N:=κ d;clear d
     go_wp2_with (at_builtin;refine qR _ rfl (.tmp 26) (.tmp 29) 107 rfl (w.heap.size+1) 3 aV (ι 0) 8 underlying107 hi aS aT aU rfl _ .i64 (yL aa (yu m is)) rfl ((G.o.alloc _).alloc _) _ [ad] rfl (SlI.lit .i64 (w2.alloc (.cells #[ι aa,ι ad] 169)) [ad] 3 _ 1 _ η rfl η η) (by simp;omega) ζ (by simp;omega) ?_;intro bi w6 aC ag _;have aH:=κ aC;have ap:=κ (qk.of_grown ag);have aE:=κ ag;clear aC ag)
     go_roundw
     case rel=>
      refine⟨is++[i],(I.o.more Z0).away ap.o ?_ ?_, ?_, ?_⟩
      ·intro e;have:=j8 G.o e;omega
      ·intro e;have:=j8 G.o e;omega
      ·rw[N.o];exact aH.o
      ·exact(((ab.o.al _).al _).grown aE.o ((ab.o.al _).al _).size (λq Y=>by have:=j8 G.o Y;omega))
     case measure=>
      have aL:=(I.o.more Z0).away ap.o (λe=>by have:=j8 G.o e;omega) (λe=>by have:=j8 G.o e;omega);rw[ae.o,aL.left];simp;omega
    ·have aM:(f==0)=ύ:=by simpa using J
     rw[ώ (λh=>J h.2),Ω] at d;have N:=κ d;clear d J;subst H;go_wp2;go_roundw
     case rel=>exact⟨is++[i],I.o,by rw[N.o];exact G.o.alloc _,ab.o.al _⟩
     case measure=>
      rw[ae.o,I.o.left];simp;omega
   ·have aM:(aa==sub)=ύ:=by simpa using H
    rw[ώ (λh=>H h.1),Ω] at d;have N:=κ d;clear d H;go_wp2;go_roundw
    case rel=>exact⟨is++[i],I.o,by rw[N.o];exact G.o.alloc _,ab.o.al _⟩
    case measure=>
     rw[ae.o,I.o.left];simp;omega
def vW (m:Bk) (sub f:Int):Bk:=m.map λp=>if p.1.1=sub/\p.2=0 then (p.1,f) else p
def PI (m:Bk) (sub f:Int):Bk×List Int:=if 1<=f/\f<=8 then (vW m sub f,zw m sub) else (m,[])
def Y4 (m:Bk) (sub f:Int) (ps:List Int):Bk:=ps.foldl (λm p=>qB m (sub,p) f) m
def Aj (m:Bk) (sub f:Int) (ps:List Int) (p:Int):Y4 m sub f (ps++[p])=qB (Y4 m sub f ps) (sub,p) f:=by simp[Y4,Δ]
def Kx {k:Int×Int} {f:Int}: ∀{m:Bk},(m.map Prod.fst).Nodup->k∈m.map Prod.fst->qB m k f=m.map λp=>if p.1=k then (p.1,f) else p
 | [],_,h=>by simp at h
 | (a,b)::l,hn,h=>by
  simp only[ϡ,E0] at hn;unfold qB;by_cases e:k=a
  ·subst e;rw[ϒ rfl];simp only[ϡ,ϒ]
   congr 1
   symm;have: ∀p∈l,(if p.1=k then (p.1,f) else p)=p:=λp d=>by
    rw[ώ];intro e;exact hn.1 (by rw[<-e];exact M8 d)
   calc l.map (λp=>if p.1=k then (p.1,f) else p)=l.map id:=J5 this
    _=l:=by simp
  ·rw[ώ e];simp only[ϡ];rw[ώ (λh=>e h.symm)]
   congr 1
   exact Kx hn.2 (by simp[e] at h;simpa using h)
def KP (sub f:Int): ∀(ps:List Int) (m:Bk),(m.map Prod.fst).Nodup->(∀p∈ps,(sub,p)∈m.map Prod.fst)->Y4 m sub f ps=m.map λp=>if p.1.1=sub/\p.1.2∈ps then (p.1,f) else p
 | [],m,_,_=>by simp[Y4]
 | p::ps,m,hn,hk=>by
  have d:=Kx (f:=f) hn (hk p ϣ);have e:Y4 m sub f (p::ps)=Y4 (qB m (sub,p) f) sub f ps:=rfl;have G:(qB m (sub,p) f).map Prod.fst=m.map Prod.fst:=by
   rw[d,S5];refine J5 λq _=> ?_
   simp only[Function.comp];split<;>rfl
  rw[e,KP sub f ps _ (by rw[G];exact hn) (λq H=>by rw[G];exact hk q (Ϧ _ H)),d,S5];refine J5 λq _=> ?_
  obtain⟨⟨a,c⟩,g⟩:=q;simp only[Function.comp];by_cases ea:a=sub
  ·subst ea;by_cases ec:c=p
   ·subst ec;simp
   ·simp[ec]
  ·simp[ea]
def pendB_mem {sub:Int}:x∈zw m sub↔((sub,x),0)∈m:=by
 unfold zw yL;rw[Hp,Q2];constructor
 ·rintro⟨⟨⟨a,c⟩,g⟩,d,h⟩;by_cases e:a=sub/\g=0
  ·rw[ϒ e] at h;cases h;obtain⟨rfl,rfl⟩:=e;exact d
  ·rw[ώ e] at h;cases h
 ·intro h;exact⟨_,h,η⟩
def DJ (d:(m.map Prod.fst).Nodup) {k:Int×Int} {f g:Int} (G:(k,f)∈m) (H:(k,g)∈m):f=g:=by
 induction m with
 | nil=>cases G
 | cons p l ih=>
  simp only[ϡ,E0] at d;rcases ϫ.1 G with e1 | h1'<;>rcases ϫ.1 H with e2 | h2'
  ·rw[<-e1] at e2;cases e2;rfl
  ·exfalso;apply d.1;rw[<-e1];exact C1.2 ⟨_,h2',rfl⟩
  ·exfalso;apply d.1;rw[<-e2];exact C1.2 ⟨_,h1',rfl⟩
  ·exact ih d.2 h1' h2'
def Ak (sub f:Int) (d:(m.map Prod.fst).Nodup):Y4 m sub f (zw m sub)=vW m sub f:=by
 rw[KP sub f _ m d (λp H=>M8 (f:=Prod.fst) (pendB_mem.1 H))];unfold vW;refine J5 λq G=> ?_
 obtain⟨⟨a,c⟩,g⟩:=q;simp only;by_cases e:a=sub
 ·subst e;by_cases eg:g=0
  ·subst eg;rw[ϒ ⟨rfl,pendB_mem.2 G⟩,ϒ ⟨rfl,rfl⟩]
  ·rw[ώ (λh=>eg (DJ d G (pendB_mem.1 h.2))),ώ (λh=>eg h.2)]
 ·rw[ώ (λh=>e h.1),ώ (λh=>e h.1)]
def SlI.onmap {k:IntKind} {ke:K->Value} {ac:V->Value} {L:List (K×V)} (h:SlI k w v l) (Y:jm w b ke ac L) (a:qk (λx=>x=b) w w'):SlI k w' v l:=by
 obtain⟨ab,cap,I,J,N,O⟩:=h;refine⟨ab,cap,I,J,λi hi=> ?_,O⟩;obtain⟨c,H,e,d,G⟩:=N i hi;have aa: ¬c=b:=by
  rintro rfl;obtain⟨ae,ad,U,_⟩:=Y.ex;simp[World.cell?,U] at G
 exact⟨c,H,e,ϗ d a.size,by rw[a.cells c (H+i) d aa];exact G⟩
def EZ (k:Int×Int) (f:Int):(qB m k f).length<=m.length+1:=by
 induction m with
 | nil=>simp[qB]
 | cons p l ih=>
  unfold qB;split<;>simp<;>omega
def Ri (h:jE w B b m) (sub f:Int) (au:m.length<=1000000):
  Calls prog 107 #[γ B,ι sub,ι f] w λe w'=>(∃v,e= .returned v/\SlI .i64 w' v (PI m sub f).2/\ ∀q,v.ownBlock=ϊ q->w.heap.size<=q)/\jE w' B b (PI m sub f).1/\qk (λx=>x=b) w w':=by
 by_cases hf:1<=f/\f<=8
 ·have H:=κ hf;have J:=κ h;have G:PI m sub f=(vW m sub f,zw m sub):=by unfold PI;rw[ϒ hf]
  have O:=κ G;have aD:(zw m sub).length<=1000000:=by
   have ay:=us sub m;have az:(zw m sub).length=(yL sub m).length:=wK _;omega
  clear h G hf
  go_enter func107,ntmps107
  go_wp2_with first | (go_at_call 166;(go_call vw f _ H.o as e w2 ⟨rfl,rfl⟩)) | (go_at_call 70;(go_call Bg J.o sub au as e aG ⟨⟨v3,rfl,s3,ak⟩,aj⟩;have ao:=κ s3;have ac:=κ aj;obtain⟨aw,av,rfl,_⟩:=s3;have an:=κ ak;clear aj ak))
  go_loopw [18] (λi wr=> ∃j:Nat,j<=(zw m sub).length/\i= ι j/\jE wr B b (Y4 m sub f ((zw m sub).take j))/\SlI .i64 wr (δ aw (zw m sub).length av) (zw m sub)/\qk (λx=>x=b) w wr) (λi _=>(zw m sub).length-(intOf i).toNat)
  case atStart=>exact⟨0,τ,rfl,J.o.more ac.o,ao.o,qk.of_more ac.o⟩
  case round=>
   obtain⟨j,aA,rfl,d,Y,U⟩:=hrel;have N:=κ d;have ab:=κ Y;have aa:=κ U;have ax:=β0 d.blk;by_cases hlt:j<(zw m sub).length
   ·obtain⟨aE,cap,ap,_,ad,_⟩:=Y;cases ap;obtain⟨pb,aF,rfl,aC,aq⟩:=ad j hlt;have aB:(j:Int)<((zw m sub).length:Int):=by omega
    have af:(zw m sub).getD j 0=(zw m sub)[j]:=by simp[hlt]
    rw[af] at aq;have ai:(zw m sub).take (j+1)=(zw m sub).take j++[(zw m sub)[j]]:=ϵ hlt;have am:=κ ai;clear ad af ai;generalize (zw m sub)[j]=p at *;obtain⟨w4,ah,ag,ae,_⟩:=d.map.update Ve underlying236 (sub,p) f;unfold ke2 at ah;simp only at ah;have al:=κ ag;have I:=κ ae;clear d U ag ae;go_wp2;go_roundw
    case rel=>
     refine⟨j+1,τ,by go_num, ?_,ab.o.onmap N.o.map I.o,aa.o.trans I.o⟩;rw[am.o,Aj];exact N.o.put I.o (by have:=H.o;omega) al.o
    case measure=>simp[intOf];omega
   ·obtain rfl:j=(zw m sub).length:=by omega
    clear d Y U;go_wp2;go_ret;rw[O.o];have d:=N.o;rw[ϭ,Ak sub f J.o.map.keys] at d;exact⟨⟨_,rfl,ab.o,an.o⟩,d,aa.o⟩
 ·have G:PI m sub f=(m,[]):=by unfold PI;rw[ώ hf]
  have O:=κ G;have H:=κ hf;clear G hf
  go_enter func107,ntmps107
  go_wp2_with (go_at_call 166;(go_call Xf f _ H.o as e w2 ⟨rfl,rfl⟩))
  go_ret;rw[O.o];exact⟨⟨_,rfl,SlI.nil _ _,λq ar=>by cases ar⟩,h,qk.refl _ _⟩
def vG (pr:Sb->Bool) (u:List (Int×Sb)):List Int:=u.filterMap λp=>if pr p.2 then ϊ p.1 else ϋ
def uR (pr:Sb->Bool) (u:List (Int×Sb)):List Int:=srt (vG pr u)
def yz (own:Int) (x:Sb):Bool:=decide (x.1=own)
def jH (pub:Int) (x:Sb):Bool:=x.2.1&&decide (x.2.2=pub)
def kN (d:Sb->Bool) (u:List (Int×Sb)):(vG d u).length<=u.length:=J3 _ _
def wR (L:List (K×V)) (is:List Nat):(yu L is).length<=is.length:=J3 _ _
def Yl (d:Sb->Bool) (u:List (Int×Sb)) (p:Int×Sb):vG d (u++[p])=vG d u++(if d p.2 then [p.1] else []):=by
 unfold vG;rw[K8];by_cases h:d p.2=ό<;>simp[h]
def LM (d:Int) (x:Sb) (G:w.cell? ⟨C,0,ϋ⟩=ϊ (ω d)) (I:C<w.heap.size):
  Calls prog 243 #[θ #[ω x.1,x.2.1,ι x.2.2],γ C] w λe w'=>e= .returned (μ (yz d x))/\qh w w':=by
 have H:=(qh.alloc w (.cells #[ω x.1,x.2.1,ι x.2.2] 298)).cells C 0 I;rw[G] at H
 go_enter func243,ntmps243
 go_wp2;go_ret;exact⟨jq (by unfold yz;rw[F2];simp),qh.alloc _ _⟩
def LL (d:Int) (x:Sb) (J:w.cell? ⟨C,0,ϋ⟩=ϊ (ι d)) (N:C<w.heap.size):
  Calls prog 204 #[θ #[ω x.1,x.2.1,ι x.2.2],γ C] w λe w'=>e= .returned (μ (jH d x))/\qh w w':=by
 have H:=(qh.alloc w (.cells #[ω x.1,x.2.1,ι x.2.2] 298)).cells C 0 N;rw[J] at H;cases hb:x.2.1 with
 | false=>
  have G:jH d x=ύ:=by unfold jH;rw[hb];rfl
  rw[hb] at H
  go_enter func204,ntmps204
  go_wp2;go_ret;exact⟨jq G.symm,qh.alloc _ _⟩
 | true=>
  have G:jH d x=decide (x.2.2=d):=by unfold jH;rw[hb];rfl
  rw[hb] at H;have I:=κ G;clear G
  go_enter func204,ntmps204
  go_wp2;go_ret;exact⟨jq (by rw[I.o,F2];simp),qh.alloc _ _⟩
def Ψ7 (h:P:=by
 obtain⟨bb,hi,aY,aZ,ba⟩:=info_parts (P:=prog) (e:=3) (z:= ι 0) (size:=1) (bytes:=8) ξ;have c2:=β2 h.blk;have aG:=κ aw;have ai:=κ aE;obtain⟨w1,bk,ay,ax,aV⟩:=h.mu.range (P:=prog) underlying240;have bd:=h.mu.lt;have aM:=κ ay;have aJ:=κ ax;clear h aE ay ax aV aw;generalize aX:t.u=u at *;clear aX
 go_enter func203,ntmps203
 go_wp2
 go_loopw [5] (λv5 wr=> ∃is:List Nat,xC wr w.heap.size c (Value.int .i64) vS u is/\wr.ownsRow (w.heap.size+1) 3 1 v5 (vG (Ξa v0) (yu u is)).length ((vG (Ξa v0) (yu u is)).map (Value.int .i64))/\qh w wr) (λ_ wr=>Qt wr c w.heap.size)
 case atStart=>exact⟨[],aM.o,World.ownsRow_nil _ _ _ _,aJ.o⟩
 case round=>
  obtain⟨is,J,am,aj⟩:=hrel;have au:=κ J;have aa:=κ am;have ab:=κ aj;have aq:=κ J.left;rcases J.next (P:=prog) with ⟨aA,ak⟩ | ⟨i,aS,w2,bh,bf,ak,az,ag,aW,aB⟩
  ·clear J am aj;have ao:=κ aA;clear aA;have aT:(vG (Ξa v0) (yu u is)).length<4611686018427387904:=by
    have aO:=kN (Ξa v0) (yu u is);have aP:=wR u is;have bc:=ao.o;have aQ:=ai.o;omega
   go_wp2_with (go_at_call 116;(go_call BD aa.o aT as e bn ⟨rfl,N,aC⟩;have aK:=κ N;have aH:=κ aC;clear N aC))
   go_ret;have aU:=au.o.perm ao.o;have aN:srt (vG (Ξa v0) (yu u is))=uR (Ξa v0) u:=QD (aU.filterMap _);have N:=aK.o;rw[aN] at N;refine⟨⟨_,rfl,SlI.of_owns N ?_,λq O=>by have:=j8 aa.o O;omega⟩,ab.o.grown aH.o ab.o.size ?_⟩
   ·have aO:=kN (Ξa v0) u;have aP:(uR (Ξa v0) u).length=(vG (Ξa v0) u).length:=wK _;have aQ:=ai.o;omega
   ·intro q O;have:=j8 aa.o O;omega
  ·have bi:=kN (Ξa v0) (yu u is);have bj:=wR u is;have aD:=Jo (L:=u) (is:=is) aS;have G:=Yl (Ξa v0) (yu u is) u[i];rw[<-aD] at G;have be:=ai.o;have bg:is.length<1000000:=by omega
   clear J am aj aD;generalize u[i]=p at *;obtain⟨k,x⟩:=p;unfold vS at ak aB;simp only at ak aB G;have H:=κ (Vk aa.o ag (λz an=>by subst an;exact J6 _));have av:=κ (az.more (qh.alloc w2 (.cells #[ω x.1,x.2.1,ι x.2.2] 298)));have ah:qh w w2:=qk.to_more ab.o ag (λz an=>by subst an;exact ϕ _);have ar:=κ ah;have bl:w.heap.size+1<=w2.heap.size:=by have:=au.o.rlt;omega
   have U:=κ (qv (qj ah aG.o) (.cells #[ω x.1,x.2.1,ι x.2.2] 298));clear az ag ah aW;cases hpr:Ξa v0 x with
   | true=>
    rw[hpr,ϒ rfl] at G;have ad:=κ G;have ae:=κ hpr;clear G hpr
    go_wp2_with first | (((with_reducible refine(Ξb v0 x (qi U.o 0 rfl) (qq U.o)).mono ?_);rintro e w4 ⟨rfl,d⟩;rw[ae.o];have I:=κ (av.o.more d);have ac:=κ (jJ (H.o.alloc (.cells #[ω x.1,x.2.1,ι x.2.2] 298)) d);have Y:=κ ((ar.o.al (.cells #[ω x.1,x.2.1,ι x.2.2] 298)).trans d);have z4:w.heap.size+1<=w4.heap.size:=ϙ (by simp;omega) d.size;clear d)) | (at_builtin;refine qR _ rfl (.tmp 21) (.tmp 23) 107 rfl (w.heap.size+1) 3 bb (ι 0) 8 underlying107 hi aY aZ ba rfl _ .i64 (vG (Ξa v0) (yu u is)) rfl (ac.o.alloc _) _ [k] rfl (SlI.lit .i64 w4 [k] 3 _ 1 _ η rfl rfl η) (by simp;omega) ζ (by simp;omega) ?_;intro bm w6 aF af _;have aL:=κ aF;have ap:=κ (qk.of_grown af);have aI:=κ af;clear aF af)
    go_roundw
    case rel=>
     refine⟨is++[i],(I.o.more Z0).away ap.o ?_ ?_, ?_, ?_⟩
     ·intro e;have:=j8 H.o e;omega
     ·intro e;have:=j8 H.o e;omega
     ·rw[ad.o];exact aL.o
     ·exact((Y.o.al _).grown aI.o (Y.o.al _).size (λq O=>by have:=j8 H.o O;omega))
    case measure=>
     have aR:=(I.o.more Z0).away ap.o (λe=>by have:=j8 H.o e;omega) (λe=>by have:=j8 H.o e;omega);rw[aq.o,aR.left];simp;omega
   | false=>
    rw[hpr,ώ η,Ω] at G;have ad:=κ G;have ae:=κ hpr;clear G hpr
    go_wp2_with (((with_reducible refine(Ξb v0 x (qi U.o 0 rfl) (qq U.o)).mono ?_);rintro e w4 ⟨rfl,d⟩;rw[ae.o];have I:=κ (av.o.more d);have ac:=κ (jJ (H.o.alloc (.cells #[ω x.1,x.2.1,ι x.2.2] 298)) d);have Y:=κ ((ar.o.al (.cells #[ω x.1,x.2.1,ι x.2.2] 298)).trans d);clear d))
    go_roundw
    case rel=>exact⟨is++[i],I.o,by rw[ad.o];exact ac.o,Y.o⟩
    case measure=>
     rw[aq.o,I.o.left];simp;omega):P:=h
section
open _root_.Go.Proofs.YtlmllmonabafjaaGreatDoor renaming yz->Ξa,LM->Ξb
def Uv {T a c:Nat} {t:TS} (h:ju w T a b c t) (v0:Int) (aw:w.heap[C]? =ϊ (.cells #[ω v0] 38 (0,0))) (aE:t.u.length<=1000000):
  Calls prog 203 #[γ T,.func (.func 243) #[] #[γ C]] w λe w'=>(∃v,e= .returned v/\SlI .i64 w' v (uR (yz v0) t.u)/\ ∀q,v.ownBlock=ϊ q->w.heap.size<=q)/\qh w w':=Ψ7
end
section
open _root_.Go.Proofs.YtlmllmonabafjaaGreatDoor renaming jH->Ξa,LL->Ξb
def AJ {T a c:Nat} {t:TS} (h:ju w T a b c t) (v0:Int) (aw:w.heap[C]? =ϊ (.cells #[ι v0] 3 (0,0))) (aE:t.u.length<=1000000):
  Calls prog 203 #[γ T,.func (.func 204) #[] #[γ C]] w λe w'=>(∃v,e= .returned v/\SlI .i64 w' v (uR (jH v0) t.u)/\ ∀q,v.ownBlock=ϊ q->w.heap.size<=q)/\qh w w':=Ψ7
end
def Pz (x:Int) (l:List Int) (w:World) (e:Ending) (w':World):Prop:= ∃n:Int,(0<=n↔x∈l)/\ -1<=n/\e= .returned (.int .i64 n)/\w=w'
def Ψ8 (h:P:=by
 obtain⟨af,cap,rfl,ae,H,_⟩:=s
 go_enter Ξa,Ξb
 go_wp2
 go_loop [8] (λi=> ∃k:Nat,k<=l.length/\i= ι k/\x∉l.take k) (λi=>l.length-(intOf i).toNat)
 case atStart=>exact⟨0,τ,rfl,η⟩
 case round=>
  obtain⟨k,ac,rfl,d⟩:=hrel;by_cases hlt:k<l.length
  ·obtain⟨b,ag,rfl,ab,U⟩:=H k hlt;have ad:(k:Int)<(l.length:Int):=by omega
   have I:l.getD k 0=l[k]:=by simp[hlt]
   rw[I] at U;have J:l.take (k+1)=l.take k++[l[k]]:=ϵ hlt;have Y:l[k]∈l:=Ϣ hlt;have O:=κ J;have G:=κ d;clear H I J d;generalize l[k]=y at *;by_cases e:x=y
   ·subst e;go_wp2;go_ret;exact⟨k,⟨λ_=>Y,λ_=>by omega⟩,τ,rfl,rfl⟩
   ·have aa:(x==y)=ύ:=by simpa using e
    have N:=κ e;clear e;go_wp2
    go_round
    case rel=>exact⟨k+1,τ,by go_num,by rw[O.o];simp;exact⟨G.o,N.o⟩⟩
    case measure=>simp[intOf];omega
  ·obtain rfl:k=l.length:=by omega
   clear H;have G:=κ d;clear d;go_wp2;go_ret;refine⟨-1,⟨λh=>by omega,λh=> ?_⟩,τ,rfl,rfl⟩;have:=G.o;rw[ϭ] at this;exact ϧ h this):P:=h
section
open _root_.Go.Proofs.Tryz renaming func219->Ξa,ntmps219->Ξb
def NH (x:Int) (s:SlI .u32 w v l):Calls prog 219 #[v,ω x] w (Pz x l w):=Ψ8
end
def YX (x:Int) (s:SlI .u32 w v l):Calls prog 164 #[v,ω x] w λe w'=>e= .returned (μ (decide (x∈l)))/\w=w':=by
 go_enter func164,ntmps164
 go_wp2_with (go_at_call 219;(go_call NH x s as e w2 ⟨n,d,H,rfl,rfl⟩;have G:=κ d;clear d))
 go_ret;exact⟨jq (by rw[F2];simp only[C2];exact G.o),rfl⟩
def oAt (o:List (Int×Og)) (p s0 s1 s2:Int):Nat->List (Int×Og)
 | 0=>o
 | 1=>qB o s0 (p,0)
 | 2=>qB (qB o s0 (p,0)) s1 (p,1)
 | _=>qB (qB (qB o s0 (p,0)) s1 (p,1)) s2 (p,2)
def sAt (s:List (Og×Int)) (p s0 s1 s2:Int):Nat->List (Og×Int)
 | 0=>s
 | 1=>qB s (p,0) s0
 | 2=>qB (qB s (p,0) s0) (p,1) s1
 | _=>qB (qB (qB s (p,0) s0) (p,1) s1) (p,2) s2
def EN (o:List (Int×Og)) (p s0 s1 s2:Int) (k:Nat) (h:k<3):oAt o p s0 s1 s2 (k+1)=qB (oAt o p s0 s1 s2 k) ([s0,s1,s2].getD k 0) (p,(k:Int)):=by
 have:k=0∨k=1∨k=2:=by omega
 rcases this with rfl | rfl | rfl<;>rfl
def Eg (s:List (Og×Int)) (p s0 s1 s2:Int) (k:Nat) (h:k<3):sAt s p s0 s1 s2 (k+1)=qB (sAt s p s0 s1 s2 k) (p,(k:Int)) ([s0,s1,s2].getD k 0):=by
 have:k=0∨k=1∨k=2:=by omega
 rcases this with rfl | rfl | rfl<;>rfl
def VY (s0 s1 s2:Int):Prop:=s1=s0∨s2=s0∨s2=s1
instance (s0 s1 s2:Int):Decidable (VY s0 s1 s2):=by unfold VY;exact inferInstance
def yv (t:TS) (p s0 s1 s2:Int):TS×Int:=if 0<=p/\p<3 then (if VY s0 s1 s2 then (t,1) else if (qm t.s (p,0)).isSome then (t,6) else if (qm t.o s0).isSome∨(qm t.o s1).isSome∨(qm t.o s2).isSome then (t,6)
 else ({t with o:=oAt t.o p s0 s1 s2 3,s:=sAt t.s p s0 s1 s2 3},0)) else (t,1)
def Nc {k:Nat} (h:k<3) (d:[s0,s1,s2].getD k 0∈[s0,s1,s2].take k):VY s0 s1 s2:=by
 have:k=0∨k=1∨k=2:=by omega
 unfold VY;rcases this with rfl | rfl | rfl<;>simp at d<;>omega
def Nb (h: ∀k,k<3->[s0,s1,s2].getD k 0∉[s0,s1,s2].take k): ¬VY s0 s1 s2:=by
 have d:=h 1 τ;have G:=h 2 τ;simp at d G;unfold VY;omega
def RR {p:Int->Prop} {k:Nat} (h:k<3) (d:p ([s0,s1,s2].getD k 0)):p s0∨p s1∨p s2:=by
 have:k=0∨k=1∨k=2:=by omega
 rcases this with rfl | rfl | rfl
 ·exact ϐ d
 ·exact ϓ (ϐ d)
 ·exact ϓ (ϓ d)
def RT {p:Int->Prop} (h: ∀k,k<3-> ¬p ([s0,s1,s2].getD k 0)): ¬(p s0∨p s1∨p s2):=by
 rintro(a | a | a)
 ·exact h 0 τ a
 ·exact h 1 τ a
 ·exact h 2 τ a
def Hb (s0 s1 s2:Int) (k:Nat) (h:k<3) (w:World):(Instr.index 40 (θ #[ω s0,ω s1,ω s2]) (ι (k:Int))).run prog w= .ok (ω ([s0,s1,s2].getD k 0)) w:=by
 have:k=0∨k=1∨k=2:=by omega
 rcases this with rfl | rfl | rfl
 all_goals first | rfl | simp[go_sem]
def sl3 (C k:Nat) (H:k<=3) (w:World):(Instr.sliceAt 40 (γ C) ϋ (ϊ (ι (k:Int))) ϋ).run prog w= .ok (δ (ϊ ⟨C,0,ϋ⟩) k 3) w:=by
 have d:prog.arrayLen 40=3:=by kernel_rfl
 have G:(sizeOf (prog.elem 40)).run prog w= .ok 1 w:=by kernel_rfl
 rw[run_sliceAt_array_h w 40 ⟨C,0,ϋ⟩ ξ .i64 (k:Int) τ (by rw[d];omega),G,d];simp[slicedAt,Addr.add]
def Rt (h:w.heap[C]? =ϊ (.cells #[ω s0,ω s1,ω s2] 40 (0,0))) (k:Nat) (G:k<=3):SlI .u32 w (δ (ϊ ⟨C,0,ϋ⟩) k 3) ([s0,s1,s2].take k):=by
 have d:([s0,s1,s2].take k).length=k:=by simp;omega
 refine⟨ϊ ⟨C,0,ϋ⟩,3,by rw[d],by rw[d];omega,λi hi=> ?_,by rw[d];exact G,by unfold maxLen;omega,λh=>by cases h⟩;rw[d] at hi;refine⟨C,0,rfl,qq h,qi h _ ?_⟩;have:i=0∨i=1∨i=2:=by omega
 rcases this with rfl | rfl | rfl
 ·have:([s0,s1,s2].take k).getD 0 0=s0:=by rw[ϑ,J4 τ];rfl
  rw[this];rfl
 ·have:([s0,s1,s2].take k).getD 1 0=s1:=by rw[ϑ,J4 τ];rfl
  rw[this];rfl
 ·have:([s0,s1,s2].take k).getD 2 0=s2:=by rw[ϑ,J4 τ];rfl
  rw[this];rfl
def un (r:TS×Int) (T a b c:Nat) (w:World) (e:Ending) (w':World):Prop:=e= .returned (.int .i64 r.2)/\ju w' T a b c r.1/\qk (λz=>z=a∨z=b) w w'
def Ba {T a c:Nat} {t:TS} (h:ju w T a b c t) (p s0 s1 s2:Int):
    Calls prog 104 #[γ T,ι p,θ #[ω s0,ω s1,ω s2]] w (un (yv t p s0 s1 s2) T a b c w):=by
  by_cases hp:0<=p/\p<3
  · have I:=κ hp
    have G:=κ h
    have aE:=qp w (.cells #[ω s0,ω s1,ω s2] 40)
    have aA:=κ aE
    clear hp h aE
    go_enter func104,ntmps104
    go_wp2_with (go_at_call 163;(go_call vU p _ I.o as e w2 ⟨rfl,rfl⟩))
    go_loop [20] (λi=> ∃k:Nat,k<=3/\i= ι k/\ ∀j,j<k->[s0,s1,s2].getD j 0∉[s0,s1,s2].take j) (λi=>3-(intOf i).toNat)
    case atStart=>exact⟨0,τ,rfl,λj ar=>by omega⟩
    case round=>
      obtain⟨k,aJ,rfl,aa⟩:=hrel
      have H:=κ aa
      clear aa
      by_cases hk3:k<3
      · have aK:(k:Int)<3:=by omega
        have aI:=λw=>Hb s0 s1 s2 k hk3 w
        have aB:=κ (Rt aA.o k τ)
        have bc:=λw'=>sl3 w.heap.size k τ w'
        have aO:=κ (Nc (s0:=s0) (s1:=s1) (s2:=s2) hk3)
        have ah:Hid (∀y,[s0,s1,s2].getD k 0=y->y∉[s0,s1,s2].take k-> ∀j,j<k+1->[s0,s1,s2].getD j 0∉[s0,s1,s2].take j):=κ (λy e au j ar=>by
          subst e
          by_cases e:j<k
          · exact H.o j e
          · obtain rfl:j=k:=by omega
            exact au)
        generalize ay:[s0,s1,s2].getD k 0=y at *
        clear ay
        by_cases J:y∈[s0,s1,s2].take k
        · have U:=κ J
          clear J
          go_wp2_with (go_at_call 164;(go_call YX y aB.o as e w2 ⟨rfl,rfl⟩;rw[Ϩ U.o]))
          go_ret
          have d:yv t p s0 s1 s2=(t,1):=by unfold yv;rw[ϒ I.o,ϒ (aO.o U.o)]
          unfold un
          rw[d]
          exact⟨rfl,G.o.more Z0,qk.of_more Z0⟩
        · have U:=κ J
          clear J
          go_wp2_with (go_at_call 164;(go_call YX y aB.o as e w2 ⟨rfl,rfl⟩;rw[Ϯ U.o]))
          go_round
          case rel=>exact⟨k+1,τ,by go_num,ah.o y rfl U.o⟩
          case measure=>simp[intOf];omega
      · obtain rfl:k=3:=by omega
        have ag:=κ (Nb H.o)
        clear H
        cases hps:(qm t.s (p,0)).isSome with
        | true=>
          have O:=κ hps
          clear hps
          go_wp2_with (go_at_call 165;(go_call yV (G.o.more (qh.alloc w (.cells #[ω s0,ω s1,ω s2] 40))) p as e w2 ⟨rfl,rfl⟩;rw[O.o]))
          go_ret
          have d:yv t p s0 s1 s2=(t,6):=by unfold yv;rw[ϒ I.o,ώ ag.o,ϒ O.o]
          unfold un
          rw[d]
          exact⟨rfl,G.o.more Z0,qk.of_more Z0⟩
        | false=>
          have O:=κ hps
          clear hps
          go_wp2_with (go_at_call 165;(go_call yV (G.o.more (qh.alloc w (.cells #[ω s0,ω s1,ω s2] 40))) p as e w2 ⟨rfl,rfl⟩;rw[O.o]))
          go_loopw [33] (λi wr=> ∃k:Nat,k<=3/\i= ι k/\(∀j,j<k-> ¬(qm t.o ([s0,s1,s2].getD j 0)).isSome=ό)/\qh (w.alloc (.cells #[ω s0,ω s1,ω s2] 40)) wr) (λi _=>3-(intOf i).toNat)
          case atStart=>exact⟨0,τ,rfl,λj ar=>by omega,qh.refl _⟩
          case round=>
            obtain⟨k,aJ,rfl,aa,aM⟩:=hrel
            have H:=κ aa
            have N:=κ aM
            clear aa aM
            by_cases hk3:k<3
            · have aK:(k:Int)<3:=by omega
              have aI:=λw=>Hb s0 s1 s2 k hk3 w
              have ac:=(G.o.more (qh.alloc w _)).more N.o
              have ba:=β0 ac.blk
              have q:=ac.lookO ([s0,s1,s2].getD k 0)
              have ab:=κ (RR (p:=λz=>(qm t.o z).isSome=ό) (s0:=s0) (s1:=s1) (s2:=s2) hk3)
              have ah:Hid (∀y,[s0,s1,s2].getD k 0=y-> ¬(qm t.o y).isSome=ό-> ∀j,j<k+1-> ¬(qm t.o ([s0,s1,s2].getD j 0)).isSome=ό):=κ (λy e au j ar=>by
                subst e
                by_cases e:j<k
                · exact H.o j e
                · obtain rfl:j=k:=by omega
                  exact au)
              have ak:=κ ac
              clear ac
              generalize ay:[s0,s1,s2].getD k 0=y at *
              clear ay
              cases hs:(qm t.o y).isSome with
              | true=>
                rw[hs] at q
                have ai:=κ hs
                clear hs
                go_wp2
                go_ret
                have d:yv t p s0 s1 s2=(t,6):=by
                  unfold yv
                  rw[ϒ I.o,ώ ag.o,ώ (by rw[O.o];simp),ϒ]
                  exact ab.o ai.o
                unfold un
                rw[d]
                exact⟨rfl,ak.o.more Z0,qk.of_more ((Z0.trans N.o).al _)⟩
              | false=>
                rw[hs] at q
                have ai:=κ hs
                clear hs
                go_wp2
                go_roundw
                case rel=>exact⟨k+1,τ,by go_num,ah.o y rfl (by rw[ai.o];simp),N.o.al _⟩
                case measure=>simp[intOf];omega
            · obtain rfl:k=3:=by omega
              have aQ:=κ (RT (p:=λz=>(qm t.o z).isSome=ό) H.o)
              have ae:=κ (qj N.o aA.o)
              have aW:=β0 ae.o
              have aX:=β1 ae.o
              have aY:=β2 ae.o
              have d:yv t p s0 s1 s2=({t with o:=oAt t.o p s0 s1 s2 3,s:=sAt t.s p s0 s1 s2 3},0):=by
                unfold yv
                rw[ϒ I.o,ώ ag.o,ώ (by rw[O.o];simp),ώ aQ.o]
              have af:=κ d
              have ak:=κ ((G.o.more (qh.alloc w _)).more N.o)
              have aP:=κ (qk.of_more (S:=λz=>z=a∨z=b) ((qh.alloc w (.cells #[ω s0,ω s1,ω s2] 40)).trans N.o))
              clear H d
              go_wp2_with fail
              clear aW aX aY
              go_loopw [48] (λi aN=> ∃k:Nat,k<=3/\i= ι k/\ju aN T a b c {t with o:=oAt t.o p s0 s1 s2 k,s:=sAt t.s p s0 s1 s2 k}/\qk (λz=>z=a∨z=b) w aN) (λi _=>3-(intOf i).toNat)
              case atStart=>exact⟨0,τ,rfl,ak.o,aP.o⟩
              case round=>
                obtain⟨k,aJ,rfl,aG,aH⟩:=hrel
                have aj:=κ aG
                have ab:=κ aH
                clear aG aH
                by_cases hk3:k<3
                · have aK:(k:Int)<3:=by omega
                  have aI:=λw=>Hb s0 s1 s2 k hk3 w
                  have aR:=κ (EN t.o p s0 s1 s2 k hk3)
                  have aS:=κ (Eg t.s p s0 s1 s2 k hk3)
                  generalize [s0,s1,s2].getD k 0=y at *
                  have am:=κ (aj.o.more (qh.alloc wr (.cells #[ι p,ι (k:Int)] 58)))
                  have aZ:=κ (qp wr (.cells #[ι p,ι (k:Int)] 58))
                  have bb:a<wr.heap.size:=aj.o.mo.lt
                  obtain⟨w9,av,J,ad,_⟩:=(am.o.mo.more (qh.drewN _ 1)).update Cd underlying239 y (p,(k:Int))
                  unfold kO at av
                  simp only at av
                  have an:=κ ((am.o.more (qh.drewN _ 1)).putO ad J)
                  have aF:=κ (ad.blk (qr aZ.o 1) τ)
                  have aU:=κ ad
                  obtain⟨w8,aw,aL,ax,_⟩:=(an.o.ms.more (qh.drewN _ 1)).update Ji underlying47 (p,(k:Int)) y
                  unfold kO at aw
                  simp only at aw
                  have aV:=κ ((an.o.more (qh.drewN _ 1)).putS ax aL)
                  have aT:=κ ax
                  clear J ad aL ax
                  go_wp2_with fail
                  have ao: ∀z:qu (wr.alloc (.cells #[ι p,ι (k:Int)] 58)),z.w'.cell? ⟨T,0,ϋ⟩=ϊ (.map (ϊ a)):=λz=>qi (qj z.h am.o.blk) 0 rfl
                  have ap: ∀z:qu (wr.alloc (.cells #[ι p,ι (k:Int)] 58)),z.w'.cell? ⟨wr.heap.size,0,ϋ⟩=ϊ (ι p):=λz=>z.new 0 rfl
                  have aq: ∀z:qu (wr.alloc (.cells #[ι p,ι (k:Int)] 58)),z.w'.cell? ⟨wr.heap.size,1,ϋ⟩=ϊ (ι (k:Int)):=λz=>z.new 1 rfl
                  refine Qn (wr.alloc (.cells #[ι p,ι (k:Int)] 58)) 6 7 [6] ?_
                  refine Qq6 ?_
                  (refine Qe ?_;intro K Y)
                  refine Y _ _ ?_
                  clear Y K
                  refine qD ?_
                  clear ao ap aq av
                  go_wp2_with fail
                  have ao: ∀z:qu w9,z.w'.cell? ⟨T,1,ϋ⟩=ϊ (.map (ϊ b)):=λz=>qi (qj z.h an.o.blk) 1 rfl
                  have ap: ∀z:qu w9,z.w'.cell? ⟨wr.heap.size,0,ϋ⟩=ϊ (ι p):=λz=>qi (qj z.h aF.o) 0 rfl
                  have aq: ∀z:qu w9,z.w'.cell? ⟨wr.heap.size,1,ϋ⟩=ϊ (ι (k:Int)):=λz=>qi (qj z.h aF.o) 1 rfl
                  refine Qn w9 6 7 [6] ?_
                  refine Qq6 ?_
                  (refine Qe ?_;intro K Y)
                  refine Y _ _ ?_
                  clear Y K
                  refine qD ?_
                  clear ao ap aq aw
                  go_wp2
                  go_roundw
                  case rel=>
                    have aC:ju w8 T a b c {t with o:=oAt t.o p s0 s1 s2 (k+1),s:=sAt t.s p s0 s1 s2 (k+1)}:=by rw[aR.o,aS.o];exact aV.o
                    have aD:=(((ab.o.trans (qk.of_more (Z0.dr 1))).trans (aU.o.mono (λz az=>ϐ az))).trans (qk.of_more (qh.drewN _ 1))).trans (aT.o.mono (λz az=>ϓ az))
                    first
                      | exact⟨k+1,τ,by go_num,aC,aD⟩
                      | (repeat apply Exists.intro
                         exact⟨⟨k+1,τ,by go_num,aC,aD⟩,rfl⟩)
                  case measure=>simp[intOf];omega
                · obtain rfl:k=3:=by omega
                  go_wp2
                  go_ret
                  unfold un
                  rw[af.o]
                  exact⟨rfl,aj.o,ab.o⟩
  · have I:=κ hp
    have G:=κ h
    have d:yv t p s0 s1 s2=(t,1):=by unfold yv;rw[ώ hp]
    have af:=κ d
    clear hp h d
    go_enter func104,ntmps104
    go_wp2_with (go_at_call 163;(go_call YU p _ I.o as e w2 ⟨rfl,rfl⟩))
    go_ret
    unfold un
    rw[af.o]
    exact⟨rfl,G.o.more Z0,qk.of_more Z0⟩
structure PN where
 wanted:Bool
 any:Bool
 last:Int
 tries:Int
structure zX where
 buf:Jb
 any:Bool
 great:Int
 asks:PN
 askedOf:Bool
variable {t:zX}
structure AcS where
 o:Og
 num:Int
 pk:Pk
structure RqS where
 o:Og
 at_:Int
 body:List Int
structure CfR where
 room:Int
 hold:Int
 wait:Int
 space:Int
 retry:Int
 most:Int
structure CnR where
 lost:Int
 malf:Int
 strange:Int
 told:Int
 acc:Int
structure RmS where
 cfg:CfR
 closed:Bool
 ret:List (Og×Bool)
 clock:Int
 queue:List (List Int)
 tab:TS
 lanes:List (Int×LnS)
 strs:List (Og×zX)
 pks:List AcS
 reqs:List RqS
 cnt:CnR
 book:Bk
variable {s:RmS}
def subIds:List Int:=[0,1,2,3,4,5]
def orgs:List Og:=[(0,0),(0,1),(0,2),(1,0),(1,1),(1,2),(2,0),(2,1),(2,2)]
def prR (pr:Sb->Bool) (u:List (Int×Sb)):List Int:=subIds.filter λx=>match qm u x with
 | some sb=>pr sb
 | none=>ύ
def RmS.origins (s:RmS):List Og:=orgs.filter λo=>(qm s.strs o).isSome
def RmS.readyAt (s:RmS) (o:Og):Bool:=match qm s.strs o with
 | some t=>jU t.buf s.clock
 | none=>ύ
def RmS.ready (s:RmS):Option Og:=s.origins.find? s.readyAt
def gJ (l:LnS) (k:Int):Bool:=l.wanted&&(!l.gone&&(!decide (l.cur=l.tgt)&&decide (l.tgt=k)))
def RmS.wants (s:RmS) (o:Og):Bool:=(match qm s.strs o with
 | some t=>t.askedOf
 | none=>ύ)||(prR (jH o.1) s.tab.u).any λx=>match qm s.lanes x with
 | some l=>gJ l o.2
 | none=>ύ
def ZS (retry:Int):Nat->Int->Int
 | 0,g=>g
 | k+1,g=>if g<1∨retry<=g then g else ZS retry k (2* g)
def Y2 (space retry tries:Int):Int:=if ZS retry (tries-1).toNat space<=retry then ZS retry (tries-1).toNat space else retry
def uS (a:PN) (wanted:Bool):Int:=if wanted&&a.wanted then a.tries else 0
def LH (space retry:Int) (a:PN) (wanted:Bool) (now:Int):Bool:= !wanted||(a.any&&decide (now-a.last<Y2 space retry (uS a wanted)))
def vY (space retry:Int) (a:PN) (wanted:Bool) (now:Int):PN×Bool:=
 if LH space retry a wanted now then (⟨wanted,a.any,a.last,uS a wanted⟩,ύ) else (⟨wanted,ό,now,uS a wanted+1⟩,ό)
abbrev ZQ (src:Int):qY:=(1,206,qy 0 4++qy src 4,())
def uK (src:Int):List Int:=(kH [ZQ src]).1
def RmS.request (s:RmS) (o:Og):RmS:={s with reqs:=s.reqs++[⟨o,s.clock,uK ((qm s.tab.s o).getD 0)⟩]}
def RmS.tick1 (s:RmS) (o:Og):RmS:=match qm s.strs o with
 | none=>s
 | some t=>if (vY s.cfg.space s.cfg.retry t.asks (s.wants o) s.clock).2
  then {s with strs:=qB s.strs o {t with asks:=(vY s.cfg.space s.cfg.retry t.asks (s.wants o) s.clock).1}}.request o
  else {s with strs:=qB s.strs o {t with asks:=(vY s.cfg.space s.cfg.retry t.asks (s.wants o) s.clock).1}}
def RmS.tick (s:RmS):RmS×Int:=if s.closed then (s,7) else (s.origins.foldl RmS.tick1 {s with clock:=s.clock+1},0)
def yO (subs:List Int):List Og:=(0,0)::(1,0)::(subIds.filter λx=>decide (x∈subs)).flatMap λx=>[(2,x),(3,x),(4,x)]
def RmS.there (s:RmS):List Int:=subIds.filter λx=>(qm s.lanes x).isSome
def RmS.workers (s:RmS):List Og:=yO s.there
def xr (n:Int):Int:=if n=2 then 1 else if n=3 then 2 else 3
def RmS.mayOpen (s:RmS) (w:Og):Bool:=
 if w.1=0 then decide (0<s.queue.length) else if w.1=1 then s.ready.isSome else match qm s.lanes w.2 with
 | some l=>zQ l (xr w.1)
 | none=>ύ
def RmS.may (s:RmS) (w:Og):Bool:=decide (w∈s.workers)&&(if s.closed then !((qm s.ret w).getD ύ) else s.mayOpen w)
def jn (b:Bk) (sub id f:Int):Bk:=if qm b (sub,id)=ϊ 0 then (zF b (sub,id) f).1 else b
def RmS.tell1 (s:RmS) (x:Int):RmS:=match qm s.tab.u x with
 | none=>s
 | some sb=>if sb.2.1 then (match qm s.lanes x with
  | none=>s
  | some l=>if l.wanted&&je l.cur then (match qm s.strs (sb.2.2,l.cur) with
   | none=>s
   | some t=>{s with strs:=qB s.strs (sb.2.2,l.cur) {t with askedOf:=ό}}) else s) else s
def RmS.tellS (s:RmS) (src:Int):RmS:=(prR (yz src) s.tab.u).foldl RmS.tell1 s
def RmS.tell (s:RmS) (b:List Int):RmS:=
 if (zv b).2=0 then (xR (zv b).1).foldl RmS.tellS {s with cnt:={s.cnt with told:=s.cnt.told+1}} else {s with cnt:={s.cnt with malf:=s.cnt.malf+1}}
def PH (near sq:Int):Int:=near+ahd (near%65536) sq
def yJ (t:zX) (sq:Int):Int:=if t.any then PH t.great sq else 65536+sq
def Xh (b:Bk) (subs:List Int) (id:Int):Bk:=subs.foldl (λb x=>(kE b (x,id)).1) b
def xV (b:Bk) (subs:List Int) (id f:Int):Bk:=subs.foldl (λb x=>jn b x id f) b
def zq (e:Int):Int:=if e=10 then 3 else if e=9 then 2 else if e=8 then 6 else 0
def YZ (t:zX) (p:Pk) (clock id:Int):zX:=
 ⟨(jB t.buf (yJ t p.sq) clock id).1,ό,if t.any=ύ∨t.great<yJ t p.sq then yJ t p.sq else t.great,t.asks,if xO p.pl then ύ else t.askedOf⟩
def RmS.accept (s:RmS) (o:Og) (p:Pk):RmS:=match qm s.strs o with
 | none=>s
 | some t=>{s with
   strs:=qB s.strs o (YZ t p s.clock s.pks.length)
   pks:=s.pks++[⟨o,yJ t p.sq,p⟩]
   cnt:={s.cnt with acc:=s.cnt.acc+1}
   book:=if zq (jB t.buf (yJ t p.sq) s.clock s.pks.length).2=0 then Xh s.book (prR (jH o.1) s.tab.u) s.pks.length
    else xV (Xh s.book (prR (jH o.1) s.tab.u) s.pks.length) (prR (jH o.1) s.tab.u) s.pks.length (zq (jB t.buf (yJ t p.sq) s.clock s.pks.length).2)}
def Y5 (b:List Int):Bool:=decide (2<=b.length)&&(decide (192<=b.getD 1 0)&&decide (b.getD 1 0<=223))
def RmS.media (s:RmS) (b:List Int):RmS:=
 if (jS b).2=0 then (match qm s.tab.o (jS b).1.sc with
  | none=>{s with cnt:={s.cnt with strange:=s.cnt.strange+1}}
  | some o=>s.accept o (jS b).1) else {s with cnt:={s.cnt with malf:=s.cnt.malf+1}}
def RmS.read (s:RmS):RmS:=match s.queue with
 | []=>s
 | b::q=>if Y5 b then {s with queue:=q}.tell b else {s with queue:=q}.media b
def RmS.put1 (x:ItS) (s:RmS) (sub:Int):RmS:=if qm s.book (sub,x.id)=ϊ 0 then (match qm s.lanes sub with
 | none=>s
 | some l=>if (jL l x).2.2.1 then {s with lanes:=qB s.lanes sub (jL l x).1,book:=jn s.book sub (jL l x).2.1 6} else {s with lanes:=qB s.lanes sub (jL l x).1}) else s
def ac0:AcS:=⟨(0,0),0,pk0⟩
def RmS.item (s:RmS) (o:Og) (id:Int):ItS:=⟨id,o.2,xO (s.pks.getD id.toNat ac0).pk.pl,(s.pks.getD id.toNat ac0).pk⟩
def RmS.orderAt (s:RmS) (o:Og) (t:zX):RmS:=
 subIds.foldl (RmS.put1 (s.item o (zP t.buf s.clock).2.2.1)) {s with strs:=qB s.strs o {t with buf:=(zP t.buf s.clock).1}}
def RmS.order (s:RmS):RmS:=match s.ready with
 | none=>s
 | some o=>(match qm s.strs o with
  | none=>s
  | some t=>s.orderAt o t)
def RmS.choose (s:RmS) (sub:Int):RmS:=match qm s.lanes sub with
 | none=>s
 | some l=>{s with
   lanes:=qB s.lanes sub (qP l).1
   book:=if (qP l).2.2.2&& !decide ((qP l).2.2.1=0) then jn s.book sub (qP l).2.1 (qP l).2.2.1 else s.book}
def RmS.rewrite (s:RmS) (sub:Int):RmS:=match qm s.lanes sub with
 | none=>s
 | some l=>{s with
   lanes:=qB s.lanes sub (qN l).1
   book:=if (qN l).2.2.2&&(qN l).2.2.1 then jn s.book sub (qN l).2.1 6 else s.book}
def RmS.write (s:RmS) (sub:Int) (acc:Bool):RmS:=match qm s.lanes sub with
 | none=>s
 | some l=>{s with
   lanes:=qB s.lanes sub (qJ l acc).1
   tab:=if (qJ l acc).1.gone then (zl s.tab sub).1 else s.tab
   book:=if (qJ l acc).1.gone then vW (if (qJ l acc).2.2.2&&decide ((qJ l acc).2.2.1=1) then jn s.book sub (qJ l acc).2.1 (qJ l acc).2.2.1 else s.book) sub 7
    else if (qJ l acc).2.2.2&&decide ((qJ l acc).2.2.1=1) then jn s.book sub (qJ l acc).2.1 (qJ l acc).2.2.1 else s.book}
def RmS.drain1 (s:RmS) (id:Int):RmS:={s with book:=xV s.book subIds id 8}
def RmS.drainO (s:RmS) (o:Og):RmS:=match qm s.strs o with
 | none=>s
 | some t=>(thJ t.buf.holds).foldl RmS.drain1 {s with strs:=qB s.strs o {t with buf:=kA t.buf}}
def UI (l:LnS) (n:Int):List Int:=if n=1 then l.A.map (·.id) else if n=2 then l.B.map (·.1.id) else l.C.map (·.1)
def RmS.drainL (s:RmS) (w:Og):RmS:=match qm s.lanes w.2 with
 | none=>s
 | some l=>{s with
   lanes:=qB s.lanes w.2 (kz l (xr w.1))
   book:=(UI l (xr w.1)).foldl (λb id=>jn b w.2 id 8) s.book}
def RmS.drain (s:RmS) (w:Og):RmS:=
 if w.1=0 then {s with queue:=[],cnt:={s.cnt with lost:=s.cnt.lost+s.queue.length}}
 else if w.1=1 then s.origins.foldl RmS.drainO s
 else s.drainL w
def kB (w:Og):Og×Bool:=if w.1=0 then ((0,0),ύ) else if w.1=1 then ((0,0),ό) else if w.1=2 then ((1,0),ό) else ((w.1-1,w.2),ό)
def RmS.goesR (s:RmS) (w:Og):Bool:= !(kB w).2||(qm s.ret (kB w).1).getD ύ
def RmS.endW (s:RmS) (w:Og):RmS:=if s.goesR w then {s.drain w with ret:=qB s.ret w ό} else s.drain w
def RmS.stepW (s:RmS) (w:Og) (acc:Bool):RmS:=
 if s.closed then s.endW w else if w.1=0 then s.read else if w.1=1 then s.order else if w.1=2 then s.choose w.2 else if w.1=3 then s.rewrite w.2 else s.write w.2 acc
def RmS.pick (s:RmS) (w:Og) (acc:Bool):RmS×Bool:=if s.may w then (s.stepW w acc,ό) else (s,ύ)
def yb (c:CfR):Bool:=decide (1<=c.room/\c.room<=8)&&(decide (gi c.hold c.wait)&&(decide (1<=c.space/\c.space<=c.retry/\c.retry<=1000)&&decide (1<=c.most/\c.most<=10)))
def uL (c:CfR):RmS:=⟨c,ύ,[],0,[],⟨[],[],[]⟩,[],[],[],[],⟨0,0,0,0,0⟩,[]⟩
def ub (c:CfR):zX:=⟨F9 c.hold c.wait,ύ,0,⟨ύ,ύ,0,0⟩,ύ⟩
def RmS.publish (s:RmS) (p s0 s1 s2:Int):RmS×Int:=
 if s.closed then (s,7) else if (yv s.tab p s0 s1 s2).2=0 then ({s with tab:=(yv s.tab p s0 s1 s2).1,strs:=qB (qB (qB s.strs (p,0) (ub s.cfg)) (p,1) (ub s.cfg)) (p,2) (ub s.cfg)},0) else (s,(yv s.tab p s0 s1 s2).2)
def RmS.join (s:RmS) (x own sq st:Int):RmS×Int:=
 if s.closed then (s,7) else if (zV s.tab x own).2=0 then ({s with tab:=(zV s.tab x own).1,lanes:=qB s.lanes x (Y0 s.cfg.room.toNat s.cfg.most own sq st)},0) else (s,(zV s.tab x own).2)
def Y3 [DecidableEq K] (m:List (K×V)) (x:K):List (K×V):=m.filter λp=> !decide (p.1=x)
def Jj (s:RmS) (x:Int):Bool:=match qm s.lanes x with
 | some l=>l.gone
 | none=>ύ
def RmS.subscribe (s:RmS) (x p k:Int):RmS×Int:=
 if s.closed then (s,7) else if je k=ύ then (s,1) else if Jj s x then (s,5) else if (yI s.tab x p).2=0 then (match qm s.lanes x with
  | none=>(s,0)
  | some l=>({s with tab:=(yI s.tab x p).1,lanes:=qB s.lanes x (jA l k).1},(jA l k).2)) else (s,(yI s.tab x p).2)
def RmS.want (s:RmS) (x k:Int):RmS×Int:=
 if s.closed then (s,7) else if (decide (0<=x/\x<6)&&je k)=ύ then (s,1) else if ((qm s.tab.u x).getD sb0).2.1=ύ then (s,5) else (match qm s.lanes x with
  | none=>(s,0)
  | some l=>({s with lanes:=qB s.lanes x (jA l k).1},(jA l k).2))
def RmS.leave (s:RmS) (x:Int):RmS×Int:=
 if s.closed then (s,7) else if (zb s.tab x).2=0 then ({s with tab:=(zb s.tab x).1,book:=vW s.book x 7,lanes:=Y3 s.lanes x},0) else (s,(zb s.tab x).2)
def RmS.arrive (s:RmS) (b:List Int):RmS×Int:=
 if s.closed then (s,7) else if (s.queue.length:Int)<s.cfg.room then ({s with queue:=s.queue++[b]},0) else ({s with queue:=s.queue.tail++[b],cnt:={s.cnt with lost:=s.cnt.lost+1}},0)
def RmS.shut (s:RmS):RmS×Int:=if s.closed then (s,7) else ({s with closed:=ό},0)
def RmS.held (s:RmS):Nat:=(s.origins.map λo=>match qm s.strs o with
 | some t=>t.buf.holds.length
 | none=>0).sum
def Γl (x:AcS) (a:Option Addr) (b:Nat) (c:Option Addr) (d:Nat) (e:Option Addr) (f:Nat):Mm:=.o
instance (x:AcS) (a:Option Addr) (b:Nat) (c:Option Addr) (d:Nat) (e:Option Addr) (f:Nat):CoeDep Mm (Γl x a b c d e f) (List Value):=⟨[ι x.o.1,ι x.o.2,ι x.num,μ x.pk.mr,υ x.pk.ty,φ x.pk.sq,ω x.pk.st,ω x.pk.sc,δ a x.pk.ss.length b,μ x.pk.has,φ x.pk.pr,δ c x.pk.ex.length d,δ e x.pk.pl.length f]⟩
instance (x:AcS) (a:Option Addr) (b:Nat) (c:Option Addr) (d:Nat) (e:Option Addr) (f:Nat):CoeDep Mm (Γl x a b c d e f) (Array Value):=⟨((Γl x a b c d e f):List Value).toArray⟩
instance (x:AcS) (a:Option Addr) (b:Nat) (c:Option Addr) (d:Nat) (e:Option Addr) (f:Nat):CoeDep Mm (Γl x a b c d e f) Value:=⟨θ (Γl x a b c d e f)⟩
inductive Tg where
 | no | junk | room | ret | queue | table | book | lns | sts | data | pks | reqs
 | lane (x:Int)
 | str (o:Og)
variable {T:Nat->Tg} {u:Tg}
structure RmK where
 R:Nat
 M1:Nat
 RQ:Nat
 AQ:Nat
 tb:Nat
 ta:Nat
 tc:Nat
 td:Nat
 B:Nat
 b:Nat
 ML:Nat
 MS:Nat
 LA:List (Int×Nat)
 SA:List (Og×Nat)
variable {k:RmK}
def Qf (n:Nat):Value:= .pointer (ϊ ⟨n,0,ϋ⟩)
def yj (k:RmK) (vp vr:Value) (s:RmS):Array Value:=
 #[.pointer (ϊ ⟨k.B,0,ϋ⟩),.int .i64 s.cfg.room,.int .i64 s.cfg.hold,.int .i64 s.cfg.wait,.int .i64 s.cfg.space,.int .i64 s.cfg.retry,.int .i64 s.cfg.most,.bool s.closed,.map (ϊ k.M1),.int .i64 s.clock,
  .pointer (ϊ ⟨k.RQ,0,ϋ⟩),.pointer (ϊ ⟨k.tb,0,ϋ⟩),.map (ϊ k.ML),.map (ϊ k.MS),vp,vr,.int .i64 s.cnt.lost,.int .i64 s.cnt.malf,.int .i64 s.cnt.strange,.int .i64 s.cnt.told,.int .i64 s.cnt.acc]
def RBy:qO (List Int):=λw cs b=> ∃v,cs=[v]/\SlI .u8 w v b/\Byt b
def RAc:qO AcS:=λw cs a=> ∃vs ve vp,cs=[.int .i64 a.o.1,.int .i64 a.o.2,.int .i64 a.num,.bool a.pk.mr,.int .u8 a.pk.ty,.int .u16 a.pk.sq,.int .u32 a.pk.st,.int .u32 a.pk.sc,vs,.bool a.pk.has,.int .u16 a.pk.pr,ve,vp]/\PkS w vs ve vp a.pk
def RRq:qO RqS:=λw cs q=> ∃v,cs=[.int .i64 q.o.1,.int .i64 q.o.2,.int .i64 q.at_,v]/\SlI .u8 w v q.body
def QC (Rb:Nat) (t:zX):Array Value:= #[.pointer (ϊ ⟨Rb,0,ϋ⟩),.bool t.any,.int .i64 t.great,.bool t.asks.wanted,.bool t.asks.any,.int .i64 t.asks.last,.int .i64 t.asks.tries,.bool t.askedOf]
structure UJ (N:Nat->Prop) (w:World) (p Rb:Nat) (v:Value) (t:zX):Prop where
 blk:w.heap[p]? =ϊ (.cells (QC Rb t) 176 (0,0))
 buf:zC w Rb v t.buf
 ok:JOK t.buf
 sub: ∀b,N b->b<w.heap.size
 np:N p
 nb:N Rb
 ne:p≠Rb
 nv: ∀g,v.ownBlock=ϊ g->N g/\g≠p
def LP (N:Nat->Prop) (w:World) (p:Nat) (t:zX):Prop:= ∃Rb v,UJ N w p Rb v t
def RmK.Holds (k:RmK) (T:Nat->Tg) (w:World) (vp vr:Value) (s:RmS):Tg->Prop
 | .room=>T k.R= .room/\w.heap[k.R]? =ϊ (.cells (yj k vp vr s) 95 (0,0))
 | .ret=>T k.M1= .ret/\jm w k.M1 kO Value.bool s.ret
 | .queue=>T k.RQ= .queue/\T k.AQ= .queue/\RgR 1 229 35 RBy (λb=>T b≠ .data) w k.RQ k.AQ s.cfg.room.toNat s.queue
 | .table=>T k.tb= .table/\T k.ta= .table/\T k.tc= .table/\T k.td= .table/\ju w k.tb k.ta k.tc k.td s.tab
 | .book=>T k.B= .book/\T k.b= .book/\jE w k.B k.b s.book
 | .lns=>T k.ML= .lns/\jm w k.ML (Value.int .i64) Qf k.LA
 | .sts=>T k.MS= .sts/\jm w k.MS kO Qf k.SA
 | .pks=>jd 13 RAc (λb=>T b≠ .data/\T b≠ .pks) w 0 65 vp s.pks/\ ∀g,vp.ownBlock=ϊ g->T g= .pks
 | .reqs=>jd 4 RRq (λb=>T b≠ .data/\T b≠ .reqs) w 0 296 vr s.reqs/\ ∀g,vr.ownBlock=ϊ g->T g= .reqs
 | .lane x=>(∀p l,qm k.LA x=ϊ p->qm s.lanes x=ϊ l->zZ (λb=>T b= .lane x) w p l)/\(qm k.LA x).isSome=(qm s.lanes x).isSome
 | .str o=>(∀p t,qm k.SA o=ϊ p->qm s.strs o=ϊ t->LP (λb=>T b= .str o) w p t)/\(qm k.SA o).isSome=(qm s.strs o).isSome
 | .no=> ∀b,w.heap.size<=b->T b= .no
 | .junk=>True
 | .data=>True
structure RmX (T:Nat->Tg) (w0 w:World) (k:RmK) (vp vr:Value) (s:RmS) (F:List Nat):Prop where
 all: ∀t,k.Holds T w vp vr s t
 ge: ∀b,T b≠ .no->w0.heap.size<=b
 law: ∀b∈F,T b= .no/\w0.heap.size<=b/\b<w.heap.size
 more:qh w0 w
def qL (w0 w:World) (k:RmK) (s:RmS) (F:List Nat):Prop:= ∃T vp vr,RmX T w0 w k vp vr s F
def xk (T:Nat->Tg) (t:Tg) (w w':World):Nat->Tg:=λb=>if w.heap.size<=b/\b<w'.heap.size then t else T b
section
variable {T T':Nat->Tg} {w0 w w':World} {k:RmK} {vp vr:Value} {s:RmS} {F:List Nat} {t:Tg}
def RmX.fresh (h:RmX T w0 w k vp vr s F): ∀b,w.heap.size<=b->T b= .no:=h.all .no
def jj (G: ∀b,w.heap.size<=b->T b= .no) (H:u≠ .no) (b:Nat):xk T t w w' b=u↔(T b=u∨(u=t/\w.heap.size<=b/\b<w'.heap.size)):=by
 unfold xk;split
 ·rename_i d;constructor
  ·intro e;exact ϓ ⟨e.symm,d⟩
  ·rintro(e | e)
   ·rw[G b d.1] at e;exact ϧ e.symm H
   ·exact e.1.symm
 ·rename_i d;constructor
  ·exact ϐ
  ·rintro(e | e)
   ·exact e
   ·exact ϧ e.2 d
def jO (d: ∀b,w.heap.size<=b->T b= .no) (H:u≠ .no) (G:u≠t) (b:Nat):xk T t w w' b=u↔T b=u:=by
 rw[jj d H];constructor
 ·rintro(e | e)
  ·exact e
  ·exact ϧ e.1 G
 ·exact ϐ
def gQ (d: ∀b,w.heap.size<=b->T b= .no) (G:t≠ .no):(λb=>xk T t w w' b=t)=xy (λb=>T b=t) w w':=by
 funext b
 apply propext;rw[jj d G];unfold xy;simp
def JX (d: ∀b,w.heap.size<=b->T b= .no) (H:w.heap.size<=w'.heap.size): ∀b,w'.heap.size<=b->xk T t w w' b= .no:=λb G=>by
 unfold xk;rw[ώ τ];exact d b τ
def Holds.frame (h:k.Holds T w vp vr s u) (a:qk S w w') (G: ∀b,S b->T b≠u/\T b≠ .data) (H: ∀b,T' b=u↔T b=u) (Y: ∀b,T b= .data->T' b= .data) (ad:u≠ .no):k.Holds T' w' vp vr s u:=by
 have e:(λb=>T' b=u)=(λb=>T b=u):=by funext b;exact propext (H b)
 cases u with
 | no=>exact ϧ rfl ad
 | junk=>trivial
 | data=>trivial
 | room=>exact⟨(H _).2 h.1,a.blk h.2 (λx=>(G _ x).1 h.1)⟩
 | ret=>exact⟨(H _).2 h.1,h.2.away a (λx=>(G _ x).1 h.1)⟩
 | queue=>
  obtain⟨I,J,N⟩:=h;exact⟨(H _).2 I,(H _).2 J,N.step a (λx=>(G _ x).1 I) (λx=>(G _ x).1 J) (λb d=>(G b d).2) (λb d=>ϐ λe=>d (Y b e))⟩
 | table=>
  obtain⟨I,J,N,aa,ac⟩:=h;exact⟨(H _).2 I,(H _).2 J,(H _).2 N,(H _).2 aa,ac.away a (λx=>(G _ x).1 I) (λx=>(G _ x).1 J) (λx=>(G _ x).1 N) (λx=>(G _ x).1 aa)⟩
 | book=>
  obtain⟨I,J,N⟩:=h;exact⟨(H _).2 I,(H _).2 J,N.away a (λx=>(G _ x).1 I) (λx=>(G _ x).1 J)⟩
 | lns=>exact⟨(H _).2 h.1,h.2.away a (λx=>(G _ x).1 h.1)⟩
 | sts=>exact⟨(H _).2 h.1,h.2.away a (λx=>(G _ x).1 h.1)⟩
 | pks=>
  obtain⟨I,J⟩:=h;refine⟨(I.step (a.mono λb d=>⟨(G b d).2,(G b d).1⟩)).other (λb d=>ϐ ⟨λe=>d.1 (Y b e),λe=>d.2 ((H b).2 e)⟩),λg O=>(H _).2 (J g O)⟩
 | reqs=>
  obtain⟨I,J⟩:=h;refine⟨(I.step (a.mono λb d=>⟨(G b d).2,(G b d).1⟩)).other (λb d=>ϐ ⟨λe=>d.1 (Y b e),λe=>d.2 ((H b).2 e)⟩),λg O=>(H _).2 (J g O)⟩
 | lane x=>
  refine⟨λp l I J=> ?_,h.2⟩;rw[e];exact(h.1 p l I J).away a (λb d=>(G b d).1)
 | str o=>
  refine⟨λp t I J=> ?_,h.2⟩;rw[e];obtain⟨ab,v,x⟩:=h.1 p t I J;have U: ∀b,T b= .str o-> ¬S b:=λb d ae=>(G b ae).1 d
  exact⟨ab,v,a.blk x.blk (U _ x.np),⟨a.blk x.buf.blk (U _ x.nb),x.buf.row.away a (λg O=>U _ (x.nv g O).1)⟩,x.ok,λb d=>ϗ (x.sub b d) a.size,x.np,x.nb,x.ne,x.nv⟩
end
section
variable {K V:Type} [DecidableEq K]
def qE (m:List (K×V)) (k x:K) (v:V):qm (qB m k v) x=if x=k then ϊ v else qm m x:=by
 induction m with
 | nil=>simp[qB,qm]
 | cons p m ih=>
  obtain⟨a,u⟩:=p;unfold qB;by_cases e:k=a
  ·subst e;rw[ϒ rfl];by_cases e2:x=k<;>simp[qm,e2]
  ·rw[ώ e];by_cases e2:x=a
   ·subst e2;have: ¬x=k:=λh=>e h.symm
    simp[qm,this]
   ·simp only[qm,ώ e2];exact ih
def xq (m:List (K×V)) (k:K) (v:V):qm (qB m k v) k=ϊ v:=by rw[qE,ϒ rfl]
def kg (m:List (K×V)) {k x:K} (v:V) (h:x≠k):qm (qB m k v) x=qm m x:=by rw[qE,ώ h]
def ul (m:List (K×V)) (k x:K):qm (Y3 m k) x=if x=k then ϋ else qm m x:=by
 induction m with
 | nil=>simp[Y3,qm]
 | cons p m ih=>
  obtain⟨a,u⟩:=p;unfold Y3 at ih ⊢;rw[M6];by_cases e:a=k
  ·subst e;rw[ώ η,ih];by_cases e2:x=a<;>simp[qm,e2]
  ·rw[ϒ (by simp[e])];by_cases e2:x=a
   ·subst e2;simp[qm,e]
   ·simp only[qm,ώ e2];exact ih
def uk {m:List (K×V)} (d:(m.map Prod.fst).Nodup) (k x:K):qm (yX m k) x=if x=k then ϋ else qm m x:=by
 induction m with
 | nil=>simp[yX,qm]
 | cons p m ih=>
  obtain⟨a,u⟩:=p;rw[ϡ,E0] at d;unfold yX;by_cases e:k=a
  ·subst e;rw[ϒ rfl];by_cases e2:x=k
   ·subst e2;rw[ϒ rfl];have:=d.1;clear ih;have key: ∀(m:List (K×V)),x∉m.map Prod.fst->qm m x=ϋ:=by
     intro m
     induction m with
     | nil=>intro _;rfl
     | cons q m ih=>
      intro h;rw[ϡ,ϫ,not_or] at h;obtain⟨b,z⟩:=q;simp only[qm,ώ h.1];exact ih h.2
    exact key m this
   ·simp[qm,e2]
  ·rw[ώ e];by_cases e2:x=a
   ·subst e2;have: ¬x=k:=λh=>e h.symm
    simp[qm,this]
   ·simp only[qm,ώ e2];exact ih d.2
end
def qA (F:List Nat) (w w':World):Prop:=w.heap.size<=w'.heap.size/\ ∀b∈F,w'.heap[b]? =w.heap[b]?
section
variable {T T':Nat->Tg} {w0 w w':World} {k k':RmK} {vp vr vp' vr':Value} {s s':RmS} {F F' Fn:List Nat} {t:Tg}
def qA.refl (F:List Nat) (w:World):qA F w w:=⟨ϕ _,λ_ _=>rfl⟩
def qA.trans {w'':World} (h:qA F w w') (k:qA F w' w''):qA F w w'':=⟨ϙ h.1 k.1,λb d=>(k.2 b d).trans (h.2 b d)⟩
def qA.sub (h:qA F w w') (G: ∀b∈F',b∈F):qA F' w w':=⟨h.1,λb d=>h.2 b (G b d)⟩
def qA.blk {o:Obj} (h:qA F w w') (d:b∈F) (k:w.heap[b]? =ϊ o):w'.heap[b]? =ϊ o:=by rw[h.2 b d];exact k
def RmX.own (h:RmX T w0 w k vp vr s F) (G:t≠ .no/\t≠ .data) (a:qk (λb=>T b=t) w w') (Y:k'.Holds (xk T t w w') w' vp' vr' s' t)
  (rest: ∀u,u≠t->u≠ .no->k.Holds (xk T t w w') w' vp vr s u->k'.Holds (xk T t w w') w' vp' vr' s' u):RmX (xk T t w w') w0 w' k' vp' vr' s' F/\qA F w w':=by
 have I:=h.fresh;have U: ∀b,T b=t->w0.heap.size<=b:=λb d=>h.ge b (by rw[d];exact G.1)
 refine⟨⟨λu=> ?_,λb d=> ?_,λb d=> ?_,a.to_more h.more U⟩,a.size,λb d=>a.block b (h.law b d).2.2 (λe=>G.1 (by rw[<-e];exact(h.law b d).1))⟩
 ·by_cases e:u=t
  ·subst e;exact Y
  ·by_cases en:u= .no
   ·subst en;exact JX I a.size
   ·refine rest u e en (Holds.frame (h.all u) a (λb d=>⟨λH=>e (H.symm.trans d),λH=>G.2 (d.symm.trans H)⟩) (λb=>jO I en e b) (λb d=> ?_) en);exact(jO I η (C6 G.2) b).2 d
 ·unfold xk at d;split at d
  ·have:=h.more.size;omega
  ·exact h.ge b d
 ·obtain⟨J,N,O⟩:=h.law b d;refine⟨?_,N,ϗ O a.size⟩;unfold xk;rw[ώ τ];exact J
def RmX.mut (h:RmX T w0 w k vp vr s F) (a:qk (λb=>b∈F) w w'):RmX T w0 w' k vp vr s F:=by
 refine⟨λu=> ?_,h.ge,λb d=>⟨(h.law b d).1,(h.law b d).2.1,ϗ (h.law b d).2.2 a.size⟩,a.to_more h.more (λb d=>(h.law b d).2.1)⟩;by_cases en:u= .no
 ·subst en;exact λb d=>h.fresh b (ϙ a.size d)
 ·exact Holds.frame (h.all u) a (λb d=>⟨λe=>en (by rw[<-e];exact(h.law b d).1),λe=>by rw[(h.law b d).1] at e;cases e⟩) (λb=>Iff.rfl) (λb d=>d) en
def RmX.on (h:RmX T w0 w k vp vr s F) (m:qh w w'):RmX T w0 w' k vp vr s F:=h.mut (qk.of_more m)
def RmX.sub (h:RmX T w0 w k vp vr s F) (G: ∀b∈F',b∈F):RmX T w0 w k vp vr s F':=⟨h.all,h.ge,λb d=>h.law b (G b d),h.more⟩
def RmX.adds (h:RmX T w0 w k vp vr s F) (m:qh w w') (G: ∀b∈Fn,w.heap.size<=b/\b<w'.heap.size):RmX T w0 w' k vp vr s (Fn++F):=by
 have d:=h.on m;refine⟨d.all,d.ge,λb H=> ?_,d.more⟩;rcases ϥ.1 H with e | e
 ·exact⟨h.fresh b (G b e).1,ϙ h.more.size (G b e).1,(G b e).2⟩
 ·exact d.law b e
def RmX.data (h:RmX T w0 w k vp vr s F) (X:Nat->Prop) (G: ∀b,X b->T b= .no/\w0.heap.size<=b/\b<w.heap.size/\b∉F): ∃T',RmX T' w0 w k vp vr s F/\(∀b,X b->T' b= .data)/\ ∀b,¬X b->T' b=T b:=by
 classical
 have e: ∀u,u≠ .no->u≠ .data-> ∀b,(if X b then Tg.data else T b)=u↔T b=u:=λu H I b=>by
  by_cases d:X b
  ·rw[ϒ d,(G b d).1];exact⟨λx=>ϧ x.symm I,λx=>ϧ x.symm H⟩
  ·rw[ώ d]
 have N: ∀b,T b= .data->(if X b then Tg.data else T b)= .data:=λb d=>by
  split
  ·rfl
  ·exact d
 refine⟨λb=>if X b then .data else T b,⟨λu=> ?_,λb d=> ?_,λb d=> ?_,h.more⟩,λb d=>ϒ d,λb d=>ώ d⟩
 ·by_cases en:u= .no
  ·subst en;intro b d;show (if X b then Tg.data else T b)= .no;rw[ώ (λx=>by have:=(G b x).2.2.1;omega)];exact h.fresh b d
  ·by_cases ed:u= .data
   ·subst ed;trivial
   ·exact Holds.frame (h.all u) (qk.refl (λ_=>False) w) (λb d=>d.elim) (e u en ed) N en
 ·by_cases hx:X b
  ·exact(G b hx).2.1
  ·rw[ώ hx] at d;exact h.ge b d
 ·obtain⟨H,I,J⟩:=h.law b d;refine⟨?_,I,J⟩;show (if X b then Tg.data else T b)= .no;rw[ώ (λx=>(G b x).2.2.2 d)];exact H
def qL.on (h:qL w0 w k s F) (m:qh w w'):qL w0 w' k s F:=by
 obtain⟨T,vp,d,x⟩:=h;exact⟨T,vp,d,x.on m⟩
def qL.sub (h:qL w0 w k s F) (d: ∀b∈F',b∈F):qL w0 w k s F':=by
 obtain⟨T,vp,G,x⟩:=h;exact⟨T,vp,G,x.sub d⟩
def qL.adds (h:qL w0 w k s F) (m:qh w w') (d: ∀b∈Fn,w.heap.size<=b/\b<w'.heap.size):qL w0 w' k s (Fn++F):=by
 obtain⟨T,vp,G,x⟩:=h;exact⟨T,vp,G,x.adds m d⟩
def qL.more (h:qL w0 w k s F):qh w0 w:=h.elim λ_ h=>h.elim λ_ h=>h.elim λ_ h=>h.more
def qL.law (h:qL w0 w k s F): ∀b∈F,w0.heap.size<=b/\b<w.heap.size:=h.elim λ_ h=>h.elim λ_ h=>h.elim λ_ h b d=>(h.law b d).2
def qL.stay (h:qL w0 w k s F) (m:qh w w'):qA F w w':=⟨m.size,λb d=>m.block b (h.law b d).2⟩
end
def LE [DecidableEq K] {m:List (K×V)} (d:(m.map Prod.fst).Nodup) {k:K} {f:V}:qm m k=ϊ f↔(k,f)∈m:=by
 induction m with
 | nil=>simp[qm]
 | cons p m ih=>
  obtain⟨a,v⟩:=p;rw[ϡ,E0] at d;simp only[qm];by_cases e:k=a
  ·subst e;rw[ϒ rfl];constructor
   ·intro h;injection h with h
    subst h;simp
   ·intro h;rcases ϫ.1 h with h | h
    ·injection h with _ h
     rw[h]
    ·exact ϧ (C1.2 ⟨(k,f),h,rfl⟩) d.1
  ·rw[ώ e,ih d.2];constructor
   ·intro h;exact Ϧ _ h
   ·intro h;rcases ϫ.1 h with h | h
    ·injection h with h _
     exact ϧ h e
    ·exact h
def Pc (d:Sb->Bool) (u:List (Int×Sb)) (x:Int):x∈prR d u↔x∈subIds/\ ∃sb,qm u x=ϊ sb/\d sb=ό:=by
 unfold prR;rw[G2];cases h:qm u x with
 | none=>simp[h]
 | some sb=>simp[h]
def Dk:subIds.Pairwise (· < ·):=by decide
def Wn (x:Int):x∈subIds↔0<=x/\x<6:=by
 unfold subIds;constructor
 ·intro h;simp at h;omega
 ·intro h;simp;omega
def Mn (d:Sb->Bool) (u:List (Int×Sb)):(prR d u).Pairwise (· < ·):=List.Pairwise.sublist X4 Dk
def V9 {u:List (Int×Sb)} (G:(u.map Prod.fst).Nodup) (I: ∀x,(qm u x).isSome=ό->0<=x/\x<6) (d:Sb->Bool):uR d u=prR d u:=by
 have aa:(vG d u).Nodup:=by
  have:vG d u=(u.filter λq=>d q.2).map Prod.fst:=by
   unfold vG;clear G I
   induction u with
   | nil=>rfl
   | cons q l ih=>
    by_cases e:d q.2=ό<;>simp[e,ih]
  rw[this];exact List.Nodup.sublist ((X4).map _) G
 have Y: ∀x,x∈vG d u↔x∈prR d u:=λx=>by
  rw[Pc,Wn];unfold vG;rw[Q2];constructor
  ·rintro⟨⟨a,H⟩,U,h⟩;by_cases e:d H=ό
   ·simp only[e,Ψ] at h;cases h;have:=(LE G).2 U;exact⟨I _ (by rw[this];rfl),H,this,e⟩
   ·simp[e] at h
  ·rintro⟨_,H,N,O⟩;exact⟨(x,H),(LE G).1 N,by simp[O]⟩
 have J:=Mn d u;have ab:(prR d u).Nodup:=J.imp λ{a b} h e=>by omega
 have ac:(vG d u).Perm (prR d u):=(List.perm_ext_iff_of_nodup aa ab).2 Y;unfold uR;rw[QD ac,ZY (J.imp λ{a b} h=>by omega)]
def YK (a b:Og) (w:World):(Op.equal 37 (kO a) (kO b)).run prog w= .ok (decide (a=b)) w:=by
 have J:prog.stoodInHeld 37=ύ:=by kernel_rfl
 obtain⟨d,G⟩:=a;obtain⟨H,I⟩:=b;unfold Op.equal kO;rw[show Op.maxDepth=9999+1 from rfl,run_equalIn_agg w 9999 37 _ _ ξ J];simp[go_sem];by_cases e1:d=H<;>by_cases e2:G=I<;>simp[e1,e2]
def UV:yT prog 37 kO:=
 yT.of_ask underlying37 (λa b=>by simp[Instr.sameNow]) YK (λb k w=>by
  rw[show (10000:Nat)=9999+1 from rfl];unfold Instr.checkKey kO
  simp[run_underlying underlying37,go_sem,Pw underlying3 9999 ζ]) (λk=>by simp[Instr.sameBits,kO])
def PS (w:World):(zeroValue 4).run prog w= .ok (μ ύ) w:=by kernel_rfl
def U5 (w:World):(zeroValue 140).run prog w= .ok (π ϋ) w:=by kernel_rfl
def PO (w:World):(zeroValue 177).run prog w= .ok (π ϋ) w:=by kernel_rfl
def PF (o:Option Nat):Value:= .pointer (o.map λn=>⟨n,0,ϋ⟩)
def xH {L:List (Int×Nat)} (h:jm w b (Value.int .i64) Qf L) (x:Int) (c:Bool):
  (Instr.lookup 90 (.map (ϊ b)) (ι x) c).run prog w= .ok (if c then .tuple #[PF (qm L x),μ (qm L x).isSome] else PF (qm L x)) w:=by
 rw[h.look ug underlying90 (U5 w) x c];cases qm L x<;>cases c<;>rfl
def yU {L:List (Og×Nat)} (h:jm w b kO Qf L) (o:Og) (c:Bool):
  (Instr.lookup 91 (.map (ϊ b)) (θ #[ι o.1,ι o.2]) c).run prog w= .ok (if c then .tuple #[PF (qm L o),μ (qm L o).isSome] else PF (qm L o)) w:=by
 have:=h.look Ji underlying91 (PO w) o c;unfold kO at this;rw[this];cases qm L o<;>cases c<;>rfl
def Kz {L:List (Og×Bool)} (h:jm w b kO μ L) (o:Og):
  (Instr.lookup 87 (.map (ϊ b)) (θ #[ι o.1,ι o.2]) ύ).run prog w= .ok (μ ((qm L o).getD ύ)) w:=by
 have:=h.look UV underlying87 (PS w) o ύ;unfold kO at this;rw[this];cases qm L o<;>rfl
def L8 (h:jE w B b m) (sub id:Int):
  Calls prog 20 #[θ #[γ B],ι sub,ι id] w λe w'=>e= .returned (.tuple #[ι ((qm m (sub,id)).getD 0),μ (qm m (sub,id)).isSome])/\qh w w':=by
 have G:=κ h;clear h
 go_enter func20,ntmps20
 go_wp2_with (go_at_call 61;(go_call Rh (G.o.more (qh.alloc w (.cells #[γ B] 86))) (sub,id) as e w1 ⟨rfl,d⟩;have H:=κ d;clear d))
 go_ret2
 exact⟨rfl,Z0.trans H.o⟩
def LZ (h:jE w B b m) (sub id:Int):
  Calls prog 135 #[θ #[γ B],ι sub,ι id] w λe w'=>e= .returned (μ (decide (qm m (sub,id)=ϊ 0)))/\qh w w':=by
 have J:=κ h;clear h;have e:decide (qm m (sub,id)=ϊ 0)=((qm m (sub,id)).isSome&&((qm m (sub,id)).getD 0==0)):=by cases qm m (sub,id) with | none=>simp | some x=>(by_cases hx:x=0<;>simp[hx])
 rw[e];generalize O:qm m (sub,id)=g at *;have N:=κ O;clear O;obtain⟨f,I⟩:=ν (g.getD 0);obtain⟨i,hi⟩:=ν (g.isSome);have G:=κ (L8 (J.o.more (qh.alloc w (.cells #[γ B] 86))) sub id);rw[N.o,I,hi] at G;rw[I,hi];clear e I hi N J
 go_enter func135,ntmps135
 cases i with
 | true=>
  go_wp2_with (go_at_call 20;(go_call G.o as e w1 ⟨rfl,d⟩;have H:=κ d;clear d))
  go_ret;exact⟨rfl,Z0.trans H.o⟩
 | false=>
  go_wp2_with (go_at_call 20;(go_call G.o as e w1 ⟨rfl,d⟩;have H:=κ d;clear d))
  go_ret;exact⟨rfl,Z0.trans H.o⟩
def QB (h:jE w B b m) (sub id f:Int):
  Calls prog 122 #[θ #[γ B],ι sub,ι id,ι f] w λe w'=>e= .returned (.tuple #[])/\jE w' B b (jn m sub id f)/\qk (λx=>x=b) w w':=by
 have I:=κ h;have O:qh w (w.alloc (.cells #[γ B] 86)):=qh.alloc _ _;have Y:=κ (qp w (.cells #[γ B] 86));have H:=κ (LZ (I.o.more O) sub id);clear h O;unfold jn;by_cases ho:qm m (sub,id)=ϊ 0
 ·rw[ϒ ho];rw[Ϩ ho] at H;clear ho
  go_enter func122,ntmps122
  go_wp2_with (first | (go_at_call 135;(go_call H.o as e w1 ⟨rfl,d⟩;have G:Hid (qh w w1):=κ (Z0.trans d);have ab:w1.cell? ⟨w.heap.size,0,ϋ⟩=ϊ (π (ϊ ⟨B,0,ϋ⟩)):=qi (qj d Y.o) 0 rfl;clear d)) | (go_at_call 177;(go_call Lz (I.o.more G.o) (sub,id) f as e w2 ⟨rfl,N,J⟩;have aa:=κ N;have U:=κ J;clear N J)))
  (refine bodyPost_end (v:= .tuple #[]) ?re1 rfl ?_;(case re1=>simp[results,results122,go_sem]))
  exact⟨rfl,aa.o,(qk.of_more G.o).trans U.o⟩
 ·rw[ώ ho];rw[Ϯ ho] at H;clear ho
  go_enter func122,ntmps122
  go_wp2_with (go_at_call 135;(go_call H.o as e w1 ⟨rfl,d⟩;have G:Hid (qh w w1):=κ (Z0.trans d);clear d))
  (refine bodyPost_end (v:= .tuple #[]) ?re2 rfl ?_;(case re2=>simp[results,results122,go_sem]))
  exact⟨rfl,I.o.more G.o,qk.of_more G.o⟩
def RO:qO Og:=λ_ cs o=>cs=[.int .i64 o.1,.int .i64 o.2]
def Vf:gj RO:=λ_ _ _ _ _ h=>h
def DF {i j:Nat} (hi:i<3) (d:j<3):orgs.take (3* i+(j+1))=orgs.take (3* i+j)++[((i:Int),(j:Int))]:=by
 have hi:i=0∨i=1∨i=2:=by omega
 have d:j=0∨j=1∨j=2:=by omega
 rcases hi with rfl | rfl | rfl<;>rcases d with rfl | rfl | rfl<;>rfl
def EH (n:Nat) (p:Og->Bool):((orgs.take n).filter p).length<=9:=ϙ (D2 _ _) (by rw[ϛ];show min n 9<=9;omega)
def Vc (SA:List (Og×Nat)):List Og:=orgs.filter λo=>(qm SA o).isSome
def UD {R ad:Nat} {SA:List (Og×Nat)} (ai:R<w.heap.size) (aj:w.cell? ⟨R,13,ϋ⟩=ϊ (.map (ϊ ad))) (am:jm w ad kO Qf SA):
  Calls prog 64 #[γ R] w λe w'=> ∃v,e= .returned v/\jd 2 RO (λ_=>False) w' w.heap.size 58 v (Vc SA)/\qh w w':=by
 obtain⟨aM,hi,aH,aI,aJ⟩:=info_parts (P:=prog) (e:=58) (z:= θ #[ι 0,ι 0]) (size:=2) (bytes:=16) ξ;have ax:=κ am;have ar:=κ aj;have ay:=κ ai;clear am aj ai;obtain⟨p,an⟩: ∃p:Og->Bool,Hid (p=λo=>(qm SA o).isSome):=⟨_,κ rfl⟩;have e0:Vc SA=(orgs.take 9).filter p:=by rw[an.o];rfl
 rw[e0];have aw:=κ (λn=>EH n p);clear e0
 go_enter func64,ntmps64
 go_wp2
 go_loopw [3,9] (λu H wr=> ∃i:Nat,i<=3/\H= ι i/\(∃N J I,u= δ N J I)/\jd 2 RO (λ_=>False) wr w.heap.size 58 u ((orgs.take (3* i)).filter p)/\qh w wr) (λ_ H _=>3-(intOf H).toNat)
 case atStart=>exact⟨0,τ,rfl,⟨_,_,_,rfl⟩,jd.nil _ _ _ _ _ _,qh.refl _⟩
 case round=>
  obtain⟨i,aR,rfl,⟨N,J,I,rfl⟩,Y,U⟩:=hrel;have G:=κ Y;have d:=κ U;clear Y U;by_cases hlt:i<3
  ·have aE:(i:Int)<3:=by omega
   obtain⟨aq,rfl⟩: ∃aq:World,aq=wr:=⟨_,rfl⟩;go_wp2
   go_loopw [3,12] (λu H wr=> ∃j:Nat,j<=3/\H= ι j/\(∃N J I,u= δ N J I)/\jd 2 RO (λ_=>False) wr w.heap.size 58 u ((orgs.take (3* i+j)).filter p)/\qh w wr) (λ_ H _=>3-(intOf H).toNat)
   case atStart=>exact⟨0,τ,rfl,⟨_,_,_,rfl⟩,G.o,d.o⟩
   case round=>
    clear G d;obtain⟨j,aS,rfl,⟨N,J,I,rfl⟩,Y,U⟩:=hrel;have G:=κ Y;have d:=κ U;clear Y U;by_cases hltj:j<3
    ·have aF:(j:Int)<3:=by omega
     have ap:=DF hlt hltj;have au:Hid (∀b,(δ N J I).ownBlock=ϊ b->w.heap.size<=b):=κ (λb h=>G.o.ge h);have av:=κ (aw.o (3* i+j));obtain⟨W1,ab⟩:=ν (wr.alloc (.cells #[ι (i:Int),ι (j:Int)] 58));have O:Hid (qh wr W1):=κ (by rw[<-ab];exact qh.alloc _ _);have af:Hid (W1.heap[wr.heap.size]? =ϊ (.cells #[ι (i:Int),ι (j:Int)] 58 (0,0))):=κ (by rw[<-ab];exact qp wr _);have aC:W1.cell? ⟨R,13,ϋ⟩=ϊ (.map (ϊ ad)):=by rw[(d.o.trans O.o).cells _ _ ay.o];exact ar.o
     have q: ∀n,_:=λn=>yU (ax.o.more ((d.o.trans O.o).dr n)) ((i:Int),(j:Int)) ό
     simp only[Ψ] at q;have ao:p ((i:Int),(j:Int))=(qm SA ((i:Int),(j:Int))).isSome:=by rw[an.o]
     have ah:=κ ap;generalize qm SA ((i:Int),(j:Int))=g at *;clear ap;have aO:=β0 af.o;have aP:=β1 af.o;have ag:=κ ao;clear ao
     go_upto_region 9 with fail
     (try rw[ab])
     clear ab;refine wp_region_quiet_lit ξ ξ ?_
     repeat (go_big_quiet_step (fail))
     refine wpQuiet_nil ?_;intro _ aG;obtain⟨nq,rfl⟩:=aG;have aa:Hid (qh w (W1.drewN nq)):=κ ((d.o.trans O.o).dr _);have aA:=κ ((G.o.on O.o).on ((qh.drewN W1 nq).al (.cells #[ι (i:Int),ι (j:Int)] 58)));clear q aC;cases g with
     | none=>
      have ac:Hid ((orgs.take (3* i+(j+1))).filter p=(orgs.take (3* i+j)).filter p):=κ (by rw[ah.o,J0,M6,ώ (by rw[ag.o];simp)];simp);have az:=κ ((G.o.on O.o).on (qh.drewN W1 nq));go_wp2;go_roundw
      case rel=>exact⟨j+1,τ,by go_num,⟨_,_,_,rfl⟩,by rw[ac.o];exact az.o,aa.o⟩
      case measure=>simp[intOf];omega
     | some g=>
      have ac:Hid ((orgs.take (3* i+(j+1))).filter p=(orgs.take (3* i+j)).filter p++[((i:Int),(j:Int))]):=κ (by rw[ah.o,J0,M6,ϒ (by rw[ag.o];rfl)];simp);have aT:=av.o
      go_wp2_with (at_builtin;(refine jr (R:=RO) (D:=λ_=>False) _ rfl (.tmp 28) (.tmp 30) 171 rfl w.heap.size 58 aM (θ #[ι 0,ι 0]) 2 16 underlying171 hi aH aI aJ rfl ζ _ ((orgs.take (3* i+j)).filter p) rfl aA.o W1.heap.size [ι (i:Int),ι (j:Int)] ((i:Int),(j:Int)) rfl rfl (ze η) Z5 (λw' _=>rfl) (λb h=>h.elim) ζ τ (aa.o.al _).size ?_;intro v' w8 ae ak aD;have aN:Hid (qh w w8):=κ (Below.grown (aa.o.al _) ak (aa.o.al _).size au.o);obtain⟨aV,aU,aQ,rfl,aK,aL⟩:=ae.shape;have aB:=κ ae;clear ae ak aD aK aL))
      go_roundw
      case rel=>exact⟨j+1,τ,by go_num,⟨_,_,_,rfl⟩,by rw[ac.o];exact aB.o,aN.o⟩
      case measure=>simp[intOf];omega
    ·obtain rfl:j=3:=by omega
     have aF: ¬((3:Nat):Int)<3:=by omega
     go_wp2;go_roundw
     case rel=>exact⟨i+1,τ,by go_num,⟨_,_,_,rfl⟩,by rw[Nat.mul_add];exact G.o,d.o⟩
     case measure=>simp[intOf];omega
  ·obtain rfl:i=3:=by omega
   have aE: ¬((3:Nat):Int)<3:=by omega
   go_wp2;go_ret;exact⟨_,rfl,G.o,d.o⟩
def Lq (n:Int) (w:World):Calls prog 245 #[ι n] w λe w'=>e= .returned (φ (n%65536))/\w=w':=by
 go_enter func245,ntmps245
 go_wp2;go_ret;exact⟨rfl,rfl⟩
def Gf (n:Int) (d:U16 n) (w:World):Calls prog 191 #[φ n] w λe w'=>e= .returned (ι (65536+n))/\w=w':=by
 obtain⟨G,H⟩:=d
 go_enter func191,ntmps191
 go_wp2;go_ret;exact⟨rfl,rfl⟩
def Np (a b:Int): -32768<=ahd a b/\ahd a b<=32767:=by unfold ahd;omega
def Gr (d n:Int) (J:xQ d) (H:U16 n) (w:World):Calls prog 192 #[ι d,φ n] w λe w'=>e= .returned (ι (PH d n))/\w=w':=by
 obtain⟨N,O⟩:=J;have U:=Np (d%65536) n;have G:U16 (d%65536):=by unfold U16;omega
 unfold PH;have I:=κ (λw=>YY (d%65536) n w G H);clear G H;generalize ahd (d%65536) n=a at *
 go_enter func192,ntmps192
 go_wp2_with (first | (go_at_call 245;(go_call Lq d _ as e w1 ⟨rfl,rfl⟩)) | (go_at_call 244;(go_call I.o _ as e w2 ⟨rfl,rfl⟩)))
 go_ret;exact⟨rfl,rfl⟩
def yW (c t:Int) (w:World):Calls prog 38 #[θ #[ι c,ι t]] w λe w'=>e= .returned (μ (!decide (c=t)))/\qh w w':=by
 go_enter func38,ntmps38
 go_wp2;go_ret;exact⟨by congr 1,qh.alloc _ _⟩
def QY (sp d:Int) (w:World):Calls prog 42 #[θ #[ι sp,ι d]] w λe w'=>e= .returned (μ (decide (1<=sp/\sp<=d/\d<=1000)))/\qh w w':=by
 have e:decide (1<=sp/\sp<=d/\d<=1000)=(decide (1<=sp)&&(decide (sp<=d)&&decide (d<=1000))):=by by_cases h1:1<=sp<;>by_cases h2:sp<=d<;>by_cases h3:d<=1000<;>simp[h1,h2,h3]
 rw[e];clear e;by_cases h1:1<=sp
 ·by_cases h2:sp<=d
  ·go_enter func42,ntmps42
   go_wp2;go_ret;exact⟨by simp[h1,h2],qh.alloc _ _⟩
  ·go_enter func42,ntmps42
   go_wp2;go_ret;exact⟨by simp[h1];omega,qh.alloc _ _⟩
 ·go_enter func42,ntmps42
  go_wp2;go_ret;exact⟨by simp;omega,qh.alloc _ _⟩
def Lw (sp d G:Int) (ah:1<=sp) (ai:sp<=d) (aj:d<=1000) (ak:0<=G) (al:G<=1000000) (w:World):
  Calls prog 141 #[θ #[ι sp,ι d],ι G] w λe w'=>e= .returned (ι (Y2 sp d G))/\qh w w':=by
 go_enter func141,ntmps141
 go_wp2
 go_step3
 go_wp2
 go_step3
 go_wp2
 go_loopw [5,6] (λg O wr=> ∃(k:Nat) (H:Int),O= ι (k+1)/\g= ι H/\0<=H/\H<=2000/\(k:Int)<=1000000/\ZS d ((G-1).toNat-k) H=ZS d (G-1).toNat sp/\(k=0∨(k:Int)<=G-1)/\wr=w.alloc (.cells #[ι sp,ι d] 23)) (λ_ O _=>(G-1).toNat+1-(intOf O).toNat)
 case atStart=>exact⟨0,sp,rfl,rfl,τ,τ,τ,rfl,ϐ rfl,rfl⟩
 case round=>
  obtain⟨k,H,rfl,rfl,af,ag,am,aa,ab,rfl⟩:=hrel;have ac:=κ (qp w (.cells #[ι sp,ι d] 23));have N:=κ aa;have ad:=κ ab;clear aa ab;have ae:=β1 ac.o;by_cases hlt:(k:Int)+1<G
  ·obtain⟨n,J⟩: ∃n,(G-1).toNat-k=n+1:=⟨(G-1).toNat-k-1,τ⟩;by_cases hb1:H<1
   ·have I:Hid (Y2 sp d G=if H<=d then H else d):=κ (by unfold Y2;rw[<-N.o,J];unfold ZS;rw[ϒ (ϐ hb1)]);clear J;go_wp2
    (try rw[Exit.noGoto_ret])
    go_ret;exact⟨by rw[I.o];first | rfl | (congr 2;try omega) | skip,qh.alloc _ _⟩
   ·by_cases hb2:d<=H
    ·have I:Hid (Y2 sp d G=if H<=d then H else d):=κ (by unfold Y2;rw[<-N.o,J];unfold ZS;rw[ϒ (ϓ hb2)]);clear J;go_wp2
     (try rw[Exit.noGoto_ret])
     go_ret;exact⟨by rw[I.o];first | rfl | (congr 2;try omega) | skip,qh.alloc _ _⟩
    ·have Y:ZS d n (2* H)=ZS d (G-1).toNat sp:=by rw[<-N.o,J];conv=>rhs;unfold ZS;rw[ώ τ]
     have I:=κ Y;have U:=κ J;clear Y J;go_wp2;go_roundw
     case rel=>exact⟨k+1,H* 2,by go_num,rfl,τ,τ,τ,by rw[show (G-1).toNat-(k+1)=n by have:=U.o;omega,Int.mul_comm];exact I.o,ϓ τ,trivial⟩
     case measure=>have:=U.o;simp[intOf];omega
  ·have I:Hid (Y2 sp d G=if H<=d then H else d):=κ (by unfold Y2;rw[<-N.o,show (G-1).toNat-k=0 by have:=ad.o;omega];rfl);go_wp2
   (try rw[Exit.noGoto_ret])
   go_ret;exact⟨by rw[I.o];first | rfl | (congr 2;try omega) | skip,qh.alloc _ _⟩
def FO (sp G:Int) (a:PN) (d:Bool) (H:Int) (aV:1<=sp) (aW:sp<=G) (aX:G<=1000) (aK:0<=a.tries) (aL:a.tries<=1000000) (ba:xQ a.last) (bb:xQ H) (w:World):
  Calls prog 84 #[θ #[ι sp,ι G],θ #[μ a.wanted,a.any,ι a.last,ι a.tries],d,ι H] w λe w'=>
   e= .returned (.tuple #[θ #[μ (vY sp G a d H).1.wanted,μ (vY sp G a d H).1.any,ι (vY sp G a d H).1.last,ι (vY sp G a d H).1.tries],μ (vY sp G a d H).2])/\qh w w':=by
 obtain⟨O,I,al,ah⟩:=a;obtain⟨bd,be⟩:=ba;obtain⟨br,bs⟩:=bb;simp only at aK aL bd be ⊢;obtain⟨T,ao⟩:=ν (uS ⟨O,I,al,ah⟩ d);have aY:0<=T/\T<=1000000:=by rw[<-ao];unfold uS;split<;>first | exact⟨aK,aL⟩ | exact⟨τ,τ⟩
 obtain⟨t0,t1⟩:=aY;have av:=κ ao;obtain⟨c,ay⟩:=ν (LH sp G ⟨O,I,al,ah⟩ d H);have aO:=κ ay;obtain⟨y,aB⟩:=ν (vY sp G ⟨O,I,al,ah⟩ d H);have aG:Hid (y=if c then (⟨d,I,al,T⟩,ύ) else (⟨d,ό,H,T+1⟩,ό)):=κ (by rw[<-aB,<-ay,<-ao];rfl);obtain⟨q,aJ⟩:=ν ((!d|| !O));have au:=κ aJ;obtain⟨g,az⟩:=ν (Y2 sp G T);have aQ:=κ az;have ar:=κ (λw=>Lw sp G T aV aW aX t0 t1 w);rw[az] at ar;rw[aB];clear ao ay aJ aB az
 go_enter func84,ntmps84
 go_upto_region 1 with fail
 obtain⟨ai,af⟩:=ν ((((w.alloc (.cells #[ι sp,ι G] 23)).alloc (.cells #[μ O,I,ι al,ι ah] 174)).alloc (.cells #[μ ύ,ύ,ι 0,ι 0] 174)));have J:Hid (ai.heap[w.heap.size+1]? =ϊ (.cells #[μ O,I,ι al,ι ah] 174 (0,0))):=κ (by rw[<-af];exact qv (qH η) _);have ac:Hid (ai.heap[w.heap.size]? =ϊ (.cells #[ι sp,ι G] 23 (0,0))):=κ (by rw[<-af];exact qv (qv (qp w _) _) _);have ad:Hid (ai.heap[w.heap.size+1+1]? =ϊ (.cells #[μ ύ,ύ,ι 0,ι 0] 174 (0,0))):=κ (by rw[<-af];exact qH η);have ae:Hid (qh w ai):=κ (by rw[<-af];exact(Z0.al _).al _);rw[af];clear af;have aj:w.heap.size<=w.heap.size+1:=by omega
 have U:w.heap.size<=w.heap.size+1+1:=by omega
 have aN:w.heap.size≠w.heap.size+1:=by omega
 have ak:w.heap.size+1+1≠w.heap.size+1:=by omega
 have an:=β0 J.o
 go_cut [16] from 10 to 16 (λv Y=>v= μ q/\Y=ai)
 case first=>
  cases d<;>cases O<;>(go_wp2;go_meet;exact⟨by rw[<-au.o];rfl,rfl⟩)
 case rest=>
 obtain⟨rfl,aS⟩:=hcut;subst aS
 go_upto_if 16 with fail
 go_cut [] from 17 to 17 (λY=>Y.heap[w.heap.size+1]? =ϊ (.cells #[μ O,I,ι al,ι T] 174 (0,0))/\Y.heap[w.heap.size]? =ϊ (.cells #[ι sp,ι G] 23 (0,0))/\Y.heap[w.heap.size+1+1]? =ϊ (.cells #[μ ύ,ύ,ι 0,ι 0] 174 (0,0))/\qh w Y)
 case first=>
  have aU:=ql J.o 3;have c3:=β3 J.o;cases q with
  | true=>
   have aA:Hid (0=T):=κ (by rw[<-av.o];unfold uS;rw[ώ (by have:=au.o;cases d<;>cases O<;>simp_all)]);go_wp2;go_meet;exact⟨qF (qt J.o 3 _) (by rw[<-aA.o];rfl),qs ac.o _ _ aN,qs ad.o _ _ ak,ae.o.st (p:=⟨w.heap.size+1,3,ϋ⟩) aj _⟩
  | false=>
   have aA:Hid (ah=T):=κ (by rw[<-av.o];unfold uS;rw[ϒ (by have:=au.o;cases d<;>cases O<;>simp_all)]);go_wp2;go_meet;exact⟨by rw[<-aA.o];exact J.o,ac.o,ad.o,ae.o⟩
 case rest=>
 obtain⟨ax,aH,aI,aM⟩:=hcut;have aT:=ql ax 0;have aq:=κ ax;have aC:=κ aH;have aD:=κ aI;have aF:=κ aM;clear J ac ad ae an ax aH aI aM;have an:=β0 aq.o
 go_upto_region 4 with fail
 obtain⟨ab,ag⟩:=ν (wc.setCell ⟨w.heap.size+1,0,ϋ⟩ (μ d));have J:Hid (ab.heap[w.heap.size+1]? =ϊ (.cells #[μ d,I,ι al,ι T] 174 (0,0))):=κ (by rw[<-ag];exact qF (qt aq.o 0 _) rfl);have ac:Hid (ab.heap[w.heap.size]? =ϊ (.cells #[ι sp,ι G] 23 (0,0))):=κ (by rw[<-ag];exact qs aC.o _ _ aN);have ad:Hid (ab.heap[w.heap.size+1+1]? =ϊ (.cells #[μ ύ,ύ,ι 0,ι 0] 174 (0,0))):=κ (by rw[<-ag];exact qs aD.o _ _ ak);have ae:Hid (qh w ab):=κ (by rw[<-ag];exact aF.o.st (p:=⟨w.heap.size+1,0,ϋ⟩) aj _);rw[ag];clear ag aq aC aD aF an aT
 go_cut [36] from 20 to 36 (λv Y=>v= μ c/\qh ab Y)
 case first=>
  have am:=λ(x:qu ab)=>qj x.h J.o
  have bg:=λx=>β1 (am x);have bh:=λx=>β2 (am x);have bi:=λx=>β3 (am x);clear am
  have aw:=λ(x:qu ab)=>qj x.h ac.o
  have bj:=λx=>β0 (aw x);have bk:=λx=>β1 (aw x);clear aw
  obtain⟨aR,aZ⟩:=ν (decide (H-al<g));have aP:Hid ((!d||(I&&aR))=c):=κ (by rw[<-aO.o,<-aZ,<-aQ.o,<-av.o];rfl)
  cases d<;>cases I<;>(
   refine qG _ (qh.refl _) ξ ξ ?_
   repeat (go_big_quiet_step ((go_at_call 141;exact xn (ar.o _))))
   refine wpQuiet_nil ?_;intro _ bc;obtain⟨bf,rfl⟩:=bc;go_wp2;go_meet
   exact⟨by rw[<-aP.o];rfl,bf.h⟩)
 case rest=>
 obtain⟨rfl,ap⟩:=hcut;have aa:=κ (qj ap J.o);have N:=κ (qj ap ad.o);have aE:=κ (ae.o.trans ap);clear J ac ad ae ap ar;have an:=β0 aa.o;have c1:=β1 aa.o;have bl:=ql aa.o 1;have c2:=β2 aa.o;have bm:=ql aa.o 2;have c3:=β3 aa.o;have aU:=ql aa.o 3;have z0:=β0 N.o;have bn:=ql N.o 0;have bt:=β1 N.o;have bo:=ql N.o 1;have bu:=β2 N.o;have bp:=ql N.o 2;have z3:=β3 N.o;have bq:=ql N.o 3;cases c with
 | true=>
  obtain rfl:y=(⟨d,I,al,T⟩,ύ):=aG.o;go_wp2;refine bodyPost_ret (v:= .tuple #[θ #[μ d,I,ι al,ι T],ύ]) (yN results84 _ _ (w.heap.size+1+1) 174 #[μ d,I,ι al,ι T] _ _ rfl rfl (qF (qt (qt (qt (qt N.o 0 _) 1 _) 2 _) 3 _) rfl) underlying174 rfl ξ) rfl ?_;exact⟨rfl,((((aE.o.st (p:=⟨w.heap.size+1+1,0,ϋ⟩) U _).st (p:=⟨w.heap.size+1+1,1,ϋ⟩) U _).st (p:=⟨w.heap.size+1+1,2,ϋ⟩) U _).st (p:=⟨w.heap.size+1+1,3,ϋ⟩) U _)⟩
 | false=>
  obtain rfl:y=(⟨d,ό,H,T+1⟩,ό):=aG.o;go_wp2;refine bodyPost_ret (v:= .tuple #[θ #[μ d,ό,ι H,ι (T+1)],ό]) (yN results84 _ _ (w.heap.size+1+1) 174 #[μ d,ό,ι H,ι (T+1)] _ _ rfl rfl (qF (qt (qt (qt (qt (qs (qs (qs N.o ⟨w.heap.size+1,1,ϋ⟩ _ ak) ⟨w.heap.size+1,2,ϋ⟩ _ ak) ⟨w.heap.size+1,3,ϋ⟩ _ ak) 0 _) 1 _) 2 _) 3 _) rfl) underlying174 rfl ξ) rfl ?_;exact⟨rfl,(((((((aE.o.st (p:=⟨w.heap.size+1,1,ϋ⟩) aj _).st (p:=⟨w.heap.size+1,2,ϋ⟩) aj _).st (p:=⟨w.heap.size+1,3,ϋ⟩) aj _).st (p:=⟨w.heap.size+1+1,0,ϋ⟩) U _).st (p:=⟨w.heap.size+1+1,1,ϋ⟩) U _).st (p:=⟨w.heap.size+1+1,2,ϋ⟩) U _).st (p:=⟨w.heap.size+1+1,3,ϋ⟩) U _)⟩
def UJ.on {d:Nat->Prop} {G:Nat} (h:UJ d w p G v t) (m:qh w w'):UJ d w' p G v t:=
 ⟨qj m h.blk,h.buf.on m,h.ok,λb H=>ϗ (h.sub b H) m.size,h.np,h.nb,h.ne,h.nv⟩
def RmX.strAt (h:RmX T w0 w k vp vr s F) (I:qm s.strs o=ϊ t): ∃p d v,qm k.SA o=ϊ p/\UJ (λb=>T b= .str o) w p d v t:=by
 obtain⟨J,G⟩:=h.all (.str o);rw[I] at G;obtain⟨p,H⟩:=Ϟ.1 G;obtain⟨d,v,x⟩:=J p t H I;exact⟨p,d,v,H,x⟩
def RmX.laneAt (h:RmX T w0 w k vp vr s F) {l:LnS} (G:qm s.lanes x=ϊ l): ∃p,qm k.LA x=ϊ p/\zZ (λb=>T b= .lane x) w p l:=by
 obtain⟨I,d⟩:=h.all (.lane x);rw[G] at d;obtain⟨p,H⟩:=Ϟ.1 d;exact⟨p,H,I p l H G⟩
def RmX.laneNo (h:RmX T w0 w k vp vr s F) (G:qm s.lanes x=ϋ):qm k.LA x=ϋ:=by
 obtain⟨H,d⟩:=h.all (.lane x);rw[G] at d;cases hp:qm k.LA x with
 | none=>rfl
 | some p=>rw[hp] at d;cases d
def RmX.origins (h:RmX T w0 w k vp vr s F):Vc k.SA=s.origins:=by
 unfold Vc RmS.origins
 congr 1
 funext o
 exact(h.all (.str o)).2
def RmX.blk (h:RmX T w0 w k vp vr s F):w.heap[k.R]? =ϊ (.cells (yj k vp vr s) 95 (0,0)):=(h.all .room).2
def RmX.tab (h:RmX T w0 w k vp vr s F):ju w k.tb k.ta k.tc k.td s.tab:=by
 obtain⟨_,_,_,_,x⟩:=h.all .table;exact x
def RmX.bok (h:RmX T w0 w k vp vr s F):jE w k.B k.b s.book:=by
 obtain⟨_,_,x⟩:=h.all .book;exact x
def RmX.que (h:RmX T w0 w k vp vr s F):RgR 1 229 35 RBy (λb=>T b≠ .data) w k.RQ k.AQ s.cfg.room.toNat s.queue:=by
 obtain⟨_,_,x⟩:=h.all .queue;exact x
def RmX.lnm (h:RmX T w0 w k vp vr s F):jm w k.ML (Value.int .i64) Qf k.LA:=(h.all .lns).2
def RmX.stm (h:RmX T w0 w k vp vr s F):jm w k.MS kO Qf k.SA:=(h.all .sts).2
def RmX.retm (h:RmX T w0 w k vp vr s F):jm w k.M1 kO μ s.ret:=(h.all .ret).2
def RmX.lt (h:RmX T w0 w k vp vr s F):k.R<w.heap.size:=qq h.blk
def RmX.orgsRow (h:RmX T w0 w k vp vr s F):Calls prog 64 #[γ k.R] w λe w'=> ∃v,e= .returned v/\jd 2 RO (λ_=>False) w' w.heap.size 58 v s.origins/\qh w w':=by
 rw[<-h.origins];exact UD h.lt (qi h.blk 13 rfl) (h.all .sts).2
def kp (h:o∈s.origins): ∃t,qm s.strs o=ϊ t:=by
 unfold RmS.origins at h;exact Ϟ.1 (G2.1 h).2
def BV {L:List Og} (h:jd 2 RO (λ_=>False) w base 58 v L): ∃oa cap,v= δ oa L.length cap/\L.length<=maxLen/\ ∀i (hi:i<L.length),∃b,oa=ϊ ⟨b,0,ϋ⟩/\base<=b/\b<w.heap.size/\w.cell? ⟨b,i* 2,ϋ⟩=ϊ (ι L[i].1)/\w.cell? ⟨b,i* 2+1,ϋ⟩=ϊ (ι L[i].2):=by
 obtain⟨⟨xs,d,r⟩,_⟩:=h;rcases id d.2 with ⟨rfl,H⟩ | ⟨b,cap,cur,rfl,I,J,N,O,_⟩
 ·exact⟨ϋ,0,by rw[H],by rw[H];exact Ϻ _,λi hi=>by omega⟩
 ·refine⟨_,cap,rfl,τ,λi hi=>⟨b,rfl,I,lt_of_block J, ?_, ?_⟩⟩
  ·have e:(xs.drop (i* 2)).take 2=[ι L[i].1,ι L[i].2]:=(r i hi).read;have e0:=ϰ (λl:List Value=>l[0]?) e;simp at e0;rw[d.cellAt _ τ];exact e0
  ·have e:(xs.drop (i* 2)).take 2=[ι L[i].1,ι L[i].2]:=(r i hi).read;have G:=ϰ (λl:List Value=>l[1]?) e;simp at G;rw[d.cellAt _ τ];exact G
def RmS.readyO (s:RmS):Og:=s.ready.getD (0,0)
def YJ (p:α->Bool): ∀(l:List α) (j:Nat) (hj:j<l.length),(∀i (hi:i<l.length),i<j->p l[i]=ύ)->p l[j]=ό->l.find? p=ϊ l[j]
 | [],j,hj,_,_=>by simp at hj
 | a::l,0,_,_,h=>by simp at h;simp[h]
 | a::l,j+1,hj,h1,h2=>by
  have d:=h1 0 η τ;simp at d;simp only[List.find?_cons,d];exact YJ p l j (by simpa using hj) (λi hi G=>by have:=h1 (i+1) (by simpa using hi) τ;simpa using this) (by simpa using h2)
def Ag (p:α->Bool) (l:List α) (h: ∀i (hi:i<l.length),p l[i]=ύ):l.find? p=ϋ:=by
 rw[Q5];intro x d;obtain⟨i,hi,rfl⟩:=ε.1 d;simp[h i hi]
def Cq (h:RmX T w0 w k vp vr s F) (aw:xQ s.clock):
  Calls prog 73 #[γ k.R] w λe w'=>e= .returned (.tuple #[θ #[ι s.readyO.1,ι s.readyO.2],s.ready.isSome])/\qh w w':=by
 have O:=κ h;have aF:=κ aw;clear h aw
 go_enter func73,ntmps73
 go_wp2_with (go_at_call 64;(go_call (O.o.on (qh.alloc w (.cells #[ι 0,ι 0] 58))).orgsRow as e w1 ⟨v,rfl,aC,ai⟩;obtain⟨ba,cap,rfl,aP,aB⟩:=BV aC;have aH:=κ aB;have ao:Hid (qh w w1):=κ (Z0.trans ai);have aa:Hid (w1.heap[w.heap.size]? =ϊ (.cells #[ι 0,ι 0] 58 (0,0))):=κ (qj ai (qp w _));clear aC ai aB))
 unfold maxLen at aP
 go_loopw [9] (λah wr=> ∃j:Nat,j<=s.origins.length/\ah= ι j/\(∀i (hi:i<s.origins.length),i<j->s.readyAt s.origins[i]=ύ)/\qh w1 wr) (λah _=>s.origins.length-(intOf ah).toNat)
 case atStart=>exact⟨0,τ,rfl,λi hi h=>by omega,qh.refl _⟩
 case round=>
  obtain⟨j,aZ,rfl,ax,av⟩:=hrel;have ac:=κ ax;have G:=κ av;clear ax av;by_cases hlt:j<s.origins.length
  ·have aO:(j:Int)<(s.origins.length:Int):=by omega
   obtain⟨b,rfl,aX,ar,U,c1⟩:=aH.o j hlt;have U:wr.cell? ⟨b,j* 2,ϋ⟩=ϊ (ι (s.origins[j]).1):=by rw[G.o.cells _ _ ar];exact U
   have c1:wr.cell? ⟨b,j* 2+1,ϋ⟩=ϊ (ι (s.origins[j]).2):=by rw[G.o.cells _ _ ar];exact c1
   obtain⟨t,ag⟩:=kp (Ϣ hlt);have am:=κ (λI=>YJ s.readyAt s.origins j hlt ac.o I);have aA:s.readyAt s.origins[j]=jU t.buf s.clock:=by unfold RmS.readyAt;rw[ag]
   have ad:=κ aA;clear aA;obtain⟨p,aq,v,az,Y⟩:=O.o.strAt ag;have an:Hid (∀o,o=s.origins[j]->(∀I:jU t.buf s.clock=ό,s.ready=ϊ o)):=κ (λo e I=>by rw[e];exact am.o (by rw[ad.o];exact I))
   have aJ:Hid (jU t.buf s.clock=ύ-> ∀i (hi:i<s.origins.length),i<j+1->s.readyAt s.origins[i]=ύ):=κ (λI i hi h=>by
    by_cases e:i<j
    ·exact ac.o i hi e
    ·obtain rfl:i=j:=by omega
     rw[ad.o];exact I)
   generalize s.origins[j]=o at *;obtain⟨H,o2⟩:=o;simp only at U c1;have aG:=κ (an.o (H,o2) rfl);obtain⟨W1,N⟩:=ν (wr.alloc (.cells #[ι H,ι o2] 58));have J:Hid (qh w W1):=κ (by rw[<-N];exact(ao.o.trans G.o).al _);have ap:Hid (qh w1 W1):=κ (by rw[<-N];exact G.o.al _);have aD:Hid (W1.heap[wr.heap.size]? =ϊ (.cells #[ι H,ι o2] 58 (0,0))):=κ (by rw[<-N];exact qp wr _);have ae:=λ(x:qu W1)=>qj x.h aD.o
   have aV:=λx=>β0 (ae x);have aW:=λx=>β1 (ae x);clear ae
   have af:=λ(x:qu W1)=>qj (J.o.trans x.h) O.o.blk
   have aR:=λx=>β13 (af x);have aS:=λx=>β9 (af x);clear af
   have aU:=λ(x:qu W1)=>β0 (qj (J.o.trans x.h) Y.blk)
   have aT: ∀x:qu W1,(Instr.lookup 91 (.map (ϊ k.MS)) (θ #[ι H,ι o2]) ύ).run prog x.w'= .ok (γ p) x.w':=λx=>by
    have:=yU ((O.o.all .sts).2.more (J.o.trans x.h)) (H,o2) ύ;rw[az] at this;exact this
   have ak: ∀x:qu W1,Calls prog 119 #[γ aq,ι s.clock] x.w' λe w'=>e= .returned (μ (jU t.buf s.clock))/\qh x.w' w':=λx=>YS t.buf Y.ok aq v s.clock aF.o x.w' (Y.buf.on (J.o.trans x.h))
   generalize jU t.buf s.clock=rd at *;have aE:=κ ak;clear ak Y az ag am ad an
   go_upto_region 4 with fail
   (try rw[N])
   clear N U c1;refine qG _ (qh.refl _) ξ ξ ?_
   repeat (go_big_quiet_step ((go_at_call 119;exact xn (aE.o _))))
   refine wpQuiet_nil ?_;intro _ aQ;obtain⟨aj,rfl⟩:=aQ;cases rd with
   | true=>
    have au:=aG.o rfl;have aY:w.heap.size≠wr.heap.size:=by have:=G.o.size;have:=qq aa.o;omega
    have d:=κ (qj (ap.o.trans aj.h) aa.o);have aK:=ql d.o 0;have aL:=ql d.o 1;have aM:=β0 d.o;have aN:=β1 d.o;have ab:=κ au;clear au;go_wp2
    (refine bodyPost_ret (v:= .tuple #[θ #[ι H,ι o2],ό]) (yN results73 _ _ (w.heap.size) 58 #[ι H,ι o2] _ _ rfl rfl (qF (qt (qt d.o 0 _) 1 _) rfl) underlying58 rfl ξ) rfl ?_)
    refine⟨?_,(J.o.trans aj.h).st (ϕ _) _ |>.st (ϕ _) _⟩;unfold RmS.readyO;rw[ab.o];rfl
   | false=>
    have aI:=κ (aJ.o rfl);go_wp2;go_roundw
    case rel=>exact⟨j+1,τ,by go_num,aI.o,ap.o.trans aj.h⟩
    case measure=>simp[intOf];omega
  ·obtain rfl:j=s.origins.length:=by omega
   have aO: ¬(s.origins.length:Int)<(s.origins.length:Int):=by omega
   have ay:s.ready=ϋ:=Ag s.readyAt s.origins (λi hi=>ac.o i hi hi);have ab:=κ ay;have d:=κ (qj G.o aa.o);have aK:=ql d.o 0;have aL:=ql d.o 1;have aM:=β0 d.o;have aN:=β1 d.o;clear ay;go_wp2
   (refine bodyPost_ret (v:= .tuple #[θ #[ι 0,ι 0],ύ]) (yN results73 _ _ (w.heap.size) 58 #[ι 0,ι 0] _ _ rfl rfl (qF (qt (qt d.o 0 _) 1 _) rfl) underlying58 rfl ξ) rfl ?_)
   refine⟨?_,(ao.o.trans G.o).st (ϕ _) _ |>.st (ϕ _) _⟩;unfold RmS.readyO;rw[ab.o];rfl
structure zu (s:RmS):Prop where
 keys: ∀x,(qm s.tab.u x).isSome=ό->0<=x/\x<6
 lane: ∀x,(qm s.tab.u x).isSome=(qm s.lanes x).isSome
 few:s.tab.u.length<=1000000
def LO {T a c:Nat} {t:TS} (h:ju w T a b c t) (v0:Int) (H: ∀x,(qm t.u x).isSome=ό->0<=x/\x<6) (I:t.u.length<=1000000):
  Calls prog 142 #[γ T,ι v0] w λe w'=>(∃v,e= .returned v/\SlI .i64 w' v (prR (jH v0) t.u)/\ ∀q,v.ownBlock=ϊ q->w.heap.size<=q)/\qh w w':=by
 rw[<-V9 h.mu.keys H]
 go_enter func142,ntmps142
 go_wp2_with (go_at_call 203;(go_call AJ (h.more (qh.alloc w (.cells #[ι v0] 3))) v0 (qp w _) I as e w2 ⟨⟨v,rfl,s,d⟩,m⟩;have S:=κ s;have M:=κ m;have G:=κ d;clear s m d))
 go_ret;exact⟨⟨_,rfl,S.o,λq d=>ϙ Z0.size (G.o q d)⟩,Z0.trans M.o⟩
def Ln {T a c:Nat} {t:TS} (h:ju w T a b c t) (v0:Int) (H: ∀x,(qm t.u x).isSome=ό->0<=x/\x<6) (I:t.u.length<=1000000):
  Calls prog 190 #[γ T,ω v0] w λe w'=>(∃v,e= .returned v/\SlI .i64 w' v (prR (yz v0) t.u)/\ ∀q,v.ownBlock=ϊ q->w.heap.size<=q)/\qh w w':=by
 rw[<-V9 h.mu.keys H]
 go_enter func190,ntmps190
 go_wp2_with (go_at_call 203;(go_call Uv (h.more (qh.alloc w (.cells #[ω v0] 38))) v0 (qp w _) I as e w2 ⟨⟨v,rfl,s,d⟩,m⟩;have S:=κ s;have M:=κ m;have G:=κ d;clear s m d))
 go_ret;exact⟨⟨_,rfl,S.o,λq d=>ϙ Z0.size (G.o q d)⟩,Z0.trans M.o⟩
def Ke (J:zu s) {H:Sb->Bool} (h:x∈prR H s.tab.u): ∃d l,qm s.tab.u x=ϊ d/\qm s.lanes x=ϊ l:=by
 obtain⟨_,d,G,_⟩:=(Pc H s.tab.u x).1 h;have:=J.lane x;rw[G] at this;obtain⟨l,I⟩:=Ϟ.1 this.symm;exact⟨d,l,G,I⟩
def uj (s:RmS) (n:Int) (x:Int):Bool:=match qm s.lanes x with
 | some l=>gJ l n
 | none=>ύ
def CD (s:RmS) (o:Og) (d:qm s.strs o=ϊ t):s.wants o=(t.askedOf||(prR (jH o.1) s.tab.u).any (uj s o.2)):=by
 unfold RmS.wants;rw[d];rfl
def La (h:RmX T w0 w k vp vr s F) (bg:zu s) (aa o2:Int) (an:qm s.strs (aa,o2)=ϊ t):
  Calls prog 85 #[γ k.R,θ #[ι aa,ι o2]] w λe w'=>e= .returned (μ (s.wants (aa,o2)))/\qh w w':=by
 have ag:=κ h;obtain⟨p,bF,v,bd,ad⟩:=h.strAt an;rw[CD s (aa,o2) an];have aw:=κ bg;obtain⟨W1,aq⟩:=ν (w.alloc (.cells #[ι aa,ι o2] 58));have ac:Hid (qh w W1):=κ (by rw[<-aq];exact qh.alloc _ _);have ar:Hid (W1.heap[w.heap.size]? =ϊ (.cells #[ι aa,ι o2] 58 (0,0))):=κ (by rw[<-aq];exact qp w _);have ay:=λ(x:qu W1)=>qj x.h ar.o
 have aV:=λx=>β0 (ay x);have bp:=λx=>β1 (ay x);clear ay
 have az:=λ(x:qu W1)=>qj (ac.o.trans x.h) ag.o.blk
 have bn:=λx=>β13 (az x);have aT:=λx=>β11 (az x);clear az
 have aU:=λ(x:qu W1)=>β7 (qj (ac.o.trans x.h) ad.blk)
 have bo: ∀x:qu W1,(Instr.lookup 91 (.map (ϊ k.MS)) (θ #[ι aa,ι o2]) ύ).run prog x.w'= .ok (γ p) x.w':=λx=>by
  have:=yU (ag.o.stm.more (ac.o.trans x.h)) (aa,o2) ύ;rw[bd] at this;exact this
 clear bd ad an h bg;obtain⟨bv,aY⟩:=ν (t.askedOf);rw[aY] at aU ⊢;clear aY
 go_enter func85,ntmps85
 go_upto_region 1 with fail
 (try rw[aq])
 clear aq;refine qG _ (qh.refl _) ξ ξ ?_
 repeat (go_big_quiet_step (fail))
 refine wpQuiet_nil ?_;intro _ bB;obtain⟨aS,rfl⟩:=bB;cases bv with
 | true=>
  go_wp2;go_ret;exact⟨rfl,ac.o.trans aS.h⟩
 | false=>
  go_upto_region 3 with fail
  obtain⟨W2,aF⟩:=ν (aS.w');have ah:Hid (qh W1 W2):=κ (by rw[<-aF];exact aS.h)
  (try rw[aF])
  clear aF aU bo bn;have bq: ∀x:qu W2,x.w'.cell? ⟨w.heap.size,0,ϋ⟩=ϊ (ι aa):=λx=>aV ⟨_,ah.o.trans x.h⟩
  have br: ∀x:qu W2,x.w'.cell? ⟨k.R,11,ϋ⟩=ϊ (π (ϊ ⟨k.tb,0,ϋ⟩)):=λx=>aT ⟨_,ah.o.trans x.h⟩
  clear aV bp aT;refine zr W2 9 [(0,ύ),(1,ύ),(2,ύ),(3,ύ),(4,ύ),(5,ύ),(8,ύ),(6,ό),(7,ύ)] ξ ξ ?_
  refine Qq7 ?_
  (refine Ql ?_;intro K aE)
  go_call LO (ag.o.tab.more ((ac.o.trans ah.o).dr 1)) aa aw.o.keys aw.o.few as e bm ⟨⟨v3,rfl,s3,bC⟩,bk⟩;have ak:Hid (qh W2 bm):=κ ((qh.drewN _ 1).trans bk);obtain⟨bJ,cap,rfl,bA,bf,_⟩:=s3;have aX:=κ bf;clear bk bC bf;refine⟨_,rfl,qo ak.o,aE _ _ ?_⟩;clear aE K
  iterate 1 (refine qz rfl rfl (qo ak.o) ?_;intro K aE;go_big_quiet_op;go_big_quiet_on)
  refine qD ?_;clear bq br;have bu:=κ (ac.o.trans (ah.o.trans ak.o));have ao:=κ (qj (ah.o.trans ak.o) ar.o);clear ac ah ak ar;obtain⟨L,am⟩:=ν (prR (jH aa) s.tab.u);have bt:Hid (∀x∈L,∃l,qm s.lanes x=ϊ l):=κ (λx ad=>by rw[<-am] at ad;obtain⟨_,l,_,h⟩:=Ke aw.o ad;exact⟨l,h⟩);have aW:=κ am;rw[am] at aX bA;simp only[am];clear am;go_wp2
  go_loopw [27] (λaQ wr=> ∃j:Nat,j<=L.length/\aQ= ι j/\(∀i (hi:i<L.length),i<j->uj s o2 L[i]=ύ)/\qh bm wr) (λaQ _=>L.length-(intOf aQ).toNat)
  case atStart=>exact⟨0,τ,rfl,λi hi h=>by omega,qh.refl _⟩
  case round=>
   obtain⟨j,bH,rfl,bc,aM⟩:=hrel;have av:=κ bc;have U:=κ (bu.o.trans aM);have ab:=κ aM;clear bc aM;by_cases hlt:j<L.length
   ·have bz:(j:Int)<(L.length:Int):=by omega
    obtain⟨b,bD,rfl,bw,aG⟩:=aX.o j hlt;have aG:wr.cell? ⟨b,bD+j,ϋ⟩=ϊ (ι (L.getD j 0)):=by rw[ab.o.cells _ _ bw];exact aG
    have ba:L.getD j 0=L[j]:=by simp[hlt]
    obtain⟨l,aH⟩:=bt.o L[j] (Ϣ hlt);have aP:uj s o2 L[j]=gJ l o2:=by unfold uj;rw[aH]
    have ae:Hid (gJ l o2=ύ-> ∀i (hi:i<L.length),i<j+1->uj s o2 L[i]=ύ):=κ (λbx i hi h=>by
     by_cases e:i<j
     ·exact av.o i hi e
     ·obtain rfl:i=j:=by omega
      rw[aP];exact bx)
    have ax:Hid (gJ l o2=ό->L.any (uj s o2)=ό):=κ (λan=>R8.2 ⟨L[j],Ϣ hlt,by rw[aP];exact an⟩);obtain⟨p2,be,bb⟩:=ag.o.laneAt aH;have au:=κ bb;rw[ba] at aG;have q:=xH (ag.o.lnm.more U.o) L[j] ύ;rw[be] at q;generalize L[j]=x at *;have bG:=β12 (qj U.o ag.o.blk);clear ba aP aH bb be av;obtain⟨bj,aL⟩:=ν (l.wanted);obtain⟨bi,aJ⟩:=ν (l.gone);obtain⟨H,aI⟩:=ν (l.cur);obtain⟨d,aK⟩:=ν (l.tgt);have bh:gJ l o2=(bj&&(!bi&&(!decide (H=d)&&decide (d=o2)))):=by unfold gJ;rw[aL,aJ,aI,aK]
    have af:=κ (λw m=>Zc (au.o.on (w':=w) m));have aj:=κ (λw m=>XB (au.o.on (w':=w) m));rw[aL,aI,aK] at af;rw[aJ] at aj;rw[bh] at ae ax;clear aL aJ aI aK bh au;have aZ:((PF (ϊ p2)):Value)= γ p2:=rfl;simp only[aZ,Ϭ,C4] at q;clear aZ;cases bj with
    | false=>
     go_wp2_with (go_at_call 67;(go_call af.o _ U.o as e w5 ⟨rfl,O⟩;have I:=κ O;clear O))
     go_roundw
     case rel=>exact⟨j+1,τ,by go_num,ae.o rfl,(ab.o.trans I.o).al _⟩
     case measure=>simp[intOf];omega
    | true=>
     cases bi with
     | true=>
      go_wp2_with (first | (go_at_call 67;(go_call af.o _ U.o as e w5 ⟨rfl,O⟩;have I:=κ O;clear O)) | (go_at_call 69;(go_call aj.o _ ((U.o.trans I.o).al (.cells #[ι H,ι d] 103)) as e w6 ⟨rfl,N⟩;have Y:=κ N;have J:=κ (qj N (qp w5 (.cells #[ι H,ι d] 103)));have aB:=β0 J.o;have aC:=β1 J.o;clear N)) | (go_at_call 38;(go_call yW H d w6 as e aR ⟨rfl,G⟩;rw[ap.o];have ai:=κ G;have aD:=β1 (qj G J.o);have aA:=β1 (qj (ab.o.trans (((I.o.al (.cells #[ι H,ι d] 103)).trans Y.o).trans G)) ao.o);clear G)))
      go_roundw
      case rel=>exact⟨j+1,τ,by go_num,ae.o rfl,((ab.o.trans I.o).al _).trans Y.o⟩
      case measure=>simp[intOf];omega
     | false=>
      obtain⟨bE,aN⟩:=ν ((!decide (H=d)));obtain⟨bl,aO⟩:=ν (decide (d=o2));have bI:(d==o2)=bl:=by rw[<-aO];rfl
      rw[aN,aO] at ae ax;have ap:=κ aN;clear aN aO;cases bE with
      | false=>
       go_wp2_with (first | (go_at_call 67;(go_call af.o _ U.o as e w5 ⟨rfl,O⟩;have I:=κ O;clear O)) | (go_at_call 69;(go_call aj.o _ ((U.o.trans I.o).al (.cells #[ι H,ι d] 103)) as e w6 ⟨rfl,N⟩;have Y:=κ N;have J:=κ (qj N (qp w5 (.cells #[ι H,ι d] 103)));have aB:=β0 J.o;have aC:=β1 J.o;clear N)) | (go_at_call 38;(go_call yW H d w6 as e aR ⟨rfl,G⟩;rw[ap.o];have ai:=κ G;have aD:=β1 (qj G J.o);have aA:=β1 (qj (ab.o.trans (((I.o.al (.cells #[ι H,ι d] 103)).trans Y.o).trans G)) ao.o);clear G)))
       go_roundw
       case rel=>exact⟨j+1,τ,by go_num,ae.o rfl,(((ab.o.trans I.o).al _).trans Y.o).trans ai.o⟩
       case measure=>simp[intOf];omega
      | true=>
       cases bl with
       | false=>
        go_wp2_with (first | (go_at_call 67;(go_call af.o _ U.o as e w5 ⟨rfl,O⟩;have I:=κ O;clear O)) | (go_at_call 69;(go_call aj.o _ ((U.o.trans I.o).al (.cells #[ι H,ι d] 103)) as e w6 ⟨rfl,N⟩;have Y:=κ N;have J:=κ (qj N (qp w5 (.cells #[ι H,ι d] 103)));have aB:=β0 J.o;have aC:=β1 J.o;clear N)) | (go_at_call 38;(go_call yW H d w6 as e aR ⟨rfl,G⟩;rw[ap.o];have ai:=κ G;have aD:=β1 (qj G J.o);have aA:=β1 (qj (ab.o.trans (((I.o.al (.cells #[ι H,ι d] 103)).trans Y.o).trans G)) ao.o);clear G)))
        go_roundw
        case rel=>exact⟨j+1,τ,by go_num,ae.o rfl,(((ab.o.trans I.o).al _).trans Y.o).trans ai.o⟩
        case measure=>simp[intOf];omega
       | true=>
        go_wp2_with (first | (go_at_call 67;(go_call af.o _ U.o as e w5 ⟨rfl,O⟩;have I:=κ O;clear O)) | (go_at_call 69;(go_call aj.o _ ((U.o.trans I.o).al (.cells #[ι H,ι d] 103)) as e w6 ⟨rfl,N⟩;have Y:=κ N;have J:=κ (qj N (qp w5 (.cells #[ι H,ι d] 103)));have aB:=β0 J.o;have aC:=β1 J.o;clear N)) | (go_at_call 38;(go_call yW H d w6 as e aR ⟨rfl,G⟩;rw[ap.o];have ai:=κ G;have aD:=β1 (qj G J.o);have aA:=β1 (qj (ab.o.trans (((I.o.al (.cells #[ι H,ι d] 103)).trans Y.o).trans G)) ao.o);clear G)))
        go_ret;exact⟨by rw[aW.o,ax.o rfl];rfl,(((U.o.trans I.o).al _).trans Y.o).trans ai.o⟩
   ·obtain rfl:j=L.length:=by omega
    have bz: ¬(L.length:Int)<(L.length:Int):=by omega
    have bs:Hid (L.any (uj s o2)=ύ):=κ (by
     rw[M0];intro x ad;obtain⟨i,hi,rfl⟩:=ε.1 ad;rw[av.o i hi hi]
     decide)
    go_wp2;go_ret;exact⟨by rw[aW.o,bs.o];rfl,U.o⟩
def RmX.at (h:RmX T w0 w k vp vr s F):qL w0 w k s F:=⟨T,vp,vr,h⟩
def RmX.self (h:RmX T w0 w k vp vr s F) (a:qk (λb=>b=k.R) w w') {s':RmS} (G:w'.heap[k.R]? =ϊ (.cells (yj k vp vr s') 95 (0,0)))
  (rest: ∀u,u≠ .room->u≠ .no->k.Holds (xk T .room w w') w' vp vr s u->k.Holds (xk T .room w w') w' vp vr s' u):qL w0 w' k s' F/\qA F w w':=by
 obtain⟨d,_⟩:=h.all .room;have I:=h.fresh;obtain⟨x,y⟩:=h.own (t:= .room) (k':=k) (vp':=vp) (vr':=vr) (s':=s') ⟨η,η⟩ (a.mono λb H=>by rw[H];exact d) ⟨(jj I η _).2 (ϐ d),G⟩ rest;exact⟨x.at,y⟩
def RmX.book (h:RmX T w0 w k vp vr s F) (b:jE w' k.B k.b m) (a:qk (λx=>x=k.b) w w'):qL w0 w' k {s with book:=m} F/\qA F w w':=by
 obtain⟨H,d,_⟩:=h.all .book;have G:=h.fresh;obtain⟨x,y⟩:=h.own (t:= .book) (k':=k) (vp':=vp) (vr':=vr) (s':={s with book:=m}) ⟨η,η⟩ (a.mono λb I=>by rw[I];exact d) ⟨(jj G η _).2 (ϐ H),(jj G η _).2 (ϐ d),b⟩ (λu J N x=>by cases u<;>first | exact x | exact ϧ rfl J);exact⟨x.at,y⟩
def RmX.table (h:RmX T w0 w k vp vr s F) {t:TS} (b:ju w' k.tb k.ta k.tc k.td t) (a:qk (λx=>x=k.ta∨x=k.tc∨x=k.td) w w'):qL w0 w' k {s with tab:=t} F/\qA F w w':=by
 obtain⟨G,H,I,J,_⟩:=h.all .table;have d:=h.fresh;obtain⟨x,y⟩:=h.own (t:= .table) (k':=k) (vp':=vp) (vr':=vr) (s':={s with tab:=t}) ⟨η,η⟩ (a.mono λb N=>by rcases N with rfl | rfl | rfl<;>assumption)
  ⟨(jj d η _).2 (ϐ G),(jj d η _).2 (ϐ H),(jj d η _).2 (ϐ I),(jj d η _).2 (ϐ J),b⟩ (λu O U x=>by cases u<;>first | exact x | exact ϧ rfl O)
 exact⟨x.at,y⟩
def RmX.retMap (h:RmX T w0 w k vp vr s F) {m:List (Og×Bool)} (b:jm w' k.M1 kO μ m) (a:qk (λx=>x=k.M1) w w'):qL w0 w' k {s with ret:=m} F/\qA F w w':=by
 obtain⟨d,_⟩:=h.all .ret;have H:=h.fresh;obtain⟨x,y⟩:=h.own (t:= .ret) (k':=k) (vp':=vp) (vr':=vr) (s':={s with ret:=m}) ⟨η,η⟩ (a.mono λb G=>by rw[G];exact d) ⟨(jj H η _).2 (ϐ d),b⟩ (λu I J x=>by cases u<;>first | exact x | exact ϧ rfl I);exact⟨x.at,y⟩
def RmX.ring (h:RmX T w0 w k vp vr s F) {q:List (List Int)} (a:qk (RgB k.RQ k.AQ) w w') (b: ∀D:Nat->Prop,(∀b,D b->T b≠ .data∨w.heap.size<=b)->RgR 1 229 35 RBy D w' k.RQ k.AQ s.cfg.room.toNat q):qL w0 w' k {s with queue:=q} F/\qA F w w':=by
 obtain⟨H,I,_⟩:=h.all .queue;have G:=h.fresh;obtain⟨x,y⟩:=h.own (t:= .queue) (k':=k) (vp':=vp) (vr':=vr) (s':={s with queue:=q}) ⟨η,η⟩ (a.mono λb d=>by rcases d with rfl | rfl<;>assumption)
  ⟨(jj G η _).2 (ϐ H),(jj G η _).2 (ϐ I),b _ (λb d=>ϐ (λe=>d ((jO G η η b).2 e)))⟩ (λu J N x=>by cases u<;>first | exact x | exact ϧ rfl J)
 exact⟨x.at,y⟩
def RmX.lanePut (h:RmX T w0 w k vp vr s F) {l l':LnS} (U:qm s.lanes x=ϊ l) (I:qm k.LA x=ϊ p) (b:zZ (xy (λb=>T b= .lane x) w w') w' p l') (a:qk (λb=>T b= .lane x) w w'):
  qL w0 w' k {s with lanes:=qB s.lanes x l'} F/\qA F w w':=by
 have J:=h.fresh;obtain⟨y,z⟩:=h.own (t:= .lane x) (k':=k) (vp':=vp) (vr':=vr) (s':={s with lanes:=qB s.lanes x l'}) ⟨η,η⟩ a
  ⟨λab aa G d=>by
   rw[I] at G;rw[xq] at d;injection G with G
   injection d with d
   subst G d;rw[gQ J η]
   exact b,by rw[I,xq];rfl⟩
  (λu N Y y=>by
   cases u<;>first | exact y | skip
   rename_i O;have H:O≠x:=λe=>N (by rw[e])
   exact⟨λp l G d=>y.1 p l G (by rw[kg _ _ H] at d;exact d),by rw[kg _ _ H];exact y.2⟩)
 exact⟨y.at,z⟩
def RmX.strPut (h:RmX T w0 w k vp vr s F) {t':zX} (Y:qm s.strs o=ϊ t) (I:qm k.SA o=ϊ p) (b:LP (xy (λb=>T b= .str o) w w') w' p t') (a:qk (λb=>T b= .str o) w w'):
  qL w0 w' k {s with strs:=qB s.strs o t'} F/\qA F w w':=by
 have J:=h.fresh;obtain⟨y,z⟩:=h.own (t:= .str o) (k':=k) (vp':=vp) (vr':=vr) (s':={s with strs:=qB s.strs o t'}) ⟨η,η⟩ a
  ⟨λab aa G d=>by
   rw[I] at G;rw[xq] at d;injection G with G
   injection d with d
   subst G d;rw[gQ J η]
   exact b,by rw[I,xq];rfl⟩
  (λu N U y=>by
   cases u<;>first | exact y | skip
   rename_i O;have H:O≠o:=λe=>N (by rw[e])
   exact⟨λp l G d=>y.1 p l G (by rw[kg _ _ H] at d;exact d),by rw[kg _ _ H];exact y.2⟩)
 exact⟨y.at,z⟩
def RmX.strSet (h:RmX T w0 w k vp vr s F) {t':zX} {H:Nat} (J:qm s.strs o=ϊ t) (I:qm k.SA o=ϊ p) (x:UJ (λb=>T b= .str o) w p H v t) (a:qk (λb=>b=p) w w')
  (blk:w'.heap[p]? =ϊ (.cells (QC H t') 176 (0,0))) (e:t'.buf=t.buf):qL w0 w' k {s with strs:=qB s.strs o t'} F/\qA F w w':=by
 refine h.strPut J I ⟨H,v,blk, ?_,by rw[e];exact x.ok,λb d=> ?_,ϐ x.np,ϐ x.nb,x.ne,λg G=>⟨ϐ (x.nv g G).1,(x.nv g G).2⟩⟩ (a.mono λb d=>by rw[d];exact x.np)
 ·rw[e];exact⟨a.blk x.buf.blk (C6 x.ne),x.buf.row.away a (λg G=>(x.nv g G).2)⟩
 ·rcases d with d | d
  ·exact ϗ (x.sub b d) a.size
  ·exact d.2
def RmX.strBuf (h:RmX T w0 w k vp vr s F) {b:Jb} {H:Nat} {v':Value} (U:qm s.strs o=ϊ t) (N:qm k.SA o=ϊ p) (x:UJ (λb=>T b= .str o) w p H v t) (st:kK w w' H v v' b) (Y:JOK b):
  qL w0 w' k {s with strs:=qB s.strs o {t with buf:=b}} F/\qA F w w':=by
 have a:qk (λb=>T b= .str o) w w':=st.away.mono λg d=>by
  rcases d with rfl | d
  ·exact x.nb
  ·exact(x.nv g d).1
 have O: ¬(p=H∨v.ownBlock=ϊ p):=by
  rintro(e | e)
  ·exact x.ne e
  ·exact(x.nv p e).2 rfl
 refine h.strPut U N ⟨H,v',st.away.blk x.blk O,st.buf,Y,λb G=> ?_,ϐ x.np,ϐ x.nb,x.ne,λg d=> ?_⟩ a
 ·rcases G with G | G
  ·exact ϗ (x.sub b G) a.size
  ·exact G.2
 ·have J:g<w'.heap.size:=by
   rcases st.buf.row.2 with ⟨e,_⟩ | ⟨ab,cap,cur,e,_,I,_⟩
   ·rw[e] at d;cases d
   ·rw[e] at d;injection d with d
    have:=lt_of_block I;simp only at d;omega
  rcases st.own with e | ⟨g',e,hge⟩
  ·rw[e] at d;exact⟨ϐ (x.nv g d).1,(x.nv g d).2⟩
  ·rw[e] at d;injection d with d
   subst d;exact⟨ϓ ⟨hge,J⟩,λaa=>by have:=lt_of_block x.blk;omega⟩
def Lg (h:qL w0 w k s F) (N sub:Int) (acc:Bool) {l:LnS} (aj:qm s.lanes sub=ϊ l):
  Calls prog 81 #[γ k.R,θ #[ι N,ι sub],acc] w λe w'=>e= .returned (.tuple #[])/\qL w0 w' k (s.choose sub) F/\qA F w w':=by
 have ad:=κ (h.stay (qh.alloc w (.cells #[ι N,ι sub] 37)));have aq:=h.adds (qh.alloc w (.cells #[ι N,ι sub] 37)) (Fn:=[w.heap.size]) (λb d=>by simp at d;subst d;simp);have ab:=κ (qp w (.cells #[ι N,ι sub] 37));obtain⟨W1,ai⟩:=ν (w.alloc (.cells #[ι N,ι sub] 37));rw[ai] at aq ab ad;obtain⟨T,vp,aR,H⟩:=aq;have U:=κ H;obtain⟨p,av,au⟩:=H.laneAt aj;have aE:=κ au;have an:=κ av;have ac:=κ aj;have aJ: ¬T k.R= .lane sub:=by rw[(H.all .room).1];simp
 have aI: ¬T k.ML= .lane sub:=by rw[(H.all .lns).1];simp
 have aH: ¬T w.heap.size= .lane sub:=by rw[(H.law w.heap.size η).1];simp
 have az:=λ(x:qC (λb=>T b= .lane sub) W1)=>β12 (x.h.blk U.o.blk aJ)
 have aB:=λ(x:qC (λb=>T b= .lane sub) W1)=>β1 (x.h.blk ab.o aH)
 have aA: ∀x:qC (λb=>T b= .lane sub) W1,(Instr.lookup 90 (.map (ϊ k.ML)) (ι sub) ύ).run prog x.w'= .ok (γ p) x.w':=λx=>by
  have:=xH (U.o.lnm.away x.h aI) sub ύ;rw[an.o] at this;exact this
 have am:=κ (λw (m:qh W1 w)=>At (aE.o.on m));obtain⟨ax,id,J,ok,ah⟩: ∃ax id J ok,qP l=(ax,id,J,ok):=⟨_,_,_,_,rfl⟩;rw[ah] at am;have ao:=κ ah;clear h H aj av au ah
 go_enter func81,ntmps81
 go_upto_region 1 with fail
 (try rw[ai])
 clear ai;refine QN (λb=>T b= .lane sub) W1 15 15 [7] ?_
 refine Qs7 ?_
 (refine Ql ?_;intro K G)
 go_call am.o _ (qh.drewN _ 1) as e w2 ⟨rfl,aw,af⟩;obtain⟨ag,t2⟩:=(U.o.on (qh.drewN W1 1)).lanePut ac.o an.o aw af;have al:=κ ag;have ae:Hid (qA ([w.heap.size]++F) W1 w2):=κ ((ag |> λ_=>(U.o.at.stay (qh.drewN W1 1))).trans t2);have ak:Hid (qk (λb=>T b= .lane sub) W1 w2):=κ (((qk.refl _ _).drewN 1).trans af);clear aw af ag t2;refine⟨_,rfl,qn ak.o,G _ _ ?_⟩;clear G K
 iterate 7 (refine qz rfl rfl (qn ak.o) ?_;intro K G;go_big_quiet_op;go_big_quiet_on)
 refine qD ?_;clear az aB aA;have aD:=κ (ae.o.blk η ab.o);obtain⟨c,aa⟩:=ν ((ok&& !decide (J=0)));have O:=κ aa
 go_upto_region 2 with fail
 go_cut [25] from 21 (λv aM=>v= μ c/\aM=w2)
 case first=>
  cases ok with
  | false=>
   clear aa;go_wp2;go_meet;exact⟨by rw[<-O.o];rfl,rfl⟩
  | true=>
   clear aa;go_wp2;go_meet;exact⟨by rw[<-O.o];by_cases e:J=0<;>simp[e],rfl⟩
 case rest=>
 obtain⟨rfl,aG⟩:=hcut;obtain rfl:=aG.symm;clear aa;cases c with
 | false=>
  go_wp2
  (refine bodyPost_end (v:= .tuple #[]) ?re1 rfl ?_;(case re1=>simp[results,results81,go_sem]))
  exact⟨rfl,by unfold RmS.choose;rw[ac.o];simp only[ao.o];rw[O.o];exact al.o.sub (λb d=>ϔ _ d),ad.o.trans (ae.o.sub (λb d=>ϔ _ d))⟩
 | true=>
  obtain⟨aP,aQ,aS,I⟩:=al.o;have Y:=κ I;have aK:k.R≠k.b:=λe=>by
   obtain⟨_,d,_⟩:=I.all .book;rw[<-e,(I.all .room).1] at d;cases d
  have aL:w.heap.size≠k.b:=λe=>by
   obtain⟨_,d,_⟩:=I.all .book;rw[<-e,(I.law w.heap.size η).1] at d;cases d
  have aN:=λ(x:qC (λb=>b=k.b) w2)=>β0 (x.h.blk Y.o.blk aK)
  have aO:=λ(x:qC (λb=>b=k.b) w2)=>β1 (x.h.blk aD.o aL)
  clear I
  go_upto_region 3 with fail
  refine QN (λb=>b=k.b) w2 9 9 [8] ?_
  refine Qs8 ?_
  (refine Ql ?_;intro K G)
  go_call QB (Y.o.on (qh.drewN w2 1)).bok sub id J as e w4 ⟨rfl,ap,a4⟩;obtain⟨ar,t4⟩:=(Y.o.on (qh.drewN w2 1)).book ap a4;have aC:=κ ar;have aF:Hid (qA ([w.heap.size]++F) w2 w4):=κ ((Y.o.at.stay (qh.drewN w2 1)).trans t4);have ay:Hid (qk (λb=>b=k.b) w2 w4):=κ (((qk.refl _ _).drewN 1).trans a4);clear ap a4 ar t4;refine⟨_,rfl,qn ay.o,G _ _ ?_⟩;clear G K;refine qD ?_;go_wp2
  (refine bodyPost_end (v:= .tuple #[]) ?re2 rfl ?_;(case re2=>simp[results,results81,go_sem]))
  exact⟨rfl,by unfold RmS.choose;rw[ac.o];simp only[ao.o];rw[O.o];exact aC.o.sub (λb d=>ϔ _ d),ad.o.trans ((ae.o.trans aF.o).sub (λb d=>ϔ _ d))⟩
def FV (h:qL w0 w k s F) (J sub:Int) (acc:Bool) {l:LnS} (aj:qm s.lanes sub=ϊ l):
  Calls prog 82 #[γ k.R,θ #[ι J,ι sub],acc] w λe w'=>e= .returned (.tuple #[])/\qL w0 w' k (s.rewrite sub) F/\qA F w w':=by
 have ac:=κ (h.stay (qh.alloc w (.cells #[ι J,ι sub] 37)));have aq:=h.adds (qh.alloc w (.cells #[ι J,ι sub] 37)) (Fn:=[w.heap.size]) (λb d=>by simp at d;subst d;simp);have aa:=κ (qp w (.cells #[ι J,ι sub] 37));obtain⟨W1,ai⟩:=ν (w.alloc (.cells #[ι J,ι sub] 37));rw[ai] at aq aa ac;obtain⟨T,vp,aR,H⟩:=aq;have O:=κ H;obtain⟨p,av,au⟩:=H.laneAt aj;have aE:=κ au;have an:=κ av;have ab:=κ aj;have aJ: ¬T k.R= .lane sub:=by rw[(H.all .room).1];simp
 have aI: ¬T k.ML= .lane sub:=by rw[(H.all .lns).1];simp
 have aH: ¬T w.heap.size= .lane sub:=by rw[(H.law w.heap.size η).1];simp
 have az:=λ(x:qC (λb=>T b= .lane sub) W1)=>β12 (x.h.blk O.o.blk aJ)
 have aB:=λ(x:qC (λb=>T b= .lane sub) W1)=>β1 (x.h.blk aa.o aH)
 have aA: ∀x:qC (λb=>T b= .lane sub) W1,(Instr.lookup 90 (.map (ϊ k.ML)) (ι sub) ύ).run prog x.w'= .ok (γ p) x.w':=λx=>by
  have:=xH (O.o.lnm.away x.h aI) sub ύ;rw[an.o] at this;exact this
 have am:=κ (λw (m:qh W1 w)=>Wr (aE.o.on m));obtain⟨ax,id,af,ok,ah⟩: ∃ax id af ok,qN l=(ax,id,af,ok):=⟨_,_,_,_,rfl⟩;rw[ah] at am;have ao:=κ ah;clear h H aj av au ah
 go_enter func82,ntmps82
 go_upto_region 1 with fail
 (try rw[ai])
 clear ai;refine QN (λb=>T b= .lane sub) W1 15 15 [7] ?_
 refine Qs7 ?_
 (refine Ql ?_;intro K G)
 go_call am.o _ (qh.drewN _ 1) as e w2 ⟨rfl,aw,ae⟩;obtain⟨ag,t2⟩:=(O.o.on (qh.drewN W1 1)).lanePut ab.o an.o aw ae;have al:=κ ag;have ad:Hid (qA ([w.heap.size]++F) W1 w2):=κ ((ag |> λ_=>(O.o.at.stay (qh.drewN W1 1))).trans t2);have ak:Hid (qk (λb=>T b= .lane sub) W1 w2):=κ (((qk.refl _ _).drewN 1).trans ae);clear aw ae ag t2;refine⟨_,rfl,qn ak.o,G _ _ ?_⟩;clear G K
 iterate 7 (refine qz rfl rfl (qn ak.o) ?_;intro K G;go_big_quiet_op;go_big_quiet_on)
 refine qD ?_;clear az aB aA;have aD:=κ (ad.o.blk η aa.o);obtain⟨c,Y⟩:=ν ((ok&&af));have N:=κ Y
 go_upto_region 2 with fail
 go_cut [24] from 21 (λv aM=>v= μ c/\aM=w2)
 case first=>
  cases ok with
  | false=>
   clear Y;go_wp2;go_meet;exact⟨by rw[<-N.o];rfl,rfl⟩
  | true=>
   clear Y;go_wp2;go_meet;exact⟨by rw[<-N.o];rfl,rfl⟩
 case rest=>
 obtain⟨rfl,aG⟩:=hcut;obtain rfl:=aG.symm;clear Y;cases c with
 | false=>
  go_wp2
  (refine bodyPost_end (v:= .tuple #[]) ?re3 rfl ?_;(case re3=>simp[results,results82,go_sem]))
  exact⟨rfl,by unfold RmS.rewrite;rw[ab.o];simp only[ao.o];rw[N.o];exact al.o.sub (λb d=>ϔ _ d),ac.o.trans (ad.o.sub (λb d=>ϔ _ d))⟩
 | true=>
  obtain⟨aP,aQ,aS,I⟩:=al.o;have U:=κ I;have aK:k.R≠k.b:=λe=>by
   obtain⟨_,d,_⟩:=I.all .book;rw[<-e,(I.all .room).1] at d;cases d
  have aL:w.heap.size≠k.b:=λe=>by
   obtain⟨_,d,_⟩:=I.all .book;rw[<-e,(I.law w.heap.size η).1] at d;cases d
  have aN:=λ(x:qC (λb=>b=k.b) w2)=>β0 (x.h.blk U.o.blk aK)
  have aO:=λ(x:qC (λb=>b=k.b) w2)=>β1 (x.h.blk aD.o aL)
  clear I
  go_upto_region 3 with fail
  refine QN (λb=>b=k.b) w2 8 8 [7] ?_
  refine Qs7 ?_
  (refine Ql ?_;intro K G)
  go_call QB (U.o.on (qh.drewN w2 1)).bok sub id 6 as e w4 ⟨rfl,ap,a4⟩;obtain⟨ar,t4⟩:=(U.o.on (qh.drewN w2 1)).book ap a4;have aC:=κ ar;have aF:Hid (qA ([w.heap.size]++F) w2 w4):=κ ((U.o.at.stay (qh.drewN w2 1)).trans t4);have ay:Hid (qk (λb=>b=k.b) w2 w4):=κ (((qk.refl _ _).drewN 1).trans a4);clear ap a4 ar t4;refine⟨_,rfl,qn ay.o,G _ _ ?_⟩;clear G K;refine qD ?_;go_wp2
  (refine bodyPost_end (v:= .tuple #[]) ?re4 rfl ?_;(case re4=>simp[results,results82,go_sem]))
  exact⟨rfl,by unfold RmS.rewrite;rw[ab.o];simp only[ao.o];rw[N.o];exact aC.o.sub (λb d=>ϔ _ d),ac.o.trans ((ad.o.trans aF.o).sub (λb d=>ϔ _ d))⟩
def Ue (b:Bk) (x i f:Int):(jn b x i f).length<=b.length+1:=by
 unfold jn zF;split
 ·split
  ·split
   ·split
    ·exact EZ _ _
    ·exact K4 _
   ·exact K4 _
  ·exact K4 _
 ·exact K4 _
def NU (h:qL w0 w k s F) (sub:Int) (H:s.book.length<=1000000):
  Calls prog 107 #[γ k.B,ι sub,ι 7] w λe w'=>(∃v,e= .returned v)/\qL w0 w' k {s with book:=vW s.book sub 7} F/\qA F w w'/\qk (λx=>x=k.b) w w':=by
 obtain⟨T,vp,I,x⟩:=h;refine(Ri x.bok sub 7 H).mono ?_;rintro e w' ⟨⟨v,rfl,_⟩,b,a⟩;obtain⟨d,G⟩:=x.book b a;exact⟨⟨v,rfl⟩,d,G,a⟩
def Nr (h:qL w0 w k s F) (sub:Int):
  Calls prog 123 #[γ k.tb,ι sub] w λe w'=>(∃v,e= .returned v)/\qL w0 w' k {s with tab:=(zl s.tab sub).1} F/\qA F w w'/\qk (λx=>x=k.td) w w':=by
 obtain⟨T,vp,H,x⟩:=h;refine(Z9 x.tab sub).mono ?_;rintro e w' ⟨rfl,b,a⟩;obtain⟨d,G⟩:=x.table b (a.mono λ_ e=>ϓ (ϓ e));exact⟨⟨_,rfl⟩,d,G,a⟩
def Nq (h:qL w0 w k s F) (ab sub:Int) (acc:Bool) {l:LnS} (az:qm s.lanes sub=ϊ l) (bq:l.W.length<=1000000) (bA:s.book.length<=900000):
  Calls prog 77 #[γ k.R,θ #[ι ab,ι sub],acc] w λe w'=>e= .returned (.tuple #[])/\qL w0 w' k (s.write sub acc) F/\qA F w w':=by
 have aI:=κ (h.stay (qh.alloc w (.cells #[ι ab,ι sub] 37)));have aN:=h.adds (qh.alloc w (.cells #[ι ab,ι sub] 37)) (Fn:=[w.heap.size]) (λb d=>by simp at d;subst d;simp);have ac:=κ (qp w (.cells #[ι ab,ι sub] 37));obtain⟨W1,aw⟩:=ν (w.alloc (.cells #[ι ab,ι sub] 37));rw[aw] at aN ac aI;obtain⟨T,vp,bF,aB⟩:=aN;have ad:=κ aB;obtain⟨p,aU,aS⟩:=aB.laneAt az;have bm:=κ aS;have ao:=κ aU;have aH:=κ az;have bc:=λ(x:qu W1)=>β12 (qj x.h ad.o.blk)
 have be:=λ(x:qu W1)=>β1 (qj x.h ac.o)
 have bd: ∀x:qu W1,(Instr.lookup 90 (.map (ϊ k.ML)) (ι sub) ύ).run prog x.w'= .ok (γ p) x.w':=λx=>by
  have:=xH (ad.o.lnm.more x.h) sub ύ;rw[ao.o] at this;exact this
 have aF:=κ (λw (m:qh W1 w)=>Cx (bm.o.on m) bq acc);obtain⟨aa,id,H,ok,av⟩: ∃aa id H ok,qJ l acc=(aa,id,H,ok):=⟨_,_,_,_,rfl⟩;rw[av] at aF;have bn:=κ av;clear h aB az aU aS av
 go_enter func77,ntmps77
 go_upto_region 1 with fail
 (try rw[aw])
 clear aw;refine qG _ (qh.refl _) ξ ξ ?_
 repeat (go_big_quiet_step (fail))
 refine wpQuiet_nil ?_;intro _ br;obtain⟨aY,rfl⟩:=br;obtain⟨W2,ax⟩:=ν (aY.w');have aq:Hid (qh W1 W2):=κ (by rw[<-ax];exact aY.h);rw[ax];clear ax bc be bd;obtain⟨c,aR⟩:=ν ((ok&&decide (H=1)));have an:=κ aR;clear aR
 go_upto_region 3 with (go_at_call 121;(go_call aF.o _ aq.o as e G ⟨rfl,aO,a3⟩;obtain⟨aM,t3⟩:=(ad.o.on aq.o).lanePut aH.o ao.o aO a3;have aD:=κ aM;have ar:Hid (qA ([w.heap.size]++F) W1 G):=κ ((ad.o.at.stay aq.o).trans t3);clear aO a3 aM t3))
 go_cut [28] from 24 (λv aj=>v= μ c/\aj=G)
 case first=>
  cases ok with
  | false=>
   go_wp2;go_meet;exact⟨by rw[<-an.o];rfl,rfl⟩
  | true=>
   go_wp2;go_meet;exact⟨by rw[<-an.o];by_cases e:H=1<;>simp[e],rfl⟩
 case rest=>
 obtain⟨rfl,bp⟩:=hcut;obtain rfl:=bp.symm
 go_upto_if 28 with fail
 go_cut [] from 29 (λaj=>qL w0 aj k {s with lanes:=qB s.lanes sub aa,book:=if c then jn s.book sub id H else s.book} ([w.heap.size]++F)/\qA ([w.heap.size]++F) G aj)
 case first=>
  cases c with
  | false=>
   go_wp2;go_meet;exact⟨aD.o,qA.refl _ _⟩
  | true=>
   have bi:=κ (ar.o.blk η ac.o);obtain⟨bw,bC,bG,U⟩:=aD.o;have ae:=κ U;have bt:k.R≠k.b:=λe=>by
    obtain⟨_,d,_⟩:=U.all .book;rw[<-e,(U.all .room).1] at d;cases d
   have bu:w.heap.size≠k.b:=λe=>by
    obtain⟨_,d,_⟩:=U.all .book;rw[<-e,(U.law (w.heap.size) η).1] at d;cases d
   have ak:=λ(x:qC (λb=>b=k.b) G)=>β0 (x.h.blk ae.o.blk bt)
   have al:=λ(x:qC (λb=>b=k.b) G)=>β1 (x.h.blk bi.o bu)
   clear U
   go_upto_region 4 with fail
   refine QN (λb=>b=k.b) G 9 9 [8] ?_
   refine Qs8 ?_
   (refine Ql ?_;intro K J)
   go_call QB (ae.o.on (qh.drewN G 1)).bok sub id H as e w4 ⟨rfl,aL,a4⟩;obtain⟨ai,t4⟩:=(ae.o.on (qh.drewN G 1)).book aL a4;have bf:=κ ai;have ah:Hid (qA ([w.heap.size]++F) G w4):=κ ((ae.o.at.stay (qh.drewN G 1)).trans t4);have aZ:Hid (qk (λb=>b=k.b) G w4):=κ (((qk.refl _ _).drewN 1).trans a4);clear aL a4 ai t4;refine⟨_,rfl,qn aZ.o,J _ _ ?_⟩;clear J K;refine qD ?_;go_wp2;go_meet;exact⟨bf.o,ah.o⟩
 case rest=>
 obtain⟨ai,t4⟩:=hcut;rename_i w4;have bj:=κ ((ar.o.trans t4).blk η ac.o);have ah:=κ (aI.o.trans ((ar.o.trans t4).sub (F':=F) (λb d=>ϔ _ d)));obtain⟨bx,bD,bH,aC⟩:=ai;have af:=κ aC;obtain⟨bv,aA,aT⟩:=aC.laneAt (x:=sub) (l:=aa) (xq _ _ _);obtain rfl:bv=p:=by rw[ao.o] at aA;injection aA with e;exact e.symm
 have am:=κ (XB aT);clear aC aA aT t4;obtain⟨au,ay⟩:=ν (aa.gone);rw[ay] at am;have bl:=κ ay;clear ay;have aG:Hid (s.write sub acc={s with lanes:=qB s.lanes sub aa,tab:=if au then (zl s.tab sub).1 else s.tab,book:=if au then vW (if c then jn s.book sub id H else s.book) sub 7 else if c then jn s.book sub id H else s.book}):=κ (by unfold RmS.write;rw[aH.o];simp only[bn.o];rw[an.o,bl.o]);cases au with
 | false=>
  go_wp2_with (go_at_call 69;(go_call am.o as e w6 ⟨rfl,O⟩;have ag:=κ O;clear O))
  (refine bodyPost_end (v:= .tuple #[]) ?re1 rfl ?_;(case re1=>simp[results,results77,go_sem]))
  exact⟨rfl,by rw[aG.o];exact(af.o.on ag.o).at.sub (λb d=>ϔ _ d),ah.o.trans ((af.o.at.stay ag.o).sub (λb d=>ϔ _ d))⟩
 | true=>
  go_upto_region 6 with (go_at_call 69;(go_call am.o as e w6 ⟨rfl,O⟩;have ag:=κ O;have N:=κ (af.o.on O);have aE:=κ (qj O bj.o);clear O))
  have aV:k.R≠k.b:=λe=>by
   obtain⟨_,d,_⟩:=N.o.all .book;rw[<-e,(N.o.all .room).1] at d;cases d
  have aW:w.heap.size≠k.b:=λe=>by
   obtain⟨_,d,_⟩:=N.o.all .book;rw[<-e,(N.o.law (w.heap.size) η).1] at d;cases d
  have ak:=λ(x:qC (λb=>b=k.b) w6)=>β0 (x.h.blk N.o.blk aV)
  have al:=λ(x:qC (λb=>b=k.b) w6)=>β1 (x.h.blk aE.o aW)
  refine QN (λb=>b=k.b) w6 8 8 [7] ?_
  refine Qs7 ?_
  (refine Ql ?_;intro K J)
  go_call NU (N.o.on (qh.drewN w6 1)).at sub (by have:=Ue s.book sub id H;cases c<;>simp<;>omega) as e I ⟨⟨bB,rfl⟩,aP,aX,aK⟩;have bg:=κ aP;have aJ:Hid (qA ([w.heap.size]++F) w6 I):=κ ((N.o.at.stay (qh.drewN w6 1)).trans aX);have ba:Hid (qk (λb=>b=k.b) w6 I):=κ (((qk.refl _ _).drewN 1).trans aK);clear aP aX aK;refine⟨_,rfl,qn ba.o,J _ _ ?_⟩;clear J K ak al aV aW;refine qD ?_;have bk:=κ (aJ.o.blk η aE.o);obtain⟨bz,bE,bI,Y⟩:=bg.o;have ap:=κ Y;have bs:k.R≠k.td:=λe=>by
   obtain⟨_,_,_,d,_⟩:=Y.all .table;rw[<-e,(Y.all .room).1] at d;cases d
  have n2:w.heap.size≠k.td:=λe=>by
   obtain⟨_,_,_,d,_⟩:=Y.all .table;rw[<-e,(Y.law w.heap.size η).1] at d;cases d
  have ak:=λ(x:qC (λb=>b=k.td) I)=>β11 (x.h.blk ap.o.blk bs)
  have al:=λ(x:qC (λb=>b=k.td) I)=>β1 (x.h.blk bk.o n2)
  clear Y
  go_upto_region 7 with fail
  refine QN (λb=>b=k.td) I 7 7 [6] ?_
  refine Qs6 ?_
  (refine Ql ?_;intro K J)
  go_call Nr (ap.o.on (qh.drewN I 1)).at sub as e w9 ⟨⟨v9,rfl⟩,aQ,t9,a9⟩;have bh:=κ aQ;have bo:Hid (qA ([w.heap.size]++F) I w9):=κ ((ap.o.at.stay (qh.drewN I 1)).trans t9);have bb:Hid (qk (λb=>b=k.td) I w9):=κ (((qk.refl _ _).drewN 1).trans a9);clear aQ t9 a9;refine⟨_,rfl,qn bb.o,J _ _ ?_⟩;clear J K;refine qD ?_;go_wp2
  (refine bodyPost_end (v:= .tuple #[]) ?re2 rfl ?_;(case re2=>simp[results,results77,go_sem]))
  exact⟨rfl,by rw[aG.o];exact bh.o.sub (λb d=>ϔ _ d),ah.o.trans (((af.o.at.stay ag.o).trans (aJ.o.trans bo.o)).sub (λb d=>ϔ _ d))⟩
def YQ (n sub:Int) (w:World):Calls prog 75 #[θ #[ι n,ι sub]] w λe w'=>e= .returned (ι (xr n))/\qh w w':=by
 by_cases h2:n=2
 ·subst h2
  go_enter func75,ntmps75
  go_wp2;go_ret;exact⟨rfl,qh.alloc _ _⟩
 ·by_cases h3:n=3
  ·subst h3
   go_enter func75,ntmps75
   go_wp2;go_ret;exact⟨rfl,qh.alloc _ _⟩
  ·have e:xr n=3:=by unfold xr;rw[ώ h2,ώ h3]
   have d:(n==2)=ύ:=by simp[h2]
   have G:(n==3)=ύ:=by simp[h3]
   rw[e];clear h2 h3 e
   go_enter func75,ntmps75
   go_wp2;go_ret;exact⟨rfl,qh.alloc _ _⟩
def F5 (n sub:Int) (J:0<=n/\n<=4) (w:World):Calls prog 127 #[θ #[ι n,ι sub]] w λe w'=>e= .returned (.tuple #[θ #[ι (kB (n,sub)).1.1,ι (kB (n,sub)).1.2],μ (kB (n,sub)).2])/\qh w w':=by
 have d:=qp (w.alloc (.cells #[ι n,ι sub] 37)) (.cells #[ι 0,ι 0] 37);by_cases h0:n=0
 ·subst h0
  go_enter func127,ntmps127
  go_wp2
  (refine bodyPost_ret (v:= .tuple #[θ #[ι 0,ι 0],ύ]) ?rr1 rfl ?_;(case rr1=>(simp[results,results127,go_sem])))
  exact⟨rfl,ρ⟩
 ·by_cases h1:n=1
  ·subst h1
   go_enter func127,ntmps127
   go_wp2
   (refine bodyPost_ret (v:= .tuple #[θ #[ι 0,ι 0],ό]) ?rr2 rfl ?_;(case rr2=>(simp[results,results127,go_sem])))
   exact⟨rfl,ρ⟩
  ·by_cases h2:n=2
   ·subst h2
    go_enter func127,ntmps127
    go_wp2
    (refine bodyPost_ret (v:= .tuple #[θ #[ι 1,ι 0],ό]) ?rr3 rfl ?_;(case rr3=>(simp[results,results127,go_sem])))
    exact⟨rfl,ρ⟩
   ·have e:kB (n,sub)=((n-1,sub),ό):=by unfold kB;rw[ώ h0,ώ h1,ώ h2]
    have G:(n==0)=ύ:=by simp[h0]
    have H:(n==1)=ύ:=by simp[h1]
    have I:(n==2)=ύ:=by simp[h2]
    rw[e];clear e
    go_enter func127,ntmps127
    go_wp2
    (refine bodyPost_ret (v:= .tuple #[θ #[ι (n-1),ι sub],ό]) ?rr4 rfl ?_;(case rr4=>(simp[results,results127,go_sem])))
    exact⟨rfl,ρ⟩
def Ap {J:Nat->Prop} {l:LnS} (h:zZ J w p l) (n:Int) (N:n=1∨n=2∨n=3):
  Calls prog 126 #[γ p,ι n] w λe w'=>(∃v,e= .returned v/\w'.ownsRow w.heap.size 3 1 v (UI l n).length ((UI l n).map (Value.int .i64)))/\zZ (xy J w w') w' p (kz l n)/\qk J w w':=by
 obtain⟨k,vo,rfl,x⟩:=h;rcases N with rfl | rfl | rfl
 ·refine(YN x).mono ?_;rintro e w' ⟨d,G,H⟩;exact⟨d,⟨k,vo,rfl,G⟩,H.mono λb I=>x.muts b I⟩
 ·refine(YM x).mono ?_;rintro e w' ⟨d,G,H⟩;exact⟨d,⟨k,vo,rfl,G⟩,H.mono λb I=>x.muts b I⟩
 ·refine(YL x).mono ?_;rintro e w' ⟨d,G,H⟩;exact⟨d,⟨k,vo,rfl,G⟩,H.mono λb I=>x.muts b I⟩
def Uc (n:Int):xr n=1∨xr n=2∨xr n=3:=by
 unfold xr;split
 ·exact ϐ rfl
 ·split
  ·exact ϓ (ϐ rfl)
  ·exact ϓ (ϓ rfl)
def DrJ.step' {R:Nat} {v' G:Value} {b:Jb} {A:List Int} (d:DrJ w w' R v v' b G A):kK w w' R v v' b:=⟨d.buf,d.away,d.own⟩
def Lc (h:RmX T w0 w k vp vr s F):
  Calls prog 124 #[γ k.RQ] w λe w'=>(∃d cap,e= .returned (δ d s.queue.length cap))/\qL w0 w' k {s with queue:=[]} F/\qA F w w'/\qk (RgB k.RQ k.AQ) w w':=by
 obtain⟨f,q,I,J,H,N,css,g,a⟩:=h.que;have ae: ∀c∈q,∃d n cp,c=[δ d n cp]:=λc ac=>by
  obtain⟨b,_,af⟩:=a.mem c ac;obtain⟨v,rfl,⟨d,cap,rfl,_⟩,_⟩:=af.read;exact⟨d,_,cap,rfl⟩
 refine(Nd w _ _ _ _ q I J H N css g ae).mono ?_;rintro e w' ⟨v,rfl,ad,⟨Y,O,U,g'⟩,G⟩;obtain⟨d,cap,rfl⟩:=yd ad;obtain⟨aa,ab⟩:=h.ring (q:=[]) G (λD _=>⟨Y,[],I,J,H,O,U,g',trivial⟩);rw[a.len];exact⟨⟨d,cap,rfl⟩,aa,ab,G⟩
end Go.Proofs.YtlmllmonabafjaaGreatDoor
