/- x -/
import Derived.Shelf.Sort.Plain
import Derived.Shelf.Slices.In.SortNone
import Derived.Sort.OwnSortedInts
import Derived.Test.YtlmllmonabafjaaGreatDoorMi8
namespace Go.Proofs.YtlmllmonabafjaaGreatDoor
open Option renaming some->ϊ,none->ϋ
open Bool renaming true->ό,false->ύ
open Go.Value renaming bool->μ,slice->δ,pointer->π,agg->θ
open Go.IntKind renaming i64->ι,u8->υ,u16->φ,u32->ω,i32->χ,u64->ψ
open _root_.Go.Proofs.Tryz
set_option linter.all false
set_option maxHeartbeats 8000000
open Go.RowKit
set_option maxRecDepth 100000
open Go.Shelf
variable {w w' w0:World} {v vp vr:Value} {l:List Int} {b base p C B:Nat} {m:Bk} {F:List Nat} {x s0 s1 s2:Int} {o:Og} {xs:List Value} {S:Nat->Prop} {K V α:Type} {P:Prop}
def Kl:Go.Shelf.Ren:=⟨fun | 189=>116 | 125=>169 | 257=>168 | 128=>229 | 129=>230 | 294=>220 | 295=>221 | 296=>222 | 297=>223 | 298=>224 | 299=>225 | 216=>226 | 300=>227 | 301=>228 | 328=>272 | 329=>273 | 330=>274 | 331=>275 | 332=>276 | 215=>277 | 343=>302 | n=>n,fun | 28=>107 | 3=>3 | 46=>335 | 0=>0 | 51=>38 | 53=>231 | 4=>4 | 183=>400 | 182=>399 | 131=>200 | 5=>5 | 9=>9 | 218=>443 | 222=>447 | 228=>469 | 229=>100 | n=>n,fun | n=>n⟩
def WW:Go.Proofs.Lays.n189 prog Kl:={
 mixed:=by kernel_rfl
 f125:=func169.trans (ϯ ϊ ξ)
 f128:=func229.trans (ϯ ϊ ξ)
 f129:=func230.trans (ϯ ϊ ξ)
 f189:=func116.trans (ϯ ϊ ξ)
 f215:=func277.trans (ϯ ϊ ξ)
 f216:=func226.trans (ϯ ϊ ξ)
 f257:=func168.trans (ϯ ϊ ξ)
 f294:=func220.trans (ϯ ϊ ξ)
 f295:=func221.trans (ϯ ϊ ξ)
 f296:=func222.trans (ϯ ϊ ξ)
 f297:=func223.trans (ϯ ϊ ξ)
 f298:=func224.trans (ϯ ϊ ξ)
 f299:=func225.trans (ϯ ϊ ξ)
 f300:=func227.trans (ϯ ϊ ξ)
 f301:=func228.trans (ϯ ϊ ξ)
 f328:=func272.trans (ϯ ϊ ξ)
 f329:=func273.trans (ϯ ϊ ξ)
 f330:=func274.trans (ϯ ϊ ξ)
 f331:=func275.trans (ϯ ϊ ξ)
 f332:=func276.trans (ϯ ϊ ξ)
 f343:=func302.trans (ϯ ϊ ξ)
 t0:=underlying0
 a0:=isAgg0
 z0:=sizeOf0
 v0:=zeroValue0
 t3:=underlying3
 a3:=isAgg3
 z3:=sizeOf3
 v3:=zeroValue3
 t4:=underlying4
 a4:=isAgg4
 z4:=sizeOf4
 v4:=zeroValue4
 t5:=underlying5
 a5:=isAgg5
 z5:=sizeOf5
 v5:=zeroValue5
 t9:=underlying9
 a9:=isAgg9
 z9:=sizeOf9
 v9:=zeroValue9
 t28:=underlying107
 a28:=isAgg107
 z28:=sizeOf107
 v28:=zeroValue107
 t46:=underlying335
 a46:=isAgg335
 z46:=sizeOf335
 v46:=zeroValue335
 t51:=underlying38
 a51:=isAgg38
 z51:=sizeOf38
 v51:=zeroValue38
 t53:=underlying231
 a53:=isAgg231
 z53:=sizeOf231
 v53:=zeroValue231
 t131:=underlying200
 a131:=isAgg200
 z131:=sizeOf200
 v131:=zeroValue200
 t182:=underlying399
 a182:=isAgg399
 z182:=sizeOf399
 v182:=zeroValue399
 t183:=underlying400
 a183:=isAgg400
 z183:=sizeOf400
 v183:=zeroValue400
 t218:=underlying443
 a218:=isAgg443
 z218:=sizeOf443
 v218:=zeroValue443
 t222:=underlying447
 a222:=isAgg447
 z222:=sizeOf447
 v222:=zeroValue447
 t228:=underlying469
 a228:=isAgg469
 z228:=sizeOf469
 v228:=zeroValue469
 t229:=underlying100
 a229:=isAgg100
 z229:=sizeOf100
 v229:=zeroValue100}
open Go.RowKit
def srt (l:List Int):List Int:=l.mergeSort λx y=>decide (x<=y)
def vI (l:List Int):(srt l).length=l.length:=by unfold srt;simp
def gL {a b:List Int} (h:a.Perm b):srt a=srt b:=by
 unfold srt;have I: ∀a b c:Int,decide (a<=b)=ό->decide (b<=c)=ό->decide (a<=c)=ό:=λa b c d G=>by simp at *;omega
 have H: ∀a b:Int,(decide (a<=b)||decide (b<=a))=ό:=λa b=>by simp;omega
 refine List.Perm.eq_of_pairwise (le:=λx y:Int=>decide (x<=y)=ό) ?_ (Q2 I H a) (Q2 I H b) (((O0 a _).trans h).trans (O0 b _).symm);intro x y _ _ d G;simp at d G;omega
def Zh (h:l.Pairwise (· <= ·)):srt l=l:=List.mergeSort_of_pairwise (by simpa using h)
def WG:x∈srt l↔x∈l:=(O0 l _).mem_iff
def jS {e size n:Nat} (h:w.ownsRow base e size v n xs) {q:Nat} (d:v.ownBlock=ϊ q):base<=q:=by
 rcases h.2 with ⟨rfl,_⟩ | ⟨b,cap,cur,rfl,G,_⟩
 ·cases d
 ·cases d;exact G
def Yx {e size n:Nat} (h:w.ownsRow base e size v n xs) (m:jt S w w') (H: ∀k,S k->k<base):w'.ownsRow base e size v n xs:=by
 obtain⟨d,G⟩:=h;refine⟨d, ?_⟩;rcases G with h | ⟨g,cap,cur,e1,hb,hg,rest⟩
 ·exact ϒ h
 ·exact ϔ ⟨g,cap,cur,e1,hb,m.blk hg (λx=>by have:=H g x;omega),rest⟩
def DQ (h:w.ownsRow base 3 1 v l.length (l.map (Value.int .i64))) (N:l.length<4611686018427387904):
  Calls prog 116 #[v] w λe w'=>e= .returned (.tuple #[])/\w'.ownsRow base 3 1 v (srt l).length ((srt l).map (Value.int .i64))/\w.grownBy w' v.ownBlock:=by
 obtain⟨ab,h⟩:=h;rcases h with ⟨rfl,O⟩ | ⟨b,cap,cur,rfl,I,H,J,M,U,Y⟩
 ·have e0:l=[]:=by simpa using O
  subst e0;refine(Any.slices_Sort_int_none WW ϋ 0 w).mono λe w' ⟨d,G⟩=> ?_
  subst G;exact⟨d,⟨by simp[srt],ϒ ⟨rfl,by simp[srt]⟩⟩,⟨rfl,rfl,rfl,ϕ _,λ_ _ _=>rfl⟩⟩
 ·have aa:cur.toList.take l.length=l.map (Value.int .i64):=by simpa using Y
  refine(Any.slices_Sort_int WW b 0 cap l w (holds_of_blockI H aa) (lt_of_block H) N).mono λe w' ⟨d,n,os,G⟩=> ?_
  subst G;refine⟨d, ?_,grownBy_sortedI _⟩;have:=ownsRow_sortedI (w:=w) (n:=n) (os:=os) (ss:=l) (ts:=srt l) (vI l) I H J M U;rw[vI];exact this
def xS (sub:Int) (l:Bk):List Int:=l.filterMap λp=>if p.1.1=sub/\p.2=0 then ϊ p.1.2 else ϋ
def jz (m:Bk) (sub:Int):List Int:=srt (xS sub m)
def kN (sub:Int) (l:Bk):(xS sub l).length<=l.length:=I7 _ _
def Xe (L:List (K×V)) (is:List Nat):(zj L is).length<=is.length:=I7 _ _
def Ki (sub:Int) (l:Bk) (p:(Int×Int)×Int):xS sub (l++[p])=xS sub l++(if p.1.1=sub/\p.2=0 then [p.1.2] else []):=by
 unfold xS;rw[J7];by_cases h:p.1.1=sub/\p.2=0<;>simp[h]
def Yc (h:jy w B b m) (sub:Int) (az:m.length<=1000000):
  Calls prog 70 #[γ B,ι sub] w λe w'=>(∃v,e= .returned v/\SlI .i64 w' v (jz m sub)/\ ∀q,v.ownBlock=ϊ q->w.heap.size<=q)/\ql w w':=by
 obtain⟨aU,hi,aR,aS,aT⟩:=info_parts (P:=prog) (e:=3) (z:= ι 0) (size:=1) (bytes:=8) ξ;have aW:=β0 h.blk;have aV:=κ h;have ai:=κ az;obtain⟨w1,bf,au,aq,aP⟩:=h.map.range (P:=prog) underlying236;have aY:=h.map.lt;have aH:=κ au;have aE:=κ aq;clear h az au aq aP
 go_enter func70,ntmps70
 go_wp2
 go_loopw [5] (λv5 wr=> ∃is:List Nat,jW wr w.heap.size b ke2 (Value.int .i64) m is/\wr.ownsRow (w.heap.size+1) 3 1 v5 (xS sub (zj m is)).length ((xS sub (zj m is)).map (Value.int .i64))/\ql w wr) (λ_ wr=>uO wr b w.heap.size)
 case atStart=>exact⟨[],aH.o,World.ownsRow_nil _ _ _ _,aE.o⟩
 case round=>
  obtain⟨is,N,am,aj⟩:=hrel;have ap:=κ N;have ab:=κ am;have ae:=κ aj;have ad:=κ N.left;rcases N.next (P:=prog) with ⟨aw,ak⟩ | ⟨i,aM,w2,bc,ba,ak,av,ag,aQ,ax⟩
  ·clear N am aj;have an:=κ aw;clear aw;have aN:(xS sub (zj m is)).length<4611686018427387904:=by
    have H:=kN sub (zj m is);have J:=Xe m is;have aX:=an.o;have aJ:=ai.o;omega
   go_wp2_with (go_at_call 116;(go_call DQ ab.o aN as e bi ⟨rfl,O,ay⟩;have aF:=κ O;have aC:=κ ay;clear O ay))
   go_ret;have aO:=ap.o.perm an.o;have aI:srt (xS sub (zj m is))=jz m sub:=gL (aO.filterMap _);have O:=aF.o;rw[aI] at O;refine⟨⟨_,rfl,SlI.of_owns O ?_,λq U=>by have:=jS ab.o U;omega⟩,ae.o.grown aC.o ae.o.size ?_⟩
   ·have H:=kN sub m;have J:(jz m sub).length=(xS sub m).length:=vI _;have aJ:=ai.o;omega
   ·intro q U;have:=jS ab.o U;omega
  ·have bd:=kN sub (zj m is);have be:=Xe m is;have aA:=uW (L:=m) (is:=is) aM;have d:=Ki sub (zj m is) m[i];rw[<-aA] at d;have aZ:=ai.o;have bb:is.length<1000000:=by omega
   clear N am aj aA;generalize m[i]=p at *;obtain⟨⟨Y,ac⟩,f⟩:=p;unfold ke2 at ak ax;simp only at ak ax d;have G:=κ (Yx ab.o ag (λk ah=>by subst ah;exact F5 _));have I:=κ (av.more (ql.alloc w2 (.cells #[ι Y,ι ac] 169)));have ar:ql w w2:=jt.to_more ae.o ag (λk ah=>by subst ah;exact ϕ _);have aa:=κ ar;have bg:w.heap.size+1<=w2.heap.size:=by have:=lt_of_block (ap.o.rlt |> λh=>(P2 h));omega
   clear av ag ar aQ;by_cases H:Y=sub
   ·by_cases J:f=0
    ·subst H J;rw[ϐ ⟨rfl,rfl⟩] at d;have M:=κ d;clear d
     go_wp2_with (at_builtin;refine qU _ rfl (.tmp 26) (.tmp 29) 107 rfl (w.heap.size+1) 3 aU (ι 0) 8 underlying107 hi aR aS aT rfl _ .i64 (xS Y (zj m is)) rfl ((G.o.alloc _).alloc _) _ [ac] rfl (SlI.lit .i64 (w2.alloc (.cells #[ι Y,ι ac] 169)) [ac] 3 _ 1 _ η rfl η η) (by simp;omega) ζ (by simp;omega) ?_;intro bh w6 aB af _;have aG:=κ aB;have ao:=κ (jt.of_grown af);have aD:=κ af;clear aB af)
     go_roundw
     case rel=>
      refine⟨is++[i],(I.o.more W4).away ao.o ?_ ?_, ?_, ?_⟩
      ·intro e;have:=jS G.o e;omega
      ·intro e;have:=jS G.o e;omega
      ·rw[M.o];exact aG.o
      ·exact(((aa.o.al _).al _).grown aD.o ((aa.o.al _).al _).size (λq U=>by have:=jS G.o U;omega))
     case measure=>
      have aK:=(I.o.more W4).away ao.o (λe=>by have:=jS G.o e;omega) (λe=>by have:=jS G.o e;omega);rw[ad.o,aK.left];simp;omega
    ·have aL:(f==0)=ύ:=by simpa using J
     rw[ώ (λh=>J h.2),Ω] at d;have M:=κ d;clear d J;subst H;go_wp2;go_roundw
     case rel=>exact⟨is++[i],I.o,by rw[M.o];exact G.o.alloc _,aa.o.al _⟩
     case measure=>
      rw[ad.o,I.o.left];simp;omega
   ·have aL:(Y==sub)=ύ:=by simpa using H
    rw[ώ (λh=>H h.1),Ω] at d;have M:=κ d;clear d H;go_wp2;go_roundw
    case rel=>exact⟨is++[i],I.o,by rw[M.o];exact G.o.alloc _,aa.o.al _⟩
    case measure=>
     rw[ad.o,I.o.left];simp;omega
def vM (m:Bk) (sub f:Int):Bk:=m.map λp=>if p.1.1=sub/\p.2=0 then (p.1,f) else p
def Gl (m:Bk) (sub f:Int):Bk×List Int:=if 1<=f/\f<=8 then (vM m sub f,jz m sub) else (m,[])
def Yi (m:Bk) (sub f:Int) (ps:List Int):Bk:=ps.foldl (λm p=>qx m (sub,p) f) m
def PO (m:Bk) (sub f:Int) (ps:List Int) (p:Int):Yi m sub f (ps++[p])=qx (Yi m sub f ps) (sub,p) f:=by simp[Yi,Φ]
def VF {k:Int×Int} {f:Int}: ∀{m:Bk},(m.map Prod.fst).Nodup->k∈m.map Prod.fst->qx m k f=m.map λp=>if p.1=k then (p.1,f) else p
 | [],_,h=>by simp at h
 | (a,b)::l,hn,h=>by
  simp only[Ϭ,D4] at hn;unfold qx;by_cases e:k=a
  ·subst e;rw[ϐ rfl];simp only[Ϭ,ϐ]
   congr 1
   symm;have: ∀p∈l,(if p.1=k then (p.1,f) else p)=p:=λp d=>by
    rw[ώ];intro e;exact hn.1 (by rw[<-e];exact K7 d)
   calc l.map (λp=>if p.1=k then (p.1,f) else p)=l.map id:=K9 this
    _=l:=by simp
  ·rw[ώ e];simp only[Ϭ];rw[ώ (λh=>e h.symm)]
   congr 1
   exact VF hn.2 (by simp[e] at h;simpa using h)
def VT (sub f:Int): ∀(ps:List Int) (m:Bk),(m.map Prod.fst).Nodup->(∀p∈ps,(sub,p)∈m.map Prod.fst)->Yi m sub f ps=m.map λp=>if p.1.1=sub/\p.1.2∈ps then (p.1,f) else p
 | [],m,_,_=>by simp[Yi]
 | p::ps,m,hn,hk=>by
  have d:=VF (f:=f) hn (hk p Ϟ);have e:Yi m sub f (p::ps)=Yi (qx m (sub,p) f) sub f ps:=rfl;have G:(qx m (sub,p) f).map Prod.fst=m.map Prod.fst:=by
   rw[d,Q7];refine K9 λq _=> ?_
   simp only[Function.comp];split<;>rfl
  rw[e,VT sub f ps _ (by rw[G];exact hn) (λq H=>by rw[G];exact hk q (Ϩ _ H)),d,Q7];refine K9 λq _=> ?_
  obtain⟨⟨a,c⟩,g⟩:=q;simp only[Function.comp];by_cases ea:a=sub
  ·subst ea;by_cases ec:c=p
   ·subst ec;simp
   ·simp[ec]
  ·simp[ea]
def pendB_mem {sub:Int}:x∈jz m sub↔((sub,x),0)∈m:=by
 unfold jz xS;rw[WG,O3];constructor
 ·rintro⟨⟨⟨a,c⟩,g⟩,d,h⟩;by_cases e:a=sub/\g=0
  ·rw[ϐ e] at h;cases h;obtain⟨rfl,rfl⟩:=e;exact d
  ·rw[ώ e] at h;cases h
 ·intro h;exact⟨_,h,η⟩
def Pm (d:(m.map Prod.fst).Nodup) {k:Int×Int} {f g:Int} (G:(k,f)∈m) (H:(k,g)∈m):f=g:=by
 induction m with
 | nil=>cases G
 | cons p l ih=>
  simp only[Ϭ,D4] at d;rcases ϰ.1 G with e1 | h1'<;>rcases ϰ.1 H with e2 | h2'
  ·rw[<-e1] at e2;cases e2;rfl
  ·exfalso;apply d.1;rw[<-e1];exact B6.2 ⟨_,h2',rfl⟩
  ·exfalso;apply d.1;rw[<-e2];exact B6.2 ⟨_,h1',rfl⟩
  ·exact ih d.2 h1' h2'
def PQ (sub f:Int) (d:(m.map Prod.fst).Nodup):Yi m sub f (jz m sub)=vM m sub f:=by
 rw[VT sub f _ m d (λp H=>K7 (f:=Prod.fst) (pendB_mem.1 H))];unfold vM;refine K9 λq G=> ?_
 obtain⟨⟨a,c⟩,g⟩:=q;simp only;by_cases e:a=sub
 ·subst e;by_cases eg:g=0
  ·subst eg;rw[ϐ ⟨rfl,pendB_mem.2 G⟩,ϐ ⟨rfl,rfl⟩]
  ·rw[ώ (λh=>eg (Pm d G (pendB_mem.1 h.2))),ώ (λh=>eg h.2)]
 ·rw[ώ (λh=>e h.1),ώ (λh=>e h.1)]
def SlI.onmap {k:IntKind} {ke:K->Value} {ab:V->Value} {L:List (K×V)} (h:SlI k w v l) (U:jk w b ke ab L) (a:jt (λx=>x=b) w w'):SlI k w' v l:=by
 obtain⟨aa,cap,I,J,M,N⟩:=h;refine⟨aa,cap,I,J,λi hi=> ?_,N⟩;obtain⟨c,H,e,d,G⟩:=M i hi;have Y: ¬c=b:=by
  rintro rfl;obtain⟨ad,ac,O,_⟩:=U.ex;simp[World.cell?,O] at G
 exact⟨c,H,e,ϗ d a.size,by rw[a.cells c (H+i) d Y];exact G⟩
def SD (k:Int×Int) (f:Int):(qx m k f).length<=m.length+1:=by
 induction m with
 | nil=>simp[qx]
 | cons p l ih=>
  unfold qx;split<;>simp<;>omega
def MN (h:jy w B b m) (sub f:Int) (ar:m.length<=1000000):
  Calls prog 107 #[γ B,ι sub,ι f] w λe w'=>(∃v,e= .returned v/\SlI .i64 w' v (Gl m sub f).2/\ ∀q,v.ownBlock=ϊ q->w.heap.size<=q)/\jy w' B b (Gl m sub f).1/\jt (λx=>x=b) w w':=by
 by_cases hf:1<=f/\f<=8
 ·have H:=κ hf;have J:=κ h;have G:Gl m sub f=(vM m sub f,jz m sub):=by unfold Gl;rw[ϐ hf]
  have N:=κ G;have aD:(jz m sub).length<=1000000:=by
   have ay:=kN sub m;have az:(jz m sub).length=(xS sub m).length:=vI _;omega
  clear h G hf
  go_enter func107,ntmps107
  go_wp2_with first | (go_at_call 166;(go_call yP f _ H.o as e w2 ⟨rfl,rfl⟩)) | (go_at_call 70;(go_call Yc J.o sub ar as e aG ⟨⟨v3,rfl,ak,aj⟩,ai⟩;have ao:=κ ak;have ab:=κ ai;obtain⟨aw,av,rfl,_⟩:=ak;have an:=κ aj;clear ai aj))
  go_loopw [18] (λi wr=> ∃j:Nat,j<=(jz m sub).length/\i= ι j/\jy wr B b (Yi m sub f ((jz m sub).take j))/\SlI .i64 wr (δ aw (jz m sub).length av) (jz m sub)/\jt (λx=>x=b) w wr) (λi _=>(jz m sub).length-(intOf i).toNat)
  case atStart=>exact⟨0,τ,rfl,J.o.more ab.o,ao.o,jt.of_more ab.o⟩
  case round=>
   obtain⟨j,aA,rfl,d,U,O⟩:=hrel;have M:=κ d;have aa:=κ U;have Y:=κ O;have ax:=β0 d.blk;by_cases hlt:j<(jz m sub).length
   ·obtain⟨aE,cap,ap,_,ac,_⟩:=U;cases ap;obtain⟨pb,aF,rfl,aC,aq⟩:=ac j hlt;have aB:(j:Int)<((jz m sub).length:Int):=by omega
    have ae:(jz m sub).getD j 0=(jz m sub)[j]:=by simp[hlt]
    rw[ae] at aq;have ah:(jz m sub).take (j+1)=(jz m sub).take j++[(jz m sub)[j]]:=ϵ hlt;have am:=κ ah;clear ac ae ah;generalize (jz m sub)[j]=p at *;obtain⟨w4,ag,af,ad,_⟩:=d.map.update Ys underlying236 (sub,p) f;unfold ke2 at ag;simp only at ag;have al:=κ af;have I:=κ ad;clear d O af ad;go_wp2;go_roundw
    case rel=>
     refine⟨j+1,τ,by go_num, ?_,aa.o.onmap M.o.map I.o,Y.o.trans I.o⟩;rw[am.o,PO];exact M.o.put I.o (by have:=H.o;omega) al.o
    case measure=>simp[intOf];omega
   ·obtain rfl:j=(jz m sub).length:=by omega
    clear d U O;go_wp2;go_ret;rw[N.o];have d:=M.o;rw[ϱ,PQ sub f J.o.map.keys] at d;exact⟨⟨_,rfl,aa.o,an.o⟩,d,Y.o⟩
 ·have G:Gl m sub f=(m,[]):=by unfold Gl;rw[ώ hf]
  have N:=κ G;have H:=κ hf;clear G hf
  go_enter func107,ntmps107
  go_wp2_with (go_at_call 166;(go_call Jh f _ H.o as e w2 ⟨rfl,rfl⟩))
  go_ret;rw[N.o];exact⟨⟨_,rfl,SlI.nil _ _,λq au=>by cases au⟩,h,jt.refl _ _⟩
def yU (pr:Sb->Bool) (u:List (Int×Sb)):List Int:=u.filterMap λp=>if pr p.2 then ϊ p.1 else ϋ
def uo (pr:Sb->Bool) (u:List (Int×Sb)):List Int:=srt (yU pr u)
def zV (own:Int) (x:Sb):Bool:=decide (x.1=own)
def j8 (pub:Int) (x:Sb):Bool:=x.2.1&&decide (x.2.2=pub)
def kg (d:Sb->Bool) (u:List (Int×Sb)):(yU d u).length<=u.length:=I7 _ _
def uX (L:List (K×V)) (is:List Nat):(zj L is).length<=is.length:=I7 _ _
def ZB (d:Sb->Bool) (u:List (Int×Sb)) (p:Int×Sb):yU d (u++[p])=yU d u++(if d p.2 then [p.1] else []):=by
 unfold yU;rw[J7];by_cases h:d p.2=ό<;>simp[h]
def Hi (d:Int) (x:Sb) (G:w.cell? ⟨C,0,ϋ⟩=ϊ (ω d)) (I:C<w.heap.size):
  Calls prog 243 #[θ #[ω x.1,x.2.1,ι x.2.2],γ C] w λe w'=>e= .returned (μ (zV d x))/\ql w w':=by
 have H:=(ql.alloc w (.cells #[ω x.1,x.2.1,ι x.2.2] 298)).cells C 0 I;rw[G] at H
 go_enter func243,ntmps243
 go_wp2;go_ret;exact⟨qZ (by unfold zV;rw[E0];simp),ql.alloc _ _⟩
def Hh (d:Int) (x:Sb) (J:w.cell? ⟨C,0,ϋ⟩=ϊ (ι d)) (M:C<w.heap.size):
  Calls prog 204 #[θ #[ω x.1,x.2.1,ι x.2.2],γ C] w λe w'=>e= .returned (μ (j8 d x))/\ql w w':=by
 have H:=(ql.alloc w (.cells #[ω x.1,x.2.1,ι x.2.2] 298)).cells C 0 M;rw[J] at H;cases hb:x.2.1 with
 | false=>
  have G:j8 d x=ύ:=by unfold j8;rw[hb];rfl
  rw[hb] at H
  go_enter func204,ntmps204
  go_wp2;go_ret;exact⟨qZ G.symm,ql.alloc _ _⟩
 | true=>
  have G:j8 d x=decide (x.2.2=d):=by unfold j8;rw[hb];rfl
  rw[hb] at H;have I:=κ G;clear G
  go_enter func204,ntmps204
  go_wp2;go_ret;exact⟨qZ (by rw[I.o,E0];simp),ql.alloc _ _⟩
def Ψ7 (h:P:=by
 obtain⟨ba,hi,aX,aY,aZ⟩:=info_parts (P:=prog) (e:=3) (z:= ι 0) (size:=1) (bytes:=8) ξ;have c2:=β2 h.blk;have aF:=κ av;have ah:=κ aC;obtain⟨w1,bj,ax,aw,aU⟩:=h.mu.range (P:=prog) underlying240;have bc:=h.mu.lt;have aL:=κ ax;have aI:=κ aw;clear h aC ax aw aU av;generalize aW:t.u=u at *;clear aW
 go_enter func203,ntmps203
 go_wp2
 go_loopw [5] (λv5 wr=> ∃is:List Nat,jW wr w.heap.size c (Value.int .i64) vS u is/\wr.ownsRow (w.heap.size+1) 3 1 v5 (yU (Ξa v0) (zj u is)).length ((yU (Ξa v0) (zj u is)).map (Value.int .i64))/\ql w wr) (λ_ wr=>uO wr c w.heap.size)
 case atStart=>exact⟨[],aL.o,World.ownsRow_nil _ _ _ _,aI.o⟩
 case round=>
  obtain⟨is,J,ak,ai⟩:=hrel;have ar:=κ J;have Y:=κ ak;have aa:=κ ai;have ap:=κ J.left;rcases J.next (P:=prog) with ⟨az,aj⟩ | ⟨i,aR,w2,bg,be,aj,ay,af,aV,aA⟩
  ·clear J ak ai;have an:=κ az;clear az;have aS:(yU (Ξa v0) (zj u is)).length<4611686018427387904:=by
    have aN:=kg (Ξa v0) (zj u is);have aO:=uX u is;have bb:=an.o;have aP:=ah.o;omega
   go_wp2_with (go_at_call 116;(go_call DQ Y.o aS as e bm ⟨rfl,M,aB⟩;have aJ:=κ M;have aG:=κ aB;clear M aB))
   go_ret;have aT:=ar.o.perm an.o;have aM:srt (yU (Ξa v0) (zj u is))=uo (Ξa v0) u:=gL (aT.filterMap _);have M:=aJ.o;rw[aM] at M;refine⟨⟨_,rfl,SlI.of_owns M ?_,λq N=>by have:=jS Y.o N;omega⟩,aa.o.grown aG.o aa.o.size ?_⟩
   ·have aN:=kg (Ξa v0) u;have aO:(uo (Ξa v0) u).length=(yU (Ξa v0) u).length:=vI _;have aP:=ah.o;omega
   ·intro q N;have:=jS Y.o N;omega
  ·have bh:=kg (Ξa v0) (zj u is);have bi:=uX u is;have aD:=uW (L:=u) (is:=is) aR;have G:=ZB (Ξa v0) (zj u is) u[i];rw[<-aD] at G;have bd:=ah.o;have bf:is.length<1000000:=by omega
   clear J ak ai aD;generalize u[i]=p at *;obtain⟨k,x⟩:=p;unfold vS at aj aA;simp only at aj aA G;have H:=κ (Yx Y.o af (λz am=>by subst am;exact F5 _));have au:=κ (ay.more (ql.alloc w2 (.cells #[ω x.1,x.2.1,ι x.2.2] 298)));have ag:ql w w2:=jt.to_more aa.o af (λz am=>by subst am;exact ϕ _);have aq:=κ ag;have bk:w.heap.size+1<=w2.heap.size:=by have:=ar.o.rlt;omega
   have O:=κ (qs (qq ag aF.o) (.cells #[ω x.1,x.2.1,ι x.2.2] 298));clear ay af ag aV;cases hpr:Ξa v0 x with
   | true=>
    rw[hpr,ϐ rfl] at G;have ac:=κ G;have ad:=κ hpr;clear G hpr
    go_wp2_with first | (((with_reducible refine(Ξb v0 x (qm O.o 0 rfl) (qn O.o)).mono ?_);rintro e w4 ⟨rfl,d⟩;rw[ad.o];have I:=κ (au.o.more d);have ab:=κ (jE (H.o.alloc (.cells #[ω x.1,x.2.1,ι x.2.2] 298)) d);have U:=κ ((aq.o.al (.cells #[ω x.1,x.2.1,ι x.2.2] 298)).trans d);have z4:w.heap.size+1<=w4.heap.size:=Ϙ (by simp;omega) d.size;clear d)) | (at_builtin;refine qU _ rfl (.tmp 21) (.tmp 23) 107 rfl (w.heap.size+1) 3 ba (ι 0) 8 underlying107 hi aX aY aZ rfl _ .i64 (yU (Ξa v0) (zj u is)) rfl (ab.o.alloc _) _ [k] rfl (SlI.lit .i64 w4 [k] 3 _ 1 _ η rfl rfl η) (by simp;omega) ζ (by simp;omega) ?_;intro bl w6 aE ae _;have aK:=κ aE;have ao:=κ (jt.of_grown ae);have aH:=κ ae;clear aE ae)
    go_roundw
    case rel=>
     refine⟨is++[i],(I.o.more W4).away ao.o ?_ ?_, ?_, ?_⟩
     ·intro e;have:=jS H.o e;omega
     ·intro e;have:=jS H.o e;omega
     ·rw[ac.o];exact aK.o
     ·exact((U.o.al _).grown aH.o (U.o.al _).size (λq N=>by have:=jS H.o N;omega))
    case measure=>
     have aQ:=(I.o.more W4).away ao.o (λe=>by have:=jS H.o e;omega) (λe=>by have:=jS H.o e;omega);rw[ap.o,aQ.left];simp;omega
   | false=>
    rw[hpr,ώ η,Ω] at G;have ac:=κ G;have ad:=κ hpr;clear G hpr
    go_wp2_with (((with_reducible refine(Ξb v0 x (qm O.o 0 rfl) (qn O.o)).mono ?_);rintro e w4 ⟨rfl,d⟩;rw[ad.o];have I:=κ (au.o.more d);have ab:=κ (jE (H.o.alloc (.cells #[ω x.1,x.2.1,ι x.2.2] 298)) d);have U:=κ ((aq.o.al (.cells #[ω x.1,x.2.1,ι x.2.2] 298)).trans d);clear d))
    go_roundw
    case rel=>exact⟨is++[i],I.o,by rw[ac.o];exact ab.o,U.o⟩
    case measure=>
     rw[ap.o,I.o.left];simp;omega):P:=h
section
open _root_.Go.Proofs.YtlmllmonabafjaaGreatDoor renaming zV->Ξa,Hi->Ξb
def Ku {T a c:Nat} {t:TS} (h:jq w T a b c t) (v0:Int) (av:w.heap[C]? =ϊ (.cells #[ω v0] 38 (0,0))) (aC:t.u.length<=1000000):
  Calls prog 203 #[γ T,.func (.func 243) #[] #[γ C]] w λe w'=>(∃v,e= .returned v/\SlI .i64 w' v (uo (zV v0) t.u)/\ ∀q,v.ownBlock=ϊ q->w.heap.size<=q)/\ql w w':=Ψ7
end
section
open _root_.Go.Proofs.YtlmllmonabafjaaGreatDoor renaming j8->Ξa,Hh->Ξb
def Dm {T a c:Nat} {t:TS} (h:jq w T a b c t) (v0:Int) (av:w.heap[C]? =ϊ (.cells #[ι v0] 3 (0,0))) (aC:t.u.length<=1000000):
  Calls prog 203 #[γ T,.func (.func 204) #[] #[γ C]] w λe w'=>(∃v,e= .returned v/\SlI .i64 w' v (uo (j8 v0) t.u)/\ ∀q,v.ownBlock=ϊ q->w.heap.size<=q)/\ql w w':=Ψ7
end
def Ge (x:Int) (l:List Int) (w:World) (e:Ending) (w':World):Prop:= ∃n:Int,(0<=n↔x∈l)/\ -1<=n/\e= .returned (.int .i64 n)/\w=w'
def Ψ8 (h:P:=by
 obtain⟨ae,cap,rfl,ad,H,_⟩:=s
 go_enter Ξa,Ξb
 go_wp2
 go_loop [8] (λi=> ∃k:Nat,k<=l.length/\i= ι k/\x∉l.take k) (λi=>l.length-(intOf i).toNat)
 case atStart=>exact⟨0,τ,rfl,η⟩
 case round=>
  obtain⟨k,ab,rfl,d⟩:=hrel;by_cases hlt:k<l.length
  ·obtain⟨b,af,rfl,aa,O⟩:=H k hlt;have ac:(k:Int)<(l.length:Int):=by omega
   have I:l.getD k 0=l[k]:=by simp[hlt]
   rw[I] at O;have J:l.take (k+1)=l.take k++[l[k]]:=ϵ hlt;have U:l[k]∈l:=ϛ hlt;have N:=κ J;have G:=κ d;clear H I J d;generalize l[k]=y at *;by_cases e:x=y
   ·subst e;go_wp2;go_ret;exact⟨k,⟨λ_=>U,λ_=>by omega⟩,τ,rfl,rfl⟩
   ·have Y:(x==y)=ύ:=by simpa using e
    have M:=κ e;clear e;go_wp2
    go_round
    case rel=>exact⟨k+1,τ,by go_num,by rw[N.o];simp;exact⟨G.o,M.o⟩⟩
    case measure=>simp[intOf];omega
  ·obtain rfl:k=l.length:=by omega
   clear H;have G:=κ d;clear d;go_wp2;go_ret;refine⟨-1,⟨λh=>by omega,λh=> ?_⟩,τ,rfl,rfl⟩;have:=G.o;rw[ϱ] at this;exact ϩ h this):P:=h
section
open _root_.Go.Proofs.Tryz renaming func219->Ξa,ntmps219->Ξb
def Lu (x:Int) (s:SlI .u32 w v l):Calls prog 219 #[v,ω x] w (Ge x l w):=Ψ8
end
def Yb (x:Int) (s:SlI .u32 w v l):Calls prog 164 #[v,ω x] w λe w'=>e= .returned (μ (decide (x∈l)))/\w=w':=by
 go_enter func164,ntmps164
 go_wp2_with (go_at_call 219;(go_call Lu x s as e w2 ⟨n,d,H,rfl,rfl⟩;have G:=κ d;clear d))
 go_ret;exact⟨qZ (by rw[E0];simp only[C4];exact G.o),rfl⟩
def oAt (o:List (Int×Og)) (p s0 s1 s2:Int):Nat->List (Int×Og)
 | 0=>o
 | 1=>qx o s0 (p,0)
 | 2=>qx (qx o s0 (p,0)) s1 (p,1)
 | _=>qx (qx (qx o s0 (p,0)) s1 (p,1)) s2 (p,2)
def sAt (s:List (Og×Int)) (p s0 s1 s2:Int):Nat->List (Og×Int)
 | 0=>s
 | 1=>qx s (p,0) s0
 | 2=>qx (qx s (p,0) s0) (p,1) s1
 | _=>qx (qx (qx s (p,0) s0) (p,1) s1) (p,2) s2
def BE (o:List (Int×Og)) (p s0 s1 s2:Int) (k:Nat) (h:k<3):oAt o p s0 s1 s2 (k+1)=qx (oAt o p s0 s1 s2 k) ([s0,s1,s2].getD k 0) (p,(k:Int)):=by
 have:k=0∨k=1∨k=2:=by omega
 rcases this with rfl | rfl | rfl<;>rfl
def AW (s:List (Og×Int)) (p s0 s1 s2:Int) (k:Nat) (h:k<3):sAt s p s0 s1 s2 (k+1)=qx (sAt s p s0 s1 s2 k) (p,(k:Int)) ([s0,s1,s2].getD k 0):=by
 have:k=0∨k=1∨k=2:=by omega
 rcases this with rfl | rfl | rfl<;>rfl
def KI (s0 s1 s2:Int):Prop:=s1=s0∨s2=s0∨s2=s1
instance (s0 s1 s2:Int):Decidable (KI s0 s1 s2):=by unfold KI;exact inferInstance
def vA (t:TS) (p s0 s1 s2:Int):TS×Int:=if 0<=p/\p<3 then (if KI s0 s1 s2 then (t,1) else if (qh t.s (p,0)).isSome then (t,6) else if (qh t.o s0).isSome∨(qh t.o s1).isSome∨(qh t.o s2).isSome then (t,6)
 else ({t with o:=oAt t.o p s0 s1 s2 3,s:=sAt t.s p s0 s1 s2 3},0)) else (t,1)
def IK {k:Nat} (h:k<3) (d:[s0,s1,s2].getD k 0∈[s0,s1,s2].take k):KI s0 s1 s2:=by
 have:k=0∨k=1∨k=2:=by omega
 unfold KI;rcases this with rfl | rfl | rfl<;>simp at d<;>omega
def IJ (h: ∀k,k<3->[s0,s1,s2].getD k 0∉[s0,s1,s2].take k): ¬KI s0 s1 s2:=by
 have d:=h 1 τ;have G:=h 2 τ;simp at d G;unfold KI;omega
def Np {p:Int->Prop} {k:Nat} (h:k<3) (d:p ([s0,s1,s2].getD k 0)):p s0∨p s1∨p s2:=by
 have:k=0∨k=1∨k=2:=by omega
 rcases this with rfl | rfl | rfl
 ·exact ϒ d
 ·exact ϔ (ϒ d)
 ·exact ϔ (ϔ d)
def Nr {p:Int->Prop} (h: ∀k,k<3-> ¬p ([s0,s1,s2].getD k 0)): ¬(p s0∨p s1∨p s2):=by
 rintro(a | a | a)
 ·exact h 0 τ a
 ·exact h 1 τ a
 ·exact h 2 τ a
def Hy (s0 s1 s2:Int) (k:Nat) (h:k<3) (w:World):(Instr.index 40 (θ #[ω s0,ω s1,ω s2]) (ι (k:Int))).run prog w= .ok (ω ([s0,s1,s2].getD k 0)) w:=by
 have:k=0∨k=1∨k=2:=by omega
 rcases this with rfl | rfl | rfl
 all_goals first | rfl | simp[go_sem]
def sl3 (C k:Nat) (H:k<=3) (w:World):(Instr.sliceAt 40 (γ C) ϋ (ϊ (ι (k:Int))) ϋ).run prog w= .ok (δ (ϊ ⟨C,0,ϋ⟩) k 3) w:=by
 have d:prog.arrayLen 40=3:=by kernel_rfl
 have G:(sizeOf (prog.elem 40)).run prog w= .ok 1 w:=by kernel_rfl
 rw[run_sliceAt_array_h w 40 ⟨C,0,ϋ⟩ ξ .i64 (k:Int) τ (by rw[d];omega),G,d];simp[slicedAt,Addr.add]
def MQ (h:w.heap[C]? =ϊ (.cells #[ω s0,ω s1,ω s2] 40 (0,0))) (k:Nat) (G:k<=3):SlI .u32 w (δ (ϊ ⟨C,0,ϋ⟩) k 3) ([s0,s1,s2].take k):=by
 have d:([s0,s1,s2].take k).length=k:=by simp;omega
 refine⟨ϊ ⟨C,0,ϋ⟩,3,by rw[d],by rw[d];omega,λi hi=> ?_,by rw[d];exact G,by unfold maxLen;omega,λh=>by cases h⟩;rw[d] at hi;refine⟨C,0,rfl,qn h,qm h _ ?_⟩;have:i=0∨i=1∨i=2:=by omega
 rcases this with rfl | rfl | rfl
 ·have:([s0,s1,s2].take k).getD 0 0=s0:=by rw[ϑ,I9 τ];rfl
  rw[this];rfl
 ·have:([s0,s1,s2].take k).getD 1 0=s1:=by rw[ϑ,I9 τ];rfl
  rw[this];rfl
 ·have:([s0,s1,s2].take k).getD 2 0=s2:=by rw[ϑ,I9 τ];rfl
  rw[this];rfl
def kJ (r:TS×Int) (T a b c:Nat) (w:World) (e:Ending) (w':World):Prop:=e= .returned (.int .i64 r.2)/\jq w' T a b c r.1/\jt (λz=>z=a∨z=b) w w'
def Dw {T a c:Nat} {t:TS} (h:jq w T a b c t) (p s0 s1 s2:Int):
    Calls prog 104 #[γ T,ι p,θ #[ω s0,ω s1,ω s2]] w (kJ (vA t p s0 s1 s2) T a b c w):=by
  by_cases hp:0<=p/\p<3
  · have I:=κ hp
    have G:=κ h
    have aD:=qj w (.cells #[ω s0,ω s1,ω s2] 40)
    have az:=κ aD
    clear hp h aD
    go_enter func104,ntmps104
    go_wp2_with (go_at_call 163;(go_call vw p _ I.o as e w2 ⟨rfl,rfl⟩))
    go_loop [20] (λi=> ∃k:Nat,k<=3/\i= ι k/\ ∀j,j<k->[s0,s1,s2].getD j 0∉[s0,s1,s2].take j) (λi=>3-(intOf i).toNat)
    case atStart=>exact⟨0,τ,rfl,λj aq=>by omega⟩
    case round=>
      obtain⟨k,aI,rfl,Y⟩:=hrel
      have H:=κ Y
      clear Y
      by_cases hk3:k<3
      · have aJ:(k:Int)<3:=by omega
        have aH:=λw=>Hy s0 s1 s2 k hk3 w
        have aA:=κ (MQ az.o k τ)
        have bb:=λw'=>sl3 w.heap.size k τ w'
        have aN:=κ (IK (s0:=s0) (s1:=s1) (s2:=s2) hk3)
        have ag:Hid (∀y,[s0,s1,s2].getD k 0=y->y∉[s0,s1,s2].take k-> ∀j,j<k+1->[s0,s1,s2].getD j 0∉[s0,s1,s2].take j):=κ (λy e ar j aq=>by
          subst e
          by_cases e:j<k
          · exact H.o j e
          · obtain rfl:j=k:=by omega
            exact ar)
        generalize ax:[s0,s1,s2].getD k 0=y at *
        clear ax
        by_cases J:y∈[s0,s1,s2].take k
        · have O:=κ J
          clear J
          go_wp2_with (go_at_call 164;(go_call Yb y aA.o as e w2 ⟨rfl,rfl⟩;rw[ϭ O.o]))
          go_ret
          have d:vA t p s0 s1 s2=(t,1):=by unfold vA;rw[ϐ I.o,ϐ (aN.o O.o)]
          unfold kJ
          rw[d]
          exact⟨rfl,G.o.more W4,jt.of_more W4⟩
        · have O:=κ J
          clear J
          go_wp2_with (go_at_call 164;(go_call Yb y aA.o as e w2 ⟨rfl,rfl⟩;rw[ϫ O.o]))
          go_round
          case rel=>exact⟨k+1,τ,by go_num,ag.o y rfl O.o⟩
          case measure=>simp[intOf];omega
      · obtain rfl:k=3:=by omega
        have af:=κ (IJ H.o)
        clear H
        cases hps:(qh t.s (p,0)).isSome with
        | true=>
          have N:=κ hps
          clear hps
          go_wp2_with (go_at_call 165;(go_call yC (G.o.more (ql.alloc w (.cells #[ω s0,ω s1,ω s2] 40))) p as e w2 ⟨rfl,rfl⟩;rw[N.o]))
          go_ret
          have d:vA t p s0 s1 s2=(t,6):=by unfold vA;rw[ϐ I.o,ώ af.o,ϐ N.o]
          unfold kJ
          rw[d]
          exact⟨rfl,G.o.more W4,jt.of_more W4⟩
        | false=>
          have N:=κ hps
          clear hps
          go_wp2_with (go_at_call 165;(go_call yC (G.o.more (ql.alloc w (.cells #[ω s0,ω s1,ω s2] 40))) p as e w2 ⟨rfl,rfl⟩;rw[N.o]))
          go_loopw [33] (λi wr=> ∃k:Nat,k<=3/\i= ι k/\(∀j,j<k-> ¬(qh t.o ([s0,s1,s2].getD j 0)).isSome=ό)/\ql (w.alloc (.cells #[ω s0,ω s1,ω s2] 40)) wr) (λi _=>3-(intOf i).toNat)
          case atStart=>exact⟨0,τ,rfl,λj aq=>by omega,ql.refl _⟩
          case round=>
            obtain⟨k,aI,rfl,Y,aL⟩:=hrel
            have H:=κ Y
            have M:=κ aL
            clear Y aL
            by_cases hk3:k<3
            · have aJ:(k:Int)<3:=by omega
              have aH:=λw=>Hy s0 s1 s2 k hk3 w
              have ab:=(G.o.more (ql.alloc w _)).more M.o
              have aZ:=β0 ab.blk
              have q:=ab.lookO ([s0,s1,s2].getD k 0)
              have aa:=κ (Np (p:=λz=>(qh t.o z).isSome=ό) (s0:=s0) (s1:=s1) (s2:=s2) hk3)
              have ag:Hid (∀y,[s0,s1,s2].getD k 0=y-> ¬(qh t.o y).isSome=ό-> ∀j,j<k+1-> ¬(qh t.o ([s0,s1,s2].getD j 0)).isSome=ό):=κ (λy e ar j aq=>by
                subst e
                by_cases e:j<k
                · exact H.o j e
                · obtain rfl:j=k:=by omega
                  exact ar)
              have aj:=κ ab
              clear ab
              generalize ax:[s0,s1,s2].getD k 0=y at *
              clear ax
              cases hs:(qh t.o y).isSome with
              | true=>
                rw[hs] at q
                have ah:=κ hs
                clear hs
                go_wp2
                go_ret
                have d:vA t p s0 s1 s2=(t,6):=by
                  unfold vA
                  rw[ϐ I.o,ώ af.o,ώ (by rw[N.o];simp),ϐ]
                  exact aa.o ah.o
                unfold kJ
                rw[d]
                exact⟨rfl,aj.o.more W4,jt.of_more ((W4.trans M.o).al _)⟩
              | false=>
                rw[hs] at q
                have ah:=κ hs
                clear hs
                go_wp2
                go_roundw
                case rel=>exact⟨k+1,τ,by go_num,ag.o y rfl (by rw[ah.o];simp),M.o.al _⟩
                case measure=>simp[intOf];omega
            · obtain rfl:k=3:=by omega
              have aP:=κ (Nr (p:=λz=>(qh t.o z).isSome=ό) H.o)
              have ad:=κ (qq M.o az.o)
              have aV:=β0 ad.o
              have aW:=β1 ad.o
              have aX:=β2 ad.o
              have d:vA t p s0 s1 s2=({t with o:=oAt t.o p s0 s1 s2 3,s:=sAt t.s p s0 s1 s2 3},0):=by
                unfold vA
                rw[ϐ I.o,ώ af.o,ώ (by rw[N.o];simp),ώ aP.o]
              have ae:=κ d
              have aj:=κ ((G.o.more (ql.alloc w _)).more M.o)
              have aO:=κ (jt.of_more (S:=λz=>z=a∨z=b) ((ql.alloc w (.cells #[ω s0,ω s1,ω s2] 40)).trans M.o))
              clear H d
              go_wp2_with fail
              clear aV aW aX
              go_loopw [48] (λi aM=> ∃k:Nat,k<=3/\i= ι k/\jq aM T a b c {t with o:=oAt t.o p s0 s1 s2 k,s:=sAt t.s p s0 s1 s2 k}/\jt (λz=>z=a∨z=b) w aM) (λi _=>3-(intOf i).toNat)
              case atStart=>exact⟨0,τ,rfl,aj.o,aO.o⟩
              case round=>
                obtain⟨k,aI,rfl,aF,aG⟩:=hrel
                have ai:=κ aF
                have aa:=κ aG
                clear aF aG
                by_cases hk3:k<3
                · have aJ:(k:Int)<3:=by omega
                  have aH:=λw=>Hy s0 s1 s2 k hk3 w
                  have aQ:=κ (BE t.o p s0 s1 s2 k hk3)
                  have aR:=κ (AW t.s p s0 s1 s2 k hk3)
                  generalize [s0,s1,s2].getD k 0=y at *
                  have ak:=κ (ai.o.more (ql.alloc wr (.cells #[ι p,ι (k:Int)] 58)))
                  have aY:=κ (qj wr (.cells #[ι p,ι (k:Int)] 58))
                  have ba:a<wr.heap.size:=ai.o.mo.lt
                  obtain⟨w9,au,J,ac,_⟩:=(ak.o.mo.more (ql.drewN _ 1)).update Aa underlying239 y (p,(k:Int))
                  unfold kO at au
                  simp only at au
                  have am:=κ ((ak.o.more (ql.drewN _ 1)).putO ac J)
                  have aE:=κ (ac.blk (qr aY.o 1) τ)
                  have aT:=κ ac
                  obtain⟨w8,av,aK,aw,_⟩:=(am.o.ms.more (ql.drewN _ 1)).update Yr underlying47 (p,(k:Int)) y
                  unfold kO at av
                  simp only at av
                  have aU:=κ ((am.o.more (ql.drewN _ 1)).putS aw aK)
                  have aS:=κ aw
                  clear J ac aK aw
                  go_wp2_with fail
                  have an: ∀z:qt (wr.alloc (.cells #[ι p,ι (k:Int)] 58)),z.w'.cell? ⟨T,0,ϋ⟩=ϊ (.map (ϊ a)):=λz=>qm (qq z.h ak.o.blk) 0 rfl
                  have ao: ∀z:qt (wr.alloc (.cells #[ι p,ι (k:Int)] 58)),z.w'.cell? ⟨wr.heap.size,0,ϋ⟩=ϊ (ι p):=λz=>z.new 0 rfl
                  have ap: ∀z:qt (wr.alloc (.cells #[ι p,ι (k:Int)] 58)),z.w'.cell? ⟨wr.heap.size,1,ϋ⟩=ϊ (ι (k:Int)):=λz=>z.new 1 rfl
                  refine Qn (wr.alloc (.cells #[ι p,ι (k:Int)] 58)) 6 7 [6] ?_
                  refine Qq6 ?_
                  (refine Qe ?_;intro K U)
                  refine U _ _ ?_
                  clear U K
                  refine qA ?_
                  clear an ao ap au
                  go_wp2_with fail
                  have an: ∀z:qt w9,z.w'.cell? ⟨T,1,ϋ⟩=ϊ (.map (ϊ b)):=λz=>qm (qq z.h am.o.blk) 1 rfl
                  have ao: ∀z:qt w9,z.w'.cell? ⟨wr.heap.size,0,ϋ⟩=ϊ (ι p):=λz=>qm (qq z.h aE.o) 0 rfl
                  have ap: ∀z:qt w9,z.w'.cell? ⟨wr.heap.size,1,ϋ⟩=ϊ (ι (k:Int)):=λz=>qm (qq z.h aE.o) 1 rfl
                  refine Qn w9 6 7 [6] ?_
                  refine Qq6 ?_
                  (refine Qe ?_;intro K U)
                  refine U _ _ ?_
                  clear U K
                  refine qA ?_
                  clear an ao ap av
                  go_wp2
                  go_roundw
                  case rel=>
                    have aB:jq w8 T a b c {t with o:=oAt t.o p s0 s1 s2 (k+1),s:=sAt t.s p s0 s1 s2 (k+1)}:=by rw[aQ.o,aR.o];exact aU.o
                    have aC:=(((aa.o.trans (jt.of_more (W4.dr 1))).trans (aT.o.mono (λz ay=>ϒ ay))).trans (jt.of_more (ql.drewN _ 1))).trans (aS.o.mono (λz ay=>ϔ ay))
                    first
                      | exact⟨k+1,τ,by go_num,aB,aC⟩
                      | (repeat apply Exists.intro
                         exact⟨⟨k+1,τ,by go_num,aB,aC⟩,rfl⟩)
                  case measure=>simp[intOf];omega
                · obtain rfl:k=3:=by omega
                  go_wp2
                  go_ret
                  unfold kJ
                  rw[ae.o]
                  exact⟨rfl,ai.o,aa.o⟩
  · have I:=κ hp
    have G:=κ h
    have d:vA t p s0 s1 s2=(t,1):=by unfold vA;rw[ώ hp]
    have ae:=κ d
    clear hp h d
    go_enter func104,ntmps104
    go_wp2_with (go_at_call 163;(go_call Z8 p _ I.o as e w2 ⟨rfl,rfl⟩))
    go_ret
    unfold kJ
    rw[ae.o]
    exact⟨rfl,G.o.more W4,jt.of_more W4⟩
structure Gr where
 wanted:Bool
 any:Bool
 last:Int
 tries:Int
structure zu where
 buf:Jb
 any:Bool
 great:Int
 asks:Gr
 askedOf:Bool
variable {t:zu}
structure AcS where
 o:Og
 num:Int
 pk:Pk
structure RqS where
 o:Og
 at_:Int
 body:List Int
structure CfR where
 room:Int
 hold:Int
 wait:Int
 space:Int
 retry:Int
 most:Int
structure CnR where
 lost:Int
 malf:Int
 strange:Int
 told:Int
 acc:Int
structure RmS where
 cfg:CfR
 closed:Bool
 ret:List (Og×Bool)
 clock:Int
 queue:List (List Int)
 tab:TS
 lanes:List (Int×LnS)
 strs:List (Og×zu)
 pks:List AcS
 reqs:List RqS
 cnt:CnR
 book:Bk
variable {s:RmS}
def subIds:List Int:=[0,1,2,3,4,5]
def orgs:List Og:=[(0,0),(0,1),(0,2),(1,0),(1,1),(1,2),(2,0),(2,1),(2,2)]
def prR (pr:Sb->Bool) (u:List (Int×Sb)):List Int:=subIds.filter λx=>match qh u x with
 | some sb=>pr sb
 | none=>ύ
def RmS.origins (s:RmS):List Og:=orgs.filter λo=>(qh s.strs o).isSome
def RmS.readyAt (s:RmS) (o:Og):Bool:=match qh s.strs o with
 | some t=>xa t.buf s.clock
 | none=>ύ
def RmS.ready (s:RmS):Option Og:=s.origins.find? s.readyAt
def wO (l:LnS) (k:Int):Bool:=l.wanted&&(!l.gone&&(!decide (l.cur=l.tgt)&&decide (l.tgt=k)))
def RmS.wants (s:RmS) (o:Og):Bool:=(match qh s.strs o with
 | some t=>t.askedOf
 | none=>ύ)||(prR (j8 o.1) s.tab.u).any λx=>match qh s.lanes x with
 | some l=>wO l o.2
 | none=>ύ
def Zc (retry:Int):Nat->Int->Int
 | 0,g=>g
 | k+1,g=>if g<1∨retry<=g then g else Zc retry k (2* g)
def Yg (space retry tries:Int):Int:=if Zc retry (tries-1).toNat space<=retry then Zc retry (tries-1).toNat space else retry
def uq (a:Gr) (wanted:Bool):Int:=if wanted&&a.wanted then a.tries else 0
def Hc (space retry:Int) (a:Gr) (wanted:Bool) (now:Int):Bool:= !wanted||(a.any&&decide (now-a.last<Yg space retry (uq a wanted)))
def vU (space retry:Int) (a:Gr) (wanted:Bool) (now:Int):Gr×Bool:=
 if Hc space retry a wanted now then (⟨wanted,a.any,a.last,uq a wanted⟩,ύ) else (⟨wanted,ό,now,uq a wanted+1⟩,ό)
abbrev Zb (src:Int):qQ:=(1,206,qy 0 4++qy src 4,())
def ug (src:Int):List Int:=(vW [Zb src]).1
def RmS.request (s:RmS) (o:Og):RmS:={s with reqs:=s.reqs++[⟨o,s.clock,ug ((qh s.tab.s o).getD 0)⟩]}
def RmS.tick1 (s:RmS) (o:Og):RmS:=match qh s.strs o with
 | none=>s
 | some t=>if (vU s.cfg.space s.cfg.retry t.asks (s.wants o) s.clock).2
  then {s with strs:=qx s.strs o {t with asks:=(vU s.cfg.space s.cfg.retry t.asks (s.wants o) s.clock).1}}.request o
  else {s with strs:=qx s.strs o {t with asks:=(vU s.cfg.space s.cfg.retry t.asks (s.wants o) s.clock).1}}
def RmS.tick (s:RmS):RmS×Int:=if s.closed then (s,7) else (s.origins.foldl RmS.tick1 {s with clock:=s.clock+1},0)
def yp (subs:List Int):List Og:=(0,0)::(1,0)::(subIds.filter λx=>decide (x∈subs)).flatMap λx=>[(2,x),(3,x),(4,x)]
def RmS.there (s:RmS):List Int:=subIds.filter λx=>(qh s.lanes x).isSome
def RmS.workers (s:RmS):List Og:=yp s.there
def xB (n:Int):Int:=if n=2 then 1 else if n=3 then 2 else 3
def RmS.mayOpen (s:RmS) (w:Og):Bool:=
 if w.1=0 then decide (0<s.queue.length) else if w.1=1 then s.ready.isSome else match qh s.lanes w.2 with
 | some l=>vC l (xB w.1)
 | none=>ύ
def RmS.may (s:RmS) (w:Og):Bool:=decide (w∈s.workers)&&(if s.closed then !((qh s.ret w).getD ύ) else s.mayOpen w)
def jp (b:Bk) (sub id f:Int):Bk:=if qh b (sub,id)=ϊ 0 then (zi b (sub,id) f).1 else b
def RmS.tell1 (s:RmS) (x:Int):RmS:=match qh s.tab.u x with
 | none=>s
 | some sb=>if sb.2.1 then (match qh s.lanes x with
  | none=>s
  | some l=>if l.wanted&&jj l.cur then (match qh s.strs (sb.2.2,l.cur) with
   | none=>s
   | some t=>{s with strs:=qx s.strs (sb.2.2,l.cur) {t with askedOf:=ό}}) else s) else s
def RmS.tellS (s:RmS) (src:Int):RmS:=(prR (zV src) s.tab.u).foldl RmS.tell1 s
def RmS.tell (s:RmS) (b:List Int):RmS:=
 if (zx b).2=0 then (xU (zx b).1).foldl RmS.tellS {s with cnt:={s.cnt with told:=s.cnt.told+1}} else {s with cnt:={s.cnt with malf:=s.cnt.malf+1}}
def KH (near sq:Int):Int:=near+ahd (near%65536) sq
def yV (t:zu) (sq:Int):Int:=if t.any then KH t.great sq else 65536+sq
def Ji (b:Bk) (subs:List Int) (id:Int):Bk:=subs.foldl (λb x=>(vT b (x,id)).1) b
def xG (b:Bk) (subs:List Int) (id f:Int):Bk:=subs.foldl (λb x=>jp b x id f) b
def yY (e:Int):Int:=if e=10 then 3 else if e=9 then 2 else if e=8 then 6 else 0
def Ye (t:zu) (p:Pk) (clock id:Int):zu:=
 ⟨(jP t.buf (yV t p.sq) clock id).1,ό,if t.any=ύ∨t.great<yV t p.sq then yV t p.sq else t.great,t.asks,if zJ p.pl then ύ else t.askedOf⟩
def RmS.accept (s:RmS) (o:Og) (p:Pk):RmS:=match qh s.strs o with
 | none=>s
 | some t=>{s with
   strs:=qx s.strs o (Ye t p s.clock s.pks.length)
   pks:=s.pks++[⟨o,yV t p.sq,p⟩]
   cnt:={s.cnt with acc:=s.cnt.acc+1}
   book:=if yY (jP t.buf (yV t p.sq) s.clock s.pks.length).2=0 then Ji s.book (prR (j8 o.1) s.tab.u) s.pks.length
    else xG (Ji s.book (prR (j8 o.1) s.tab.u) s.pks.length) (prR (j8 o.1) s.tab.u) s.pks.length (yY (jP t.buf (yV t p.sq) s.clock s.pks.length).2)}
def Ve (b:List Int):Bool:=decide (2<=b.length)&&(decide (192<=b.getD 1 0)&&decide (b.getD 1 0<=223))
def RmS.media (s:RmS) (b:List Int):RmS:=
 if (jl b).2=0 then (match qh s.tab.o (jl b).1.sc with
  | none=>{s with cnt:={s.cnt with strange:=s.cnt.strange+1}}
  | some o=>s.accept o (jl b).1) else {s with cnt:={s.cnt with malf:=s.cnt.malf+1}}
def RmS.read (s:RmS):RmS:=match s.queue with
 | []=>s
 | b::q=>if Ve b then {s with queue:=q}.tell b else {s with queue:=q}.media b
def RmS.put1 (x:ItS) (s:RmS) (sub:Int):RmS:=if qh s.book (sub,x.id)=ϊ 0 then (match qh s.lanes sub with
 | none=>s
 | some l=>if (xp l x).2.2.1 then {s with lanes:=qx s.lanes sub (xp l x).1,book:=jp s.book sub (xp l x).2.1 6} else {s with lanes:=qx s.lanes sub (xp l x).1}) else s
def ac0:AcS:=⟨(0,0),0,pk0⟩
def RmS.item (s:RmS) (o:Og) (id:Int):ItS:=⟨id,o.2,zJ (s.pks.getD id.toNat ac0).pk.pl,(s.pks.getD id.toNat ac0).pk⟩
def RmS.orderAt (s:RmS) (o:Og) (t:zu):RmS:=
 subIds.foldl (RmS.put1 (s.item o (yD t.buf s.clock).2.2.1)) {s with strs:=qx s.strs o {t with buf:=(yD t.buf s.clock).1}}
def RmS.order (s:RmS):RmS:=match s.ready with
 | none=>s
 | some o=>(match qh s.strs o with
  | none=>s
  | some t=>s.orderAt o t)
def RmS.choose (s:RmS) (sub:Int):RmS:=match qh s.lanes sub with
 | none=>s
 | some l=>{s with
   lanes:=qx s.lanes sub (jf l).1
   book:=if (jf l).2.2.2&& !decide ((jf l).2.2.1=0) then jp s.book sub (jf l).2.1 (jf l).2.2.1 else s.book}
def RmS.rewrite (s:RmS) (sub:Int):RmS:=match qh s.lanes sub with
 | none=>s
 | some l=>{s with
   lanes:=qx s.lanes sub (qY l).1
   book:=if (qY l).2.2.2&&(qY l).2.2.1 then jp s.book sub (qY l).2.1 6 else s.book}
def RmS.write (s:RmS) (sub:Int) (acc:Bool):RmS:=match qh s.lanes sub with
 | none=>s
 | some l=>{s with
   lanes:=qx s.lanes sub (qX l acc).1
   tab:=if (qX l acc).1.gone then (zM s.tab sub).1 else s.tab
   book:=if (qX l acc).1.gone then vM (if (qX l acc).2.2.2&&decide ((qX l acc).2.2.1=1) then jp s.book sub (qX l acc).2.1 (qX l acc).2.2.1 else s.book) sub 7
    else if (qX l acc).2.2.2&&decide ((qX l acc).2.2.1=1) then jp s.book sub (qX l acc).2.1 (qX l acc).2.2.1 else s.book}
def RmS.drain1 (s:RmS) (id:Int):RmS:={s with book:=xG s.book subIds id 8}
def RmS.drainO (s:RmS) (o:Og):RmS:=match qh s.strs o with
 | none=>s
 | some t=>(thJ t.buf.holds).foldl RmS.drain1 {s with strs:=qx s.strs o {t with buf:=vP t.buf}}
def KG (l:LnS) (n:Int):List Int:=if n=1 then l.A.map (·.id) else if n=2 then l.B.map (·.1.id) else l.C.map (·.1)
def RmS.drainL (s:RmS) (w:Og):RmS:=match qh s.lanes w.2 with
 | none=>s
 | some l=>{s with
   lanes:=qx s.lanes w.2 (vh l (xB w.1))
   book:=(KG l (xB w.1)).foldl (λb id=>jp b w.2 id 8) s.book}
def RmS.drain (s:RmS) (w:Og):RmS:=
 if w.1=0 then {s with queue:=[],cnt:={s.cnt with lost:=s.cnt.lost+s.queue.length}}
 else if w.1=1 then s.origins.foldl RmS.drainO s
 else s.drainL w
def vi (w:Og):Og×Bool:=if w.1=0 then ((0,0),ύ) else if w.1=1 then ((0,0),ό) else if w.1=2 then ((1,0),ό) else ((w.1-1,w.2),ό)
def RmS.goesR (s:RmS) (w:Og):Bool:= !(vi w).2||(qh s.ret (vi w).1).getD ύ
def RmS.endW (s:RmS) (w:Og):RmS:=if s.goesR w then {s.drain w with ret:=qx s.ret w ό} else s.drain w
def RmS.stepW (s:RmS) (w:Og) (acc:Bool):RmS:=
 if s.closed then s.endW w else if w.1=0 then s.read else if w.1=1 then s.order else if w.1=2 then s.choose w.2 else if w.1=3 then s.rewrite w.2 else s.write w.2 acc
def RmS.pick (s:RmS) (w:Og) (acc:Bool):RmS×Bool:=if s.may w then (s.stepW w acc,ό) else (s,ύ)
def xY (c:CfR):Bool:=decide (1<=c.room/\c.room<=8)&&(decide (Ok c.hold c.wait)&&(decide (1<=c.space/\c.space<=c.retry/\c.retry<=1000)&&decide (1<=c.most/\c.most<=10)))
def ud (c:CfR):RmS:=⟨c,ύ,[],0,[],⟨[],[],[]⟩,[],[],[],[],⟨0,0,0,0,0⟩,[]⟩
def uc (c:CfR):zu:=⟨CU c.hold c.wait,ύ,0,⟨ύ,ύ,0,0⟩,ύ⟩
def RmS.publish (s:RmS) (p s0 s1 s2:Int):RmS×Int:=
 if s.closed then (s,7) else if (vA s.tab p s0 s1 s2).2=0 then ({s with tab:=(vA s.tab p s0 s1 s2).1,strs:=qx (qx (qx s.strs (p,0) (uc s.cfg)) (p,1) (uc s.cfg)) (p,2) (uc s.cfg)},0) else (s,(vA s.tab p s0 s1 s2).2)
def RmS.join (s:RmS) (x own sq st:Int):RmS×Int:=
 if s.closed then (s,7) else if (yI s.tab x own).2=0 then ({s with tab:=(yI s.tab x own).1,lanes:=qx s.lanes x (Vd s.cfg.room.toNat s.cfg.most own sq st)},0) else (s,(yI s.tab x own).2)
def Yh [DecidableEq K] (m:List (K×V)) (x:K):List (K×V):=m.filter λp=> !decide (p.1=x)
def JV (s:RmS) (x:Int):Bool:=match qh s.lanes x with
 | some l=>l.gone
 | none=>ύ
def RmS.subscribe (s:RmS) (x p k:Int):RmS×Int:=
 if s.closed then (s,7) else if jj k=ύ then (s,1) else if JV s x then (s,5) else if (vL s.tab x p).2=0 then (match qh s.lanes x with
  | none=>(s,0)
  | some l=>({s with tab:=(vL s.tab x p).1,lanes:=qx s.lanes x (jO l k).1},(jO l k).2)) else (s,(vL s.tab x p).2)
def RmS.want (s:RmS) (x k:Int):RmS×Int:=
 if s.closed then (s,7) else if (decide (0<=x/\x<6)&&jj k)=ύ then (s,1) else if ((qh s.tab.u x).getD sb0).2.1=ύ then (s,5) else (match qh s.lanes x with
  | none=>(s,0)
  | some l=>({s with lanes:=qx s.lanes x (jO l k).1},(jO l k).2))
def RmS.leave (s:RmS) (x:Int):RmS×Int:=
 if s.closed then (s,7) else if (zW s.tab x).2=0 then ({s with tab:=(zW s.tab x).1,book:=vM s.book x 7,lanes:=Yh s.lanes x},0) else (s,(zW s.tab x).2)
def RmS.arrive (s:RmS) (b:List Int):RmS×Int:=
 if s.closed then (s,7) else if (s.queue.length:Int)<s.cfg.room then ({s with queue:=s.queue++[b]},0) else ({s with queue:=s.queue.tail++[b],cnt:={s.cnt with lost:=s.cnt.lost+1}},0)
def RmS.shut (s:RmS):RmS×Int:=if s.closed then (s,7) else ({s with closed:=ό},0)
def Γl (x:AcS) (a:Option Addr) (b:Nat) (c:Option Addr) (d:Nat) (e:Option Addr) (f:Nat):Mm:=.o
instance (x:AcS) (a:Option Addr) (b:Nat) (c:Option Addr) (d:Nat) (e:Option Addr) (f:Nat):CoeDep Mm (Γl x a b c d e f) (List Value):=⟨[ι x.o.1,ι x.o.2,ι x.num,μ x.pk.mr,υ x.pk.ty,φ x.pk.sq,ω x.pk.st,ω x.pk.sc,δ a x.pk.ss.length b,μ x.pk.has,φ x.pk.pr,δ c x.pk.ex.length d,δ e x.pk.pl.length f]⟩
instance (x:AcS) (a:Option Addr) (b:Nat) (c:Option Addr) (d:Nat) (e:Option Addr) (f:Nat):CoeDep Mm (Γl x a b c d e f) (Array Value):=⟨((Γl x a b c d e f):List Value).toArray⟩
instance (x:AcS) (a:Option Addr) (b:Nat) (c:Option Addr) (d:Nat) (e:Option Addr) (f:Nat):CoeDep Mm (Γl x a b c d e f) Value:=⟨θ (Γl x a b c d e f)⟩
inductive Tg where
 | no | junk | room | ret | queue | table | book | lns | sts | data | pks | reqs
 | lane (x:Int)
 | str (o:Og)
variable {T:Nat->Tg} {u:Tg}
structure RmK where
 R:Nat
 M1:Nat
 RQ:Nat
 AQ:Nat
 tb:Nat
 ta:Nat
 tc:Nat
 td:Nat
 B:Nat
 b:Nat
 ML:Nat
 MS:Nat
 LA:List (Int×Nat)
 SA:List (Og×Nat)
variable {k:RmK}
def gj (n:Nat):Value:= .pointer (ϊ ⟨n,0,ϋ⟩)
def zH (k:RmK) (vp vr:Value) (s:RmS):Array Value:=
 #[.pointer (ϊ ⟨k.B,0,ϋ⟩),.int .i64 s.cfg.room,.int .i64 s.cfg.hold,.int .i64 s.cfg.wait,.int .i64 s.cfg.space,.int .i64 s.cfg.retry,.int .i64 s.cfg.most,.bool s.closed,.map (ϊ k.M1),.int .i64 s.clock,
  .pointer (ϊ ⟨k.RQ,0,ϋ⟩),.pointer (ϊ ⟨k.tb,0,ϋ⟩),.map (ϊ k.ML),.map (ϊ k.MS),vp,vr,.int .i64 s.cnt.lost,.int .i64 s.cnt.malf,.int .i64 s.cnt.strange,.int .i64 s.cnt.told,.int .i64 s.cnt.acc]
def RBy:qL (List Int):=λw cs b=> ∃v,cs=[v]/\SlI .u8 w v b/\Byt b
def RAc:qL AcS:=λw cs a=> ∃vs ve vp,cs=[.int .i64 a.o.1,.int .i64 a.o.2,.int .i64 a.num,.bool a.pk.mr,.int .u8 a.pk.ty,.int .u16 a.pk.sq,.int .u32 a.pk.st,.int .u32 a.pk.sc,vs,.bool a.pk.has,.int .u16 a.pk.pr,ve,vp]/\PkS w vs ve vp a.pk
def RRq:qL RqS:=λw cs q=> ∃v,cs=[.int .i64 q.o.1,.int .i64 q.o.2,.int .i64 q.at_,v]/\SlI .u8 w v q.body
def gK (Rb:Nat) (t:zu):Array Value:= #[.pointer (ϊ ⟨Rb,0,ϋ⟩),.bool t.any,.int .i64 t.great,.bool t.asks.wanted,.bool t.asks.any,.int .i64 t.asks.last,.int .i64 t.asks.tries,.bool t.askedOf]
structure KJ (N:Nat->Prop) (w:World) (p Rb:Nat) (v:Value) (t:zu):Prop where
 blk:w.heap[p]? =ϊ (.cells (gK Rb t) 176 (0,0))
 buf:xZ w Rb v t.buf
 ok:JOK t.buf
 sub: ∀b,N b->b<w.heap.size
 np:N p
 nb:N Rb
 ne:p≠Rb
 nv: ∀g,v.ownBlock=ϊ g->N g/\g≠p
def Hl (N:Nat->Prop) (w:World) (p:Nat) (t:zu):Prop:= ∃Rb v,KJ N w p Rb v t
def RmK.Holds (k:RmK) (T:Nat->Tg) (w:World) (vp vr:Value) (s:RmS):Tg->Prop
 | .room=>T k.R= .room/\w.heap[k.R]? =ϊ (.cells (zH k vp vr s) 95 (0,0))
 | .ret=>T k.M1= .ret/\jk w k.M1 kO Value.bool s.ret
 | .queue=>T k.RQ= .queue/\T k.AQ= .queue/\RgR 1 229 35 RBy (λb=>T b≠ .data) w k.RQ k.AQ s.cfg.room.toNat s.queue
 | .table=>T k.tb= .table/\T k.ta= .table/\T k.tc= .table/\T k.td= .table/\jq w k.tb k.ta k.tc k.td s.tab
 | .book=>T k.B= .book/\T k.b= .book/\jy w k.B k.b s.book
 | .lns=>T k.ML= .lns/\jk w k.ML (Value.int .i64) gj k.LA
 | .sts=>T k.MS= .sts/\jk w k.MS kO gj k.SA
 | .pks=>je 13 RAc (λb=>T b≠ .data/\T b≠ .pks) w 0 65 vp s.pks/\ ∀g,vp.ownBlock=ϊ g->T g= .pks
 | .reqs=>je 4 RRq (λb=>T b≠ .data/\T b≠ .reqs) w 0 296 vr s.reqs/\ ∀g,vr.ownBlock=ϊ g->T g= .reqs
 | .lane x=>(∀p l,qh k.LA x=ϊ p->qh s.lanes x=ϊ l->zw (λb=>T b= .lane x) w p l)/\(qh k.LA x).isSome=(qh s.lanes x).isSome
 | .str o=>(∀p t,qh k.SA o=ϊ p->qh s.strs o=ϊ t->Hl (λb=>T b= .str o) w p t)/\(qh k.SA o).isSome=(qh s.strs o).isSome
 | .no=> ∀b,w.heap.size<=b->T b= .no
 | .junk=>True
 | .data=>True
structure RmX (T:Nat->Tg) (w0 w:World) (k:RmK) (vp vr:Value) (s:RmS) (F:List Nat):Prop where
 all: ∀t,k.Holds T w vp vr s t
 ge: ∀b,T b≠ .no->w0.heap.size<=b
 law: ∀b∈F,T b= .no/\w0.heap.size<=b/\b<w.heap.size
 more:ql w0 w
def qI (w0 w:World) (k:RmK) (s:RmS) (F:List Nat):Prop:= ∃T vp vr,RmX T w0 w k vp vr s F
def jZ (T:Nat->Tg) (t:Tg) (w w':World):Nat->Tg:=λb=>if w.heap.size<=b/\b<w'.heap.size then t else T b
section
variable {T T':Nat->Tg} {w0 w w':World} {k:RmK} {vp vr:Value} {s:RmS} {F:List Nat} {t:Tg}
def RmX.fresh (h:RmX T w0 w k vp vr s F): ∀b,w.heap.size<=b->T b= .no:=h.all .no
def jd (G: ∀b,w.heap.size<=b->T b= .no) (H:u≠ .no) (b:Nat):jZ T t w w' b=u↔(T b=u∨(u=t/\w.heap.size<=b/\b<w'.heap.size)):=by
 unfold jZ;split
 ·rename_i d;constructor
  ·intro e;exact ϔ ⟨e.symm,d⟩
  ·rintro(e | e)
   ·rw[G b d.1] at e;exact ϩ e.symm H
   ·exact e.1.symm
 ·rename_i d;constructor
  ·exact ϒ
  ·rintro(e | e)
   ·exact e
   ·exact ϩ e.2 d
def jF (d: ∀b,w.heap.size<=b->T b= .no) (H:u≠ .no) (G:u≠t) (b:Nat):jZ T t w w' b=u↔T b=u:=by
 rw[jd d H];constructor
 ·rintro(e | e)
  ·exact e
  ·exact ϩ e.1 G
 ·exact ϒ
def wW (d: ∀b,w.heap.size<=b->T b= .no) (G:t≠ .no):(λb=>jZ T t w w' b=t)=xf (λb=>T b=t) w w':=by
 funext b
 apply propext;rw[jd d G];unfold xf;simp
def Q9 (d: ∀b,w.heap.size<=b->T b= .no) (H:w.heap.size<=w'.heap.size): ∀b,w'.heap.size<=b->jZ T t w w' b= .no:=λb G=>by
 unfold jZ;rw[ώ τ];exact d b τ
def Holds.frame (h:k.Holds T w vp vr s u) (a:jt S w w') (G: ∀b,S b->T b≠u/\T b≠ .data) (H: ∀b,T' b=u↔T b=u) (U: ∀b,T b= .data->T' b= .data) (ac:u≠ .no):k.Holds T' w' vp vr s u:=by
 have e:(λb=>T' b=u)=(λb=>T b=u):=by funext b;exact propext (H b)
 cases u with
 | no=>exact ϩ rfl ac
 | junk=>trivial
 | data=>trivial
 | room=>exact⟨(H _).2 h.1,a.blk h.2 (λx=>(G _ x).1 h.1)⟩
 | ret=>exact⟨(H _).2 h.1,h.2.away a (λx=>(G _ x).1 h.1)⟩
 | queue=>
  obtain⟨I,J,M⟩:=h;exact⟨(H _).2 I,(H _).2 J,M.step a (λx=>(G _ x).1 I) (λx=>(G _ x).1 J) (λb d=>(G b d).2) (λb d=>ϒ λe=>d (U b e))⟩
 | table=>
  obtain⟨I,J,M,Y,ab⟩:=h;exact⟨(H _).2 I,(H _).2 J,(H _).2 M,(H _).2 Y,ab.away a (λx=>(G _ x).1 I) (λx=>(G _ x).1 J) (λx=>(G _ x).1 M) (λx=>(G _ x).1 Y)⟩
 | book=>
  obtain⟨I,J,M⟩:=h;exact⟨(H _).2 I,(H _).2 J,M.away a (λx=>(G _ x).1 I) (λx=>(G _ x).1 J)⟩
 | lns=>exact⟨(H _).2 h.1,h.2.away a (λx=>(G _ x).1 h.1)⟩
 | sts=>exact⟨(H _).2 h.1,h.2.away a (λx=>(G _ x).1 h.1)⟩
 | pks=>
  obtain⟨I,J⟩:=h;refine⟨(I.step (a.mono λb d=>⟨(G b d).2,(G b d).1⟩)).other (λb d=>ϒ ⟨λe=>d.1 (U b e),λe=>d.2 ((H b).2 e)⟩),λg N=>(H _).2 (J g N)⟩
 | reqs=>
  obtain⟨I,J⟩:=h;refine⟨(I.step (a.mono λb d=>⟨(G b d).2,(G b d).1⟩)).other (λb d=>ϒ ⟨λe=>d.1 (U b e),λe=>d.2 ((H b).2 e)⟩),λg N=>(H _).2 (J g N)⟩
 | lane x=>
  refine⟨λp l I J=> ?_,h.2⟩;rw[e];exact(h.1 p l I J).away a (λb d=>(G b d).1)
 | str o=>
  refine⟨λp t I J=> ?_,h.2⟩;rw[e];obtain⟨aa,v,x⟩:=h.1 p t I J;have O: ∀b,T b= .str o-> ¬S b:=λb d ad=>(G b ad).1 d
  exact⟨aa,v,a.blk x.blk (O _ x.np),⟨a.blk x.buf.blk (O _ x.nb),x.buf.row.away a (λg N=>O _ (x.nv g N).1)⟩,x.ok,λb d=>ϗ (x.sub b d) a.size,x.np,x.nb,x.ne,x.nv⟩
end
section
variable {K V:Type} [DecidableEq K]
def qF (m:List (K×V)) (k x:K) (v:V):qh (qx m k v) x=if x=k then ϊ v else qh m x:=by
 induction m with
 | nil=>simp[qx,qh]
 | cons p m ih=>
  obtain⟨a,u⟩:=p;unfold qx;by_cases e:k=a
  ·subst e;rw[ϐ rfl];by_cases e2:x=k<;>simp[qh,e2]
  ·rw[ώ e];by_cases e2:x=a
   ·subst e2;have: ¬x=k:=λh=>e h.symm
    simp[qh,this]
   ·simp only[qh,ώ e2];exact ih
def xD (m:List (K×V)) (k:K) (v:V):qh (qx m k v) k=ϊ v:=by rw[qF,ϐ rfl]
def vF (m:List (K×V)) {k x:K} (v:V) (h:x≠k):qh (qx m k v) x=qh m x:=by rw[qF,ώ h]
def uR (m:List (K×V)) (k x:K):qh (Yh m k) x=if x=k then ϋ else qh m x:=by
 induction m with
 | nil=>simp[Yh,qh]
 | cons p m ih=>
  obtain⟨a,u⟩:=p;unfold Yh at ih ⊢;rw[K4];by_cases e:a=k
  ·subst e;rw[ώ η,ih];by_cases e2:x=a<;>simp[qh,e2]
  ·rw[ϐ (by simp[e])];by_cases e2:x=a
   ·subst e2;simp[qh,e]
   ·simp only[qh,ώ e2];exact ih
def gD {m:List (K×V)} (d:(m.map Prod.fst).Nodup) (k x:K):qh (yK m k) x=if x=k then ϋ else qh m x:=by
 induction m with
 | nil=>simp[yK,qh]
 | cons p m ih=>
  obtain⟨a,u⟩:=p;rw[Ϭ,D4] at d;unfold yK;by_cases e:k=a
  ·subst e;rw[ϐ rfl];by_cases e2:x=k
   ·subst e2;rw[ϐ rfl];have:=d.1;clear ih;have key: ∀(m:List (K×V)),x∉m.map Prod.fst->qh m x=ϋ:=by
     intro m
     induction m with
     | nil=>intro _;rfl
     | cons q m ih=>
      intro h;rw[Ϭ,ϰ,not_or] at h;obtain⟨b,z⟩:=q;simp only[qh,ώ h.1];exact ih h.2
    exact key m this
   ·simp[qh,e2]
  ·rw[ώ e];by_cases e2:x=a
   ·subst e2;have: ¬x=k:=λh=>e h.symm
    simp[qh,this]
   ·simp only[qh,ώ e2];exact ih d.2
end
def qw (F:List Nat) (w w':World):Prop:=w.heap.size<=w'.heap.size/\ ∀b∈F,w'.heap[b]? =w.heap[b]?
section
variable {T T':Nat->Tg} {w0 w w':World} {k k':RmK} {vp vr vp' vr':Value} {s s':RmS} {F F' Fn:List Nat} {t:Tg}
def qw.refl (F:List Nat) (w:World):qw F w w:=⟨ϕ _,λ_ _=>rfl⟩
def qw.trans {w'':World} (h:qw F w w') (k:qw F w' w''):qw F w w'':=⟨Ϙ h.1 k.1,λb d=>(k.2 b d).trans (h.2 b d)⟩
def qw.sub (h:qw F w w') (G: ∀b∈F',b∈F):qw F' w w':=⟨h.1,λb d=>h.2 b (G b d)⟩
def qw.blk {o:Obj} (h:qw F w w') (d:b∈F) (k:w.heap[b]? =ϊ o):w'.heap[b]? =ϊ o:=by rw[h.2 b d];exact k
def RmX.own (h:RmX T w0 w k vp vr s F) (G:t≠ .no/\t≠ .data) (a:jt (λb=>T b=t) w w') (U:k'.Holds (jZ T t w w') w' vp' vr' s' t)
  (rest: ∀u,u≠t->u≠ .no->k.Holds (jZ T t w w') w' vp vr s u->k'.Holds (jZ T t w w') w' vp' vr' s' u):RmX (jZ T t w w') w0 w' k' vp' vr' s' F/\qw F w w':=by
 have I:=h.fresh;have O: ∀b,T b=t->w0.heap.size<=b:=λb d=>h.ge b (by rw[d];exact G.1)
 refine⟨⟨λu=> ?_,λb d=> ?_,λb d=> ?_,a.to_more h.more O⟩,a.size,λb d=>a.block b (h.law b d).2.2 (λe=>G.1 (by rw[<-e];exact(h.law b d).1))⟩
 ·by_cases e:u=t
  ·subst e;exact U
  ·by_cases en:u= .no
   ·subst en;exact Q9 I a.size
   ·refine rest u e en (Holds.frame (h.all u) a (λb d=>⟨λH=>e (H.symm.trans d),λH=>G.2 (d.symm.trans H)⟩) (λb=>jF I en e b) (λb d=> ?_) en);exact(jF I η (C0 G.2) b).2 d
 ·unfold jZ at d;split at d
  ·have:=h.more.size;omega
  ·exact h.ge b d
 ·obtain⟨J,M,N⟩:=h.law b d;refine⟨?_,M,ϗ N a.size⟩;unfold jZ;rw[ώ τ];exact J
def RmX.mut (h:RmX T w0 w k vp vr s F) (a:jt (λb=>b∈F) w w'):RmX T w0 w' k vp vr s F:=by
 refine⟨λu=> ?_,h.ge,λb d=>⟨(h.law b d).1,(h.law b d).2.1,ϗ (h.law b d).2.2 a.size⟩,a.to_more h.more (λb d=>(h.law b d).2.1)⟩;by_cases en:u= .no
 ·subst en;exact λb d=>h.fresh b (Ϙ a.size d)
 ·exact Holds.frame (h.all u) a (λb d=>⟨λe=>en (by rw[<-e];exact(h.law b d).1),λe=>by rw[(h.law b d).1] at e;cases e⟩) (λb=>Iff.rfl) (λb d=>d) en
def RmX.on (h:RmX T w0 w k vp vr s F) (m:ql w w'):RmX T w0 w' k vp vr s F:=h.mut (jt.of_more m)
def RmX.sub (h:RmX T w0 w k vp vr s F) (G: ∀b∈F',b∈F):RmX T w0 w k vp vr s F':=⟨h.all,h.ge,λb d=>h.law b (G b d),h.more⟩
def RmX.adds (h:RmX T w0 w k vp vr s F) (m:ql w w') (G: ∀b∈Fn,w.heap.size<=b/\b<w'.heap.size):RmX T w0 w' k vp vr s (Fn++F):=by
 have d:=h.on m;refine⟨d.all,d.ge,λb H=> ?_,d.more⟩;rcases ϡ.1 H with e | e
 ·exact⟨h.fresh b (G b e).1,Ϙ h.more.size (G b e).1,(G b e).2⟩
 ·exact d.law b e
def RmX.data (h:RmX T w0 w k vp vr s F) (X:Nat->Prop) (G: ∀b,X b->T b= .no/\w0.heap.size<=b/\b<w.heap.size/\b∉F): ∃T',RmX T' w0 w k vp vr s F/\(∀b,X b->T' b= .data)/\ ∀b,¬X b->T' b=T b:=by
 classical
 have e: ∀u,u≠ .no->u≠ .data-> ∀b,(if X b then Tg.data else T b)=u↔T b=u:=λu H I b=>by
  by_cases d:X b
  ·rw[ϐ d,(G b d).1];exact⟨λx=>ϩ x.symm I,λx=>ϩ x.symm H⟩
  ·rw[ώ d]
 have M: ∀b,T b= .data->(if X b then Tg.data else T b)= .data:=λb d=>by
  split
  ·rfl
  ·exact d
 refine⟨λb=>if X b then .data else T b,⟨λu=> ?_,λb d=> ?_,λb d=> ?_,h.more⟩,λb d=>ϐ d,λb d=>ώ d⟩
 ·by_cases en:u= .no
  ·subst en;intro b d;show (if X b then Tg.data else T b)= .no;rw[ώ (λx=>by have:=(G b x).2.2.1;omega)];exact h.fresh b d
  ·by_cases ed:u= .data
   ·subst ed;trivial
   ·exact Holds.frame (h.all u) (jt.refl (λ_=>False) w) (λb d=>d.elim) (e u en ed) M en
 ·by_cases hx:X b
  ·exact(G b hx).2.1
  ·rw[ώ hx] at d;exact h.ge b d
 ·obtain⟨H,I,J⟩:=h.law b d;refine⟨?_,I,J⟩;show (if X b then Tg.data else T b)= .no;rw[ώ (λx=>(G b x).2.2.2 d)];exact H
def qI.on (h:qI w0 w k s F) (m:ql w w'):qI w0 w' k s F:=by
 obtain⟨T,vp,d,x⟩:=h;exact⟨T,vp,d,x.on m⟩
def qI.sub (h:qI w0 w k s F) (d: ∀b∈F',b∈F):qI w0 w k s F':=by
 obtain⟨T,vp,G,x⟩:=h;exact⟨T,vp,G,x.sub d⟩
def qI.adds (h:qI w0 w k s F) (m:ql w w') (d: ∀b∈Fn,w.heap.size<=b/\b<w'.heap.size):qI w0 w' k s (Fn++F):=by
 obtain⟨T,vp,G,x⟩:=h;exact⟨T,vp,G,x.adds m d⟩
def qI.more (h:qI w0 w k s F):ql w0 w:=h.elim λ_ h=>h.elim λ_ h=>h.elim λ_ h=>h.more
def qI.law (h:qI w0 w k s F): ∀b∈F,w0.heap.size<=b/\b<w.heap.size:=h.elim λ_ h=>h.elim λ_ h=>h.elim λ_ h b d=>(h.law b d).2
def qI.stay (h:qI w0 w k s F) (m:ql w w'):qw F w w':=⟨m.size,λb d=>m.block b (h.law b d).2⟩
end
def DM [DecidableEq K] {m:List (K×V)} (d:(m.map Prod.fst).Nodup) {k:K} {f:V}:qh m k=ϊ f↔(k,f)∈m:=by
 induction m with
 | nil=>simp[qh]
 | cons p m ih=>
  obtain⟨a,v⟩:=p;rw[Ϭ,D4] at d;simp only[qh];by_cases e:k=a
  ·subst e;rw[ϐ rfl];constructor
   ·intro h;injection h with h
    subst h;simp
   ·intro h;rcases ϰ.1 h with h | h
    ·injection h with _ h
     rw[h]
    ·exact ϩ (B6.2 ⟨(k,f),h,rfl⟩) d.1
  ·rw[ώ e,ih d.2];constructor
   ·intro h;exact Ϩ _ h
   ·intro h;rcases ϰ.1 h with h | h
    ·injection h with h _
     exact ϩ h e
    ·exact h
def WL (d:Sb->Bool) (u:List (Int×Sb)) (x:Int):x∈prR d u↔x∈subIds/\ ∃sb,qh u x=ϊ sb/\d sb=ό:=by
 unfold prR;rw[G6];cases h:qh u x with
 | none=>simp[h]
 | some sb=>simp[h]
def GD:subIds.Pairwise (· < ·):=by decide
def Ur (x:Int):x∈subIds↔0<=x/\x<6:=by
 unfold subIds;constructor
 ·intro h;simp at h;omega
 ·intro h;simp;omega
def Ik (d:Sb->Bool) (u:List (Int×Sb)):(prR d u).Pairwise (· < ·):=S3 U2 GD
def Vl {u:List (Int×Sb)} (G:(u.map Prod.fst).Nodup) (I: ∀x,(qh u x).isSome=ό->0<=x/\x<6) (d:Sb->Bool):uo d u=prR d u:=by
 have Y:(yU d u).Nodup:=by
  have:yU d u=(u.filter λq=>d q.2).map Prod.fst:=by
   unfold yU;clear G I
   induction u with
   | nil=>rfl
   | cons q l ih=>
    by_cases e:d q.2=ό<;>simp[e,ih]
  rw[this];exact List.Nodup.sublist ((U2).map _) G
 have U: ∀x,x∈yU d u↔x∈prR d u:=λx=>by
  rw[WL,Ur];unfold yU;rw[O3];constructor
  ·rintro⟨⟨a,H⟩,O,h⟩;by_cases e:d H=ό
   ·simp only[e,A0] at h;cases h;have:=(DM G).2 O;exact⟨I _ (by rw[this];rfl),H,this,e⟩
   ·simp[e] at h
  ·rintro⟨_,H,M,N⟩;exact⟨(x,H),(DM G).1 M,by simp[N]⟩
 have J:=Ik d u;have aa:(prR d u).Nodup:=J.imp λ{a b} h e=>by omega
 have ab:(yU d u).Perm (prR d u):=(List.perm_ext_iff_of_nodup Y aa).2 U;unfold uo;rw[gL ab,Zh (J.imp λ{a b} h=>by omega)]
def ZX (a b:Og) (w:World):(Op.equal 37 (kO a) (kO b)).run prog w= .ok (decide (a=b)) w:=by
 have J:prog.stoodInHeld 37=ύ:=by kernel_rfl
 obtain⟨d,G⟩:=a;obtain⟨H,I⟩:=b;unfold Op.equal kO;rw[show Op.maxDepth=9999+1 from rfl,run_equalIn_agg w 9999 37 _ _ ξ J];simp[go_sem];by_cases e1:d=H<;>by_cases e2:G=I<;>simp[e1,e2]
def KX:yz prog 37 kO:=
 yz.of_ask underlying37 (λa b=>by simp[Instr.sameNow]) ZX (λb k w=>by
  rw[show (10000:Nat)=9999+1 from rfl];unfold Instr.checkKey kO
  simp[run_underlying underlying37,go_sem,Ga underlying3 9999 ζ]) (λk=>by simp[Instr.sameBits,kO])
def Gv (w:World):(zeroValue 4).run prog w= .ok (μ ύ) w:=by kernel_rfl
def Uf (w:World):(zeroValue 140).run prog w= .ok (π ϋ) w:=by kernel_rfl
def Gs (w:World):(zeroValue 177).run prog w= .ok (π ϋ) w:=by kernel_rfl
def Gh (o:Option Nat):Value:= .pointer (o.map λn=>⟨n,0,ϋ⟩)
def xq {L:List (Int×Nat)} (h:jk w b (Value.int .i64) gj L) (x:Int) (c:Bool):
  (Instr.lookup 90 (.map (ϊ b)) (ι x) c).run prog w= .ok (if c then .tuple #[Gh (qh L x),μ (qh L x).isSome] else Gh (qh L x)) w:=by
 rw[h.look kE underlying90 (Uf w) x c];cases qh L x<;>cases c<;>rfl
def ya {L:List (Og×Nat)} (h:jk w b kO gj L) (o:Og) (c:Bool):
  (Instr.lookup 91 (.map (ϊ b)) (θ #[ι o.1,ι o.2]) c).run prog w= .ok (if c then .tuple #[Gh (qh L o),μ (qh L o).isSome] else Gh (qh L o)) w:=by
 have:=h.look Yr underlying91 (Gs w) o c;unfold kO at this;rw[this];cases qh L o<;>cases c<;>rfl
def VH {L:List (Og×Bool)} (h:jk w b kO μ L) (o:Og):
  (Instr.lookup 87 (.map (ϊ b)) (θ #[ι o.1,ι o.2]) ύ).run prog w= .ok (μ ((qh L o).getD ύ)) w:=by
 have:=h.look KX underlying87 (Gv w) o ύ;unfold kO at this;rw[this];cases qh L o<;>rfl
def Ht (h:jy w B b m) (sub id:Int):
  Calls prog 20 #[θ #[γ B],ι sub,ι id] w λe w'=>e= .returned (.tuple #[ι ((qh m (sub,id)).getD 0),μ (qh m (sub,id)).isSome])/\ql w w':=by
 have G:=κ h;clear h
 go_enter func20,ntmps20
 go_wp2_with (go_at_call 61;(go_call MK (G.o.more (ql.alloc w (.cells #[γ B] 86))) (sub,id) as e w1 ⟨rfl,d⟩;have H:=κ d;clear d))
 go_ret2
 exact⟨rfl,W4.trans H.o⟩
def Hs (h:jy w B b m) (sub id:Int):
  Calls prog 135 #[θ #[γ B],ι sub,ι id] w λe w'=>e= .returned (μ (decide (qh m (sub,id)=ϊ 0)))/\ql w w':=by
 have J:=κ h;clear h;have e:decide (qh m (sub,id)=ϊ 0)=((qh m (sub,id)).isSome&&((qh m (sub,id)).getD 0==0)):=by cases qh m (sub,id) with | none=>simp | some x=>(by_cases hx:x=0<;>simp[hx])
 rw[e];generalize N:qh m (sub,id)=g at *;have M:=κ N;clear N;obtain⟨f,I⟩:=ν (g.getD 0);obtain⟨i,hi⟩:=ν (g.isSome);have G:=κ (Ht (J.o.more (ql.alloc w (.cells #[γ B] 86))) sub id);rw[M.o,I,hi] at G;rw[I,hi];clear e I hi M J
 go_enter func135,ntmps135
 cases i with
 | true=>
  go_wp2_with (go_at_call 20;(go_call G.o as e w1 ⟨rfl,d⟩;have H:=κ d;clear d))
  go_ret;exact⟨rfl,W4.trans H.o⟩
 | false=>
  go_wp2_with (go_at_call 20;(go_call G.o as e w1 ⟨rfl,d⟩;have H:=κ d;clear d))
  go_ret;exact⟨rfl,W4.trans H.o⟩
def gI (h:jy w B b m) (sub id f:Int):
  Calls prog 122 #[θ #[γ B],ι sub,ι id,ι f] w λe w'=>e= .returned (.tuple #[])/\jy w' B b (jp m sub id f)/\jt (λx=>x=b) w w':=by
 have I:=κ h;have N:ql w (w.alloc (.cells #[γ B] 86)):=ql.alloc _ _;have U:=κ (qj w (.cells #[γ B] 86));have H:=κ (Hs (I.o.more N) sub id);clear h N;unfold jp;by_cases ho:qh m (sub,id)=ϊ 0
 ·rw[ϐ ho];rw[ϭ ho] at H;clear ho
  go_enter func122,ntmps122
  go_wp2_with (first | (go_at_call 135;(go_call H.o as e w1 ⟨rfl,d⟩;have G:Hid (ql w w1):=κ (W4.trans d);have aa:w1.cell? ⟨w.heap.size,0,ϋ⟩=ϊ (π (ϊ ⟨B,0,ϋ⟩)):=qm (qq d U.o) 0 rfl;clear d)) | (go_at_call 177;(go_call F0 (I.o.more G.o) (sub,id) f as e w2 ⟨rfl,M,J⟩;have Y:=κ M;have O:=κ J;clear M J)))
  (refine bodyPost_end (v:= .tuple #[]) ?re1 rfl ?_;(case re1=>simp[results,results122,go_sem]))
  exact⟨rfl,Y.o,(jt.of_more G.o).trans O.o⟩
 ·rw[ώ ho];rw[ϫ ho] at H;clear ho
  go_enter func122,ntmps122
  go_wp2_with (go_at_call 135;(go_call H.o as e w1 ⟨rfl,d⟩;have G:Hid (ql w w1):=κ (W4.trans d);clear d))
  (refine bodyPost_end (v:= .tuple #[]) ?re2 rfl ?_;(case re2=>simp[results,results122,go_sem]))
  exact⟨rfl,I.o.more G.o,jt.of_more G.o⟩
def RO:qL Og:=λ_ cs o=>cs=[.int .i64 o.1,.int .i64 o.2]
def Ph {i j:Nat} (hi:i<3) (d:j<3):orgs.take (3* i+(j+1))=orgs.take (3* i+j)++[((i:Int),(j:Int))]:=by
 have hi:i=0∨i=1∨i=2:=by omega
 have d:j=0∨j=1∨j=2:=by omega
 rcases hi with rfl | rfl | rfl<;>rcases d with rfl | rfl | rfl<;>rfl
def By (n:Nat) (p:Og->Bool):((orgs.take n).filter p).length<=9:=Ϙ (C8 _ _) (by rw[Ϡ];show min n 9<=9;omega)
def Yp (SA:List (Og×Nat)):List Og:=orgs.filter λo=>(qh SA o).isSome
def KC {R ac:Nat} {SA:List (Og×Nat)} (ah:R<w.heap.size) (ai:w.cell? ⟨R,13,ϋ⟩=ϊ (.map (ϊ ac))) (ak:jk w ac kO gj SA):
  Calls prog 64 #[γ R] w λe w'=> ∃v,e= .returned v/\je 2 RO (λ_=>False) w' w.heap.size 58 v (Yp SA)/\ql w w':=by
 obtain⟨aL,hi,aG,aH,aI⟩:=info_parts (P:=prog) (e:=58) (z:= θ #[ι 0,ι 0]) (size:=2) (bytes:=16) ξ;have aw:=κ ak;have aq:=κ ai;have ax:=κ ah;clear ak ai ah;obtain⟨p,am⟩: ∃p:Og->Bool,Hid (p=λo=>(qh SA o).isSome):=⟨_,κ rfl⟩;have e0:Yp SA=(orgs.take 9).filter p:=by rw[am.o];rfl
 rw[e0];have av:=κ (λn=>By n p);clear e0
 go_enter func64,ntmps64
 go_wp2
 go_loopw [3,9] (λu H wr=> ∃i:Nat,i<=3/\H= ι i/\(∃M J I,u= δ M J I)/\je 2 RO (λ_=>False) wr w.heap.size 58 u ((orgs.take (3* i)).filter p)/\ql w wr) (λ_ H _=>3-(intOf H).toNat)
 case atStart=>exact⟨0,τ,rfl,⟨_,_,_,rfl⟩,je.nil _ _ _ _ _ _,ql.refl _⟩
 case round=>
  obtain⟨i,aQ,rfl,⟨M,J,I,rfl⟩,U,O⟩:=hrel;have G:=κ U;have d:=κ O;clear U O;by_cases hlt:i<3
  ·have aD:(i:Int)<3:=by omega
   obtain⟨ap,rfl⟩: ∃ap:World,ap=wr:=⟨_,rfl⟩;go_wp2
   go_loopw [3,12] (λu H wr=> ∃j:Nat,j<=3/\H= ι j/\(∃M J I,u= δ M J I)/\je 2 RO (λ_=>False) wr w.heap.size 58 u ((orgs.take (3* i+j)).filter p)/\ql w wr) (λ_ H _=>3-(intOf H).toNat)
   case atStart=>exact⟨0,τ,rfl,⟨_,_,_,rfl⟩,G.o,d.o⟩
   case round=>
    clear G d;obtain⟨j,aR,rfl,⟨M,J,I,rfl⟩,U,O⟩:=hrel;have G:=κ U;have d:=κ O;clear U O;by_cases hltj:j<3
    ·have aE:(j:Int)<3:=by omega
     have ao:=Ph hlt hltj;have ar:Hid (∀b,(δ M J I).ownBlock=ϊ b->w.heap.size<=b):=κ (λb h=>G.o.ge h);have au:=κ (av.o (3* i+j));obtain⟨W1,aa⟩:=ν (wr.alloc (.cells #[ι (i:Int),ι (j:Int)] 58));have N:Hid (ql wr W1):=κ (by rw[<-aa];exact ql.alloc _ _);have ae:Hid (W1.heap[wr.heap.size]? =ϊ (.cells #[ι (i:Int),ι (j:Int)] 58 (0,0))):=κ (by rw[<-aa];exact qj wr _);have aB:W1.cell? ⟨R,13,ϋ⟩=ϊ (.map (ϊ ac)):=by rw[(d.o.trans N.o).cells _ _ ax.o];exact aq.o
     have q: ∀n,_:=λn=>ya (aw.o.more ((d.o.trans N.o).dr n)) ((i:Int),(j:Int)) ό
     simp only[A0] at q;have an:p ((i:Int),(j:Int))=(qh SA ((i:Int),(j:Int))).isSome:=by rw[am.o]
     have ag:=κ ao;generalize qh SA ((i:Int),(j:Int))=g at *;clear ao;have aN:=β0 ae.o;have aO:=β1 ae.o;have af:=κ an;clear an
     go_upto_region 9 with fail
     (try rw[aa])
     clear aa;refine wp_region_quiet_lit ξ ξ ?_
     repeat (go_big_quiet_step (fail))
     refine wpQuiet_nil ?_;intro _ aF;obtain⟨nq,rfl⟩:=aF;have Y:Hid (ql w (W1.drewN nq)):=κ ((d.o.trans N.o).dr _);have az:=κ ((G.o.on N.o).on ((ql.drewN W1 nq).al (.cells #[ι (i:Int),ι (j:Int)] 58)));clear q aB;cases g with
     | none=>
      have ab:Hid ((orgs.take (3* i+(j+1))).filter p=(orgs.take (3* i+j)).filter p):=κ (by rw[ag.o,I2,K4,ώ (by rw[af.o];simp)];simp);have ay:=κ ((G.o.on N.o).on (ql.drewN W1 nq));go_wp2;go_roundw
      case rel=>exact⟨j+1,τ,by go_num,⟨_,_,_,rfl⟩,by rw[ab.o];exact ay.o,Y.o⟩
      case measure=>simp[intOf];omega
     | some g=>
      have ab:Hid ((orgs.take (3* i+(j+1))).filter p=(orgs.take (3* i+j)).filter p++[((i:Int),(j:Int))]):=κ (by rw[ag.o,I2,K4,ϐ (by rw[af.o];rfl)];simp);have aS:=au.o
      go_wp2_with (at_builtin;(refine jN (R:=RO) (D:=λ_=>False) _ rfl (.tmp 28) (.tmp 30) 171 rfl w.heap.size 58 aL (θ #[ι 0,ι 0]) 2 16 underlying171 hi aG aH aI rfl ζ _ ((orgs.take (3* i+j)).filter p) rfl az.o W1.heap.size [ι (i:Int),ι (j:Int)] ((i:Int),(j:Int)) rfl rfl (zS η) W5 (λw' _=>rfl) (λb h=>h.elim) ζ τ (Y.o.al _).size ?_;intro v' w8 ad aj aC;have aM:Hid (ql w w8):=κ (Below.grown (Y.o.al _) aj (Y.o.al _).size ar.o);obtain⟨aU,aT,aP,rfl,aJ,aK⟩:=ad.shape;have aA:=κ ad;clear ad aj aC aJ aK))
      go_roundw
      case rel=>exact⟨j+1,τ,by go_num,⟨_,_,_,rfl⟩,by rw[ab.o];exact aA.o,aM.o⟩
      case measure=>simp[intOf];omega
    ·obtain rfl:j=3:=by omega
     have aE: ¬((3:Nat):Int)<3:=by omega
     go_wp2;go_roundw
     case rel=>exact⟨i+1,τ,by go_num,⟨_,_,_,rfl⟩,by rw[Nat.mul_add];exact G.o,d.o⟩
     case measure=>simp[intOf];omega
  ·obtain rfl:i=3:=by omega
   have aD: ¬((3:Nat):Int)<3:=by omega
   go_wp2;go_ret;exact⟨_,rfl,G.o,d.o⟩
def FS (n:Int) (w:World):Calls prog 245 #[ι n] w λe w'=>e= .returned (φ (n%65536))/\w=w':=by
 go_enter func245,ntmps245
 go_wp2;go_ret;exact⟨rfl,rfl⟩
def Wa (n:Int) (d:U16 n) (w:World):Calls prog 191 #[φ n] w λe w'=>e= .returned (ι (65536+n))/\w=w':=by
 obtain⟨G,H⟩:=d
 go_enter func191,ntmps191
 go_wp2;go_ret;exact⟨rfl,rfl⟩
def IZ (a b:Int): -32768<=ahd a b/\ahd a b<=32767:=by unfold ahd;omega
def Wm (d n:Int) (J:xz d) (H:U16 n) (w:World):Calls prog 192 #[ι d,φ n] w λe w'=>e= .returned (ι (KH d n))/\w=w':=by
 obtain⟨M,N⟩:=J;have O:=IZ (d%65536) n;have G:U16 (d%65536):=by unfold U16;omega
 unfold KH;have I:=κ (λw=>Yd (d%65536) n w G H);clear G H;generalize ahd (d%65536) n=a at *
 go_enter func192,ntmps192
 go_wp2_with (first | (go_at_call 245;(go_call FS d _ as e w1 ⟨rfl,rfl⟩)) | (go_at_call 244;(go_call I.o _ as e w2 ⟨rfl,rfl⟩)))
 go_ret;exact⟨rfl,rfl⟩
def vK (c t:Int) (w:World):Calls prog 38 #[θ #[ι c,ι t]] w λe w'=>e= .returned (μ (!decide (c=t)))/\ql w w':=by
 go_enter func38,ntmps38
 go_wp2;go_ret;exact⟨by congr 1,ql.alloc _ _⟩
def Qf (sp d:Int) (w:World):Calls prog 42 #[θ #[ι sp,ι d]] w λe w'=>e= .returned (μ (decide (1<=sp/\sp<=d/\d<=1000)))/\ql w w':=by
 have e:decide (1<=sp/\sp<=d/\d<=1000)=(decide (1<=sp)&&(decide (sp<=d)&&decide (d<=1000))):=by by_cases h1:1<=sp<;>by_cases h2:sp<=d<;>by_cases h3:d<=1000<;>simp[h1,h2,h3]
 rw[e];clear e;by_cases h1:1<=sp
 ·by_cases h2:sp<=d
  ·go_enter func42,ntmps42
   go_wp2;go_ret;exact⟨by simp[h1,h2],ql.alloc _ _⟩
  ·go_enter func42,ntmps42
   go_wp2;go_ret;exact⟨by simp[h1];omega,ql.alloc _ _⟩
 ·go_enter func42,ntmps42
  go_wp2;go_ret;exact⟨by simp;omega,ql.alloc _ _⟩
def FY (sp d G:Int) (ag:1<=sp) (ah:sp<=d) (ai:d<=1000) (aj:0<=G) (ak:G<=1000000) (w:World):
  Calls prog 141 #[θ #[ι sp,ι d],ι G] w λe w'=>e= .returned (ι (Yg sp d G))/\ql w w':=by
 go_enter func141,ntmps141
 go_wp2
 go_step3
 go_wp2
 go_step3
 go_wp2
 go_loopw [5,6] (λg N wr=> ∃(k:Nat) (H:Int),N= ι (k+1)/\g= ι H/\0<=H/\H<=2000/\(k:Int)<=1000000/\Zc d ((G-1).toNat-k) H=Zc d (G-1).toNat sp/\(k=0∨(k:Int)<=G-1)/\wr=w.alloc (.cells #[ι sp,ι d] 23)) (λ_ N _=>(G-1).toNat+1-(intOf N).toNat)
 case atStart=>exact⟨0,sp,rfl,rfl,τ,τ,τ,rfl,ϒ rfl,rfl⟩
 case round=>
  obtain⟨k,H,rfl,rfl,ae,af,al,Y,aa,rfl⟩:=hrel;have ab:=κ (qj w (.cells #[ι sp,ι d] 23));have M:=κ Y;have ac:=κ aa;clear Y aa;have ad:=β1 ab.o;by_cases hlt:(k:Int)+1<G
  ·obtain⟨n,J⟩: ∃n,(G-1).toNat-k=n+1:=⟨(G-1).toNat-k-1,τ⟩;by_cases hb1:H<1
   ·have I:Hid (Yg sp d G=if H<=d then H else d):=κ (by unfold Yg;rw[<-M.o,J];unfold Zc;rw[ϐ (ϒ hb1)]);clear J;go_wp2
    (try rw[Exit.noGoto_ret])
    go_ret;exact⟨by rw[I.o];first | rfl | (congr 2;try omega) | skip,ql.alloc _ _⟩
   ·by_cases hb2:d<=H
    ·have I:Hid (Yg sp d G=if H<=d then H else d):=κ (by unfold Yg;rw[<-M.o,J];unfold Zc;rw[ϐ (ϔ hb2)]);clear J;go_wp2
     (try rw[Exit.noGoto_ret])
     go_ret;exact⟨by rw[I.o];first | rfl | (congr 2;try omega) | skip,ql.alloc _ _⟩
    ·have U:Zc d n (2* H)=Zc d (G-1).toNat sp:=by rw[<-M.o,J];conv=>rhs;unfold Zc;rw[ώ τ]
     have I:=κ U;have O:=κ J;clear U J;go_wp2;go_roundw
     case rel=>exact⟨k+1,H* 2,by go_num,rfl,τ,τ,τ,by rw[show (G-1).toNat-(k+1)=n by have:=O.o;omega,Int.mul_comm];exact I.o,ϔ τ,trivial⟩
     case measure=>have:=O.o;simp[intOf];omega
  ·have I:Hid (Yg sp d G=if H<=d then H else d):=κ (by unfold Yg;rw[<-M.o,show (G-1).toNat-k=0 by have:=ac.o;omega];rfl);go_wp2
   (try rw[Exit.noGoto_ret])
   go_ret;exact⟨by rw[I.o];first | rfl | (congr 2;try omega) | skip,ql.alloc _ _⟩
def Cy (sp G:Int) (a:Gr) (d:Bool) (H:Int) (aU:1<=sp) (aV:sp<=G) (aW:G<=1000) (aJ:0<=a.tries) (aK:a.tries<=1000000) (aZ:xz a.last) (ba:xz H) (w:World):
  Calls prog 84 #[θ #[ι sp,ι G],θ #[μ a.wanted,a.any,ι a.last,ι a.tries],d,ι H] w λe w'=>
   e= .returned (.tuple #[θ #[μ (vU sp G a d H).1.wanted,μ (vU sp G a d H).1.any,ι (vU sp G a d H).1.last,ι (vU sp G a d H).1.tries],μ (vU sp G a d H).2])/\ql w w':=by
 obtain⟨N,I,al,ag⟩:=a;obtain⟨bc,bd⟩:=aZ;obtain⟨bq,br⟩:=ba;simp only at aJ aK bc bd ⊢;obtain⟨T,an⟩:=ν (uq ⟨N,I,al,ag⟩ d);have aX:0<=T/\T<=1000000:=by rw[<-an];unfold uq;split<;>first | exact⟨aJ,aK⟩ | exact⟨τ,τ⟩
 obtain⟨t0,t1⟩:=aX;have au:=κ an;obtain⟨c,ax⟩:=ν (Hc sp G ⟨N,I,al,ag⟩ d H);have aN:=κ ax;obtain⟨y,aA⟩:=ν (vU sp G ⟨N,I,al,ag⟩ d H);have aF:Hid (y=if c then (⟨d,I,al,T⟩,ύ) else (⟨d,ό,H,T+1⟩,ό)):=κ (by rw[<-aA,<-ax,<-an];rfl);obtain⟨q,aI⟩:=ν ((!d|| !N));have ar:=κ aI;obtain⟨g,ay⟩:=ν (Yg sp G T);have aP:=κ ay;have aq:=κ (λw=>FY sp G T aU aV aW t0 t1 w);rw[ay] at aq;rw[aA];clear an ax aI aA ay
 go_enter func84,ntmps84
 go_upto_region 1 with fail
 obtain⟨ah,ae⟩:=ν ((((w.alloc (.cells #[ι sp,ι G] 23)).alloc (.cells #[μ N,I,ι al,ι ag] 174)).alloc (.cells #[μ ύ,ύ,ι 0,ι 0] 174)));have J:Hid (ah.heap[w.heap.size+1]? =ϊ (.cells #[μ N,I,ι al,ι ag] 174 (0,0))):=κ (by rw[<-ae];exact qs (qC η) _);have ab:Hid (ah.heap[w.heap.size]? =ϊ (.cells #[ι sp,ι G] 23 (0,0))):=κ (by rw[<-ae];exact qs (qs (qj w _) _) _);have ac:Hid (ah.heap[w.heap.size+1+1]? =ϊ (.cells #[μ ύ,ύ,ι 0,ι 0] 174 (0,0))):=κ (by rw[<-ae];exact qC η);have ad:Hid (ql w ah):=κ (by rw[<-ae];exact(W4.al _).al _);rw[ae];clear ae;have ai:w.heap.size<=w.heap.size+1:=by omega
 have O:w.heap.size<=w.heap.size+1+1:=by omega
 have aM:w.heap.size≠w.heap.size+1:=by omega
 have aj:w.heap.size+1+1≠w.heap.size+1:=by omega
 have am:=β0 J.o
 go_cut [16] from 10 to 16 (λv U=>v= μ q/\U=ah)
 case first=>
  cases d<;>cases N<;>(go_wp2;go_meet;exact⟨by rw[<-ar.o];rfl,rfl⟩)
 case rest=>
 obtain⟨rfl,aR⟩:=hcut;subst aR
 go_upto_if 16 with fail
 go_cut [] from 17 to 17 (λU=>U.heap[w.heap.size+1]? =ϊ (.cells #[μ N,I,ι al,ι T] 174 (0,0))/\U.heap[w.heap.size]? =ϊ (.cells #[ι sp,ι G] 23 (0,0))/\U.heap[w.heap.size+1+1]? =ϊ (.cells #[μ ύ,ύ,ι 0,ι 0] 174 (0,0))/\ql w U)
 case first=>
  have aT:=yw J.o 3;have c3:=β3 J.o;cases q with
  | true=>
   have az:Hid (0=T):=κ (by rw[<-au.o];unfold uq;rw[ώ (by have:=ar.o;cases d<;>cases N<;>simp_all)]);go_wp2;go_meet;exact⟨qB (qp J.o 3 _) (by rw[<-az.o];rfl),qo ab.o _ _ aM,qo ac.o _ _ aj,ad.o.st (p:=⟨w.heap.size+1,3,ϋ⟩) ai _⟩
  | false=>
   have az:Hid (ag=T):=κ (by rw[<-au.o];unfold uq;rw[ϐ (by have:=ar.o;cases d<;>cases N<;>simp_all)]);go_wp2;go_meet;exact⟨by rw[<-az.o];exact J.o,ab.o,ac.o,ad.o⟩
 case rest=>
 obtain⟨aw,aG,aH,aL⟩:=hcut;have aS:=yw aw 0;have ap:=κ aw;have aB:=κ aG;have aC:=κ aH;have aE:=κ aL;clear J ab ac ad am aw aG aH aL;have am:=β0 ap.o
 go_upto_region 4 with fail
 obtain⟨aa,af⟩:=ν (wc.setCell ⟨w.heap.size+1,0,ϋ⟩ (μ d));have J:Hid (aa.heap[w.heap.size+1]? =ϊ (.cells #[μ d,I,ι al,ι T] 174 (0,0))):=κ (by rw[<-af];exact qB (qp ap.o 0 _) rfl);have ab:Hid (aa.heap[w.heap.size]? =ϊ (.cells #[ι sp,ι G] 23 (0,0))):=κ (by rw[<-af];exact qo aB.o _ _ aM);have ac:Hid (aa.heap[w.heap.size+1+1]? =ϊ (.cells #[μ ύ,ύ,ι 0,ι 0] 174 (0,0))):=κ (by rw[<-af];exact qo aC.o _ _ aj);have ad:Hid (ql w aa):=κ (by rw[<-af];exact aE.o.st (p:=⟨w.heap.size+1,0,ϋ⟩) ai _);rw[af];clear af ap aB aC aE am aS
 go_cut [36] from 20 to 36 (λv U=>v= μ c/\ql aa U)
 case first=>
  have ak:=λ(x:qt aa)=>qq x.h J.o
  have bf:=λx=>β1 (ak x);have bg:=λx=>β2 (ak x);have bh:=λx=>β3 (ak x);clear ak
  have av:=λ(x:qt aa)=>qq x.h ab.o
  have bi:=λx=>β0 (av x);have bj:=λx=>β1 (av x);clear av
  obtain⟨aQ,aY⟩:=ν (decide (H-al<g));have aO:Hid ((!d||(I&&aQ))=c):=κ (by rw[<-aN.o,<-aY,<-aP.o,<-au.o];rfl)
  cases d<;>cases I<;>(
   refine qD _ (ql.refl _) ξ ξ ?_
   repeat (go_big_quiet_step ((go_at_call 141;exact j6 (aq.o _))))
   refine wpQuiet_nil ?_;intro _ bb;obtain⟨be,rfl⟩:=bb;go_wp2;go_meet
   exact⟨by rw[<-aO.o];rfl,be.h⟩)
 case rest=>
 obtain⟨rfl,ao⟩:=hcut;have Y:=κ (qq ao J.o);have M:=κ (qq ao ac.o);have aD:=κ (ad.o.trans ao);clear J ab ac ad ao aq;have am:=β0 Y.o;have c1:=β1 Y.o;have bk:=yw Y.o 1;have c2:=β2 Y.o;have bl:=yw Y.o 2;have c3:=β3 Y.o;have aT:=yw Y.o 3;have z0:=β0 M.o;have bm:=yw M.o 0;have bs:=β1 M.o;have bn:=yw M.o 1;have bt:=β2 M.o;have bo:=yw M.o 2;have z3:=β3 M.o;have bp:=yw M.o 3;cases c with
 | true=>
  obtain rfl:y=(⟨d,I,al,T⟩,ύ):=aF.o;go_wp2;refine bodyPost_ret (v:= .tuple #[θ #[μ d,I,ι al,ι T],ύ]) (yo results84 _ _ (w.heap.size+1+1) 174 #[μ d,I,ι al,ι T] _ _ rfl rfl (qB (qp (qp (qp (qp M.o 0 _) 1 _) 2 _) 3 _) rfl) underlying174 rfl ξ) rfl ?_;exact⟨rfl,((((aD.o.st (p:=⟨w.heap.size+1+1,0,ϋ⟩) O _).st (p:=⟨w.heap.size+1+1,1,ϋ⟩) O _).st (p:=⟨w.heap.size+1+1,2,ϋ⟩) O _).st (p:=⟨w.heap.size+1+1,3,ϋ⟩) O _)⟩
 | false=>
  obtain rfl:y=(⟨d,ό,H,T+1⟩,ό):=aF.o;go_wp2;refine bodyPost_ret (v:= .tuple #[θ #[μ d,ό,ι H,ι (T+1)],ό]) (yo results84 _ _ (w.heap.size+1+1) 174 #[μ d,ό,ι H,ι (T+1)] _ _ rfl rfl (qB (qp (qp (qp (qp (qo (qo (qo M.o ⟨w.heap.size+1,1,ϋ⟩ _ aj) ⟨w.heap.size+1,2,ϋ⟩ _ aj) ⟨w.heap.size+1,3,ϋ⟩ _ aj) 0 _) 1 _) 2 _) 3 _) rfl) underlying174 rfl ξ) rfl ?_;exact⟨rfl,(((((((aD.o.st (p:=⟨w.heap.size+1,1,ϋ⟩) ai _).st (p:=⟨w.heap.size+1,2,ϋ⟩) ai _).st (p:=⟨w.heap.size+1,3,ϋ⟩) ai _).st (p:=⟨w.heap.size+1+1,0,ϋ⟩) O _).st (p:=⟨w.heap.size+1+1,1,ϋ⟩) O _).st (p:=⟨w.heap.size+1+1,2,ϋ⟩) O _).st (p:=⟨w.heap.size+1+1,3,ϋ⟩) O _)⟩
def KJ.on {d:Nat->Prop} {G:Nat} (h:KJ d w p G v t) (m:ql w w'):KJ d w' p G v t:=
 ⟨qq m h.blk,h.buf.on m,h.ok,λb H=>ϗ (h.sub b H) m.size,h.np,h.nb,h.ne,h.nv⟩
def RmX.strAt (h:RmX T w0 w k vp vr s F) (I:qh s.strs o=ϊ t): ∃p d v,qh k.SA o=ϊ p/\KJ (λb=>T b= .str o) w p d v t:=by
 obtain⟨J,G⟩:=h.all (.str o);rw[I] at G;obtain⟨p,H⟩:=Ϥ.1 G;obtain⟨d,v,x⟩:=J p t H I;exact⟨p,d,v,H,x⟩
def RmX.laneAt (h:RmX T w0 w k vp vr s F) {l:LnS} (G:qh s.lanes x=ϊ l): ∃p,qh k.LA x=ϊ p/\zw (λb=>T b= .lane x) w p l:=by
 obtain⟨I,d⟩:=h.all (.lane x);rw[G] at d;obtain⟨p,H⟩:=Ϥ.1 d;exact⟨p,H,I p l H G⟩
def RmX.laneNo (h:RmX T w0 w k vp vr s F) (G:qh s.lanes x=ϋ):qh k.LA x=ϋ:=by
 obtain⟨H,d⟩:=h.all (.lane x);rw[G] at d;cases hp:qh k.LA x with
 | none=>rfl
 | some p=>rw[hp] at d;cases d
def RmX.origins (h:RmX T w0 w k vp vr s F):Yp k.SA=s.origins:=by
 unfold Yp RmS.origins
 congr 1
 funext o
 exact(h.all (.str o)).2
def RmX.blk (h:RmX T w0 w k vp vr s F):w.heap[k.R]? =ϊ (.cells (zH k vp vr s) 95 (0,0)):=(h.all .room).2
def RmX.tab (h:RmX T w0 w k vp vr s F):jq w k.tb k.ta k.tc k.td s.tab:=by
 obtain⟨_,_,_,_,x⟩:=h.all .table;exact x
def RmX.bok (h:RmX T w0 w k vp vr s F):jy w k.B k.b s.book:=by
 obtain⟨_,_,x⟩:=h.all .book;exact x
def RmX.que (h:RmX T w0 w k vp vr s F):RgR 1 229 35 RBy (λb=>T b≠ .data) w k.RQ k.AQ s.cfg.room.toNat s.queue:=by
 obtain⟨_,_,x⟩:=h.all .queue;exact x
def RmX.lnm (h:RmX T w0 w k vp vr s F):jk w k.ML (Value.int .i64) gj k.LA:=(h.all .lns).2
def RmX.stm (h:RmX T w0 w k vp vr s F):jk w k.MS kO gj k.SA:=(h.all .sts).2
def RmX.retm (h:RmX T w0 w k vp vr s F):jk w k.M1 kO μ s.ret:=(h.all .ret).2
def RmX.lt (h:RmX T w0 w k vp vr s F):k.R<w.heap.size:=qn h.blk
def RmX.orgsRow (h:RmX T w0 w k vp vr s F):Calls prog 64 #[γ k.R] w λe w'=> ∃v,e= .returned v/\je 2 RO (λ_=>False) w' w.heap.size 58 v s.origins/\ql w w':=by
 rw[<-h.origins];exact KC h.lt (qm h.blk 13 rfl) (h.all .sts).2
def yB (h:o∈s.origins): ∃t,qh s.strs o=ϊ t:=by
 unfold RmS.origins at h;exact Ϥ.1 (G6.1 h).2
def KT {L:List Og} (h:je 2 RO (λ_=>False) w base 58 v L): ∃oa cap,v= δ oa L.length cap/\L.length<=maxLen/\ ∀i (hi:i<L.length),∃b,oa=ϊ ⟨b,0,ϋ⟩/\base<=b/\b<w.heap.size/\w.cell? ⟨b,i* 2,ϋ⟩=ϊ (ι L[i].1)/\w.cell? ⟨b,i* 2+1,ϋ⟩=ϊ (ι L[i].2):=by
 obtain⟨⟨xs,d,r⟩,_⟩:=h;rcases id d.2 with ⟨rfl,H⟩ | ⟨b,cap,cur,rfl,I,J,M,N,_⟩
 ·exact⟨ϋ,0,by rw[H],by rw[H];exact Ψ _,λi hi=>by omega⟩
 ·refine⟨_,cap,rfl,τ,λi hi=>⟨b,rfl,I,lt_of_block J, ?_, ?_⟩⟩
  ·have e:(xs.drop (i* 2)).take 2=[ι L[i].1,ι L[i].2]:=(r i hi).read;have e0:=ϯ (λl:List Value=>l[0]?) e;simp at e0;rw[d.cellAt _ τ];exact e0
  ·have e:(xs.drop (i* 2)).take 2=[ι L[i].1,ι L[i].2]:=(r i hi).read;have G:=ϯ (λl:List Value=>l[1]?) e;simp at G;rw[d.cellAt _ τ];exact G
def RmS.readyO (s:RmS):Og:=s.ready.getD (0,0)
def ZW (p:α->Bool): ∀(l:List α) (j:Nat) (hj:j<l.length),(∀i (hi:i<l.length),i<j->p l[i]=ύ)->p l[j]=ό->l.find? p=ϊ l[j]
 | [],j,hj,_,_=>by simp at hj
 | a::l,0,_,_,h=>by simp at h;simp[h]
 | a::l,j+1,hj,h1,h2=>by
  have d:=h1 0 η τ;simp at d;simp only[List.find?_cons,d];exact ZW p l j (by simpa using hj) (λi hi G=>by have:=h1 (i+1) (by simpa using hi) τ;simpa using this) (by simpa using h2)
def PJ (p:α->Bool) (l:List α) (h: ∀i (hi:i<l.length),p l[i]=ύ):l.find? p=ϋ:=by
 rw[List.find?_eq_none];intro x d;obtain⟨i,hi,rfl⟩:=A4.1 d;simp[h i hi]
def Al (h:RmX T w0 w k vp vr s F) (av:xz s.clock):
  Calls prog 73 #[γ k.R] w λe w'=>e= .returned (.tuple #[θ #[ι s.readyO.1,ι s.readyO.2],s.ready.isSome])/\ql w w':=by
 have N:=κ h;have aE:=κ av;clear h av
 go_enter func73,ntmps73
 go_wp2_with (go_at_call 64;(go_call (N.o.on (ql.alloc w (.cells #[ι 0,ι 0] 58))).orgsRow as e w1 ⟨v,rfl,aB,ah⟩;obtain⟨aZ,cap,rfl,aO,aA⟩:=KT aB;have aG:=κ aA;have an:Hid (ql w w1):=κ (W4.trans ah);have Y:Hid (w1.heap[w.heap.size]? =ϊ (.cells #[ι 0,ι 0] 58 (0,0))):=κ (qq ah (qj w _));clear aB ah aA))
 unfold maxLen at aO
 go_loopw [9] (λag wr=> ∃j:Nat,j<=s.origins.length/\ag= ι j/\(∀i (hi:i<s.origins.length),i<j->s.readyAt s.origins[i]=ύ)/\ql w1 wr) (λag _=>s.origins.length-(intOf ag).toNat)
 case atStart=>exact⟨0,τ,rfl,λi hi h=>by omega,ql.refl _⟩
 case round=>
  obtain⟨j,aY,rfl,aw,au⟩:=hrel;have ab:=κ aw;have G:=κ au;clear aw au;by_cases hlt:j<s.origins.length
  ·have aN:(j:Int)<(s.origins.length:Int):=by omega
   obtain⟨b,rfl,aW,aq,O,c1⟩:=aG.o j hlt;have O:wr.cell? ⟨b,j* 2,ϋ⟩=ϊ (ι (s.origins[j]).1):=by rw[G.o.cells _ _ aq];exact O
   have c1:wr.cell? ⟨b,j* 2+1,ϋ⟩=ϊ (ι (s.origins[j]).2):=by rw[G.o.cells _ _ aq];exact c1
   obtain⟨t,af⟩:=yB (ϛ hlt);have ak:=κ (λI=>ZW s.readyAt s.origins j hlt ab.o I);have az:s.readyAt s.origins[j]=xa t.buf s.clock:=by unfold RmS.readyAt;rw[af]
   have ac:=κ az;clear az;obtain⟨p,ap,v,ay,U⟩:=N.o.strAt af;have am:Hid (∀o,o=s.origins[j]->(∀I:xa t.buf s.clock=ό,s.ready=ϊ o)):=κ (λo e I=>by rw[e];exact ak.o (by rw[ac.o];exact I))
   have aI:Hid (xa t.buf s.clock=ύ-> ∀i (hi:i<s.origins.length),i<j+1->s.readyAt s.origins[i]=ύ):=κ (λI i hi h=>by
    by_cases e:i<j
    ·exact ab.o i hi e
    ·obtain rfl:i=j:=by omega
     rw[ac.o];exact I)
   generalize s.origins[j]=o at *;obtain⟨H,o2⟩:=o;simp only at O c1;have aF:=κ (am.o (H,o2) rfl);obtain⟨W1,M⟩:=ν (wr.alloc (.cells #[ι H,ι o2] 58));have J:Hid (ql w W1):=κ (by rw[<-M];exact(an.o.trans G.o).al _);have ao:Hid (ql w1 W1):=κ (by rw[<-M];exact G.o.al _);have aC:Hid (W1.heap[wr.heap.size]? =ϊ (.cells #[ι H,ι o2] 58 (0,0))):=κ (by rw[<-M];exact qj wr _);have ad:=λ(x:qt W1)=>qq x.h aC.o
   have aU:=λx=>β0 (ad x);have aV:=λx=>β1 (ad x);clear ad
   have ae:=λ(x:qt W1)=>qq (J.o.trans x.h) N.o.blk
   have aQ:=λx=>β13 (ae x);have aR:=λx=>β9 (ae x);clear ae
   have aT:=λ(x:qt W1)=>β0 (qq (J.o.trans x.h) U.blk)
   have aS: ∀x:qt W1,(Instr.lookup 91 (.map (ϊ k.MS)) (θ #[ι H,ι o2]) ύ).run prog x.w'= .ok (γ p) x.w':=λx=>by
    have:=ya ((N.o.all .sts).2.more (J.o.trans x.h)) (H,o2) ύ;rw[ay] at this;exact this
   have aj: ∀x:qt W1,Calls prog 119 #[γ ap,ι s.clock] x.w' λe w'=>e= .returned (μ (xa t.buf s.clock))/\ql x.w' w':=λx=>Z7 t.buf U.ok ap v s.clock aE.o x.w' (U.buf.on (J.o.trans x.h))
   generalize xa t.buf s.clock=rd at *;have aD:=κ aj;clear aj U ay af ak ac am
   go_upto_region 4 with fail
   (try rw[M])
   clear M O c1;refine qD _ (ql.refl _) ξ ξ ?_
   repeat (go_big_quiet_step ((go_at_call 119;exact j6 (aD.o _))))
   refine wpQuiet_nil ?_;intro _ aP;obtain⟨ai,rfl⟩:=aP;cases rd with
   | true=>
    have ar:=aF.o rfl;have aX:w.heap.size≠wr.heap.size:=by have:=G.o.size;have:=qn Y.o;omega
    have d:=κ (qq (ao.o.trans ai.h) Y.o);have aJ:=yw d.o 0;have aK:=yw d.o 1;have aL:=β0 d.o;have aM:=β1 d.o;have aa:=κ ar;clear ar;go_wp2
    (refine bodyPost_ret (v:= .tuple #[θ #[ι H,ι o2],ό]) (yo results73 _ _ (w.heap.size) 58 #[ι H,ι o2] _ _ rfl rfl (qB (qp (qp d.o 0 _) 1 _) rfl) underlying58 rfl ξ) rfl ?_)
    refine⟨?_,(J.o.trans ai.h).st (ϕ _) _ |>.st (ϕ _) _⟩;unfold RmS.readyO;rw[aa.o];rfl
   | false=>
    have aH:=κ (aI.o rfl);go_wp2;go_roundw
    case rel=>exact⟨j+1,τ,by go_num,aH.o,ao.o.trans ai.h⟩
    case measure=>simp[intOf];omega
  ·obtain rfl:j=s.origins.length:=by omega
   have aN: ¬(s.origins.length:Int)<(s.origins.length:Int):=by omega
   have ax:s.ready=ϋ:=PJ s.readyAt s.origins (λi hi=>ab.o i hi hi);have aa:=κ ax;have d:=κ (qq G.o Y.o);have aJ:=yw d.o 0;have aK:=yw d.o 1;have aL:=β0 d.o;have aM:=β1 d.o;clear ax;go_wp2
   (refine bodyPost_ret (v:= .tuple #[θ #[ι 0,ι 0],ύ]) (yo results73 _ _ (w.heap.size) 58 #[ι 0,ι 0] _ _ rfl rfl (qB (qp (qp d.o 0 _) 1 _) rfl) underlying58 rfl ξ) rfl ?_)
   refine⟨?_,(an.o.trans G.o).st (ϕ _) _ |>.st (ϕ _) _⟩;unfold RmS.readyO;rw[aa.o];rfl
structure zc (s:RmS):Prop where
 keys: ∀x,(qh s.tab.u x).isSome=ό->0<=x/\x<6
 lane: ∀x,(qh s.tab.u x).isSome=(qh s.lanes x).isSome
 few:s.tab.u.length<=1000000
def Hk {T a c:Nat} {t:TS} (h:jq w T a b c t) (v0:Int) (I: ∀x,(qh t.u x).isSome=ό->0<=x/\x<6) (J:t.u.length<=1000000):
  Calls prog 142 #[γ T,ι v0] w λe w'=>(∃v,e= .returned v/\SlI .i64 w' v (prR (j8 v0) t.u)/\ ∀q,v.ownBlock=ϊ q->w.heap.size<=q)/\ql w w':=by
 rw[<-Vl h.mu.keys I]
 go_enter func142,ntmps142
 go_wp2_with (go_at_call 203;(go_call Dm (h.more (ql.alloc w (.cells #[ι v0] 3))) v0 (qj w _) J as e w2 ⟨⟨v,rfl,s,d⟩,m⟩;have S:=κ s;have H:=κ m;have G:=κ d;clear s m d))
 go_ret;exact⟨⟨_,rfl,S.o,λq d=>Ϙ W4.size (G.o q d)⟩,W4.trans H.o⟩
def FO {T a c:Nat} {t:TS} (h:jq w T a b c t) (v0:Int) (I: ∀x,(qh t.u x).isSome=ό->0<=x/\x<6) (J:t.u.length<=1000000):
  Calls prog 190 #[γ T,ω v0] w λe w'=>(∃v,e= .returned v/\SlI .i64 w' v (prR (zV v0) t.u)/\ ∀q,v.ownBlock=ϊ q->w.heap.size<=q)/\ql w w':=by
 rw[<-Vl h.mu.keys I]
 go_enter func190,ntmps190
 go_wp2_with (go_at_call 203;(go_call Ku (h.more (ql.alloc w (.cells #[ω v0] 38))) v0 (qj w _) J as e w2 ⟨⟨v,rfl,s,d⟩,m⟩;have S:=κ s;have H:=κ m;have G:=κ d;clear s m d))
 go_ret;exact⟨⟨_,rfl,S.o,λq d=>Ϙ W4.size (G.o q d)⟩,W4.trans H.o⟩
def Vq (J:zc s) {H:Sb->Bool} (h:x∈prR H s.tab.u): ∃d l,qh s.tab.u x=ϊ d/\qh s.lanes x=ϊ l:=by
 obtain⟨_,d,G,_⟩:=(WL H s.tab.u x).1 h;have:=J.lane x;rw[G] at this;obtain⟨l,I⟩:=Ϥ.1 this.symm;exact⟨d,l,G,I⟩
def kH (s:RmS) (n:Int) (x:Int):Bool:=match qh s.lanes x with
 | some l=>wO l n
 | none=>ύ
def Ax (s:RmS) (o:Og) (d:qh s.strs o=ϊ t):s.wants o=(t.askedOf||(prR (j8 o.1) s.tab.u).any (kH s o.2)):=by
 unfold RmS.wants;rw[d];rfl
def FA (h:RmX T w0 w k vp vr s F) (bf:zc s) (Y o2:Int) (am:qh s.strs (Y,o2)=ϊ t):
  Calls prog 85 #[γ k.R,θ #[ι Y,ι o2]] w λe w'=>e= .returned (μ (s.wants (Y,o2)))/\ql w w':=by
 have af:=κ h;obtain⟨p,bF,v,bc,ac⟩:=h.strAt am;rw[Ax s (Y,o2) am];have av:=κ bf;obtain⟨W1,ap⟩:=ν (w.alloc (.cells #[ι Y,ι o2] 58));have ab:Hid (ql w W1):=κ (by rw[<-ap];exact ql.alloc _ _);have aq:Hid (W1.heap[w.heap.size]? =ϊ (.cells #[ι Y,ι o2] 58 (0,0))):=κ (by rw[<-ap];exact qj w _);have ax:=λ(x:qt W1)=>qq x.h aq.o
 have aU:=λx=>β0 (ax x);have bo:=λx=>β1 (ax x);clear ax
 have ay:=λ(x:qt W1)=>qq (ab.o.trans x.h) af.o.blk
 have bm:=λx=>β13 (ay x);have aS:=λx=>β11 (ay x);clear ay
 have aT:=λ(x:qt W1)=>β7 (qq (ab.o.trans x.h) ac.blk)
 have bn: ∀x:qt W1,(Instr.lookup 91 (.map (ϊ k.MS)) (θ #[ι Y,ι o2]) ύ).run prog x.w'= .ok (γ p) x.w':=λx=>by
  have:=ya (af.o.stm.more (ab.o.trans x.h)) (Y,o2) ύ;rw[bc] at this;exact this
 clear bc ac am h bf;obtain⟨bu,aX⟩:=ν (t.askedOf);rw[aX] at aT ⊢;clear aX
 go_enter func85,ntmps85
 go_upto_region 1 with fail
 (try rw[ap])
 clear ap;refine qD _ (ql.refl _) ξ ξ ?_
 repeat (go_big_quiet_step (fail))
 refine wpQuiet_nil ?_;intro _ bA;obtain⟨aR,rfl⟩:=bA;cases bu with
 | true=>
  go_wp2;go_ret;exact⟨rfl,ab.o.trans aR.h⟩
 | false=>
  go_upto_region 3 with fail
  obtain⟨W2,aE⟩:=ν (aR.w');have ag:Hid (ql W1 W2):=κ (by rw[<-aE];exact aR.h)
  (try rw[aE])
  clear aE aT bn bm;have bp: ∀x:qt W2,x.w'.cell? ⟨w.heap.size,0,ϋ⟩=ϊ (ι Y):=λx=>aU ⟨_,ag.o.trans x.h⟩
  have bq: ∀x:qt W2,x.w'.cell? ⟨k.R,11,ϋ⟩=ϊ (π (ϊ ⟨k.tb,0,ϋ⟩)):=λx=>aS ⟨_,ag.o.trans x.h⟩
  clear aU bo aS;refine zC W2 9 [(0,ύ),(1,ύ),(2,ύ),(3,ύ),(4,ύ),(5,ύ),(8,ύ),(6,ό),(7,ύ)] ξ ξ ?_
  refine Qq7 ?_
  (refine Ql ?_;intro K aD)
  go_call Hk (af.o.tab.more ((ab.o.trans ag.o).dr 1)) Y av.o.keys av.o.few as e bl ⟨⟨v3,rfl,bE,bB⟩,bj⟩;have aj:Hid (ql W2 bl):=κ ((ql.drewN _ 1).trans bj);obtain⟨bJ,cap,rfl,bz,be,_⟩:=bE;have aW:=κ be;clear bj bB be;refine⟨_,rfl,qk aj.o,aD _ _ ?_⟩;clear aD K
  iterate 1 (refine qE rfl rfl (qk aj.o) ?_;intro K aD;go_big_quiet_op;go_big_quiet_on)
  refine qA ?_;clear bp bq;have bt:=κ (ab.o.trans (ag.o.trans aj.o));have an:=κ (qq (ag.o.trans aj.o) aq.o);clear ab ag aj aq;obtain⟨L,ak⟩:=ν (prR (j8 Y) s.tab.u);have bs:Hid (∀x∈L,∃l,qh s.lanes x=ϊ l):=κ (λx ac=>by rw[<-ak] at ac;obtain⟨_,l,_,h⟩:=Vq av.o ac;exact⟨l,h⟩);have aV:=κ ak;rw[ak] at aW bz;simp only[ak];clear ak;go_wp2
  go_loopw [27] (λaP wr=> ∃j:Nat,j<=L.length/\aP= ι j/\(∀i (hi:i<L.length),i<j->kH s o2 L[i]=ύ)/\ql bl wr) (λaP _=>L.length-(intOf aP).toNat)
  case atStart=>exact⟨0,τ,rfl,λi hi h=>by omega,ql.refl _⟩
  case round=>
   obtain⟨j,bH,rfl,bb,aL⟩:=hrel;have au:=κ bb;have O:=κ (bt.o.trans aL);have aa:=κ aL;clear bb aL;by_cases hlt:j<L.length
   ·have bx:(j:Int)<(L.length:Int):=by omega
    obtain⟨b,bC,rfl,bv,aF⟩:=aW.o j hlt;have aF:wr.cell? ⟨b,bC+j,ϋ⟩=ϊ (ι (L.getD j 0)):=by rw[aa.o.cells _ _ bv];exact aF
    have aZ:L.getD j 0=L[j]:=by simp[hlt]
    obtain⟨l,aG⟩:=bs.o L[j] (ϛ hlt);have aO:kH s o2 L[j]=wO l o2:=by unfold kH;rw[aG]
    have ad:Hid (wO l o2=ύ-> ∀i (hi:i<L.length),i<j+1->kH s o2 L[i]=ύ):=κ (λbw i hi h=>by
     by_cases e:i<j
     ·exact au.o i hi e
     ·obtain rfl:i=j:=by omega
      rw[aO];exact bw)
    have aw:Hid (wO l o2=ό->L.any (kH s o2)=ό):=κ (λam=>P8.2 ⟨L[j],ϛ hlt,by rw[aO];exact am⟩);obtain⟨p2,bd,ba⟩:=af.o.laneAt aG;have ar:=κ ba;rw[aZ] at aF;have q:=xq (af.o.lnm.more O.o) L[j] ύ;rw[bd] at q;generalize L[j]=x at *;have bG:=β12 (qq O.o af.o.blk);clear aZ aO aG ba bd au;obtain⟨bi,aK⟩:=ν (l.wanted);obtain⟨bh,aI⟩:=ν (l.gone);obtain⟨H,aH⟩:=ν (l.cur);obtain⟨d,aJ⟩:=ν (l.tgt);have bg:wO l o2=(bi&&(!bh&&(!decide (H=d)&&decide (d=o2)))):=by unfold wO;rw[aK,aI,aH,aJ]
    have ae:=κ (λw m=>Xb (ar.o.on (w':=w) m));have ai:=κ (λw m=>JB (ar.o.on (w':=w) m));rw[aK,aH,aJ] at ae;rw[aI] at ai;rw[bg] at ad aw;clear aK aI aH aJ bg ar;have aY:((Gh (ϊ p2)):Value)= γ p2:=rfl;simp only[aY,Ϯ,C2] at q;clear aY;cases bi with
    | false=>
     go_wp2_with (go_at_call 67;(go_call ae.o _ O.o as e w5 ⟨rfl,N⟩;have I:=κ N;clear N))
     go_roundw
     case rel=>exact⟨j+1,τ,by go_num,ad.o rfl,(aa.o.trans I.o).al _⟩
     case measure=>simp[intOf];omega
    | true=>
     cases bh with
     | true=>
      go_wp2_with (first | (go_at_call 67;(go_call ae.o _ O.o as e w5 ⟨rfl,N⟩;have I:=κ N;clear N)) | (go_at_call 69;(go_call ai.o _ ((O.o.trans I.o).al (.cells #[ι H,ι d] 103)) as e w6 ⟨rfl,M⟩;have U:=κ M;have J:=κ (qq M (qj w5 (.cells #[ι H,ι d] 103)));have aA:=β0 J.o;have aB:=β1 J.o;clear M)) | (go_at_call 38;(go_call vK H d w6 as e aQ ⟨rfl,G⟩;rw[ao.o];have ah:=κ G;have aC:=β1 (qq G J.o);have az:=β1 (qq (aa.o.trans (((I.o.al (.cells #[ι H,ι d] 103)).trans U.o).trans G)) an.o);clear G)))
      go_roundw
      case rel=>exact⟨j+1,τ,by go_num,ad.o rfl,((aa.o.trans I.o).al _).trans U.o⟩
      case measure=>simp[intOf];omega
     | false=>
      obtain⟨bD,aM⟩:=ν ((!decide (H=d)));obtain⟨bk,aN⟩:=ν (decide (d=o2));have bI:(d==o2)=bk:=by rw[<-aN];rfl
      rw[aM,aN] at ad aw;have ao:=κ aM;clear aM aN;cases bD with
      | false=>
       go_wp2_with (first | (go_at_call 67;(go_call ae.o _ O.o as e w5 ⟨rfl,N⟩;have I:=κ N;clear N)) | (go_at_call 69;(go_call ai.o _ ((O.o.trans I.o).al (.cells #[ι H,ι d] 103)) as e w6 ⟨rfl,M⟩;have U:=κ M;have J:=κ (qq M (qj w5 (.cells #[ι H,ι d] 103)));have aA:=β0 J.o;have aB:=β1 J.o;clear M)) | (go_at_call 38;(go_call vK H d w6 as e aQ ⟨rfl,G⟩;rw[ao.o];have ah:=κ G;have aC:=β1 (qq G J.o);have az:=β1 (qq (aa.o.trans (((I.o.al (.cells #[ι H,ι d] 103)).trans U.o).trans G)) an.o);clear G)))
       go_roundw
       case rel=>exact⟨j+1,τ,by go_num,ad.o rfl,(((aa.o.trans I.o).al _).trans U.o).trans ah.o⟩
       case measure=>simp[intOf];omega
      | true=>
       cases bk with
       | false=>
        go_wp2_with (first | (go_at_call 67;(go_call ae.o _ O.o as e w5 ⟨rfl,N⟩;have I:=κ N;clear N)) | (go_at_call 69;(go_call ai.o _ ((O.o.trans I.o).al (.cells #[ι H,ι d] 103)) as e w6 ⟨rfl,M⟩;have U:=κ M;have J:=κ (qq M (qj w5 (.cells #[ι H,ι d] 103)));have aA:=β0 J.o;have aB:=β1 J.o;clear M)) | (go_at_call 38;(go_call vK H d w6 as e aQ ⟨rfl,G⟩;rw[ao.o];have ah:=κ G;have aC:=β1 (qq G J.o);have az:=β1 (qq (aa.o.trans (((I.o.al (.cells #[ι H,ι d] 103)).trans U.o).trans G)) an.o);clear G)))
        go_roundw
        case rel=>exact⟨j+1,τ,by go_num,ad.o rfl,(((aa.o.trans I.o).al _).trans U.o).trans ah.o⟩
        case measure=>simp[intOf];omega
       | true=>
        go_wp2_with (first | (go_at_call 67;(go_call ae.o _ O.o as e w5 ⟨rfl,N⟩;have I:=κ N;clear N)) | (go_at_call 69;(go_call ai.o _ ((O.o.trans I.o).al (.cells #[ι H,ι d] 103)) as e w6 ⟨rfl,M⟩;have U:=κ M;have J:=κ (qq M (qj w5 (.cells #[ι H,ι d] 103)));have aA:=β0 J.o;have aB:=β1 J.o;clear M)) | (go_at_call 38;(go_call vK H d w6 as e aQ ⟨rfl,G⟩;rw[ao.o];have ah:=κ G;have aC:=β1 (qq G J.o);have az:=β1 (qq (aa.o.trans (((I.o.al (.cells #[ι H,ι d] 103)).trans U.o).trans G)) an.o);clear G)))
        go_ret;exact⟨by rw[aV.o,aw.o rfl];rfl,(((O.o.trans I.o).al _).trans U.o).trans ah.o⟩
   ·obtain rfl:j=L.length:=by omega
    have bx: ¬(L.length:Int)<(L.length:Int):=by omega
    have br:Hid (L.any (kH s o2)=ύ):=κ (by
     rw[K2];intro x ac;obtain⟨i,hi,rfl⟩:=A4.1 ac;rw[au.o i hi hi]
     decide)
    go_wp2;go_ret;exact⟨by rw[aV.o,br.o];rfl,O.o⟩
def RmX.at (h:RmX T w0 w k vp vr s F):qI w0 w k s F:=⟨T,vp,vr,h⟩
def RmX.self (h:RmX T w0 w k vp vr s F) (a:jt (λb=>b=k.R) w w') {s':RmS} (G:w'.heap[k.R]? =ϊ (.cells (zH k vp vr s') 95 (0,0)))
  (rest: ∀u,u≠ .room->u≠ .no->k.Holds (jZ T .room w w') w' vp vr s u->k.Holds (jZ T .room w w') w' vp vr s' u):qI w0 w' k s' F/\qw F w w':=by
 obtain⟨d,_⟩:=h.all .room;have I:=h.fresh;obtain⟨x,y⟩:=h.own (t:= .room) (k':=k) (vp':=vp) (vr':=vr) (s':=s') ⟨η,η⟩ (a.mono λb H=>by rw[H];exact d) ⟨(jd I η _).2 (ϒ d),G⟩ rest;exact⟨x.at,y⟩
def RmX.book (h:RmX T w0 w k vp vr s F) (b:jy w' k.B k.b m) (a:jt (λx=>x=k.b) w w'):qI w0 w' k {s with book:=m} F/\qw F w w':=by
 obtain⟨H,d,_⟩:=h.all .book;have G:=h.fresh;obtain⟨x,y⟩:=h.own (t:= .book) (k':=k) (vp':=vp) (vr':=vr) (s':={s with book:=m}) ⟨η,η⟩ (a.mono λb I=>by rw[I];exact d) ⟨(jd G η _).2 (ϒ H),(jd G η _).2 (ϒ d),b⟩ (λu J M x=>by cases u<;>first | exact x | exact ϩ rfl J);exact⟨x.at,y⟩
def RmX.table (h:RmX T w0 w k vp vr s F) {t:TS} (b:jq w' k.tb k.ta k.tc k.td t) (a:jt (λx=>x=k.ta∨x=k.tc∨x=k.td) w w'):qI w0 w' k {s with tab:=t} F/\qw F w w':=by
 obtain⟨G,H,I,J,_⟩:=h.all .table;have d:=h.fresh;obtain⟨x,y⟩:=h.own (t:= .table) (k':=k) (vp':=vp) (vr':=vr) (s':={s with tab:=t}) ⟨η,η⟩ (a.mono λb M=>by rcases M with rfl | rfl | rfl<;>assumption)
  ⟨(jd d η _).2 (ϒ G),(jd d η _).2 (ϒ H),(jd d η _).2 (ϒ I),(jd d η _).2 (ϒ J),b⟩ (λu N O x=>by cases u<;>first | exact x | exact ϩ rfl N)
 exact⟨x.at,y⟩
def RmX.retMap (h:RmX T w0 w k vp vr s F) {m:List (Og×Bool)} (b:jk w' k.M1 kO μ m) (a:jt (λx=>x=k.M1) w w'):qI w0 w' k {s with ret:=m} F/\qw F w w':=by
 obtain⟨d,_⟩:=h.all .ret;have H:=h.fresh;obtain⟨x,y⟩:=h.own (t:= .ret) (k':=k) (vp':=vp) (vr':=vr) (s':={s with ret:=m}) ⟨η,η⟩ (a.mono λb G=>by rw[G];exact d) ⟨(jd H η _).2 (ϒ d),b⟩ (λu I J x=>by cases u<;>first | exact x | exact ϩ rfl I);exact⟨x.at,y⟩
def RmX.ring (h:RmX T w0 w k vp vr s F) {q:List (List Int)} (a:jt (RgB k.RQ k.AQ) w w') (b: ∀D:Nat->Prop,(∀b,D b->T b≠ .data∨w.heap.size<=b)->RgR 1 229 35 RBy D w' k.RQ k.AQ s.cfg.room.toNat q):qI w0 w' k {s with queue:=q} F/\qw F w w':=by
 obtain⟨H,I,_⟩:=h.all .queue;have G:=h.fresh;obtain⟨x,y⟩:=h.own (t:= .queue) (k':=k) (vp':=vp) (vr':=vr) (s':={s with queue:=q}) ⟨η,η⟩ (a.mono λb d=>by rcases d with rfl | rfl<;>assumption)
  ⟨(jd G η _).2 (ϒ H),(jd G η _).2 (ϒ I),b _ (λb d=>ϒ (λe=>d ((jF G η η b).2 e)))⟩ (λu J M x=>by cases u<;>first | exact x | exact ϩ rfl J)
 exact⟨x.at,y⟩
def RmX.lanePut (h:RmX T w0 w k vp vr s F) {l l':LnS} (O:qh s.lanes x=ϊ l) (I:qh k.LA x=ϊ p) (b:zw (xf (λb=>T b= .lane x) w w') w' p l') (a:jt (λb=>T b= .lane x) w w'):
  qI w0 w' k {s with lanes:=qx s.lanes x l'} F/\qw F w w':=by
 have J:=h.fresh;obtain⟨y,z⟩:=h.own (t:= .lane x) (k':=k) (vp':=vp) (vr':=vr) (s':={s with lanes:=qx s.lanes x l'}) ⟨η,η⟩ a
  ⟨λaa Y G d=>by
   rw[I] at G;rw[xD] at d;injection G with G
   injection d with d
   subst G d;rw[wW J η]
   exact b,by rw[I,xD];rfl⟩
  (λu M U y=>by
   cases u<;>first | exact y | skip
   rename_i N;have H:N≠x:=λe=>M (by rw[e])
   exact⟨λp l G d=>y.1 p l G (by rw[vF _ _ H] at d;exact d),by rw[vF _ _ H];exact y.2⟩)
 exact⟨y.at,z⟩
def RmX.strPut (h:RmX T w0 w k vp vr s F) {t':zu} (U:qh s.strs o=ϊ t) (I:qh k.SA o=ϊ p) (b:Hl (xf (λb=>T b= .str o) w w') w' p t') (a:jt (λb=>T b= .str o) w w'):
  qI w0 w' k {s with strs:=qx s.strs o t'} F/\qw F w w':=by
 have J:=h.fresh;obtain⟨y,z⟩:=h.own (t:= .str o) (k':=k) (vp':=vp) (vr':=vr) (s':={s with strs:=qx s.strs o t'}) ⟨η,η⟩ a
  ⟨λaa Y G d=>by
   rw[I] at G;rw[xD] at d;injection G with G
   injection d with d
   subst G d;rw[wW J η]
   exact b,by rw[I,xD];rfl⟩
  (λu M O y=>by
   cases u<;>first | exact y | skip
   rename_i N;have H:N≠o:=λe=>M (by rw[e])
   exact⟨λp l G d=>y.1 p l G (by rw[vF _ _ H] at d;exact d),by rw[vF _ _ H];exact y.2⟩)
 exact⟨y.at,z⟩
def RmX.strSet (h:RmX T w0 w k vp vr s F) {t':zu} {H:Nat} (J:qh s.strs o=ϊ t) (I:qh k.SA o=ϊ p) (x:KJ (λb=>T b= .str o) w p H v t) (a:jt (λb=>b=p) w w')
  (blk:w'.heap[p]? =ϊ (.cells (gK H t') 176 (0,0))) (e:t'.buf=t.buf):qI w0 w' k {s with strs:=qx s.strs o t'} F/\qw F w w':=by
 refine h.strPut J I ⟨H,v,blk, ?_,by rw[e];exact x.ok,λb d=> ?_,ϒ x.np,ϒ x.nb,x.ne,λg G=>⟨ϒ (x.nv g G).1,(x.nv g G).2⟩⟩ (a.mono λb d=>by rw[d];exact x.np)
 ·rw[e];exact⟨a.blk x.buf.blk (C0 x.ne),x.buf.row.away a (λg G=>(x.nv g G).2)⟩
 ·rcases d with d | d
  ·exact ϗ (x.sub b d) a.size
  ·exact d.2
def RmX.strBuf (h:RmX T w0 w k vp vr s F) {b:Jb} {H:Nat} {v':Value} (O:qh s.strs o=ϊ t) (M:qh k.SA o=ϊ p) (x:KJ (λb=>T b= .str o) w p H v t) (st:NQ w w' H v v' b) (U:JOK b):
  qI w0 w' k {s with strs:=qx s.strs o {t with buf:=b}} F/\qw F w w':=by
 have a:jt (λb=>T b= .str o) w w':=st.away.mono λg d=>by
  rcases d with rfl | d
  ·exact x.nb
  ·exact(x.nv g d).1
 have N: ¬(p=H∨v.ownBlock=ϊ p):=by
  rintro(e | e)
  ·exact x.ne e
  ·exact(x.nv p e).2 rfl
 refine h.strPut O M ⟨H,v',st.away.blk x.blk N,st.buf,U,λb G=> ?_,ϒ x.np,ϒ x.nb,x.ne,λg d=> ?_⟩ a
 ·rcases G with G | G
  ·exact ϗ (x.sub b G) a.size
  ·exact G.2
 ·have J:g<w'.heap.size:=by
   rcases st.buf.row.2 with ⟨e,_⟩ | ⟨aa,cap,cur,e,_,I,_⟩
   ·rw[e] at d;cases d
   ·rw[e] at d;injection d with d
    have:=lt_of_block I;simp only at d;omega
  rcases st.own with e | ⟨g',e,hge⟩
  ·rw[e] at d;exact⟨ϒ (x.nv g d).1,(x.nv g d).2⟩
  ·rw[e] at d;injection d with d
   subst d;exact⟨ϔ ⟨hge,J⟩,λY=>by have:=lt_of_block x.blk;omega⟩
def FG (h:qI w0 w k s F) (M sub:Int) (acc:Bool) {l:LnS} (ai:qh s.lanes sub=ϊ l):
  Calls prog 81 #[γ k.R,θ #[ι M,ι sub],acc] w λe w'=>e= .returned (.tuple #[])/\qI w0 w' k (s.choose sub) F/\qw F w w':=by
 have ac:=κ (h.stay (ql.alloc w (.cells #[ι M,ι sub] 37)));have ap:=h.adds (ql.alloc w (.cells #[ι M,ι sub] 37)) (Fn:=[w.heap.size]) (λb d=>by simp at d;subst d;simp);have aa:=κ (qj w (.cells #[ι M,ι sub] 37));obtain⟨W1,ah⟩:=ν (w.alloc (.cells #[ι M,ι sub] 37));rw[ah] at ap aa ac;obtain⟨T,vp,aQ,H⟩:=ap;have O:=κ H;obtain⟨p,au,ar⟩:=H.laneAt ai;have aD:=κ ar;have am:=κ au;have ab:=κ ai;have aI: ¬T k.R= .lane sub:=by rw[(H.all .room).1];simp
 have aH: ¬T k.ML= .lane sub:=by rw[(H.all .lns).1];simp
 have aG: ¬T w.heap.size= .lane sub:=by rw[(H.law w.heap.size η).1];simp
 have ay:=λ(x:qz (λb=>T b= .lane sub) W1)=>β12 (x.h.blk O.o.blk aI)
 have aA:=λ(x:qz (λb=>T b= .lane sub) W1)=>β1 (x.h.blk aa.o aG)
 have az: ∀x:qz (λb=>T b= .lane sub) W1,(Instr.lookup 90 (.map (ϊ k.ML)) (ι sub) ύ).run prog x.w'= .ok (γ p) x.w':=λx=>by
  have:=xq (O.o.lnm.away x.h aH) sub ύ;rw[am.o] at this;exact this
 have al:=κ (λw (m:ql W1 w)=>Df (aD.o.on m));obtain⟨aw,id,J,ok,ag⟩: ∃aw id J ok,jf l=(aw,id,J,ok):=⟨_,_,_,_,rfl⟩;rw[ag] at al;have an:=κ ag;clear h H ai au ar ag
 go_enter func81,ntmps81
 go_upto_region 1 with fail
 (try rw[ah])
 clear ah;refine QN (λb=>T b= .lane sub) W1 15 15 [7] ?_
 refine Qs7 ?_
 (refine Ql ?_;intro K G)
 go_call al.o _ (ql.drewN _ 1) as e w2 ⟨rfl,av,ae⟩;obtain⟨af,t2⟩:=(O.o.on (ql.drewN W1 1)).lanePut ab.o am.o av ae;have ak:=κ af;have ad:Hid (qw ([w.heap.size]++F) W1 w2):=κ ((af |> λ_=>(O.o.at.stay (ql.drewN W1 1))).trans t2);have aj:Hid (jt (λb=>T b= .lane sub) W1 w2):=κ (((jt.refl _ _).drewN 1).trans ae);clear av ae af t2;refine⟨_,rfl,qi aj.o,G _ _ ?_⟩;clear G K
 iterate 7 (refine qE rfl rfl (qi aj.o) ?_;intro K G;go_big_quiet_op;go_big_quiet_on)
 refine qA ?_;clear ay aA az;have aC:=κ (ad.o.blk η aa.o);obtain⟨c,Y⟩:=ν ((ok&& !decide (J=0)));have N:=κ Y
 go_upto_region 2 with fail
 go_cut [25] from 21 (λv aL=>v= μ c/\aL=w2)
 case first=>
  cases ok with
  | false=>
   clear Y;go_wp2;go_meet;exact⟨by rw[<-N.o];rfl,rfl⟩
  | true=>
   clear Y;go_wp2;go_meet;exact⟨by rw[<-N.o];by_cases e:J=0<;>simp[e],rfl⟩
 case rest=>
 obtain⟨rfl,aF⟩:=hcut;obtain rfl:=aF.symm;clear Y;cases c with
 | false=>
  go_wp2
  (refine bodyPost_end (v:= .tuple #[]) ?re1 rfl ?_;(case re1=>simp[results,results81,go_sem]))
  exact⟨rfl,by unfold RmS.choose;rw[ab.o];simp only[an.o];rw[N.o];exact ak.o.sub (λb d=>ϓ _ d),ac.o.trans (ad.o.sub (λb d=>ϓ _ d))⟩
 | true=>
  obtain⟨aO,aP,aR,I⟩:=ak.o;have U:=κ I;have aJ:k.R≠k.b:=λe=>by
   obtain⟨_,d,_⟩:=I.all .book;rw[<-e,(I.all .room).1] at d;cases d
  have aK:w.heap.size≠k.b:=λe=>by
   obtain⟨_,d,_⟩:=I.all .book;rw[<-e,(I.law w.heap.size η).1] at d;cases d
  have aM:=λ(x:qz (λb=>b=k.b) w2)=>β0 (x.h.blk U.o.blk aJ)
  have aN:=λ(x:qz (λb=>b=k.b) w2)=>β1 (x.h.blk aC.o aK)
  clear I
  go_upto_region 3 with fail
  refine QN (λb=>b=k.b) w2 9 9 [8] ?_
  refine Qs8 ?_
  (refine Ql ?_;intro K G)
  go_call gI (U.o.on (ql.drewN w2 1)).bok sub id J as e w4 ⟨rfl,ao,a4⟩;obtain⟨aq,t4⟩:=(U.o.on (ql.drewN w2 1)).book ao a4;have aB:=κ aq;have aE:Hid (qw ([w.heap.size]++F) w2 w4):=κ ((U.o.at.stay (ql.drewN w2 1)).trans t4);have ax:Hid (jt (λb=>b=k.b) w2 w4):=κ (((jt.refl _ _).drewN 1).trans a4);clear ao a4 aq t4;refine⟨_,rfl,qi ax.o,G _ _ ?_⟩;clear G K;refine qA ?_;go_wp2
  (refine bodyPost_end (v:= .tuple #[]) ?re2 rfl ?_;(case re2=>simp[results,results81,go_sem]))
  exact⟨rfl,by unfold RmS.choose;rw[ab.o];simp only[an.o];rw[N.o];exact aB.o.sub (λb d=>ϓ _ d),ac.o.trans ((ad.o.trans aE.o).sub (λb d=>ϓ _ d))⟩
def CE (h:qI w0 w k s F) (J sub:Int) (acc:Bool) {l:LnS} (ai:qh s.lanes sub=ϊ l):
  Calls prog 82 #[γ k.R,θ #[ι J,ι sub],acc] w λe w'=>e= .returned (.tuple #[])/\qI w0 w' k (s.rewrite sub) F/\qw F w w':=by
 have ab:=κ (h.stay (ql.alloc w (.cells #[ι J,ι sub] 37)));have ap:=h.adds (ql.alloc w (.cells #[ι J,ι sub] 37)) (Fn:=[w.heap.size]) (λb d=>by simp at d;subst d;simp);have Y:=κ (qj w (.cells #[ι J,ι sub] 37));obtain⟨W1,ah⟩:=ν (w.alloc (.cells #[ι J,ι sub] 37));rw[ah] at ap Y ab;obtain⟨T,vp,aQ,H⟩:=ap;have N:=κ H;obtain⟨p,au,ar⟩:=H.laneAt ai;have aD:=κ ar;have am:=κ au;have aa:=κ ai;have aI: ¬T k.R= .lane sub:=by rw[(H.all .room).1];simp
 have aH: ¬T k.ML= .lane sub:=by rw[(H.all .lns).1];simp
 have aG: ¬T w.heap.size= .lane sub:=by rw[(H.law w.heap.size η).1];simp
 have ay:=λ(x:qz (λb=>T b= .lane sub) W1)=>β12 (x.h.blk N.o.blk aI)
 have aA:=λ(x:qz (λb=>T b= .lane sub) W1)=>β1 (x.h.blk Y.o aG)
 have az: ∀x:qz (λb=>T b= .lane sub) W1,(Instr.lookup 90 (.map (ϊ k.ML)) (ι sub) ύ).run prog x.w'= .ok (γ p) x.w':=λx=>by
  have:=xq (N.o.lnm.away x.h aH) sub ύ;rw[am.o] at this;exact this
 have al:=κ (λw (m:ql W1 w)=>Uv (aD.o.on m));obtain⟨aw,id,ae,ok,ag⟩: ∃aw id ae ok,qY l=(aw,id,ae,ok):=⟨_,_,_,_,rfl⟩;rw[ag] at al;have an:=κ ag;clear h H ai au ar ag
 go_enter func82,ntmps82
 go_upto_region 1 with fail
 (try rw[ah])
 clear ah;refine QN (λb=>T b= .lane sub) W1 15 15 [7] ?_
 refine Qs7 ?_
 (refine Ql ?_;intro K G)
 go_call al.o _ (ql.drewN _ 1) as e w2 ⟨rfl,av,ad⟩;obtain⟨af,t2⟩:=(N.o.on (ql.drewN W1 1)).lanePut aa.o am.o av ad;have ak:=κ af;have ac:Hid (qw ([w.heap.size]++F) W1 w2):=κ ((af |> λ_=>(N.o.at.stay (ql.drewN W1 1))).trans t2);have aj:Hid (jt (λb=>T b= .lane sub) W1 w2):=κ (((jt.refl _ _).drewN 1).trans ad);clear av ad af t2;refine⟨_,rfl,qi aj.o,G _ _ ?_⟩;clear G K
 iterate 7 (refine qE rfl rfl (qi aj.o) ?_;intro K G;go_big_quiet_op;go_big_quiet_on)
 refine qA ?_;clear ay aA az;have aC:=κ (ac.o.blk η Y.o);obtain⟨c,U⟩:=ν ((ok&&ae));have M:=κ U
 go_upto_region 2 with fail
 go_cut [24] from 21 (λv aL=>v= μ c/\aL=w2)
 case first=>
  cases ok with
  | false=>
   clear U;go_wp2;go_meet;exact⟨by rw[<-M.o];rfl,rfl⟩
  | true=>
   clear U;go_wp2;go_meet;exact⟨by rw[<-M.o];rfl,rfl⟩
 case rest=>
 obtain⟨rfl,aF⟩:=hcut;obtain rfl:=aF.symm;clear U;cases c with
 | false=>
  go_wp2
  (refine bodyPost_end (v:= .tuple #[]) ?re3 rfl ?_;(case re3=>simp[results,results82,go_sem]))
  exact⟨rfl,by unfold RmS.rewrite;rw[aa.o];simp only[an.o];rw[M.o];exact ak.o.sub (λb d=>ϓ _ d),ab.o.trans (ac.o.sub (λb d=>ϓ _ d))⟩
 | true=>
  obtain⟨aO,aP,aR,I⟩:=ak.o;have O:=κ I;have aJ:k.R≠k.b:=λe=>by
   obtain⟨_,d,_⟩:=I.all .book;rw[<-e,(I.all .room).1] at d;cases d
  have aK:w.heap.size≠k.b:=λe=>by
   obtain⟨_,d,_⟩:=I.all .book;rw[<-e,(I.law w.heap.size η).1] at d;cases d
  have aM:=λ(x:qz (λb=>b=k.b) w2)=>β0 (x.h.blk O.o.blk aJ)
  have aN:=λ(x:qz (λb=>b=k.b) w2)=>β1 (x.h.blk aC.o aK)
  clear I
  go_upto_region 3 with fail
  refine QN (λb=>b=k.b) w2 8 8 [7] ?_
  refine Qs7 ?_
  (refine Ql ?_;intro K G)
  go_call gI (O.o.on (ql.drewN w2 1)).bok sub id 6 as e w4 ⟨rfl,ao,a4⟩;obtain⟨aq,t4⟩:=(O.o.on (ql.drewN w2 1)).book ao a4;have aB:=κ aq;have aE:Hid (qw ([w.heap.size]++F) w2 w4):=κ ((O.o.at.stay (ql.drewN w2 1)).trans t4);have ax:Hid (jt (λb=>b=k.b) w2 w4):=κ (((jt.refl _ _).drewN 1).trans a4);clear ao a4 aq t4;refine⟨_,rfl,qi ax.o,G _ _ ?_⟩;clear G K;refine qA ?_;go_wp2
  (refine bodyPost_end (v:= .tuple #[]) ?re4 rfl ?_;(case re4=>simp[results,results82,go_sem]))
  exact⟨rfl,by unfold RmS.rewrite;rw[aa.o];simp only[an.o];rw[M.o];exact aB.o.sub (λb d=>ϓ _ d),ab.o.trans ((ac.o.trans aE.o).sub (λb d=>ϓ _ d))⟩
end Go.Proofs.YtlmllmonabafjaaGreatDoor
