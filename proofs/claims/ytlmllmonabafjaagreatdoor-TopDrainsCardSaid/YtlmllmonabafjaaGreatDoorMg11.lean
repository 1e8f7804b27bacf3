/- Contracts and plain laws. -/
import Derived.Shelf.Sort.Plain
import Derived.Shelf.Slices.In.SortNone
import Derived.Sort.OwnSortedInts
import Derived.Test.YtlmllmonabafjaaGreatDoorMg8
namespace Go.Proofs.YtlmllmonabafjaaGreatDoor
open Go.Value renaming bool->μ,slice->δ,pointer->π,agg->θ
open Go.IntKind renaming i64->ι,u8->υ,u16->φ,u32->ω,i32->χ,u64->ψ
open _root_.Go.Proofs.Tryz
set_option linter.unusedSimpArgs false
set_option maxHeartbeats 8000000
set_option linter.unusedVariables false
open Go.Shelf
def Ku:Go.Shelf.Ren:=⟨fun | 189=>116 | 125=>169 | 257=>168 | 128=>229 | 129=>230 | 294=>220 | 295=>221 | 296=>222 | 297=>223 | 298=>224 | 299=>225 | 216=>226 | 300=>227 | 301=>228 | 328=>272 | 329=>273 | 330=>274 | 331=>275 | 332=>276 | 215=>277 | 343=>302 | n=>n,fun | 28=>107 | 3=>3 | 46=>335 | 0=>0 | 51=>38 | 53=>231 | 4=>4 | 183=>400 | 182=>399 | 131=>200 | 5=>5 | 9=>9 | 218=>443 | 222=>447 | 228=>469 | 229=>100 | n=>n,fun | n=>n⟩
theorem Gp:Go.Proofs.Lays.n189 prog Ku:={
 mixed:=by kernel_rfl
 f125:=func169.trans (congrArg some ξ)
 f128:=func229.trans (congrArg some ξ)
 f129:=func230.trans (congrArg some ξ)
 f189:=func116.trans (congrArg some ξ)
 f215:=func277.trans (congrArg some ξ)
 f216:=func226.trans (congrArg some ξ)
 f257:=func168.trans (congrArg some ξ)
 f294:=func220.trans (congrArg some ξ)
 f295:=func221.trans (congrArg some ξ)
 f296:=func222.trans (congrArg some ξ)
 f297:=func223.trans (congrArg some ξ)
 f298:=func224.trans (congrArg some ξ)
 f299:=func225.trans (congrArg some ξ)
 f300:=func227.trans (congrArg some ξ)
 f301:=func228.trans (congrArg some ξ)
 f328:=func272.trans (congrArg some ξ)
 f329:=func273.trans (congrArg some ξ)
 f330:=func274.trans (congrArg some ξ)
 f331:=func275.trans (congrArg some ξ)
 f332:=func276.trans (congrArg some ξ)
 f343:=func302.trans (congrArg some ξ)
 t0:=underlying0
 a0:=isAgg0
 z0:=sizeOf0
 v0:=zeroValue0
 t3:=underlying3
 a3:=isAgg3
 z3:=sizeOf3
 v3:=zeroValue3
 t4:=underlying4
 a4:=isAgg4
 z4:=sizeOf4
 v4:=zeroValue4
 t5:=underlying5
 a5:=isAgg5
 z5:=sizeOf5
 v5:=zeroValue5
 t9:=underlying9
 a9:=isAgg9
 z9:=sizeOf9
 v9:=zeroValue9
 t28:=underlying107
 a28:=isAgg107
 z28:=sizeOf107
 v28:=zeroValue107
 t46:=underlying335
 a46:=isAgg335
 z46:=sizeOf335
 v46:=zeroValue335
 t51:=underlying38
 a51:=isAgg38
 z51:=sizeOf38
 v51:=zeroValue38
 t53:=underlying231
 a53:=isAgg231
 z53:=sizeOf231
 v53:=zeroValue231
 t131:=underlying200
 a131:=isAgg200
 z131:=sizeOf200
 v131:=zeroValue200
 t182:=underlying399
 a182:=isAgg399
 z182:=sizeOf399
 v182:=zeroValue399
 t183:=underlying400
 a183:=isAgg400
 z183:=sizeOf400
 v183:=zeroValue400
 t218:=underlying443
 a218:=isAgg443
 z218:=sizeOf443
 v218:=zeroValue443
 t222:=underlying447
 a222:=isAgg447
 z222:=sizeOf447
 v222:=zeroValue447
 t228:=underlying469
 a228:=isAgg469
 z228:=sizeOf469
 v228:=zeroValue469
 t229:=underlying100
 a229:=isAgg100
 z229:=sizeOf100
 v229:=zeroValue100}
open Go.RowKit
def srt (l:List Int):List Int:=l.mergeSort λx y=>decide (x<=y)
theorem uQ (l:List Int):(srt l).length=l.length:=by unfold srt;simp
theorem gR {a b:List Int} (h:a.Perm b):srt a=srt b:=by
 unfold srt;have I: ∀a b c:Int,decide (a<=b)=true->decide (b<=c)=true->decide (a<=c)=true:=λa b c d G=>by simp at *;omega
 have H: ∀a b:Int,(decide (a<=b)||decide (b<=a))=true:=λa b=>by simp;omega
 refine List.Perm.eq_of_pairwise (le:=λx y:Int=>decide (x<=y)=true) ?_ (List.pairwise_mergeSort I H a) (List.pairwise_mergeSort I H b) (((List.mergeSort_perm a _).trans h).trans (List.mergeSort_perm b _).symm);intro x y _ _ d G;simp at d G;omega
theorem Zl {l:List Int} (h:l.Pairwise (· <= ·)):srt l=l:=List.mergeSort_of_pairwise (by simpa using h)
theorem EU {l:List Int} {x:Int}:x∈srt l↔x∈l:=(List.mergeSort_perm l _).mem_iff
theorem j8 {w:World} {base e size n:Nat} {v:Value} {xs:List Value} (h:w.ownsRow base e size v n xs) {q:Nat} (d:v.ownBlock=some q):base<=q:=by
 rcases h.2 with ⟨rfl,_⟩ | ⟨b,cap,cur,rfl,G,_⟩
 ·cases d
 ·cases d;exact G
theorem YI {S:Nat->Prop} {w w':World} {base e size n:Nat} {v:Value} {xs:List Value} (h:w.ownsRow base e size v n xs) (m:qg S w w') (H: ∀k,S k->k<base):w'.ownsRow base e size v n xs:=by
 obtain⟨d,G⟩:=h;refine⟨d, ?_⟩;rcases G with h | ⟨g,cap,cur,e1,hb,hg,rest⟩
 ·exact Or.inl h
 ·exact Or.inr ⟨g,cap,cur,e1,hb,m.blk hg (λx=>by have:=H g x;omega),rest⟩
theorem Ag {w:World} {base:Nat} {v:Value} {l:List Int} (h:w.ownsRow base 3 1 v l.length (l.map (Value.int .i64))) (O:l.length<4611686018427387904):
  Calls prog 116 #[v] w λe w'=>e= .returned (.tuple #[])/\w'.ownsRow base 3 1 v (srt l).length ((srt l).map (Value.int .i64))/\w.grownBy w' v.ownBlock:=by
 obtain⟨ac,h⟩:=h;rcases h with ⟨rfl,U⟩ | ⟨b,cap,cur,rfl,I,H,J,N,Y,aa⟩
 ·have e0:l=[]:=by simpa using U
  subst e0;refine(Any.slices_Sort_int_none Gp none 0 w).mono λe w' ⟨d,G⟩=> ?_
  subst G;exact⟨d,⟨by simp[srt],Or.inl ⟨rfl,by simp[srt]⟩⟩,⟨rfl,rfl,rfl,Nat.le_refl _,λ_ _ _=>rfl⟩⟩
 ·have ab:cur.toList.take l.length=l.map (Value.int .i64):=by simpa using aa
  refine(Any.slices_Sort_int Gp b 0 cap l w (holds_of_blockI H ab) (lt_of_block H) O).mono λe w' ⟨d,n,os,G⟩=> ?_
  subst G;refine⟨d, ?_,grownBy_sortedI _⟩;have:=ownsRow_sortedI (w:=w) (n:=n) (os:=os) (ss:=l) (ts:=srt l) (uQ l) I H J N Y;rw[uQ];exact this
section
open Go.RowKit
set_option maxRecDepth 100000
def yp (sub:Int) (l:Bk):List Int:=l.filterMap λp=>if p.1.1=sub/\p.2=0 then some p.1.2 else none
def xL (m:Bk) (sub:Int):List Int:=srt (yp sub m)
theorem kV (sub:Int) (l:Bk):(yp sub l).length<=l.length:=List.length_filterMap_le _ _
theorem VB {K V:Type} (L:List (K×V)) (is:List Nat):(zW L is).length<=is.length:=List.length_filterMap_le _ _
theorem Kr (sub:Int) (l:Bk) (p:(Int×Int)×Int):yp sub (l++[p])=yp sub l++(if p.1.1=sub/\p.2=0 then [p.1.2] else []):=by
 unfold yp;rw[List.filterMap_append];by_cases h:p.1.1=sub/\p.2=0<;>simp[h]
theorem Ym {w:World} {B b:Nat} {m:Bk} (h:ju w B b m) (sub:Int) (aB:m.length<=1000000):
  Calls prog 70 #[γ B,ι sub] w λe w'=>(∃v,e= .returned v/\SlI .i64 w' v (xL m sub)/\ ∀q,v.ownBlock=some q->w.heap.size<=q)/\qa w w':=by
 obtain⟨aV,hi,aS,aT,aU⟩:=info_parts (P:=prog) (e:=3) (z:= ι 0) (size:=1) (bytes:=8) ξ;have aX:=β0 h.blk;have aW:=κ h;have aj:=κ aB;obtain⟨w1,bg,av,ar,aQ⟩:=h.map.range (P:=prog) underlying236;have aZ:=h.map.lt;have aI:=κ av;have aF:=κ ar;clear h aB av ar aQ
 go_enter func70,ntmps70
 go_wp2
 go_loopw [5] (λv5 wr=> ∃is:List Nat,xg wr w.heap.size b ke2 (Value.int .i64) m is/\wr.ownsRow (w.heap.size+1) 3 1 v5 (yp sub (zW m is)).length ((yp sub (zW m is)).map (Value.int .i64))/\qa w wr) (λ_ wr=>gF wr b w.heap.size)
 case atStart=>exact⟨[],aI.o,World.ownsRow_nil _ _ _ _,aF.o⟩
 case round=>
  obtain⟨is,O,an,ak⟩:=hrel;have aq:=κ O;have ac:=κ an;have af:=κ ak;have ae:=κ O.left;rcases O.next (P:=prog) with ⟨ax,am⟩ | ⟨i,aN,w2,bd,bb,am,aw,ah,aR,ay⟩
  ·clear O an ak;have ao:=κ ax;clear ax;have aO:(yp sub (zW m is)).length<4611686018427387904:=by
    have H:=kV sub (zW m is);have J:=VB m is;have aY:=ao.o;have aK:=aj.o;omega
   go_wp2_with (go_at_call 116;(go_call Ag ac.o aO as e bj ⟨rfl,U,az⟩;have aG:=κ U;have aD:=κ az;clear U az))
   go_ret;have aP:=aq.o.perm ao.o;have aJ:srt (yp sub (zW m is))=xL m sub:=gR (aP.filterMap _);have U:=aG.o;rw[aJ] at U;refine⟨⟨_,rfl,SlI.of_owns U ?_,λq Y=>by have:=j8 ac.o Y;omega⟩,af.o.grown aD.o af.o.size ?_⟩
   ·have H:=kV sub m;have J:(xL m sub).length=(yp sub m).length:=uQ _;have aK:=aj.o;omega
   ·intro q Y;have:=j8 ac.o Y;omega
  ·have be:=kV sub (zW m is);have bf:=VB m is;have aA:=QF (L:=m) (is:=is) aN;have d:=Kr sub (zW m is) m[i];rw[<-aA] at d;have ba:=aj.o;have bc:is.length<1000000:=by omega
   clear O an ak aA;generalize m[i]=p at *;obtain⟨⟨aa,ad⟩,f⟩:=p;unfold ke2 at am ay;simp only at am ay d;have G:=κ (YI ac.o ah (λk ai=>by subst ai;exact Nat.lt_succ_self _));have I:=κ (aw.more (qa.alloc w2 (.cells #[ι aa,ι ad] 169)));have au:qa w w2:=qg.to_more af.o ah (λk ai=>by subst ai;exact Nat.le_refl _);have ab:=κ au;have bh:w.heap.size+1<=w2.heap.size:=by have:=lt_of_block (aq.o.rlt |> λh=>(Array.getElem?_eq_getElem h));omega
   clear aw ah au aR;by_cases H:aa=sub
   ·by_cases J:f=0
    ·subst H J;rw[if_pos ⟨rfl,rfl⟩] at d;have N:=κ d;clear d
     go_wp2_with (at_builtin;refine qK _ rfl (.tmp 26) (.tmp 29) 107 rfl (w.heap.size+1) 3 aV (ι 0) 8 underlying107 hi aS aT aU rfl _ .i64 (yp aa (zW m is)) rfl ((G.o.alloc _).alloc _) _ [ad] rfl (SlI.lit .i64 (w2.alloc (.cells #[ι aa,ι ad] 169)) [ad] 3 _ 1 _ η rfl η η) (by simp;omega) ζ (by simp;omega) ?_;intro bi w6 aC ag _;have aH:=κ aC;have ap:=κ (qg.of_grown ag);have aE:=κ ag;clear aC ag)
     go_roundw
     case rel=>
      refine⟨is++[i],(I.o.more (qa.alloc _ _)).away ap.o ?_ ?_, ?_, ?_⟩
      ·intro e;have:=j8 G.o e;omega
      ·intro e;have:=j8 G.o e;omega
      ·rw[N.o];exact aH.o
      ·exact(((ab.o.al _).al _).grown aE.o ((ab.o.al _).al _).size (λq Y=>by have:=j8 G.o Y;omega))
     case measure=>
      have aL:=(I.o.more (qa.alloc _ _)).away ap.o (λe=>by have:=j8 G.o e;omega) (λe=>by have:=j8 G.o e;omega);rw[ae.o,aL.left];simp;omega
    ·have aM:(f==0)=false:=by simpa using J
     rw[if_neg (λh=>J h.2),List.append_nil] at d;have N:=κ d;clear d J;subst H;go_wp2;go_roundw
     case rel=>exact⟨is++[i],I.o,by rw[N.o];exact G.o.alloc _,ab.o.al _⟩
     case measure=>
      rw[ae.o,I.o.left];simp;omega
   ·have aM:(aa==sub)=false:=by simpa using H
    rw[if_neg (λh=>H h.1),List.append_nil] at d;have N:=κ d;clear d H;go_wp2;go_roundw
    case rel=>exact⟨is++[i],I.o,by rw[N.o];exact G.o.alloc _,ab.o.al _⟩
    case measure=>
     rw[ae.o,I.o.left];simp;omega
end
section
open Go.RowKit
set_option maxRecDepth 100000
def vQ (m:Bk) (sub f:Int):Bk:=m.map λp=>if p.1.1=sub/\p.2=0 then (p.1,f) else p
def GE (m:Bk) (sub f:Int):Bk×List Int:=if 1<=f/\f<=8 then (vQ m sub f,xL m sub) else (m,[])
def Yt (m:Bk) (sub f:Int) (ps:List Int):Bk:=ps.foldl (λm p=>qw m (sub,p) f) m
theorem Dk (m:Bk) (sub f:Int) (ps:List Int) (p:Int):Yt m sub f (ps++[p])=qw (Yt m sub f ps) (sub,p) f:=by simp[Yt,List.foldl_append]
theorem VN {k:Int×Int} {f:Int}: ∀{m:Bk},(m.map Prod.fst).Nodup->k∈m.map Prod.fst->qw m k f=m.map λp=>if p.1=k then (p.1,f) else p
 | [],_,h=>by simp at h
 | (a,b)::l,hn,h=>by
  simp only[List.map_cons,List.nodup_cons] at hn;unfold qw;by_cases e:k=a
  ·subst e;rw[if_pos rfl];simp only[List.map_cons,if_pos]
   congr 1
   symm;have: ∀p∈l,(if p.1=k then (p.1,f) else p)=p:=λp d=>by
    rw[if_neg];intro e;exact hn.1 (by rw[<-e];exact List.mem_map_of_mem d)
   calc l.map (λp=>if p.1=k then (p.1,f) else p)=l.map id:=List.map_congr_left this
    _=l:=by simp
  ·rw[if_neg e];simp only[List.map_cons];rw[if_neg (λh=>e h.symm)]
   congr 1
   exact VN hn.2 (by simp[e] at h;simpa using h)
theorem V9 (sub f:Int): ∀(ps:List Int) (m:Bk),(m.map Prod.fst).Nodup->(∀p∈ps,(sub,p)∈m.map Prod.fst)->Yt m sub f ps=m.map λp=>if p.1.1=sub/\p.1.2∈ps then (p.1,f) else p
 | [],m,_,_=>by simp[Yt]
 | p::ps,m,hn,hk=>by
  have d:=VN (f:=f) hn (hk p List.mem_cons_self);have e:Yt m sub f (p::ps)=Yt (qw m (sub,p) f) sub f ps:=rfl;have G:(qw m (sub,p) f).map Prod.fst=m.map Prod.fst:=by
   rw[d,List.map_map];refine List.map_congr_left λq _=> ?_
   simp only[Function.comp];split<;>rfl
  rw[e,V9 sub f ps _ (by rw[G];exact hn) (λq H=>by rw[G];exact hk q (List.mem_cons_of_mem _ H)),d,List.map_map];refine List.map_congr_left λq _=> ?_
  obtain⟨⟨a,c⟩,g⟩:=q;simp only[Function.comp];by_cases ea:a=sub
  ·subst ea;by_cases ec:c=p
   ·subst ec;simp
   ·simp[ec]
  ·simp[ea]
theorem pendB_mem {m:Bk} {sub x:Int}:x∈xL m sub↔((sub,x),0)∈m:=by
 unfold xL yp;rw[EU,List.mem_filterMap];constructor
 ·rintro⟨⟨⟨a,c⟩,g⟩,d,h⟩;by_cases e:a=sub/\g=0
  ·rw[if_pos e] at h;cases h;obtain⟨rfl,rfl⟩:=e;exact d
  ·rw[if_neg e] at h;cases h
 ·intro h;exact⟨_,h,η⟩
theorem PD {m:Bk} (d:(m.map Prod.fst).Nodup) {k:Int×Int} {f g:Int} (G:(k,f)∈m) (H:(k,g)∈m):f=g:=by
 induction m with
 | nil=>cases G
 | cons p l ih=>
  simp only[List.map_cons,List.nodup_cons] at d;rcases List.mem_cons.1 G with e1 | h1'<;>rcases List.mem_cons.1 H with e2 | h2'
  ·rw[<-e1] at e2;cases e2;rfl
  ·exfalso;apply d.1;rw[<-e1];exact List.mem_map.2 ⟨_,h2',rfl⟩
  ·exfalso;apply d.1;rw[<-e2];exact List.mem_map.2 ⟨_,h1',rfl⟩
  ·exact ih d.2 h1' h2'
theorem Dl {m:Bk} (sub f:Int) (d:(m.map Prod.fst).Nodup):Yt m sub f (xL m sub)=vQ m sub f:=by
 rw[V9 sub f _ m d (λp H=>List.mem_map_of_mem (f:=Prod.fst) (pendB_mem.1 H))];unfold vQ;refine List.map_congr_left λq G=> ?_
 obtain⟨⟨a,c⟩,g⟩:=q;simp only;by_cases e:a=sub
 ·subst e;by_cases eg:g=0
  ·subst eg;rw[if_pos ⟨rfl,pendB_mem.2 G⟩,if_pos ⟨rfl,rfl⟩]
  ·rw[if_neg (λh=>eg (PD d G (pendB_mem.1 h.2))),if_neg (λh=>eg h.2)]
 ·rw[if_neg (λh=>e h.1),if_neg (λh=>e h.1)]
theorem SlI.onmap {K V:Type} {k:IntKind} {w w':World} {b:Nat} {v:Value} {l:List Int} {ke:K->Value} {ac:V->Value} {L:List (K×V)} (h:SlI k w v l) (Y:jh w b ke ac L) (a:qg (λx=>x=b) w w'):SlI k w' v l:=by
 obtain⟨ab,cap,I,J,N,O⟩:=h;refine⟨ab,cap,I,J,λi hi=> ?_,O⟩;obtain⟨c,H,e,d,G⟩:=N i hi;have aa: ¬c=b:=by
  rintro rfl;obtain⟨ae,ad,U,_⟩:=Y.ex;simp[World.cell?,U] at G
 exact⟨c,H,e,Nat.lt_of_lt_of_le d a.size,by rw[a.cells c (H+i) d aa];exact G⟩
theorem Cv {m:Bk} (k:Int×Int) (f:Int):(qw m k f).length<=m.length+1:=by
 induction m with
 | nil=>simp[qw]
 | cons p l ih=>
  unfold qw;split<;>simp<;>omega
theorem ND {w:World} {B b:Nat} {m:Bk} (h:ju w B b m) (sub f:Int) (au:m.length<=1000000):
  Calls prog 107 #[γ B,ι sub,ι f] w λe w'=>(∃v,e= .returned v/\SlI .i64 w' v (GE m sub f).2/\ ∀q,v.ownBlock=some q->w.heap.size<=q)/\ju w' B b (GE m sub f).1/\qg (λx=>x=b) w w':=by
 by_cases hf:1<=f/\f<=8
 ·have H:=κ hf;have J:=κ h;have G:GE m sub f=(vQ m sub f,xL m sub):=by unfold GE;rw[if_pos hf]
  have O:=κ G;have aD:(xL m sub).length<=1000000:=by
   have ay:=kV sub m;have az:(xL m sub).length=(yp sub m).length:=uQ _;omega
  clear h G hf
  go_enter func107,ntmps107
  go_wp2_with first | (go_at_call 166;(go_call yP f _ H.o as e w2 ⟨rfl,rfl⟩)) | (go_at_call 70;(go_call Ym J.o sub au as e aG ⟨⟨v3,rfl,s3,ak⟩,aj⟩;have ao:=κ s3;have ac:=κ aj;obtain⟨aw,av,rfl,_⟩:=s3;have an:=κ ak;clear aj ak))
  go_loopw [18] (λi wr=> ∃j:Nat,j<=(xL m sub).length/\i= ι j/\ju wr B b (Yt m sub f ((xL m sub).take j))/\SlI .i64 wr (δ aw (xL m sub).length av) (xL m sub)/\qg (λx=>x=b) w wr) (λi _=>(xL m sub).length-(intOf i).toNat)
  case atStart=>exact⟨0,τ,rfl,J.o.more ac.o,ao.o,qg.of_more ac.o⟩
  case round=>
   obtain⟨j,aA,rfl,d,Y,U⟩:=hrel;have N:=κ d;have ab:=κ Y;have aa:=κ U;have ax:=β0 d.blk;by_cases hlt:j<(xL m sub).length
   ·obtain⟨aE,cap,ap,_,ad,_⟩:=Y;cases ap;obtain⟨pb,aF,rfl,aC,aq⟩:=ad j hlt;have aB:(j:Int)<((xL m sub).length:Int):=by omega
    have af:(xL m sub).getD j 0=(xL m sub)[j]:=by simp[hlt]
    rw[af] at aq;have ai:(xL m sub).take (j+1)=(xL m sub).take j++[(xL m sub)[j]]:=List.take_succ_eq_append_getElem hlt;have am:=κ ai;clear ad af ai;generalize (xL m sub)[j]=p at *;obtain⟨w4,ah,ag,ae,_⟩:=d.map.update YC underlying236 (sub,p) f;unfold ke2 at ah;simp only at ah;have al:=κ ag;have I:=κ ae;clear d U ag ae;go_wp2;go_roundw
    case rel=>
     refine⟨j+1,τ,by go_num, ?_,ab.o.onmap N.o.map I.o,aa.o.trans I.o⟩;rw[am.o,Dk];exact N.o.put I.o (by have:=H.o;omega) al.o
    case measure=>simp[intOf];omega
   ·obtain rfl:j=(xL m sub).length:=by omega
    clear d Y U;go_wp2;go_ret;rw[O.o];have d:=N.o;rw[List.take_length,Dl sub f J.o.map.keys] at d;exact⟨⟨_,rfl,ab.o,an.o⟩,d,aa.o⟩
 ·have G:GE m sub f=(m,[]):=by unfold GE;rw[if_neg hf]
  have O:=κ G;have H:=κ hf;clear G hf
  go_enter func107,ntmps107
  go_wp2_with (go_at_call 166;(go_call Jp f _ H.o as e w2 ⟨rfl,rfl⟩))
  go_ret;rw[O.o];exact⟨⟨_,rfl,SlI.nil _ _,λq ar=>by cases ar⟩,h,qg.refl _ _⟩
end
section
open Go.RowKit
set_option maxRecDepth 100000
def yZ (pr:Sb->Bool) (u:List (Int×Sb)):List Int:=u.filterMap λp=>if pr p.2 then some p.1 else none
def ut (pr:Sb->Bool) (u:List (Int×Sb)):List Int:=srt (yZ pr u)
def ya (own:Int) (x:Sb):Bool:=decide (x.1=own)
def j5 (pub:Int) (x:Sb):Bool:=x.2.1&&decide (x.2.2=pub)
theorem kp (d:Sb->Bool) (u:List (Int×Sb)):(yZ d u).length<=u.length:=List.length_filterMap_le _ _
theorem uV {K V:Type} (L:List (K×V)) (is:List Nat):(zW L is).length<=is.length:=List.length_filterMap_le _ _
theorem ZH (d:Sb->Bool) (u:List (Int×Sb)) (p:Int×Sb):yZ d (u++[p])=yZ d u++(if d p.2 then [p.1] else []):=by
 unfold yZ;rw[List.filterMap_append];by_cases h:d p.2=true<;>simp[h]
theorem Ig {w:World} {C:Nat} (d:Int) (x:Sb) (G:w.cell? ⟨C,0,none⟩=some (ω d)) (I:C<w.heap.size):
  Calls prog 243 #[θ #[ω x.1,x.2.1,ι x.2.2],γ C] w λe w'=>e= .returned (μ (ya d x))/\qa w w':=by
 have H:=(qa.alloc w (.cells #[ω x.1,x.2.1,ι x.2.2] 298)).cells C 0 I;rw[G] at H
 go_enter func243,ntmps243
 go_wp2;go_ret;exact⟨jf (by unfold ya;rw[Bool.eq_iff_iff];simp),qa.alloc _ _⟩
theorem If {w:World} {C:Nat} (d:Int) (x:Sb) (J:w.cell? ⟨C,0,none⟩=some (ι d)) (N:C<w.heap.size):
  Calls prog 204 #[θ #[ω x.1,x.2.1,ι x.2.2],γ C] w λe w'=>e= .returned (μ (j5 d x))/\qa w w':=by
 have H:=(qa.alloc w (.cells #[ω x.1,x.2.1,ι x.2.2] 298)).cells C 0 N;rw[J] at H;cases hb:x.2.1 with
 | false=>
  have G:j5 d x=false:=by unfold j5;rw[hb];rfl
  rw[hb] at H
  go_enter func204,ntmps204
  go_wp2;go_ret;exact⟨jf G.symm,qa.alloc _ _⟩
 | true=>
  have G:j5 d x=decide (x.2.2=d):=by unfold j5;rw[hb];rfl
  rw[hb] at H;have I:=κ G;clear G
  go_enter func204,ntmps204
  go_wp2;go_ret;exact⟨jf (by rw[I.o,Bool.eq_iff_iff];simp),qa.alloc _ _⟩
theorem Ψ7 {P:Prop} (h:P:=by
 obtain⟨bb,hi,aY,aZ,ba⟩:=info_parts (P:=prog) (e:=3) (z:= ι 0) (size:=1) (bytes:=8) ξ;have c2:=β2 h.blk;have aG:=κ aw;have ai:=κ aE;obtain⟨w1,bk,ay,ax,aV⟩:=h.mu.range (P:=prog) underlying240;have bd:=h.mu.lt;have aM:=κ ay;have aJ:=κ ax;clear h aE ay ax aV aw;generalize aX:t.u=u at *;clear aX
 go_enter func203,ntmps203
 go_wp2
 go_loopw [5] (λv5 wr=> ∃is:List Nat,xg wr w.heap.size c (Value.int .i64) vS u is/\wr.ownsRow (w.heap.size+1) 3 1 v5 (yZ (Ξa v0) (zW u is)).length ((yZ (Ξa v0) (zW u is)).map (Value.int .i64))/\qa w wr) (λ_ wr=>gF wr c w.heap.size)
 case atStart=>exact⟨[],aM.o,World.ownsRow_nil _ _ _ _,aJ.o⟩
 case round=>
  obtain⟨is,J,am,aj⟩:=hrel;have au:=κ J;have aa:=κ am;have ab:=κ aj;have aq:=κ J.left;rcases J.next (P:=prog) with ⟨aA,ak⟩ | ⟨i,aS,w2,bh,bf,ak,az,ag,aW,aB⟩
  ·clear J am aj;have ao:=κ aA;clear aA;have aT:(yZ (Ξa v0) (zW u is)).length<4611686018427387904:=by
    have aO:=kp (Ξa v0) (zW u is);have aP:=uV u is;have bc:=ao.o;have aQ:=ai.o;omega
   go_wp2_with (go_at_call 116;(go_call Ag aa.o aT as e bn ⟨rfl,N,aC⟩;have aK:=κ N;have aH:=κ aC;clear N aC))
   go_ret;have aU:=au.o.perm ao.o;have aN:srt (yZ (Ξa v0) (zW u is))=ut (Ξa v0) u:=gR (aU.filterMap _);have N:=aK.o;rw[aN] at N;refine⟨⟨_,rfl,SlI.of_owns N ?_,λq O=>by have:=j8 aa.o O;omega⟩,ab.o.grown aH.o ab.o.size ?_⟩
   ·have aO:=kp (Ξa v0) u;have aP:(ut (Ξa v0) u).length=(yZ (Ξa v0) u).length:=uQ _;have aQ:=ai.o;omega
   ·intro q O;have:=j8 aa.o O;omega
  ·have bi:=kp (Ξa v0) (zW u is);have bj:=uV u is;have aD:=QF (L:=u) (is:=is) aS;have G:=ZH (Ξa v0) (zW u is) u[i];rw[<-aD] at G;have be:=ai.o;have bg:is.length<1000000:=by omega
   clear J am aj aD;generalize u[i]=p at *;obtain⟨k,x⟩:=p;unfold vS at ak aB;simp only at ak aB G;have H:=κ (YI aa.o ag (λz an=>by subst an;exact Nat.lt_succ_self _));have av:=κ (az.more (qa.alloc w2 (.cells #[ω x.1,x.2.1,ι x.2.2] 298)));have ah:qa w w2:=qg.to_more ab.o ag (λz an=>by subst an;exact Nat.le_refl _);have ar:=κ ah;have bl:w.heap.size+1<=w2.heap.size:=by have:=au.o.rlt;omega
   have U:=κ (qq (qc ah aG.o) (.cells #[ω x.1,x.2.1,ι x.2.2] 298));clear az ag ah aW;cases hpr:Ξa v0 x with
   | true=>
    rw[hpr,if_pos rfl] at G;have ad:=κ G;have ae:=κ hpr;clear G hpr
    go_wp2_with first | (((with_reducible refine(Ξb v0 x (qb U.o 0 rfl) (ql U.o)).mono ?_);rintro e w4 ⟨rfl,d⟩;rw[ae.o];have I:=κ (av.o.more d);have ac:=κ (jy (H.o.alloc (.cells #[ω x.1,x.2.1,ι x.2.2] 298)) d);have Y:=κ ((ar.o.al (.cells #[ω x.1,x.2.1,ι x.2.2] 298)).trans d);have z4:w.heap.size+1<=w4.heap.size:=Nat.le_trans (by simp;omega) d.size;clear d)) | (at_builtin;refine qK _ rfl (.tmp 21) (.tmp 23) 107 rfl (w.heap.size+1) 3 bb (ι 0) 8 underlying107 hi aY aZ ba rfl _ .i64 (yZ (Ξa v0) (zW u is)) rfl (ac.o.alloc _) _ [k] rfl (SlI.lit .i64 w4 [k] 3 _ 1 _ η rfl rfl η) (by simp;omega) ζ (by simp;omega) ?_;intro bm w6 aF af _;have aL:=κ aF;have ap:=κ (qg.of_grown af);have aI:=κ af;clear aF af)
    go_roundw
    case rel=>
     refine⟨is++[i],(I.o.more (qa.alloc _ _)).away ap.o ?_ ?_, ?_, ?_⟩
     ·intro e;have:=j8 H.o e;omega
     ·intro e;have:=j8 H.o e;omega
     ·rw[ad.o];exact aL.o
     ·exact((Y.o.al _).grown aI.o (Y.o.al _).size (λq O=>by have:=j8 H.o O;omega))
    case measure=>
     have aR:=(I.o.more (qa.alloc _ _)).away ap.o (λe=>by have:=j8 H.o e;omega) (λe=>by have:=j8 H.o e;omega);rw[aq.o,aR.left];simp;omega
   | false=>
    rw[hpr,if_neg η,List.append_nil] at G;have ad:=κ G;have ae:=κ hpr;clear G hpr
    go_wp2_with (((with_reducible refine(Ξb v0 x (qb U.o 0 rfl) (ql U.o)).mono ?_);rintro e w4 ⟨rfl,d⟩;rw[ae.o];have I:=κ (av.o.more d);have ac:=κ (jy (H.o.alloc (.cells #[ω x.1,x.2.1,ι x.2.2] 298)) d);have Y:=κ ((ar.o.al (.cells #[ω x.1,x.2.1,ι x.2.2] 298)).trans d);clear d))
    go_roundw
    case rel=>exact⟨is++[i],I.o,by rw[ad.o];exact ac.o,Y.o⟩
    case measure=>
     rw[aq.o,I.o.left];simp;omega):P:=h
section
open _root_.Go.Proofs.YtlmllmonabafjaaGreatDoor renaming ya->Ξa,Ig->Ξb
theorem KD {w:World} {T a b c C:Nat} {t:TS} (h:jo w T a b c t) (v0:Int) (aw:w.heap[C]? =some (.cells #[ω v0] 38 (0,0))) (aE:t.u.length<=1000000):
  Calls prog 203 #[γ T,.func (.func 243) #[] #[γ C]] w λe w'=>(∃v,e= .returned v/\SlI .i64 w' v (ut (ya v0) t.u)/\ ∀q,v.ownBlock=some q->w.heap.size<=q)/\qa w w':=Ψ7
end
section
open _root_.Go.Proofs.YtlmllmonabafjaaGreatDoor renaming j5->Ξa,If->Ξb
theorem DC {w:World} {T a b c C:Nat} {t:TS} (h:jo w T a b c t) (v0:Int) (aw:w.heap[C]? =some (.cells #[ι v0] 3 (0,0))) (aE:t.u.length<=1000000):
  Calls prog 203 #[γ T,.func (.func 204) #[] #[γ C]] w λe w'=>(∃v,e= .returned v/\SlI .i64 w' v (ut (j5 v0) t.u)/\ ∀q,v.ownBlock=some q->w.heap.size<=q)/\qa w w':=Ψ7
end
end
section
open Go.RowKit
set_option maxRecDepth 100000
def Gw (x:Int) (l:List Int) (w:World) (e:Ending) (w':World):Prop:= ∃n:Int,(0<=n↔x∈l)/\ -1<=n/\e= .returned (.int .i64 n)/\w=w'
theorem Ψ8 {P:Prop} (h:P:=by
 obtain⟨af,cap,rfl,ae,H,_⟩:=s
 go_enter Ξa,Ξb
 go_wp2
 go_loop [8] (λi=> ∃k:Nat,k<=l.length/\i= ι k/\x∉l.take k) (λi=>l.length-(intOf i).toNat)
 case atStart=>exact⟨0,τ,rfl,η⟩
 case round=>
  obtain⟨k,ac,rfl,d⟩:=hrel;by_cases hlt:k<l.length
  ·obtain⟨b,ag,rfl,ab,U⟩:=H k hlt;have ad:(k:Int)<(l.length:Int):=by omega
   have I:l.getD k 0=l[k]:=by simp[hlt]
   rw[I] at U;have J:l.take (k+1)=l.take k++[l[k]]:=List.take_succ_eq_append_getElem hlt;have Y:l[k]∈l:=List.getElem_mem hlt;have O:=κ J;have G:=κ d;clear H I J d;generalize l[k]=y at *;by_cases e:x=y
   ·subst e;go_wp2;go_ret;exact⟨k,⟨λ_=>Y,λ_=>by omega⟩,τ,rfl,rfl⟩
   ·have aa:(x==y)=false:=by simpa using e
    have N:=κ e;clear e;go_wp2
    go_round
    case rel=>exact⟨k+1,τ,by go_num,by rw[O.o];simp;exact⟨G.o,N.o⟩⟩
    case measure=>simp[intOf];omega
  ·obtain rfl:k=l.length:=by omega
   clear H;have G:=κ d;clear d;go_wp2;go_ret;refine⟨-1,⟨λh=>by omega,λh=> ?_⟩,τ,rfl,rfl⟩;have:=G.o;rw[List.take_length] at this;exact absurd h this):P:=h
section
open _root_.Go.Proofs.Tryz renaming func219->Ξa,ntmps219->Ξb
theorem LV {w:World} {v:Value} {l:List Int} (x:Int) (s:SlI .u32 w v l):Calls prog 219 #[v,ω x] w (Gw x l w):=Ψ8
end
theorem Yl {w:World} {v:Value} {l:List Int} (x:Int) (s:SlI .u32 w v l):Calls prog 164 #[v,ω x] w λe w'=>e= .returned (μ (decide (x∈l)))/\w=w':=by
 go_enter func164,ntmps164
 go_wp2_with (go_at_call 219;(go_call LV x s as e w2 ⟨n,d,H,rfl,rfl⟩;have G:=κ d;clear d))
 go_ret;exact⟨jf (by rw[Bool.eq_iff_iff];simp only[decide_eq_true_eq];exact G.o),rfl⟩
def oAt (o:List (Int×Og)) (p s0 s1 s2:Int):Nat->List (Int×Og)
 | 0=>o
 | 1=>qw o s0 (p,0)
 | 2=>qw (qw o s0 (p,0)) s1 (p,1)
 | _=>qw (qw (qw o s0 (p,0)) s1 (p,1)) s2 (p,2)
def sAt (s:List (Og×Int)) (p s0 s1 s2:Int):Nat->List (Og×Int)
 | 0=>s
 | 1=>qw s (p,0) s0
 | 2=>qw (qw s (p,0) s0) (p,1) s1
 | _=>qw (qw (qw s (p,0) s0) (p,1) s1) (p,2) s2
theorem Co (o:List (Int×Og)) (p s0 s1 s2:Int) (k:Nat) (h:k<3):oAt o p s0 s1 s2 (k+1)=qw (oAt o p s0 s1 s2 k) ([s0,s1,s2].getD k 0) (p,(k:Int)):=by
 have:k=0∨k=1∨k=2:=by omega
 rcases this with rfl | rfl | rfl<;>rfl
theorem Bz (s:List (Og×Int)) (p s0 s1 s2:Int) (k:Nat) (h:k<3):sAt s p s0 s1 s2 (k+1)=qw (sAt s p s0 s1 s2 k) (p,(k:Int)) ([s0,s1,s2].getD k 0):=by
 have:k=0∨k=1∨k=2:=by omega
 rcases this with rfl | rfl | rfl<;>rfl
def KQ (s0 s1 s2:Int):Prop:=s1=s0∨s2=s0∨s2=s1
instance (s0 s1 s2:Int):Decidable (KQ s0 s1 s2):=by unfold KQ;exact inferInstance
def vD (t:TS) (p s0 s1 s2:Int):TS×Int:=if 0<=p/\p<3 then (if KQ s0 s1 s2 then (t,1) else if (qh t.s (p,0)).isSome then (t,6) else if (qh t.o s0).isSome∨(qh t.o s1).isSome∨(qh t.o s2).isSome then (t,6)
 else ({t with o:=oAt t.o p s0 s1 s2 3,s:=sAt t.s p s0 s1 s2 3},0)) else (t,1)
theorem Lm {s0 s1 s2:Int} {k:Nat} (h:k<3) (d:[s0,s1,s2].getD k 0∈[s0,s1,s2].take k):KQ s0 s1 s2:=by
 have:k=0∨k=1∨k=2:=by omega
 unfold KQ;rcases this with rfl | rfl | rfl<;>simp at d<;>omega
theorem Ll {s0 s1 s2:Int} (h: ∀k,k<3->[s0,s1,s2].getD k 0∉[s0,s1,s2].take k): ¬KQ s0 s1 s2:=by
 have d:=h 1 τ;have G:=h 2 τ;simp at d G;unfold KQ;omega
theorem Om {p:Int->Prop} {s0 s1 s2:Int} {k:Nat} (h:k<3) (d:p ([s0,s1,s2].getD k 0)):p s0∨p s1∨p s2:=by
 have:k=0∨k=1∨k=2:=by omega
 rcases this with rfl | rfl | rfl
 ·exact Or.inl d
 ·exact Or.inr (Or.inl d)
 ·exact Or.inr (Or.inr d)
theorem Oo {p:Int->Prop} {s0 s1 s2:Int} (h: ∀k,k<3-> ¬p ([s0,s1,s2].getD k 0)): ¬(p s0∨p s1∨p s2):=by
 rintro(a | a | a)
 ·exact h 0 τ a
 ·exact h 1 τ a
 ·exact h 2 τ a
theorem Iw (s0 s1 s2:Int) (k:Nat) (h:k<3) (w:World):(Instr.index 40 (θ #[ω s0,ω s1,ω s2]) (ι (k:Int))).run prog w= .ok (ω ([s0,s1,s2].getD k 0)) w:=by
 have:k=0∨k=1∨k=2:=by omega
 rcases this with rfl | rfl | rfl
 all_goals first | rfl | simp[go_sem]
theorem sl3 (C k:Nat) (H:k<=3) (w:World):(Instr.sliceAt 40 (γ C) none (some (ι (k:Int))) none).run prog w= .ok (δ (some ⟨C,0,none⟩) k 3) w:=by
 have d:prog.arrayLen 40=3:=by kernel_rfl
 have G:(sizeOf (prog.elem 40)).run prog w= .ok 1 w:=by kernel_rfl
 rw[run_sliceAt_array_h w 40 ⟨C,0,none⟩ ξ .i64 (k:Int) τ (by rw[d];omega),G,d];simp[slicedAt,Addr.add]
theorem NQ {w:World} {C:Nat} {s0 s1 s2:Int} (h:w.heap[C]? =some (.cells #[ω s0,ω s1,ω s2] 40 (0,0))) (k:Nat) (G:k<=3):SlI .u32 w (δ (some ⟨C,0,none⟩) k 3) ([s0,s1,s2].take k):=by
 have d:([s0,s1,s2].take k).length=k:=by simp;omega
 refine⟨some ⟨C,0,none⟩,3,by rw[d],by rw[d];omega,λi hi=> ?_,by rw[d];exact G,by unfold maxLen;omega,λh=>by cases h⟩;rw[d] at hi;refine⟨C,0,rfl,ql h,qb h _ ?_⟩;have:i=0∨i=1∨i=2:=by omega
 rcases this with rfl | rfl | rfl
 ·have:([s0,s1,s2].take k).getD 0 0=s0:=by rw[List.getD_eq_getElem?_getD,List.getElem?_take_of_lt τ];rfl
  rw[this];rfl
 ·have:([s0,s1,s2].take k).getD 1 0=s1:=by rw[List.getD_eq_getElem?_getD,List.getElem?_take_of_lt τ];rfl
  rw[this];rfl
 ·have:([s0,s1,s2].take k).getD 2 0=s2:=by rw[List.getD_eq_getElem?_getD,List.getElem?_take_of_lt τ];rfl
  rw[this];rfl
def kP (r:TS×Int) (T a b c:Nat) (w:World) (e:Ending) (w':World):Prop:=e= .returned (.int .i64 r.2)/\jo w' T a b c r.1/\qg (λz=>z=a∨z=b) w w'
theorem DL {w:World} {T a b c:Nat} {t:TS} (h:jo w T a b c t) (p s0 s1 s2:Int):
    Calls prog 104 #[γ T,ι p,θ #[ω s0,ω s1,ω s2]] w (kP (vD t p s0 s1 s2) T a b c w):=by
  by_cases hp:0<=p/\p<3
  · have I:=κ hp
    have G:=κ h
    have aE:=qk w (.cells #[ω s0,ω s1,ω s2] 40)
    have aA:=κ aE
    clear hp h aE
    go_enter func104,ntmps104
    go_wp2_with (go_at_call 163;(go_call vB p _ I.o as e w2 ⟨rfl,rfl⟩))
    go_loop [20] (λi=> ∃k:Nat,k<=3/\i= ι k/\ ∀j,j<k->[s0,s1,s2].getD j 0∉[s0,s1,s2].take j) (λi=>3-(intOf i).toNat)
    case atStart=>exact⟨0,τ,rfl,λj ar=>by omega⟩
    case round=>
      obtain⟨k,aJ,rfl,aa⟩:=hrel
      have H:=κ aa
      clear aa
      by_cases hk3:k<3
      · have aK:(k:Int)<3:=by omega
        have aI:=λw=>Iw s0 s1 s2 k hk3 w
        have aB:=κ (NQ aA.o k τ)
        have bc:=λw'=>sl3 w.heap.size k τ w'
        have aO:=κ (Lm (s0:=s0) (s1:=s1) (s2:=s2) hk3)
        have ah:Hid (∀y,[s0,s1,s2].getD k 0=y->y∉[s0,s1,s2].take k-> ∀j,j<k+1->[s0,s1,s2].getD j 0∉[s0,s1,s2].take j):=κ (λy e au j ar=>by
          subst e
          by_cases e:j<k
          · exact H.o j e
          · obtain rfl:j=k:=by omega
            exact au)
        generalize ay:[s0,s1,s2].getD k 0=y at *
        clear ay
        by_cases J:y∈[s0,s1,s2].take k
        · have U:=κ J
          clear J
          go_wp2_with (go_at_call 164;(go_call Yl y aB.o as e w2 ⟨rfl,rfl⟩;rw[decide_eq_true U.o]))
          go_ret
          have d:vD t p s0 s1 s2=(t,1):=by unfold vD;rw[if_pos I.o,if_pos (aO.o U.o)]
          unfold kP
          rw[d]
          exact⟨rfl,G.o.more (qa.alloc _ _),qg.of_more (qa.alloc _ _)⟩
        · have U:=κ J
          clear J
          go_wp2_with (go_at_call 164;(go_call Yl y aB.o as e w2 ⟨rfl,rfl⟩;rw[decide_eq_false U.o]))
          go_round
          case rel=>exact⟨k+1,τ,by go_num,ah.o y rfl U.o⟩
          case measure=>simp[intOf];omega
      · obtain rfl:k=3:=by omega
        have ag:=κ (Ll H.o)
        clear H
        cases hps:(qh t.s (p,0)).isSome with
        | true=>
          have O:=κ hps
          clear hps
          go_wp2_with (go_at_call 165;(go_call yC (G.o.more (qa.alloc w (.cells #[ω s0,ω s1,ω s2] 40))) p as e w2 ⟨rfl,rfl⟩;rw[O.o]))
          go_ret
          have d:vD t p s0 s1 s2=(t,6):=by unfold vD;rw[if_pos I.o,if_neg ag.o,if_pos O.o]
          unfold kP
          rw[d]
          exact⟨rfl,G.o.more (qa.alloc _ _),qg.of_more (qa.alloc _ _)⟩
        | false=>
          have O:=κ hps
          clear hps
          go_wp2_with (go_at_call 165;(go_call yC (G.o.more (qa.alloc w (.cells #[ω s0,ω s1,ω s2] 40))) p as e w2 ⟨rfl,rfl⟩;rw[O.o]))
          go_loopw [33] (λi wr=> ∃k:Nat,k<=3/\i= ι k/\(∀j,j<k-> ¬(qh t.o ([s0,s1,s2].getD j 0)).isSome=true)/\qa (w.alloc (.cells #[ω s0,ω s1,ω s2] 40)) wr) (λi _=>3-(intOf i).toNat)
          case atStart=>exact⟨0,τ,rfl,λj ar=>by omega,qa.refl _⟩
          case round=>
            obtain⟨k,aJ,rfl,aa,aM⟩:=hrel
            have H:=κ aa
            have N:=κ aM
            clear aa aM
            by_cases hk3:k<3
            · have aK:(k:Int)<3:=by omega
              have aI:=λw=>Iw s0 s1 s2 k hk3 w
              have ac:=(G.o.more (qa.alloc w _)).more N.o
              have ba:=β0 ac.blk
              have q:=ac.lookO ([s0,s1,s2].getD k 0)
              have ab:=κ (Om (p:=λz=>(qh t.o z).isSome=true) (s0:=s0) (s1:=s1) (s2:=s2) hk3)
              have ah:Hid (∀y,[s0,s1,s2].getD k 0=y-> ¬(qh t.o y).isSome=true-> ∀j,j<k+1-> ¬(qh t.o ([s0,s1,s2].getD j 0)).isSome=true):=κ (λy e au j ar=>by
                subst e
                by_cases e:j<k
                · exact H.o j e
                · obtain rfl:j=k:=by omega
                  exact au)
              have ak:=κ ac
              clear ac
              generalize ay:[s0,s1,s2].getD k 0=y at *
              clear ay
              cases hs:(qh t.o y).isSome with
              | true=>
                rw[hs] at q
                have ai:=κ hs
                clear hs
                go_wp2
                go_ret
                have d:vD t p s0 s1 s2=(t,6):=by
                  unfold vD
                  rw[if_pos I.o,if_neg ag.o,if_neg (by rw[O.o];simp),if_pos]
                  exact ab.o ai.o
                unfold kP
                rw[d]
                exact⟨rfl,ak.o.more (qa.alloc _ _),qg.of_more (((qa.alloc _ _).trans N.o).al _)⟩
              | false=>
                rw[hs] at q
                have ai:=κ hs
                clear hs
                go_wp2
                go_roundw
                case rel=>exact⟨k+1,τ,by go_num,ah.o y rfl (by rw[ai.o];simp),N.o.al _⟩
                case measure=>simp[intOf];omega
            · obtain rfl:k=3:=by omega
              have aQ:=κ (Oo (p:=λz=>(qh t.o z).isSome=true) H.o)
              have ae:=κ (qc N.o aA.o)
              have aW:=β0 ae.o
              have aX:=β1 ae.o
              have aY:=β2 ae.o
              have d:vD t p s0 s1 s2=({t with o:=oAt t.o p s0 s1 s2 3,s:=sAt t.s p s0 s1 s2 3},0):=by
                unfold vD
                rw[if_pos I.o,if_neg ag.o,if_neg (by rw[O.o];simp),if_neg aQ.o]
              have af:=κ d
              have ak:=κ ((G.o.more (qa.alloc w _)).more N.o)
              have aP:=κ (qg.of_more (S:=λz=>z=a∨z=b) ((qa.alloc w (.cells #[ω s0,ω s1,ω s2] 40)).trans N.o))
              clear H d
              go_wp2_with fail
              clear aW aX aY
              go_loopw [48] (λi aN=> ∃k:Nat,k<=3/\i= ι k/\jo aN T a b c {t with o:=oAt t.o p s0 s1 s2 k,s:=sAt t.s p s0 s1 s2 k}/\qg (λz=>z=a∨z=b) w aN) (λi _=>3-(intOf i).toNat)
              case atStart=>exact⟨0,τ,rfl,ak.o,aP.o⟩
              case round=>
                obtain⟨k,aJ,rfl,aG,aH⟩:=hrel
                have aj:=κ aG
                have ab:=κ aH
                clear aG aH
                by_cases hk3:k<3
                · have aK:(k:Int)<3:=by omega
                  have aI:=λw=>Iw s0 s1 s2 k hk3 w
                  have aR:=κ (Co t.o p s0 s1 s2 k hk3)
                  have aS:=κ (Bz t.s p s0 s1 s2 k hk3)
                  generalize [s0,s1,s2].getD k 0=y at *
                  have am:=κ (aj.o.more (qa.alloc wr (.cells #[ι p,ι (k:Int)] 58)))
                  have aZ:=κ (qk wr (.cells #[ι p,ι (k:Int)] 58))
                  have bb:a<wr.heap.size:=aj.o.mo.lt
                  obtain⟨w9,av,J,ad,_⟩:=(am.o.mo.more (qa.drewN _ 1)).update As underlying239 y (p,(k:Int))
                  unfold kO at av
                  simp only at av
                  have an:=κ ((am.o.more (qa.drewN _ 1)).putO ad J)
                  have aF:=κ (ad.blk (qn aZ.o 1) τ)
                  have aU:=κ ad
                  obtain⟨w8,aw,aL,ax,_⟩:=(an.o.ms.more (qa.drewN _ 1)).update YB underlying47 (p,(k:Int)) y
                  unfold kO at aw
                  simp only at aw
                  have aV:=κ ((an.o.more (qa.drewN _ 1)).putS ax aL)
                  have aT:=κ ax
                  clear J ad aL ax
                  go_wp2_with fail
                  have ao: ∀z:qp (wr.alloc (.cells #[ι p,ι (k:Int)] 58)),z.w'.cell? ⟨T,0,none⟩=some (.map (some a)):=λz=>qb (qc z.h am.o.blk) 0 rfl
                  have ap: ∀z:qp (wr.alloc (.cells #[ι p,ι (k:Int)] 58)),z.w'.cell? ⟨wr.heap.size,0,none⟩=some (ι p):=λz=>z.new 0 rfl
                  have aq: ∀z:qp (wr.alloc (.cells #[ι p,ι (k:Int)] 58)),z.w'.cell? ⟨wr.heap.size,1,none⟩=some (ι (k:Int)):=λz=>z.new 1 rfl
                  refine Qn (wr.alloc (.cells #[ι p,ι (k:Int)] 58)) 6 7 [6] ?_
                  refine Qq6 ?_
                  (refine Qe ?_;intro K Y)
                  refine Y _ _ ?_
                  clear Y K
                  refine qv ?_
                  clear ao ap aq av
                  go_wp2_with fail
                  have ao: ∀z:qp w9,z.w'.cell? ⟨T,1,none⟩=some (.map (some b)):=λz=>qb (qc z.h an.o.blk) 1 rfl
                  have ap: ∀z:qp w9,z.w'.cell? ⟨wr.heap.size,0,none⟩=some (ι p):=λz=>qb (qc z.h aF.o) 0 rfl
                  have aq: ∀z:qp w9,z.w'.cell? ⟨wr.heap.size,1,none⟩=some (ι (k:Int)):=λz=>qb (qc z.h aF.o) 1 rfl
                  refine Qn w9 6 7 [6] ?_
                  refine Qq6 ?_
                  (refine Qe ?_;intro K Y)
                  refine Y _ _ ?_
                  clear Y K
                  refine qv ?_
                  clear ao ap aq aw
                  go_wp2
                  go_roundw
                  case rel=>
                    have aC:jo w8 T a b c {t with o:=oAt t.o p s0 s1 s2 (k+1),s:=sAt t.s p s0 s1 s2 (k+1)}:=by rw[aR.o,aS.o];exact aV.o
                    have aD:=(((ab.o.trans (qg.of_more ((qa.alloc _ _).dr 1))).trans (aU.o.mono (λz az=>Or.inl az))).trans (qg.of_more (qa.drewN _ 1))).trans (aT.o.mono (λz az=>Or.inr az))
                    first
                      | exact⟨k+1,τ,by go_num,aC,aD⟩
                      | (repeat apply Exists.intro
                         exact⟨⟨k+1,τ,by go_num,aC,aD⟩,rfl⟩)
                  case measure=>simp[intOf];omega
                · obtain rfl:k=3:=by omega
                  go_wp2
                  go_ret
                  unfold kP
                  rw[af.o]
                  exact⟨rfl,aj.o,ab.o⟩
  · have I:=κ hp
    have G:=κ h
    have d:vD t p s0 s1 s2=(t,1):=by unfold vD;rw[if_neg hp]
    have af:=κ d
    clear hp h d
    go_enter func104,ntmps104
    go_wp2_with (go_at_call 163;(go_call Yi p _ I.o as e w2 ⟨rfl,rfl⟩))
    go_ret
    unfold kP
    rw[af.o]
    exact⟨rfl,G.o.more (qa.alloc _ _),qg.of_more (qa.alloc _ _)⟩
end
section
open Go.RowKit
set_option maxRecDepth 100000
structure GJ where
 wanted:Bool
 any:Bool
 last:Int
 tries:Int
structure zu where
 buf:Jb
 any:Bool
 great:Int
 asks:GJ
 askedOf:Bool
structure AcS where
 o:Og
 num:Int
 pk:Pk
structure RqS where
 o:Og
 at_:Int
 body:List Int
structure CfR where
 room:Int
 hold:Int
 wait:Int
 space:Int
 retry:Int
 most:Int
structure CnR where
 lost:Int
 malf:Int
 strange:Int
 told:Int
 acc:Int
structure RmS where
 cfg:CfR
 closed:Bool
 ret:List (Og×Bool)
 clock:Int
 queue:List (List Int)
 tab:TS
 lanes:List (Int×LnS)
 strs:List (Og×zu)
 pks:List AcS
 reqs:List RqS
 cnt:CnR
 book:Bk
def subIds:List Int:=[0,1,2,3,4,5]
def orgs:List Og:=[(0,0),(0,1),(0,2),(1,0),(1,1),(1,2),(2,0),(2,1),(2,2)]
def prR (pr:Sb->Bool) (u:List (Int×Sb)):List Int:=subIds.filter λx=>match qh u x with
 | some sb=>pr sb
 | none=>false
def RmS.origins (s:RmS):List Og:=orgs.filter λo=>(qh s.strs o).isSome
def RmS.readyAt (s:RmS) (o:Og):Bool:=match qh s.strs o with
 | some t=>jN t.buf s.clock
 | none=>false
def RmS.ready (s:RmS):Option Og:=s.origins.find? s.readyAt
def wQ (l:LnS) (k:Int):Bool:=l.wanted&&(!l.gone&&(!decide (l.cur=l.tgt)&&decide (l.tgt=k)))
def RmS.wants (s:RmS) (o:Og):Bool:=(match qh s.strs o with
 | some t=>t.askedOf
 | none=>false)||(prR (j5 o.1) s.tab.u).any λx=>match qh s.lanes x with
 | some l=>wQ l o.2
 | none=>false
def Zf (retry:Int):Nat->Int->Int
 | 0,g=>g
 | k+1,g=>if g<1∨retry<=g then g else Zf retry k (2* g)
def Yr (space retry tries:Int):Int:=if Zf retry (tries-1).toNat space<=retry then Zf retry (tries-1).toNat space else retry
def uu (a:GJ) (wanted:Bool):Int:=if wanted&&a.wanted then a.tries else 0
def Ib (space retry:Int) (a:GJ) (wanted:Bool) (now:Int):Bool:= !wanted||(a.any&&decide (now-a.last<Yr space retry (uu a wanted)))
def vF (space retry:Int) (a:GJ) (wanted:Bool) (now:Int):GJ×Bool:=
 if Ib space retry a wanted now then (⟨wanted,a.any,a.last,uu a wanted⟩,false) else (⟨wanted,true,now,uu a wanted+1⟩,true)
abbrev Zd (src:Int):qR:=(1,206,qx 0 4++qx src 4,())
def um (src:Int):List Int:=(kg [Zd src]).1
def RmS.request (s:RmS) (o:Og):RmS:={s with reqs:=s.reqs++[⟨o,s.clock,um ((qh s.tab.s o).getD 0)⟩]}
def RmS.tick1 (s:RmS) (o:Og):RmS:=match qh s.strs o with
 | none=>s
 | some t=>if (vF s.cfg.space s.cfg.retry t.asks (s.wants o) s.clock).2
  then {s with strs:=qw s.strs o {t with asks:=(vF s.cfg.space s.cfg.retry t.asks (s.wants o) s.clock).1}}.request o
  else {s with strs:=qw s.strs o {t with asks:=(vF s.cfg.space s.cfg.retry t.asks (s.wants o) s.clock).1}}
def RmS.tick (s:RmS):RmS×Int:=if s.closed then (s,7) else (s.origins.foldl RmS.tick1 {s with clock:=s.clock+1},0)
def yt (subs:List Int):List Og:=(0,0)::(1,0)::(subIds.filter λx=>decide (x∈subs)).flatMap λx=>[(2,x),(3,x),(4,x)]
def RmS.there (s:RmS):List Int:=subIds.filter λx=>(qh s.lanes x).isSome
def RmS.workers (s:RmS):List Og:=yt s.there
def j7 (n:Int):Int:=if n=2 then 1 else if n=3 then 2 else 3
def RmS.mayOpen (s:RmS) (w:Og):Bool:=
 if w.1=0 then decide (0<s.queue.length) else if w.1=1 then s.ready.isSome else match qh s.lanes w.2 with
 | some l=>zp l (j7 w.1)
 | none=>false
def RmS.may (s:RmS) (w:Og):Bool:=decide (w∈s.workers)&&(if s.closed then !((qh s.ret w).getD false) else s.mayOpen w)
def jn (b:Bk) (sub id f:Int):Bk:=if qh b (sub,id)=some 0 then (zg b (sub,id) f).1 else b
def RmS.tell1 (s:RmS) (x:Int):RmS:=match qh s.tab.u x with
 | none=>s
 | some sb=>if sb.2.1 then (match qh s.lanes x with
  | none=>s
  | some l=>if l.wanted&&jc l.cur then (match qh s.strs (sb.2.2,l.cur) with
   | none=>s
   | some t=>{s with strs:=qw s.strs (sb.2.2,l.cur) {t with askedOf:=true}}) else s) else s
def RmS.tellS (s:RmS) (src:Int):RmS:=(prR (ya src) s.tab.u).foldl RmS.tell1 s
def RmS.tell (s:RmS) (b:List Int):RmS:=
 if (zi b).2=0 then (xH (zi b).1).foldl RmS.tellS {s with cnt:={s.cnt with told:=s.cnt.told+1}} else {s with cnt:={s.cnt with malf:=s.cnt.malf+1}}
def GD (near sq:Int):Int:=near+ahd (near%65536) sq
def vP (t:zu) (sq:Int):Int:=if t.any then GD t.great sq else 65536+sq
def Jq (b:Bk) (subs:List Int) (id:Int):Bk:=subs.foldl (λb x=>(vZ b (x,id)).1) b
def xF (b:Bk) (subs:List Int) (id f:Int):Bk:=subs.foldl (λb x=>jn b x id f) b
def vf (e:Int):Int:=if e=10 then 3 else if e=9 then 2 else if e=8 then 6 else 0
def Yo (t:zu) (p:Pk) (clock id:Int):zu:=
 ⟨(jF t.buf (vP t p.sq) clock id).1,true,if t.any=false∨t.great<vP t p.sq then vP t p.sq else t.great,t.asks,if zJ p.pl then false else t.askedOf⟩
def RmS.accept (s:RmS) (o:Og) (p:Pk):RmS:=match qh s.strs o with
 | none=>s
 | some t=>{s with
   strs:=qw s.strs o (Yo t p s.clock s.pks.length)
   pks:=s.pks++[⟨o,vP t p.sq,p⟩]
   cnt:={s.cnt with acc:=s.cnt.acc+1}
   book:=if vf (jF t.buf (vP t p.sq) s.clock s.pks.length).2=0 then Jq s.book (prR (j5 o.1) s.tab.u) s.pks.length
    else xF (Jq s.book (prR (j5 o.1) s.tab.u) s.pks.length) (prR (j5 o.1) s.tab.u) s.pks.length (vf (jF t.buf (vP t p.sq) s.clock s.pks.length).2)}
def DX (b:List Int):Bool:=decide (2<=b.length)&&(decide (192<=b.getD 1 0)&&decide (b.getD 1 0<=223))
def RmS.media (s:RmS) (b:List Int):RmS:=
 if (xk b).2=0 then (match qh s.tab.o (xk b).1.sc with
  | none=>{s with cnt:={s.cnt with strange:=s.cnt.strange+1}}
  | some o=>s.accept o (xk b).1) else {s with cnt:={s.cnt with malf:=s.cnt.malf+1}}
def RmS.read (s:RmS):RmS:=match s.queue with
 | []=>s
 | b::q=>if DX b then {s with queue:=q}.tell b else {s with queue:=q}.media b
def RmS.put1 (x:ItS) (s:RmS) (sub:Int):RmS:=if qh s.book (sub,x.id)=some 0 then (match qh s.lanes sub with
 | none=>s
 | some l=>if (jL l x).2.2.1 then {s with lanes:=qw s.lanes sub (jL l x).1,book:=jn s.book sub (jL l x).2.1 6} else {s with lanes:=qw s.lanes sub (jL l x).1}) else s
def ac0:AcS:=⟨(0,0),0,pk0⟩
def RmS.item (s:RmS) (o:Og) (id:Int):ItS:=⟨id,o.2,zJ (s.pks.getD id.toNat ac0).pk.pl,(s.pks.getD id.toNat ac0).pk⟩
def RmS.orderAt (s:RmS) (o:Og) (t:zu):RmS:=
 subIds.foldl (RmS.put1 (s.item o (zV t.buf s.clock).2.2.1)) {s with strs:=qw s.strs o {t with buf:=(zV t.buf s.clock).1}}
def RmS.order (s:RmS):RmS:=match s.ready with
 | none=>s
 | some o=>(match qh s.strs o with
  | none=>s
  | some t=>s.orderAt o t)
def RmS.choose (s:RmS) (sub:Int):RmS:=match qh s.lanes sub with
 | none=>s
 | some l=>{s with
   lanes:=qw s.lanes sub (qN l).1
   book:=if (qN l).2.2.2&& !decide ((qN l).2.2.1=0) then jn s.book sub (qN l).2.1 (qN l).2.2.1 else s.book}
def RmS.rewrite (s:RmS) (sub:Int):RmS:=match qh s.lanes sub with
 | none=>s
 | some l=>{s with
   lanes:=qw s.lanes sub (qL l).1
   book:=if (qL l).2.2.2&&(qL l).2.2.1 then jn s.book sub (qL l).2.1 6 else s.book}
def RmS.write (s:RmS) (sub:Int) (acc:Bool):RmS:=match qh s.lanes sub with
 | none=>s
 | some l=>{s with
   lanes:=qw s.lanes sub (qH l acc).1
   tab:=if (qH l acc).1.gone then (zL s.tab sub).1 else s.tab
   book:=if (qH l acc).1.gone then vQ (if (qH l acc).2.2.2&&decide ((qH l acc).2.2.1=1) then jn s.book sub (qH l acc).2.1 (qH l acc).2.2.1 else s.book) sub 7
    else if (qH l acc).2.2.2&&decide ((qH l acc).2.2.1=1) then jn s.book sub (qH l acc).2.1 (qH l acc).2.2.1 else s.book}
def RmS.drain1 (s:RmS) (id:Int):RmS:={s with book:=xF s.book subIds id 8}
def RmS.drainO (s:RmS) (o:Og):RmS:=match qh s.strs o with
 | none=>s
 | some t=>(thJ t.buf.holds).foldl RmS.drain1 {s with strs:=qw s.strs o {t with buf:=vV t.buf}}
def KP (l:LnS) (n:Int):List Int:=if n=1 then l.A.map (·.id) else if n=2 then l.B.map (·.1.id) else l.C.map (·.1)
def RmS.drainL (s:RmS) (w:Og):RmS:=match qh s.lanes w.2 with
 | none=>s
 | some l=>{s with
   lanes:=qw s.lanes w.2 (vU l (j7 w.1))
   book:=(KP l (j7 w.1)).foldl (λb id=>jn b w.2 id 8) s.book}
def RmS.drain (s:RmS) (w:Og):RmS:=
 if w.1=0 then {s with queue:=[],cnt:={s.cnt with lost:=s.cnt.lost+s.queue.length}}
 else if w.1=1 then s.origins.foldl RmS.drainO s
 else s.drainL w
def vW (w:Og):Og×Bool:=if w.1=0 then ((0,0),false) else if w.1=1 then ((0,0),true) else if w.1=2 then ((1,0),true) else ((w.1-1,w.2),true)
def RmS.goesR (s:RmS) (w:Og):Bool:= !(vW w).2||(qh s.ret (vW w).1).getD false
def RmS.endW (s:RmS) (w:Og):RmS:=if s.goesR w then {s.drain w with ret:=qw s.ret w true} else s.drain w
def RmS.stepW (s:RmS) (w:Og) (acc:Bool):RmS:=
 if s.closed then s.endW w else if w.1=0 then s.read else if w.1=1 then s.order else if w.1=2 then s.choose w.2 else if w.1=3 then s.rewrite w.2 else s.write w.2 acc
def RmS.pick (s:RmS) (w:Og) (acc:Bool):RmS×Bool:=if s.may w then (s.stepW w acc,true) else (s,false)
def zR (c:CfR):Bool:=decide (1<=c.room/\c.room<=8)&&(decide (wA c.hold c.wait)&&(decide (1<=c.space/\c.space<=c.retry/\c.retry<=1000)&&decide (1<=c.most/\c.most<=10)))
def wu (c:CfR):RmS:=⟨c,false,[],0,[],⟨[],[],[]⟩,[],[],[],[],⟨0,0,0,0,0⟩,[]⟩
def kG (c:CfR):zu:=⟨Ez c.hold c.wait,false,0,⟨false,false,0,0⟩,false⟩
def RmS.publish (s:RmS) (p s0 s1 s2:Int):RmS×Int:=
 if s.closed then (s,7) else if (vD s.tab p s0 s1 s2).2=0 then ({s with tab:=(vD s.tab p s0 s1 s2).1,strs:=qw (qw (qw s.strs (p,0) (kG s.cfg)) (p,1) (kG s.cfg)) (p,2) (kG s.cfg)},0) else (s,(vD s.tab p s0 s1 s2).2)
def RmS.join (s:RmS) (x own sq st:Int):RmS×Int:=
 if s.closed then (s,7) else if (yI s.tab x own).2=0 then ({s with tab:=(yI s.tab x own).1,lanes:=qw s.lanes x (Yp s.cfg.room.toNat s.cfg.most own sq st)},0) else (s,(yI s.tab x own).2)
def Ys {K V:Type} [DecidableEq K] (m:List (K×V)) (x:K):List (K×V):=m.filter λp=> !decide (p.1=x)
def Xc (s:RmS) (x:Int):Bool:=match qh s.lanes x with
 | some l=>l.gone
 | none=>false
def RmS.subscribe (s:RmS) (x p k:Int):RmS×Int:=
 if s.closed then (s,7) else if jc k=false then (s,1) else if Xc s x then (s,5) else if (vO s.tab x p).2=0 then (match qh s.lanes x with
  | none=>(s,0)
  | some l=>({s with tab:=(vO s.tab x p).1,lanes:=qw s.lanes x (jA l k).1},(jA l k).2)) else (s,(vO s.tab x p).2)
def RmS.want (s:RmS) (x k:Int):RmS×Int:=
 if s.closed then (s,7) else if (decide (0<=x/\x<6)&&jc k)=false then (s,1) else if ((qh s.tab.u x).getD sb0).2.1=false then (s,5) else (match qh s.lanes x with
  | none=>(s,0)
  | some l=>({s with lanes:=qw s.lanes x (jA l k).1},(jA l k).2))
def RmS.leave (s:RmS) (x:Int):RmS×Int:=
 if s.closed then (s,7) else if (yb s.tab x).2=0 then ({s with tab:=(yb s.tab x).1,book:=vQ s.book x 7,lanes:=Ys s.lanes x},0) else (s,(yb s.tab x).2)
def RmS.arrive (s:RmS) (b:List Int):RmS×Int:=
 if s.closed then (s,7) else if (s.queue.length:Int)<s.cfg.room then ({s with queue:=s.queue++[b]},0) else ({s with queue:=s.queue.tail++[b],cnt:={s.cnt with lost:=s.cnt.lost+1}},0)
def RmS.shut (s:RmS):RmS×Int:=if s.closed then (s,7) else ({s with closed:=true},0)
def RmS.held (s:RmS):Nat:=(s.origins.map λo=>match qh s.strs o with
 | some t=>t.buf.holds.length
 | none=>0).sum
def Γl (x:AcS) (a:Option Addr) (b:Nat) (c:Option Addr) (d:Nat) (e:Option Addr) (f:Nat):Mm:=.o
instance (x:AcS) (a:Option Addr) (b:Nat) (c:Option Addr) (d:Nat) (e:Option Addr) (f:Nat):CoeDep Mm (Γl x a b c d e f) (List Value):=⟨[ι x.o.1,ι x.o.2,ι x.num,μ x.pk.mr,υ x.pk.ty,φ x.pk.sq,ω x.pk.st,ω x.pk.sc,δ a x.pk.ss.length b,μ x.pk.has,φ x.pk.pr,δ c x.pk.ex.length d,δ e x.pk.pl.length f]⟩
instance (x:AcS) (a:Option Addr) (b:Nat) (c:Option Addr) (d:Nat) (e:Option Addr) (f:Nat):CoeDep Mm (Γl x a b c d e f) (Array Value):=⟨((Γl x a b c d e f):List Value).toArray⟩
instance (x:AcS) (a:Option Addr) (b:Nat) (c:Option Addr) (d:Nat) (e:Option Addr) (f:Nat):CoeDep Mm (Γl x a b c d e f) Value:=⟨θ (Γl x a b c d e f)⟩
end
section
open Go.RowKit
set_option maxRecDepth 100000
inductive Tg where
 | no | junk | room | ret | queue | table | book | lns | sts | data | pks | reqs
 | lane (x:Int)
 | str (o:Og)
structure RmK where
 R:Nat
 M1:Nat
 RQ:Nat
 AQ:Nat
 tb:Nat
 ta:Nat
 tc:Nat
 td:Nat
 B:Nat
 b:Nat
 ML:Nat
 MS:Nat
 LA:List (Int×Nat)
 SA:List (Og×Nat)
def gm (n:Nat):Value:= .pointer (some ⟨n,0,none⟩)
def zH (k:RmK) (vp vr:Value) (s:RmS):Array Value:=
 #[.pointer (some ⟨k.B,0,none⟩),.int .i64 s.cfg.room,.int .i64 s.cfg.hold,.int .i64 s.cfg.wait,.int .i64 s.cfg.space,.int .i64 s.cfg.retry,.int .i64 s.cfg.most,.bool s.closed,.map (some k.M1),.int .i64 s.clock,
  .pointer (some ⟨k.RQ,0,none⟩),.pointer (some ⟨k.tb,0,none⟩),.map (some k.ML),.map (some k.MS),vp,vr,.int .i64 s.cnt.lost,.int .i64 s.cnt.malf,.int .i64 s.cnt.strange,.int .i64 s.cnt.told,.int .i64 s.cnt.acc]
def RBy:qJ (List Int):=λw cs b=> ∃v,cs=[v]/\SlI .u8 w v b/\Byt b
def RAc:qJ AcS:=λw cs a=> ∃vs ve vp,cs=[.int .i64 a.o.1,.int .i64 a.o.2,.int .i64 a.num,.bool a.pk.mr,.int .u8 a.pk.ty,.int .u16 a.pk.sq,.int .u32 a.pk.st,.int .u32 a.pk.sc,vs,.bool a.pk.has,.int .u16 a.pk.pr,ve,vp]/\PkS w vs ve vp a.pk
def RRq:qJ RqS:=λw cs q=> ∃v,cs=[.int .i64 q.o.1,.int .i64 q.o.2,.int .i64 q.at_,v]/\SlI .u8 w v q.body
def gQ (Rb:Nat) (t:zu):Array Value:= #[.pointer (some ⟨Rb,0,none⟩),.bool t.any,.int .i64 t.great,.bool t.asks.wanted,.bool t.asks.any,.int .i64 t.asks.last,.int .i64 t.asks.tries,.bool t.askedOf]
structure KR (N:Nat->Prop) (w:World) (p Rb:Nat) (v:Value) (t:zu):Prop where
 blk:w.heap[p]? =some (.cells (gQ Rb t) 176 (0,0))
 buf:xX w Rb v t.buf
 ok:JOK t.buf
 sub: ∀b,N b->b<w.heap.size
 np:N p
 nb:N Rb
 ne:p≠Rb
 nv: ∀g,v.ownBlock=some g->N g/\g≠p
def Ij (N:Nat->Prop) (w:World) (p:Nat) (t:zu):Prop:= ∃Rb v,KR N w p Rb v t
def RmK.Holds (k:RmK) (T:Nat->Tg) (w:World) (vp vr:Value) (s:RmS):Tg->Prop
 | .room=>T k.R= .room/\w.heap[k.R]? =some (.cells (zH k vp vr s) 95 (0,0))
 | .ret=>T k.M1= .ret/\jh w k.M1 kO Value.bool s.ret
 | .queue=>T k.RQ= .queue/\T k.AQ= .queue/\RgR 1 229 35 RBy (λb=>T b≠ .data) w k.RQ k.AQ s.cfg.room.toNat s.queue
 | .table=>T k.tb= .table/\T k.ta= .table/\T k.tc= .table/\T k.td= .table/\jo w k.tb k.ta k.tc k.td s.tab
 | .book=>T k.B= .book/\T k.b= .book/\ju w k.B k.b s.book
 | .lns=>T k.ML= .lns/\jh w k.ML (Value.int .i64) gm k.LA
 | .sts=>T k.MS= .sts/\jh w k.MS kO gm k.SA
 | .pks=>qV 13 RAc (λb=>T b≠ .data/\T b≠ .pks) w 0 65 vp s.pks/\ ∀g,vp.ownBlock=some g->T g= .pks
 | .reqs=>qV 4 RRq (λb=>T b≠ .data/\T b≠ .reqs) w 0 296 vr s.reqs/\ ∀g,vr.ownBlock=some g->T g= .reqs
 | .lane x=>(∀p l,qh k.LA x=some p->qh s.lanes x=some l->zw (λb=>T b= .lane x) w p l)/\(qh k.LA x).isSome=(qh s.lanes x).isSome
 | .str o=>(∀p t,qh k.SA o=some p->qh s.strs o=some t->Ij (λb=>T b= .str o) w p t)/\(qh k.SA o).isSome=(qh s.strs o).isSome
 | .no=> ∀b,w.heap.size<=b->T b= .no
 | .junk=>True
 | .data=>True
structure RmX (T:Nat->Tg) (w0 w:World) (k:RmK) (vp vr:Value) (s:RmS) (F:List Nat):Prop where
 all: ∀t,k.Holds T w vp vr s t
 ge: ∀b,T b≠ .no->w0.heap.size<=b
 law: ∀b∈F,T b= .no/\w0.heap.size<=b/\b<w.heap.size
 more:qa w0 w
def qF (w0 w:World) (k:RmK) (s:RmS) (F:List Nat):Prop:= ∃T vp vr,RmX T w0 w k vp vr s F
def jU (T:Nat->Tg) (t:Tg) (w w':World):Nat->Tg:=λb=>if w.heap.size<=b/\b<w'.heap.size then t else T b
section
variable {T T':Nat->Tg} {w0 w w':World} {k:RmK} {vp vr:Value} {s:RmS} {F:List Nat} {t:Tg}
theorem RmX.fresh (h:RmX T w0 w k vp vr s F): ∀b,w.heap.size<=b->T b= .no:=h.all .no
theorem qZ (G: ∀b,w.heap.size<=b->T b= .no) {u:Tg} (H:u≠ .no) (b:Nat):jU T t w w' b=u↔(T b=u∨(u=t/\w.heap.size<=b/\b<w'.heap.size)):=by
 unfold jU;split
 ·rename_i d;constructor
  ·intro e;exact Or.inr ⟨e.symm,d⟩
  ·rintro(e | e)
   ·rw[G b d.1] at e;exact absurd e.symm H
   ·exact e.1.symm
 ·rename_i d;constructor
  ·exact Or.inl
  ·rintro(e | e)
   ·exact e
   ·exact absurd e.2 d
theorem jC (d: ∀b,w.heap.size<=b->T b= .no) {u:Tg} (H:u≠ .no) (G:u≠t) (b:Nat):jU T t w w' b=u↔T b=u:=by
 rw[qZ d H];constructor
 ·rintro(e | e)
  ·exact e
  ·exact absurd e.1 G
 ·exact Or.inl
theorem wY (d: ∀b,w.heap.size<=b->T b= .no) (G:t≠ .no):(λb=>jU T t w w' b=t)=xd (λb=>T b=t) w w':=by
 funext b
 apply propext;rw[qZ d G];unfold xd;simp
theorem Jj (d: ∀b,w.heap.size<=b->T b= .no) (H:w.heap.size<=w'.heap.size): ∀b,w'.heap.size<=b->jU T t w w' b= .no:=λb G=>by
 unfold jU;rw[if_neg τ];exact d b τ
theorem Holds.frame {S:Nat->Prop} {u:Tg} (h:k.Holds T w vp vr s u) (a:qg S w w') (G: ∀b,S b->T b≠u/\T b≠ .data) (H: ∀b,T' b=u↔T b=u) (Y: ∀b,T b= .data->T' b= .data) (ad:u≠ .no):k.Holds T' w' vp vr s u:=by
 have e:(λb=>T' b=u)=(λb=>T b=u):=by funext b;exact propext (H b)
 cases u with
 | no=>exact absurd rfl ad
 | junk=>trivial
 | data=>trivial
 | room=>exact⟨(H _).2 h.1,a.blk h.2 (λx=>(G _ x).1 h.1)⟩
 | ret=>exact⟨(H _).2 h.1,h.2.away a (λx=>(G _ x).1 h.1)⟩
 | queue=>
  obtain⟨I,J,N⟩:=h;exact⟨(H _).2 I,(H _).2 J,N.step a (λx=>(G _ x).1 I) (λx=>(G _ x).1 J) (λb d=>(G b d).2) (λb d=>Or.inl λe=>d (Y b e))⟩
 | table=>
  obtain⟨I,J,N,aa,ac⟩:=h;exact⟨(H _).2 I,(H _).2 J,(H _).2 N,(H _).2 aa,ac.away a (λx=>(G _ x).1 I) (λx=>(G _ x).1 J) (λx=>(G _ x).1 N) (λx=>(G _ x).1 aa)⟩
 | book=>
  obtain⟨I,J,N⟩:=h;exact⟨(H _).2 I,(H _).2 J,N.away a (λx=>(G _ x).1 I) (λx=>(G _ x).1 J)⟩
 | lns=>exact⟨(H _).2 h.1,h.2.away a (λx=>(G _ x).1 h.1)⟩
 | sts=>exact⟨(H _).2 h.1,h.2.away a (λx=>(G _ x).1 h.1)⟩
 | pks=>
  obtain⟨I,J⟩:=h;refine⟨(I.step (a.mono λb d=>⟨(G b d).2,(G b d).1⟩)).other (λb d=>Or.inl ⟨λe=>d.1 (Y b e),λe=>d.2 ((H b).2 e)⟩),λg O=>(H _).2 (J g O)⟩
 | reqs=>
  obtain⟨I,J⟩:=h;refine⟨(I.step (a.mono λb d=>⟨(G b d).2,(G b d).1⟩)).other (λb d=>Or.inl ⟨λe=>d.1 (Y b e),λe=>d.2 ((H b).2 e)⟩),λg O=>(H _).2 (J g O)⟩
 | lane x=>
  refine⟨λp l I J=> ?_,h.2⟩;rw[e];exact(h.1 p l I J).away a (λb d=>(G b d).1)
 | str o=>
  refine⟨λp t I J=> ?_,h.2⟩;rw[e];obtain⟨ab,v,x⟩:=h.1 p t I J;have U: ∀b,T b= .str o-> ¬S b:=λb d ae=>(G b ae).1 d
  exact⟨ab,v,a.blk x.blk (U _ x.np),⟨a.blk x.buf.blk (U _ x.nb),x.buf.row.away a (λg O=>U _ (x.nv g O).1)⟩,x.ok,λb d=>Nat.lt_of_lt_of_le (x.sub b d) a.size,x.np,x.nb,x.ne,x.nv⟩
end
end
section
open Go.RowKit
set_option maxRecDepth 100000
section
variable {K V:Type} [DecidableEq K]
theorem qy (m:List (K×V)) (k x:K) (v:V):qh (qw m k v) x=if x=k then some v else qh m x:=by
 induction m with
 | nil=>simp[qw,qh]
 | cons p m ih=>
  obtain⟨a,u⟩:=p;unfold qw;by_cases e:k=a
  ·subst e;rw[if_pos rfl];by_cases e2:x=k<;>simp[qh,e2]
  ·rw[if_neg e];by_cases e2:x=a
   ·subst e2;have: ¬x=k:=λh=>e h.symm
    simp[qh,this]
   ·simp only[qh,if_neg e2];exact ih
theorem xC (m:List (K×V)) (k:K) (v:V):qh (qw m k v) k=some v:=by rw[qy,if_pos rfl]
theorem vI (m:List (K×V)) {k x:K} (v:V) (h:x≠k):qh (qw m k v) x=qh m x:=by rw[qy,if_neg h]
theorem kM (m:List (K×V)) (k x:K):qh (Ys m k) x=if x=k then none else qh m x:=by
 induction m with
 | nil=>simp[Ys,qh]
 | cons p m ih=>
  obtain⟨a,u⟩:=p;unfold Ys at ih ⊢;rw[List.filter_cons];by_cases e:a=k
  ·subst e;rw[if_neg η,ih];by_cases e2:x=a<;>simp[qh,e2]
  ·rw[if_pos (by simp[e])];by_cases e2:x=a
   ·subst e2;simp[qh,e]
   ·simp only[qh,if_neg e2];exact ih
theorem gK {m:List (K×V)} (d:(m.map Prod.fst).Nodup) (k x:K):qh (yK m k) x=if x=k then none else qh m x:=by
 induction m with
 | nil=>simp[yK,qh]
 | cons p m ih=>
  obtain⟨a,u⟩:=p;rw[List.map_cons,List.nodup_cons] at d;unfold yK;by_cases e:k=a
  ·subst e;rw[if_pos rfl];by_cases e2:x=k
   ·subst e2;rw[if_pos rfl];have:=d.1;clear ih;have key: ∀(m:List (K×V)),x∉m.map Prod.fst->qh m x=none:=by
     intro m
     induction m with
     | nil=>intro _;rfl
     | cons q m ih=>
      intro h;rw[List.map_cons,List.mem_cons,not_or] at h;obtain⟨b,z⟩:=q;simp only[qh,if_neg h.1];exact ih h.2
    exact key m this
   ·simp[qh,e2]
  ·rw[if_neg e];by_cases e2:x=a
   ·subst e2;have: ¬x=k:=λh=>e h.symm
    simp[qh,this]
   ·simp only[qh,if_neg e2];exact ih d.2
end
def qt (F:List Nat) (w w':World):Prop:=w.heap.size<=w'.heap.size/\ ∀b∈F,w'.heap[b]? =w.heap[b]?
section
variable {T T':Nat->Tg} {w0 w w':World} {k k':RmK} {vp vr vp' vr':Value} {s s':RmS} {F F' Fn:List Nat} {t:Tg}
theorem qt.refl (F:List Nat) (w:World):qt F w w:=⟨Nat.le_refl _,λ_ _=>rfl⟩
theorem qt.trans {w'':World} (h:qt F w w') (k:qt F w' w''):qt F w w'':=⟨Nat.le_trans h.1 k.1,λb d=>(k.2 b d).trans (h.2 b d)⟩
theorem qt.sub (h:qt F w w') (G: ∀b∈F',b∈F):qt F' w w':=⟨h.1,λb d=>h.2 b (G b d)⟩
theorem qt.blk {b:Nat} {o:Obj} (h:qt F w w') (d:b∈F) (k:w.heap[b]? =some o):w'.heap[b]? =some o:=by rw[h.2 b d];exact k
theorem RmX.own (h:RmX T w0 w k vp vr s F) (G:t≠ .no/\t≠ .data) (a:qg (λb=>T b=t) w w') (Y:k'.Holds (jU T t w w') w' vp' vr' s' t)
  (rest: ∀u,u≠t->u≠ .no->k.Holds (jU T t w w') w' vp vr s u->k'.Holds (jU T t w w') w' vp' vr' s' u):RmX (jU T t w w') w0 w' k' vp' vr' s' F/\qt F w w':=by
 have I:=h.fresh;have U: ∀b,T b=t->w0.heap.size<=b:=λb d=>h.ge b (by rw[d];exact G.1)
 refine⟨⟨λu=> ?_,λb d=> ?_,λb d=> ?_,a.to_more h.more U⟩,a.size,λb d=>a.block b (h.law b d).2.2 (λe=>G.1 (by rw[<-e];exact(h.law b d).1))⟩
 ·by_cases e:u=t
  ·subst e;exact Y
  ·by_cases en:u= .no
   ·subst en;exact Jj I a.size
   ·refine rest u e en (Holds.frame (h.all u) a (λb d=>⟨λH=>e (H.symm.trans d),λH=>G.2 (d.symm.trans H)⟩) (λb=>jC I en e b) (λb d=> ?_) en);exact(jC I η (Ne.symm G.2) b).2 d
 ·unfold jU at d;split at d
  ·have:=h.more.size;omega
  ·exact h.ge b d
 ·obtain⟨J,N,O⟩:=h.law b d;refine⟨?_,N,Nat.lt_of_lt_of_le O a.size⟩;unfold jU;rw[if_neg τ];exact J
theorem RmX.mut (h:RmX T w0 w k vp vr s F) (a:qg (λb=>b∈F) w w'):RmX T w0 w' k vp vr s F:=by
 refine⟨λu=> ?_,h.ge,λb d=>⟨(h.law b d).1,(h.law b d).2.1,Nat.lt_of_lt_of_le (h.law b d).2.2 a.size⟩,a.to_more h.more (λb d=>(h.law b d).2.1)⟩;by_cases en:u= .no
 ·subst en;exact λb d=>h.fresh b (Nat.le_trans a.size d)
 ·exact Holds.frame (h.all u) a (λb d=>⟨λe=>en (by rw[<-e];exact(h.law b d).1),λe=>by rw[(h.law b d).1] at e;cases e⟩) (λb=>Iff.rfl) (λb d=>d) en
theorem RmX.on (h:RmX T w0 w k vp vr s F) (m:qa w w'):RmX T w0 w' k vp vr s F:=h.mut (qg.of_more m)
theorem RmX.sub (h:RmX T w0 w k vp vr s F) (G: ∀b∈F',b∈F):RmX T w0 w k vp vr s F':=⟨h.all,h.ge,λb d=>h.law b (G b d),h.more⟩
theorem RmX.adds (h:RmX T w0 w k vp vr s F) (m:qa w w') (G: ∀b∈Fn,w.heap.size<=b/\b<w'.heap.size):RmX T w0 w' k vp vr s (Fn++F):=by
 have d:=h.on m;refine⟨d.all,d.ge,λb H=> ?_,d.more⟩;rcases List.mem_append.1 H with e | e
 ·exact⟨h.fresh b (G b e).1,Nat.le_trans h.more.size (G b e).1,(G b e).2⟩
 ·exact d.law b e
theorem RmX.data (h:RmX T w0 w k vp vr s F) (X:Nat->Prop) (G: ∀b,X b->T b= .no/\w0.heap.size<=b/\b<w.heap.size/\b∉F): ∃T',RmX T' w0 w k vp vr s F/\(∀b,X b->T' b= .data)/\ ∀b,¬X b->T' b=T b:=by
 classical
 have e: ∀u,u≠ .no->u≠ .data-> ∀b,(if X b then Tg.data else T b)=u↔T b=u:=λu H I b=>by
  by_cases d:X b
  ·rw[if_pos d,(G b d).1];exact⟨λx=>absurd x.symm I,λx=>absurd x.symm H⟩
  ·rw[if_neg d]
 have N: ∀b,T b= .data->(if X b then Tg.data else T b)= .data:=λb d=>by
  split
  ·rfl
  ·exact d
 refine⟨λb=>if X b then .data else T b,⟨λu=> ?_,λb d=> ?_,λb d=> ?_,h.more⟩,λb d=>if_pos d,λb d=>if_neg d⟩
 ·by_cases en:u= .no
  ·subst en;intro b d;show (if X b then Tg.data else T b)= .no;rw[if_neg (λx=>by have:=(G b x).2.2.1;omega)];exact h.fresh b d
  ·by_cases ed:u= .data
   ·subst ed;trivial
   ·exact Holds.frame (h.all u) (qg.refl (λ_=>False) w) (λb d=>d.elim) (e u en ed) N en
 ·by_cases hx:X b
  ·exact(G b hx).2.1
  ·rw[if_neg hx] at d;exact h.ge b d
 ·obtain⟨H,I,J⟩:=h.law b d;refine⟨?_,I,J⟩;show (if X b then Tg.data else T b)= .no;rw[if_neg (λx=>(G b x).2.2.2 d)];exact H
theorem qF.on (h:qF w0 w k s F) (m:qa w w'):qF w0 w' k s F:=by
 obtain⟨T,vp,d,x⟩:=h;exact⟨T,vp,d,x.on m⟩
theorem qF.sub (h:qF w0 w k s F) (d: ∀b∈F',b∈F):qF w0 w k s F':=by
 obtain⟨T,vp,G,x⟩:=h;exact⟨T,vp,G,x.sub d⟩
theorem qF.adds (h:qF w0 w k s F) (m:qa w w') (d: ∀b∈Fn,w.heap.size<=b/\b<w'.heap.size):qF w0 w' k s (Fn++F):=by
 obtain⟨T,vp,G,x⟩:=h;exact⟨T,vp,G,x.adds m d⟩
theorem qF.more (h:qF w0 w k s F):qa w0 w:=h.elim λ_ h=>h.elim λ_ h=>h.elim λ_ h=>h.more
theorem qF.law (h:qF w0 w k s F): ∀b∈F,w0.heap.size<=b/\b<w.heap.size:=h.elim λ_ h=>h.elim λ_ h=>h.elim λ_ h b d=>(h.law b d).2
theorem qF.stay (h:qF w0 w k s F) (m:qa w w'):qt F w w':=⟨m.size,λb d=>m.block b (h.law b d).2⟩
end
end
section
open Go.RowKit
set_option maxRecDepth 100000
theorem Ia {K V:Type} [DecidableEq K] {m:List (K×V)} (d:(m.map Prod.fst).Nodup) {k:K} {f:V}:qh m k=some f↔(k,f)∈m:=by
 induction m with
 | nil=>simp[qh]
 | cons p m ih=>
  obtain⟨a,v⟩:=p;rw[List.map_cons,List.nodup_cons] at d;simp only[qh];by_cases e:k=a
  ·subst e;rw[if_pos rfl];constructor
   ·intro h;injection h with h
    subst h;simp
   ·intro h;rcases List.mem_cons.1 h with h | h
    ·injection h with _ h
     rw[h]
    ·exact absurd (List.mem_map.2 ⟨(k,f),h,rfl⟩) d.1
  ·rw[if_neg e,ih d.2];constructor
   ·intro h;exact List.mem_cons_of_mem _ h
   ·intro h;rcases List.mem_cons.1 h with h | h
    ·injection h with h _
     exact absurd h e
    ·exact h
theorem Ga (d:Sb->Bool) (u:List (Int×Sb)) (x:Int):x∈prR d u↔x∈subIds/\ ∃sb,qh u x=some sb/\d sb=true:=by
 unfold prR;rw[List.mem_filter];cases h:qh u x with
 | none=>simp[h]
 | some sb=>simp[h]
theorem Pe:subIds.Pairwise (· < ·):=by decide
theorem UB (x:Int):x∈subIds↔0<=x/\x<6:=by
 unfold subIds;constructor
 ·intro h;simp at h;omega
 ·intro h;simp;omega
theorem IH (d:Sb->Bool) (u:List (Int×Sb)):(prR d u).Pairwise (· < ·):=List.Pairwise.sublist List.filter_sublist Pe
theorem Vq {u:List (Int×Sb)} (G:(u.map Prod.fst).Nodup) (I: ∀x,(qh u x).isSome=true->0<=x/\x<6) (d:Sb->Bool):ut d u=prR d u:=by
 have aa:(yZ d u).Nodup:=by
  have:yZ d u=(u.filter λq=>d q.2).map Prod.fst:=by
   unfold yZ;clear G I
   induction u with
   | nil=>rfl
   | cons q l ih=>
    by_cases e:d q.2=true<;>simp[e,ih]
  rw[this];exact List.Nodup.sublist ((List.filter_sublist).map _) G
 have Y: ∀x,x∈yZ d u↔x∈prR d u:=λx=>by
  rw[Ga,UB];unfold yZ;rw[List.mem_filterMap];constructor
  ·rintro⟨⟨a,H⟩,U,h⟩;by_cases e:d H=true
   ·simp only[e,if_true] at h;cases h;have:=(Ia G).2 U;exact⟨I _ (by rw[this];rfl),H,this,e⟩
   ·simp[e] at h
  ·rintro⟨_,H,N,O⟩;exact⟨(x,H),(Ia G).1 N,by simp[O]⟩
 have J:=IH d u;have ab:(prR d u).Nodup:=J.imp λ{a b} h e=>by omega
 have ac:(yZ d u).Perm (prR d u):=(List.perm_ext_iff_of_nodup aa ab).2 Y;unfold ut;rw[gR ac,Zl (J.imp λ{a b} h=>by omega)]
end
section
open Go.RowKit
set_option maxRecDepth 100000
theorem Z8 (a b:Og) (w:World):(Op.equal 37 (kO a) (kO b)).run prog w= .ok (decide (a=b)) w:=by
 have J:prog.stoodInHeld 37=false:=by kernel_rfl
 obtain⟨d,G⟩:=a;obtain⟨H,I⟩:=b;unfold Op.equal kO;rw[show Op.maxDepth=9999+1 from rfl,run_equalIn_agg w 9999 37 _ _ ξ J];simp[go_sem];by_cases e1:d=H<;>by_cases e2:G=I<;>simp[e1,e2]
theorem Ue:yA prog 37 kO:=
 yA.of_ask underlying37 (λa b=>by simp[Instr.sameNow]) Z8 (λb k w=>by
  rw[show (10000:Nat)=9999+1 from rfl];unfold Instr.checkKey kO
  simp[run_underlying underlying37,go_sem,Gt underlying3 9999 ζ]) (λk=>by simp[Instr.sameBits,kO])
theorem GP (w:World):(zeroValue 4).run prog w= .ok (μ false) w:=by kernel_rfl
theorem Um (w:World):(zeroValue 140).run prog w= .ok (π none) w:=by kernel_rfl
theorem GK (w:World):(zeroValue 177).run prog w= .ok (π none) w:=by kernel_rfl
def GB (o:Option Nat):Value:= .pointer (o.map λn=>⟨n,0,none⟩)
theorem xo {w:World} {b:Nat} {L:List (Int×Nat)} (h:jh w b (Value.int .i64) gm L) (x:Int) (c:Bool):
  (Instr.lookup 90 (.map (some b)) (ι x) c).run prog w= .ok (if c then .tuple #[GB (qh L x),μ (qh L x).isSome] else GB (qh L x)) w:=by
 rw[h.look kJ underlying90 (Um w) x c];cases qh L x<;>cases c<;>rfl
theorem yf {w:World} {b:Nat} {L:List (Og×Nat)} (h:jh w b kO gm L) (o:Og) (c:Bool):
  (Instr.lookup 91 (.map (some b)) (θ #[ι o.1,ι o.2]) c).run prog w= .ok (if c then .tuple #[GB (qh L o),μ (qh L o).isSome] else GB (qh L o)) w:=by
 have:=h.look YB underlying91 (GK w) o c;unfold kO at this;rw[this];cases qh L o<;>cases c<;>rfl
theorem VP {w:World} {b:Nat} {L:List (Og×Bool)} (h:jh w b kO μ L) (o:Og):
  (Instr.lookup 87 (.map (some b)) (θ #[ι o.1,ι o.2]) false).run prog w= .ok (μ ((qh L o).getD false)) w:=by
 have:=h.look Ue underlying87 (GP w) o false;unfold kO at this;rw[this];cases qh L o<;>rfl
section
variable {w:World} {B b:Nat} {m:Bk}
theorem Ny (h:ju w B b m) (sub id:Int):
  Calls prog 20 #[θ #[γ B],ι sub,ι id] w λe w'=>e= .returned (.tuple #[ι ((qh m (sub,id)).getD 0),μ (qh m (sub,id)).isSome])/\qa w w':=by
 have G:=κ h;clear h
 go_enter func20,ntmps20
 go_wp2_with (go_at_call 61;(go_call NC (G.o.more (qa.alloc w (.cells #[γ B] 86))) (sub,id) as e w1 ⟨rfl,d⟩;have H:=κ d;clear d))
 go_ret2
 exact⟨rfl,(qa.alloc _ _).trans H.o⟩
theorem Is (h:ju w B b m) (sub id:Int):
  Calls prog 135 #[θ #[γ B],ι sub,ι id] w λe w'=>e= .returned (μ (decide (qh m (sub,id)=some 0)))/\qa w w':=by
 have J:=κ h;clear h;have e:decide (qh m (sub,id)=some 0)=((qh m (sub,id)).isSome&&((qh m (sub,id)).getD 0==0)):=by cases qh m (sub,id) with | none=>simp | some x=>(by_cases hx:x=0<;>simp[hx])
 rw[e];generalize O:qh m (sub,id)=g at *;have N:=κ O;clear O;obtain⟨f,I⟩:=ν (g.getD 0);obtain⟨i,hi⟩:=ν (g.isSome);have G:=κ (Ny (J.o.more (qa.alloc w (.cells #[γ B] 86))) sub id);rw[N.o,I,hi] at G;rw[I,hi];clear e I hi N J
 go_enter func135,ntmps135
 cases i with
 | true=>
  go_wp2_with (go_at_call 20;(go_call G.o as e w1 ⟨rfl,d⟩;have H:=κ d;clear d))
  go_ret;exact⟨rfl,(qa.alloc _ _).trans H.o⟩
 | false=>
  go_wp2_with (go_at_call 20;(go_call G.o as e w1 ⟨rfl,d⟩;have H:=κ d;clear d))
  go_ret;exact⟨rfl,(qa.alloc _ _).trans H.o⟩
theorem gO (h:ju w B b m) (sub id f:Int):
  Calls prog 122 #[θ #[γ B],ι sub,ι id,ι f] w λe w'=>e= .returned (.tuple #[])/\ju w' B b (jn m sub id f)/\qg (λx=>x=b) w w':=by
 have I:=κ h;have O:qa w (w.alloc (.cells #[γ B] 86)):=qa.alloc _ _;have Y:=κ (qk w (.cells #[γ B] 86));have H:=κ (Is (I.o.more O) sub id);clear h O;unfold jn;by_cases ho:qh m (sub,id)=some 0
 ·rw[if_pos ho];rw[decide_eq_true ho] at H;clear ho
  go_enter func122,ntmps122
  go_wp2_with (first | (go_at_call 135;(go_call H.o as e w1 ⟨rfl,d⟩;have G:Hid (qa w w1):=κ ((qa.alloc _ _).trans d);have ab:w1.cell? ⟨w.heap.size,0,none⟩=some (π (some ⟨B,0,none⟩)):=qb (qc d Y.o) 0 rfl;clear d)) | (go_at_call 177;(go_call Hx (I.o.more G.o) (sub,id) f as e w2 ⟨rfl,N,J⟩;have aa:=κ N;have U:=κ J;clear N J)))
  (refine bodyPost_end (v:= .tuple #[]) ?re1 rfl ?_;(case re1=>simp[results,results122,go_sem]))
  exact⟨rfl,aa.o,(qg.of_more G.o).trans U.o⟩
 ·rw[if_neg ho];rw[decide_eq_false ho] at H;clear ho
  go_enter func122,ntmps122
  go_wp2_with (go_at_call 135;(go_call H.o as e w1 ⟨rfl,d⟩;have G:Hid (qa w w1):=κ ((qa.alloc _ _).trans d);clear d))
  (refine bodyPost_end (v:= .tuple #[]) ?re2 rfl ?_;(case re2=>simp[results,results122,go_sem]))
  exact⟨rfl,I.o.more G.o,qg.of_more G.o⟩
end
end
section
open Go.RowKit
set_option maxRecDepth 100000
def RO:qJ Og:=λ_ cs o=>cs=[.int .i64 o.1,.int .i64 o.2]
theorem YD:wC RO:=λ_ _ _ _ _ h=>h
theorem PA {i j:Nat} (hi:i<3) (d:j<3):orgs.take (3* i+(j+1))=orgs.take (3* i+j)++[((i:Int),(j:Int))]:=by
 have hi:i=0∨i=1∨i=2:=by omega
 have d:j=0∨j=1∨j=2:=by omega
 rcases hi with rfl | rfl | rfl<;>rcases d with rfl | rfl | rfl<;>rfl
theorem Cj (n:Nat) (p:Og->Bool):((orgs.take n).filter p).length<=9:=Nat.le_trans (List.length_filter_le _ _) (by rw[List.length_take];show min n 9<=9;omega)
def Yz (SA:List (Og×Nat)):List Og:=orgs.filter λo=>(qh SA o).isSome
theorem KK {w:World} {R ad:Nat} {SA:List (Og×Nat)} (ai:R<w.heap.size) (aj:w.cell? ⟨R,13,none⟩=some (.map (some ad))) (am:jh w ad kO gm SA):
  Calls prog 64 #[γ R] w λe w'=> ∃v,e= .returned v/\qV 2 RO (λ_=>False) w' w.heap.size 58 v (Yz SA)/\qa w w':=by
 obtain⟨aM,hi,aH,aI,aJ⟩:=info_parts (P:=prog) (e:=58) (z:= θ #[ι 0,ι 0]) (size:=2) (bytes:=16) ξ;have ax:=κ am;have ar:=κ aj;have ay:=κ ai;clear am aj ai;obtain⟨p,an⟩: ∃p:Og->Bool,Hid (p=λo=>(qh SA o).isSome):=⟨_,κ rfl⟩;have e0:Yz SA=(orgs.take 9).filter p:=by rw[an.o];rfl
 rw[e0];have aw:=κ (λn=>Cj n p);clear e0
 go_enter func64,ntmps64
 go_wp2
 go_loopw [3,9] (λu H wr=> ∃i:Nat,i<=3/\H= ι i/\(∃N J I,u= δ N J I)/\qV 2 RO (λ_=>False) wr w.heap.size 58 u ((orgs.take (3* i)).filter p)/\qa w wr) (λ_ H _=>3-(intOf H).toNat)
 case atStart=>exact⟨0,τ,rfl,⟨_,_,_,rfl⟩,qV.nil _ _ _ _ _ _,qa.refl _⟩
 case round=>
  obtain⟨i,aR,rfl,⟨N,J,I,rfl⟩,Y,U⟩:=hrel;have G:=κ Y;have d:=κ U;clear Y U;by_cases hlt:i<3
  ·have aE:(i:Int)<3:=by omega
   obtain⟨aq,rfl⟩: ∃aq:World,aq=wr:=⟨_,rfl⟩;go_wp2
   go_loopw [3,12] (λu H wr=> ∃j:Nat,j<=3/\H= ι j/\(∃N J I,u= δ N J I)/\qV 2 RO (λ_=>False) wr w.heap.size 58 u ((orgs.take (3* i+j)).filter p)/\qa w wr) (λ_ H _=>3-(intOf H).toNat)
   case atStart=>exact⟨0,τ,rfl,⟨_,_,_,rfl⟩,G.o,d.o⟩
   case round=>
    clear G d;obtain⟨j,aS,rfl,⟨N,J,I,rfl⟩,Y,U⟩:=hrel;have G:=κ Y;have d:=κ U;clear Y U;by_cases hltj:j<3
    ·have aF:(j:Int)<3:=by omega
     have ap:=PA hlt hltj;have au:Hid (∀b,(δ N J I).ownBlock=some b->w.heap.size<=b):=κ (λb h=>G.o.ge h);have av:=κ (aw.o (3* i+j));obtain⟨W1,ab⟩:=ν (wr.alloc (.cells #[ι (i:Int),ι (j:Int)] 58));have O:Hid (qa wr W1):=κ (by rw[<-ab];exact qa.alloc _ _);have af:Hid (W1.heap[wr.heap.size]? =some (.cells #[ι (i:Int),ι (j:Int)] 58 (0,0))):=κ (by rw[<-ab];exact qk wr _);have aC:W1.cell? ⟨R,13,none⟩=some (.map (some ad)):=by rw[(d.o.trans O.o).cells _ _ ay.o];exact ar.o
     have q: ∀n,_:=λn=>yf (ax.o.more ((d.o.trans O.o).dr n)) ((i:Int),(j:Int)) true
     simp only[if_true] at q;have ao:p ((i:Int),(j:Int))=(qh SA ((i:Int),(j:Int))).isSome:=by rw[an.o]
     have ah:=κ ap;generalize qh SA ((i:Int),(j:Int))=g at *;clear ap;have aO:=β0 af.o;have aP:=β1 af.o;have ag:=κ ao;clear ao
     go_upto_region 9 with fail
     (try rw[ab])
     clear ab;refine wp_region_quiet_lit ξ ξ ?_
     repeat (go_big_quiet_step (fail))
     refine wpQuiet_nil ?_;intro _ aG;obtain⟨nq,rfl⟩:=aG;have aa:Hid (qa w (W1.drewN nq)):=κ ((d.o.trans O.o).dr _);have aA:=κ ((G.o.on O.o).on ((qa.drewN W1 nq).al (.cells #[ι (i:Int),ι (j:Int)] 58)));clear q aC;cases g with
     | none=>
      have ac:Hid ((orgs.take (3* i+(j+1))).filter p=(orgs.take (3* i+j)).filter p):=κ (by rw[ah.o,List.filter_append,List.filter_cons,if_neg (by rw[ag.o];simp)];simp);have az:=κ ((G.o.on O.o).on (qa.drewN W1 nq));go_wp2;go_roundw
      case rel=>exact⟨j+1,τ,by go_num,⟨_,_,_,rfl⟩,by rw[ac.o];exact az.o,aa.o⟩
      case measure=>simp[intOf];omega
     | some g=>
      have ac:Hid ((orgs.take (3* i+(j+1))).filter p=(orgs.take (3* i+j)).filter p++[((i:Int),(j:Int))]):=κ (by rw[ah.o,List.filter_append,List.filter_cons,if_pos (by rw[ag.o];rfl)];simp);have aT:=av.o
      go_wp2_with (at_builtin;(refine jj (R:=RO) (D:=λ_=>False) _ rfl (.tmp 28) (.tmp 30) 171 rfl w.heap.size 58 aM (θ #[ι 0,ι 0]) 2 16 underlying171 hi aH aI aJ rfl ζ _ ((orgs.take (3* i+j)).filter p) rfl aA.o W1.heap.size [ι (i:Int),ι (j:Int)] ((i:Int),(j:Int)) rfl rfl (xO η) (by simp[Value.oneCell']) (λw' _=>rfl) (λb h=>h.elim) ζ τ (aa.o.al _).size ?_;intro v' w8 ae ak aD;have aN:Hid (qa w w8):=κ (Below.grown (aa.o.al _) ak (aa.o.al _).size au.o);obtain⟨aV,aU,aQ,rfl,aK,aL⟩:=ae.shape;have aB:=κ ae;clear ae ak aD aK aL))
      go_roundw
      case rel=>exact⟨j+1,τ,by go_num,⟨_,_,_,rfl⟩,by rw[ac.o];exact aB.o,aN.o⟩
      case measure=>simp[intOf];omega
    ·obtain rfl:j=3:=by omega
     have aF: ¬((3:Nat):Int)<3:=by omega
     go_wp2;go_roundw
     case rel=>exact⟨i+1,τ,by go_num,⟨_,_,_,rfl⟩,by rw[Nat.mul_add];exact G.o,d.o⟩
     case measure=>simp[intOf];omega
  ·obtain rfl:i=3:=by omega
   have aE: ¬((3:Nat):Int)<3:=by omega
   go_wp2;go_ret;exact⟨_,rfl,G.o,d.o⟩
end
section
open Go.RowKit
set_option maxRecDepth 100000
theorem Ho (n:Int) (w:World):Calls prog 245 #[ι n] w λe w'=>e= .returned (φ (n%65536))/\w=w':=by
 go_enter func245,ntmps245
 go_wp2;go_ret;exact⟨rfl,rfl⟩
theorem Wn (n:Int) (d:U16 n) (w:World):Calls prog 191 #[φ n] w λe w'=>e= .returned (ι (65536+n))/\w=w':=by
 obtain⟨G,H⟩:=d
 go_enter func191,ntmps191
 go_wp2;go_ret;exact⟨rfl,rfl⟩
theorem LB (a b:Int): -32768<=ahd a b/\ahd a b<=32767:=by unfold ahd;omega
theorem Wy (d n:Int) (J:xz d) (H:U16 n) (w:World):Calls prog 192 #[ι d,φ n] w λe w'=>e= .returned (ι (GD d n))/\w=w':=by
 obtain⟨N,O⟩:=J;have U:=LB (d%65536) n;have G:U16 (d%65536):=by unfold U16;omega
 unfold GD;have I:=κ (λw=>Yn (d%65536) n w G H);clear G H;generalize ahd (d%65536) n=a at *
 go_enter func192,ntmps192
 go_wp2_with (first | (go_at_call 245;(go_call Ho d _ as e w1 ⟨rfl,rfl⟩)) | (go_at_call 244;(go_call I.o _ as e w2 ⟨rfl,rfl⟩)))
 go_ret;exact⟨rfl,rfl⟩
theorem vN (c t:Int) (w:World):Calls prog 38 #[θ #[ι c,ι t]] w λe w'=>e= .returned (μ (!decide (c=t)))/\qa w w':=by
 go_enter func38,ntmps38
 go_wp2;go_ret;exact⟨by congr 1,qa.alloc _ _⟩
theorem Qk (sp d:Int) (w:World):Calls prog 42 #[θ #[ι sp,ι d]] w λe w'=>e= .returned (μ (decide (1<=sp/\sp<=d/\d<=1000)))/\qa w w':=by
 have e:decide (1<=sp/\sp<=d/\d<=1000)=(decide (1<=sp)&&(decide (sp<=d)&&decide (d<=1000))):=by by_cases h1:1<=sp<;>by_cases h2:sp<=d<;>by_cases h3:d<=1000<;>simp[h1,h2,h3]
 rw[e];clear e;by_cases h1:1<=sp
 ·by_cases h2:sp<=d
  ·go_enter func42,ntmps42
   go_wp2;go_ret;exact⟨by simp[h1,h2],qa.alloc _ _⟩
  ·go_enter func42,ntmps42
   go_wp2;go_ret;exact⟨by simp[h1];omega,qa.alloc _ _⟩
 ·go_enter func42,ntmps42
  go_wp2;go_ret;exact⟨by simp;omega,qa.alloc _ _⟩
theorem Hu (sp d G:Int) (ah:1<=sp) (ai:sp<=d) (aj:d<=1000) (ak:0<=G) (al:G<=1000000) (w:World):
  Calls prog 141 #[θ #[ι sp,ι d],ι G] w λe w'=>e= .returned (ι (Yr sp d G))/\qa w w':=by
 go_enter func141,ntmps141
 go_wp2
 go_step3
 go_wp2
 go_step3
 go_wp2
 go_loopw [5,6] (λg O wr=> ∃(k:Nat) (H:Int),O= ι (k+1)/\g= ι H/\0<=H/\H<=2000/\(k:Int)<=1000000/\Zf d ((G-1).toNat-k) H=Zf d (G-1).toNat sp/\(k=0∨(k:Int)<=G-1)/\wr=w.alloc (.cells #[ι sp,ι d] 23)) (λ_ O _=>(G-1).toNat+1-(intOf O).toNat)
 case atStart=>exact⟨0,sp,rfl,rfl,τ,τ,τ,rfl,Or.inl rfl,rfl⟩
 case round=>
  obtain⟨k,H,rfl,rfl,af,ag,am,aa,ab,rfl⟩:=hrel;have ac:=κ (qk w (.cells #[ι sp,ι d] 23));have N:=κ aa;have ad:=κ ab;clear aa ab;have ae:=β1 ac.o;by_cases hlt:(k:Int)+1<G
  ·obtain⟨n,J⟩: ∃n,(G-1).toNat-k=n+1:=⟨(G-1).toNat-k-1,τ⟩;by_cases hb1:H<1
   ·have I:Hid (Yr sp d G=if H<=d then H else d):=κ (by unfold Yr;rw[<-N.o,J];unfold Zf;rw[if_pos (Or.inl hb1)]);clear J;go_wp2
    (try rw[Exit.noGoto_ret])
    go_ret;exact⟨by rw[I.o];first | rfl | (congr 2;try omega) | skip,qa.alloc _ _⟩
   ·by_cases hb2:d<=H
    ·have I:Hid (Yr sp d G=if H<=d then H else d):=κ (by unfold Yr;rw[<-N.o,J];unfold Zf;rw[if_pos (Or.inr hb2)]);clear J;go_wp2
     (try rw[Exit.noGoto_ret])
     go_ret;exact⟨by rw[I.o];first | rfl | (congr 2;try omega) | skip,qa.alloc _ _⟩
    ·have Y:Zf d n (2* H)=Zf d (G-1).toNat sp:=by rw[<-N.o,J];conv=>rhs;unfold Zf;rw[if_neg τ]
     have I:=κ Y;have U:=κ J;clear Y J;go_wp2;go_roundw
     case rel=>exact⟨k+1,H* 2,by go_num,rfl,τ,τ,τ,by rw[show (G-1).toNat-(k+1)=n by have:=U.o;omega,Int.mul_comm];exact I.o,Or.inr τ,trivial⟩
     case measure=>have:=U.o;simp[intOf];omega
  ·have I:Hid (Yr sp d G=if H<=d then H else d):=κ (by unfold Yr;rw[<-N.o,show (G-1).toNat-k=0 by have:=ad.o;omega];rfl);go_wp2
   (try rw[Exit.noGoto_ret])
   go_ret;exact⟨by rw[I.o];first | rfl | (congr 2;try omega) | skip,qa.alloc _ _⟩
theorem Ef (sp G:Int) (a:GJ) (d:Bool) (H:Int) (aV:1<=sp) (aW:sp<=G) (aX:G<=1000) (aK:0<=a.tries) (aL:a.tries<=1000000) (ba:xz a.last) (bb:xz H) (w:World):
  Calls prog 84 #[θ #[ι sp,ι G],θ #[μ a.wanted,a.any,ι a.last,ι a.tries],d,ι H] w λe w'=>
   e= .returned (.tuple #[θ #[μ (vF sp G a d H).1.wanted,μ (vF sp G a d H).1.any,ι (vF sp G a d H).1.last,ι (vF sp G a d H).1.tries],μ (vF sp G a d H).2])/\qa w w':=by
 obtain⟨O,I,al,ah⟩:=a;obtain⟨bd,be⟩:=ba;obtain⟨br,bs⟩:=bb;simp only at aK aL bd be ⊢;obtain⟨T,ao⟩:=ν (uu ⟨O,I,al,ah⟩ d);have aY:0<=T/\T<=1000000:=by rw[<-ao];unfold uu;split<;>first | exact⟨aK,aL⟩ | exact⟨τ,τ⟩
 obtain⟨t0,t1⟩:=aY;have av:=κ ao;obtain⟨c,ay⟩:=ν (Ib sp G ⟨O,I,al,ah⟩ d H);have aO:=κ ay;obtain⟨y,aB⟩:=ν (vF sp G ⟨O,I,al,ah⟩ d H);have aG:Hid (y=if c then (⟨d,I,al,T⟩,false) else (⟨d,true,H,T+1⟩,true)):=κ (by rw[<-aB,<-ay,<-ao];rfl);obtain⟨q,aJ⟩:=ν ((!d|| !O));have au:=κ aJ;obtain⟨g,az⟩:=ν (Yr sp G T);have aQ:=κ az;have ar:=κ (λw=>Hu sp G T aV aW aX t0 t1 w);rw[az] at ar;rw[aB];clear ao ay aJ aB az
 go_enter func84,ntmps84
 go_upto_region 1 with fail
 obtain⟨ai,af⟩:=ν ((((w.alloc (.cells #[ι sp,ι G] 23)).alloc (.cells #[μ O,I,ι al,ι ah] 174)).alloc (.cells #[μ false,false,ι 0,ι 0] 174)));have J:Hid (ai.heap[w.heap.size+1]? =some (.cells #[μ O,I,ι al,ι ah] 174 (0,0))):=κ (by rw[<-af];exact qq (qB η) _);have ac:Hid (ai.heap[w.heap.size]? =some (.cells #[ι sp,ι G] 23 (0,0))):=κ (by rw[<-af];exact qq (qq (qk w _) _) _);have ad:Hid (ai.heap[w.heap.size+1+1]? =some (.cells #[μ false,false,ι 0,ι 0] 174 (0,0))):=κ (by rw[<-af];exact qB η);have ae:Hid (qa w ai):=κ (by rw[<-af];exact((qa.alloc _ _).al _).al _);rw[af];clear af;have aj:w.heap.size<=w.heap.size+1:=by omega
 have U:w.heap.size<=w.heap.size+1+1:=by omega
 have aN:w.heap.size≠w.heap.size+1:=by omega
 have ak:w.heap.size+1+1≠w.heap.size+1:=by omega
 have an:=β0 J.o
 go_cut [16] from 10 to 16 (λv Y=>v= μ q/\Y=ai)
 case first=>
  cases d<;>cases O<;>(go_wp2;go_meet;exact⟨by rw[<-au.o];rfl,rfl⟩)
 case rest=>
 obtain⟨rfl,aS⟩:=hcut;subst aS
 go_upto_if 16 with fail
 go_cut [] from 17 to 17 (λY=>Y.heap[w.heap.size+1]? =some (.cells #[μ O,I,ι al,ι T] 174 (0,0))/\Y.heap[w.heap.size]? =some (.cells #[ι sp,ι G] 23 (0,0))/\Y.heap[w.heap.size+1+1]? =some (.cells #[μ false,false,ι 0,ι 0] 174 (0,0))/\qa w Y)
 case first=>
  have aU:=qd J.o 3;have c3:=β3 J.o;cases q with
  | true=>
   have aA:Hid (0=T):=κ (by rw[<-av.o];unfold uu;rw[if_neg (by have:=au.o;cases d<;>cases O<;>simp_all)]);go_wp2;go_meet;exact⟨qA (qo J.o 3 _) (by rw[<-aA.o];rfl),qm ac.o _ _ aN,qm ad.o _ _ ak,ae.o.st (p:=⟨w.heap.size+1,3,none⟩) aj _⟩
  | false=>
   have aA:Hid (ah=T):=κ (by rw[<-av.o];unfold uu;rw[if_pos (by have:=au.o;cases d<;>cases O<;>simp_all)]);go_wp2;go_meet;exact⟨by rw[<-aA.o];exact J.o,ac.o,ad.o,ae.o⟩
 case rest=>
 obtain⟨ax,aH,aI,aM⟩:=hcut;have aT:=qd ax 0;have aq:=κ ax;have aC:=κ aH;have aD:=κ aI;have aF:=κ aM;clear J ac ad ae an ax aH aI aM;have an:=β0 aq.o
 go_upto_region 4 with fail
 obtain⟨ab,ag⟩:=ν (wc.setCell ⟨w.heap.size+1,0,none⟩ (μ d));have J:Hid (ab.heap[w.heap.size+1]? =some (.cells #[μ d,I,ι al,ι T] 174 (0,0))):=κ (by rw[<-ag];exact qA (qo aq.o 0 _) rfl);have ac:Hid (ab.heap[w.heap.size]? =some (.cells #[ι sp,ι G] 23 (0,0))):=κ (by rw[<-ag];exact qm aC.o _ _ aN);have ad:Hid (ab.heap[w.heap.size+1+1]? =some (.cells #[μ false,false,ι 0,ι 0] 174 (0,0))):=κ (by rw[<-ag];exact qm aD.o _ _ ak);have ae:Hid (qa w ab):=κ (by rw[<-ag];exact aF.o.st (p:=⟨w.heap.size+1,0,none⟩) aj _);rw[ag];clear ag aq aC aD aF an aT
 go_cut [36] from 20 to 36 (λv Y=>v= μ c/\qa ab Y)
 case first=>
  have am:=λ(x:qp ab)=>qc x.h J.o
  have bg:=λx=>β1 (am x);have bh:=λx=>β2 (am x);have bi:=λx=>β3 (am x);clear am
  have aw:=λ(x:qp ab)=>qc x.h ac.o
  have bj:=λx=>β0 (aw x);have bk:=λx=>β1 (aw x);clear aw
  obtain⟨aR,aZ⟩:=ν (decide (H-al<g));have aP:Hid ((!d||(I&&aR))=c):=κ (by rw[<-aO.o,<-aZ,<-aQ.o,<-av.o];rfl)
  cases d<;>cases I<;>(
   refine qz _ (qa.refl _) ξ ξ ?_
   repeat (go_big_quiet_step ((go_at_call 141;exact jY (ar.o _))))
   refine wpQuiet_nil ?_;intro _ bc;obtain⟨bf,rfl⟩:=bc;go_wp2;go_meet
   exact⟨by rw[<-aP.o];rfl,bf.h⟩)
 case rest=>
 obtain⟨rfl,ap⟩:=hcut;have aa:=κ (qc ap J.o);have N:=κ (qc ap ad.o);have aE:=κ (ae.o.trans ap);clear J ac ad ae ap ar;have an:=β0 aa.o;have c1:=β1 aa.o;have bl:=qd aa.o 1;have c2:=β2 aa.o;have bm:=qd aa.o 2;have c3:=β3 aa.o;have aU:=qd aa.o 3;have z0:=β0 N.o;have bn:=qd N.o 0;have bt:=β1 N.o;have bo:=qd N.o 1;have bu:=β2 N.o;have bp:=qd N.o 2;have z3:=β3 N.o;have bq:=qd N.o 3;cases c with
 | true=>
  obtain rfl:y=(⟨d,I,al,T⟩,false):=aG.o;go_wp2;refine bodyPost_ret (v:= .tuple #[θ #[μ d,I,ι al,ι T],false]) (yD results84 _ _ (w.heap.size+1+1) 174 #[μ d,I,ι al,ι T] _ _ rfl rfl (qA (qo (qo (qo (qo N.o 0 _) 1 _) 2 _) 3 _) rfl) underlying174 rfl ξ) rfl ?_;exact⟨rfl,((((aE.o.st (p:=⟨w.heap.size+1+1,0,none⟩) U _).st (p:=⟨w.heap.size+1+1,1,none⟩) U _).st (p:=⟨w.heap.size+1+1,2,none⟩) U _).st (p:=⟨w.heap.size+1+1,3,none⟩) U _)⟩
 | false=>
  obtain rfl:y=(⟨d,true,H,T+1⟩,true):=aG.o;go_wp2;refine bodyPost_ret (v:= .tuple #[θ #[μ d,true,ι H,ι (T+1)],true]) (yD results84 _ _ (w.heap.size+1+1) 174 #[μ d,true,ι H,ι (T+1)] _ _ rfl rfl (qA (qo (qo (qo (qo (qm (qm (qm N.o ⟨w.heap.size+1,1,none⟩ _ ak) ⟨w.heap.size+1,2,none⟩ _ ak) ⟨w.heap.size+1,3,none⟩ _ ak) 0 _) 1 _) 2 _) 3 _) rfl) underlying174 rfl ξ) rfl ?_;exact⟨rfl,(((((((aE.o.st (p:=⟨w.heap.size+1,1,none⟩) aj _).st (p:=⟨w.heap.size+1,2,none⟩) aj _).st (p:=⟨w.heap.size+1,3,none⟩) aj _).st (p:=⟨w.heap.size+1+1,0,none⟩) U _).st (p:=⟨w.heap.size+1+1,1,none⟩) U _).st (p:=⟨w.heap.size+1+1,2,none⟩) U _).st (p:=⟨w.heap.size+1+1,3,none⟩) U _)⟩
end
section
open Go.RowKit
set_option maxRecDepth 100000
theorem KR.on {d:Nat->Prop} {w w':World} {p G:Nat} {v:Value} {t:zu} (h:KR d w p G v t) (m:qa w w'):KR d w' p G v t:=
 ⟨qc m h.blk,h.buf.on m,h.ok,λb H=>Nat.lt_of_lt_of_le (h.sub b H) m.size,h.np,h.nb,h.ne,h.nv⟩
section
variable {T:Nat->Tg} {w0 w w':World} {k:RmK} {vp vr:Value} {s:RmS} {F:List Nat}
theorem RmX.strAt (h:RmX T w0 w k vp vr s F) {o:Og} {t:zu} (I:qh s.strs o=some t): ∃p d v,qh k.SA o=some p/\KR (λb=>T b= .str o) w p d v t:=by
 obtain⟨J,G⟩:=h.all (.str o);rw[I] at G;obtain⟨p,H⟩:=Option.isSome_iff_exists.1 G;obtain⟨d,v,x⟩:=J p t H I;exact⟨p,d,v,H,x⟩
theorem RmX.laneAt (h:RmX T w0 w k vp vr s F) {x:Int} {l:LnS} (G:qh s.lanes x=some l): ∃p,qh k.LA x=some p/\zw (λb=>T b= .lane x) w p l:=by
 obtain⟨I,d⟩:=h.all (.lane x);rw[G] at d;obtain⟨p,H⟩:=Option.isSome_iff_exists.1 d;exact⟨p,H,I p l H G⟩
theorem RmX.laneNo (h:RmX T w0 w k vp vr s F) {x:Int} (G:qh s.lanes x=none):qh k.LA x=none:=by
 obtain⟨H,d⟩:=h.all (.lane x);rw[G] at d;cases hp:qh k.LA x with
 | none=>rfl
 | some p=>rw[hp] at d;cases d
theorem RmX.origins (h:RmX T w0 w k vp vr s F):Yz k.SA=s.origins:=by
 unfold Yz RmS.origins
 congr 1
 funext o
 exact(h.all (.str o)).2
theorem RmX.blk (h:RmX T w0 w k vp vr s F):w.heap[k.R]? =some (.cells (zH k vp vr s) 95 (0,0)):=(h.all .room).2
theorem RmX.tab (h:RmX T w0 w k vp vr s F):jo w k.tb k.ta k.tc k.td s.tab:=by
 obtain⟨_,_,_,_,x⟩:=h.all .table;exact x
theorem RmX.bok (h:RmX T w0 w k vp vr s F):ju w k.B k.b s.book:=by
 obtain⟨_,_,x⟩:=h.all .book;exact x
theorem RmX.que (h:RmX T w0 w k vp vr s F):RgR 1 229 35 RBy (λb=>T b≠ .data) w k.RQ k.AQ s.cfg.room.toNat s.queue:=by
 obtain⟨_,_,x⟩:=h.all .queue;exact x
theorem RmX.lnm (h:RmX T w0 w k vp vr s F):jh w k.ML (Value.int .i64) gm k.LA:=(h.all .lns).2
theorem RmX.stm (h:RmX T w0 w k vp vr s F):jh w k.MS kO gm k.SA:=(h.all .sts).2
theorem RmX.retm (h:RmX T w0 w k vp vr s F):jh w k.M1 kO μ s.ret:=(h.all .ret).2
theorem RmX.lt (h:RmX T w0 w k vp vr s F):k.R<w.heap.size:=ql h.blk
theorem RmX.orgsRow (h:RmX T w0 w k vp vr s F):Calls prog 64 #[γ k.R] w λe w'=> ∃v,e= .returned v/\qV 2 RO (λ_=>False) w' w.heap.size 58 v s.origins/\qa w w':=by
 rw[<-h.origins];exact KK h.lt (qb h.blk 13 rfl) (h.all .sts).2
theorem yB {s:RmS} {o:Og} (h:o∈s.origins): ∃t,qh s.strs o=some t:=by
 unfold RmS.origins at h;exact Option.isSome_iff_exists.1 (List.mem_filter.1 h).2
theorem Ua {w:World} {v:Value} {L:List Og} {base:Nat} (h:qV 2 RO (λ_=>False) w base 58 v L): ∃oa cap,v= δ oa L.length cap/\L.length<=maxLen/\ ∀i (hi:i<L.length),∃b,oa=some ⟨b,0,none⟩/\base<=b/\b<w.heap.size/\w.cell? ⟨b,i* 2,none⟩=some (ι L[i].1)/\w.cell? ⟨b,i* 2+1,none⟩=some (ι L[i].2):=by
 obtain⟨⟨xs,d,r⟩,_⟩:=h;rcases id d.2 with ⟨rfl,H⟩ | ⟨b,cap,cur,rfl,I,J,N,O,_⟩
 ·exact⟨none,0,by rw[H],by rw[H];exact Nat.zero_le _,λi hi=>by omega⟩
 ·refine⟨_,cap,rfl,τ,λi hi=>⟨b,rfl,I,lt_of_block J, ?_, ?_⟩⟩
  ·have e:(xs.drop (i* 2)).take 2=[ι L[i].1,ι L[i].2]:=(r i hi).read;have e0:=congrArg (λl:List Value=>l[0]?) e;simp at e0;rw[d.cellAt _ τ];exact e0
  ·have e:(xs.drop (i* 2)).take 2=[ι L[i].1,ι L[i].2]:=(r i hi).read;have G:=congrArg (λl:List Value=>l[1]?) e;simp at G;rw[d.cellAt _ τ];exact G
def RmS.readyO (s:RmS):Og:=s.ready.getD (0,0)
theorem Z7 {α:Type} (p:α->Bool): ∀(l:List α) (j:Nat) (hj:j<l.length),(∀i (hi:i<l.length),i<j->p l[i]=false)->p l[j]=true->l.find? p=some l[j]
 | [],j,hj,_,_=>by simp at hj
 | a::l,0,_,_,h=>by simp at h;simp[h]
 | a::l,j+1,hj,h1,h2=>by
  have d:=h1 0 η τ;simp at d;simp only[List.find?_cons,d];exact Z7 p l j (by simpa using hj) (λi hi G=>by have:=h1 (i+1) (by simpa using hi) τ;simpa using this) (by simpa using h2)
theorem Dg {α:Type} (p:α->Bool) (l:List α) (h: ∀i (hi:i<l.length),p l[i]=false):l.find? p=none:=by
 rw[List.find?_eq_none];intro x d;obtain⟨i,hi,rfl⟩:=List.mem_iff_getElem.1 d;simp[h i hi]
theorem AJ (h:RmX T w0 w k vp vr s F) (aw:xz s.clock):
  Calls prog 73 #[γ k.R] w λe w'=>e= .returned (.tuple #[θ #[ι s.readyO.1,ι s.readyO.2],s.ready.isSome])/\qa w w':=by
 have O:=κ h;have aF:=κ aw;clear h aw
 go_enter func73,ntmps73
 go_wp2_with (go_at_call 64;(go_call (O.o.on (qa.alloc w (.cells #[ι 0,ι 0] 58))).orgsRow as e w1 ⟨v,rfl,aC,ai⟩;obtain⟨ba,cap,rfl,aP,aB⟩:=Ua aC;have aH:=κ aB;have ao:Hid (qa w w1):=κ ((qa.alloc _ _).trans ai);have aa:Hid (w1.heap[w.heap.size]? =some (.cells #[ι 0,ι 0] 58 (0,0))):=κ (qc ai (qk w _));clear aC ai aB))
 unfold maxLen at aP
 go_loopw [9] (λah wr=> ∃j:Nat,j<=s.origins.length/\ah= ι j/\(∀i (hi:i<s.origins.length),i<j->s.readyAt s.origins[i]=false)/\qa w1 wr) (λah _=>s.origins.length-(intOf ah).toNat)
 case atStart=>exact⟨0,τ,rfl,λi hi h=>by omega,qa.refl _⟩
 case round=>
  obtain⟨j,aZ,rfl,ax,av⟩:=hrel;have ac:=κ ax;have G:=κ av;clear ax av;by_cases hlt:j<s.origins.length
  ·have aO:(j:Int)<(s.origins.length:Int):=by omega
   obtain⟨b,rfl,aX,ar,U,c1⟩:=aH.o j hlt;have U:wr.cell? ⟨b,j* 2,none⟩=some (ι (s.origins[j]).1):=by rw[G.o.cells _ _ ar];exact U
   have c1:wr.cell? ⟨b,j* 2+1,none⟩=some (ι (s.origins[j]).2):=by rw[G.o.cells _ _ ar];exact c1
   obtain⟨t,ag⟩:=yB (List.getElem_mem hlt);have am:=κ (λI=>Z7 s.readyAt s.origins j hlt ac.o I);have aA:s.readyAt s.origins[j]=jN t.buf s.clock:=by unfold RmS.readyAt;rw[ag]
   have ad:=κ aA;clear aA;obtain⟨p,aq,v,az,Y⟩:=O.o.strAt ag;have an:Hid (∀o,o=s.origins[j]->(∀I:jN t.buf s.clock=true,s.ready=some o)):=κ (λo e I=>by rw[e];exact am.o (by rw[ad.o];exact I))
   have aJ:Hid (jN t.buf s.clock=false-> ∀i (hi:i<s.origins.length),i<j+1->s.readyAt s.origins[i]=false):=κ (λI i hi h=>by
    by_cases e:i<j
    ·exact ac.o i hi e
    ·obtain rfl:i=j:=by omega
     rw[ad.o];exact I)
   generalize s.origins[j]=o at *;obtain⟨H,o2⟩:=o;simp only at U c1;have aG:=κ (an.o (H,o2) rfl);obtain⟨W1,N⟩:=ν (wr.alloc (.cells #[ι H,ι o2] 58));have J:Hid (qa w W1):=κ (by rw[<-N];exact(ao.o.trans G.o).al _);have ap:Hid (qa w1 W1):=κ (by rw[<-N];exact G.o.al _);have aD:Hid (W1.heap[wr.heap.size]? =some (.cells #[ι H,ι o2] 58 (0,0))):=κ (by rw[<-N];exact qk wr _);have ae:=λ(x:qp W1)=>qc x.h aD.o
   have aV:=λx=>β0 (ae x);have aW:=λx=>β1 (ae x);clear ae
   have af:=λ(x:qp W1)=>qc (J.o.trans x.h) O.o.blk
   have aR:=λx=>β13 (af x);have aS:=λx=>β9 (af x);clear af
   have aU:=λ(x:qp W1)=>β0 (qc (J.o.trans x.h) Y.blk)
   have aT: ∀x:qp W1,(Instr.lookup 91 (.map (some k.MS)) (θ #[ι H,ι o2]) false).run prog x.w'= .ok (γ p) x.w':=λx=>by
    have:=yf ((O.o.all .sts).2.more (J.o.trans x.h)) (H,o2) false;rw[az] at this;exact this
   have ak: ∀x:qp W1,Calls prog 119 #[γ aq,ι s.clock] x.w' λe w'=>e= .returned (μ (jN t.buf s.clock))/\qa x.w' w':=λx=>Yg t.buf Y.ok aq v s.clock aF.o x.w' (Y.buf.on (J.o.trans x.h))
   generalize jN t.buf s.clock=rd at *;have aE:=κ ak;clear ak Y az ag am ad an
   go_upto_region 4 with fail
   (try rw[N])
   clear N U c1;refine qz _ (qa.refl _) ξ ξ ?_
   repeat (go_big_quiet_step ((go_at_call 119;exact jY (aE.o _))))
   refine wpQuiet_nil ?_;intro _ aQ;obtain⟨aj,rfl⟩:=aQ;cases rd with
   | true=>
    have au:=aG.o rfl;have aY:w.heap.size≠wr.heap.size:=by have:=G.o.size;have:=ql aa.o;omega
    have d:=κ (qc (ap.o.trans aj.h) aa.o);have aK:=qd d.o 0;have aL:=qd d.o 1;have aM:=β0 d.o;have aN:=β1 d.o;have ab:=κ au;clear au;go_wp2
    (refine bodyPost_ret (v:= .tuple #[θ #[ι H,ι o2],true]) (yD results73 _ _ (w.heap.size) 58 #[ι H,ι o2] _ _ rfl rfl (qA (qo (qo d.o 0 _) 1 _) rfl) underlying58 rfl ξ) rfl ?_)
    refine⟨?_,(J.o.trans aj.h).st (Nat.le_refl _) _ |>.st (Nat.le_refl _) _⟩;unfold RmS.readyO;rw[ab.o];rfl
   | false=>
    have aI:=κ (aJ.o rfl);go_wp2;go_roundw
    case rel=>exact⟨j+1,τ,by go_num,aI.o,ap.o.trans aj.h⟩
    case measure=>simp[intOf];omega
  ·obtain rfl:j=s.origins.length:=by omega
   have aO: ¬(s.origins.length:Int)<(s.origins.length:Int):=by omega
   have ay:s.ready=none:=Dg s.readyAt s.origins (λi hi=>ac.o i hi hi);have ab:=κ ay;have d:=κ (qc G.o aa.o);have aK:=qd d.o 0;have aL:=qd d.o 1;have aM:=β0 d.o;have aN:=β1 d.o;clear ay;go_wp2
   (refine bodyPost_ret (v:= .tuple #[θ #[ι 0,ι 0],false]) (yD results73 _ _ (w.heap.size) 58 #[ι 0,ι 0] _ _ rfl rfl (qA (qo (qo d.o 0 _) 1 _) rfl) underlying58 rfl ξ) rfl ?_)
   refine⟨?_,(ao.o.trans G.o).st (Nat.le_refl _) _ |>.st (Nat.le_refl _) _⟩;unfold RmS.readyO;rw[ab.o];rfl
end
end
end Go.Proofs.YtlmllmonabafjaaGreatDoor
