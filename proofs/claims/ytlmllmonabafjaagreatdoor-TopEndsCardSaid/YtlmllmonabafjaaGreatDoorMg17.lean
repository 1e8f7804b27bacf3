/- Contracts of the functions that the law reaches, and plain laws; no conditions but those written at each. -/
import Derived.Shelf.Sort.Plain
import Derived.Shelf.Slices.In.SortNone
import Derived.Sort.OwnSortedInts
import Derived.Test.YtlmllmonabafjaaGreatDoorMg15
namespace Go.Proofs.YtlmllmonabafjaaGreatDoor
open Go.Value renaming bool->μ,slice->δ,pointer->π,agg->θ
open Go.IntKind renaming i64->ι,u8->υ,u16->φ,u32->ω,i32->χ,u64->ψ
open _root_.Go.Proofs.Tryz
set_option linter.unusedSimpArgs false
set_option maxHeartbeats 8000000
set_option linter.unusedVariables false
open Go.Shelf
def Kl:Go.Shelf.Ren:=⟨fun | 189=>116 | 125=>169 | 257=>168 | 128=>229 | 129=>230 | 294=>220 | 295=>221 | 296=>222 | 297=>223 | 298=>224 | 299=>225 | 216=>226 | 300=>227 | 301=>228 | 328=>272 | 329=>273 | 330=>274 | 331=>275 | 332=>276 | 215=>277 | 343=>302 | n=>n,fun | 28=>107 | 3=>3 | 46=>335 | 0=>0 | 51=>38 | 53=>231 | 4=>4 | 183=>400 | 182=>399 | 131=>200 | 5=>5 | 9=>9 | 218=>443 | 222=>447 | 228=>469 | 229=>100 | n=>n,fun | n=>n⟩
theorem WW:Go.Proofs.Lays.n189 prog Kl:={
 mixed:=by kernel_rfl
 f125:=func169.trans (congrArg some ξ)
 f128:=func229.trans (congrArg some ξ)
 f129:=func230.trans (congrArg some ξ)
 f189:=func116.trans (congrArg some ξ)
 f215:=func277.trans (congrArg some ξ)
 f216:=func226.trans (congrArg some ξ)
 f257:=func168.trans (congrArg some ξ)
 f294:=func220.trans (congrArg some ξ)
 f295:=func221.trans (congrArg some ξ)
 f296:=func222.trans (congrArg some ξ)
 f297:=func223.trans (congrArg some ξ)
 f298:=func224.trans (congrArg some ξ)
 f299:=func225.trans (congrArg some ξ)
 f300:=func227.trans (congrArg some ξ)
 f301:=func228.trans (congrArg some ξ)
 f328:=func272.trans (congrArg some ξ)
 f329:=func273.trans (congrArg some ξ)
 f330:=func274.trans (congrArg some ξ)
 f331:=func275.trans (congrArg some ξ)
 f332:=func276.trans (congrArg some ξ)
 f343:=func302.trans (congrArg some ξ)
 t0:=underlying0
 a0:=isAgg0
 z0:=sizeOf0
 v0:=zeroValue0
 t3:=underlying3
 a3:=isAgg3
 z3:=sizeOf3
 v3:=zeroValue3
 t4:=underlying4
 a4:=isAgg4
 z4:=sizeOf4
 v4:=zeroValue4
 t5:=underlying5
 a5:=isAgg5
 z5:=sizeOf5
 v5:=zeroValue5
 t9:=underlying9
 a9:=isAgg9
 z9:=sizeOf9
 v9:=zeroValue9
 t28:=underlying107
 a28:=isAgg107
 z28:=sizeOf107
 v28:=zeroValue107
 t46:=underlying335
 a46:=isAgg335
 z46:=sizeOf335
 v46:=zeroValue335
 t51:=underlying38
 a51:=isAgg38
 z51:=sizeOf38
 v51:=zeroValue38
 t53:=underlying231
 a53:=isAgg231
 z53:=sizeOf231
 v53:=zeroValue231
 t131:=underlying200
 a131:=isAgg200
 z131:=sizeOf200
 v131:=zeroValue200
 t182:=underlying399
 a182:=isAgg399
 z182:=sizeOf399
 v182:=zeroValue399
 t183:=underlying400
 a183:=isAgg400
 z183:=sizeOf400
 v183:=zeroValue400
 t218:=underlying443
 a218:=isAgg443
 z218:=sizeOf443
 v218:=zeroValue443
 t222:=underlying447
 a222:=isAgg447
 z222:=sizeOf447
 v222:=zeroValue447
 t228:=underlying469
 a228:=isAgg469
 z228:=sizeOf469
 v228:=zeroValue469
 t229:=underlying100
 a229:=isAgg100
 z229:=sizeOf100
 v229:=zeroValue100}
open Go.RowKit
def srt (l:List Int):List Int:=l.mergeSort λx y=>decide (x<=y)
theorem vI (l:List Int):(srt l).length=l.length:=by unfold srt;simp
theorem gL {a b:List Int} (h:a.Perm b):srt a=srt b:=by
 unfold srt;have I: ∀a b c:Int,decide (a<=b)=true->decide (b<=c)=true->decide (a<=c)=true:=λa b c d G=>by simp at *;omega
 have H: ∀a b:Int,(decide (a<=b)||decide (b<=a))=true:=λa b=>by simp;omega
 refine List.Perm.eq_of_pairwise (le:=λx y:Int=>decide (x<=y)=true) ?_ (List.pairwise_mergeSort I H a) (List.pairwise_mergeSort I H b) (((List.mergeSort_perm a _).trans h).trans (List.mergeSort_perm b _).symm);intro x y _ _ d G;simp at d G;omega
theorem Zh {l:List Int} (h:l.Pairwise (· <= ·)):srt l=l:=List.mergeSort_of_pairwise (by simpa using h)
theorem WG {l:List Int} {x:Int}:x∈srt l↔x∈l:=(List.mergeSort_perm l _).mem_iff
theorem jS {w:World} {base e size n:Nat} {v:Value} {xs:List Value} (h:w.ownsRow base e size v n xs) {q:Nat} (d:v.ownBlock=some q):base<=q:=by
 rcases h.2 with ⟨rfl,_⟩ | ⟨b,cap,cur,rfl,G,_⟩
 ·cases d
 ·cases d;exact G
theorem Yx {S:Nat->Prop} {w w':World} {base e size n:Nat} {v:Value} {xs:List Value} (h:w.ownsRow base e size v n xs) (m:qg S w w') (H: ∀k,S k->k<base):w'.ownsRow base e size v n xs:=by
 obtain⟨d,G⟩:=h;refine⟨d, ?_⟩;rcases G with h | ⟨g,cap,cur,e1,hb,hg,rest⟩
 ·exact Or.inl h
 ·exact Or.inr ⟨g,cap,cur,e1,hb,m.blk hg (λx=>by have:=H g x;omega),rest⟩
theorem DQ {w:World} {base:Nat} {v:Value} {l:List Int} (h:w.ownsRow base 3 1 v l.length (l.map (Value.int .i64))) (O:l.length<4611686018427387904):
  Calls prog 116 #[v] w λe w'=>e= .returned (.tuple #[])/\w'.ownsRow base 3 1 v (srt l).length ((srt l).map (Value.int .i64))/\w.grownBy w' v.ownBlock:=by
 obtain⟨ac,h⟩:=h;rcases h with ⟨rfl,U⟩ | ⟨b,cap,cur,rfl,I,H,J,N,Y,aa⟩
 ·have e0:l=[]:=by simpa using U
  subst e0;refine(Any.slices_Sort_int_none WW none 0 w).mono λe w' ⟨d,G⟩=> ?_
  subst G;exact⟨d,⟨by simp[srt],Or.inl ⟨rfl,by simp[srt]⟩⟩,⟨rfl,rfl,rfl,Nat.le_refl _,λ_ _ _=>rfl⟩⟩
 ·have ab:cur.toList.take l.length=l.map (Value.int .i64):=by simpa using aa
  refine(Any.slices_Sort_int WW b 0 cap l w (holds_of_blockI H ab) (lt_of_block H) O).mono λe w' ⟨d,n,os,G⟩=> ?_
  subst G;refine⟨d, ?_,grownBy_sortedI _⟩;have:=ownsRow_sortedI (w:=w) (n:=n) (os:=os) (ss:=l) (ts:=srt l) (vI l) I H J N Y;rw[vI];exact this
section
open Go.RowKit
set_option maxRecDepth 100000
def xS (sub:Int) (l:Bk):List Int:=l.filterMap λp=>if p.1.1=sub/\p.2=0 then some p.1.2 else none
def jz (m:Bk) (sub:Int):List Int:=srt (xS sub m)
theorem kN (sub:Int) (l:Bk):(xS sub l).length<=l.length:=List.length_filterMap_le _ _
theorem Xe {K V:Type} (L:List (K×V)) (is:List Nat):(zj L is).length<=is.length:=List.length_filterMap_le _ _
theorem Ki (sub:Int) (l:Bk) (p:(Int×Int)×Int):xS sub (l++[p])=xS sub l++(if p.1.1=sub/\p.2=0 then [p.1.2] else []):=by
 unfold xS;rw[List.filterMap_append];by_cases h:p.1.1=sub/\p.2=0<;>simp[h]
theorem Yc {w:World} {B b:Nat} {m:Bk} (h:jy w B b m) (sub:Int) (aA:m.length<=1000000):
  Calls prog 70 #[γ B,ι sub] w λe w'=>(∃v,e= .returned v/\SlI .i64 w' v (jz m sub)/\ ∀q,v.ownBlock=some q->w.heap.size<=q)/\qa w w':=by
 obtain⟨aV,hi,aS,aT,aU⟩:=info_parts (P:=prog) (e:=3) (z:= ι 0) (size:=1) (bytes:=8) ξ;have aX:=β0 h.blk;have aW:=κ h;have aj:=κ aA;obtain⟨w1,bg,av,ar,aQ⟩:=h.map.range (P:=prog) underlying236;have aZ:=h.map.lt;have aI:=κ av;have aF:=κ ar;clear h aA av ar aQ
 go_enter func70,ntmps70
 go_wp2
 go_loopw [5] (λv5 wr=> ∃is:List Nat,jW wr w.heap.size b ke2 (Value.int .i64) m is/\wr.ownsRow (w.heap.size+1) 3 1 v5 (xS sub (zj m is)).length ((xS sub (zj m is)).map (Value.int .i64))/\qa w wr) (λ_ wr=>uO wr b w.heap.size)
 case atStart=>exact⟨[],aI.o,World.ownsRow_nil _ _ _ _,aF.o⟩
 case round=>
  obtain⟨is,O,an,ak⟩:=hrel;have aq:=κ O;have ac:=κ an;have af:=κ ak;have ae:=κ O.left;rcases O.next (P:=prog) with ⟨ax,am⟩ | ⟨i,aN,w2,bd,bb,am,aw,ah,aR,ay⟩
  ·clear O an ak;have ao:=κ ax;clear ax;have aO:(xS sub (zj m is)).length<4611686018427387904:=by
    have H:=kN sub (zj m is);have J:=Xe m is;have aY:=ao.o;have aK:=aj.o;omega
   go_wp2_with (go_at_call 116;(go_call DQ ac.o aO as e bi ⟨rfl,U,az⟩;have aG:=κ U;have aD:=κ az;clear U az))
   go_ret;have aP:=aq.o.perm ao.o;have aJ:srt (xS sub (zj m is))=jz m sub:=gL (aP.filterMap _);have U:=aG.o;rw[aJ] at U;refine⟨⟨_,rfl,SlI.of_owns U ?_,λq Y=>by have:=jS ac.o Y;omega⟩,af.o.grown aD.o af.o.size ?_⟩
   ·have H:=kN sub m;have J:(jz m sub).length=(xS sub m).length:=vI _;have aK:=aj.o;omega
   ·intro q Y;have:=jS ac.o Y;omega
  ·have be:=kN sub (zj m is);have bf:=Xe m is;have aB:=uW (L:=m) (is:=is) aN;have d:=Ki sub (zj m is) m[i];rw[<-aB] at d;have ba:=aj.o;have bc:is.length<1000000:=by omega
   clear O an ak aB;generalize m[i]=p at *;obtain⟨⟨aa,ad⟩,f⟩:=p;unfold ke2 at am ay;simp only at am ay d;have G:=κ (Yx ac.o ah (λk ai=>by subst ai;exact Nat.lt_succ_self _));have I:=κ (aw.more (qa.alloc w2 (.cells #[ι aa,ι ad] 169)));have au:qa w w2:=qg.to_more af.o ah (λk ai=>by subst ai;exact Nat.le_refl _);have ab:=κ au;have bh:w.heap.size+1<=w2.heap.size:=by have:=lt_of_block (aq.o.rlt |> λh=>(Array.getElem?_eq_getElem h));omega
   clear aw ah au aR;by_cases H:aa=sub
   ·by_cases J:f=0
    ·subst H J;rw[if_pos ⟨rfl,rfl⟩] at d;have N:=κ d;clear d
     go_wp2_with (at_builtin;refine qU _ rfl (.tmp 26) (.tmp 29) 107 rfl (w.heap.size+1) 3 aV (ι 0) 8 underlying107 hi aS aT aU rfl _ .i64 (xS aa (zj m is)) rfl ((G.o.alloc _).alloc _) _ [ad] rfl (SlI.lit .i64 (w2.alloc (.cells #[ι aa,ι ad] 169)) [ad] 3 _ 1 _ η rfl η η) (by simp;omega) ζ (by simp;omega) ?_;intro v6 w6 aC ag _;have aH:=κ aC;have ap:=κ (qg.of_grown ag);have aE:=κ ag;clear aC ag)
     go_roundw
     case rel=>
      refine⟨is++[i],(I.o.more (qa.alloc _ _)).away ap.o ?_ ?_, ?_, ?_⟩
      ·intro e;have:=jS G.o e;omega
      ·intro e;have:=jS G.o e;omega
      ·rw[N.o];exact aH.o
      ·exact(((ab.o.al _).al _).grown aE.o ((ab.o.al _).al _).size (λq Y=>by have:=jS G.o Y;omega))
     case measure=>
      have aL:=(I.o.more (qa.alloc _ _)).away ap.o (λe=>by have:=jS G.o e;omega) (λe=>by have:=jS G.o e;omega);rw[ae.o,aL.left];simp;omega
    ·have aM:(f==0)=false:=by simpa using J
     rw[if_neg (λh=>J h.2),List.append_nil] at d;have N:=κ d;clear d J;subst H;go_wp2;go_roundw
     case rel=>exact⟨is++[i],I.o,by rw[N.o];exact G.o.alloc _,ab.o.al _⟩
     case measure=>
      rw[ae.o,I.o.left];simp;omega
   ·have aM:(aa==sub)=false:=by simpa using H
    rw[if_neg (λh=>H h.1),List.append_nil] at d;have N:=κ d;clear d H;go_wp2;go_roundw
    case rel=>exact⟨is++[i],I.o,by rw[N.o];exact G.o.alloc _,ab.o.al _⟩
    case measure=>
     rw[ae.o,I.o.left];simp;omega
end
section
open Go.RowKit
set_option maxRecDepth 100000
def vM (m:Bk) (sub f:Int):Bk:=m.map λp=>if p.1.1=sub/\p.2=0 then (p.1,f) else p
def Gl (m:Bk) (sub f:Int):Bk×List Int:=if 1<=f/\f<=8 then (vM m sub f,jz m sub) else (m,[])
def Yi (m:Bk) (sub f:Int) (ps:List Int):Bk:=ps.foldl (λm p=>qx m (sub,p) f) m
theorem PO (m:Bk) (sub f:Int) (ps:List Int) (p:Int):Yi m sub f (ps++[p])=qx (Yi m sub f ps) (sub,p) f:=by simp[Yi,List.foldl_append]
theorem VF {k:Int×Int} {f:Int}: ∀{m:Bk},(m.map Prod.fst).Nodup->k∈m.map Prod.fst->qx m k f=m.map λp=>if p.1=k then (p.1,f) else p
 | [],_,h=>by simp at h
 | (a,b)::l,hn,h=>by
  simp only[List.map_cons,List.nodup_cons] at hn;unfold qx;by_cases e:k=a
  ·subst e;rw[if_pos rfl];simp only[List.map_cons,if_pos]
   congr 1
   symm;have: ∀p∈l,(if p.1=k then (p.1,f) else p)=p:=λp d=>by
    rw[if_neg];intro e;exact hn.1 (by rw[<-e];exact List.mem_map_of_mem d)
   calc l.map (λp=>if p.1=k then (p.1,f) else p)=l.map id:=List.map_congr_left this
    _=l:=by simp
  ·rw[if_neg e];simp only[List.map_cons];rw[if_neg (λh=>e h.symm)]
   congr 1
   exact VF hn.2 (by simp[e] at h;simpa using h)
theorem VT (sub f:Int): ∀(ps:List Int) (m:Bk),(m.map Prod.fst).Nodup->(∀p∈ps,(sub,p)∈m.map Prod.fst)->Yi m sub f ps=m.map λp=>if p.1.1=sub/\p.1.2∈ps then (p.1,f) else p
 | [],m,_,_=>by simp[Yi]
 | p::ps,m,hn,hk=>by
  have d:=VF (f:=f) hn (hk p List.mem_cons_self);have e:Yi m sub f (p::ps)=Yi (qx m (sub,p) f) sub f ps:=rfl;have G:(qx m (sub,p) f).map Prod.fst=m.map Prod.fst:=by
   rw[d,List.map_map];refine List.map_congr_left λq _=> ?_
   simp only[Function.comp];split<;>rfl
  rw[e,VT sub f ps _ (by rw[G];exact hn) (λq H=>by rw[G];exact hk q (List.mem_cons_of_mem _ H)),d,List.map_map];refine List.map_congr_left λq _=> ?_
  obtain⟨⟨a,c⟩,g⟩:=q;simp only[Function.comp];by_cases ea:a=sub
  ·subst ea;by_cases ec:c=p
   ·subst ec;simp
   ·simp[ec]
  ·simp[ea]
theorem pendB_mem {m:Bk} {sub x:Int}:x∈jz m sub↔((sub,x),0)∈m:=by
 unfold jz xS;rw[WG,List.mem_filterMap];constructor
 ·rintro⟨⟨⟨a,c⟩,g⟩,d,h⟩;by_cases e:a=sub/\g=0
  ·rw[if_pos e] at h;cases h;obtain⟨rfl,rfl⟩:=e;exact d
  ·rw[if_neg e] at h;cases h
 ·intro h;exact⟨_,h,η⟩
theorem Pm {m:Bk} (d:(m.map Prod.fst).Nodup) {k:Int×Int} {f g:Int} (G:(k,f)∈m) (H:(k,g)∈m):f=g:=by
 induction m with
 | nil=>cases G
 | cons p l ih=>
  simp only[List.map_cons,List.nodup_cons] at d;rcases List.mem_cons.1 G with e1 | h1'<;>rcases List.mem_cons.1 H with e2 | h2'
  ·rw[<-e1] at e2;cases e2;rfl
  ·exfalso;apply d.1;rw[<-e1];exact List.mem_map.2 ⟨_,h2',rfl⟩
  ·exfalso;apply d.1;rw[<-e2];exact List.mem_map.2 ⟨_,h1',rfl⟩
  ·exact ih d.2 h1' h2'
theorem PQ {m:Bk} (sub f:Int) (d:(m.map Prod.fst).Nodup):Yi m sub f (jz m sub)=vM m sub f:=by
 rw[VT sub f _ m d (λp H=>List.mem_map_of_mem (f:=Prod.fst) (pendB_mem.1 H))];unfold vM;refine List.map_congr_left λq G=> ?_
 obtain⟨⟨a,c⟩,g⟩:=q;simp only;by_cases e:a=sub
 ·subst e;by_cases eg:g=0
  ·subst eg;rw[if_pos ⟨rfl,pendB_mem.2 G⟩,if_pos ⟨rfl,rfl⟩]
  ·rw[if_neg (λh=>eg (Pm d G (pendB_mem.1 h.2))),if_neg (λh=>eg h.2)]
 ·rw[if_neg (λh=>e h.1),if_neg (λh=>e h.1)]
theorem SlI.onmap {K V:Type} {k:IntKind} {w w':World} {b:Nat} {v:Value} {l:List Int} {ke:K->Value} {ac:V->Value} {L:List (K×V)} (h:SlI k w v l) (Y:jk w b ke ac L) (a:qg (λx=>x=b) w w'):SlI k w' v l:=by
 obtain⟨ab,cap,I,J,N,O⟩:=h;refine⟨ab,cap,I,J,λi hi=> ?_,O⟩;obtain⟨c,H,e,d,G⟩:=N i hi;have aa: ¬c=b:=by
  rintro rfl;obtain⟨ae,ad,U,_⟩:=Y.ex;simp[World.cell?,U] at G
 exact⟨c,H,e,Nat.lt_of_lt_of_le d a.size,by rw[a.cells c (H+i) d aa];exact G⟩
theorem OP {m:Bk} (k:Int×Int) (f:Int):(qx m k f).length<=m.length+1:=by
 induction m with
 | nil=>simp[qx]
 | cons p l ih=>
  unfold qx;split<;>simp<;>omega
theorem MN {w:World} {B b:Nat} {m:Bk} (h:jy w B b m) (sub f:Int) (au:m.length<=1000000):
  Calls prog 107 #[γ B,ι sub,ι f] w λe w'=>(∃v,e= .returned v/\SlI .i64 w' v (Gl m sub f).2/\ ∀q,v.ownBlock=some q->w.heap.size<=q)/\jy w' B b (Gl m sub f).1/\qg (λx=>x=b) w w':=by
 by_cases hf:1<=f/\f<=8
 ·have H:=κ hf;have J:=κ h;have G:Gl m sub f=(vM m sub f,jz m sub):=by unfold Gl;rw[if_pos hf]
  have O:=κ G;have aE:(jz m sub).length<=1000000:=by
   have az:=kN sub m;have aA:(jz m sub).length=(xS sub m).length:=vI _;omega
  clear h G hf
  go_enter func107,ntmps107
  go_wp2_with first | (go_at_call 166;(go_call yP f _ H.o as e w2 ⟨rfl,rfl⟩)) | (go_at_call 70;(go_call Yc J.o sub au as e aH ⟨⟨v3,rfl,al,ak⟩,aj⟩;have ap:=κ al;have ac:=κ aj;obtain⟨ax,aw,rfl,_⟩:=al;have ao:=κ ak;clear aj ak))
  go_loopw [18] (λi wr=> ∃j:Nat,j<=(jz m sub).length/\i= ι j/\jy wr B b (Yi m sub f ((jz m sub).take j))/\SlI .i64 wr (δ ax (jz m sub).length aw) (jz m sub)/\qg (λx=>x=b) w wr) (λi _=>(jz m sub).length-(intOf i).toNat)
  case atStart=>exact⟨0,τ,rfl,J.o.more ac.o,ap.o,qg.of_more ac.o⟩
  case round=>
   obtain⟨j,aB,rfl,d,Y,U⟩:=hrel;have N:=κ d;have ab:=κ Y;have aa:=κ U;have ay:=β0 d.blk;by_cases hlt:j<(jz m sub).length
   ·obtain⟨aF,cap,aq,_,ad,_⟩:=Y;cases aq;obtain⟨pb,aG,rfl,aD,ar⟩:=ad j hlt;have aC:(j:Int)<((jz m sub).length:Int):=by omega
    have af:(jz m sub).getD j 0=(jz m sub)[j]:=by simp[hlt]
    rw[af] at ar;have ai:(jz m sub).take (j+1)=(jz m sub).take j++[(jz m sub)[j]]:=List.take_succ_eq_append_getElem hlt;have an:=κ ai;clear ad af ai;generalize (jz m sub)[j]=p at *;obtain⟨w4,ah,ag,ae,_⟩:=d.map.update Ys underlying236 (sub,p) f;unfold ke2 at ah;simp only at ah;have am:=κ ag;have I:=κ ae;clear d U ag ae;go_wp2;go_roundw
    case rel=>
     refine⟨j+1,τ,by go_num, ?_,ab.o.onmap N.o.map I.o,aa.o.trans I.o⟩;rw[an.o,PO];exact N.o.put I.o (by have:=H.o;omega) am.o
    case measure=>simp[intOf];omega
   ·obtain rfl:j=(jz m sub).length:=by omega
    clear d Y U;go_wp2;go_ret;rw[O.o];have d:=N.o;rw[List.take_length,PQ sub f J.o.map.keys] at d;exact⟨⟨_,rfl,ab.o,ao.o⟩,d,aa.o⟩
 ·have G:Gl m sub f=(m,[]):=by unfold Gl;rw[if_neg hf]
  have O:=κ G;have H:=κ hf;clear G hf
  go_enter func107,ntmps107
  go_wp2_with (go_at_call 166;(go_call Jh f _ H.o as e w2 ⟨rfl,rfl⟩))
  go_ret;rw[O.o];exact⟨⟨_,rfl,SlI.nil _ _,λq av=>by cases av⟩,h,qg.refl _ _⟩
end
section
open Go.RowKit
set_option maxRecDepth 100000
def yU (pr:Sb->Bool) (u:List (Int×Sb)):List Int:=u.filterMap λp=>if pr p.2 then some p.1 else none
def uo (pr:Sb->Bool) (u:List (Int×Sb)):List Int:=srt (yU pr u)
def zV (own:Int) (x:Sb):Bool:=decide (x.1=own)
def j8 (pub:Int) (x:Sb):Bool:=x.2.1&&decide (x.2.2=pub)
theorem kg (d:Sb->Bool) (u:List (Int×Sb)):(yU d u).length<=u.length:=List.length_filterMap_le _ _
theorem uX {K V:Type} (L:List (K×V)) (is:List Nat):(zj L is).length<=is.length:=List.length_filterMap_le _ _
theorem ZB (d:Sb->Bool) (u:List (Int×Sb)) (p:Int×Sb):yU d (u++[p])=yU d u++(if d p.2 then [p.1] else []):=by
 unfold yU;rw[List.filterMap_append];by_cases h:d p.2=true<;>simp[h]
theorem Hi {w:World} {C:Nat} (d:Int) (x:Sb) (G:w.cell? ⟨C,0,none⟩=some (ω d)) (I:C<w.heap.size):
  Calls prog 243 #[θ #[ω x.1,x.2.1,ι x.2.2],γ C] w λe w'=>e= .returned (μ (zV d x))/\qa w w':=by
 have H:=(qa.alloc w (.cells #[ω x.1,x.2.1,ι x.2.2] 298)).cells C 0 I;rw[G] at H
 go_enter func243,ntmps243
 go_wp2;go_ret;exact⟨qZ (by unfold zV;rw[Bool.eq_iff_iff];simp),qa.alloc _ _⟩
theorem Hh {w:World} {C:Nat} (d:Int) (x:Sb) (J:w.cell? ⟨C,0,none⟩=some (ι d)) (N:C<w.heap.size):
  Calls prog 204 #[θ #[ω x.1,x.2.1,ι x.2.2],γ C] w λe w'=>e= .returned (μ (j8 d x))/\qa w w':=by
 have H:=(qa.alloc w (.cells #[ω x.1,x.2.1,ι x.2.2] 298)).cells C 0 N;rw[J] at H;cases hb:x.2.1 with
 | false=>
  have G:j8 d x=false:=by unfold j8;rw[hb];rfl
  rw[hb] at H
  go_enter func204,ntmps204
  go_wp2;go_ret;exact⟨qZ G.symm,qa.alloc _ _⟩
 | true=>
  have G:j8 d x=decide (x.2.2=d):=by unfold j8;rw[hb];rfl
  rw[hb] at H;have I:=κ G;clear G
  go_enter func204,ntmps204
  go_wp2;go_ret;exact⟨qZ (by rw[I.o,Bool.eq_iff_iff];simp),qa.alloc _ _⟩
theorem Ψ7 {P:Prop} (h:P:=by
 obtain⟨bb,hi,aY,aZ,ba⟩:=info_parts (P:=prog) (e:=3) (z:= ι 0) (size:=1) (bytes:=8) ξ;have c2:=β2 h.blk;have aG:=κ aw;have ai:=κ aD;obtain⟨w1,bk,ay,ax,aV⟩:=h.mu.range (P:=prog) underlying240;have bd:=h.mu.lt;have aM:=κ ay;have aJ:=κ ax;clear h aD ay ax aV aw;generalize aX:t.u=u at *;clear aX
 go_enter func203,ntmps203
 go_wp2
 go_loopw [5] (λv5 wr=> ∃is:List Nat,jW wr w.heap.size c (Value.int .i64) vS u is/\wr.ownsRow (w.heap.size+1) 3 1 v5 (yU (Ξa v0) (zj u is)).length ((yU (Ξa v0) (zj u is)).map (Value.int .i64))/\qa w wr) (λ_ wr=>uO wr c w.heap.size)
 case atStart=>exact⟨[],aM.o,World.ownsRow_nil _ _ _ _,aJ.o⟩
 case round=>
  obtain⟨is,J,am,aj⟩:=hrel;have au:=κ J;have aa:=κ am;have ab:=κ aj;have aq:=κ J.left;rcases J.next (P:=prog) with ⟨aA,ak⟩ | ⟨i,aS,w2,bh,bf,ak,az,ag,aW,aB⟩
  ·clear J am aj;have ao:=κ aA;clear aA;have aT:(yU (Ξa v0) (zj u is)).length<4611686018427387904:=by
    have aO:=kg (Ξa v0) (zj u is);have aP:=uX u is;have bc:=ao.o;have aQ:=ai.o;omega
   go_wp2_with (go_at_call 116;(go_call DQ aa.o aT as e bm ⟨rfl,N,aC⟩;have aK:=κ N;have aH:=κ aC;clear N aC))
   go_ret;have aU:=au.o.perm ao.o;have aN:srt (yU (Ξa v0) (zj u is))=uo (Ξa v0) u:=gL (aU.filterMap _);have N:=aK.o;rw[aN] at N;refine⟨⟨_,rfl,SlI.of_owns N ?_,λq O=>by have:=jS aa.o O;omega⟩,ab.o.grown aH.o ab.o.size ?_⟩
   ·have aO:=kg (Ξa v0) u;have aP:(uo (Ξa v0) u).length=(yU (Ξa v0) u).length:=vI _;have aQ:=ai.o;omega
   ·intro q O;have:=jS aa.o O;omega
  ·have bi:=kg (Ξa v0) (zj u is);have bj:=uX u is;have aE:=uW (L:=u) (is:=is) aS;have G:=ZB (Ξa v0) (zj u is) u[i];rw[<-aE] at G;have be:=ai.o;have bg:is.length<1000000:=by omega
   clear J am aj aE;generalize u[i]=p at *;obtain⟨k,x⟩:=p;unfold vS at ak aB;simp only at ak aB G;have H:=κ (Yx aa.o ag (λz an=>by subst an;exact Nat.lt_succ_self _));have av:=κ (az.more (qa.alloc w2 (.cells #[ω x.1,x.2.1,ι x.2.2] 298)));have ah:qa w w2:=qg.to_more ab.o ag (λz an=>by subst an;exact Nat.le_refl _);have ar:=κ ah;have bl:w.heap.size+1<=w2.heap.size:=by have:=au.o.rlt;omega
   have U:=κ (qs (qc ah aG.o) (.cells #[ω x.1,x.2.1,ι x.2.2] 298));clear az ag ah aW;cases hpr:Ξa v0 x with
   | true=>
    rw[hpr,if_pos rfl] at G;have ad:=κ G;have ae:=κ hpr;clear G hpr
    go_wp2_with first | (((with_reducible refine(Ξb v0 x (qb U.o 0 rfl) (qn U.o)).mono ?_);rintro e w4 ⟨rfl,d⟩;rw[ae.o];have I:=κ (av.o.more d);have ac:=κ (jE (H.o.alloc (.cells #[ω x.1,x.2.1,ι x.2.2] 298)) d);have Y:=κ ((ar.o.al (.cells #[ω x.1,x.2.1,ι x.2.2] 298)).trans d);have z4:w.heap.size+1<=w4.heap.size:=Nat.le_trans (by simp;omega) d.size;clear d)) | (at_builtin;refine qU _ rfl (.tmp 21) (.tmp 23) 107 rfl (w.heap.size+1) 3 bb (ι 0) 8 underlying107 hi aY aZ ba rfl _ .i64 (yU (Ξa v0) (zj u is)) rfl (ac.o.alloc _) _ [k] rfl (SlI.lit .i64 w4 [k] 3 _ 1 _ η rfl rfl η) (by simp;omega) ζ (by simp;omega) ?_;intro v6 w6 aF af _;have aL:=κ aF;have ap:=κ (qg.of_grown af);have aI:=κ af;clear aF af)
    go_roundw
    case rel=>
     refine⟨is++[i],(I.o.more (qa.alloc _ _)).away ap.o ?_ ?_, ?_, ?_⟩
     ·intro e;have:=jS H.o e;omega
     ·intro e;have:=jS H.o e;omega
     ·rw[ad.o];exact aL.o
     ·exact((Y.o.al _).grown aI.o (Y.o.al _).size (λq O=>by have:=jS H.o O;omega))
    case measure=>
     have aR:=(I.o.more (qa.alloc _ _)).away ap.o (λe=>by have:=jS H.o e;omega) (λe=>by have:=jS H.o e;omega);rw[aq.o,aR.left];simp;omega
   | false=>
    rw[hpr,if_neg η,List.append_nil] at G;have ad:=κ G;have ae:=κ hpr;clear G hpr
    go_wp2_with (((with_reducible refine(Ξb v0 x (qb U.o 0 rfl) (qn U.o)).mono ?_);rintro e w4 ⟨rfl,d⟩;rw[ae.o];have I:=κ (av.o.more d);have ac:=κ (jE (H.o.alloc (.cells #[ω x.1,x.2.1,ι x.2.2] 298)) d);have Y:=κ ((ar.o.al (.cells #[ω x.1,x.2.1,ι x.2.2] 298)).trans d);clear d))
    go_roundw
    case rel=>exact⟨is++[i],I.o,by rw[ad.o];exact ac.o,Y.o⟩
    case measure=>
     rw[aq.o,I.o.left];simp;omega):P:=h
section
open _root_.Go.Proofs.YtlmllmonabafjaaGreatDoor renaming zV->Ξa,Hi->Ξb
theorem Ku {w:World} {T a b c C:Nat} {t:TS} (h:jq w T a b c t) (v0:Int) (aw:w.heap[C]? =some (.cells #[ω v0] 38 (0,0))) (aD:t.u.length<=1000000):
  Calls prog 203 #[γ T,.func (.func 243) #[] #[γ C]] w λe w'=>(∃v,e= .returned v/\SlI .i64 w' v (uo (zV v0) t.u)/\ ∀q,v.ownBlock=some q->w.heap.size<=q)/\qa w w':=Ψ7
end
section
open _root_.Go.Proofs.YtlmllmonabafjaaGreatDoor renaming j8->Ξa,Hh->Ξb
theorem Dm {w:World} {T a b c C:Nat} {t:TS} (h:jq w T a b c t) (v0:Int) (aw:w.heap[C]? =some (.cells #[ι v0] 3 (0,0))) (aD:t.u.length<=1000000):
  Calls prog 203 #[γ T,.func (.func 204) #[] #[γ C]] w λe w'=>(∃v,e= .returned v/\SlI .i64 w' v (uo (j8 v0) t.u)/\ ∀q,v.ownBlock=some q->w.heap.size<=q)/\qa w w':=Ψ7
end
end
section
open Go.RowKit
set_option maxRecDepth 100000
def Ge (x:Int) (l:List Int) (w:World) (e:Ending) (w':World):Prop:= ∃n:Int,(0<=n↔x∈l)/\ -1<=n/\e= .returned (.int .i64 n)/\w=w'
theorem Ψ8 {P:Prop} (h:P:=by
 obtain⟨af,cap,rfl,ae,H,_⟩:=s
 go_enter Ξa,Ξb
 go_wp2
 go_loop [8] (λi=> ∃k:Nat,k<=l.length/\i= ι k/\x∉l.take k) (λi=>l.length-(intOf i).toNat)
 case atStart=>exact⟨0,τ,rfl,η⟩
 case round=>
  obtain⟨k,ac,rfl,d⟩:=hrel;by_cases hlt:k<l.length
  ·obtain⟨b,ag,rfl,ab,U⟩:=H k hlt;have ad:(k:Int)<(l.length:Int):=by omega
   have I:l.getD k 0=l[k]:=by simp[hlt]
   rw[I] at U;have J:l.take (k+1)=l.take k++[l[k]]:=List.take_succ_eq_append_getElem hlt;have Y:l[k]∈l:=List.getElem_mem hlt;have O:=κ J;have G:=κ d;clear H I J d;generalize l[k]=y at *;by_cases e:x=y
   ·subst e;go_wp2;go_ret;exact⟨k,⟨λ_=>Y,λ_=>by omega⟩,τ,rfl,rfl⟩
   ·have aa:(x==y)=false:=by simpa using e
    have N:=κ e;clear e;go_wp2
    go_round
    case rel=>exact⟨k+1,τ,by go_num,by rw[O.o];simp;exact⟨G.o,N.o⟩⟩
    case measure=>simp[intOf];omega
  ·obtain rfl:k=l.length:=by omega
   clear H;have G:=κ d;clear d;go_wp2;go_ret;refine⟨-1,⟨λh=>by omega,λh=> ?_⟩,τ,rfl,rfl⟩;have:=G.o;rw[List.take_length] at this;exact absurd h this):P:=h
section
open _root_.Go.Proofs.Tryz renaming func219->Ξa,ntmps219->Ξb
theorem Lu {w:World} {v:Value} {l:List Int} (x:Int) (s:SlI .u32 w v l):Calls prog 219 #[v,ω x] w (Ge x l w):=Ψ8
end
theorem Yb {w:World} {v:Value} {l:List Int} (x:Int) (s:SlI .u32 w v l):Calls prog 164 #[v,ω x] w λe w'=>e= .returned (μ (decide (x∈l)))/\w=w':=by
 go_enter func164,ntmps164
 go_wp2_with (go_at_call 219;(go_call Lu x s as e w2 ⟨n,d,H,rfl,rfl⟩;have G:=κ d;clear d))
 go_ret;exact⟨qZ (by rw[Bool.eq_iff_iff];simp only[decide_eq_true_eq];exact G.o),rfl⟩
def oAt (o:List (Int×Og)) (p s0 s1 s2:Int):Nat->List (Int×Og)
 | 0=>o
 | 1=>qx o s0 (p,0)
 | 2=>qx (qx o s0 (p,0)) s1 (p,1)
 | _=>qx (qx (qx o s0 (p,0)) s1 (p,1)) s2 (p,2)
def sAt (s:List (Og×Int)) (p s0 s1 s2:Int):Nat->List (Og×Int)
 | 0=>s
 | 1=>qx s (p,0) s0
 | 2=>qx (qx s (p,0) s0) (p,1) s1
 | _=>qx (qx (qx s (p,0) s0) (p,1) s1) (p,2) s2
theorem BE (o:List (Int×Og)) (p s0 s1 s2:Int) (k:Nat) (h:k<3):oAt o p s0 s1 s2 (k+1)=qx (oAt o p s0 s1 s2 k) ([s0,s1,s2].getD k 0) (p,(k:Int)):=by
 have:k=0∨k=1∨k=2:=by omega
 rcases this with rfl | rfl | rfl<;>rfl
theorem AW (s:List (Og×Int)) (p s0 s1 s2:Int) (k:Nat) (h:k<3):sAt s p s0 s1 s2 (k+1)=qx (sAt s p s0 s1 s2 k) (p,(k:Int)) ([s0,s1,s2].getD k 0):=by
 have:k=0∨k=1∨k=2:=by omega
 rcases this with rfl | rfl | rfl<;>rfl
def KI (s0 s1 s2:Int):Prop:=s1=s0∨s2=s0∨s2=s1
instance (s0 s1 s2:Int):Decidable (KI s0 s1 s2):=by unfold KI;exact inferInstance
def vA (t:TS) (p s0 s1 s2:Int):TS×Int:=if 0<=p/\p<3 then (if KI s0 s1 s2 then (t,1) else if (qh t.s (p,0)).isSome then (t,6) else if (qh t.o s0).isSome∨(qh t.o s1).isSome∨(qh t.o s2).isSome then (t,6)
 else ({t with o:=oAt t.o p s0 s1 s2 3,s:=sAt t.s p s0 s1 s2 3},0)) else (t,1)
theorem IK {s0 s1 s2:Int} {k:Nat} (h:k<3) (d:[s0,s1,s2].getD k 0∈[s0,s1,s2].take k):KI s0 s1 s2:=by
 have:k=0∨k=1∨k=2:=by omega
 unfold KI;rcases this with rfl | rfl | rfl<;>simp at d<;>omega
theorem IJ {s0 s1 s2:Int} (h: ∀k,k<3->[s0,s1,s2].getD k 0∉[s0,s1,s2].take k): ¬KI s0 s1 s2:=by
 have d:=h 1 τ;have G:=h 2 τ;simp at d G;unfold KI;omega
theorem Np {p:Int->Prop} {s0 s1 s2:Int} {k:Nat} (h:k<3) (d:p ([s0,s1,s2].getD k 0)):p s0∨p s1∨p s2:=by
 have:k=0∨k=1∨k=2:=by omega
 rcases this with rfl | rfl | rfl
 ·exact Or.inl d
 ·exact Or.inr (Or.inl d)
 ·exact Or.inr (Or.inr d)
theorem Nr {p:Int->Prop} {s0 s1 s2:Int} (h: ∀k,k<3-> ¬p ([s0,s1,s2].getD k 0)): ¬(p s0∨p s1∨p s2):=by
 rintro(a | a | a)
 ·exact h 0 τ a
 ·exact h 1 τ a
 ·exact h 2 τ a
theorem Hy (s0 s1 s2:Int) (k:Nat) (h:k<3) (w:World):(Instr.index 40 (θ #[ω s0,ω s1,ω s2]) (ι (k:Int))).run prog w= .ok (ω ([s0,s1,s2].getD k 0)) w:=by
 have:k=0∨k=1∨k=2:=by omega
 rcases this with rfl | rfl | rfl
 all_goals first | rfl | simp[go_sem]
theorem sl3 (C k:Nat) (H:k<=3) (w:World):(Instr.sliceAt 40 (γ C) none (some (ι (k:Int))) none).run prog w= .ok (δ (some ⟨C,0,none⟩) k 3) w:=by
 have d:prog.arrayLen 40=3:=by kernel_rfl
 have G:(sizeOf (prog.elem 40)).run prog w= .ok 1 w:=by kernel_rfl
 rw[run_sliceAt_array_h w 40 ⟨C,0,none⟩ ξ .i64 (k:Int) τ (by rw[d];omega),G,d];simp[slicedAt,Addr.add]
theorem MQ {w:World} {C:Nat} {s0 s1 s2:Int} (h:w.heap[C]? =some (.cells #[ω s0,ω s1,ω s2] 40 (0,0))) (k:Nat) (G:k<=3):SlI .u32 w (δ (some ⟨C,0,none⟩) k 3) ([s0,s1,s2].take k):=by
 have d:([s0,s1,s2].take k).length=k:=by simp;omega
 refine⟨some ⟨C,0,none⟩,3,by rw[d],by rw[d];omega,λi hi=> ?_,by rw[d];exact G,by unfold maxLen;omega,λh=>by cases h⟩;rw[d] at hi;refine⟨C,0,rfl,qn h,qb h _ ?_⟩;have:i=0∨i=1∨i=2:=by omega
 rcases this with rfl | rfl | rfl
 ·have:([s0,s1,s2].take k).getD 0 0=s0:=by rw[List.getD_eq_getElem?_getD,List.getElem?_take_of_lt τ];rfl
  rw[this];rfl
 ·have:([s0,s1,s2].take k).getD 1 0=s1:=by rw[List.getD_eq_getElem?_getD,List.getElem?_take_of_lt τ];rfl
  rw[this];rfl
 ·have:([s0,s1,s2].take k).getD 2 0=s2:=by rw[List.getD_eq_getElem?_getD,List.getElem?_take_of_lt τ];rfl
  rw[this];rfl
def kJ (r:TS×Int) (T a b c:Nat) (w:World) (e:Ending) (w':World):Prop:=e= .returned (.int .i64 r.2)/\jq w' T a b c r.1/\qg (λz=>z=a∨z=b) w w'
theorem Dw {w:World} {T a b c:Nat} {t:TS} (h:jq w T a b c t) (p s0 s1 s2:Int):
    Calls prog 104 #[γ T,ι p,θ #[ω s0,ω s1,ω s2]] w (kJ (vA t p s0 s1 s2) T a b c w):=by
  by_cases hp:0<=p/\p<3
  · have I:=κ hp
    have G:=κ h
    have aE:=qj w (.cells #[ω s0,ω s1,ω s2] 40)
    have aA:=κ aE
    clear hp h aE
    go_enter func104,ntmps104
    go_wp2_with (go_at_call 163;(go_call vw p _ I.o as e w2 ⟨rfl,rfl⟩))
    go_loop [20] (λi=> ∃k:Nat,k<=3/\i= ι k/\ ∀j,j<k->[s0,s1,s2].getD j 0∉[s0,s1,s2].take j) (λi=>3-(intOf i).toNat)
    case atStart=>exact⟨0,τ,rfl,λj ar=>by omega⟩
    case round=>
      obtain⟨k,aJ,rfl,aa⟩:=hrel
      have H:=κ aa
      clear aa
      by_cases hk3:k<3
      · have aK:(k:Int)<3:=by omega
        have aI:=λw=>Hy s0 s1 s2 k hk3 w
        have aB:=κ (MQ aA.o k τ)
        have bc:=λw'=>sl3 w.heap.size k τ w'
        have aO:=κ (IK (s0:=s0) (s1:=s1) (s2:=s2) hk3)
        have ah:Hid (∀y,[s0,s1,s2].getD k 0=y->y∉[s0,s1,s2].take k-> ∀j,j<k+1->[s0,s1,s2].getD j 0∉[s0,s1,s2].take j):=κ (λy e au j ar=>by
          subst e
          by_cases e:j<k
          · exact H.o j e
          · obtain rfl:j=k:=by omega
            exact au)
        generalize ay:[s0,s1,s2].getD k 0=y at *
        clear ay
        by_cases J:y∈[s0,s1,s2].take k
        · have U:=κ J
          clear J
          go_wp2_with (go_at_call 164;(go_call Yb y aB.o as e w2 ⟨rfl,rfl⟩;rw[decide_eq_true U.o]))
          go_ret
          have d:vA t p s0 s1 s2=(t,1):=by unfold vA;rw[if_pos I.o,if_pos (aO.o U.o)]
          unfold kJ
          rw[d]
          exact⟨rfl,G.o.more (qa.alloc _ _),qg.of_more (qa.alloc _ _)⟩
        · have U:=κ J
          clear J
          go_wp2_with (go_at_call 164;(go_call Yb y aB.o as e w2 ⟨rfl,rfl⟩;rw[decide_eq_false U.o]))
          go_round
          case rel=>exact⟨k+1,τ,by go_num,ah.o y rfl U.o⟩
          case measure=>simp[intOf];omega
      · obtain rfl:k=3:=by omega
        have ag:=κ (IJ H.o)
        clear H
        cases hps:(qh t.s (p,0)).isSome with
        | true=>
          have O:=κ hps
          clear hps
          go_wp2_with (go_at_call 165;(go_call yC (G.o.more (qa.alloc w (.cells #[ω s0,ω s1,ω s2] 40))) p as e w2 ⟨rfl,rfl⟩;rw[O.o]))
          go_ret
          have d:vA t p s0 s1 s2=(t,6):=by unfold vA;rw[if_pos I.o,if_neg ag.o,if_pos O.o]
          unfold kJ
          rw[d]
          exact⟨rfl,G.o.more (qa.alloc _ _),qg.of_more (qa.alloc _ _)⟩
        | false=>
          have O:=κ hps
          clear hps
          go_wp2_with (go_at_call 165;(go_call yC (G.o.more (qa.alloc w (.cells #[ω s0,ω s1,ω s2] 40))) p as e w2 ⟨rfl,rfl⟩;rw[O.o]))
          go_loopw [33] (λi wr=> ∃k:Nat,k<=3/\i= ι k/\(∀j,j<k-> ¬(qh t.o ([s0,s1,s2].getD j 0)).isSome=true)/\qa (w.alloc (.cells #[ω s0,ω s1,ω s2] 40)) wr) (λi _=>3-(intOf i).toNat)
          case atStart=>exact⟨0,τ,rfl,λj ar=>by omega,qa.refl _⟩
          case round=>
            obtain⟨k,aJ,rfl,aa,aM⟩:=hrel
            have H:=κ aa
            have N:=κ aM
            clear aa aM
            by_cases hk3:k<3
            · have aK:(k:Int)<3:=by omega
              have aI:=λw=>Hy s0 s1 s2 k hk3 w
              have ac:=(G.o.more (qa.alloc w _)).more N.o
              have ba:=β0 ac.blk
              have q:=ac.lookO ([s0,s1,s2].getD k 0)
              have ab:=κ (Np (p:=λz=>(qh t.o z).isSome=true) (s0:=s0) (s1:=s1) (s2:=s2) hk3)
              have ah:Hid (∀y,[s0,s1,s2].getD k 0=y-> ¬(qh t.o y).isSome=true-> ∀j,j<k+1-> ¬(qh t.o ([s0,s1,s2].getD j 0)).isSome=true):=κ (λy e au j ar=>by
                subst e
                by_cases e:j<k
                · exact H.o j e
                · obtain rfl:j=k:=by omega
                  exact au)
              have ak:=κ ac
              clear ac
              generalize ay:[s0,s1,s2].getD k 0=y at *
              clear ay
              cases hs:(qh t.o y).isSome with
              | true=>
                rw[hs] at q
                have ai:=κ hs
                clear hs
                go_wp2
                go_ret
                have d:vA t p s0 s1 s2=(t,6):=by
                  unfold vA
                  rw[if_pos I.o,if_neg ag.o,if_neg (by rw[O.o];simp),if_pos]
                  exact ab.o ai.o
                unfold kJ
                rw[d]
                exact⟨rfl,ak.o.more (qa.alloc _ _),qg.of_more (((qa.alloc _ _).trans N.o).al _)⟩
              | false=>
                rw[hs] at q
                have ai:=κ hs
                clear hs
                go_wp2
                go_roundw
                case rel=>exact⟨k+1,τ,by go_num,ah.o y rfl (by rw[ai.o];simp),N.o.al _⟩
                case measure=>simp[intOf];omega
            · obtain rfl:k=3:=by omega
              have aQ:=κ (Nr (p:=λz=>(qh t.o z).isSome=true) H.o)
              have ae:=κ (qc N.o aA.o)
              have aW:=β0 ae.o
              have aX:=β1 ae.o
              have aY:=β2 ae.o
              have d:vA t p s0 s1 s2=({t with o:=oAt t.o p s0 s1 s2 3,s:=sAt t.s p s0 s1 s2 3},0):=by
                unfold vA
                rw[if_pos I.o,if_neg ag.o,if_neg (by rw[O.o];simp),if_neg aQ.o]
              have af:=κ d
              have ak:=κ ((G.o.more (qa.alloc w _)).more N.o)
              have aP:=κ (qg.of_more (S:=λz=>z=a∨z=b) ((qa.alloc w (.cells #[ω s0,ω s1,ω s2] 40)).trans N.o))
              clear H d
              go_wp2_with fail
              clear aW aX aY
              go_loopw [48] (λi aN=> ∃k:Nat,k<=3/\i= ι k/\jq aN T a b c {t with o:=oAt t.o p s0 s1 s2 k,s:=sAt t.s p s0 s1 s2 k}/\qg (λz=>z=a∨z=b) w aN) (λi _=>3-(intOf i).toNat)
              case atStart=>exact⟨0,τ,rfl,ak.o,aP.o⟩
              case round=>
                obtain⟨k,aJ,rfl,aG,aH⟩:=hrel
                have aj:=κ aG
                have ab:=κ aH
                clear aG aH
                by_cases hk3:k<3
                · have aK:(k:Int)<3:=by omega
                  have aI:=λw=>Hy s0 s1 s2 k hk3 w
                  have aR:=κ (BE t.o p s0 s1 s2 k hk3)
                  have aS:=κ (AW t.s p s0 s1 s2 k hk3)
                  generalize [s0,s1,s2].getD k 0=y at *
                  have am:=κ (aj.o.more (qa.alloc wr (.cells #[ι p,ι (k:Int)] 58)))
                  have aZ:=κ (qj wr (.cells #[ι p,ι (k:Int)] 58))
                  have bb:a<wr.heap.size:=aj.o.mo.lt
                  obtain⟨w9,av,J,ad,_⟩:=(am.o.mo.more (qa.drewN _ 1)).update Aa underlying239 y (p,(k:Int))
                  unfold kO at av
                  simp only at av
                  have an:=κ ((am.o.more (qa.drewN _ 1)).putO ad J)
                  have aF:=κ (ad.blk (qr aZ.o 1) τ)
                  have aU:=κ ad
                  obtain⟨w8,aw,aL,ax,_⟩:=(an.o.ms.more (qa.drewN _ 1)).update Yr underlying47 (p,(k:Int)) y
                  unfold kO at aw
                  simp only at aw
                  have aV:=κ ((an.o.more (qa.drewN _ 1)).putS ax aL)
                  have aT:=κ ax
                  clear J ad aL ax
                  go_wp2_with fail
                  have ao: ∀z:qt (wr.alloc (.cells #[ι p,ι (k:Int)] 58)),z.w'.cell? ⟨T,0,none⟩=some (.map (some a)):=λz=>qb (qc z.h am.o.blk) 0 rfl
                  have ap: ∀z:qt (wr.alloc (.cells #[ι p,ι (k:Int)] 58)),z.w'.cell? ⟨wr.heap.size,0,none⟩=some (ι p):=λz=>z.new 0 rfl
                  have aq: ∀z:qt (wr.alloc (.cells #[ι p,ι (k:Int)] 58)),z.w'.cell? ⟨wr.heap.size,1,none⟩=some (ι (k:Int)):=λz=>z.new 1 rfl
                  refine Qn (wr.alloc (.cells #[ι p,ι (k:Int)] 58)) 6 7 [6] ?_
                  refine Qq6 ?_
                  (refine Qe ?_;intro K Y)
                  refine Y _ _ ?_
                  clear Y K
                  refine qA ?_
                  clear ao ap aq av
                  go_wp2_with fail
                  have ao: ∀z:qt w9,z.w'.cell? ⟨T,1,none⟩=some (.map (some b)):=λz=>qb (qc z.h an.o.blk) 1 rfl
                  have ap: ∀z:qt w9,z.w'.cell? ⟨wr.heap.size,0,none⟩=some (ι p):=λz=>qb (qc z.h aF.o) 0 rfl
                  have aq: ∀z:qt w9,z.w'.cell? ⟨wr.heap.size,1,none⟩=some (ι (k:Int)):=λz=>qb (qc z.h aF.o) 1 rfl
                  refine Qn w9 6 7 [6] ?_
                  refine Qq6 ?_
                  (refine Qe ?_;intro K Y)
                  refine Y _ _ ?_
                  clear Y K
                  refine qA ?_
                  clear ao ap aq aw
                  go_wp2
                  go_roundw
                  case rel=>
                    have aC:jq w8 T a b c {t with o:=oAt t.o p s0 s1 s2 (k+1),s:=sAt t.s p s0 s1 s2 (k+1)}:=by rw[aR.o,aS.o];exact aV.o
                    have aD:=(((ab.o.trans (qg.of_more ((qa.alloc _ _).dr 1))).trans (aU.o.mono (λz az=>Or.inl az))).trans (qg.of_more (qa.drewN _ 1))).trans (aT.o.mono (λz az=>Or.inr az))
                    first
                      | exact⟨k+1,τ,by go_num,aC,aD⟩
                      | (repeat apply Exists.intro
                         exact⟨⟨k+1,τ,by go_num,aC,aD⟩,rfl⟩)
                  case measure=>simp[intOf];omega
                · obtain rfl:k=3:=by omega
                  go_wp2
                  go_ret
                  unfold kJ
                  rw[af.o]
                  exact⟨rfl,aj.o,ab.o⟩
  · have I:=κ hp
    have G:=κ h
    have d:vA t p s0 s1 s2=(t,1):=by unfold vA;rw[if_neg hp]
    have af:=κ d
    clear hp h d
    go_enter func104,ntmps104
    go_wp2_with (go_at_call 163;(go_call Z8 p _ I.o as e w2 ⟨rfl,rfl⟩))
    go_ret
    unfold kJ
    rw[af.o]
    exact⟨rfl,G.o.more (qa.alloc _ _),qg.of_more (qa.alloc _ _)⟩
end
section
open Go.RowKit
set_option maxRecDepth 100000
structure Gr where
 wanted:Bool
 any:Bool
 last:Int
 tries:Int
structure zu where
 buf:Jb
 any:Bool
 great:Int
 asks:Gr
 askedOf:Bool
structure AcS where
 o:Og
 num:Int
 pk:Pk
structure RqS where
 o:Og
 at_:Int
 body:List Int
structure CfR where
 room:Int
 hold:Int
 wait:Int
 space:Int
 retry:Int
 most:Int
structure CnR where
 lost:Int
 malf:Int
 strange:Int
 told:Int
 acc:Int
structure RmS where
 cfg:CfR
 closed:Bool
 ret:List (Og×Bool)
 clock:Int
 queue:List (List Int)
 tab:TS
 lanes:List (Int×LnS)
 strs:List (Og×zu)
 pks:List AcS
 reqs:List RqS
 cnt:CnR
 book:Bk
def subIds:List Int:=[0,1,2,3,4,5]
def orgs:List Og:=[(0,0),(0,1),(0,2),(1,0),(1,1),(1,2),(2,0),(2,1),(2,2)]
def prR (pr:Sb->Bool) (u:List (Int×Sb)):List Int:=subIds.filter λx=>match qh u x with
 | some sb=>pr sb
 | none=>false
def RmS.origins (s:RmS):List Og:=orgs.filter λo=>(qh s.strs o).isSome
def RmS.readyAt (s:RmS) (o:Og):Bool:=match qh s.strs o with
 | some t=>xa t.buf s.clock
 | none=>false
def RmS.ready (s:RmS):Option Og:=s.origins.find? s.readyAt
def wO (l:LnS) (k:Int):Bool:=l.wanted&&(!l.gone&&(!decide (l.cur=l.tgt)&&decide (l.tgt=k)))
def RmS.wants (s:RmS) (o:Og):Bool:=(match qh s.strs o with
 | some t=>t.askedOf
 | none=>false)||(prR (j8 o.1) s.tab.u).any λx=>match qh s.lanes x with
 | some l=>wO l o.2
 | none=>false
def Zc (retry:Int):Nat->Int->Int
 | 0,g=>g
 | k+1,g=>if g<1∨retry<=g then g else Zc retry k (2* g)
def Yg (space retry tries:Int):Int:=if Zc retry (tries-1).toNat space<=retry then Zc retry (tries-1).toNat space else retry
def uq (a:Gr) (wanted:Bool):Int:=if wanted&&a.wanted then a.tries else 0
def Hc (space retry:Int) (a:Gr) (wanted:Bool) (now:Int):Bool:= !wanted||(a.any&&decide (now-a.last<Yg space retry (uq a wanted)))
def vU (space retry:Int) (a:Gr) (wanted:Bool) (now:Int):Gr×Bool:=
 if Hc space retry a wanted now then (⟨wanted,a.any,a.last,uq a wanted⟩,false) else (⟨wanted,true,now,uq a wanted+1⟩,true)
abbrev Zb (src:Int):qQ:=(1,206,qy 0 4++qy src 4,())
def ug (src:Int):List Int:=(vW [Zb src]).1
def RmS.request (s:RmS) (o:Og):RmS:={s with reqs:=s.reqs++[⟨o,s.clock,ug ((qh s.tab.s o).getD 0)⟩]}
def RmS.tick1 (s:RmS) (o:Og):RmS:=match qh s.strs o with
 | none=>s
 | some t=>if (vU s.cfg.space s.cfg.retry t.asks (s.wants o) s.clock).2
  then {s with strs:=qx s.strs o {t with asks:=(vU s.cfg.space s.cfg.retry t.asks (s.wants o) s.clock).1}}.request o
  else {s with strs:=qx s.strs o {t with asks:=(vU s.cfg.space s.cfg.retry t.asks (s.wants o) s.clock).1}}
def RmS.tick (s:RmS):RmS×Int:=if s.closed then (s,7) else (s.origins.foldl RmS.tick1 {s with clock:=s.clock+1},0)
def yp (subs:List Int):List Og:=(0,0)::(1,0)::(subIds.filter λx=>decide (x∈subs)).flatMap λx=>[(2,x),(3,x),(4,x)]
def RmS.there (s:RmS):List Int:=subIds.filter λx=>(qh s.lanes x).isSome
def RmS.workers (s:RmS):List Og:=yp s.there
def xB (n:Int):Int:=if n=2 then 1 else if n=3 then 2 else 3
def RmS.mayOpen (s:RmS) (w:Og):Bool:=
 if w.1=0 then decide (0<s.queue.length) else if w.1=1 then s.ready.isSome else match qh s.lanes w.2 with
 | some l=>vC l (xB w.1)
 | none=>false
def RmS.may (s:RmS) (w:Og):Bool:=decide (w∈s.workers)&&(if s.closed then !((qh s.ret w).getD false) else s.mayOpen w)
def jp (b:Bk) (sub id f:Int):Bk:=if qh b (sub,id)=some 0 then (zi b (sub,id) f).1 else b
def RmS.tell1 (s:RmS) (x:Int):RmS:=match qh s.tab.u x with
 | none=>s
 | some sb=>if sb.2.1 then (match qh s.lanes x with
  | none=>s
  | some l=>if l.wanted&&jj l.cur then (match qh s.strs (sb.2.2,l.cur) with
   | none=>s
   | some t=>{s with strs:=qx s.strs (sb.2.2,l.cur) {t with askedOf:=true}}) else s) else s
def RmS.tellS (s:RmS) (src:Int):RmS:=(prR (zV src) s.tab.u).foldl RmS.tell1 s
def RmS.tell (s:RmS) (b:List Int):RmS:=
 if (zx b).2=0 then (xU (zx b).1).foldl RmS.tellS {s with cnt:={s.cnt with told:=s.cnt.told+1}} else {s with cnt:={s.cnt with malf:=s.cnt.malf+1}}
def KH (near sq:Int):Int:=near+ahd (near%65536) sq
def yV (t:zu) (sq:Int):Int:=if t.any then KH t.great sq else 65536+sq
def Ji (b:Bk) (subs:List Int) (id:Int):Bk:=subs.foldl (λb x=>(vT b (x,id)).1) b
def xG (b:Bk) (subs:List Int) (id f:Int):Bk:=subs.foldl (λb x=>jp b x id f) b
def yY (e:Int):Int:=if e=10 then 3 else if e=9 then 2 else if e=8 then 6 else 0
def Ye (t:zu) (p:Pk) (clock id:Int):zu:=
 ⟨(jP t.buf (yV t p.sq) clock id).1,true,if t.any=false∨t.great<yV t p.sq then yV t p.sq else t.great,t.asks,if zJ p.pl then false else t.askedOf⟩
def RmS.accept (s:RmS) (o:Og) (p:Pk):RmS:=match qh s.strs o with
 | none=>s
 | some t=>{s with
   strs:=qx s.strs o (Ye t p s.clock s.pks.length)
   pks:=s.pks++[⟨o,yV t p.sq,p⟩]
   cnt:={s.cnt with acc:=s.cnt.acc+1}
   book:=if yY (jP t.buf (yV t p.sq) s.clock s.pks.length).2=0 then Ji s.book (prR (j8 o.1) s.tab.u) s.pks.length
    else xG (Ji s.book (prR (j8 o.1) s.tab.u) s.pks.length) (prR (j8 o.1) s.tab.u) s.pks.length (yY (jP t.buf (yV t p.sq) s.clock s.pks.length).2)}
def Ve (b:List Int):Bool:=decide (2<=b.length)&&(decide (192<=b.getD 1 0)&&decide (b.getD 1 0<=223))
def RmS.media (s:RmS) (b:List Int):RmS:=
 if (jl b).2=0 then (match qh s.tab.o (jl b).1.sc with
  | none=>{s with cnt:={s.cnt with strange:=s.cnt.strange+1}}
  | some o=>s.accept o (jl b).1) else {s with cnt:={s.cnt with malf:=s.cnt.malf+1}}
def RmS.read (s:RmS):RmS:=match s.queue with
 | []=>s
 | b::q=>if Ve b then {s with queue:=q}.tell b else {s with queue:=q}.media b
def RmS.put1 (x:ItS) (s:RmS) (sub:Int):RmS:=if qh s.book (sub,x.id)=some 0 then (match qh s.lanes sub with
 | none=>s
 | some l=>if (xp l x).2.2.1 then {s with lanes:=qx s.lanes sub (xp l x).1,book:=jp s.book sub (xp l x).2.1 6} else {s with lanes:=qx s.lanes sub (xp l x).1}) else s
def ac0:AcS:=⟨(0,0),0,pk0⟩
def RmS.item (s:RmS) (o:Og) (id:Int):ItS:=⟨id,o.2,zJ (s.pks.getD id.toNat ac0).pk.pl,(s.pks.getD id.toNat ac0).pk⟩
def RmS.orderAt (s:RmS) (o:Og) (t:zu):RmS:=
 subIds.foldl (RmS.put1 (s.item o (yD t.buf s.clock).2.2.1)) {s with strs:=qx s.strs o {t with buf:=(yD t.buf s.clock).1}}
def RmS.order (s:RmS):RmS:=match s.ready with
 | none=>s
 | some o=>(match qh s.strs o with
  | none=>s
  | some t=>s.orderAt o t)
def RmS.choose (s:RmS) (sub:Int):RmS:=match qh s.lanes sub with
 | none=>s
 | some l=>{s with
   lanes:=qx s.lanes sub (jf l).1
   book:=if (jf l).2.2.2&& !decide ((jf l).2.2.1=0) then jp s.book sub (jf l).2.1 (jf l).2.2.1 else s.book}
def RmS.rewrite (s:RmS) (sub:Int):RmS:=match qh s.lanes sub with
 | none=>s
 | some l=>{s with
   lanes:=qx s.lanes sub (qY l).1
   book:=if (qY l).2.2.2&&(qY l).2.2.1 then jp s.book sub (qY l).2.1 6 else s.book}
def RmS.write (s:RmS) (sub:Int) (acc:Bool):RmS:=match qh s.lanes sub with
 | none=>s
 | some l=>{s with
   lanes:=qx s.lanes sub (qX l acc).1
   tab:=if (qX l acc).1.gone then (zM s.tab sub).1 else s.tab
   book:=if (qX l acc).1.gone then vM (if (qX l acc).2.2.2&&decide ((qX l acc).2.2.1=1) then jp s.book sub (qX l acc).2.1 (qX l acc).2.2.1 else s.book) sub 7
    else if (qX l acc).2.2.2&&decide ((qX l acc).2.2.1=1) then jp s.book sub (qX l acc).2.1 (qX l acc).2.2.1 else s.book}
def RmS.drain1 (s:RmS) (id:Int):RmS:={s with book:=xG s.book subIds id 8}
def RmS.drainO (s:RmS) (o:Og):RmS:=match qh s.strs o with
 | none=>s
 | some t=>(thJ t.buf.holds).foldl RmS.drain1 {s with strs:=qx s.strs o {t with buf:=vP t.buf}}
def KG (l:LnS) (n:Int):List Int:=if n=1 then l.A.map (·.id) else if n=2 then l.B.map (·.1.id) else l.C.map (·.1)
def RmS.drainL (s:RmS) (w:Og):RmS:=match qh s.lanes w.2 with
 | none=>s
 | some l=>{s with
   lanes:=qx s.lanes w.2 (vh l (xB w.1))
   book:=(KG l (xB w.1)).foldl (λb id=>jp b w.2 id 8) s.book}
def RmS.drain (s:RmS) (w:Og):RmS:=
 if w.1=0 then {s with queue:=[],cnt:={s.cnt with lost:=s.cnt.lost+s.queue.length}}
 else if w.1=1 then s.origins.foldl RmS.drainO s
 else s.drainL w
def vi (w:Og):Og×Bool:=if w.1=0 then ((0,0),false) else if w.1=1 then ((0,0),true) else if w.1=2 then ((1,0),true) else ((w.1-1,w.2),true)
def RmS.goesR (s:RmS) (w:Og):Bool:= !(vi w).2||(qh s.ret (vi w).1).getD false
def RmS.endW (s:RmS) (w:Og):RmS:=if s.goesR w then {s.drain w with ret:=qx s.ret w true} else s.drain w
def RmS.stepW (s:RmS) (w:Og) (acc:Bool):RmS:=
 if s.closed then s.endW w else if w.1=0 then s.read else if w.1=1 then s.order else if w.1=2 then s.choose w.2 else if w.1=3 then s.rewrite w.2 else s.write w.2 acc
def RmS.pick (s:RmS) (w:Og) (acc:Bool):RmS×Bool:=if s.may w then (s.stepW w acc,true) else (s,false)
def xY (c:CfR):Bool:=decide (1<=c.room/\c.room<=8)&&(decide (gt c.hold c.wait)&&(decide (1<=c.space/\c.space<=c.retry/\c.retry<=1000)&&decide (1<=c.most/\c.most<=10)))
def ud (c:CfR):RmS:=⟨c,false,[],0,[],⟨[],[],[]⟩,[],[],[],[],⟨0,0,0,0,0⟩,[]⟩
def uc (c:CfR):zu:=⟨CU c.hold c.wait,false,0,⟨false,false,0,0⟩,false⟩
def RmS.publish (s:RmS) (p s0 s1 s2:Int):RmS×Int:=
 if s.closed then (s,7) else if (vA s.tab p s0 s1 s2).2=0 then ({s with tab:=(vA s.tab p s0 s1 s2).1,strs:=qx (qx (qx s.strs (p,0) (uc s.cfg)) (p,1) (uc s.cfg)) (p,2) (uc s.cfg)},0) else (s,(vA s.tab p s0 s1 s2).2)
def RmS.join (s:RmS) (x own sq st:Int):RmS×Int:=
 if s.closed then (s,7) else if (yI s.tab x own).2=0 then ({s with tab:=(yI s.tab x own).1,lanes:=qx s.lanes x (Vd s.cfg.room.toNat s.cfg.most own sq st)},0) else (s,(yI s.tab x own).2)
def Yh {K V:Type} [DecidableEq K] (m:List (K×V)) (x:K):List (K×V):=m.filter λp=> !decide (p.1=x)
def JV (s:RmS) (x:Int):Bool:=match qh s.lanes x with
 | some l=>l.gone
 | none=>false
def RmS.subscribe (s:RmS) (x p k:Int):RmS×Int:=
 if s.closed then (s,7) else if jj k=false then (s,1) else if JV s x then (s,5) else if (vL s.tab x p).2=0 then (match qh s.lanes x with
  | none=>(s,0)
  | some l=>({s with tab:=(vL s.tab x p).1,lanes:=qx s.lanes x (jO l k).1},(jO l k).2)) else (s,(vL s.tab x p).2)
def RmS.want (s:RmS) (x k:Int):RmS×Int:=
 if s.closed then (s,7) else if (decide (0<=x/\x<6)&&jj k)=false then (s,1) else if ((qh s.tab.u x).getD sb0).2.1=false then (s,5) else (match qh s.lanes x with
  | none=>(s,0)
  | some l=>({s with lanes:=qx s.lanes x (jO l k).1},(jO l k).2))
def RmS.leave (s:RmS) (x:Int):RmS×Int:=
 if s.closed then (s,7) else if (zW s.tab x).2=0 then ({s with tab:=(zW s.tab x).1,book:=vM s.book x 7,lanes:=Yh s.lanes x},0) else (s,(zW s.tab x).2)
def RmS.arrive (s:RmS) (b:List Int):RmS×Int:=
 if s.closed then (s,7) else if (s.queue.length:Int)<s.cfg.room then ({s with queue:=s.queue++[b]},0) else ({s with queue:=s.queue.tail++[b],cnt:={s.cnt with lost:=s.cnt.lost+1}},0)
def RmS.shut (s:RmS):RmS×Int:=if s.closed then (s,7) else ({s with closed:=true},0)
def RmS.ended (s:RmS):Bool:=s.closed&&decide (s.ret.length=s.workers.length)
def RmS.held (s:RmS):Nat:=(s.origins.map λo=>match qh s.strs o with
 | some t=>t.buf.holds.length
 | none=>0).sum
def Γl (x:AcS) (a:Option Addr) (b:Nat) (c:Option Addr) (d:Nat) (e:Option Addr) (f:Nat):Mm:=.o
instance (x:AcS) (a:Option Addr) (b:Nat) (c:Option Addr) (d:Nat) (e:Option Addr) (f:Nat):CoeDep Mm (Γl x a b c d e f) (List Value):=⟨[ι x.o.1,ι x.o.2,ι x.num,μ x.pk.mr,υ x.pk.ty,φ x.pk.sq,ω x.pk.st,ω x.pk.sc,δ a x.pk.ss.length b,μ x.pk.has,φ x.pk.pr,δ c x.pk.ex.length d,δ e x.pk.pl.length f]⟩
instance (x:AcS) (a:Option Addr) (b:Nat) (c:Option Addr) (d:Nat) (e:Option Addr) (f:Nat):CoeDep Mm (Γl x a b c d e f) (Array Value):=⟨#[ι x.o.1,ι x.o.2,ι x.num,μ x.pk.mr,υ x.pk.ty,φ x.pk.sq,ω x.pk.st,ω x.pk.sc,δ a x.pk.ss.length b,μ x.pk.has,φ x.pk.pr,δ c x.pk.ex.length d,δ e x.pk.pl.length f]⟩
instance (x:AcS) (a:Option Addr) (b:Nat) (c:Option Addr) (d:Nat) (e:Option Addr) (f:Nat):CoeDep Mm (Γl x a b c d e f) Value:=⟨θ #[ι x.o.1,ι x.o.2,ι x.num,μ x.pk.mr,υ x.pk.ty,φ x.pk.sq,ω x.pk.st,ω x.pk.sc,δ a x.pk.ss.length b,μ x.pk.has,φ x.pk.pr,δ c x.pk.ex.length d,δ e x.pk.pl.length f]⟩
end
section
open Go.RowKit
set_option maxRecDepth 100000
inductive Tg where
 | no | junk | room | ret | queue | table | book | lns | sts | data | pks | reqs
 | lane (x:Int)
 | str (o:Og)
structure RmK where
 R:Nat
 M1:Nat
 RQ:Nat
 AQ:Nat
 tb:Nat
 ta:Nat
 tc:Nat
 td:Nat
 B:Nat
 b:Nat
 ML:Nat
 MS:Nat
 LA:List (Int×Nat)
 SA:List (Og×Nat)
def gj (n:Nat):Value:= .pointer (some ⟨n,0,none⟩)
def zH (k:RmK) (vp vr:Value) (s:RmS):Array Value:=
 #[.pointer (some ⟨k.B,0,none⟩),.int .i64 s.cfg.room,.int .i64 s.cfg.hold,.int .i64 s.cfg.wait,.int .i64 s.cfg.space,.int .i64 s.cfg.retry,.int .i64 s.cfg.most,.bool s.closed,.map (some k.M1),.int .i64 s.clock,
  .pointer (some ⟨k.RQ,0,none⟩),.pointer (some ⟨k.tb,0,none⟩),.map (some k.ML),.map (some k.MS),vp,vr,.int .i64 s.cnt.lost,.int .i64 s.cnt.malf,.int .i64 s.cnt.strange,.int .i64 s.cnt.told,.int .i64 s.cnt.acc]
def RBy:qL (List Int):=λw cs b=> ∃v,cs=[v]/\SlI .u8 w v b/\Byt b
def RAc:qL AcS:=λw cs a=> ∃vs ve vp,cs=[.int .i64 a.o.1,.int .i64 a.o.2,.int .i64 a.num,.bool a.pk.mr,.int .u8 a.pk.ty,.int .u16 a.pk.sq,.int .u32 a.pk.st,.int .u32 a.pk.sc,vs,.bool a.pk.has,.int .u16 a.pk.pr,ve,vp]/\PkS w vs ve vp a.pk
def RRq:qL RqS:=λw cs q=> ∃v,cs=[.int .i64 q.o.1,.int .i64 q.o.2,.int .i64 q.at_,v]/\SlI .u8 w v q.body
def gK (Rb:Nat) (t:zu):Array Value:= #[.pointer (some ⟨Rb,0,none⟩),.bool t.any,.int .i64 t.great,.bool t.asks.wanted,.bool t.asks.any,.int .i64 t.asks.last,.int .i64 t.asks.tries,.bool t.askedOf]
structure KJ (N:Nat->Prop) (w:World) (p Rb:Nat) (v:Value) (t:zu):Prop where
 blk:w.heap[p]? =some (.cells (gK Rb t) 176 (0,0))
 buf:xZ w Rb v t.buf
 ok:JOK t.buf
 sub: ∀b,N b->b<w.heap.size
 np:N p
 nb:N Rb
 ne:p≠Rb
 nv: ∀g,v.ownBlock=some g->N g/\g≠p
def Hl (N:Nat->Prop) (w:World) (p:Nat) (t:zu):Prop:= ∃Rb v,KJ N w p Rb v t
def RmK.Holds (k:RmK) (T:Nat->Tg) (w:World) (vp vr:Value) (s:RmS):Tg->Prop
 | .room=>T k.R= .room/\w.heap[k.R]? =some (.cells (zH k vp vr s) 95 (0,0))
 | .ret=>T k.M1= .ret/\jk w k.M1 kO Value.bool s.ret
 | .queue=>T k.RQ= .queue/\T k.AQ= .queue/\RgR 1 229 35 RBy (λb=>T b≠ .data) w k.RQ k.AQ s.cfg.room.toNat s.queue
 | .table=>T k.tb= .table/\T k.ta= .table/\T k.tc= .table/\T k.td= .table/\jq w k.tb k.ta k.tc k.td s.tab
 | .book=>T k.B= .book/\T k.b= .book/\jy w k.B k.b s.book
 | .lns=>T k.ML= .lns/\jk w k.ML (Value.int .i64) gj k.LA
 | .sts=>T k.MS= .sts/\jk w k.MS kO gj k.SA
 | .pks=>je 13 RAc (λb=>T b≠ .data/\T b≠ .pks) w 0 65 vp s.pks/\ ∀g,vp.ownBlock=some g->T g= .pks
 | .reqs=>je 4 RRq (λb=>T b≠ .data/\T b≠ .reqs) w 0 296 vr s.reqs/\ ∀g,vr.ownBlock=some g->T g= .reqs
 | .lane x=>(∀p l,qh k.LA x=some p->qh s.lanes x=some l->zw (λb=>T b= .lane x) w p l)/\(qh k.LA x).isSome=(qh s.lanes x).isSome
 | .str o=>(∀p t,qh k.SA o=some p->qh s.strs o=some t->Hl (λb=>T b= .str o) w p t)/\(qh k.SA o).isSome=(qh s.strs o).isSome
 | .no=> ∀b,w.heap.size<=b->T b= .no
 | .junk=>True
 | .data=>True
structure RmX (T:Nat->Tg) (w0 w:World) (k:RmK) (vp vr:Value) (s:RmS) (F:List Nat):Prop where
 all: ∀t,k.Holds T w vp vr s t
 ge: ∀b,T b≠ .no->w0.heap.size<=b
 law: ∀b∈F,T b= .no/\w0.heap.size<=b/\b<w.heap.size
 more:qa w0 w
def qI (w0 w:World) (k:RmK) (s:RmS) (F:List Nat):Prop:= ∃T vp vr,RmX T w0 w k vp vr s F
def jZ (T:Nat->Tg) (t:Tg) (w w':World):Nat->Tg:=λb=>if w.heap.size<=b/\b<w'.heap.size then t else T b
section
variable {T T':Nat->Tg} {w0 w w':World} {k:RmK} {vp vr:Value} {s:RmS} {F:List Nat} {t:Tg}
theorem RmX.fresh (h:RmX T w0 w k vp vr s F): ∀b,w.heap.size<=b->T b= .no:=h.all .no
theorem jd (G: ∀b,w.heap.size<=b->T b= .no) {u:Tg} (H:u≠ .no) (b:Nat):jZ T t w w' b=u↔(T b=u∨(u=t/\w.heap.size<=b/\b<w'.heap.size)):=by
 unfold jZ;split
 ·rename_i d;constructor
  ·intro e;exact Or.inr ⟨e.symm,d⟩
  ·rintro(e | e)
   ·rw[G b d.1] at e;exact absurd e.symm H
   ·exact e.1.symm
 ·rename_i d;constructor
  ·exact Or.inl
  ·rintro(e | e)
   ·exact e
   ·exact absurd e.2 d
theorem jF (d: ∀b,w.heap.size<=b->T b= .no) {u:Tg} (H:u≠ .no) (G:u≠t) (b:Nat):jZ T t w w' b=u↔T b=u:=by
 rw[jd d H];constructor
 ·rintro(e | e)
  ·exact e
  ·exact absurd e.1 G
 ·exact Or.inl
theorem wW (d: ∀b,w.heap.size<=b->T b= .no) (G:t≠ .no):(λb=>jZ T t w w' b=t)=xf (λb=>T b=t) w w':=by
 funext b
 apply propext;rw[jd d G];unfold xf;simp
theorem Q9 (d: ∀b,w.heap.size<=b->T b= .no) (H:w.heap.size<=w'.heap.size): ∀b,w'.heap.size<=b->jZ T t w w' b= .no:=λb G=>by
 unfold jZ;rw[if_neg τ];exact d b τ
theorem Holds.frame {S:Nat->Prop} {u:Tg} (h:k.Holds T w vp vr s u) (a:qg S w w') (G: ∀b,S b->T b≠u/\T b≠ .data) (H: ∀b,T' b=u↔T b=u) (Y: ∀b,T b= .data->T' b= .data) (ad:u≠ .no):k.Holds T' w' vp vr s u:=by
 have e:(λb=>T' b=u)=(λb=>T b=u):=by funext b;exact propext (H b)
 cases u with
 | no=>exact absurd rfl ad
 | junk=>trivial
 | data=>trivial
 | room=>exact⟨(H _).2 h.1,a.blk h.2 (λx=>(G _ x).1 h.1)⟩
 | ret=>exact⟨(H _).2 h.1,h.2.away a (λx=>(G _ x).1 h.1)⟩
 | queue=>
  obtain⟨I,J,N⟩:=h;exact⟨(H _).2 I,(H _).2 J,N.step a (λx=>(G _ x).1 I) (λx=>(G _ x).1 J) (λb d=>(G b d).2) (λb d=>Or.inl λe=>d (Y b e))⟩
 | table=>
  obtain⟨I,J,N,aa,ac⟩:=h;exact⟨(H _).2 I,(H _).2 J,(H _).2 N,(H _).2 aa,ac.away a (λx=>(G _ x).1 I) (λx=>(G _ x).1 J) (λx=>(G _ x).1 N) (λx=>(G _ x).1 aa)⟩
 | book=>
  obtain⟨I,J,N⟩:=h;exact⟨(H _).2 I,(H _).2 J,N.away a (λx=>(G _ x).1 I) (λx=>(G _ x).1 J)⟩
 | lns=>exact⟨(H _).2 h.1,h.2.away a (λx=>(G _ x).1 h.1)⟩
 | sts=>exact⟨(H _).2 h.1,h.2.away a (λx=>(G _ x).1 h.1)⟩
 | pks=>
  obtain⟨I,J⟩:=h;refine⟨(I.step (a.mono λb d=>⟨(G b d).2,(G b d).1⟩)).other (λb d=>Or.inl ⟨λe=>d.1 (Y b e),λe=>d.2 ((H b).2 e)⟩),λg O=>(H _).2 (J g O)⟩
 | reqs=>
  obtain⟨I,J⟩:=h;refine⟨(I.step (a.mono λb d=>⟨(G b d).2,(G b d).1⟩)).other (λb d=>Or.inl ⟨λe=>d.1 (Y b e),λe=>d.2 ((H b).2 e)⟩),λg O=>(H _).2 (J g O)⟩
 | lane x=>
  refine⟨λp l I J=> ?_,h.2⟩;rw[e];exact(h.1 p l I J).away a (λb d=>(G b d).1)
 | str o=>
  refine⟨λp t I J=> ?_,h.2⟩;rw[e];obtain⟨ab,v,x⟩:=h.1 p t I J;have U: ∀b,T b= .str o-> ¬S b:=λb d ae=>(G b ae).1 d
  exact⟨ab,v,a.blk x.blk (U _ x.np),⟨a.blk x.buf.blk (U _ x.nb),x.buf.row.away a (λg O=>U _ (x.nv g O).1)⟩,x.ok,λb d=>Nat.lt_of_lt_of_le (x.sub b d) a.size,x.np,x.nb,x.ne,x.nv⟩
end
end
end Go.Proofs.YtlmllmonabafjaaGreatDoor
