/- x -/
import Derived.Test.YtlmllmonabafjaaGreatDoorMh13
namespace Go.Proofs.YtlmllmonabafjaaGreatDoor
open Option renaming some->ϊ,none->ϋ
open Bool renaming true->ό,false->ύ
open Go.Value renaming bool->μ,slice->δ,pointer->π,agg->θ
open Go.IntKind renaming i64->ι,u8->υ,u16->φ,u32->ω,i32->χ,u64->ψ
open _root_.Go.Proofs.Tryz
set_option linter.all false
set_option maxHeartbeats 8000000
set_option maxRecDepth 100000
open Go.RowKit
open Go.RowKit Go.Lib
variable {s s':RmS} {w w' w0:World} {α:Type} {f:RmS->α->RmS} {n cap:Nat} {T:Nat->Tg} {k:RmK} {vp vr v:Value} {F:List Nat} {b:Jb} {x:Int} {L:List Og} {I:Option Addr} {l:List Int}
def TL (w:World):Calls prog 317 #[δ ϋ 0 0] w λe w'=>e= .returned (δ ϋ 0 0)/\w'=w:=by
 go_enter func317,ntmps317
 go_wp2
 go_loopw [3,10] (λv d wr=>v= δ ϋ 0 0/\d= ι 0/\wr=w) (λ_ _ _=>0)
 case atStart=>exact⟨rfl,rfl,rfl⟩
 case round=>
  obtain⟨rfl,rfl,rfl⟩:=hrel;go_wp2;go_ret;exact⟨rfl,rfl⟩
def An (d:Int) (w:World):Calls prog 314 #[θ #[ι 1,ω 0,ω d,(),()]] w λe w'=>e= .returned (μ ό)/\ql w w':=by
 go_enter func314,ntmps314
 go_wp2;go_ret;exact⟨rfl,ρ⟩
def Lm (w:World):Calls prog 313 #[Γd] w λe w'=>e= .returned (μ ό)/\ql w w':=by
 have d: ∀w:World,(binOp .eql 286 (θ #[ω 0,ω 0,ω 0,ω 0,ω 0]) (θ #[ω 0,ω 0,ω 0,ω 0,ω 0])).run prog w= .ok (μ ό) w:=λw=>by kernel_rfl
 go_enter func313,ntmps313
 go_wp2;go_ret;exact⟨rfl,ρ⟩
def Ln (w:World):Calls prog 311 #[θ #[υ 0,υ 0,()]] w λe w'=>e= .returned (μ ό)/\ql w w':=by
 go_enter func311,ntmps311
 go_wp2;go_ret;exact⟨rfl,ρ⟩
def qaj (w:World):Calls prog 318 #[ι 1] w λe w'=>e= .returned (.tuple #[υ 206,υ 1])/\w'=w:=by
 go_enter func318,ntmps318
 go_wp2
 go_ret2
 exact⟨rfl,rfl⟩
def gA (d:Int):(qy 0 4++qy d 4).length=8:=by rw[Ϗ,Hw,Hw]
def Lk (d:Int) (aq:0<=d/\d<=4294967295) (w:World):Calls prog 289 #[θ #[ι 1,ω 0,ω d,(),()]] w λe w'=> ∃ob cb,e= .returned (.tuple #[θ #[υ 1,υ 206,δ ob 8 cb],ι 0])/\SlI .u8 w' (δ ob 8 cb) (qy 0 4++qy d 4)/\ql w w'/\jX w (δ ob 8 cb):=by
 have ak:=κ (qs (qj w (.cells #[ι 1,ω 0,ω d,(),()] 283)) (.cells #[υ 0,υ 0,()] 291));have am:=κ (qC (w:=w.alloc (.cells #[ι 1,ω 0,ω d,(),()] 283)) (n:=w.heap.size+1) (o:=(.cells #[υ 0,υ 0,()] 291)) η);have ax:=κ aq;clear aq
 go_enter func289,ntmps289
 go_wp2_with (first | (go_at_call 314;(go_call An d _ as e aa ⟨rfl,U⟩;have J:=κ (qq U ak.o);have an:=κ (qq U am.o);have ao:=κ (((ql.alloc w (.cells #[ι 1,ω 0,ω d,(),()] 283)).al (.cells #[υ 0,υ 0,()] 291)).trans U);clear U;have af:=κ (wR aa);have ac:=κ (ql.alloc aa (.cells #[δ ϋ 0 0] 204));have az:=β1 (qq ac.o J.o))) | (go_at_call 95;((with_reducible refine(uw af.o 0 ζ η).mono ?_);rintro e w4 ⟨rfl,M⟩;have ad:=κ (M.to_more af.o ac.o (ϔ _));obtain⟨⟨v4,av,_⟩,_⟩:=M;have ag:=κ av;clear av az;have aA:=β2 (qq ad.o J.o))) | (go_at_call 95;((with_reducible refine(uw ag.o d ax.o (by simp only[Ϗ,Hw,ϧ];omega)).mono ?_);rintro e w5 ⟨rfl,M⟩;have I:=κ (M.to_more ag.o ad.o (ϔ _));obtain⟨⟨v5,aw,_⟩,_⟩:=M;have ah:=κ aw;clear aw aA;have aN:=β3 (qq I.o J.o);have aO:=β4 (qq I.o J.o);have aM:=β0 (qq I.o J.o))))
 clear af ag ac ad ak am;have aE:Hid (w.heap.size+1<aa.heap.size):=κ (qn an.o);rw[J0] at ah;generalize aa.heap.size=W at *
 go_loopw [24] (λai wr=>ai= ι 0/\wr=w5) (λ_ _=>0)
 case atStart=>exact⟨rfl,rfl⟩
 case round=>
  obtain⟨rfl,rfl⟩:=hrel
  go_wp2_with (go_at_call 317;(go_call TL _ as e w6 ⟨rfl,rfl⟩))
  go_loopw [40] (λai aL=>ai= ι 0/\aL=w6) (λ_ _=>0)
  case atStart=>exact⟨rfl,rfl⟩
  case round=>
   obtain⟨rfl,rfl⟩:=hrel
   go_wp2_with (first | (go_at_call 318;(go_call qaj _ as e aW ⟨rfl,rfl⟩)) | (go_at_call 97;(go_call wZ ah.o (by rw[gA];decide) as e ab ⟨v51,rfl,Y,aj⟩;rw[gA] at Y;have ae:=κ Y;have ay:=κ aj;have H:=κ (qq aj (qq I.o an.o));obtain⟨N,c5,rfl,-⟩:=GG Y;clear Y aj;have aP:=β0 H.o;have aQ:=β1 H.o;have aR:=β2 H.o;have aS:=yw H.o 0;have aT:=yw H.o 1;have aU:=yw H.o 2)))
   have O:=WC H.o (υ 1) (υ 206) (δ N 8 c5);have ar:=(((ao.o.trans I.o).trans ay.o)).st3 (w.heap.size+1) τ (υ 1) (υ 206) (δ N 8 c5);have a3:jt (λb=>b=w.heap.size+1) ab (((ab.setCell ⟨w.heap.size+1,0,ϋ⟩ (υ 1)).setCell ⟨w.heap.size+1,1,ϋ⟩ (υ 206)).setCell ⟨w.heap.size+1,2,ϋ⟩ (δ N 8 c5)):=
    (((jt.refl (λb=>b=w.heap.size+1) ab).set (p:=⟨w.heap.size+1,0,ϋ⟩) rfl _).set (p:=⟨w.heap.size+1,1,ϋ⟩) rfl _).set (p:=⟨w.heap.size+1,2,ϋ⟩) rfl _
   have au:=XC ae.o a3 (λb aF e=>by have aB:=jG ae.o aF;have aC:=I.o.size;have aD:=aE.o;have aV:=qn ah.o.blk;omega);obtain⟨WF,ap⟩:=ν ((((ab.setCell ⟨w.heap.size+1,0,ϋ⟩ (υ 1)).setCell ⟨w.heap.size+1,1,ϋ⟩ (υ 206)).setCell ⟨w.heap.size+1,2,ϋ⟩ (δ N 8 c5)));rw[ap] at O ar au ⊢;clear ap a3;have aI:=β0 O;have aJ:=β1 O;have aK:=β2 O
   (refine bodyPost_ret (v:= .tuple #[θ #[υ 1,υ 206,δ N 8 c5],ι 0]) ?rr1 rfl ?_;(case rr1=>(simp[results,results289,go_sem,aI,aJ,aK])))
   have aH:=SlI.of_owns (l:=qy 0 4++qy d 4) (by rw[gA];exact au) (by rw[gA];decide);exact⟨_,_,rfl,aH,ar,λg aG=>by have aB:=jG ae.o aG;have aC:=I.o.size;have aD:=ao.o.size;omega⟩
def FM (H:Int) (w:World):Calls prog 287 #[θ #[ι 2,ύ,ω 0,ω 0,ω 0,ω 0,ω 0,ω 0,(),ι 1,ω 0,ω H,(),(),υ 0,υ 0,()]] w λe w'=>e= .returned (μ ό)/\ql w w':=by
 go_enter func287,ntmps287
 go_wp2_with (first | (go_at_call 313;(go_call Lm _ as e w1 ⟨rfl,m⟩;have I:=κ ((ql.alloc w _).trans m);have d:=κ (qq m (qj w _));obtain⟨⟨O,U,ag,ah,ai,aj,ak,al,am⟩,⟨an,Y,aa,ab,ac⟩,ad,ae,af⟩:=JC d.o;clear m)) | (go_at_call 311;(go_call Ln _ as e w2 ⟨rfl,m⟩;have J:=κ (I.o.trans m);have N:=κ (qq m d.o);obtain⟨⟨O,U,ag,ah,ai,aj,ak,al,am⟩,⟨an,Y,aa,ab,ac⟩,ad,ae,af⟩:=JC N.o;clear m)) | (go_at_call 314;(go_call An H _ as e ao ⟨rfl,m⟩;have M:=κ (J.o.trans m);clear m)))
 go_ret;exact⟨rfl,M.o⟩
def CH (d:Int) (ai:0<=d/\d<=4294967295) (w:World):Calls prog 259 #[θ #[ι 2,ύ,ω 0,ω 0,ω 0,ω 0,ω 0,ω 0,(),ι 1,ω 0,ω d,(),(),υ 0,υ 0,()]] w λe w'=> ∃ob cb,e= .returned (.tuple #[θ #[υ 1,υ 206,δ ob 8 cb],ι 0])/\SlI .u8 w' (δ ob 8 cb) (qy 0 4++qy d 4)/\ql w w'/\jX w (δ ob 8 cb):=by
 obtain⟨W0,I⟩:=ν ((w.alloc (.cells #[ι 2,ύ,ω 0,ω 0,ω 0,ω 0,ω 0,ω 0,(),ι 1,ω 0,ω d,(),(),υ 0,υ 0,()] 293)).alloc (.cells #[υ 0,υ 0,()] 291));have ae:Hid (ql w W0):=κ (by rw[<-I];exact X8.al _);have aa:Hid (W0.heap[w.heap.size]? =ϊ (.cells #[ι 2,ύ,ω 0,ω 0,ω 0,ω 0,ω 0,ω 0,(),ι 1,ω 0,ω d,(),(),υ 0,υ 0,()] 293)):=κ (by rw[<-I];exact qs (qj w _) _);have ad:Hid (W0.heap[w.heap.size+1]? =ϊ (.cells #[υ 0,υ 0,()] 291)):=κ (by rw[<-I];exact qC η)
 go_enter func259,ntmps259
 go_upto_region 1 with fail
 (try rw[I])
 clear I;obtain⟨⟨aj,ak,av,aw,ax,ay,az,aA,aB⟩,⟨aC,am,an,ao,ap⟩,aq,ar,au⟩:=JC aa.o
 go_wp2_with (first | (go_at_call 287;(go_call FM d _ as e w1 ⟨rfl,m⟩;have U:=κ (ae.o.trans m);have ah:=κ (qq m aa.o);have O:=κ (qq m ad.o);obtain⟨⟨aj,ak,av,aw,ax,ay,az,aA,aB⟩,⟨aC,am,an,ao,ap⟩,aq,ar,au⟩:=JC ah.o;clear m)) | (go_at_call 289;(go_call Lk d ai _ as e w2 ⟨o2,c2,rfl,s2,N,n2⟩;have ag:=κ s2;have Y:=κ n2;have af:=κ (U.o.trans N);have H:=κ (qq N O.o);have aG:=β0 H.o;have aH:=β1 H.o;have aI:=β2 H.o;have aJ:=yw H.o 0;have aK:=yw H.o 1;have aL:=yw H.o 2;clear s2 N n2)))
 have J:=WC H.o (υ 1) (υ 206) (δ o2 8 c2);have a3:jt (λb=>b=w.heap.size+1) w2 (((w2.setCell ⟨w.heap.size+1,0,ϋ⟩ (υ 1)).setCell ⟨w.heap.size+1,1,ϋ⟩ (υ 206)).setCell ⟨w.heap.size+1,2,ϋ⟩ (δ o2 8 c2)):=(((jt.refl (λb=>b=w.heap.size+1) w2).set (p:=⟨w.heap.size+1,0,ϋ⟩) rfl _).set (p:=⟨w.heap.size+1,1,ϋ⟩) rfl _).set (p:=⟨w.heap.size+1,2,ϋ⟩) rfl _;have ac:=jt.to_more af.o a3 (λb e=>by omega);have sf:=ag.o.off2 (λ_ b M (e:b=w.heap.size+1)=>by have:=Y.o b M;have:=qn O.o;omega) a3;obtain⟨WF,ab⟩:=ν ((((w2.setCell ⟨w.heap.size+1,0,ϋ⟩ (υ 1)).setCell ⟨w.heap.size+1,1,ϋ⟩ (υ 206)).setCell ⟨w.heap.size+1,2,ϋ⟩ (δ o2 8 c2)));rw[ab] at J ac sf ⊢;clear ab a3;have aD:=β0 J;have aE:=β1 J;have aF:=β2 J
 (refine bodyPost_ret (v:= .tuple #[θ #[υ 1,υ 206,δ o2 8 c2],ι 0]) ?rr2 rfl ?_;(case rr2=>(simp[results,results259,go_sem,aD,aE,aF])))
 exact⟨_,_,rfl,sf,ac,λb M=>Ϙ U.o.size (Y.o b M)⟩
def WN (n s:Int):Byt (qy n s):=by
 unfold qy;split
 ·exact JF _ _
 ·exact xh
def Ex (d:Int):xk (Zb d):=⟨⟨by show (0:Int)<=1;decide,by show (1:Int)<=255;decide⟩,⟨by show (0:Int)<=206;decide,by show (206:Int)<=255;decide⟩,zZ (WN 0 4) (WN d 4)⟩
def FN (d:Int) (aw:0<=d/\d<=4294967295) (b cap:Nat) (w:World) (aL:b<w.heap.size) (ah:w.rangeAt b 0 [ι 2,ύ,ω 0,ω 0,ω 0,ω 0,ω 0,ω 0,(),ι 1,ω 0,ω d,(),(),υ 0,υ 0,()]):Calls prog 205 #[δ (ϊ ⟨b,0,ϋ⟩) 1 cap] w λe w'=> ∃vx,e= .returned (.tuple #[vx,ι 0])/\SlP 3 yH w' vx [Zb d]/\ql w w':=by
 obtain⟨aC,hi,ax,ay,az⟩:=info_parts (P:=prog) (e:=291) (z:= θ #[υ 0,υ 0,()]) (size:=3) (bytes:=32) ξ;obtain⟨aD,aE,aF,aG,aH⟩:=info_parts (P:=prog) (e:=29) (z:= ι 0) (size:=1) (bytes:=8) ξ;have an:=κ ah;have ao:Hid (ChJ w w (δ ϋ 0 0) (δ ϋ 0 0) [] []):=κ ⟨je.nil _ _ _ _ _ _,World.ownsRow_nil _ _ _ _,ql.refl _⟩;clear ah
 go_enter func205,ntmps205
 go_wp2
 go_loopw [4,5,12] (λu v I wr=>(I= ι 0/\u= δ ϋ 0 0/\v= δ ϋ 0 0/\wr=w)∨(I= ι 1/\ ∃ad aa N ae ab O,u= δ ad aa N/\v= δ ae ab O/\ChJ w wr (δ ad aa N) (δ ae ab O) [Zb d] [0])) (λ_ _ I _=>1-(intOf I).toNat)
 case atStart=>exact ϑ ⟨rfl,rfl,rfl,rfl⟩
 case round=>
  rcases hrel with ⟨rfl,rfl,rfl,rfl⟩ | ⟨rfl,ad,aa,N,ae,ab,O,rfl,rfl,ag⟩
  ·go_wp2_with (first | (refine wpList_load_mid rfl 293 (.tmp 14) rfl b 0 rfl [ι 2,ύ,ω 0,ω 0,ω 0,ω 0,ω 0,ω 0,(),ι 1,ω 0,ω d,(),(),υ 0,υ 0,()] _ an.o underlying293 rfl ξ ?_) | (refine jU rfl 293 (.tmp 7) (.tmp 15) rfl wr _ #[ι 2,ύ,ω 0,ω 0,ω 0,ω 0,ω 0,ω 0,(),ι 1,ω 0,ω d,(),(),υ 0,υ 0,()] rfl rfl rfl ξ rfl rfl ?_) | (refine wpList_load_row rfl 293 (.tmp 7) rfl wr.heap.size rfl _ #[ι 2,ύ,ω 0,ω 0,ω 0,ω 0,ω 0,ω 0,(),ι 1,ω 0,ω d,(),(),υ 0,υ 0,()] _ _ (heap_alloc_new wr _) underlying293 rfl ξ ?_) | (go_at_call 259;(go_call CH d aw _ as e w1 ⟨ac,af,rfl,s1,am,aI⟩;have ar:=κ s1;have aq:=κ ((ql.alloc wr (.cells #[ι 2,ύ,ω 0,ω 0,ω 0,ω 0,ω 0,ω 0,(),ι 1,ω 0,ω d,(),(),υ 0,υ 0,()] 293)).trans am);have H:=κ ((ao.o.on aq.o).on ((ql.alloc w1 (.cells #[υ 1,υ 206,δ ac 8 af] 291)).al (.cells #[υ 1,υ 206,δ ac 8 af] 291)));clear s1 am aI)) | (at_builtin;refine jN _ rfl (.tmp 21) (.tmp 23) 385 rfl wr.heap.size 291 aC (θ #[υ 0,υ 0,()]) 3 32 underlying385 hi ax ay az rfl ζ _ [] rfl H.o.row (w1.heap.size+1) [υ 1,υ 206,δ ac 8 af] (Zb d) rfl rfl (zS η) X9 ((Dd (c:=Zb d) ar.o (Ex d) (λ_ g _ h=>by rcases h with h | h<;>cases h)).on (X8.al _)) (λb h=>gB H.o.errs h) ζ ζ H.o.more.size ?_;intro aP w8 U ai av;have M:=κ (H.o.put U ai);obtain⟨aN,aM,aJ,rfl,aA,aB⟩:=U.shape;clear U ai av aA aB) | (at_builtin;refine qU _ rfl (.tmp 25) (.tmp 27) 416 rfl wr.heap.size 29 aD (ι 0) 8 underlying416 aE aF aG aH rfl _ .i64 [] rfl (M.o.on X8).errs _ [0] rfl (SlI.lit .i64 w8 [0] 29 _ 1 _ rfl rfl rfl η) η ζ (by have:=M.o.more.size;simp;omega) ?_;intro v9 w9 Y aj ak;have ap:=κ ((M.o.on X8).err (E':=[0]) Y aj ak);obtain⟨aO,aK,au⟩:=xl Y;subst au;clear Y aj ak))
   go_roundw
   case rel=>exact ϕ ⟨by go_num,_,_,_,_,_,_,rfl,rfl,ap.o⟩
   case measure=>simp[intOf]
  ·have J:=κ ag;clear ag
   go_wp2_with (go_at_call 242;(go_call gh [0] _ _ (SlI.of_owns J.o.errs ζ) as e aQ ⟨rfl,rfl⟩))
   go_ret2
   exact⟨_,rfl,J.o.row.sl ζ,J.o.more⟩
def Vs (d:Int):[Zb d].length<=100000/\ ∀i,i<[Zb d].length->([Zb d].getD i xu).2.2.1.length<=1000000:=by
 refine⟨η,λi hi=> ?_⟩;obtain rfl:i=0:=by simpa using hi
 show (qy 0 4++qy d 4).length<=1000000;rw[gA]
 decide
def FL (d:Int) (ac:0<=d/\d<=4294967295) {b t:Nat} (cap:Nat) (w:World) (I:w.heap[b]? =ϊ (.cells #[ι 2,ύ,ω 0,ω 0,ω 0,ω 0,ω 0,ω 0,(),ι 1,ω 0,ω d,(),(),υ 0,υ 0,()] t (0,0))):Calls prog 144 #[δ (ϊ ⟨b,0,ϋ⟩) 1 cap] w λe w'=> ∃H er,e= .returned (.tuple #[H,ι er])/\SlI .u8 w' H (ug d)/\ql w w'/\ ∀g,H.ownBlock=ϊ g->w.heap.size<=g:=by
 have O:=κ (FN d ac b cap w (qn I) (λj v ad=>by rw[E9];exact qm I j (by simpa using ad)));clear I
 go_enter func144,ntmps144
 go_wp2_with (first | (go_at_call 205;(go_call O.o as e w1 ⟨H,rfl,s1,M⟩;have aa:=κ s1;have J:=κ M;clear s1 M)) | (go_at_call 206;(go_call Dy H [Zb d] _ aa.o (Vs d).1 (Vs d).2 as e w2 ⟨ae,rfl,s2,N,n2⟩;have ab:=κ s2;have U:=κ (J.o.trans N);have Y:=κ (λ(b:Nat) (hb:ae.ownBlock=ϊ b)=>Ϙ J.o.size (n2 b hb));clear s2 N n2)))
 go_ret2
 exact⟨_,_,rfl,ab.o,U.o,Y.o⟩
def CF (bk:qI w0 w k s F) (H o2:Int) (aL: ∀o v,qh s.tab.s o=ϊ v->0<=v/\v<=4294967295) (bB:s.reqs.length<=1000000):
  Calls prog 86 #[γ k.R,θ #[ι H,ι o2]] w λe w'=>e= .returned (.tuple #[])/\qI w0 w' k (s.request (H,o2)) F/\qw F w w':=by
 obtain⟨T,vp,bE,h⟩:=bk;obtain⟨W1,af⟩:=ν (w.alloc (.cells #[ι H,ι o2] 58));have aq:Hid (ql w W1):=κ (by rw[<-af];exact ql.alloc _ _);have ax:Hid (W1.heap[w.heap.size]? =ϊ (.cells #[ι H,ι o2] 58 (0,0))):=κ (by rw[<-af];exact qj w _);have ab:=κ (h.on aq.o);have bi:=κ (h.at.stay aq.o);have az:=κ h.fresh;obtain⟨d,ah⟩:=ν ((qh s.tab.s (H,o2)).getD 0)
 have be:Hid (0<=d/\d<=4294967295):=κ (by
  rw[<-ah];cases hm:qh s.tab.s (H,o2) with
  | none=>exact⟨ζ,ζ⟩
  | some v=>exact aL _ v hm)
 have bd:Hid (s.request (H,o2)={s with reqs:=s.reqs++[⟨(H,o2),s.clock,ug d⟩]}):=κ (by unfold RmS.request;rw[ah]);have aA:=κ (CC (ab.o.tab.more (ql.drewN W1 1)) (H,o2));rw[ah] at aA;clear ah aL h;have aZ:=λ(x:qt W1)=>β11 (qq x.h ab.o.blk)
 have an:=λ(x:qt W1)=>qq x.h ax.o
 have aj:=λx=>β0 (an x);have ak:=λx=>β1 (an x);clear an
 go_enter func86,ntmps86
 go_upto_region 1 with fail
 (try rw[af])
 clear af;refine Qn W1 11 11 [5] ?_
 refine Qq5 ?_
 (refine Ql ?_;intro K I)
 (with_reducible refine aA.o.mono ?_)
 rintro e w2 ⟨rfl,aN⟩;have ae:Hid (ql W1 w2):=κ ((ql.drewN W1 1).trans aN);clear aN;refine⟨_,rfl,qk ae.o,I _ _ ?_⟩;clear I K
 iterate 5 (refine qE rfl rfl (qk ae.o) ?_;intro K I;go_big_quiet_op;go_big_quiet_on)
 refine qA ?_;clear aZ aj ak;obtain⟨au,ag⟩:=ν ((w2.alloc (.cells #[ι 1,ω 0,ω d,(),()] 283)).alloc (.cells #[ι 2,ύ,ω 0,ω 0,ω 0,ω 0,ω 0,ω 0,(),ι 1,ω 0,ω d,(),(),υ 0,υ 0,()] 293));have aD:Hid (ql w2 au):=κ (by rw[<-ag];exact X8.al _);have bh:Hid (au.heap[w2.heap.size+1]? =ϊ (.cells #[ι 2,ύ,ω 0,ω 0,ω 0,ω 0,ω 0,ω 0,(),ι 1,ω 0,ω d,(),(),υ 0,υ 0,()] 293 (0,0))):=κ (by rw[<-ag];exact qC η);have aC:=κ (FL d be.o 1 au bh.o)
 go_upto_region 4 with (first | (refine jU rfl 283 (.tmp 6) (.tmp 19) rfl w2 _ #[ι 1,ω 0,ω d,(),()] rfl rfl rfl ξ rfl rfl ?_) | (refine wpList_load_row rfl 283 (.tmp 6) rfl w2.heap.size rfl _ #[ι 1,ω 0,ω d,(),()] _ _ (heap_alloc_new w2 _) underlying283 rfl ξ ?_) | ((try rw[ag]);(go_at_call 144;(go_call aC.o as e w5 ⟨bF,bv,rfl,aw,aO,aP⟩;have aE:=κ aw;have bf:Hid (ql w2 w5):=κ (aD.o.trans aO);have bg:=κ (λb J=>Ϙ aD.o.size (aP b J));obtain⟨aa,Y,rfl,_⟩:=id aw;clear aw aO aP))))
 clear ag aC;have ar:Hid (ql W1 w5):=κ (ae.o.trans bf.o);have aW:=ab.o.on ar.o;have bj:=κ (bi.o.trans (ab.o.at.stay ar.o));have bC:=ab.o.more.size
 obtain⟨M,aX,aG,aH⟩:=aW.data (λb=>ug d≠[]/\(δ aa (ug d).length Y).ownBlock=ϊ b) (λb J=>by
  have bx:=bg.o b J.2;have bz:=ae.o.size;have bA:=aq.o.size
  exact⟨az.o b τ,τ,aE.o.old J.1 J.2,λhF=>by have:=(ab.o.law b hF).2.2;omega⟩)
 have U:=κ aX;have aB:=κ aG;clear aX aG aW;have aY:=κ (qq ar.o ax.o);obtain⟨O,_,N,rfl,rfl,_⟩:=(U.o.all .reqs).1.shape;obtain⟨_,aM⟩:=U.o.all .reqs;have am:=κ aM;clear aM;have aR: ¬(δ O s.reqs.length N).ownBlock=ϊ k.R:=λe=>by have:=am.o _ e;rw[(U.o.all .room).1] at this;cases this
 have aK:M w.heap.size= .no∨M w.heap.size= .data:=by
  by_cases e:ug d≠[]/\(δ aa (ug d).length Y).ownBlock=ϊ w.heap.size
  ·exact ϕ (aB.o _ e)
  ·exact ϑ (by rw[aH _ e];exact az.o _ (ϔ _))
 have bt: ¬(δ O s.reqs.length N).ownBlock=ϊ w.heap.size:=λe=>by have:=am.o _ e;rcases aK with q | q<;>rw[q] at this<;>cases this
 clear aK aH;have ao:=λ(x:qz (λb=>(δ O s.reqs.length N).ownBlock=ϊ b) w5)=>x.h.blk U.o.blk aR
 have ba:=λx=>β15 (ao x);have bb:=λx=>β9 (ao x);clear ao
 have ap:=λ(x:qz (λb=>(δ O s.reqs.length N).ownBlock=ϊ b) w5)=>x.h.blk aY.o bt
 have aj:=λx=>β0 (ap x);have ak:=λx=>β1 (ap x);clear ap
 obtain⟨bs,hi,bp,bq,br⟩:=info_parts (P:=prog) (e:=296) (z:= θ #[ι 0,ι 0,ι 0,()]) (size:=4) (bytes:=48) ξ;refine QN (λb=>(δ O s.reqs.length N).ownBlock=ϊ b) w5 16 17 [12,13,14,16] ?_
 refine Nz ?_
 clear ba bb aj ak
 (refine Ql ?_;intro K I)
 refine⟨qi (((jt.refl _ w5).drewN 1).alc _),I _ _ ?_⟩;clear I K;have bo: ∀g,(δ O s.reqs.length N).ownBlock=ϊ g->M g= .reqs:=am.o;have aU:=(((U.o.all .reqs).1.on (ql.drewN w5 1)).on (ql.alloc _ (.cells #[ι H,ι o2,ι s.clock,δ aa (ug d).length Y] 296))).other (D':=λb=>(M b≠ .data/\M b≠ .reqs)/\b<w5.heap.size) (λb J=>ϑ J.1);have aV:=(aE.o.keep (ql.drewN w5 1)).keep (ql.alloc _ (.cells #[ι H,ι o2,ι s.clock,δ aa (ug d).length Y] 296));have aT:jw RRq (λb=>((M b≠ .data/\M b≠ .reqs)/\b<w5.heap.size)∨(δ O s.reqs.length N).ownBlock=ϊ b) ((w5.drewN 1).alloc (.cells #[ι H,ι o2,ι s.clock,δ aa (ug d).length Y] 296)) [ι H,ι o2,ι s.clock,δ aa (ug d).length Y] ⟨(H,o2),s.clock,ug d⟩:=λw' a=>
  ⟨_,rfl,aV.off2 (λbn b J ad=>by
   have e:=aB.o b ⟨bn,J⟩;rcases ad with ad | ad
   ·exact ad.1.1 e
   ·rw[bo b ad] at e;cases e) a⟩
 refine jR rfl rfl ?_;intro K I
 refine zK (.tmp 31) (.tmp 39) 93 rfl 0 296 bs (θ #[ι 0,ι 0,ι 0,()]) 4 48 underlying93 hi bp bq br rfl ζ _ s.reqs rfl aU w5.heap.size [ι H,ι o2,ι s.clock,δ aa (ug d).length Y] ⟨(H,o2),s.clock,ug d⟩ rfl rfl (kX rfl) X9 aT (λb J=>by
  have:=J.2;have:=(((ql.drewN w5 1)).al (.cells #[ι H,ι o2,ι s.clock,δ aa (ug d).length Y] 296)).size
  omega) ζ τ (Δ _) ?_
 intro bD w6 av aJ aI;have ac:Hid (jt (λb=>(δ O s.reqs.length N).ownBlock=ϊ b) w5 w6):=κ ((((jt.refl _ w5).drewN 1).alc _).trans (jt.of_grown aJ));obtain⟨aS,aQ,aF,rfl,bl,bm⟩:=av.shape;have ai:=κ (ac.o.blk U.o.blk aR);have bc:(M k.R≠ .data/\M k.R≠ .reqs)/\k.R<w5.heap.size:=⟨by rw[(U.o.all .room).1];exact⟨η,η⟩,U.o.lt⟩;have ay:=κ (U.o.reqsPut (y:=⟨(H,o2),s.clock,ug d⟩) ((ac.o.mono (S':=λb=>(δ O s.reqs.length N).ownBlock=ϊ b∨b=k.R) (λb J=>ϑ J)).set (p:=⟨k.R,15,ϋ⟩) (ϕ rfl) (δ aS aQ aF)) (((ql.drewN w5 1)).al (.cells #[ι H,ι o2,ι s.clock,δ aa (ug d).length Y] 296)).size (av.step (jt.set (S:=λb=>(M b≠ .data/\M b≠ .reqs)/\b<w5.heap.size) (jt.refl _ _) (p:=⟨k.R,15,ϋ⟩) bc (δ aS aQ aF))) aI (qB (qp ai.o 15 _) rfl));have bu:w6.cell? ⟨k.R,15,ϋ⟩=ϊ (δ O s.reqs.length N):=qm ai.o 15 rfl;have bw:w6.frozen? ⟨k.R,15,ϋ⟩=ύ:=yw ai.o 15;clear av aJ aI aU aT aV bl bm;refine⟨qi ac.o,I _ _ ?_⟩;clear I K;go_simp
 (refine Ql ?_;intro K I)
 refine⟨qi ac.o,I _ _ ?_⟩;clear I K
 iterate 1 (refine qE rfl rfl (qi ac.o) ?_;intro K I;go_big_quiet_op;go_big_quiet_on)
 (refine Qe ?_;intro K I)
 refine I _ _ ?_;clear I K;refine qA ?_;go_wp2
 (refine bodyPost_end (v:= .tuple #[]) ?re1 rfl ?_;(case re1=>simp[results,results86,go_sem]))
 exact⟨rfl,by rw[bd.o];exact ay.o.1,bj.o.trans ay.o.2⟩
def xw {P:Program} {o:Oper} {a:Act} {C:World->Prop} {K:Act->World->Prop} (H:TypeId) (x y:Operand) (M:o.op= .store H x y)
  (g:Nat) (t:TypeId) (c d:Array Value) (J:w.heap[g]? =ϊ (.cells c t (0,0))) (O:a.eval x= γ g) (U:a.eval y= θ d)
  (hi:(P.info? H).map (·.size)=ϊ d.size) (N:c.size=d.size) (I:d.all (·.oneCell')=ό)
  (h:C (w.setRow g d)/\K (a.put o.dst undef) (w.setRow g d)):jn P C o a w K:=by
 unfold jn execOp;simp only[M,O,U,Instr.storeAt,Instr.sureAddr,Sem.run_bind,Sem.run_pure,Result.andThen_ok,run_storeVar_row w g t H c d J hi N I];exact h
def ql.row (h:ql w w') {g:Nat} (H:w.heap.size<=g) (cs:Array Value):ql w (w'.setRow g cs):=jt.to_more h (jt.setRow w' g cs) (λb d=>by rw[d];exact H)
def Tk.subs {m:Nat} {d:Int} (h:Tk m d s s') (k:zc s):zc s':=⟨by rw[h.tab];exact k.keys,by rw[h.tab,h.lanes];exact k.lane,by rw[h.tab];exact k.few⟩
def qV.subs (h:qV n s) (d:n<=100000):zc s:=⟨h.tb.keys,h.tb.lane,Ϙ h.num.few τ⟩
def Hn (aW:qI w0 w k s F) (bI:qV n s) (cv:n<=100000):
  Calls prog 34 #[γ k.R] w λe w'=>e= .returned (ι s.tick.2)/\qI w0 w' k s.tick.1 F/\qw F w w':=by
 have bm:=κ aW;have ao:=κ bI;obtain⟨vp,cD,aB⟩:=aW.blk;have bD:=β7 aB;have cp:=β9 aB;have cr:=yw aB 9;obtain⟨cq,bb⟩:=ν (s.closed);rw[bb] at bD;have bn:=κ bb;clear bb aB aW bI;cases cq with
 | true=>
  have aD:Hid (s.tick=(s,7)):=κ (by unfold RmS.tick;rw[ϐ bn.o]);rw[aD.o]
  go_enter func34,ntmps34
  go_wp2;go_ret;exact⟨rfl,bm.o,qw.refl _ _⟩
 | false=>
  obtain⟨cP,cQ⟩:=ao.o.num.clock;have aQ:=κ (bm.o.cell 9 (ι (s.clock+1)) (s':={s with clock:=s.clock+1}) (λ_ _=>rfl) ⟨rfl,rfl,rfl,rfl,rfl,rfl,rfl,rfl,rfl⟩);obtain⟨s1,aM⟩: ∃s1:RmS,{s with clock:=s.clock+1}=s1:=⟨_,rfl⟩;obtain⟨M,bc⟩:=ν (s.origins);have aD:Hid (s.tick=(M.foldl RmS.tick1 s1,0)):=κ (by unfold RmS.tick;rw[ώ (by rw[bn.o];decide),bc,aM])
  have ar:Hid (zc s1/\xY s1.cfg=ό/\(0<=s1.clock/\s1.clock<=100001)/\(∀o t,qh s1.strs o=ϊ t->0<=t.asks.tries/\t.asks.tries<=900000/\0<=t.asks.last/\t.asks.last<=100000)/\s1.reqs.length<=900000/\(∀o v,qh s1.tab.s o=ϊ v->0<=v/\v<=4294967295)/\s1.origins=M):=κ (by
   rw[<-aM];have ct:=ao.o.num.asks;have aL:=ao.o.num.reqs;have be:=ao.o.subs cv
   exact⟨⟨be.keys,be.lane,be.few⟩,ao.o.num.cfg,by simp only;omega,λo t az=>by have:=ct o t az;omega,by simp only;omega,ao.o.tb.src,bc⟩)
  obtain⟨W1,aY⟩:=ν (w.setCell ⟨k.R,9,ϋ⟩ (ι (s.clock+1)));rw[aM,aY] at aQ;obtain⟨T,vp,cD,bO⟩:=aQ.o.1;have bv:=κ bO;have bq:=κ bv.o.orgsF;rw[ar.o.2.2.2.2.2.2] at bq;clear bO aM bc
  go_enter func34,ntmps34
  go_wp2_with ((try rw[aY]);(go_at_call 64;(go_call bq.o as e w2 ⟨db,cap,Fn,rfl,bG,bW,bS,bL⟩;have cf:=κ bL;have cb:=κ bW.at;have ch:=κ bS;have cc:=κ bG;clear bL bW bS bG)))
  clear aY cp cr bD;have cj:=κ (aQ.o.2.trans (bv.o.at.stay ch.o));have da:=cc.o
  go_loopw [22] (λbh wr=> ∃j:Nat,j<=M.length/\bh= ι j/\qI w0 wr k ((M.take j).foldl RmS.tick1 s1) (Fn++F)/\qw (Fn++F) w2 wr) (λbh _=>M.length-(intOf bh).toNat)
  case atStart=>exact⟨0,τ,rfl,cb.o,qw.refl _ _⟩
  case round=>
   obtain⟨j,cZ,rfl,aL,az⟩:=hrel;have aS:=κ az;by_cases hlt:j<M.length
   ·have cu:(j:Int)<(M.length:Int):=by omega
    obtain⟨g,rfl,bC,c1⟩:=cf.o wr (λb aa=>az.2 b (by simp[aa])) j hlt;have bu:Hid (M.take (j+1)=M.take j++[M[j]]):=κ (by rw[A9,ϖ hlt];rfl);have am:=κ (ur (M.take j) s1);have bJ:(M.take j).length<=9:=by rw[Ϡ];omega
    have bp:=κ bJ;obtain⟨ts,bN⟩: ∃t,qh s1.strs M[j]=ϊ t:=yB (by rw[ar.o.2.2.2.2.2.2];exact ϡ hlt);generalize M[j]=o at *;generalize bM:(M.take j).foldl RmS.tick1 s1=sj at *;have bt:=κ bM;clear bM az bJ;obtain⟨t,bf⟩: ∃t,qh sj.strs o=ϊ t:=by
     have:=yt (am.o.strs o);rw[bN] at this;exact ϥ.1 this
    have aE:=κ bf;have bH:zc sj/\(1<=sj.cfg.space/\sj.cfg.space<=sj.cfg.retry/\sj.cfg.retry<=1000)/\xz sj.clock/\(0<=t.asks.tries/\t.asks.tries<=1000000/\xz t.asks.last):=by
     obtain⟨cw,cx,dg,cy,dh,di,dj⟩:=ar.o;obtain⟨t0,a0,cn,co,ay⟩:=am.o.asks o t bf;obtain⟨bE,cS,cT,cU⟩:=cy o t0 a0;rw[ϐ bE] at co;have:=bp.o;refine⟨am.o.subs cw,by rw[am.o.cfg];exact(kF cx).2.2.1,by rw[am.o.clock];exact⟨τ,τ⟩,cn bE,τ, ?_⟩;rcases ay with ay | ay<;>rw[ay]<;>exact⟨τ,τ⟩
    have ak:=κ bH;have cg:Hid (∀o v,qh sj.tab.s o=ϊ v->0<=v/\v<=4294967295):=κ (by rw[am.o.tab];exact ar.o.2.2.2.2.2.1);have ce:Hid (sj.reqs.length<=1000000):=κ (by have:=am.o.reqs;have:=ar.o.2.2.2.2.1;have:=bp.o;omega);clear bH bN bf;obtain⟨J,o2⟩:=o;simp only at bC c1;obtain⟨ah,aK⟩:=ν (wr.alloc (.cells #[ι J,ι o2] 58));have bx:Hid (ql wr ah):=κ (by rw[<-aK];exact ql.alloc _ _);have aA:Hid (ah.heap[wr.heap.size]? =ϊ (.cells #[ι J,ι o2] 58 (0,0))):=κ (by rw[<-aK];exact qj wr _);have bA:=κ (aL.stay bx.o);obtain⟨cl,cC,cE,bP⟩:=aL;have aX:RmX cl w0 ah k cC cE sj ([wr.heap.size]++(Fn++F)):=bP.adds bx.o (λb aa=>by simp at aa;subst aa;exact⟨ϔ _,lt_of_block aA.o⟩);have aF:=κ aX;obtain⟨p,cI,v,bK,bQ⟩:=aX.strAt aE.o;have bw:=κ bQ;have bs:=κ bK;have bY:=λ(x:qt ah)=>β13 (qq x.h aF.o.blk)
    have aU:=λ(x:qt ah)=>qq x.h aA.o
    have bk:=λx=>β0 (aU x);have bl:=λx=>β1 (aU x);clear aU
    have bZ: ∀x:qt ah,(Instr.lookup 91 (.map (ϊ k.MS)) (θ #[ι J,ι o2]) ύ).run prog x.w'= .ok (γ p) x.w':=λx=>by
     have:=ya (aF.o.stm.more x.h) (J,o2) ύ;rw[bs.o] at this;exact this
    clear bP aX bQ bK
    go_upto_region 7 with fail
    (try rw[aK])
    clear aK bC c1;refine Qn ah 7 7 [] ?_
    refine Qq7 ?_
    refine qA ?_;clear bY bZ bk bl
    go_upto_region 8 with fail
    obtain⟨H,ba⟩:=ν (ah.drewN 1);have aw:Hid (ql ah H):=κ (by rw[<-ba];exact ql.drewN _ 1);have aG:=κ (aF.o.on aw.o);have ck:=κ (aF.o.at.stay aw.o)
    (try rw[ba])
    clear ba;obtain⟨bV,bg⟩:=ν (sj.wants (J,o2));have aT:=κ (λw' (m:ql H w')=>FA (aG.o.on m) ak.o.1 J o2 aE.o);rw[bg] at aT;obtain⟨cz,bd⟩:=ν (vU sj.cfg.space sj.cfg.retry t.asks bV sj.clock);have au:=κ (λw'=>Cy sj.cfg.space sj.cfg.retry t.asks bV sj.clock ak.o.2.1.1 ak.o.2.1.2.1 ak.o.2.1.2.2 ak.o.2.2.2.1 ak.o.2.2.2.2.1 ak.o.2.2.2.2.2 ak.o.2.2.1 w');rw[bd] at au;obtain⟨⟨Y,N,O,U⟩,bi⟩:=cz;simp only at au;have bo:Hid (sj.tick1 (J,o2)=if bi then ({sj with strs:=qx sj.strs (J,o2) {t with asks:=⟨Y,N,O,U⟩}}:RmS).request (J,o2) else {sj with strs:=qx sj.strs (J,o2) {t with asks:=⟨Y,N,O,U⟩}}):=κ (by unfold RmS.tick1;rw[aE.o];simp only[bg,bd]);clear bg bd
    go_cut [6,7] from 32 to 51 (λcA cB ac=> ∃A,cA= γ A/\cB= μ bi/\ac.heap[A]? =ϊ (.cells #[μ Y,N,ι O,ι U] 174 (0,0))/\ql H ac)
    case first=>
     have aH:=λ(x:qt H)=>qq x.h aG.o.blk
     have cF:=λx=>β4 (aH x);have cG:=λx=>β5 (aH x);have cH:=λx=>β9 (aH x);clear aH
     have av:=λ(x:qt H)=>qq (aw.o.trans x.h) bw.o.blk
     have cJ:=λx=>β3 (av x);have cK:=λx=>β4 (av x);have cL:=λx=>β5 (av x);have S6:=λx=>β6 (av x);clear av
     have aV:=λ(x:qt H)=>qq (aw.o.trans x.h) aA.o
     have bk:=λx=>β0 (aV x);have bl:=λx=>β1 (aV x);clear aV
     refine zB H 23 (.op 0 ύ (.op 1 ύ (.op 2 ύ (.op 3 ύ (.op 4 ύ (.op 5 ύ (.op 6 ύ (.op 7 ύ (.op 8 ύ (.op 9 ύ (.op 10 ύ (.op 12 ύ (.op 13 ύ (.op 14 ύ (.op 15 ύ (.br [11,20] λk=>if k=11 then .br [16,20] λk=>if k=16 then .op 17 ύ (.op 18 ύ (.op 19 ύ (.op 20 ό (.op 21 ό (.op 22 ύ (.done)))))) else .op 16 ό (.op 17 ύ (.op 18 ύ (.op 19 ύ (.op 21 ό (.op 22 ύ (.done)))))) else .op 11 ό (.op 16 ό (.op 17 ύ (.op 18 ύ (.op 19 ύ (.op 21 ό (.op 22 ύ (.done))))))))))))))))))))))) ξ ξ ?_
     repeat (first | (refine jg rfl rfl (qk ρ) ?_) | (refine qH rfl rfl (qk ρ) ?_;intro K d;go_big_quiet_op;go_big_quiet_on))
     refine wP ζ ?_ ?_
     ·(refine qO rfl rfl ?_;intro K d;unfold jn;go_simp)
      refine(aT.o _ (ql.drewN H 1)).mono ?_;rintro e w5 ⟨rfl,bT⟩;have ax:Hid (ql H w5):=κ ((ql.drewN H 1).trans bT);clear bT;refine⟨_,rfl,qk ax.o,d _ _ ?_⟩;clear d K;refine wP ζ ?_ ?_
      ·(refine qO rfl rfl ?_;intro K d;unfold jn;go_simp)
       refine(au.o _).mono ?_;rintro e ac ⟨rfl,ap⟩;have ag:=κ (ax.o.trans ap);clear ap;refine⟨_,rfl,qk ag.o,d _ _ ?_⟩;clear d K
       repeat (first | (refine jg rfl rfl (qk ag.o) ?_) | (refine qH rfl rfl (qk ag.o) ?_;intro K d;go_big_quiet_op;go_big_quiet_on))
       (refine qO rfl rfl ?_;intro K d;unfold jn;go_simp)
       refine⟨qk (ag.o.al _),d _ _ ?_⟩;clear d K;obtain⟨A,ab⟩:=ν (ac.heap.size);obtain⟨w9,aN⟩:=ν (ac.alloc (.cells #[μ ύ,ύ,ι 0,ι 0] 174));have aj:Hid (w9.heap[A]? =ϊ (.cells #[μ ύ,ύ,ι 0,ι 0] 174 (0,0))):=κ (by rw[<-aN,<-ab];exact qj ac _);have ad:Hid (ql H w9):=κ (by rw[<-aN];exact ag.o.al _);have aq:Hid (H.heap.size<=A):=κ (by rw[<-ab];exact ag.o.size)
       (try rw[aN])
       (try rw[ab])
       clear aN ab;refine qO rfl rfl ?_;intro K d;have I:=κ (ad.o.row aq.o #[μ Y,N,ι O,ι U]);have ae:=κ (jM aj.o #[μ Y,N,ι O,ι U]);refine xw 174 (.tmp 6) (.tmp 50) rfl A 174 _ #[μ Y,N,ι O,ι U] aj.o rfl rfl ξ rfl X9 ?_;refine⟨qk I.o,d _ _ ?_⟩;clear d K;go_simp
       repeat (first | (refine jg rfl rfl (qk I.o) ?_) | (refine qH rfl rfl (qk I.o) ?_;intro K d;go_big_quiet_op;go_big_quiet_on))
       refine zg ?_;go_wp2;go_meet;exact⟨A,rfl,rfl,ae.o,I.o⟩
      ·(refine qO rfl rfl ?_;intro K d;unfold jn;go_simp)
       refine⟨qk (ax.o.al _),d _ _ ?_⟩;clear d K;obtain⟨A,ab⟩:=ν (w5.heap.size);obtain⟨w8,ai⟩:=ν (w5.alloc (.cells #[μ ύ,ύ,ι 0,ι 0] 174));have aP:Hid (w8.heap[A]? =ϊ (.cells #[μ ύ,ύ,ι 0,ι 0] 174 (0,0))):=κ (by rw[<-ai,<-ab];exact qj w5 _);have aI:Hid (ql H w8):=κ (by rw[<-ai];exact ax.o.al _);have aq:Hid (H.heap.size<=A):=κ (by rw[<-ab];exact ax.o.size)
       (try rw[ai])
       (try rw[ab])
       clear ai ab
       (refine qO rfl rfl ?_;intro K d;unfold jn;go_simp)
       refine(au.o _).mono ?_;rintro e w9 ⟨rfl,an⟩;have ad:=κ (aI.o.trans an);have aj:=κ (qq an aP.o);clear an;refine⟨_,rfl,qk ad.o,d _ _ ?_⟩;clear d K
       repeat (first | (refine jg rfl rfl (qk ad.o) ?_) | (refine qH rfl rfl (qk ad.o) ?_;intro K d;go_big_quiet_op;go_big_quiet_on))
       refine qO rfl rfl ?_;intro K d;have I:=κ (ad.o.row aq.o #[μ Y,N,ι O,ι U]);have ae:=κ (jM aj.o #[μ Y,N,ι O,ι U]);refine xw 174 (.tmp 6) (.tmp 50) rfl A 174 _ #[μ Y,N,ι O,ι U] aj.o rfl rfl ξ rfl X9 ?_;refine⟨qk I.o,d _ _ ?_⟩;clear d K;go_simp
       repeat (first | (refine jg rfl rfl (qk I.o) ?_) | (refine qH rfl rfl (qk I.o) ?_;intro K d;go_big_quiet_op;go_big_quiet_on))
       refine zg ?_;go_wp2;go_meet;exact⟨A,rfl,rfl,ae.o,I.o⟩
     ·(refine qO rfl rfl ?_;intro K d;unfold jn;go_simp)
      refine⟨qk ((ql.drewN H 1).al _),d _ _ ?_⟩;clear d K;obtain⟨ac,aO⟩: ∃ac:World,H.drewN 1=ac:=⟨_,rfl⟩;have ag:Hid (ql H ac):=κ (by rw[<-aO];exact ql.drewN H 1)
      (try rw[aO])
      (try rw[show H.heap.size=ac.heap.size from by rw[<-aO];rfl])
      clear aO;obtain⟨A,ab⟩:=ν (ac.heap.size);obtain⟨w8,ai⟩:=ν (ac.alloc (.cells #[μ ύ,ύ,ι 0,ι 0] 174));have aP:Hid (w8.heap[A]? =ϊ (.cells #[μ ύ,ύ,ι 0,ι 0] 174 (0,0))):=κ (by rw[<-ai,<-ab];exact qj ac _);have aI:Hid (ql H w8):=κ (by rw[<-ai];exact ag.o.al _);have aq:Hid (H.heap.size<=A):=κ (by rw[<-ab];exact ag.o.size)
      (try rw[ai])
      (try rw[ab])
      clear ai ab
      (refine qO rfl rfl ?_;intro K d;unfold jn;go_simp)
      refine(aT.o _ aI.o).mono ?_;rintro e w6 ⟨rfl,ap⟩;have bz:=κ (aI.o.trans ap);have bX:=κ (qq ap aP.o);clear ap;refine⟨_,rfl,qk bz.o,d _ _ ?_⟩;clear d K
      (refine qO rfl rfl ?_;intro K d;unfold jn;go_simp)
      refine(au.o _).mono ?_;rintro e w9 ⟨rfl,an⟩;have ad:=κ (bz.o.trans an);have aj:=κ (qq an bX.o);clear an;refine⟨_,rfl,qk ad.o,d _ _ ?_⟩;clear d K
      repeat (first | (refine jg rfl rfl (qk ad.o) ?_) | (refine qH rfl rfl (qk ad.o) ?_;intro K d;go_big_quiet_op;go_big_quiet_on))
      refine qO rfl rfl ?_;intro K d;have I:=κ (ad.o.row aq.o #[μ Y,N,ι O,ι U]);have ae:=κ (jM aj.o #[μ Y,N,ι O,ι U]);refine xw 174 (.tmp 6) (.tmp 50) rfl A 174 _ #[μ Y,N,ι O,ι U] aj.o rfl rfl ξ rfl X9 ?_;refine⟨qk I.o,d _ _ ?_⟩;clear d K;go_simp
      repeat (first | (refine jg rfl rfl (qk I.o) ?_) | (refine qH rfl rfl (qk I.o) ?_;intro K d;go_big_quiet_op;go_big_quiet_on))
      refine zg ?_;go_wp2;go_meet;exact⟨A,rfl,rfl,ae.o,I.o⟩
    case rest=>
    obtain⟨A,rfl,rfl,bB,bR⟩:=hcut;have ae:=κ bB;have I:=κ bR;clear bB bR;have cm:=κ (aG.o.on I.o);have af:=κ (bw.o.on (aw.o.trans I.o));have a0:=β0 ae.o;have cN:=β1 ae.o;have cO:=β2 ae.o;have a3:=β3 ae.o;have dc:=β3 af.o.blk;have dd:=β4 af.o.blk;have de:=β5 af.o.blk;have df:=β6 af.o.blk;have cV:=yw af.o.blk 3;have cW:=yw af.o.blk 4;have cX:=yw af.o.blk 5;have cY:=yw af.o.blk 6;have aC:=κ (cm.o.strSet (t':={t with asks:=⟨Y,N,O,U⟩}) aE.o bs.o af.o ((((jt.set (S:=λb=>b=p) (jt.refl _ _) (p:=⟨p,3,ϋ⟩) rfl (μ Y)).set (p:=⟨p,4,ϋ⟩) rfl (μ N)).set (p:=⟨p,5,ϋ⟩) rfl (ι O)).set (p:=⟨p,6,ϋ⟩) rfl (ι U)) (qB (qp (qp (qp (qp af.o.blk 3 _) 4 _) 5 _) 6 _) rfl) rfl);have aJ:=κ (ck.o.trans ((aG.o.at.stay I.o).trans aC.o.2));obtain⟨cM,aZ⟩:=ν (((((wc.setCell ⟨p,3,ϋ⟩ (μ Y)).setCell ⟨p,4,ϋ⟩ (μ N)).setCell ⟨p,5,ϋ⟩ (ι O)).setCell ⟨p,6,ϋ⟩ (ι U)));rw[aZ] at aC aJ;have bj:=κ (aJ.o.blk η aA.o);have ay:=β0 bj.o;have cR:=β1 bj.o;cases bi with
    | false=>
     have aR:Hid (sj.tick1 (J,o2)={sj with strs:=qx sj.strs (J,o2) {t with asks:=⟨Y,N,O,U⟩}}):=κ (by rw[bo.o];rfl);go_wp2
     (try rw[aZ])
     go_roundw
     case rel=>exact⟨j+1,τ,by go_num,by rw[bu.o,Ξ,bt.o];show qI w0 _ k (sj.tick1 (J,o2)) _;rw[aR.o];exact aC.o.1.sub (λb aa=>ϓ _ aa),aS.o.trans (bA.o.trans (aJ.o.sub (λb aa=>ϓ _ aa)))⟩
     case measure=>simp[intOf];omega
    | true=>
     have aR:Hid (sj.tick1 (J,o2)=({sj with strs:=qx sj.strs (J,o2) {t with asks:=⟨Y,N,O,U⟩}}:RmS).request (J,o2)):=κ (by rw[bo.o];rfl);have cd:=κ (CF aC.o.1 J o2 cg.o ce.o)
     go_wp2_with ((try rw[aZ]);(go_at_call 86;(go_call cd.o as e dk ⟨rfl,bF,bU⟩;have ca:=κ bF;have ci:=κ bU;clear bF bU)))
     go_roundw
     case rel=>exact⟨j+1,τ,by go_num,by rw[bu.o,Ξ,bt.o];show qI w0 _ k (sj.tick1 (J,o2)) _;rw[aR.o];exact ca.o.sub (λb aa=>ϓ _ aa),aS.o.trans (bA.o.trans ((aJ.o.trans ci.o).sub (λb aa=>ϓ _ aa)))⟩
     case measure=>simp[intOf];omega
   ·obtain rfl:j=M.length:=by omega
    have cu: ¬(M.length:Int)<(M.length:Int):=by omega
    go_wp2;go_ret;exact⟨by rw[aD.o];rfl,by rw[aD.o];have:=aL;rw[ϱ] at this;exact this.sub (λb aa=>ϓ _ aa),cj.o.trans (aS.o.sub (λb aa=>ϓ _ aa))⟩
section
open _root_.Go.Proofs.Tryz renaming func170->Ξa,ntmps170->Ξb
def Lv (x:Int) (s:SlI .i64 w v l):Calls prog 170 #[v,ι x] w (Ge x l w):=Ψ8
end
def MJ (x:Int) (s:SlI .i64 w v l):Calls prog 117 #[v,ι x] w λe w'=>e= .returned (μ (decide (x∈l)))/\w=w':=by
 go_enter func117,ntmps117
 go_wp2_with (go_at_call 170;(go_call Lv x s as e w2 ⟨n,d,I,rfl,rfl⟩;have H:=κ d;clear d))
 go_ret;exact⟨qZ (by rw[C6];simp only[B3];exact H.o),rfl⟩
def wkL (L M:List Int):List Og:=(0,0)::(1,0)::(M.filter λx=>decide (x∈L)).flatMap λx=>[(2,x),(3,x),(4,x)]
def Wy (L H:List Int):(wkL L H).length<=2+3* H.length:=by
 unfold wkL;have h: ∀d:List Int,(d.flatMap λx=>[((2,x):Og),(3,x),(4,x)]).length=3* d.length:=by
  intro d
  induction d with
  | nil=>rfl
  | cons x d ih=>rw[List.flatMap_cons,Ϗ,ih,ϙ,ϙ,ϙ,ϙ,ϧ];omega
 have:=D3 (λx=>decide (x∈L)) H;rw[ϙ,ϙ,h];omega
def Vk (L d:List Int) (x:Int):wkL L (d++[x])=wkL L d++if x∈L then [(2,x),(3,x),(4,x)] else []:=by
 unfold wkL;rw[I7,P0];by_cases h:x∈L
 ·rw[ϐ h];simp[h]
 ·rw[ώ h];simp[h]
def Vo {j:Nat} (h:j<6):subIds.take (j+1)=subIds.take j++[(j:Int)]:=by
 have:j=0∨j=1∨j=2∨j=3∨j=4∨j=5:=by omega
 rcases this with rfl | rfl | rfl | rfl | rfl | rfl<;>rfl
def Un (x:Int) (h:n<3):([(2,x),(3,x),(4,x)]:List Og).take (n+1)=([(2,x),(3,x),(4,x)]:List Og).take n++[(((2+n:Nat):Int),x)]:=by
 have:n=0∨n=1∨n=2:=by omega
 rcases this with rfl | rfl | rfl<;>rfl
def Aw (w:World):je 2 RO (λ_=>False) (w.alloc (.cells #[ι 0,ι 0,ι 1,ι 0] 37)) w.heap.size 37 (δ (ϊ ⟨w.heap.size,0,ϋ⟩) 2 2) [(0,0),(1,0)]:=
 ⟨⟨[ι 0,ι 0,ι 1,ι 0],⟨rfl,ϕ ⟨w.heap.size,2,_,rfl,ϔ _,qj w _,ϔ _,by unfold maxLen;omega,rfl,rfl⟩⟩,λi hi=>λw' _=>by
  have:i=0∨i=1:=by simp at hi;omega
  rcases this with rfl | rfl<;>rfl⟩,λb _ h=>h⟩
def KF {L:List Int} (s:SlI .i64 w v L):
  Calls prog 71 #[v] w λe w'=> ∃v',e= .returned v'/\je 2 RO (λ_=>False) w' w.heap.size 37 v' (yp L)/\ql w w':=by
 obtain⟨aB,hi,aw,ax,ay⟩:=info_parts (P:=prog) (e:=37) (z:= θ #[ι 0,ι 0]) (size:=2) (bytes:=16) ξ;have ak:=κ s;obtain⟨aI,cap,rfl,_⟩:=id s;have e0:yp L=wkL L (subIds.take 6):=rfl;rw[e0];have ao:=κ (ql.alloc w (.cells #[ι 0,ι 0,ι 1,ι 0] 37));have aq:=κ (Aw w);clear s e0
 go_enter func71,ntmps71
 go_wp2
 go_loopw [3,9] (λu ad wr=> ∃i:Nat,i<=6/\ad= ι i/\(∃M J I,u= δ M J I)/\je 2 RO (λ_=>False) wr w.heap.size 37 u (wkL L (subIds.take i))/\ql w wr) (λ_ ad _=>6-(intOf ad).toNat)
 case atStart=>exact⟨0,τ,rfl,⟨_,_,_,rfl⟩,aq.o,ao.o⟩
 case round=>
  obtain⟨i,aF,rfl,⟨M,J,I,rfl⟩,U,O⟩:=hrel;have H:=κ U;have d:=κ O;clear U O;by_cases hlt:i<6
  ·have au:(i:Int)<6:=by omega
   have ae:=κ (Vo hlt);have af:=κ (Wy L (subIds.take i));have an:Hid ((subIds.take i).length=i):=κ (by rw[Ϡ];show min i 6=i;omega);have aa:=κ (MJ (i:Int) (ak.o.keep d.o));obtain⟨c,N⟩:=ν (decide ((i:Int)∈L));rw[N] at aa;cases c with
   | false=>
    have Y:Hid (wkL L (subIds.take (i+1))=wkL L (subIds.take i)):=κ (by rw[ae.o,Vk,ώ (A5 N),ε]);clear N
    go_wp2_with (go_at_call 117;(go_call aa.o as e w2 ⟨rfl,ab⟩;obtain rfl:=ab))
    go_roundw
    case rel=>exact⟨i+1,τ,by go_num,⟨_,_,_,rfl⟩,by rw[Y.o];exact H.o,d.o⟩
    case measure=>simp[intOf];omega
   | true=>
    have Y:Hid (wkL L (subIds.take (i+1))=wkL L (subIds.take i)++[(2,(i:Int)),(3,(i:Int)),(4,(i:Int))]):=κ (by rw[ae.o,Vk,ϐ (Ϛ N)]);clear N;obtain⟨B,ag⟩:=ν (wkL L (subIds.take i));rw[ag] at Y af H;clear ag
    go_wp2_with (go_at_call 117;(go_call aa.o as e w2 ⟨rfl,ab⟩;obtain rfl:=ab))
    go_loopw [3,5] (λu st wr=> ∃n:Nat,n<=3/\st= ι ((2+n:Nat):Int)/\(∃M J I,u= δ M J I)/\je 2 RO (λ_=>False) wr w.heap.size 37 u (B++([(2,(i:Int)),(3,(i:Int)),(4,(i:Int))]:List Og).take n)/\ql w wr) (λ_ st _=>5-(intOf st).toNat)
    case atStart=>exact⟨0,τ,rfl,⟨_,_,_,rfl⟩,by rw[V1,ε];exact H.o,d.o⟩
    case round=>
     clear H d;obtain⟨n,aG,rfl,⟨M,J,I,rfl⟩,U,O⟩:=hrel;have H:=κ U;have d:=κ O;clear U O;by_cases hltn:n<3
     ·have av:((2+n:Nat):Int)<=4:=by omega
      have am:=κ (Un (i:Int) hltn);have ai:Hid (∀b,(δ M J I).ownBlock=ϊ b->w.heap.size<=b):=κ (λb h=>H.o.ge h);have aD:(B++([(2,(i:Int)),(3,(i:Int)),(4,(i:Int))]:List Og).take n).length<=23:=by
       have:=af.o;have:=an.o;rw[Ϗ,Ϡ];show B.length+min n 3<=23;omega
      have aj:=κ (H.o.on (ql.alloc wr (.cells #[ι ((2+n:Nat):Int),ι (i:Int)] 37)))
      go_wp2_with (at_builtin;(refine jN (R:=RO) (D:=λ_=>False) _ rfl (.tmp 20) (.tmp 24) 98 rfl w.heap.size 37 aB (θ #[ι 0,ι 0]) 2 16 underlying98 hi aw ax ay rfl ζ _ (B++([(2,(i:Int)),(3,(i:Int)),(4,(i:Int))]:List Og).take n) rfl aj.o wr.heap.size [ι ((2+n:Nat):Int),ι (i:Int)] (((2+n:Nat):Int),(i:Int)) rfl rfl (zS η) X9 (λw' _=>rfl) (λb h=>h.elim) ζ τ (d.o.al _).size ?_;intro v' w8 ac ah ar;have aC:Hid (ql w w8):=κ (Below.grown (d.o.al _) ah (d.o.al _).size ai.o);obtain⟨aJ,aH,aE,rfl,az,aA⟩:=ac.shape;have ap:=κ ac;clear ac ah ar az aA))
      go_roundw
      case rel=>exact⟨n+1,τ,by go_num,⟨_,_,_,rfl⟩,by rw[am.o,<-ϭ];exact ap.o,aC.o⟩
      case measure=>simp[intOf];omega
     ·obtain rfl:n=3:=by omega
      have av: ¬((2+3:Nat):Int)<=4:=by omega
      go_wp2;go_roundw
      case rel=>exact⟨i+1,τ,by go_num,⟨_,_,_,rfl⟩,by rw[Y.o];exact H.o,d.o⟩
      case measure=>simp[intOf];omega
  ·obtain rfl:i=6:=by omega
   have au: ¬((6:Nat):Int)<6:=by omega
   go_wp2;go_ret;exact⟨_,rfl,H.o,d.o⟩
def Gw:prog.eqGuardType prog.depth 37=ύ:=by kernel_rfl
def Ea (d H I J:Int) (w:World):(binOp .eql 37 (θ #[ι d,ι H]) (θ #[ι I,ι J])).run prog w= .ok (μ (decide (((d,H):Og)=(I,J)))) w:=by
 have h:(Op.equalIn 10000 37 (θ #[ι d,ι H]) (θ #[ι I,ι J])).run prog w= .ok (decide (((d,H):Og)=(I,J))) w:=ZX (d,H) (I,J) w;rw[run_eql_struct,h];rfl
def JQ (w:World) (oa:Option Addr) (L:List Og):Prop:=L.length<=maxLen/\ ∀w',ql w w'-> ∀i (hi:i<L.length),∃b,oa=ϊ ⟨b,0,ϋ⟩/\w'.cell? ⟨b,i* 2,ϋ⟩=ϊ (.int .i64 L[i].1)/\w'.cell? ⟨b,i* 2+1,ϋ⟩=ϊ (.int .i64 L[i].2)
def LP {base:Nat} (h:je 2 RO (λ_=>False) w base 37 v L): ∃oa cap,v= δ oa L.length cap/\JQ w oa L:=by
 obtain⟨⟨xs,d,r⟩,_⟩:=h;rcases id d.2 with ⟨rfl,I⟩ | ⟨b,cap,cur,rfl,M,J,N,O,_⟩
 ·exact⟨ϋ,0,by rw[I],by rw[I];exact Δ _,λw' _ i hi=>by omega⟩
 ·refine⟨_,cap,rfl,τ,λw' m i hi=>⟨b,rfl, ?_, ?_⟩⟩
  ·have e:(xs.drop (i* 2)).take 2=[ι L[i].1,ι L[i].2]:=(r i hi).read;have e0:=ϵ (λl:List Value=>l[0]?) e;simp at e0;rw[m.cells _ _ (lt_of_block J),d.cellAt _ τ];exact e0
  ·have e:(xs.drop (i* 2)).take 2=[ι L[i].1,ι L[i].2]:=(r i hi).read;have H:=ϵ (λl:List Value=>l[1]?) e;simp at H;rw[m.cells _ _ (lt_of_block J),d.cellAt _ τ];exact H
def Lt {al:Option Addr} (d H:Int) (h:JQ w al L):
  Calls prog 118 #[δ al L.length cap,θ #[ι d,ι H]] w λe w'=> ∃n:Int,(0<=n↔(d,H)∈L)/\ -1<=n/\e= .returned (ι n)/\ql w w':=by
 obtain⟨az,aj⟩:=h;have N:=κ aj;unfold maxLen at az;obtain⟨W1,M⟩:=ν (w.alloc (.cells #[ι d,ι H] 37));have J:Hid (ql w W1):=κ (by rw[<-M];exact ql.alloc _ _);have an:Hid (W1.heap[w.heap.size]? =ϊ (.cells #[ι d,ι H] 37 (0,0))):=κ (by rw[<-M];exact qj w _);have aA:=Gw;clear aj
 go_enter func118,ntmps118
 go_wp2
 (try rw[M])
 clear M
 go_loopw [8] (λY wr=> ∃k:Nat,k<=L.length/\Y= ι k/\(d,H)∉L.take k/\ql W1 wr) (λY _=>L.length-(intOf Y).toNat)
 case atStart=>exact⟨0,τ,rfl,η,ql.refl _⟩
 case round=>
  obtain⟨j,aB,rfl,ai,ah⟩:=hrel;have ad:=κ ai;have I:=κ ah;clear ai ah;by_cases hlt:j<L.length
  ·have ay:(j:Int)<(L.length:Int):=by omega
   obtain⟨b,rfl,_,_⟩:=N.o _ (J.o.trans I.o) j hlt;have ak:L.take (j+1)=L.take j++[L[j]]:=Φ hlt;have ar:=κ ak;have aq:=κ (ϡ hlt);have af: ∀x:qt wr,x.w'.cell? ⟨b,j* 2,ϋ⟩=ϊ (ι (L[j]).1):=λx=>by
    obtain⟨av,e,aw,_⟩:=N.o x.w' (J.o.trans (I.o.trans x.h)) j hlt;injection e with e
    injection e with e
    subst e;exact aw
   have ag: ∀x:qt wr,x.w'.cell? ⟨b,j* 2+1,ϋ⟩=ϊ (ι (L[j]).2):=λx=>by
    obtain⟨av,e,_,ax⟩:=N.o x.w' (J.o.trans (I.o.trans x.h)) j hlt;injection e with e
    injection e with e
    subst e;exact ax
   clear ak;generalize L[j]=y at *;obtain⟨aa,ab⟩:=y;simp only at af ag;have O:=λ(x:qt wr)=>qq (I.o.trans x.h) an.o
   have ao:=λx=>β0 (O x);have ap:=λx=>β1 (O x);clear O
   obtain⟨c,U⟩:=ν (decide (((d,H):Og)=(aa,ab)));have am:=λw=>Ea d H aa ab w
   rw[U] at am;have ac:=κ U;clear U
   go_upto_region 4 with fail
   refine Qn wr 6 6 [] ?_
   refine Qq6 ?_
   refine qA ?_;clear ao ap af ag am;have ae:=κ (ql.drewN wr 1);cases c with
   | true=>
    have e:((d,H):Og)=(aa,ab):=Ϛ ac.o;have au:Hid ((d,H)∈L):=κ (by rw[e];exact aq.o);clear e;go_wp2;go_ret;exact⟨j,⟨λ_=>au.o,λ_=>by omega⟩,τ,rfl,J.o.trans (I.o.trans ae.o)⟩
   | false=>
    go_wp2;go_roundw
    case rel=>exact⟨j+1,τ,by go_num,by rw[ar.o,ϯ,C0];exact λh=>h.elim ad.o (A5 ac.o),I.o.trans ae.o⟩
    case measure=>simp[intOf];omega
  ·obtain rfl:j=L.length:=by omega
   have ay: ¬(L.length:Int)<(L.length:Int):=by omega
   go_wp2;go_ret;refine⟨-1,⟨λh=>by omega,λh=> ?_⟩,τ,rfl,J.o.trans I.o⟩;have:=ad.o;rw[ϱ] at this;exact ϩ h this
def MH (d H:Int) (h:JQ w I L):
  Calls prog 72 #[δ I L.length cap,θ #[ι d,ι H]] w λe w'=>e= .returned (μ (decide ((d,H)∈L)))/\ql w w':=by
 have J:=κ (qj w (.cells #[ι d,ι H] 37));have aa:=β0 J.o;have ab:=β1 J.o;have O:=κ (Lt (w:=w.alloc (.cells #[ι d,ι H] 37)) (cap:=cap) d H (⟨h.1,λw' m=>h.2 w' (X8.trans m)⟩:JQ _ I L));clear h
 go_enter func72,ntmps72
 go_wp2_with (go_at_call 118;(go_call O.o as e w2 ⟨n,M,ac,rfl,N⟩;have U:=κ M;have Y:=κ N;clear M N))
 go_ret;exact⟨qZ (by rw[C6];simp only[B3];exact U.o),X8.trans Y.o⟩
def Hp (h:RmX T w0 w k vp vr s F):Calls prog 66 #[γ k.RQ] w λe w'=>e= .returned (ι s.queue.length)/\ql w w':=by
 obtain⟨f,Q,I,J,d,H,css,g,a⟩:=h.que;refine(Ng g).mono ?_;rintro e w' ⟨rfl,rfl⟩;exact⟨by rw[a.len],ql.refl _⟩
def NI (s:RmS) (i:Nat):List Int:=(subIds.take i).filter λx=>(qh s.lanes x).isSome
def Uk (s:RmS) (i:Nat):(NI s i).length<=6:=Ϙ (D3 _ _) (by rw[Ϡ];show min i 6<=6;omega)
def je.low {R:qL α} {D:Nat->Prop} {base d e:Nat} {L:List α} (h:je n R D w base e v L) (N:d<=base):je n R D w d e v L:=by
 obtain⟨⟨xs,⟨H,I⟩,J⟩,M⟩:=h;refine⟨⟨xs,⟨H, ?_⟩,J⟩,M⟩;rcases I with h | ⟨g,cap,cur,e1,hg,rest⟩
 ·exact ϑ h
 ·exact ϕ ⟨g,cap,cur,e1,Ϙ N hg,rest⟩
def O7 (h:RmX T w0 w k vp vr s F):Calls prog 26 #[γ k.R] w λe w'=> ∃v,e= .returned v/\je 2 RO (λ_=>False) w' w.heap.size 37 v s.workers/\ql w w':=by
 obtain⟨aA,hi,ax,ay,az⟩:=info_parts (P:=prog) (e:=3) (z:= ι 0) (size:=1) (bytes:=8) ξ;have M:=κ h;have ab:=κ (Uk s);clear h
 go_enter func26,ntmps26
 go_wp2
 go_loopw [3,7] (λu O wr=> ∃i:Nat,i<=6/\O= ι i/\(∃ak aj ac,u= δ ak aj ac)/\wr.ownsRow w.heap.size 3 1 u (NI s i).length ((NI s i).map (Value.int .i64))/\ql w wr) (λ_ O _=>6-(intOf O).toNat)
 case atStart=>exact⟨0,τ,rfl,⟨_,_,_,rfl⟩,World.ownsRow_nil _ _ _ _,ql.refl _⟩
 case round=>
  obtain⟨i,aD,rfl,⟨ak,aj,ac,rfl⟩,ah,ag⟩:=hrel;have I:=κ ah;have d:=κ ag;clear ah ag;by_cases hlt:i<6
  ·have av:(i:Int)<6:=by omega
   have aa:=κ (Vo hlt);have aB:=β12 (qq d.o M.o.blk);have q:(Instr.lookup 90 (.map (ϊ k.ML)) (ι (i:Int)) ό).run prog wr= .ok (.tuple #[Gh (qh k.LA (i:Int)),μ (qh k.LA (i:Int)).isSome]) wr:=xq (M.o.lnm.more d.o) (i:Int) ό;have H:=(M.o.all (.lane (i:Int))).2;have aw:=ab.o i;cases hg:qh k.LA (i:Int) with
   | none=>
    rw[hg] at H q;have J:Hid (NI s (i+1)=NI s i):=κ (by unfold NI;rw[aa.o,I7,M2,ώ (by rw[<-H];decide)];simp);clear H hg;go_wp2;go_roundw
    case rel=>exact⟨i+1,τ,by go_num,⟨_,_,_,rfl⟩,by rw[J.o];exact I.o,d.o⟩
    case measure=>simp[intOf];omega
   | some p=>
    rw[hg] at H q;have J:Hid (NI s (i+1)=NI s i++[(i:Int)]):=κ (by unfold NI;rw[aa.o,I7,M2,ϐ (by rw[<-H];rfl)];simp);obtain⟨N,af⟩:=ν (NI s i);rw[af] at J I aw;clear H hg af
    go_wp2_with (at_builtin;(refine qU _ rfl (.tmp 20) (.tmp 22) 107 rfl w.heap.size 3 aA (ι 0) 8 underlying107 hi ax ay az rfl _ .i64 N rfl (I.o.alloc _) _ [(i:Int)] rfl (SlI.lit .i64 wr [(i:Int)] 3 _ 1 _ η rfl η η) (by simp;omega) ζ (by have:=d.o.size;simp;omega) ?_;intro aG w6 U ae _;have ao:=κ U;have an:Hid (ql w w6):=κ (Below.grown (d.o.al _) ae (d.o.al _).size (λb au=>jS I.o au));obtain⟨aE,aC,ad⟩:=xl U;rw[show (N++[(i:Int)]).length=N.length+1 from by simp] at ad;subst ad;clear U ae))
    go_roundw
    case rel=>exact⟨i+1,τ,by go_num,⟨_,_,_,rfl⟩,by rw[J.o];exact ao.o,an.o⟩
    case measure=>simp[intOf];omega
  ·obtain rfl:i=6:=by omega
   have av: ¬((6:Nat):Int)<6:=by omega
   have Y:=κ (KF (SlI.of_owns I.o (by have:=ab.o 6;omega)));have ap:Hid (yp (NI s 6)=s.workers):=κ rfl;rw[ap.o] at Y
   go_wp2_with (go_at_call 71;(go_call Y.o as e w2 ⟨aF,rfl,am,ai⟩;have aq:=κ (am.low d.o.size);have ar:=κ ai;clear am ai))
   go_ret;exact⟨_,rfl,aq.o,d.o.trans ar.o⟩
def Xr (h:RmX T w0 w k vp vr s F):Calls prog 26 #[γ k.R] w λe w'=> ∃d cap,e= .returned (δ d s.workers.length cap)/\JQ w' d s.workers/\ql w w':=by
 refine(O7 h).mono ?_;rintro e w' ⟨v,rfl,H,I⟩;obtain⟨d,cap,rfl,J⟩:=LP H;exact⟨d,cap,rfl,J,I⟩
def LI (h:RmX T w0 w k vp vr s F) (aB:xz s.clock) (w1 w2:Int):
  Calls prog 27 #[γ k.R,θ #[ι w1,ι w2]] w λe w'=>e= .returned (μ (s.may (w1,w2)))/\ql w w':=by
 obtain⟨W1,U⟩:=ν (w.alloc (.cells #[ι w1,ι w2] 37));have M1:Hid (ql w W1):=κ (by rw[<-U];exact ql.alloc _ _);have aq:Hid (W1.heap[w.heap.size]? =ϊ (.cells #[ι w1,ι w2] 37 (0,0))):=κ (by rw[<-U];exact qj w _);have aw:=κ (h.on M1.o);have aO:=κ aB;obtain⟨c,Y⟩:=ν (decide ((w1,w2)∈s.workers));obtain⟨ay,am⟩:=ν (s.closed);have ae:Hid (s.may (w1,w2)=(c&&(if ay then !((qh s.ret (w1,w2)).getD ύ) else s.mayOpen (w1,w2)))):=κ (by unfold RmS.may;rw[Y,am]);have aM:=κ am;have aQ:=κ (λ(h:c=ό)=>Ϛ (Y.trans h));have av:=κ (Xr (aw.o.on (ql.drewN W1 1)));have ah:=λ(x:qt W1)=>qq x.h aq.o
 have ac:=λx=>β0 (ah x);have ad:=λx=>β1 (ah x);clear ah
 have ar:Hid (∀w' aa cap,JQ w' aa s.workers->Calls prog 72 #[δ aa s.workers.length cap,θ #[ι w1,ι w2]] w' λe w''=>e= .returned (μ c)/\ql w' w''):=κ (λw' aa cap aU=>by rw[<-Y];exact MH w1 w2 aU);clear h aB Y am
 go_enter func27,ntmps27
 go_upto_region 1 with fail
 (try rw[U])
 clear U;refine zC W1 5 [(0,ύ),(2,ύ),(1,ό),(3,ό),(4,ύ)] ξ ξ ?_
 refine Qq2 ?_
 (refine Ql ?_;intro K d)
 (with_reducible refine av.o.mono ?_)
 rintro e aZ ⟨aa,cap,rfl,aI,aJ⟩;have aS:=κ aI;have ax:Hid (ql W1 aZ):=κ ((ql.drewN W1 1).trans aJ);clear aI aJ;refine⟨_,rfl,qk ax.o,d _ _ ?_⟩;clear d K
 (refine Ql ?_;intro K d)
 go_call ar.o _ _ _ aS.o as e w4 ⟨rfl,aK⟩;have H:Hid (ql W1 w4):=κ (ax.o.trans aK);clear aK;refine⟨_,rfl,qk H.o,d _ _ ?_⟩;clear d K
 iterate 1 (refine qE rfl rfl (qk H.o) ?_;intro K d;go_big_quiet_op;go_big_quiet_on)
 refine qA ?_;clear ac ad av ar;have I:=κ (aw.o.on H.o);have ab:=κ (qq H.o aq.o);have aT:=β7 I.o.blk;rw[aM.o] at aT;cases c with
 | false=>
  go_wp2;go_ret;exact⟨by rw[ae.o];rfl,M1.o.trans H.o⟩
 | true=>
  have aR:=κ (mem_workers.1 (aQ.o rfl));cases ay with
  | true=>
   have O:Hid (s.may (w1,w2)= !((qh s.ret (w1,w2)).getD ύ)):=κ (by rw[ae.o];rfl);obtain⟨aX,ap⟩:=ν ((qh s.ret (w1,w2)).getD ύ);rw[ap] at O;have bb:=λ(x:qt w4)=>β8 (qq x.h I.o.blk)
   have ai:=λ(x:qt w4)=>qq x.h ab.o
   have ac:=λx=>β0 (ai x);have ad:=λx=>β1 (ai x);clear ai
   have bd: ∀x:qt w4,(Instr.lookup 87 (.map (ϊ k.M1)) (θ #[ι w1,ι w2]) ύ).run prog x.w'= .ok (μ aX) x.w':=λx=>by rw[<-ap];exact VH (I.o.retm.more x.h) (w1,w2)
   clear ap
   go_upto_region 4 with fail
   refine Qn w4 8 8 [] ?_
   refine Qq8 ?_
   refine qA ?_;go_wp2;go_ret;exact⟨by rw[O.o];rfl,(M1.o.trans H.o).dr 1⟩
  | false=>
   have O:Hid (s.may (w1,w2)=s.mayOpen (w1,w2)):=κ (by rw[ae.o];rfl);have be:=β0 ab.o;by_cases e0:w1=0
   ·subst e0;have J:Hid (s.may (0,w2)=decide (0<s.queue.length)):=κ (by rw[O.o];unfold RmS.mayOpen;rw[ϐ rfl]);have bf:=β10 I.o.blk;have aN:=κ (Hp I.o)
    go_wp2_with (go_at_call 66;(go_call aN.o as e w5 ⟨rfl,M⟩;have N:=κ M;clear M))
    go_ret;exact⟨qZ (by rw[J.o,C6]),M1.o.trans (H.o.trans N.o)⟩
   ·by_cases e1:w1=1
    ·subst e1;have J:Hid (s.may (1,w2)=s.ready.isSome):=κ (by rw[O.o];unfold RmS.mayOpen;rw[ώ η,ϐ rfl]);have ag:=κ (Al I.o aO.o);obtain⟨aW,aD⟩:=ν (s.readyO);obtain⟨bl,ao⟩:=ν (s.ready.isSome);rw[aD,ao] at ag;rw[ao] at J;clear aD ao;obtain⟨bj,bk⟩:=aW;simp only at ag
     go_wp2_with (go_at_call 73;(go_call ag.o as e w5 ⟨rfl,M⟩;have N:=κ M;clear M))
     go_ret;exact⟨by rw[J.o];rfl,(M1.o.trans (H.o.trans N.o)).al _⟩
    ·have aV:(w1=2∨w1=3∨w1=4)/\(qh s.lanes w2).isSome=ό:=by
      rcases aR.o with e | e | e
      ·injection e with e3 e4
       exact ϩ e3 e0
      ·injection e with e3 e4
       exact ϩ e3 e1
      ·exact⟨e.1,e.2.2⟩
     obtain⟨aG,aH⟩:=aV;obtain⟨l,an⟩:=ϥ.1 aH;obtain⟨p,aC,az⟩:=I.o.laneAt an;have J:Hid (s.may (w1,w2)=vC l (xB w1)):=κ (by rw[O.o];unfold RmS.mayOpen;simp only[ώ e0,ώ e1,an]);have aF:xB w1=1∨xB w1=2∨xB w1=3:=by rcases aG with rfl | rfl | rfl<;>decide
     obtain⟨aY,aE⟩:=ν (xB w1);have au:=κ (λw'=>Z4 w1 w2 w');have af:=κ (λw' (m:ql w4 w')=>Iv (az.on m) (xB w1) aF);rw[aE] at au af J;obtain⟨bi,aA⟩:=ν (vC l aY);rw[aA] at af J;have aP:=κ aC;have bg:(w1==0)=ύ:=by simpa using e0
     have bh:(w1==1)=ύ:=by simpa using e1
     clear aE aA aF az an aH aG e0 e1 aC
     go_upto_region 11 with fail
     have ba:=λ(x:qt w4)=>β12 (qq x.h I.o.blk)
     have aj:=λ(x:qt w4)=>qq x.h ab.o
     have ac:=λx=>β0 (aj x);have ad:=λx=>β1 (aj x);clear aj
     have bc: ∀x:qt w4,(Instr.lookup 90 (.map (ϊ k.ML)) (ι w2) ύ).run prog x.w'= .ok (γ p) x.w':=λx=>by
      have:=xq (I.o.lnm.more x.h) w2 ύ;rw[aP.o] at this;exact this
     refine Qn w4 11 11 [8,9] ?_
     refine Qq8 ?_
     (refine Ql ?_;intro K d)
     go_call au.o _ as e w5 ⟨rfl,M⟩;have N:Hid (ql w4 w5):=κ ((ql.drewN w4 1).trans M);clear M;refine⟨_,rfl,qk N.o,d _ _ ?_⟩;clear d K
     (refine Ql ?_;intro K d)
     go_call af.o _ N.o as e w6 ⟨rfl,aL⟩;have ak:Hid (ql w4 w6):=κ (N.o.trans aL);clear aL;refine⟨_,rfl,qk ak.o,d _ _ ?_⟩;clear d K
     iterate 1 (refine qE rfl rfl (qk ak.o) ?_;intro K d;go_big_quiet_op;go_big_quiet_on)
     refine qA ?_;go_wp2;go_ret;exact⟨by rw[J.o];rfl,M1.o.trans (H.o.trans ak.o)⟩
def Ev (d:JOK b) (H:Int):JOK (yD b H).1:=by
 unfold yD;cases hb:b.holds with
 | nil=>exact d
 | cons h T=>
  simp only;split
  ·exact VL d hb
  ·exact d
def Ew {d:Int} (h:xa b d=ό): ∃x∈b.holds,(yD b d).2.2.1=x.2.2:=by
 unfold yD;cases hb:b.holds with
 | nil=>unfold xa at h;rw[hb] at h;cases h
 | cons x L=>
  simp only[h,A7];exact⟨x,ϛ,rfl⟩
def Fh (s:RmS) (o:Og) (i:Nat) {a:AcS} (h:s.pks.getD i ac0=a):s.item o (i:Int)=⟨i,o.2,zJ a.pk.pl,a.pk⟩:=by
 unfold RmS.item;rw[Ψ,h]
def GZ (d:ItS) (h: ∀y i,qh s.book (y,i)=ϊ 0->(qh s.lanes y).isSome=ό) (x:Int): ∀y i,qh (s.put1 d x).book (y,i)=ϊ 0->(qh (s.put1 d x).lanes y).isSome=ό:=by
 intro y i;unfold RmS.put1;split
 ·cases hl:qh s.lanes x with
  | none=>exact h y i
  | some l=>
   have H:(qh s.lanes y).isSome=ό->(qh (qx s.lanes x (xp l d).1) y).isSome=ό:=λe=>by
    rw[qF];split
    ·rfl
    ·exact e
   simp only;split
   ·intro e;refine H (h y i ?_);simp only at e;rw[ye _ _ _ _ ζ] at e;split at e
    ·cases e
    ·exact e
   ·exact λe=>H (h y i e)
 ·exact h y i
def ZD (d:ItS): ∀(L:List Int) {s:RmS},(∀y i,qh s.book (y,i)=ϊ 0->(qh s.lanes y).isSome=ό)-> ∀y i,qh (L.foldl (RmS.put1 d) s).book (y,i)=ϊ 0->(qh (L.foldl (RmS.put1 d) s).lanes y).isSome=ό
 | [],_,h=>h
 | x::L,_,h=>ZD d L (GZ d h x)
def Lg (dE:qI w0 w k s F) (bw:Ia s) (w1 w2:Int) (acc:Bool):
  Calls prog 80 #[γ k.R,θ #[ι w1,ι w2],acc] w λe w'=>e= .returned (.tuple #[])/\qI w0 w' k s.order F/\qw F w w':=by
 obtain⟨T,vp,dL,h⟩:=dE;obtain⟨W1,aH⟩:=ν (w.alloc (.cells #[ι w1,ι w2] 37));have bR:Hid (ql w W1):=κ (by rw[<-aH];exact ql.alloc _ _);have aE:=κ (h.on bR.o);have bT:=κ (h.at.stay bR.o);have aN:=κ bw;have aT:=κ (Al aE.o bw.clock);clear h bw;obtain⟨cy,bc⟩:=ν (s.ready);have aR:=κ bc;have e0:s.readyO=cy.getD (0,0):=by unfold RmS.readyO;rw[bc]
 rw[bc,e0] at aT;clear bc e0;cases cy with
 | none=>
  have bk:Hid (s.order=s):=κ (by unfold RmS.order;rw[aR.o])
  go_enter func80,ntmps80
  go_upto_region 1 with fail
  (try rw[aH])
  clear aH
  go_wp2_with (go_at_call 73;(go_call aT.o as e H ⟨rfl,aL⟩;have aF:=κ aL;clear aL))
  (refine bodyPost_ret (v:= .tuple #[]) ?re2 rfl ?_;(case re2=>simp[results,results80,go_sem]))
  exact⟨rfl,by rw[bk.o];exact(aE.o.on (aF.o.al _)).at,bT.o.trans (aE.o.at.stay (aF.o.al _))⟩
 | some o=>
  obtain⟨ao,o2⟩:=o;simp only[ϣ,N1] at aT;have ca:=List.mem_of_find?_eq_some aR.o;have bb:s.readyAt (ao,o2)=ό:=S3 aR.o;obtain⟨t,aw⟩:=yB ca;have cf:xa t.buf s.clock=ό:=by
   unfold RmS.readyAt at bb;rw[aw] at bb;exact bb
  have aU:=κ aw;have cV:=κ cf;clear ca bb aw cf;have bk:Hid (s.order=s.orderAt (ao,o2) t):=κ (by unfold RmS.order;rw[aR.o];simp only[aU.o])
  go_enter func80,ntmps80
  go_upto_region 1 with fail
  (try rw[aH])
  clear aH
  go_upto_region 3 with (go_at_call 73;(go_call aT.o as e H ⟨rfl,aL⟩;have aF:=κ aL;clear aL))
  obtain⟨Y,aX⟩:=ν (H.alloc (.cells #[ι ao,ι o2] 58));have bS:Hid (ql W1 Y):=κ (by rw[<-aX];exact aF.o.al _);have bg:Hid (Y.heap[H.heap.size]? =ϊ (.cells #[ι ao,ι o2] 58 (0,0))):=κ (by rw[<-aX];exact qj _ _);have ch:W1.heap.size<=H.heap.size:=aF.o.size;have am:RmX T w0 Y k vp dL s ([H.heap.size]++F):=aE.o.adds bS.o (λb ac=>by simp at ac;subst ac;exact⟨ch,qn bg.o⟩)
  (try rw[aX])
  clear aX;have aV:=κ am;obtain⟨bE,ab,vb,cd,ar⟩:=am.strAt aU.o;have bP:=κ cd;have au:=κ ar;have cr:k.R≠ab:=λe=>by have:=ar.nb;rw[<-e,(am.all .room).1] at this;cases this
  have ct: ¬vb.ownBlock=ϊ k.R:=λe=>by have:=(ar.nv _ e).1;rw[(am.all .room).1] at this;cases this
  have cq: ¬(k.R=ab∨vb.ownBlock=ϊ k.R):=λe=>e.elim cr ct
  have cl:k.MS≠ab:=λe=>by have:=ar.nb;rw[<-e,(am.all .sts).1] at this;cases this
  have cm: ¬vb.ownBlock=ϊ k.MS:=λe=>by have:=(ar.nv _ e).1;rw[(am.all .sts).1] at this;cases this
  have ck: ¬(k.MS=ab∨vb.ownBlock=ϊ k.MS):=λe=>e.elim cl cm
  have co:H.heap.size≠ab:=λe=>by have:=ar.nb;rw[<-e,(am.law H.heap.size η).1] at this;cases this
  have cp: ¬vb.ownBlock=ϊ H.heap.size:=λe=>by have:=(ar.nv _ e).1;rw[(am.law H.heap.size η).1] at this;cases this
  have cn: ¬(H.heap.size=ab∨vb.ownBlock=ϊ H.heap.size):=λe=>e.elim co cp
  have cu: ¬(bE=ab∨vb.ownBlock=ϊ bE):=λe=>e.elim (λe=>au.o.ne e) (λe=>(au.o.nv _ e).2 rfl)
  have bp:=λ(x:qz (λb=>b=ab∨vb.ownBlock=ϊ b) Y)=>x.h.blk aV.o.blk cq
  have cI:=λx=>β13 (bp x);have cJ:=λx=>β9 (bp x);clear bp
  have bq:=λ(x:qz (λb=>b=ab∨vb.ownBlock=ϊ b) Y)=>x.h.blk bg.o cn
  have cL:=λx=>β0 (bq x);have cM:=λx=>β1 (bq x);clear bq
  have cK:=λ(x:qz (λb=>b=ab∨vb.ownBlock=ϊ b) Y)=>β0 (x.h.blk au.o.blk cu)
  have bh: ∀x:qz (λb=>b=ab∨vb.ownBlock=ϊ b) Y,(Instr.lookup 91 (.map (ϊ k.MS)) (θ #[ι ao,ι o2]) ύ).run prog x.w'= .ok (γ bE) x.w':=λx=>by
   have:=ya (aV.o.stm.away x.h ck) (ao,o2) ύ;rw[bP.o] at this;exact this
  clear am cd ar ch cr ct cl cm co cp;refine QN (λb=>b=ab∨vb.ownBlock=ϊ b) Y 21 21 [13] ?_
  refine NE ?_
  (refine Ql ?_;intro K d)
  obtain⟨id,aZ⟩:=ν ((yD t.buf s.clock).2.2.1);have cP:=κ aZ
  have bN:Hid (0<=id/\id<(s.pks.length:Int)):=κ (by
   obtain⟨x,dJ,e⟩:=Ew cV.o;rw[<-aZ,e]
   exact aN.o.ids _ _ aU.o x dJ)
  obtain⟨I,dF⟩:=Ϻ bN.o.1;subst dF;have dG:I<s.pks.length:=by have:=bN.o.2;omega
  have aQ:=κ (FJ t.buf au.o.ok ab vb s.clock aN.o.clock _ (au.o.buf.on (ql.drewN Y 1)));rw[aZ] at aQ;clear aZ
  (with_reducible refine aQ.o.mono ?_)
  rintro e w5 ⟨rfl,v5,st⟩;have bI:Hid (jt (λb=>b=ab∨vb.ownBlock=ϊ b) Y w5):=κ (((jt.refl _ Y).drewN 1).trans st.away);have aA:=κ ((aV.o.on (ql.drewN Y 1)).strBuf aU.o bP.o (au.o.on (ql.drewN Y 1)) st (Ev au.o.ok s.clock));have bs:=κ ((aV.o.at.stay (ql.drewN Y 1)).trans aA.o.2);clear st;refine⟨_,rfl,qi bI.o,d _ _ ?_⟩;clear d K
  iterate 7 (refine qE rfl rfl (qi bI.o) ?_;intro K d;go_big_quiet_op;go_big_quiet_on)
  refine qA ?_;clear cI cJ cL cM cK bh cq ck cn cu;obtain⟨ad,bd⟩: ∃ad:RmS,{s with strs:=qx s.strs (ao,o2) {t with buf:=(yD t.buf s.clock).1}}=ad:=⟨_,rfl⟩;have bQ:=κ bd;rw[bd] at aA;have aO:Hid (ad.pks=s.pks):=κ (by rw[<-bd]);have bv:I<ad.pks.length:=by rw[aO.o];exact dG
  obtain⟨dM,dT,dV,bG⟩:=aA.o.1;obtain⟨g,cap,os,N,O,M,ke,J,rfl,dS,dP,bX,cg⟩:=bG.pkRow bv;have dA:=κ bG;have aS:=κ cg;have bM:=κ bX;have dR:(ad.pks.length:Int)=s.pks.length:=by rw[aO.o]
  clear bd bG cg bX;obtain⟨a,aI⟩:=ν (ad.pks[I]);have bL:=κ aI;simp only[aI] at aS bM;clear aI;have dC:=β14 dA.o.blk
  have cU:Hid (w5.rangeAt g (I* 13+3) (Γh a.pk os M N ke O J)):=κ (λj v dI=>by
   rw[M7]
   exact bM.o (3+j) v (by rw[Nat.add_comm];exact dI))
  go_upto_region 5 with (refine wpList_load_mid rfl 63 (.tmp 48) rfl g (I* 13+3) rfl (Γh a.pk os M N ke O J) _ cU.o underlying63 rfl ξ ?_)
  obtain⟨W6,aY⟩:=ν (w5.alloc (.cells (Γh a.pk os M N ke O J) 63));have ak:Hid (ql w5 W6):=κ (by rw[<-aY];exact ql.alloc _ _);have cD:Hid (W6.heap[w5.heap.size]? =ϊ (.cells (Γh a.pk os M N ke O J) 63 (0,0))):=κ (by rw[<-aY];exact qj _ _);have cG:=κ (bs.o.blk η bg.o)
  (try rw[aY])
  clear aY dC;have dx:=κ aS.o.pk;have aP:=κ (aN.o.pkok a (by rw[<-bL.o];rw[<-aO.o];exact ϡ bv));obtain⟨af,bx⟩:=ν (zJ a.pk.pl);have bj:=κ (λw' (m:ql w5 w')=>Jg _ a.pk.pl w' (dx.o.l.keep m) aP.o.1.pl aP.o.2.l);rw[bx] at bj;have cQ:=κ bx;clear bx;obtain⟨U,bZ⟩: ∃U:ItS,(⟨I,o2,af,a.pk⟩:ItS)=U:=⟨_,rfl⟩;have aM:=κ bZ;clear bZ
  have cO:Hid (s.orderAt (ao,o2) t=subIds.foldl (RmS.put1 U) ad):=κ (by
   have aI:s.pks.getD I ac0=a:=by
    rw[<-aO.o,ϒ,ϖ bv];exact bL.o
   unfold RmS.orderAt
   rw[cP.o,bQ.o,Fh s (ao,o2) I aI,<-aM.o,<-cQ.o])
  have cT:Hid (∀y i,qh ad.book (y,i)=ϊ 0->(qh ad.lanes y).isSome=ό):=κ (by rw[<-bQ.o];exact aN.o.owes);have dz:Hid (qw F w Y):=κ (bT.o.trans (aE.o.at.stay bS.o));have dk:=λ(x:qt W6)=>β1 (qq (ak.o.trans x.h) cG.o)
  have ah:=λ(x:qt W6)=>qq x.h cD.o
  have dl:=λx=>β0 (ah x);have dm:=λx=>β1 (ah x);have dn:=λx=>β2 (ah x);have dp:=λx=>β3 (ah x);have dq:=λx=>β4 (ah x);have ds:=λx=>β5 (ah x);have dt:=λx=>β6 (ah x);have du:=λx=>β7 (ah x);have dv:=λx=>β8 (ah x);have dw:=λx=>β9 (ah x);clear ah
  go_cut [12] from 50 to 90 (λv bF=> ∃A:Nat,v= γ A/\RmP (acC a (δ os a.pk.ss.length M) (δ N a.pk.ex.length ke) (δ O a.pk.pl.length J)) a w0 bF k ad ([A]++([H.heap.size]++F))/\qw ([H.heap.size]++F) Y bF/\bF.heap[A]? =ϊ (.cells #[ι I,ι o2,af,a.pk.mr,υ a.pk.ty,φ a.pk.sq,ω a.pk.st,ω a.pk.sc,δ os a.pk.ss.length M,a.pk.has,φ a.pk.pr,δ N a.pk.ex.length ke,δ O a.pk.pl.length J] 253 (0,0)))
  case first=>
   refine zB W6 9 (.op 0 ύ (.op 1 ύ (.op 2 ύ (.op 3 ύ (.op 4 ύ (.op 6 ύ (.br [5,8] λk=>if k=5 then .op 7 ύ (.op 8 ό (.op 9 ό (.done))) else .op 5 ό (.op 7 ύ (.op 9 ό (.done)))))))))) ξ ξ ?_
   repeat (first | (refine jg rfl rfl (qk ρ) ?_) | (refine qH rfl rfl (qk ρ) ?_;intro K d;go_big_quiet_op;go_big_quiet_on))
   refine wP ζ ?_ ?_
   ·(refine qO rfl rfl ?_;intro K d;unfold jn;go_simp)
    refine(bj.o _ (ak.o.trans (ql.drewN W6 1))).mono ?_;rintro e w8 ⟨rfl,cj⟩;have ai:Hid (ql W6 w8):=κ ((ql.drewN W6 1).trans cj);clear cj;refine⟨_,rfl,qk ai.o,d _ _ ?_⟩;clear d K
    repeat (first | (refine jg rfl rfl (qk ai.o) ?_) | (refine qH rfl rfl (qk ai.o) ?_;intro K d;go_big_quiet_op;go_big_quiet_on))
    (refine qO rfl rfl ?_;intro K d;unfold jn;go_simp)
    refine⟨qk (ai.o.al _),d _ _ ?_⟩;clear d K;obtain⟨w9,bf⟩:=ν (w8.alloc (.cells Γa 253));obtain⟨A,an⟩:=ν (w8.heap.size);have az:Hid (w9.heap[A]? =ϊ (.cells Γa 253 (0,0))):=κ (by rw[<-bf,<-an];exact qj w8 _);have aq:Hid (ql W6 w9):=κ (by rw[<-bf];exact ai.o.al _);have ay:Hid (W6.heap.size<=A):=κ (by rw[<-an];exact ai.o.size)
    (try rw[bf])
    (try rw[an])
    clear bf an
    repeat (first | (refine jg rfl rfl (qk aq.o) ?_) | (refine qH rfl rfl (qk aq.o) ?_;intro K d;go_big_quiet_op;go_big_quiet_on))
    refine qO rfl rfl ?_;intro K d;have ae:=κ (aq.o.row ay.o #[ι I,ι o2,af,a.pk.mr,υ a.pk.ty,φ a.pk.sq,ω a.pk.st,ω a.pk.sc,δ os a.pk.ss.length M,a.pk.has,φ a.pk.pr,δ N a.pk.ex.length ke,δ O a.pk.pl.length J]);have aj:=κ (jM az.o #[ι I,ι o2,af,a.pk.mr,υ a.pk.ty,φ a.pk.sq,ω a.pk.st,ω a.pk.sc,δ os a.pk.ss.length M,a.pk.has,φ a.pk.pr,δ N a.pk.ex.length ke,δ O a.pk.pl.length J]);refine xw 253 (.tmp 12) (.tmp 57) rfl A 253 _ #[ι I,ι o2,af,a.pk.mr,υ a.pk.ty,φ a.pk.sq,ω a.pk.st,ω a.pk.sc,δ os a.pk.ss.length M,a.pk.has,φ a.pk.pr,δ N a.pk.ex.length ke,δ O a.pk.pl.length J] az.o rfl rfl ξ rfl X9 ?_;refine⟨qk ae.o,d _ _ ?_⟩;clear d K
    repeat (first | (refine jg rfl rfl (qk ae.o) ?_) | (refine qH rfl rfl (qk ae.o) ?_;intro K d;go_big_quiet_op;go_big_quiet_on))
    refine zg ?_;obtain⟨bt,av⟩:=ν (w9.setRow A #[ι I,ι o2,af,a.pk.mr,υ a.pk.ty,φ a.pk.sq,ω a.pk.st,ω a.pk.sc,δ os a.pk.ss.length M,a.pk.has,φ a.pk.pr,δ N a.pk.ex.length ke,δ O a.pk.pl.length J]);rw[av] at ae aj
    (try rw[av])
    clear av;have aC:Hid (RmP (acC a (δ os a.pk.ss.length M) (δ N a.pk.ex.length ke) (δ O a.pk.pl.length J)) a w0 bt k ad ([A]++([H.heap.size]++F))):=κ (aS.o.adds (ak.o.trans ae.o) (λb ac=>by simp at ac;subst ac;exact⟨Ϙ ak.o.size ay.o,qn aj.o⟩));have aG:=κ (bs.o.trans (aA.o.1.stay (ak.o.trans ae.o)));go_wp2;go_meet;exact⟨_,rfl,aC.o,aG.o,aj.o⟩
   ·(refine qO rfl rfl ?_;intro K d;unfold jn;go_simp)
    refine⟨qk ((ql.drewN W6 1).al _),d _ _ ?_⟩;clear d K;obtain⟨w8,be⟩:=ν ((W6.drewN 1).alloc (.cells Γa 253));obtain⟨A,an⟩:=ν (W6.heap.size);have cE:Hid (w8.heap[A]? =ϊ (.cells Γa 253 (0,0))):=κ (by rw[<-be,<-an];exact qj (W6.drewN 1) _);have ai:Hid (ql W6 w8):=κ (by rw[<-be];exact(ql.drewN W6 1).al _);have ay:Hid (W6.heap.size<=A):=κ (by rw[<-an];exact(ql.drewN W6 1).size)
    (try rw[be])
    (try rw[an])
    clear be an
    repeat (first | (refine jg rfl rfl (qk ai.o) ?_) | (refine qH rfl rfl (qk ai.o) ?_;intro K d;go_big_quiet_op;go_big_quiet_on))
    (refine qO rfl rfl ?_;intro K d;unfold jn;go_simp)
    refine(bj.o _ (ak.o.trans ai.o)).mono ?_;rintro e w9 ⟨rfl,bD⟩;have aq:=κ (ai.o.trans bD);have az:=κ (qq bD cE.o);clear bD;refine⟨_,rfl,qk aq.o,d _ _ ?_⟩;clear d K
    repeat (first | (refine jg rfl rfl (qk aq.o) ?_) | (refine qH rfl rfl (qk aq.o) ?_;intro K d;go_big_quiet_op;go_big_quiet_on))
    refine qO rfl rfl ?_;intro K d;have ae:=κ (aq.o.row ay.o #[ι I,ι o2,af,a.pk.mr,υ a.pk.ty,φ a.pk.sq,ω a.pk.st,ω a.pk.sc,δ os a.pk.ss.length M,a.pk.has,φ a.pk.pr,δ N a.pk.ex.length ke,δ O a.pk.pl.length J]);have aj:=κ (jM az.o #[ι I,ι o2,af,a.pk.mr,υ a.pk.ty,φ a.pk.sq,ω a.pk.st,ω a.pk.sc,δ os a.pk.ss.length M,a.pk.has,φ a.pk.pr,δ N a.pk.ex.length ke,δ O a.pk.pl.length J]);refine xw 253 (.tmp 12) (.tmp 57) rfl A 253 _ #[ι I,ι o2,af,a.pk.mr,υ a.pk.ty,φ a.pk.sq,ω a.pk.st,ω a.pk.sc,δ os a.pk.ss.length M,a.pk.has,φ a.pk.pr,δ N a.pk.ex.length ke,δ O a.pk.pl.length J] az.o rfl rfl ξ rfl X9 ?_;refine⟨qk ae.o,d _ _ ?_⟩;clear d K
    repeat (first | (refine jg rfl rfl (qk ae.o) ?_) | (refine qH rfl rfl (qk ae.o) ?_;intro K d;go_big_quiet_op;go_big_quiet_on))
    refine zg ?_;obtain⟨bt,av⟩:=ν (w9.setRow A #[ι I,ι o2,af,a.pk.mr,υ a.pk.ty,φ a.pk.sq,ω a.pk.st,ω a.pk.sc,δ os a.pk.ss.length M,a.pk.has,φ a.pk.pr,δ N a.pk.ex.length ke,δ O a.pk.pl.length J]);rw[av] at ae aj
    (try rw[av])
    clear av;have aC:Hid (RmP (acC a (δ os a.pk.ss.length M) (δ N a.pk.ex.length ke) (δ O a.pk.pl.length J)) a w0 bt k ad ([A]++([H.heap.size]++F))):=κ (aS.o.adds (ak.o.trans ae.o) (λb ac=>by simp at ac;subst ac;exact⟨Ϙ ak.o.size ay.o,qn aj.o⟩));have aG:=κ (bs.o.trans (aA.o.1.stay (ak.o.trans ae.o)));go_wp2;go_meet;exact⟨_,rfl,aC.o,aG.o,aj.o⟩
  case rest=>
  obtain⟨A,rfl,cb,cz,bW⟩:=hcut;have aC:=κ cb;have aG:=κ cz;have aj:=κ bW;clear dk dl dm dn dp dq ds dt du dv dw cb cz bW;go_wp2
  go_loopw [58] (λbC wr=> ∃j:Nat,j<=6/\bC= ι j/\RmP (acC a (δ os a.pk.ss.length M) (δ N a.pk.ex.length ke) (δ O a.pk.pl.length J)) a w0 wr k ((subIds.take j).foldl (RmS.put1 U) ad) ([A]++([H.heap.size]++F))/\qw ([A]++([H.heap.size]++F)) wc wr) (λbC _=>6-(intOf bC).toNat)
  case atStart=>exact⟨0,τ,rfl,aC.o,qw.refl _ _⟩
  case round=>
   obtain⟨j,dQ,rfl,ce,aw⟩:=hrel;have aD:=κ ce;have bo:=κ aw;have cF:=κ (aw.blk η aj.o);clear aw;by_cases hlt:j<6
   ·have dH:(j:Int)<6:=by omega
    have bn:=κ (QW hlt);have cS:=κ (ZD U (subIds.take j) cT.o);generalize ci:(subIds.take j).foldl (RmS.put1 U) ad=sj at *;have bm:=κ ci;clear ci;obtain⟨dN,dU,dW,ax,_⟩:=ce;have dB:=β0 ax.blk;have bl:=κ (Hs ax.bok (j:Int) (I:Int));obtain⟨dK,aJ⟩:=ν (decide (qh sj.book ((j:Int),(I:Int))=ϊ 0));rw[aJ] at bl;cases dK with
    | false=>
     have aB:Hid (sj.put1 U (j:Int)=sj):=κ (by unfold RmS.put1;rw[<-aM.o];exact ώ (A5 aJ));clear aJ ax
     go_wp2_with (go_at_call 135;(go_call bl.o as e ag ⟨rfl,aK⟩;have ap:=κ aK;clear aK))
     go_roundw
     case rel=>exact⟨j+1,τ,by go_num,by rw[bn.o,Ξ,bm.o];show RmP _ a w0 _ k (sj.put1 U (j:Int)) _;rw[aB.o];exact aD.o.on ap.o,bo.o.trans (aD.o.at.stay ap.o)⟩
     case measure=>simp[intOf];omega
    | true=>
     have bB:qh sj.book ((j:Int),(I:Int))=ϊ 0:=Ϛ aJ;obtain⟨l,ba⟩:=ϥ.1 (cS.o (j:Int) (I:Int) bB);obtain⟨pl,cc,_⟩:=ax.laneAt ba;have aB:Hid (sj.put1 U (j:Int)=if (xp l U).2.2.1 then {sj with lanes:=qx sj.lanes (j:Int) (xp l U).1,book:=jp sj.book (j:Int) (xp l U).2.1 6} else {sj with lanes:=qx sj.lanes (j:Int) (xp l U).1}):=κ (by unfold RmS.put1;rw[ϐ (by rw[<-aM.o];exact bB),ba]);have cR:=κ ba;have bO:=κ cc;have aW:=κ ax;clear aJ ax bB ba cc
     go_upto_region 10 with (go_at_call 135;(go_call bl.o as e ag ⟨rfl,aK⟩;have ap:=κ aK;clear aK))
     have dO:A≠k.R:=λe=>by have:=(aW.o.law A η).1;rw[e,(aW.o.all .room).1] at this;cases this
     have cH:=λ(x:qz (λb=>b≠k.R/\b≠k.ML/\b∉[A]++([H.heap.size]++F)) ag)=>β12 (x.h.blk (qq ap.o aW.o.blk) (λc=>c.1 rfl))
     have bh: ∀x:qz (λb=>b≠k.R/\b≠k.ML/\b∉[A]++([H.heap.size]++F)) ag,(Instr.lookup 90 (.map (ϊ k.ML)) (ι (j:Int)) ύ).run prog x.w'= .ok (γ pl) x.w':=λx=>by
      have:=xq ((aW.o.lnm.more ap.o).away x.h (λc=>c.2.1 rfl)) (j:Int) ύ;rw[bO.o] at this;exact this
     have bJ: ∀x:qz (λb=>b≠k.R/\b≠k.ML/\b∉[A]++([H.heap.size]++F)) ag,x.w'.heap[A]? =ϊ (.cells #[ι I,ι o2,af,a.pk.mr,υ a.pk.ty,φ a.pk.sq,ω a.pk.st,ω a.pk.sc,δ os a.pk.ss.length M,a.pk.has,φ a.pk.pr,δ N a.pk.ex.length ke,δ O a.pk.pl.length J] 253 (0,0)):=λx=>x.h.blk (qq ap.o cF.o) (λc=>c.2.2 η)
     have aa:=λ(x:qz (λb=>b≠k.R/\b≠k.ML/\b∉[A]++([H.heap.size]++F)) ag)=>bJ x
     have cX:=λx=>β0 (aa x);have cY:=λx=>β1 (aa x);have dc:=λx=>β2 (aa x);have dd:=λx=>β3 (aa x);have de:=λx=>β4 (aa x);have df:=λx=>β5 (aa x);have dg:=λx=>β6 (aa x);have dh:=λx=>β7 (aa x);have di:=λx=>β8 (aa x);have dj:=λx=>β9 (aa x);have cZ:=λx=>β10 (aa x);have da:=λx=>β11 (aa x);have db:=λx=>β12 (aa x);clear aa
     refine QN (λb=>b≠k.R/\b≠k.ML/\b∉[A]++([H.heap.size]++F)) ag 15 15 [7] ?_
     refine Qs7 ?_
     (refine Ql ?_;intro K d)
     obtain⟨l',bz⟩: ∃l',(xp l U).1=l':=⟨_,rfl⟩;obtain⟨cv,bA⟩:=ν ((xp l U).2.1);obtain⟨dr,bu⟩:=ν ((xp l U).2.2.1);obtain⟨dD,bY⟩:=ν ((xp l U).2.2.2)
     have aQ:Hid (Calls prog 136 #[γ pl,θ #[ι I,ι o2,af,a.pk.mr,υ a.pk.ty,φ a.pk.sq,ω a.pk.st,ω a.pk.sc,δ os a.pk.ss.length M,a.pk.has,φ a.pk.pr,δ N a.pk.ex.length ke,δ O a.pk.pl.length J]] (ag.drewN 1) λe w'=>e= .returned (.tuple #[ι cv,dr,ι dD])/\
       RmP (acC a (δ os a.pk.ss.length M) (δ N a.pk.ex.length ke) (δ O a.pk.pl.length J)) a w0 w' k {sj with lanes:=qx sj.lanes (j:Int) l'} ([A]++([H.heap.size]++F))/\qw ([A]++([H.heap.size]++F)) (ag.drewN 1) w'/\jt (λb=>b≠k.R/\b≠k.ML/\b∉[A]++([H.heap.size]++F)) (ag.drewN 1) w'):=κ (by
      rw[<-bz,<-bA,<-bu,<-bY,<-aM.o];have h:=(aD.o.on ap.o).on (ql.drewN ag 1)
      exact Mz h ⟨I,o2,af,a.pk⟩ os N O M ke J h.pk aP.o.1 aP.o.2 cR.o bO.o)
     rw[bz,bA,bu] at aB;clear bz bA bu bY
     (with_reducible refine aQ.o.mono ?_)
     rintro e cC ⟨rfl,cw,cA,bV⟩;have bi:=κ cw;have bU:Hid (qw ([A]++([H.heap.size]++F)) wc cC):=κ (bo.o.trans ((aD.o.at.stay (ap.o.dr 1)).trans cA));have bH:Hid (jt (λb=>b≠k.R/\b≠k.ML/\b∉[A]++([H.heap.size]++F)) ag cC):=κ (((jt.refl _ ag).drewN 1).trans bV);clear cw cA bV;refine⟨_,rfl,qi bH.o,d _ _ ?_⟩;clear d K
     iterate 7 (refine qE rfl rfl (qi bH.o) ?_;intro K d;go_big_quiet_op;go_big_quiet_on)
     refine qA ?_;clear cH bh bJ cX cY dc dd de df dg dh di dj cZ da db;cases dr with
     | false=>
      go_wp2;go_roundw
      case rel=>exact⟨j+1,τ,by go_num,by rw[bn.o,Ξ,bm.o];show RmP _ a w0 _ k (sj.put1 U (j:Int)) _;rw[aB.o];exact bi.o,bU.o⟩
      case measure=>simp[intOf];omega
     | true=>
      obtain⟨_,_,bK⟩:=bi.o.at.blk;have dB:=β0 bK;clear bK;have cW:=κ (CD bi.o (j:Int) cv 6)
      go_wp2_with (go_at_call 122;(go_call cW.o as e dX ⟨rfl,cx,cB⟩;have cN:=κ cx;have dy:=κ cB;clear cx cB))
      go_roundw
      case rel=>exact⟨j+1,τ,by go_num,by rw[bn.o,Ξ,bm.o];show RmP _ a w0 _ k (sj.put1 U (j:Int)) _;rw[aB.o];exact cN.o,bU.o.trans dy.o⟩
      case measure=>simp[intOf];omega
   ·obtain rfl:j=6:=by omega
    have dH: ¬((6:Nat):Int)<6:=by omega
    go_wp2
    (refine bodyPost_end (v:= .tuple #[]) ?re1 rfl ?_;(case re1=>simp[results,results80,go_sem]))
    exact⟨rfl,by rw[bk.o,cO.o];have h:=aD.o.at;exact h.sub (λb ac=>by simp[ac]),dz.o.trans ((aG.o.sub (λb ac=>by simp[ac])).trans (bo.o.sub (λb ac=>by simp[ac])))⟩
def qV.rd (h:qV n s) (af:n<=100000):Ia s:=by
 have Y:=h.num.malf;have aa:=h.num.told;have ab:=h.num.strange;have ac:=h.num.acc;have ad:=h.num.pks;have ae:=h.num.clock;refine⟨⟨h.tb.keys,h.tb.lane,Ϙ h.num.few τ⟩,λx U a b m M=>by rw[h.tb.str _ _ M];exact h.tb.pub x U a b,τ,τ,τ,τ,τ,⟨τ,τ⟩,λo t I=>⟨λd=> ?_,λsq N=> ?_⟩,h.tb.org,λb H=>⟨(h.num.queue b H).1,by have:=(h.num.queue b H).2;omega⟩,λo t I x O=>h.ow.few o t I _ (E0.2 ⟨x,O,rfl⟩),λa d=>⟨(h.num.pkok a d).1,(h.num.pkok a d).2.1⟩,λx id H=> ?_⟩
 ·have:=h.num.great o t I d;exact⟨τ,τ⟩
 ·have:=WS (n:=n) N (h.num.great o t I);exact⟨τ,τ⟩
 ·obtain⟨l,J,_⟩:=h.ow.src x id H;rw[J];rfl
def Hq (aG:qI w0 w k s F) (au:qV n s) (av:n<=100000) (w1 w2:Int) (acc:Bool):
  Calls prog 31 #[γ k.R,θ #[ι w1,ι w2],acc] w λe w'=>e= .returned (μ (s.pick (w1,w2) acc).2)/\qI w0 w' k (s.pick (w1,w2) acc).1 F/\qw F w w':=by
 obtain⟨T,vp,aL,h⟩:=aG;obtain⟨W1,M⟩:=ν (w.alloc (.cells #[ι w1,ι w2] 37));have az:Hid (ql w W1):=κ (by rw[<-M];exact ql.alloc _ _);have am:Hid (W1.heap[w.heap.size]? =ϊ (.cells #[ι w1,ι w2] 37 (0,0))):=κ (by rw[<-M];exact qj w _);have J:=κ (h.on az.o);have af:=κ (h.at.stay az.o);have ap:=κ au;have aq:=κ (au.rd av);obtain⟨c,ar⟩:=ν (s.may (w1,w2));obtain⟨aA,aB⟩:=ν (s.closed);have ad:=κ (LI J.o aq.o.clock w1 w2);rw[ar] at ad;have an:=κ ar;have ac:=κ aB;have ah:=β0 am.o;have ai:=β1 am.o;have ax:=κ av;clear h ar aB au av;cases c with
 | false=>
  have ao:Hid (s.pick (w1,w2) acc=(s,ύ)):=κ (by unfold RmS.pick;rw[ώ (by rw[an.o];decide)]);rw[ao.o]
  go_enter func31,ntmps31
  go_upto_region 1 with fail
  (try rw[M])
  clear M
  go_wp2_with (go_at_call 27;(go_call ad.o as e aj ⟨rfl,d⟩;have H:=κ d;clear d))
  go_ret;exact⟨rfl,(J.o.on H.o).at,af.o.trans (J.o.at.stay H.o)⟩
 | true=>
  have ao:Hid (s.pick (w1,w2) acc=(s.stepW (w1,w2) acc,ό)):=κ (by unfold RmS.pick;rw[ϐ an.o]);rw[ao.o]
  have ay:Hid ((w1,w2)∈s.workers/\(if s.closed then !((qh s.ret (w1,w2)).getD ύ) else s.mayOpen (w1,w2))=ό):=κ (by
   have h:=an.o;unfold RmS.may at h;rw[B4] at h
   exact⟨Ϛ h.1,h.2⟩)
  have aJ:(w1=0∨w1=1∨w1=2∨w1=3∨w1=4)/\(2<=w1->(qh s.lanes w2).isSome=ό):=by
   rcases mem_workers.1 ay.o.1 with e | e | e
   ·injection e with e3 e4
    exact⟨ϑ e3,λh=>by omega⟩
   ·injection e with e3 e4
    exact⟨ϕ (ϑ e3),λh=>by omega⟩
   ·exact⟨ϕ (ϕ e.1),λ_=>e.2.2⟩
  obtain⟨aC,aD⟩:=aJ;have ak:=κ aD;clear aD;have ae: ∀w',ql W1 w'->w'.cell? ⟨k.R,7,ϋ⟩=ϊ (μ aA):=λw' m=>by rw[<-ac.o];exact qm (qq m J.o.blk) 7 rfl
  have ag:=κ ae;have N:=κ (λw' (m:ql W1 w')=>qq m am.o);clear ae;cases aA with
  | true=>
   have U:Hid (s.stepW (w1,w2) acc=s.endW (w1,w2)):=κ (by unfold RmS.stepW;rw[ϐ ac.o]);have aI:=ap.o.num.lost;have aw:=ax.o;have aE:=κ (λw' (m:ql W1 w')=>ME (J.o.at.on m) w1 w2 acc τ ak.o τ);clear aI aw aC
   go_enter func31,ntmps31
   go_upto_region 1 with fail
   (try rw[M])
   clear M
   go_wp2_with (first | (go_at_call 27;(go_call ad.o as e aj ⟨rfl,d⟩;have H:=κ d;have ae:=ag.o _ d;have ah:=β0 (N.o _ d);have ai:=β1 (N.o _ d);clear d)) | (go_at_call 78;(go_call aE.o _ H.o as e w4 ⟨rfl,I,t4⟩;have O:=κ I;have Y:=κ t4;clear I t4)))
   go_ret;exact⟨rfl,by rw[U.o];exact O.o,af.o.trans ((J.o.at.stay H.o).trans Y.o)⟩
  | false=>
   have aF:Hid (s.mayOpen (w1,w2)=ό):=κ (by
    have:=ay.o.2;rw[ac.o] at this
    exact this)
   rcases aC with rfl | rfl | rfl | rfl | rfl
   ·have U:Hid (s.stepW (0,w2) acc=s.read):=κ (by unfold RmS.stepW;rw[ώ (by rw[ac.o];decide),ϐ rfl]);obtain⟨b,q,al⟩: ∃b q,s.queue=b::q:=by
     have h:=aF.o;unfold RmS.mayOpen at h;rw[ϐ rfl] at h;have h:=Ϛ h;cases al:s.queue with
     | nil=>rw[al] at h;simp at h
     | cons b q=>exact⟨b,q,rfl⟩
    have aa:=κ (λw' (m:ql W1 w')=>Mx (J.o.at.on m) aq.o al 0 w2 acc);clear al
    go_enter func31,ntmps31
    go_upto_region 1 with fail
    (try rw[M])
    clear M
    go_wp2_with (first | (go_at_call 27;(go_call ad.o as e aj ⟨rfl,d⟩;have H:=κ d;have ae:=ag.o _ d;have ah:=β0 (N.o _ d);have ai:=β1 (N.o _ d);clear d)) | (go_at_call 79;(go_call aa.o _ H.o as e w4 ⟨rfl,I,t4⟩;have O:=κ I;have Y:=κ t4;clear I t4)))
    go_ret;exact⟨rfl,by rw[U.o];exact O.o,af.o.trans ((J.o.at.stay H.o).trans Y.o)⟩
   ·have U:Hid (s.stepW (1,w2) acc=s.order):=κ (by unfold RmS.stepW;rw[ώ (by rw[ac.o];decide),ώ η,ϐ rfl]);have aa:=κ (λw' (m:ql W1 w')=>Lg (J.o.at.on m) aq.o 1 w2 acc)
    go_enter func31,ntmps31
    go_upto_region 1 with fail
    (try rw[M])
    clear M
    go_wp2_with (first | (go_at_call 27;(go_call ad.o as e aj ⟨rfl,d⟩;have H:=κ d;have ae:=ag.o _ d;have ah:=β0 (N.o _ d);have ai:=β1 (N.o _ d);clear d)) | (go_at_call 80;(go_call aa.o _ H.o as e w4 ⟨rfl,I,t4⟩;have O:=κ I;have Y:=κ t4;clear I t4)))
    go_ret;exact⟨rfl,by rw[U.o];exact O.o,af.o.trans ((J.o.at.stay H.o).trans Y.o)⟩
   ·have U:Hid (s.stepW (2,w2) acc=s.choose w2):=κ (by unfold RmS.stepW;rw[ώ (by rw[ac.o];decide),ώ η,ώ η,ϐ rfl]);obtain⟨l,ab⟩:=ϥ.1 (ak.o ζ);have aa:=κ (λw' (m:ql W1 w')=>FG (J.o.at.on m) 2 w2 acc ab);clear ab
    go_enter func31,ntmps31
    go_upto_region 1 with fail
    (try rw[M])
    clear M
    go_wp2_with (first | (go_at_call 27;(go_call ad.o as e aj ⟨rfl,d⟩;have H:=κ d;have ae:=ag.o _ d;have ah:=β0 (N.o _ d);have ai:=β1 (N.o _ d);clear d)) | (go_at_call 81;(go_call aa.o _ H.o as e w4 ⟨rfl,I,t4⟩;have O:=κ I;have Y:=κ t4;clear I t4)))
    go_ret;exact⟨rfl,by rw[U.o];exact O.o,af.o.trans ((J.o.at.stay H.o).trans Y.o)⟩
   ·have U:Hid (s.stepW (3,w2) acc=s.rewrite w2):=κ (by unfold RmS.stepW;rw[ώ (by rw[ac.o];decide),ώ η,ώ η,ώ η,ϐ rfl]);obtain⟨l,ab⟩:=ϥ.1 (ak.o ζ);have aa:=κ (λw' (m:ql W1 w')=>CE (J.o.at.on m) 3 w2 acc ab);clear ab
    go_enter func31,ntmps31
    go_upto_region 1 with fail
    (try rw[M])
    clear M
    go_wp2_with (first | (go_at_call 27;(go_call ad.o as e aj ⟨rfl,d⟩;have H:=κ d;have ae:=ag.o _ d;have ah:=β0 (N.o _ d);have ai:=β1 (N.o _ d);clear d)) | (go_at_call 82;(go_call aa.o _ H.o as e w4 ⟨rfl,I,t4⟩;have O:=κ I;have Y:=κ t4;clear I t4)))
    go_ret;exact⟨rfl,by rw[U.o];exact O.o,af.o.trans ((J.o.at.stay H.o).trans Y.o)⟩
   ·have U:Hid (s.stepW (4,w2) acc=s.write w2 acc):=κ (by unfold RmS.stepW;rw[ώ (by rw[ac.o];decide),ώ η,ώ η,ώ η,ώ η]);obtain⟨l,ab⟩:=ϥ.1 (ak.o ζ);have aK:=ap.o.num.wr w2 l ab;have aH:=ap.o.num.book;have aw:=ax.o;have aa:=κ (λw' (m:ql W1 w')=>La (J.o.at.on m) 4 w2 acc ab τ τ);clear ab aK aH aw
    go_enter func31,ntmps31
    go_upto_region 1 with fail
    (try rw[M])
    clear M
    go_wp2_with (first | (go_at_call 27;(go_call ad.o as e aj ⟨rfl,d⟩;have H:=κ d;have ae:=ag.o _ d;have ah:=β0 (N.o _ d);have ai:=β1 (N.o _ d);clear d)) | (go_at_call 77;(go_call aa.o _ H.o as e w4 ⟨rfl,I,t4⟩;have O:=κ I;have Y:=κ t4;clear I t4)))
    go_ret;exact⟨rfl,by rw[U.o];exact O.o,af.o.trans ((J.o.at.stay H.o).trans Y.o)⟩
def ln0:LnS:=Vd 0 0 0 0 0
def RmS.ln (s:RmS) (x:Int):LnS:=(qh s.lanes x).getD ln0
def MC (h:RmX T w0 w k vp vr s F) (x:Int):Calls prog 24 #[γ k.R,ι x] w λe w'=>
  e= .returned (.tuple #[θ #[ι (s.ln x).cur,ι (s.ln x).tgt],θ #[ι (s.ln x).A.length,ι (s.ln x).B.length,ι (s.ln x).C.length],μ (s.ln x).gone,μ (qh s.lanes x).isSome])/\ql w w':=by
 obtain⟨W2,O⟩:=ν ((w.alloc (.cells #[ι 0,ι 0] 103)).alloc (.cells #[ι 0,ι 0,ι 0] 104));have ak:Hid (ql w W2):=κ (by rw[<-O];exact X8.al _);have aa:Hid (W2.heap[w.heap.size]? =ϊ (.cells #[ι 0,ι 0] 103 (0,0))):=κ (by rw[<-O];exact qs (qj w _) _);have N:Hid (W2.heap[w.heap.size+1]? =ϊ (.cells #[ι 0,ι 0,ι 0] 104 (0,0))):=κ (by rw[<-O];exact qC η);have aj:=κ (h.on ak.o);have bb:=β12 aj.o.blk;have q:_:=xq aj.o.lnm x ό;simp only[A7] at q;cases hl:qh s.lanes x with
 | none=>
  have ai:Hid (s.ln x=ln0):=κ (by unfold RmS.ln;rw[hl];rfl);rw[h.laneNo hl] at q;rw[ai.o]
  replace q:(Instr.lookup 90 (.map (ϊ k.ML)) (ι x) ό).run prog W2= .ok (.tuple #[π ϋ,ύ]) W2:=q
  have z0:=β0 aa.o;have ba:=β1 aa.o;have bf:=yw aa.o 0;have bg:=yw aa.o 1;have aB:=β0 N.o;have aC:=β1 N.o;have aD:=β2 N.o;have t0:=yw N.o 0;have t1:=yw N.o 1;have t2:=yw N.o 2;clear h hl
  go_enter func24,ntmps24
  go_upto_region 1 with fail
  (try rw[O])
  clear O;go_wp2
  (refine bodyPost_ret (v:= .tuple #[θ #[ι 0,ι 0],θ #[ι 0,ι 0,ι 0],ύ,ύ]) ?rr1 rfl ?_;(case rr1=>(simp[results,results24,go_sem,z0,ba,aB,aC,aD])))
  exact⟨rfl,((((ak.o.st (ϔ _) _).st (ϔ _) _).st (Ω _ _) _).st (Ω _ _) _).st (Ω _ _) _⟩
 | some l=>
  obtain⟨p,aP,ad⟩:=aj.o.laneAt hl;have ai:Hid (s.ln x=l):=κ (by unfold RmS.ln;rw[hl];rfl);rw[ai.o];rw[aP] at q
  replace q:(Instr.lookup 90 (.map (ϊ k.ML)) (ι x) ό).run prog W2= .ok (.tuple #[γ p,ό]) W2:=q
  have aK:=κ (Xb ad);have aI:=κ (λw' (m:ql W2 w')=>ES (ad.on m));have aH:=κ (λw' (m:ql W2 w')=>JB (ad.on m));obtain⟨d,av⟩:=ν (l.cur);obtain⟨H,ay⟩:=ν (l.tgt);obtain⟨be,aO⟩:=ν (l.wanted);obtain⟨aZ,ax⟩:=ν (l.gone);obtain⟨la,ar⟩:=ν (l.A.length);obtain⟨lb,au⟩:=ν (l.B.length);obtain⟨M,aw⟩:=ν (l.C.length);rw[av,ay,aO] at aK;rw[ax] at aH;rw[ar,au,aw] at aI;rw[av,ay,ax,ar,au,aw];clear av ay aO ax ar au aw aP ad hl h
  go_enter func24,ntmps24
  go_upto_region 1 with fail
  (try rw[O])
  clear O
  go_upto_region 5 with (go_at_call 67;(go_call aK.o as e U ⟨rfl,aR⟩;have aL:=κ aR;clear aR))
  obtain⟨J,ac⟩:=ν (U.alloc (.cells #[ι d,ι H] 103));have an:Hid (ql W2 J):=κ (by rw[<-ac];exact aL.o.al _);have aE:Hid (J.heap[U.heap.size]? =ϊ (.cells #[ι d,ι H] 103 (0,0))):=κ (by rw[<-ac];exact qj U _);have aQ:w.heap.size+2<=U.heap.size:=by
   have bc:=aL.o.size;have bd:=qn N.o;omega
  have aJ:=κ aQ;clear aQ
  (try rw[ac])
  clear ac;have aV: ∀y:qz (λb=>b=w.heap.size∨b=w.heap.size+1) J,y.w'.cell? ⟨U.heap.size,0,ϋ⟩=ϊ (ι d):=λy=>qm (y.h.blk aE.o (λe=>by have:=aJ.o;omega)) 0 rfl
  have aW: ∀y:qz (λb=>b=w.heap.size∨b=w.heap.size+1) J,y.w'.cell? ⟨U.heap.size,1,ϋ⟩=ϊ (ι H):=λy=>qm (y.h.blk aE.o (λe=>by have:=aJ.o;omega)) 1 rfl
  refine zp (λb=>b=w.heap.size∨b=w.heap.size+1) J 9 [(0,ύ),(1,ύ),(3,ύ),(2,ό),(4,ό),(5,ό),(6,ό),(7,ύ),(8,ύ)] ξ ξ ?_
  refine Qs3 ?_
  (refine Ql ?_;intro K I)
  go_call aI.o _ (an.o.dr 1) as e w5 ⟨rfl,aS⟩;have ao:Hid (ql J w5):=κ ((ql.drewN J 1).trans aS);clear aS;refine⟨_,rfl,qi (jt.of_more ao.o),I _ _ ?_⟩;clear I K
  (refine Ql ?_;intro K I)
  go_call aH.o _ (an.o.trans ao.o) as e w6 ⟨rfl,aT⟩;have ap:Hid (ql J w6):=κ (ao.o.trans aT);clear aT;refine⟨_,rfl,qi (jt.of_more ap.o),I _ _ ?_⟩;clear I K aV aW;have am:=κ (an.o.trans ap.o);have aF:=κ (qq am.o aa.o);have aU:=κ (qq am.o N.o);refine jR rfl rfl ?_;intro K I;refine xw 103 (.tmp 4) (.tmp 30) rfl w.heap.size 103 _ #[ι d,ι H] aF.o rfl rfl ξ rfl X9 ?_;have ae:Hid (jt (λb=>b=w.heap.size∨b=w.heap.size+1) J (w6.setRow w.heap.size #[ι d,ι H])):=κ ((jt.of_more ap.o).trans ((jt.setRow w6 w.heap.size #[ι d,ι H]).mono (λb aq=>ϑ aq)));have aG:=κ (jM aF.o #[ι d,ι H]);have ah:Hid ((w6.setRow w.heap.size #[ι d,ι H]).heap[w.heap.size+1]? =ϊ (.cells #[ι 0,ι 0,ι 0] 104 (0,0))):=κ ((jt.setRow w6 w.heap.size #[ι d,ι H]).blk aU.o τ);have aM:Hid (ql w (w6.setRow w.heap.size #[ι d,ι H])):=κ ((ak.o.trans am.o).row (ϔ _) _);refine⟨qi ae.o,I _ _ ?_⟩;clear I K;obtain⟨Y,az⟩:=ν (w6.setRow w.heap.size #[ι d,ι H]);rw[az] at ae aG ah aM
  (try rw[az])
  clear az;refine jR rfl rfl ?_;intro K I;refine xw 104 (.tmp 5) (.tmp 32) rfl (w.heap.size+1) 104 _ #[ι la,ι lb,ι M] ah.o rfl rfl ξ rfl X9 ?_;have af:Hid (jt (λb=>b=w.heap.size∨b=w.heap.size+1) J (Y.setRow (w.heap.size+1) #[ι la,ι lb,ι M])):=κ (ae.o.trans ((jt.setRow Y (w.heap.size+1) #[ι la,ι lb,ι M]).mono (λb aq=>ϕ aq)));have ab:=κ (jM ah.o #[ι la,ι lb,ι M]);have ag:Hid ((Y.setRow (w.heap.size+1) #[ι la,ι lb,ι M]).heap[w.heap.size]? =ϊ (.cells #[ι d,ι H] 103 (0,0))):=κ ((jt.setRow Y (w.heap.size+1) #[ι la,ι lb,ι M]).blk aG.o τ);have aN:Hid (ql w (Y.setRow (w.heap.size+1) #[ι la,ι lb,ι M])):=κ (aM.o.row (K5 _) _);refine⟨qi af.o,I _ _ ?_⟩;clear I K;obtain⟨w8,aA⟩:=ν (Y.setRow (w.heap.size+1) #[ι la,ι lb,ι M]);rw[aA] at af ag ab aN
  (try rw[aA])
  clear aA;go_simp
  iterate 2 (refine qE rfl rfl (qi af.o) ?_;intro K I;go_big_quiet_op;go_big_quiet_on)
  refine qA ?_;have aX:=β0 ag.o;have aY:=β1 ag.o;have aB:=β0 ab.o;have aC:=β1 ab.o;have aD:=β2 ab.o;go_wp2
  (refine bodyPost_ret (v:= .tuple #[θ #[ι d,ι H],θ #[ι la,ι lb,ι M],aZ,ό]) ?rr2 rfl ?_;(case rr2=>(simp[results,results24,go_sem,aX,aY,aB,aC,aD])))
  exact⟨rfl,aN.o⟩
def CA (h:RmX T w0 w k vp vr s F) (x:Int) (d:(s.ln x).W.length<=1000000):Calls prog 14 #[γ k.R,ι x] w λe w'=>(∃v,e= .returned v/\je 2 (ROn w.heap.size) (λb=>b<w.heap.size) w' w.heap.size 56 v (s.ln x).W)/\ql w w':=by
 have aa:=β12 h.blk;have q:_:=xq h.lnm x ό;simp only[A7] at q;cases hl:qh s.lanes x with
 | none=>
  have H:Hid (s.ln x=ln0):=κ (by unfold RmS.ln;rw[hl];rfl)
  replace q:(Instr.lookup 90 (.map (ϊ k.ML)) (ι x) ό).run prog w= .ok (.tuple #[π ϋ,ύ]) w:=by rw[h.laneNo hl] at q;exact q
  rw[H.o];clear h hl d
  go_enter func14,ntmps14
  go_wp2;go_ret;exact⟨⟨_,rfl,je.nil _ _ _ _ _ _⟩,ql.refl _⟩
 | some l=>
  obtain⟨p,J,I⟩:=h.laneAt hl;have H:Hid (s.ln x=l):=κ (by unfold RmS.ln;rw[hl];rfl);rw[H.o] at d ⊢
  replace q:(Instr.lookup 90 (.map (ϊ k.ML)) (ι x) ό).run prog w= .ok (.tuple #[γ p,ό]) w:=by rw[J] at q;exact q
  have O:=κ (Uh I d);clear h hl J I d
  go_enter func14,ntmps14
  go_wp2_with (go_at_call 48;(go_call O.o as e w2 ⟨⟨v,rfl,N⟩,M⟩;have Y:=κ N;have U:=κ M;clear N M))
  go_ret;exact⟨⟨_,rfl,Y.o⟩,U.o⟩
structure LgS (s s':RmS):Prop where
 pks:s'.pks=s.pks
 ex: ∃e,BkW e s.book s'.book/\ ∀x,(∀i,e=ϊ (x,i)-> ∃o,(s'.ln x).W=(s.ln x).W++[o]/\o.1=i)/\((∀i,e≠ϊ (x,i))->(s'.ln x).W.length<=(s.ln x).W.length)
def LgS.none' (d:s'.pks=s.pks) (H:BkW ϋ s.book s'.book) (I: ∀x,(s'.ln x).W.length<=(s.ln x).W.length):LgS s s':=
 ⟨d,ϋ,H,λx=>⟨λi h=>(by cases h),λ_=>I x⟩⟩
def LgS.same (d:s'.pks=s.pks) (H:s'.book=s.book) (I:s'.lanes=s.lanes):LgS s s':=
 LgS.none' d (by rw[H];exact BkW.refl _) (λx=>by unfold RmS.ln;rw[I];exact ϔ _)
def LgS.loc (k:Loc s s') (d:BkW ϋ s.book s'.book):LgS s s':=LgS.none' k.pks d λx=>by
 have:=k.lanes x;unfold RmS.ln;cases h:qh s.lanes x with
 | none=>
  rw[h] at this;cases h':qh s'.lanes x with
  | none=>exact ϔ _
  | some l'=>rw[h'] at this;cases this
 | some l=>
  rw[h] at this;cases h':qh s'.lanes x with
  | none=>rw[h'] at this;cases this
  | some l'=>
   rw[h'] at this;simp only[C3,G8,C7] at this;simp only[ϣ];rw[this.2.2];exact ϔ _
def Q8 (d: ∀s x,BkW ϋ s.book (f s x).book): ∀(L:List α) (s:RmS),BkW ϋ s.book (L.foldl f s).book
 | [],s=>BkW.refl _
 | x::L,s=>(d s x).trans (Q8 d L (f s x))
def qaV (l:LnS):(jf l).2.2.1=0∨2<=(jf l).2.2.1/\(jf l).2.2.1<=8:=by
 rcases XJ (s:=l) with ⟨_,e⟩ | ⟨_,x,A,_,_,e⟩
 ·rw[e];exact ϑ rfl
 ·rw[e];simp only;unfold xJ;split
  ·exact ϑ rfl
  ·split
   ·split
    ·exact ϑ rfl
    ·exact ϕ (by simp only;decide)
   ·exact ϕ (by simp only;decide)
def qa7 (s:RmS) (x:Int):LgS s (s.choose x):=by
 refine LgS.loc (vu s x) ?_;unfold RmS.choose;cases hl:qh s.lanes x with
 | none=>exact BkW.refl _
 | some l=>
  simp only;split
  ·rename_i h;rw[B4] at h;rcases qaV l with c | c
   ·rw[c] at h;simp at h
   ·exact km _ _ _ _ c
  ·exact BkW.refl _
def qaY (s:RmS) (x:Int):LgS s (s.rewrite x):=by
 refine LgS.loc (yA s x) ?_;unfold RmS.rewrite;cases hl:qh s.lanes x with
 | none=>exact BkW.refl _
 | some l=>
  simp only;split
  ·exact km _ _ _ 6 ζ
  ·exact BkW.refl _
def qbi (d:ItS) (s:RmS) (x:Int):BkW ϋ s.book (s.put1 d x).book:=by
 unfold RmS.put1;split
 ·cases hl:qh s.lanes x with
  | none=>exact BkW.refl _
  | some l=>
   simp only;split
   ·exact km _ _ _ 6 ζ
   ·exact BkW.refl _
 ·exact BkW.refl _
def qbj (s:RmS):LgS s s.order:=by
 refine LgS.loc (kr s) ?_;unfold RmS.order;cases hy:s.ready with
 | none=>exact BkW.refl _
 | some o=>
  simp only;cases ht:qh s.strs o with
  | none=>exact BkW.refl _
  | some t=>
   simp only;unfold RmS.orderAt;exact Q8 (λs x=>qbi _ s x) subIds {s with strs:=qx s.strs o {t with buf:=(yD t.buf s.clock).1}}
def qaZ (s:RmS) (o:Og):BkW ϋ s.book (s.drainO o).book:=by
 unfold RmS.drainO;cases ht:qh s.strs o with
 | none=>exact BkW.refl _
 | some t=>
  simp only;exact Q8 (λs i=>MF i 8 ζ subIds s.book) _ {s with strs:=qx s.strs o {t with buf:=vP t.buf}}
def qbn (s:RmS) (w:Og):LgS s (s.drain w):=by
 unfold RmS.drain;split
 ·exact LgS.same rfl rfl rfl
 ·split
  ·exact LgS.loc (za vn _ s) (Q8 qaZ _ s)
  ·refine LgS.loc (OM s w) ?_;unfold RmS.drainL;cases hl:qh s.lanes w.2 with
   | none=>exact BkW.refl _
   | some l=>exact SM _ 8 ζ _ _
def qbd (h:OwO s) (x:Int) (acc:Bool):LgS s (s.write x acc):=by
 unfold RmS.write;cases hl:qh s.lanes x with
 | none=>exact LgS.same rfl rfl rfl
 | some l=>
  simp only;have O:s.ln x=l:=by unfold RmS.ln;rw[hl];rfl
  have U: ∀(L:LnS) (H:TS) (d:Bk) y,y≠x->(({s with lanes:=qx s.lanes x L,tab:=H,book:=d}:RmS).ln y)=s.ln y:=λL H d y I=>by
   unfold RmS.ln;simp only;rw[qF,ώ I]
  have Y: ∀(L:LnS) (H:TS) (d:Bk),(({s with lanes:=qx s.lanes x L,tab:=H,book:=d}:RmS).ln x)=L:=λL H d=>by
   unfold RmS.ln;simp only;rw[qF,ϐ rfl];rfl
  have M: ∀(L:LnS) (H:TS) (d:Bk),L.W=l.W->BkW ϋ s.book d->LgS s {s with lanes:=qx s.lanes x L,tab:=H,book:=d}:=λL H d ab J=>LgS.none' rfl J λy=>by
   by_cases I:y=x
   ·rw[I,Y,O,ab];exact ϔ _
   ·rw[U _ _ _ y I];exact ϔ _
  rcases uV (s:=l) acc with ⟨_,e⟩ | ⟨o,C,aa,⟨J,e⟩ | ⟨_,_,J,e⟩⟩
  ·rw[e];simp only[K3,Ϭ,C2];refine M _ _ _ rfl ?_;split
   ·exact Ll _ _ 7 ζ
   ·exact BkW.refl _
  ·rw[e];cases acc with
   | false=>
    simp only[Ϭ,C2,(by decide: ¬(0:Int)=1),decide_false,N5];refine M _ _ _ rfl ?_;split
    ·exact Ll _ _ 7 ζ
    ·exact BkW.refl _
   | true=>
    have N:qh s.book (x,o.1)=ϊ 0:=(h.owd x l hl o.1 (by unfold xI;rw[aa];simp)).1;simp only[A7,G3,decide_true];refine⟨rfl,ϊ (x,o.1), ?_,λy=>⟨λi hi=> ?_,λhi=> ?_⟩⟩
    ·simp only;split
     ·exact(qaS _ _ _ N).trans (Ll _ _ 7 ζ)
     ·exact qaS _ _ _ N
    ·injection hi with hi
     injection hi with h1 h2
     subst h1;refine⟨o, ?_,h2⟩;rw[Y,O]
    ·have I:y≠x:=λc=>hi o.1 (by rw[c])
     rw[U _ _ _ y I];exact ϔ _
  ·rw[e];simp only[G3,(by decide: ¬(7:Int)=1),decide_false,Ϭ,C2];refine M _ _ _ rfl ?_;split<;>first | exact Ll _ _ 7 ζ | exact BkW.refl _
def qbg (s:RmS) (x:Int):(s.tell1 x).lanes=s.lanes/\(s.tell1 x).pks=s.pks/\(s.tell1 x).book=s.book:=by
 unfold RmS.tell1;split
 ·exact⟨rfl,rfl,rfl⟩
 ·repeat' split
  all_goals exact⟨rfl,rfl,rfl⟩
def SF (d: ∀s x,(f s x).lanes=s.lanes/\(f s x).pks=s.pks/\(f s x).book=s.book): ∀(L:List α) (s:RmS),(L.foldl f s).lanes=s.lanes/\(L.foldl f s).pks=s.pks/\(L.foldl f s).book=s.book
 | [],s=>⟨rfl,rfl,rfl⟩
 | x::L,s=>by
  obtain⟨a,b,c⟩:=SF d L (f s x);obtain⟨a',H,I⟩:=d s x;exact⟨a.trans a',b.trans H,c.trans I⟩
def qbt (s:RmS) (b:List Int):LgS s (s.tell b):=by
 have:(s.tell b).lanes=s.lanes/\(s.tell b).pks=s.pks/\(s.tell b).book=s.book:=by
  unfold RmS.tell;split
  ·exact SF (f:=RmS.tellS) (λs d=>SF (f:=RmS.tell1) qbg _ s) _ _
  ·exact⟨rfl,rfl,rfl⟩
 exact LgS.same this.2.1 this.2.2 this.1
def qaN {K V:Type} [DecidableEq K] (k:K) (v:V): ∀(m:List (K×V)),qh m k=ϋ->qx m k v=m++[(k,v)]
 | [],_=>rfl
 | (a,u)::m,h=>by
  unfold qh at h;unfold qx;by_cases c:k=a
  ·rw[ϐ c] at h;cases h
  ·rw[ώ c] at h ⊢;rw[qaN k v m h];rfl
def qbw {K V:Type} [DecidableEq K] (k:K) (v:V) (m:List (K×V)) (h:(m.map Prod.fst).Nodup):((qx m k v).map Prod.fst).Nodup:=by
 cases e:qh m k with
 | some u=>rw[KL k v m (by rw[e];rfl)];exact h
 | none=>
  rw[qaN k v m e,ϻ,F2];refine⟨h,η,λa I b d=> ?_⟩;rw[Ϟ,D4,C0] at d;subst d;intro c;subst c;obtain⟨u,H⟩:=QB I;rw[e] at H;cases H
def qaP (i:Int): ∀(L:List Int) (b:Bk),(b.map Prod.fst).Nodup->((Ji b L i).map Prod.fst).Nodup
 | [],b,h=>h
 | x::L,b,h=>by
  refine qaP i L (vT b (x,i)).1 ?_;unfold vT;split
  ·split
   ·exact h
   ·exact qbw _ _ _ h
  ·exact h
def KE (i f:Int): ∀(L:List Int) (b:Bk),(xG b L i f).map Prod.fst=b.map Prod.fst
 | [],b=>rfl
 | x::L,b=>(KE i f L (jp b x i f)).trans (Q7 b x i f)
structure LgA (s s':RmS):Prop where
 lanes:s'.lanes=s.lanes
 tab:s'.tab=s.tab
 nd:(s.book.map Prod.fst).Nodup->(s'.book.map Prod.fst).Nodup
 ex: ∃a f,s'.pks=s.pks++[a]/\(f=0∨2<=f/\f<=8)/\ ∀k,qh s'.book k=if k.2=(s.pks.length:Int)/\k.1∈prR (j8 a.o.1) s.tab.u then ϊ f else qh s.book k
def qaU (e:Int):yY e=0∨2<=yY e/\yY e<=8:=by
 unfold yY;split
 ·exact ϕ ζ
 ·split
  ·exact ϕ ζ
  ·split
   ·exact ϕ ζ
   ·exact ϑ rfl
def qa8 (h:OwO s) (o:Og) (p:Pk):LgS s (s.accept o p)∨LgA s (s.accept o p):=by
 unfold RmS.accept;cases ht:qh s.strs o with
 | none=>exact ϑ (LgS.same rfl rfl rfl)
 | some t=>
  simp only;have M: ∀x,qh s.book (x,(s.pks.length:Int))=ϋ:=λx=>by
   cases hb:qh s.book (x,(s.pks.length:Int)) with
   | none=>rfl
   | some v=>have:=(h.bel x _ v hb).2;omega
  have J: ∀x∈prR (j8 o.1) s.tab.u,0<=x/\x<6:=λx N=>subIds_iff.1 (mem_prR.1 N).1
  have d:=λk=>ZM (s.pks.length:Int) τ k _ s.book J (λx=>ϑ (M x))
  right;refine⟨rfl,rfl,λH=> ?_,⟨o,yV t p.sq,p⟩,yY (jP t.buf (yV t p.sq) s.clock s.pks.length).2,rfl,qaU _,λk=> ?_⟩
  ·simp only;split
   ·exact qaP _ _ _ H
   ·rw[KE];exact qaP _ _ _ H
  ·simp only;split
   ·rename_i e;rw[d,e]
   ·rename_i e;have O:=qaU (jP t.buf (yV t p.sq) s.clock (s.pks.length:Int)).2;rw[yv _ _ τ,d];by_cases c:k.2=(s.pks.length:Int)/\k.1∈prR (j8 o.1) s.tab.u
    ·rw[ϐ c,ϐ c,ϐ ⟨c,rfl⟩]
    ·rw[ώ c,ώ c,ώ (λI=>c I.1)]
def qbu (h:OwO s) (w:Og) (acc:Bool):LgS s (s.stepW w acc)∨LgA s (s.stepW w acc):=by
 unfold RmS.stepW;split
 ·refine ϑ ?_;unfold RmS.endW;have H:=qbn s w;split
  ·exact⟨H.pks,H.ex⟩
  ·exact H
 ·split
  ·unfold RmS.read;cases hq:s.queue with
   | nil=>exact ϑ (LgS.same rfl rfl rfl)
   | cons b q=>
    simp only;have J:OwO {s with queue:=q}:=qR.same h rfl rfl rfl rfl;have I: ∀s',LgS {s with queue:=q} s'∨LgA {s with queue:=q} s'->LgS s s'∨LgA s s':=λs' d=>d.elim (λd=>ϑ ⟨d.pks,d.ex⟩) (λd=>ϕ ⟨d.lanes,d.tab,d.nd,d.ex⟩)
    refine I _ ?_;split
    ·exact ϑ (qbt _ b)
    ·unfold RmS.media;split
     ·cases qh ({s with queue:=q}:RmS).tab.o (jl b).1.sc with
      | none=>exact ϑ (LgS.same rfl rfl rfl)
      | some o=>exact qa8 J o _
     ·exact ϑ (LgS.same rfl rfl rfl)
  ·split
   ·exact ϑ (qbj s)
   ·split
    ·exact ϑ (qa7 s _)
    ·split
     ·exact ϑ (qaY s _)
     ·exact ϑ (qbd h _ _)
def qaW (x:Int) (l:LnS) (H:s'.pks=s.pks) (I:BkW ϋ s.book s'.book) (J:s'.lanes=qx s.lanes x l) (d:l.W.length<=(s.ln x).W.length):LgS s s':=LgS.none' H I λy=>by
 unfold RmS.ln at d ⊢;rw[J,qF];split
 ·rename_i e;rw[e];exact d
 ·exact ϔ _
def qbb (l:LnS) (n:Int):(jO l n).1.W=l.W:=by
 rcases NR (s:=l) n with e | ⟨_,e⟩<;>rw[e]
def qaI (h:OwO s) (a:A22):LgS s (doR s a).1∨LgA s (doR s a).1:=by
 by_cases ha1:a.act=1
 ·rw[Xn a ha1];unfold RmS.pick;split
  ·exact qbu h a.w a.acc
  ·exact ϑ (LgS.same rfl rfl rfl)
 ·left;unfold doR;split
  ·unfold RmS.arrive
   repeat' split
   all_goals exact LgS.same rfl rfl rfl
  ·split
   ·unfold RmS.tick;split
    ·exact LgS.same rfl rfl rfl
    ·have k:=ur s.origins {s with clock:=s.clock+1};exact LgS.same k.pks k.book k.lanes
   ·split
    ·unfold RmS.publish
     repeat' split
     all_goals exact LgS.same rfl rfl rfl
    ·split
     ·unfold RmS.join;split
      ·exact LgS.same rfl rfl rfl
      ·split
       ·exact qaW a.sub (Vd s.cfg.room.toNat s.cfg.most a.own a.seq a.stamp) rfl (BkW.refl _) rfl (Δ _)
       ·exact LgS.same rfl rfl rfl
     ·split
      ·unfold RmS.subscribe
       repeat' split
       all_goals first | exact LgS.same rfl rfl rfl | skip
       rename_i l d;refine qaW a.sub (jO l a.layer).1 rfl (BkW.refl _) rfl ?_;rw[qbb];unfold RmS.ln;rw[d];exact ϔ _
      ·split
       ·unfold RmS.want
        repeat' split
        all_goals first | exact LgS.same rfl rfl rfl | skip
        rename_i l d;refine qaW a.sub (jO l a.layer).1 rfl (BkW.refl _) rfl ?_;rw[qbb];unfold RmS.ln;rw[d];exact ϔ _
       ·split
        ·unfold RmS.leave;split
         ·exact LgS.same rfl rfl rfl
         ·split
          ·refine LgS.none' rfl (Ll _ _ 7 ζ) λx=> ?_
           unfold RmS.ln;simp only;rw[uR];split
           ·exact Δ _
           ·exact ϔ _
          ·exact LgS.same rfl rfl rfl
        ·split
         ·unfold RmS.shut;split<;>exact LgS.same rfl rfl rfl
         ·exact LgS.same rfl rfl rfl
def EI (l:LnS):List Int:=l.W.map Prod.fst++(l.C.map Prod.fst++(l.B.map (λp=>p.1.id)++l.A.map (λx=>x.id)))
def Ra (l:LnS) (x:ItS):List.Sublist (EI (xp l x).1) (EI l++[x.id]):=by
 rcases Rc (s:=l) x with ⟨h,_⟩ | ⟨_,_,_,_,_,h,_⟩
 ·rw[h];exact Q3 _ _
 ·rw[h];unfold EI;simp only[ϭ];refine List.Sublist.append (Ϧ _) (List.Sublist.append (Ϧ _) (List.Sublist.append (Ϧ _) ?_));split
  ·rw[ϻ];exact Ϧ _
  ·rw[ϻ];exact List.Sublist.append (List.Sublist.map _ (List.tail_sublist _)) (Ϧ _)
def OL (l:LnS):List.Sublist (EI (jf l).1) (EI l):=by
 rcases XJ (s:=l) with ⟨_,h⟩ | ⟨_,x,A,d,_,h⟩
 ·rw[h];exact Ϧ _
 ·rw[h];unfold EI;rw[d];refine List.Sublist.append (Ϧ _) (List.Sublist.append (Ϧ _) ?_);simp only;split
  ·rw[ϻ,ϭ];exact Ϧ _
  ·exact List.Sublist.append (Ϧ _) (List.sublist_cons_self _ _)
def Ow (l:LnS):List.Sublist (EI (qY l).1) (EI l):=by
 rcases MZ (s:=l) with ⟨_,h⟩ | ⟨x,f,B,d,h⟩
 ·rw[h];exact Ϧ _
 ·rw[h];unfold EI;rw[d];refine List.Sublist.append (Ϧ _) ?_;simp only;have e: ∀C:List (Int×List Int),List.Sublist C l.C->List.Sublist ((C++[(x.id,pkB (kY l.rw x.pk f))]).map Prod.fst++(B.map (λp=>p.1.id)++l.A.map (λx=>x.id))) (l.C.map Prod.fst++(((x,f)::B).map (λp=>p.1.id)++l.A.map (λx=>x.id))):=λC H=>by
   rw[ϻ,ϭ];exact List.Sublist.append (List.Sublist.map _ H) (Ϧ _)
  split
  ·exact e _ (Ϧ _)
  ·exact e _ (List.tail_sublist _)
def Ot (l:LnS) (acc:Bool):List.Sublist (EI (qX l acc).1) (EI l):=by
 rcases uV (s:=l) acc with ⟨_,h⟩ | ⟨o,C,d,h⟩
 ·rw[h];exact Ϧ _
 ·unfold EI;rw[d];rcases h with ⟨_,h⟩ | ⟨_,_,_,h⟩<;>rw[h]
  ·simp only;cases acc
   ·exact Ϧ _
   ·simp
  ·simp only[D4,ε];exact Q3 _ _
def OV (l:LnS) (n:Int):List.Sublist (EI (vh l n)) (EI l):=by
 unfold EI vh;refine List.Sublist.append (Ϧ _) (List.Sublist.append ?_ (List.Sublist.append ?_ ?_))<;>refine List.Sublist.map _ ?_<;>simp only<;>split<;>first | exact List.nil_sublist _ | exact Ϧ _
def OJ (l:LnS) (n:Int):EI (jO l n).1=EI l:=by
 rcases NR (s:=l) n with h | ⟨_,h⟩<;>rw[h]
 rfl
def acP (P:List AcS) (i:Int):AcS:=P.getD i.toNat ac0
def SX (P:List AcS) (i j:Int):Prop:=i≠j/\((acP P i).o=(acP P j).o->(acP P i).num<(acP P j).num)
structure HJ (b:Jb):Prop where
 rise:b.holds.Pairwise λa c=>a.1<c.1
 over:b.begun=ό-> ∀h∈b.holds,b.hi<h.1
structure Jle (b b':Jb):Prop where
 hi:b.begun=ό->b'.begun=ό/\b.hi<=b'.hi
 sub: ∀h∈b'.holds,h∈b.holds
 ok:HJ b->HJ b'
def Jle.refl (b:Jb):Jle b b:=⟨λh=>⟨h,Q1 _⟩,λ_ h=>h,λh=>h⟩
def Jle.trans {I b'':Jb} (h:HJ b->Jle b I) (k:HJ I->Jle I b'') (J:HJ b):Jle b b'':=
 have d:=h J;have H:=k (d.ok J)
 ⟨λe=>⟨(H.hi (d.hi e).1).1,Int.le_trans (d.hi e).2 (H.hi (d.hi e).1).2⟩,λx M=>d.sub x (H.sub x M),λe=>H.ok (d.ok e)⟩
def Rm (J:HJ b) {h:Hd} {T:List Hd} (d:b.holds=h::T):xT b={b with holds:=T,begun:=ό,hi:=h.1,bits:=(wK b h.1).2}:=by
 have I:(wK b h.1).1=h.1:=by
  unfold wK;split
  ·rename_i H;rw[QD];have:=J.over H h (by rw[d];exact ϛ);omega
  ·rfl
 unfold xT;rw[d];simp only[I]
def Rl (I:HJ b):Jle b (xT b):=by
 cases hb:b.holds with
 | nil=>
  have e:xT b=b:=by unfold xT;rw[hb]
  rw[e];exact Jle.refl b
 | cons h T=>
  have H:=I.rise;rw[hb,I6] at H;rw[Rm I hb];refine⟨λe=>⟨rfl, ?_⟩,λk d=>by rw[hb];exact ϫ _ d,λ_=>⟨H.2,λ_ k d=>H.1 k d⟩⟩;have:=I.over e h (by rw[hb];exact ϛ);show b.hi<=h.1;omega
def OY: ∀(n:Nat) {b:Jb},HJ b->Jle b (Qr n b)
 | 0,b,_=>Jle.refl b
 | n+1,_,ok=>Jle.trans (λh=>Rl h) (λh=>OY n h) ok
structure EO (s:RmS):Prop where
 ord: ∀x l,qh s.lanes x=ϊ l->(EI l).Pairwise (SX s.pks)
 inn: ∀x l,qh s.lanes x=ϊ l-> ∀i∈EI l,(0<=i/\i<(s.pks.length:Int))/\ ∀t,qh s.strs (acP s.pks i).o=ϊ t->t.buf.begun=ό/\(acP s.pks i).num<=t.buf.hi
 held: ∀o t,qh s.strs o=ϊ t->HJ t.buf/\ ∀h∈t.buf.holds,(0<=h.2.2/\h.2.2<(s.pks.length:Int))/\(acP s.pks h.2.2).o=o/\(acP s.pks h.2.2).num=h.1
 org: ∀i:Int,0<=i/\i<(s.pks.length:Int)->(qh s.strs (acP s.pks i).o).isSome=ό
structure Sqr (s s':RmS):Prop where
 pks:s'.pks=s.pks
 strs: ∀o t',qh s'.strs o=ϊ t'-> ∃t,qh s.strs o=ϊ t/\(HJ t.buf->Jle t.buf t'.buf)
 has: ∀o,(qh s.strs o).isSome=ό->(qh s'.strs o).isSome=ό
 lanes: ∀x l',qh s'.lanes x=ϊ l'->EI l'=[]∨ ∃l,qh s.lanes x=ϊ l/\List.Sublist (EI l') (EI l)
def Sqr.refl (s:RmS):Sqr s s:=⟨rfl,λo t h=>⟨t,h,λ_=>Jle.refl _⟩,λ_ h=>h,λx l h=>ϕ ⟨l,h,Ϧ _⟩⟩
def Sqr.trans {s'':RmS} (h:Sqr s s') (k:Sqr s' s''):Sqr s s'':=by
 refine⟨k.pks.trans h.pks,λo t e=> ?_,λo e=>k.has o (h.has o e),λx l e=> ?_⟩
 ·obtain⟨t1,d,I⟩:=k.strs o t e;obtain⟨t2,H,J⟩:=h.strs o t1 d;exact⟨t2,H,λM=>Jle.trans J I M⟩
 ·rcases k.lanes x l e with d | ⟨l1,d,s1⟩
  ·exact ϑ d
  ·rcases h.lanes x l1 d with H | ⟨l2,H,s2⟩
   ·exact ϑ (List.sublist_nil.1 (by rw[<-H];exact s1))
   ·exact ϕ ⟨l2,H,s1.trans s2⟩
def Sqr.same (d:s'.strs=s.strs) (H:s'.lanes=s.lanes) (I:s'.pks=s.pks):Sqr s s':=
 ⟨I,λo t h=>⟨t,by rw[<-d];exact h,λ_=>Jle.refl _⟩,λo h=>by rw[d];exact h,λx l h=>ϕ ⟨l,by rw[<-H];exact h,Ϧ _⟩⟩
def Sqr.fold (d: ∀s a,Sqr s (f s a)): ∀(L:List α) (s:RmS),Sqr s (L.foldl f s)
 | [],s=>Sqr.refl s
 | a::L,s=>(d s a).trans (Sqr.fold d L (f s a))
def EO.by (h:EO s) (k:Sqr s s'):EO s':=by
 refine⟨λx l e=> ?_,λx l e i hi=> ?_,λo t e=> ?_,λi hi=> ?_⟩
 ·rw[k.pks];rcases k.lanes x l e with d | ⟨l1,d,s1⟩
  ·rw[d];exact List.Pairwise.nil
  ·exact(h.ord x l1 d).sublist s1
 ·rw[k.pks];rcases k.lanes x l e with d | ⟨l1,d,s1⟩
  ·rw[d] at hi;cases hi
  ·obtain⟨a,b⟩:=h.inn x l1 d i (s1.subset hi);refine⟨a,λt M=> ?_⟩;obtain⟨t1,H,j⟩:=k.strs _ t M;obtain⟨c,I⟩:=b t1 H;have j:=j (h.held _ t1 H).1;exact⟨(j.hi c).1,Int.le_trans I (j.hi c).2⟩
 ·obtain⟨t1,d,j⟩:=k.strs o t e;obtain⟨a,b⟩:=h.held o t1 d;have j:=j a;refine⟨j.ok a,λq J=> ?_⟩;rw[k.pks];exact b q (j.sub q J)
 ·rw[k.pks] at hi ⊢;exact k.has _ (h.org i hi)
def Sqr.lane {l l':LnS} (J:qh s.lanes x=ϊ l) (M:List.Sublist (EI l') (EI l)) (H:s'.lanes=qx s.lanes x l') (d:s'.strs=s.strs) (I:s'.pks=s.pks):Sqr s s':=by
 refine⟨I,λo t h=>⟨t,by rw[<-d];exact h,λ_=>Jle.refl _⟩,λo h=>by rw[d];exact h,λy m h=> ?_⟩;rw[H,qF] at h;split at h
 ·rename_i e;injection h with e4
  subst e4;subst e;exact ϕ ⟨l,J,M⟩
 ·exact ϕ ⟨m,h,Ϧ _⟩
def Sqr.str {o:Og} {t t':zu} (M:qh s.strs o=ϊ t) (J:HJ t.buf->Jle t.buf t'.buf) (d:s'.strs=qx s.strs o t') (H:s'.lanes=s.lanes) (I:s'.pks=s.pks):Sqr s s':=by
 refine⟨I,λq u h=> ?_,λq h=> ?_,λx l h=>ϕ ⟨l,by rw[<-H];exact h,Ϧ _⟩⟩
 ·rw[d,qF] at h;split at h
  ·rename_i e;injection h with e4
   subst e4;subst e;exact⟨t,M,J⟩
  ·exact⟨u,h,λ_=>Jle.refl _⟩
 ·rw[d,qF];split
  ·rfl
  ·exact h
def R7 (s:RmS) (o:Og):Sqr s (s.tick1 o):=by
 unfold RmS.tick1;cases ht:qh s.strs o with
 | none=>exact Sqr.refl s
 | some t=>
  simp only;split
  ·exact Sqr.str ht (t':={t with asks:=(vU s.cfg.space s.cfg.retry t.asks (s.wants o) s.clock).1}) (λ_=>Jle.refl _) rfl rfl rfl
  ·exact Sqr.str ht (t':={t with asks:=(vU s.cfg.space s.cfg.retry t.asks (s.wants o) s.clock).1}) (λ_=>Jle.refl _) rfl rfl rfl
def R9 (s:RmS) (x:Int):Sqr s (s.tell1 x):=by
 unfold RmS.tell1;cases qh s.tab.u x with
 | none=>exact Sqr.refl s
 | some sb=>
  simp only;split
  ·cases qh s.lanes x with
   | none=>exact Sqr.refl s
   | some l=>
    simp only;split
    ·cases ht:qh s.strs (sb.2.2,l.cur) with
     | none=>exact Sqr.refl s
     | some t=>exact Sqr.str ht (t':={t with askedOf:=ό}) (λ_=>Jle.refl _) rfl rfl rfl
    ·exact Sqr.refl s
  ·exact Sqr.refl s
def Ri (s:RmS) (b:List Int):Sqr s (s.tell b):=by
 unfold RmS.tell;split
 ·have d:Sqr s {s with cnt:={s.cnt with told:=s.cnt.told+1}}:=Sqr.same rfl rfl rfl;exact d.trans (Sqr.fold (f:=RmS.tellS) (λs H=>Sqr.fold (f:=RmS.tell1) R9 _ s) _ _)
 ·exact Sqr.same rfl rfl rfl
def RK (s:RmS) (x:Int):Sqr s (s.choose x):=by
 unfold RmS.choose;cases hl:qh s.lanes x with
 | none=>exact Sqr.refl s
 | some l=>exact Sqr.lane hl (OL l) rfl rfl rfl
def Rq (s:RmS) (x:Int):Sqr s (s.rewrite x):=by
 unfold RmS.rewrite;cases hl:qh s.lanes x with
 | none=>exact Sqr.refl s
 | some l=>exact Sqr.lane hl (Ow l) rfl rfl rfl
def OT (s:RmS) (x:Int) (acc:Bool):Sqr s (s.write x acc):=by
 unfold RmS.write;cases hl:qh s.lanes x with
 | none=>exact Sqr.refl s
 | some l=>exact Sqr.lane hl (Ot l acc) rfl rfl rfl
def RI (L:List Int): ∀s:RmS,(L.foldl RmS.drain1 s).pks=s.pks:=by
 induction L with
 | nil=>intro s;rfl
 | cons x L ih=>intro s;rw[A6,ih];rfl
def Oh (s:RmS) (o:Og):Sqr s (s.drainO o):=by
 unfold RmS.drainO;cases ht:qh s.strs o with
 | none=>exact Sqr.refl s
 | some t=>
  simp only;exact Sqr.str ht (t':={t with buf:=vP t.buf}) (λh=>OY _ h) (Qc _ _).2 (Qc _ _).1 (RI _ _)
def OZ (s:RmS) (w:Og):Sqr s (s.drain w):=by
 unfold RmS.drain;split
 ·exact Sqr.same rfl rfl rfl
 ·split
  ·exact Sqr.fold Oh _ s
  ·unfold RmS.drainL;cases hl:qh s.lanes w.2 with
   | none=>exact Sqr.refl s
   | some l=>exact Sqr.lane hl (OV l _) rfl rfl rfl
def Rn (s:RmS) (w:Og):Sqr s (s.endW w):=by
 unfold RmS.endW;split
 ·exact(OZ s w).trans (Sqr.same rfl rfl rfl)
 ·exact OZ s w
def NO (P:List AcS) (a:AcS) {i:Int} (h:0<=i/\i<(P.length:Int)):acP (P++[a]) i=acP P i:=by
 have d:i.toNat<P.length:=by omega
 unfold acP;rw[ϒ,ϒ,Θ d]
def Rd (P:List AcS) (a:AcS):acP (P++[a]) (P.length:Int)=a:=by
 unfold acP;rw[Ψ,ϒ,Γ (ϔ _),Nat.sub_self];rfl
def Tb (I:HJ b) (n H x:Int):HJ (jP b n H x).1/\(jP b n H x).1.begun=b.begun/\(jP b n H x).1.hi=b.hi/\ ∀h∈(jP b n H x).1.holds,h=(n,H,x)∨h∈b.holds:=by
 rcases Uz b n H x with ⟨h,_⟩ | ⟨h,M,J,_⟩
 ·rw[h];exact⟨I,rfl,rfl,λk d=>ϕ d⟩
 ·rw[h];refine⟨⟨ZU _ _ I.rise ((GF b n).1 M),λe k d=> ?_⟩,rfl,rfl,λk d=>(Xl _ _ _).1 d⟩;rcases(Xl _ _ _).1 d with rfl | d
  ·exact J e
  ·exact I.over e k d
def EO.accept (h:EO s) (o:Og) (p:Pk):EO (s.accept o p):=by
 unfold RmS.accept;cases ht:qh s.strs o with
 | none=>exact h
 | some t=>
  obtain⟨N,ae⟩:=h.held o t ht;obtain⟨ab,p2,ac,ad⟩:=Tb N (yV t p.sq) s.clock (s.pks.length:Int);have O: ∀H t',qh (qx s.strs o (Ye t p s.clock s.pks.length)) H=ϊ t'->(H=o/\t'=Ye t p s.clock s.pks.length)∨qh s.strs H=ϊ t':=λH t' e=>by
   rw[qF] at e;split at e
   ·rename_i d;injection e with I
    exact ϑ ⟨d,I.symm⟩
   ·exact ϕ e
  refine⟨λx l M=> ?_,λx l M i hi=> ?_,λH t' e=> ?_,λi hi=> ?_⟩
  ·refine List.Pairwise.imp_of_mem (λ{i j} hi N r=> ?_) (h.ord x l M);unfold SX;simp only;rw[NO _ _ (h.inn x l M i hi).1,NO _ _ (h.inn x l M j N).1];exact r
  ·obtain⟨a,b⟩:=h.inn x l M i hi;simp only;rw[NO _ _ a];refine⟨⟨a.1,by simp only[Ϗ,ϙ,ϧ];omega⟩,λt' e=> ?_⟩;rcases O _ t' e with ⟨d,I⟩ | d
   ·rw[I];obtain⟨c,Y⟩:=b t (by rw[d];exact ht);refine⟨?_, ?_⟩
    ·show (jP t.buf (yV t p.sq) s.clock (s.pks.length:Int)).1.begun=ό;rw[p2];exact c
    ·show _<=(jP t.buf (yV t p.sq) s.clock (s.pks.length:Int)).1.hi;rw[ac];exact Y
   ·exact b t' d
  ·have U: ∀q u,qh s.strs q=ϊ u-> ∀k∈u.buf.holds,(0<=k.2.2/\k.2.2<((s.pks++[(⟨o,yV t p.sq,p⟩:AcS)]).length:Int))/\(acP (s.pks++[⟨o,yV t p.sq,p⟩]) k.2.2).o=q/\(acP (s.pks++[⟨o,yV t p.sq,p⟩]) k.2.2).num=k.1:=λq u aa k J=>by
    obtain⟨a,b⟩:=(h.held q u aa).2 k J;rw[NO _ _ a];exact⟨⟨a.1,by simp only[Ϗ,ϙ,ϧ];omega⟩,b⟩
   rcases O H t' e with ⟨d,I⟩ | d
   ·rw[I,d];refine⟨ab,λk J=> ?_⟩;rcases ad k J with rfl | J
    ·simp only;rw[Rd];exact⟨⟨τ,by simp only[Ϗ,ϙ,ϧ];omega⟩,rfl,rfl⟩
    ·exact U o t ht k J
   ·exact⟨(h.held H t' d).1,U H t' d⟩
  ·simp only[Ϗ,ϙ,ϧ] at hi;simp only;rw[qF];by_cases e:i<(s.pks.length:Int)
   ·rw[NO _ _ ⟨hi.1,e⟩];split
    ·rfl
    ·exact h.org i ⟨hi.1,e⟩
   ·obtain rfl:i=(s.pks.length:Int):=by omega
    rw[Rd,ϐ rfl];rfl
def EO.puts (d:ItS) (L:List Int): ∀{s:RmS},L.Nodup->EO s->(0<=d.id/\d.id<(s.pks.length:Int))->(∀t,qh s.strs (acP s.pks d.id).o=ϊ t->t.buf.begun=ό/\(acP s.pks d.id).num<=t.buf.hi)->
  (∀x∈L,∀l,qh s.lanes x=ϊ l-> ∀j∈EI l,SX s.pks j d.id)->EO (L.foldl (RmS.put1 d) s):=by
 induction L with
 | nil=>intro s _ h _ _ _;exact h
 | cons x L ih=>
  intro s N h hi aa Y;rw[A6];rw[D1] at N;have af:EO (s.put1 d x)/\(s.put1 d x).pks=s.pks/\(s.put1 d x).strs=s.strs/\ ∀y,y≠x->qh (s.put1 d x).lanes y=qh s.lanes y:=by
   obtain⟨ag,ah⟩:=GY d x (s:=s);refine⟨?_,ah,ag,λy J=> ?_⟩
   ·unfold RmS.put1;split
    ·cases I:qh s.lanes x with
     | none=>exact h
     | some l=>
      have ae:(EI (xp l d).1).Pairwise (SX s.pks):=by
       refine T4 (Ra l d) ?_;rw[List.pairwise_append];exact⟨h.ord x l I,List.pairwise_singleton _ _,λa ab b U=>by rw[C0] at U;rw[U];exact Y x ϛ l I a ab⟩
      have key: ∀O,EO {s with lanes:=qx s.lanes x (xp l d).1,book:=O}:=λO=>by
       refine⟨λy m H=> ?_,λy m H i M=> ?_,h.held,h.org⟩
       ·simp only at H;rw[qF] at H;split at H
        ·injection H with e;rw[<-e];exact ae
        ·exact h.ord y m H
       ·simp only at H;rw[qF] at H;split at H
        ·injection H with e
         rw[<-e] at M;rcases ϯ.1 ((Ra l d).subset M) with a | a
         ·exact h.inn x l I i a
         ·rw[C0] at a;rw[a];exact⟨hi,aa⟩
        ·exact h.inn y m H i M
      simp only;split
      ·exact key _
      ·exact key _
    ·exact h
   ·unfold RmS.put1;split
    ·cases I:qh s.lanes x with
     | none=>rfl
     | some l=>simp only;split<;>simp only<;>rw[qF,ώ J]
    ·rfl
  obtain⟨s1,s2,ai,aj⟩:=af;refine ih N.2 s1 (by rw[s2];exact hi) (by rw[s2,ai];exact aa) λy J l I j ac=> ?_
  rw[s2];have ad:y≠x:=λe=>N.1 (by rw[<-e];exact J)
  rw[aj y ad] at I;exact Y y (ϫ _ J) l I j ac
def EO.order (h:EO s):EO s.order:=by
 unfold RmS.order;cases hy:s.ready with
 | none=>exact h
 | some o=>
  simp only;cases ht:qh s.strs o with
  | none=>exact h
  | some t=>
   simp only;have H:xa t.buf s.clock=ό:=by
    have:=S3 hy;unfold RmS.readyAt at this;rw[ht] at this;exact this
   cases hb:t.buf.holds with
   | nil=>unfold xa at H;rw[hb] at H;cases H
   | cons hd T=>
    obtain⟨M,O⟩:=h.held o t ht;obtain⟨ac,I,J⟩:=O hd (by rw[hb];exact ϛ);have ab:yD t.buf s.clock=(xT t.buf,hd.1,hd.2.2,ό):=by unfold yD;rw[hb];simp only[H,A7]
    have aa:=Rm M hb;unfold RmS.orderAt;rw[ab];simp only;have N:EO {s with strs:=qx s.strs o {t with buf:=xT t.buf}}:=h.by (Sqr.str ht (t':={t with buf:=xT t.buf}) (λad=>Rl ad) rfl rfl rfl);refine EO.puts (s.item o hd.2.2) subIds ζ N ac (λu d=> ?_) (λx _ l Y j U=> ?_)
    ·have e:(acP s.pks hd.2.2).o=o:=I;simp only at d;rw[show (s.item o hd.2.2).id=hd.2.2 from rfl,e,qF,ϐ rfl] at d;injection d with d
     rw[<-d];simp only;rw[aa];refine⟨rfl, ?_⟩;show (acP s.pks hd.2.2).num<=hd.1;rw[J];exact Q1 _
    ·obtain⟨a,b⟩:=h.inn x l Y j U;show j≠hd.2.2/\((acP s.pks j).o=(acP s.pks hd.2.2).o->(acP s.pks j).num<(acP s.pks hd.2.2).num);have key:(acP s.pks j).o=o->(acP s.pks j).num<hd.1:=λe=>by
      obtain⟨c,ae⟩:=b t (by rw[e];exact ht);have:=M.over c hd (by rw[hb];exact ϛ);omega
     refine⟨λe=> ?_,λe=> ?_⟩
     ·have:=key (by rw[e];exact I);rw[e,J] at this;omega
     ·rw[J];exact key (by rw[e];exact I)
def EO.publish (h:EO s) (N:Gm s) (O: ∀o t,qh s.strs o=ϊ t->o∈orgs) (p s0 s1 s2:Int):EO (s.publish p s0 s1 s2).1:=by
 unfold RmS.publish;split
 ·exact h
 ·split
  ·rename_i d;have J: ∀k,qh s.strs (p,k)=ϋ:=λk=>by
    cases H:qh s.strs (p,k) with
    | none=>rfl
    | some t=>
     have:=N.str p k (XD (O _ t H));rw[H] at this;unfold vA at d;split at d
     ·split at d
      ·simp at d
      ·split at d
       ·simp at d
       ·rename_i Y;exact ϩ this.symm Y
     ·simp at d
   have M: ∀o t,qh (qx (qx (qx s.strs (p,0) (uc s.cfg)) (p,1) (uc s.cfg)) (p,2) (uc s.cfg)) o=ϊ t->(t=uc s.cfg/\qh s.strs o=ϋ)∨qh s.strs o=ϊ t:=by
    intro o t a;rw[qF] at a;split at a
    ·rename_i I;injection a with e;exact ϑ ⟨e.symm,by rw[I];exact J _⟩
    ·rw[qF] at a;split at a
     ·rename_i I;injection a with e;exact ϑ ⟨e.symm,by rw[I];exact J _⟩
     ·rw[qF] at a;split at a
      ·rename_i I;injection a with e;exact ϑ ⟨e.symm,by rw[I];exact J _⟩
      ·exact ϕ a
   refine⟨h.ord,λx l U i hi=> ?_,λo t e=> ?_,λi hi=> ?_⟩
   ·obtain⟨a,b⟩:=h.inn x l U i hi;refine⟨a,λt e=> ?_⟩;rcases M _ t e with ⟨_,c⟩ | c
    ·have:=h.org i a;rw[c] at this;cases this
    ·exact b t c
   ·rcases M o t e with ⟨c,_⟩ | c
    ·rw[c];exact⟨⟨List.Pairwise.nil,λ_ k H=>by cases H⟩,λk H=>by cases H⟩
    ·exact h.held o t c
   ·have:=h.org i hi;simp only;rw[qF,qF,qF];split
    ·rfl
    ·split
     ·rfl
     ·split
      ·rfl
      ·exact this
  ·exact h
def Rg (s:RmS) {l:LnS} (d:qh s.lanes x=ϊ l) (k:Int) {T:TS}:Sqr s {s with tab:=T,lanes:=qx s.lanes x (jO l k).1}:=
 Sqr.lane d (by rw[OJ];exact Ϧ _) rfl rfl rfl
def EO.act (h:EO s) (I:qV n s) (a:A22):EO (doR s a).1:=by
 have J: ∀w acc,EO (s.stepW w acc):=λw acc=>by
  unfold RmS.stepW;split
  ·exact h.by (Rn s w)
  ·split
   ·unfold RmS.read;cases hq:s.queue with
    | nil=>exact h
    | cons b q=>
     simp only;have H:EO {s with queue:=q}:=h.by (Sqr.same rfl rfl rfl);split
     ·exact H.by (Ri _ b)
     ·unfold RmS.media;split
      ·cases qh ({s with queue:=q}:RmS).tab.o (jl b).1.sc with
       | none=>exact H.by (Sqr.same rfl rfl rfl)
       | some o=>exact H.accept o _
      ·exact H.by (Sqr.same rfl rfl rfl)
   ·split
    ·exact h.order
    ·split
     ·exact h.by (RK s _)
     ·split
      ·exact h.by (Rq s _)
      ·exact h.by (OT s _ _)
 unfold doR;split
 ·unfold RmS.arrive;split
  ·exact h
  ·split<;>exact h.by (Sqr.same rfl rfl rfl)
 ·split
  ·unfold RmS.pick;split
   ·exact J _ _
   ·exact h
  ·split
   ·unfold RmS.tick;split
    ·exact h
    ·have H:Sqr s {s with clock:=s.clock+1}:=Sqr.same rfl rfl rfl;exact h.by (H.trans (Sqr.fold (f:=RmS.tick1) R7 _ _))
   ·split
    ·exact h.publish I.tb I.ow.org _ _ _ _
    ·split
     ·unfold RmS.join;split
      ·exact h
      ·split
       ·refine h.by ⟨rfl,λo t e=>⟨t,e,λ_=>Jle.refl _⟩,λo e=>e,λy m d=> ?_⟩;simp only at d;rw[qF] at d;split at d
        ·injection d with e;rw[<-e];exact ϑ rfl
        ·exact ϕ ⟨m,d,Ϧ _⟩
       ·exact h
     ·split
      ·unfold RmS.subscribe;split
       ·exact h
       ·split
        ·exact h
        ·split
         ·exact h
         ·split
          ·cases hl:qh s.lanes a.sub with
           | none=>exact h
           | some l=>exact h.by (Rg s hl _)
          ·exact h
      ·split
       ·unfold RmS.want;split
        ·exact h
        ·split
         ·exact h
         ·split
          ·exact h
          ·cases hl:qh s.lanes a.sub with
           | none=>exact h
           | some l=>exact h.by (Rg s hl _ (T:=s.tab))
       ·split
        ·unfold RmS.leave;split
         ·exact h
         ·split
          ·refine h.by ⟨rfl,λo t e=>⟨t,e,λ_=>Jle.refl _⟩,λo e=>e,λy m d=> ?_⟩;simp only at d;rw[uR] at d;split at d
           ·cases d
           ·exact ϕ ⟨m,d,Ϧ _⟩
          ·exact h
        ·split
         ·unfold RmS.shut;split
          ·exact h
          ·exact h.by (Sqr.same rfl rfl rfl)
         ·exact h
def Sc (s:RmS) (x:Int):(s.tell1 x).lanes=s.lanes/\(s.tell1 x).pks=s.pks:=by
 unfold RmS.tell1;cases qh s.tab.u x with
 | none=>exact⟨rfl,rfl⟩
 | some sb=>
  simp only;split
  ·cases qh s.lanes x with
   | none=>exact⟨rfl,rfl⟩
   | some l=>
    simp only;split
    ·cases qh s.strs (sb.2.2,l.cur)<;>exact⟨rfl,rfl⟩
    ·exact⟨rfl,rfl⟩
  ·exact⟨rfl,rfl⟩
def NU (d: ∀s a,(f s a).lanes=s.lanes/\(f s a).pks=s.pks): ∀(L:List α) (s:RmS),(L.foldl f s).lanes=s.lanes/\(L.foldl f s).pks=s.pks
 | [],_=>⟨rfl,rfl⟩
 | a::L,s=>by
  rw[A6];exact⟨(NU d L _).1.trans (d s a).1,(NU d L _).2.trans (d s a).2⟩
def OI (s:RmS) (b:List Int):(s.tell b).lanes=s.lanes/\(s.tell b).pks=s.pks:=by
 unfold RmS.tell;split
 ·exact NU (f:=RmS.tellS) (λs d=>NU (f:=RmS.tell1) Sc _ s) _ _
 ·exact⟨rfl,rfl⟩
structure Pbr (s s':RmS):Prop where
 pks:s'.pks=s.pks
 tab:s'.tab.u=s.tab.u
 book: ∀k,qh s'.book k=ϊ 0->qh s.book k=ϊ 0
 lanes: ∀x l',qh s'.lanes x=ϊ l'-> ∃l,qh s.lanes x=ϊ l/\List.Sublist (EI l') (EI l)/\l'.gone=l.gone
def Pbr.refl (s:RmS):Pbr s s:=⟨rfl,rfl,λ_ h=>h,λx l h=>⟨l,h,Ϧ _,rfl⟩⟩
def Pbr.trans {s'':RmS} (h:Pbr s s') (k:Pbr s' s''):Pbr s s'':=by
 refine⟨k.pks.trans h.pks,k.tab.trans h.tab,λq e=>h.book q (k.book q e),λx l e=> ?_⟩;obtain⟨M,d,s1,I⟩:=k.lanes x l e;obtain⟨N,H,s2,J⟩:=h.lanes x M d;exact⟨N,H,s1.trans s2,I.trans J⟩
def Pbr.same (d:s'.pks=s.pks) (H:s'.tab.u=s.tab.u) (I:s'.book=s.book) (J:s'.lanes=s.lanes):Pbr s s':=
 ⟨d,H,λ_ h=>by rw[<-I];exact h,λx l h=>⟨l,by rw[<-J];exact h,Ϧ _,rfl⟩⟩
def Pbr.fold (d: ∀s a,Pbr s (f s a)): ∀(L:List α) (s:RmS),Pbr s (L.foldl f s)
 | [],s=>Pbr.refl s
 | a::L,s=>(d s a).trans (Pbr.fold d L (f s a))
def Sa (s:RmS) (x:Int):Pbr s (s.tell1 x):=by
 unfold RmS.tell1;cases qh s.tab.u x with
 | none=>exact Pbr.refl s
 | some sb=>
  simp only;split
  ·cases qh s.lanes x with
   | none=>exact Pbr.refl s
   | some l=>
    simp only;split
    ·cases qh s.strs (sb.2.2,l.cur) with
     | none=>exact Pbr.refl s
     | some t=>exact Pbr.same rfl rfl rfl rfl
    ·exact Pbr.refl s
  ·exact Pbr.refl s
def OH (s:RmS) (b:List Int):Pbr s (s.tell b):=by
 unfold RmS.tell;split
 ·have d:Pbr s {s with cnt:={s.cnt with told:=s.cnt.told+1}}:=Pbr.same rfl rfl rfl rfl;exact d.trans (Pbr.fold (f:=RmS.tellS) (λs H=>Pbr.fold (f:=RmS.tell1) Sa _ s) _ _)
 ·exact Pbr.same rfl rfl rfl rfl
def Rz (t:TS) (p s0 s1 s2:Int):(vA t p s0 s1 s2).1.u=t.u:=by
 unfold vA;split
 ·split
  ·rfl
  ·split
   ·rfl
   ·split<;>rfl
 ·rfl
def EF (s:RmS) (x:Int):Int:=match qh s.tab.u x with
 | some sb=>if sb.2.1 then sb.2.2 else -1
 | none=> -1
def EO.start (c:CfR):EO (ud c):=⟨λx l h=>(by cases h),λx l h=>(by cases h),λo t h=>(by cases h),λi hi=>(by have:=hi.2;simp[ud] at this;omega)⟩
def MR (jo:Int->Int) (a:A22) (e:Int):Int->Int:=λx=>if a.act=4/\e=0/\x=a.sub then a.own else jo x
def OE {l:LnS} (h:qh s.lanes x=ϊ l):s.ln x=l:=by unfold RmS.ln;rw[h];rfl
def SG (k:Loc s s') (x:Int) {l':LnS} (h:qh s'.lanes x=ϊ l'): ∃l,qh s.lanes x=ϊ l/\l'.gone=l.gone:=by
 have:=k.lanes x;rw[h] at this;cases hl:qh s.lanes x with
 | none=>rw[hl] at this;cases this
 | some l=>
  rw[hl] at this;simp only[C3,G8] at this;exact⟨l,rfl,ϵ Prod.fst this⟩
def Sg (s:RmS) (w:Og):s.drain w={s with queue:=[],cnt:={s.cnt with lost:=s.cnt.lost+s.queue.length}}∨Loc s (s.drain w):=by
 unfold RmS.drain;split
 ·exact ϑ rfl
 ·split
  ·exact ϕ (za vn _ s)
  ·exact ϕ (OM s w)
structure PkR (s s':RmS):Prop where
 tab: ∀x,(s'.ln x).gone=ύ->qh s'.tab.u x=qh s.tab.u x
 gone: ∀x l l',qh s.lanes x=ϊ l->qh s'.lanes x=ϊ l'->l.gone=ύ->l'.gone=ό->s'.pks=s.pks/\List.Sublist (EI l') (EI l)
def PkR.loc (k:Loc s s'):PkR s s':=⟨λx _=>by rw[k.tab],λx l l' I J M N=>by
 obtain⟨m,d,H⟩:=SG k x J;rw[I] at d;injection d with d
 rw[<-d,M,N] at H
 cases H⟩
def PkR.same (I:s'.tab=s.tab) (J:s'.lanes=s.lanes):PkR s s':=⟨λx _=>by rw[I],λx l l' M d N H=>by
 rw[J,M] at d;injection d with d
 rw[<-d,N] at H
 cases H⟩
def Rj (s:RmS) (w:Og) (acc:Bool):PkR s (s.stepW w acc):=by
 unfold RmS.stepW;split
 ·unfold RmS.endW;have N:PkR s (s.drain w):=by
   rcases Sg s w with e | e
   ·rw[e];exact PkR.same rfl rfl
   ·exact PkR.loc e
  split
  ·exact⟨N.tab,N.gone⟩
  ·exact N
 ·split
  ·unfold RmS.read;cases s.queue with
   | nil=>exact PkR.same rfl rfl
   | cons b q=>
    simp only;split
    ·have U:=OH {s with queue:=q} b
     exact⟨λx _=>by rw[U.tab],λx l l' H d M I=>by
      rw[(OI {s with queue:=q} b).1] at d;simp only at d;rw[H] at d;injection d with d
      rw[<-d,M] at I
      cases I⟩
    ·unfold RmS.media;split
     ·cases qh ({s with queue:=q}:RmS).tab.o (jl b).1.sc with
      | none=>exact PkR.same rfl rfl
      | some o=>
       simp only;unfold RmS.accept;cases qh ({s with queue:=q}:RmS).strs o with
       | none=>exact PkR.same rfl rfl
       | some t=>exact PkR.same rfl rfl
     ·exact PkR.same rfl rfl
  ·split
   ·exact PkR.loc (kr s)
   ·split
    ·exact PkR.loc (vu s _)
    ·split
     ·exact PkR.loc (yA s _)
     ·refine⟨λx J=> ?_,λx l l' H d M I=> ?_⟩
      ·unfold RmS.write at J ⊢;cases hl:qh s.lanes w.2 with
       | none=>rfl
       | some l=>
        rw[hl] at J;simp only at J ⊢;cases hg:(qX l acc).1.gone with
        | false=>simp only[Ϭ,C2]
        | true=>
         simp only[A7];have O:x≠w.2:=λe=>by
          rw[e,OE (xD _ _ _),hg] at J;cases J
         unfold zM;split
         ·split
          ·simp only;rw[qF,ώ O]
          ·rfl
         ·rfl
      ·unfold RmS.write at d ⊢;cases hl:qh s.lanes w.2 with
       | none=>rw[hl] at d;simp only at d;rw[H] at d;injection d with d;rw[<-d,M] at I;cases I
       | some m=>
        rw[hl] at d;simp only at d ⊢;rw[qF] at d;split at d
        ·rename_i e;injection d with d
         rw[e,hl] at H;injection H with H
         rw[<-d,<-H];exact⟨trivial,Ot m acc⟩
        ·rw[H] at d;injection d with d;rw[<-d,M] at I;cases I
def Ob (h:qh s'.tab.u x=qh s.tab.u x):EF s' x=EF s x:=by unfold EF;rw[h]
def Tq (ai:qV n s) (ag:(s.tab.u.map Prod.fst).Nodup) (a:A22) (x:Int) (Y:((doR s a).1.ln x).gone=ύ):
  EF (doR s a).1 x=if (doR s a).2.1=0/\a.act=5/\x=a.sub then a.pub else if (doR s a).2.1=0/\a.act=7/\x=a.sub then -1 else EF s x:=by
 by_cases h5:a.act=5
 ·have e:doR s a=((s.subscribe a.sub a.pub a.layer).1,(s.subscribe a.sub a.pub a.layer).2,ύ):=by unfold doR;simp[h5]
  rw[e];simp only;rw[ώ (c:=_/\a.act=7/\_) (λc=>by have:=c.2.1;omega)];by_cases d:(s.subscribe a.sub a.pub a.layer).2=0
  ·unfold RmS.subscribe at d ⊢;split at d
   ·simp at d
   ·rename_i U;rw[ώ U];split at d
    ·simp at d
    ·rename_i N;rw[ώ N];split at d
     ·simp at d
     ·rename_i M;rw[ώ M];split at d
      ·rename_i H;rw[ϐ H];have I:(0<=a.sub/\a.sub<6)/\(0<=a.pub/\a.pub<3):=by
        unfold vL at H;split at H
        ·assumption
        ·simp at H
       have O:(qh s.tab.u a.sub).isSome=ό/\(qh s.tab.s (a.pub,0)).isSome=ό:=by
        unfold vL at H;rw[ϐ I] at H;split at H
        ·assumption
        ·simp at H
       obtain⟨ad,af⟩:=ϥ.1 O.1;have ah:ad.2.1=ύ:=by
        unfold vL at H;rw[ϐ I,ϐ O,af] at H;simp only[ϣ] at H;split at H
        ·simp at H
        ·rename_i c;simpa using c
       have J:(vL s.tab a.sub a.pub).1.u=qx s.tab.u a.sub (ad.1,ό,a.pub):=by
        unfold vL;rw[ϐ I,ϐ O,af];simp only[ϣ];rw[ώ (by rw[ah];decide)]
       have ae:=ai.tb.lane a.sub;rw[O.1] at ae;obtain⟨l,aa⟩:=ϥ.1 ae.symm;rw[aa] at d ⊢;simp only at d ⊢;by_cases hxs:x=a.sub
       ·rw[ϐ ⟨d,h5,hxs⟩];unfold EF;simp only;rw[J,qF,ϐ hxs];rfl
       ·rw[ώ (λc=>hxs c.2.2)];refine Ob ?_;simp only;rw[J,qF,ώ hxs]
      ·rename_i H;exact ϩ d H
  ·rw[ώ (λc=>d c.1)];unfold RmS.subscribe at d ⊢;split at d
   ·rename_i U;rw[ϐ U]
   ·rename_i U;rw[ώ U];split at d
    ·rename_i N;rw[ϐ N]
    ·rename_i N;rw[ώ N];split at d
     ·rename_i M;rw[ϐ M]
     ·rename_i M;rw[ώ M];split at d
      ·rename_i H;rw[ϐ H];cases aa:qh s.lanes a.sub with
       | none=>rfl
       | some l=>
        exfalso;rw[aa] at d;apply d;simp only;unfold jO;rw[ώ N,ώ (by unfold JV at M;rw[aa] at M;exact M)]
      ·rename_i H;rw[ώ H]
 ·rw[ώ (λc=>h5 c.2.1)];by_cases h7:a.act=7
  ·have e:doR s a=((s.leave a.sub).1,(s.leave a.sub).2,ύ):=by unfold doR;simp[h7]
   rw[e];simp only;unfold RmS.leave;split
   ·rw[ώ (λc=>by have:=c.1;simp at this)]
   ·split
    ·rename_i d;have I:0<=a.sub/\a.sub<6:=by
      unfold zW at d;split at d
      ·assumption
      ·simp at d
     have O:(qh s.tab.u a.sub).isSome=ό:=by
      unfold zW at d;rw[ϐ I] at d;split at d
      ·assumption
      ·simp at d
     have J:(zW s.tab a.sub).1.u=yK s.tab.u a.sub:=by
      unfold zW;rw[ϐ I,ϐ O]
     by_cases hxs:x=a.sub
     ·rw[ϐ ⟨rfl,h7,hxs⟩];unfold EF;simp only;rw[J,gD ag,ϐ hxs]
     ·rw[ώ (λc=>hxs c.2.2)];refine Ob ?_;simp only;rw[J,gD ag,ώ hxs]
    ·rename_i d;rw[ώ (λc=>d c.1)]
  ·rw[ώ (λc=>h7 c.2.1)];by_cases h1:a.act=1
   ·rw[Xn a h1] at Y ⊢;refine Ob ?_;unfold RmS.pick at Y ⊢;split at Y
    ·rename_i ab;rw[ϐ ab];exact(Rj s a.w a.acc).tab x Y
    ·rename_i ab;rw[ώ ab]
   ·by_cases h4:a.act=4
    ·have e:doR s a=((s.join a.sub a.own a.seq a.stamp).1,(s.join a.sub a.own a.seq a.stamp).2,ύ):=by unfold doR;simp[h4]
     rw[e];simp only;unfold RmS.join;split
     ·rfl
     ·split
      ·rename_i d;have I:0<=a.sub/\a.sub<6:=by
        unfold yI at d;split at d
        ·assumption
        ·simp at d
       have ac:(qh s.tab.u a.sub).isSome=ύ:=by
        unfold yI at d;rw[ϐ I] at d;split at d
        ·simp at d
        ·rename_i c;simpa using c
       have J:(yI s.tab a.sub a.own).1.u=qx s.tab.u a.sub (a.own,ύ,0):=by
        unfold yI;rw[ϐ I,ώ (by rw[ac];decide)]
       by_cases hxs:x=a.sub
       ·unfold EF;simp only;rw[J,qF,ϐ hxs,hxs];cases hb:qh s.tab.u a.sub with
        | none=>rfl
        | some ad=>rw[hb] at ac;cases ac
       ·refine Ob ?_;simp only;rw[J,qF,ώ hxs]
      ·rfl
    ·refine Ob ?_;unfold doR;split
     ·unfold RmS.arrive;split
      ·rfl
      ·split<;>rfl
     ·split
      ·unfold RmS.tick;split
       ·rfl
       ·exact ϵ (λt:TS=>qh t.u x) (ur s.origins {s with clock:=s.clock+1}).tab
      ·split
       ·unfold RmS.publish;split
        ·rfl
        ·split
         ·simp only;rw[Rz]
         ·rfl
       ·split
        ·unfold RmS.want;split
         ·rfl
         ·split
          ·rfl
          ·split
           ·rfl
           ·cases qh s.lanes a.sub<;>rfl
        ·split
         ·unfold RmS.shut;split<;>rfl
         ·rfl
def NX (sf:Og->Option Int) (a:A22) (e:Int):Og->Option Int:=λo=>if e=0/\a.act=3 then (if o=(a.pub,2) then ϊ a.s2 else if o=(a.pub,1) then ϊ a.s1 else if o=(a.pub,0) then ϊ a.s0 else sf o) else sf o
def NY (pu:Int->Int) (a:A22) (e:Int) (s':RmS):Int->Int:=λx=>
 if (s'.ln x).gone then -1 else if e=0/\a.act=5/\x=a.sub then a.pub else if e=0/\a.act=7/\x=a.sub then -1 else pu x
def Rk (I:qV n s) (M:(s.tab.u.map Prod.fst).Nodup) (a:A22) (J:qV (n+1) (doR s a).1) (x:Int):NY (EF s) a (doR s a).2.1 (doR s a).1 x=EF (doR s a).1 x:=by
 unfold NY;cases hg:((doR s a).1.ln x).gone with
 | false=>simp only[Ϭ,C2];exact(Tq I M a x hg).symm
 | true=>
  rw[ϐ rfl];unfold EF;cases hb:qh (doR s a).1.tab.u x with
  | none=>rfl
  | some sb=>
   simp only;cases hs:sb.2.1 with
   | false=>rfl
   | true=>
    obtain⟨l,d,H,_⟩:=J.tb.act x sb hb hs;rw[OE d,H] at hg;cases hg
def qa1 (p q:Nat->Bool) (i:Nat) (d:p i=ύ) (H:q i=ό) (h: ∀j,j≠i->q j=p j): ∀n,(List.range n).countP q=(List.range n).countP p+if i<n then 1 else 0
 | 0=>by simp
 | n+1=>by
  rw[I0,List.countP_append,List.countP_append,qa1 p q i d H h n,List.countP_singleton,List.countP_singleton];by_cases c:n=i
  ·subst c;rw[d,H];simp
  ·rw[h n c];have:(i<n+1)↔(i<n):=by omega
   simp only[this];omega
def qaG {H:Int} (N:x∈subIds) (I:H≠ -1):x∈prR (j8 H) s.tab.u↔EF s x=H:=by
 rw[mem_prR];unfold EF j8;constructor
 ·rintro⟨_,J,M,d⟩;rw[B4] at d;rw[M];simp only;rw[ϐ d.1];exact Ϛ d.2
 ·intro h;refine⟨N, ?_⟩;cases hu:qh s.tab.u x with
  | none=>rw[hu] at h;exact(I h.symm).elim
  | some J=>
   rw[hu] at h;simp only at h;refine⟨J,rfl, ?_⟩;split at h
   ·rename_i c;rw[c,h];simp
   ·exact(I h.symm).elim
structure qaK (s:RmS):Prop where
 nd:(s.book.map Prod.fst).Nodup
 rng: ∀k v,qh s.book k=ϊ v->0<=v/\v<=8
def qaK.act (h:qaK s) (M:OwO s) (a:A22):qaK (doR s a).1:=by
 rcases qaI M a with d | d
 ·obtain⟨e,I,_⟩:=d.ex;exact⟨by rw[I.keys];exact h.nd,I.rng h.rng⟩
 ·obtain⟨_,f,_,N,J⟩:=d.ex;refine⟨d.nd h.nd,λk v H=> ?_⟩;rw[J] at H;split at H
  ·injection H with H;omega
  ·exact h.rng k v H
def vf (s s':RmS) (x i:Int):Int:=if i<(s.pks.length:Int) then (qh s.book (x,i)).getD (-1) else if EF s x=(acP s'.pks i).o.1 then 0 else -1
def qa3 (s':RmS) (x i:Int):Int:=(qh s'.book (x,i)).getD (-1)
def qbm (h:qaK s) (Y:OwO s) (a:A22) (x i:Int) (af:x∈subIds) (hi:0<=i/\i<((doR s a).1.pks.length:Int)) (ak: ∀b∈(doR s a).1.pks,b.o.1≠ -1):
  (qh (doR s a).1.book (x,i)).isSome=decide (0<=vf s (doR s a).1 x i)/\(0<vf s (doR s a).1 x i->(qh (doR s a).1.book (x,i)).getD 0=vf s (doR s a).1 x i)/\0<=(qh (doR s a).1.book (x,i)).getD 0/\(qh (doR s a).1.book (x,i)).getD 0<=8:=by
 have ah:=(h.act Y a).rng;have N:0<=(qh (doR s a).1.book (x,i)).getD 0/\(qh (doR s a).1.book (x,i)).getD 0<=8:=by
  cases H:qh (doR s a).1.book (x,i) with
  | none=>decide
  | some v=>exact ah _ v H
 have ag: ∀(I:i<(s.pks.length:Int)) (ad:(qh (doR s a).1.book (x,i)).isSome=(qh s.book (x,i)).isSome) (ab: ∀v,qh s.book (x,i)=ϊ v->v≠0->qh (doR s a).1.book (x,i)=ϊ v),(qh (doR s a).1.book (x,i)).isSome=decide (0<=vf s (doR s a).1 x i)/\(0<vf s (doR s a).1 x i->(qh (doR s a).1.book (x,i)).getD 0=vf s (doR s a).1 x i):=λI ad ab=>by
  unfold vf;rw[ϐ I,ad];cases H:qh s.book (x,i) with
  | none=>simp
  | some v=>
   have:=h.rng _ v H;simp only[N1,ϣ];refine⟨(Ϫ this.1).symm,λJ=> ?_⟩;rw[ab v H τ];rfl
 rcases qaI Y a with d | d
 ·obtain⟨e,H,_⟩:=d.ex;obtain⟨O,U⟩:=ag (by rw[d.pks] at hi;exact hi.2) (H.is _) (H.fix _);exact⟨O,U,N⟩
 ·obtain⟨b,f,M,al,ae⟩:=d.ex;by_cases I:i<(s.pks.length:Int)
  ·have e:qh (doR s a).1.book (x,i)=qh s.book (x,i):=by rw[ae,ώ (λc=>by have:=c.1;simp only at this;omega)]
   obtain⟨O,U⟩:=ag I (by rw[e]) (λv J _=>by rw[e];exact J);exact⟨O,U,N⟩
  ·have ac:i=(s.pks.length:Int):=by
    rw[M,Ϗ,C9] at hi;omega
   have ai:acP (doR s a).1.pks i=b:=by rw[M,ac];exact Rd _ _
   have aa:b.o.1≠ -1:=ak b (by rw[M];simp);have aj:qh s.book (x,i)=ϋ:=by
    cases H:qh s.book (x,i) with
    | none=>rfl
    | some v=>have:=(Y.bel x i v H).2;omega
   refine⟨?_, ?_,N⟩
   ·unfold vf;rw[ώ I,ai,ae];by_cases c:EF s x=b.o.1
    ·rw[ϐ ⟨ac,(qaG af aa).2 c⟩,ϐ c];rfl
    ·rw[ώ (λq=>c ((qaG af aa).1 q.2)),ώ c,aj];rfl
   ·intro J;unfold vf at J;rw[ώ I] at J;split at J<;>omega
def qby (M:OwO s) (a:A22) (x:Int) (J:x∈subIds) (U:s.pks.length<(doR s a).1.pks.length) (aa: ∀b∈(doR s a).1.pks,b.o.1≠ -1):
  (doR s a).1.pks.length=s.pks.length+1/\(qh (doR s a).1.book (x,(s.pks.length:Int))).isSome=decide (EF s x=(acP (doR s a).1.pks (s.pks.length:Int)).o.1):=by
 rcases qaI M a with d | d
 ·rw[d.pks] at U;omega
 ·obtain⟨b,f,H,ab,O⟩:=d.ex;refine⟨by rw[H,Ϗ,C9], ?_⟩;have N:acP (doR s a).1.pks (s.pks.length:Int)=b:=by rw[H];exact Rd _ _
  have I:b.o.1≠ -1:=aa b (by rw[H];simp);have Y:qh s.book (x,(s.pks.length:Int))=ϋ:=by
   cases hb:qh s.book (x,(s.pks.length:Int)) with
   | none=>rfl
   | some v=>have:=(M.bel x _ v hb).2;omega
  rw[N,O];by_cases c:EF s x=b.o.1
  ·rw[ϐ ⟨rfl,(qaG J I).2 c⟩];simp[c]
  ·rw[ώ (λq=>c ((qaG J I).1 q.2)),Y];simp[c]
def qbl (I:OwO s) (a:A22):(doR s a).1.pks.length=s.pks.length∨(doR s a).1.pks.length=s.pks.length+1:=by
 rcases qaI I a with d | d
 ·exact ϑ (by rw[d.pks])
 ·obtain⟨b,f,H,_⟩:=d.ex;exact ϕ (by rw[H,Ϗ,C9])
def qaQ (h:qaK s) (d:OwO s) (x:Int) (f:Nat):zL x f s.book=(((List.range s.pks.length).countP λi:Nat=>decide (qh s.book (x,(i:Int))=ϊ (f:Int)):Nat):Int):=qa2 x f _ _ h.nd (d.bel x)
def qbk (h:qaK s) (I:OwO s) (a:A22) (af:OwO (doR s a).1) (x:Int):
  zL x 1 (doR s a).1.book=zL x 1 s.book+(if (s.ln x).W.length<((doR s a).1.ln x).W.length then (((doR s a).1.ln x).W.length:Int)-(s.ln x).W.length else 0)/\
  ((s.ln x).W.length<((doR s a).1.ln x).W.length-> ∃o,((doR s a).1.ln x).W=(s.ln x).W++[o]/\qh (doR s a).1.book (x,o.1)=ϊ 1):=by
 have c1:=qaQ h I x 1;have c2:=qaQ (h.act I a) af x 1;rcases qaI I a with d | d
 ·obtain⟨e,H,ae⟩:=d.ex;obtain⟨w1,w2⟩:=ae x;by_cases c: ∃i,e=ϊ (x,i)
  ·obtain⟨i,hi⟩:=c;obtain⟨o,M,ab⟩:=w1 i hi;obtain⟨U,n2⟩:=H.new _ hi;have O:=I.bel x i 0 U;have ai:((doR s a).1.ln x).W.length=(s.ln x).W.length+1:=by rw[M,Ϗ,C9]
   have key:=qa1 (λj:Nat=>decide (qh s.book (x,(j:Int))=ϊ ((1:Nat):Int))) (λj:Nat=>decide (qh (doR s a).1.book (x,(j:Int))=ϊ ((1:Nat):Int))) i.toNat (by
    rw[W5 O.1,U];rfl) (by rw[W5 O.1,n2];rfl) (λj J=>by
    have ac:e≠ϊ (x,(j:Int)):=λq=>J (by
     rw[hi] at q;injection q with q
     injection q with q1 q2
     omega)
    have:qh (doR s a).1.book (x,(j:Int))=ϊ ((1:Nat):Int)↔qh s.book (x,(j:Int))=ϊ ((1:Nat):Int):=⟨λq=>(H.sent _ q).elim id (λq=>(ac q).elim),λq=>H.fix _ _ q ζ⟩
    exact decide_eq_decide.2 this) (doR s a).1.pks.length
   rw[ϐ (by rw[d.pks];omega)] at key;rw[ϐ τ];refine⟨?_,λ_=>⟨o,M,by rw[ab];exact n2⟩⟩;rw[c2,key,c1,d.pks];omega
  ·have ah:=w2 (λi hi=>c ⟨i,hi⟩);rw[ώ τ];refine⟨?_,λq=>by omega⟩;rw[c2,c1,d.pks,Int.add_zero]
   congr 2
   funext j
   exact decide_eq_decide.2 ⟨λq=>(H.sent _ q).elim id (λq=>(c ⟨_,q⟩).elim),λq=>H.fix _ _ q ζ⟩
 ·obtain⟨b,f,ad,ag,N⟩:=d.ex;have e:(doR s a).1.ln x=s.ln x:=by unfold RmS.ln;rw[d.lanes]
  rw[e,ώ τ];refine⟨?_,λq=>by omega⟩;rw[c2,c1,ad,Ϗ,C9,I0,List.countP_append,List.countP_singleton,Int.add_zero];have Y:(List.range s.pks.length).countP (λi:Nat=>decide (qh (doR s a).1.book (x,(i:Int))=ϊ ((1:Nat):Int)))=(List.range s.pks.length).countP (λi:Nat=>decide (qh s.book (x,(i:Int))=ϊ ((1:Nat):Int))):=by
   refine List.countP_congr λj J=> ?_
   rw[F3] at J;rw[N,ώ (λc=>by have:=c.1;simp only at this;omega)]
  have aa:qh (doR s a).1.book (x,((s.pks.length:Nat):Int))≠ϊ ((1:Nat):Int):=λq=>by
   rw[N] at q;split at q
   ·injection q with q;omega
   ·have:=(I.bel x _ _ q).2;omega
  rw[Y,ώ (by simpa using aa)];rfl
def qaK.start (c:CfR):qaK (ud c):=⟨N4,λk v h=>by cases h⟩
def Lf (h:RmX T w0 w k vp vr s F) {b:List Int} {J:Nat} (av:SlI .u8 w (δ I b.length J) b) (N:Byt b) (ah:b≠[]-> ∀g,(δ I b.length J).ownBlock=ϊ g->T g= .data/\g<w.heap.size):
  Calls prog 83 #[γ k.RQ,δ I b.length J] w λe w'=> ∃vx,e= .returned (.tuple #[vx,(!decide (s.queue.length<s.cfg.room.toNat)),ι 0])/\
   qI w0 w' k {s with queue:=if s.queue.length<s.cfg.room.toNat then s.queue++[b] else s.queue.tail++[b]} F/\qw F w w'/\jt (RgB k.RQ k.AQ) w w':=by
 obtain⟨f,Q,af,ag,ad,ae,css,g,a⟩:=h.que;obtain⟨t1,t2,_⟩:=h.all .queue;have ai:=g.fits;have aj:=a.len;have key: ∀{w':World} {D:Nat->Prop},jt (RgB k.RQ k.AQ) w w'->(∀c,D c->T c≠ .data∨w.heap.size<=c)->jw RBy D w' [δ I b.length J] b:=by
  intro w' D d H w'' al
  have s1:=av.off2 (D:=RgB k.RQ k.AQ) (λab c aa ac=>by
   have:=(ah ab c aa).1;rcases ac with rfl | rfl
   ·rw[t1] at this;cases this
   ·rw[t2] at this;cases this) d
  refine⟨_,rfl,s1.off2 (D:=D) (λab c aa ac=> ?_) al,N⟩;obtain⟨ap,aw⟩:=ah ab c aa;rcases H c ac with q | q
  ·exact q ap
  ·omega
 have ak: ∀{w':World} {D:Nat->Prop} {M:List (List Value)} {q':List (List Int)},zb (jw RBy (λb=>T b≠ .data) w) M q'->jt (RgB k.RQ k.AQ) w w'->(∀c,D c->T c≠ .data∨w.heap.size<=c)->zb (jw RBy D w') M q':=by
  intro w' D M q' a d H;have am:jt (λb=>T b≠ .data) w w':=d.mono λb N=>by
   rcases N with rfl | rfl
   ·rw[t1];simp
   ·rw[t2];simp
  exact a.mono λc y aq=>(aq.step am).other λb N=>(H b N).elim ϑ (λx=>ϑ (by rw[h.fresh b x];simp))
 by_cases hq:s.queue.length<s.cfg.room.toNat
 ·rw[ϐ hq,Ϫ hq];refine(UB w _ _ _ f Q af ag ad ae css g τ I _ J).mono ?_;rintro e w' ⟨rfl,⟨ao,an,g'⟩,d⟩;obtain⟨U,Y⟩:=h.ring (q:=s.queue++[b]) d (λD H=>⟨_,_,_,_,_,_,_,g',(ak a d H).snoc (key d H)⟩);exact⟨_,rfl,U,Y,d⟩
 ·rw[ώ hq,Ϩ hq];have O:Q.length=s.cfg.room.toNat:=by omega
  have ax:=g.pos
  match hQ:Q,a,O,g,aj,ai with
  | [],_,O,_,_,_=>simp at O;omega
  | c::M,a,O,g,aj,ai=>
   cases hs:s.queue with
   | nil=>rw[hs] at a;exact a.elim
   | cons b0 q0=>
    rw[hs] at a;obtain⟨v,rfl,⟨ar,au,rfl,_⟩,_⟩:=a.1.read;refine(UC w _ _ _ f ar _ au M af ag ad ae css g O I _ J).mono ?_;rintro e w' ⟨rfl,⟨ao,an,g'⟩,d⟩;obtain⟨U,Y⟩:=h.ring (q:=q0++[b]) d (λD H=>⟨_,_,_,_,_,_,_,g',(ak a.2 d H).snoc (key d H)⟩);exact⟨_,rfl,by rw[U2];exact U,Y,d⟩
def Gf (aH:qI w0 w k s F) (b:List Int) (v:Value) (av:SlI .u8 w v b) (ao:Byt b) (ap:b.length<=1000000) (aI:0<=s.cnt.lost/\s.cnt.lost<=1000000000):
  Calls prog 33 #[γ k.R,v] w λe w'=>e= .returned (ι (s.arrive b).2)/\qI w0 w' k (s.arrive b).1 F/\qw F w w':=by
 obtain⟨T,vp,aS,h⟩:=aH;have d:=κ h;have aF:=β7 h.blk;obtain⟨aG,ab⟩:=ν (s.closed);rw[ab] at aF;have ag:=κ ab;clear ab h;cases aG with
 | true=>
  have I:Hid (s.arrive b=(s,7)):=κ (by unfold RmS.arrive;rw[ϐ ag.o]);rw[I.o]
  go_enter func33,ntmps33
  go_wp2;go_ret;exact⟨rfl,d.o.at,qw.refl _ _⟩
 | false=>
  obtain⟨ak,ac⟩:=ν ((!decide (s.queue.length<s.cfg.room.toNat)));obtain⟨M,ad⟩:=ν ((if s.queue.length<s.cfg.room.toNat then s.queue++[b] else s.queue.tail++[b]))
  have I:Hid (s.arrive b=if ak then ({s with queue:=M,cnt:={s.cnt with lost:=s.cnt.lost+1}},0) else ({s with queue:=M},0)):=κ (by
   have aP:=d.o.que.fit;rw[<-ac,<-ad];unfold RmS.arrive;rw[ώ (by rw[ag.o];decide)];by_cases hc:s.queue.length<s.cfg.room.toNat
   ·rw[ϐ τ,Ϫ hc,ϐ hc];rfl
   ·rw[ώ τ,Ϩ hc,ώ hc]
    rfl)
  have aB:=κ (wQ v b (w.drewN 1) (av.keep (ql.drewN w 1)) ap);have aA:=κ ao;have aC:=κ d.o.fresh;have aJ: ¬RgB k.RQ k.AQ k.R:=by
   obtain⟨au,M,_⟩:=d.o.all .queue;rintro(e | e)
   ·rw[<-e,(d.o.all .room).1] at au;cases au
   ·rw[<-e,(d.o.all .room).1] at M;cases M
  have ay:=λ(x:qz (RgB k.RQ k.AQ) w)=>β10 (x.h.blk d.o.blk aJ)
  obtain⟨aQ,aR⟩:=aI;have aD:Hid ((b.length:Int)<=9223372036854775807):=κ τ;clear av ao ap
  go_enter func33,ntmps33
  go_upto_region 3 with fail
  refine QN (RgB k.RQ k.AQ) w 14 14 [5,6] ?_
  refine Qs5 ?_
  (refine Ql ?_;intro K J)
  (with_reducible refine aB.o.mono ?_)
  rintro e w5 ⟨⟨v5,rfl,O⟩,ar⟩;have N:Hid (ql w w5):=κ ((ql.drewN w 1).trans ar);have aa:=κ (SlI.of_owns O aD.o);have az:Hid (∀g,v5.ownBlock=ϊ g->w.heap.size<=g):=κ (λg H=>jS O H);obtain⟨aK,aL,rfl⟩:=xl O;clear O ar;refine⟨_,rfl,qi (jt.of_more N.o),J _ _ ?_⟩;clear J K ay
  obtain⟨aM,ax,an,_⟩:=(d.o.on N.o).data (λg=>b≠[]/\(δ aK b.length aL).ownBlock=ϊ g) (λg H=>by
   have al:w.heap.size<=g:=az.o g H.2
   exact⟨aC.o g al,Ϙ d.o.more.size al,aa.o.old H.1 H.2,λhF=>by have:=(d.o.law g hF).2.2;omega⟩)
  have ah:=κ (Lf ax aa.o aA.o (λaq g H=>⟨an g ⟨aq,H⟩,aa.o.old aq H⟩));rw[ac,ad] at ah;have aE:=κ (d.o.at.stay N.o);clear ax an ac ad
  (refine Ql ?_;intro K J)
  (with_reducible refine ah.o.mono ?_)
  rintro e w6 ⟨aT,rfl,am,aw,aj⟩;have Y:=κ am;have ai:=κ (aE.o.trans aw);have ae:Hid (jt (RgB k.RQ k.AQ) w w6):=κ ((jt.of_more N.o).trans aj);clear am aw aj;refine⟨_,rfl,qi ae.o,J _ _ ?_⟩;clear J K
  iterate 7 (refine qE rfl rfl (qi ae.o) ?_;intro K J;go_big_quiet_op;go_big_quiet_on)
  refine qA ?_;obtain⟨_,_,U⟩:=Y.o.blk;have aN:=β16 U;have aO:=yw U 16;clear U;cases ak with
  | false=>
   go_wp2;go_ret;exact⟨by rw[I.o];rfl,by rw[I.o];exact Y.o,ai.o⟩
  | true=>
   have af:=κ (Y.o.cell 16 (ι (s.cnt.lost+1)) (s':={s with queue:=M,cnt:={s.cnt with lost:=s.cnt.lost+1}}) (λ_ _=>rfl) ⟨rfl,rfl,rfl,rfl,rfl,rfl,rfl,rfl,rfl⟩);go_wp2;go_ret;exact⟨by rw[I.o];rfl,by rw[I.o];exact af.o.1,ai.o.trans af.o.2⟩
end Go.Proofs.YtlmllmonabafjaaGreatDoor
