/- Contracts of the functions that the law reaches, and plain laws; no conditions but those written at each. -/
import Derived.Test.YtdgippmmaponfaaGreatMg23
import Derived.ChangeKeysEq
namespace Go.Proofs.YtdgippmmaponfaaGreat
open Go.Value renaming bool->μ,slice->δ,pointer->π,agg->θ
open Go.IntKind renaming i64->ι,u8->υ,u16->φ,u32->ω,i32->χ,u64->ψ
open _root_.Go.Proofs.Tryz
set_option linter.unusedSimpArgs false
set_option maxHeartbeats 8000000
set_option linter.unusedVariables false
open Go.RowKit
set_option maxRecDepth 100000
section
variable {w0 w w':World} {k:RmK} {s:RmS} {F:List Nat}
theorem RDo {n:Nat} (ao:qI w0 w k s F) (ak:qV n s) (al:n<=1000) (a:A22) (am:Option Addr) (aj:Nat) (ap:SlI .u8 w (δ am a.b.length aj) a.b) (O:Byt a.b) (aa:a.b.length<=400) (Y:U16 a.seq) (U:U32 a.own):
  Calls prog 9 #[γ k.R,θ #[ι a.act,ι a.sub,ι a.pub,ι a.layer,δ am a.b.length aj,ι a.w.1,ι a.w.2,a.acc,ω a.own,ω a.stamp,φ a.seq,ω a.s0,ω a.s1,ω a.s2]] w λe w'=>
   ∃k',k'.R=k.R/\e= .returned (.tuple #[ι (doR s a).2.1,μ (doR s a).2.2])/\qI w0 w' k' (doR s a).1 F/\qw F w w':=by
 obtain⟨act,sub,pub,layer,b,⟨w1,w2⟩,acc,own,stamp,seq,s0,s1,s2⟩:=a;simp only at ap O aa Y U ⊢;obtain⟨W1,G⟩:=ν (w.alloc (.cells #[ι act,ι sub,ι pub,ι layer,δ am b.length aj,ι w1,ι w2,acc,ω own,ω stamp,φ seq,ω s0,ω s1,ω s2] 41));have an:Hid (qa w W1):=κ (by rw[<-G];exact qa.alloc _ _);have N:Hid (W1.heap[w.heap.size]? =some (.cells #[ι act,ι sub,ι pub,ι layer,δ am b.length aj,ι w1,ι w2,acc,ω own,ω stamp,φ seq,ω s0,ω s1,ω s2] 41 (0,0))):=κ (by rw[<-G];exact qj w _);have ab:=κ (ao.on an.o);have ac:=κ (ao.stay an.o);have ag:=κ ak;have aq:=κ (ap.keep an.o);have ae:=ak.num.lost;have ad:=ak.num.book;have au:=β0 N.o;have c1:=β1 N.o;have c2:=β2 N.o;have c3:=β3 N.o;have az:=β4 N.o;have aA:=β5 N.o;have aB:=β6 N.o;have aC:=β7 N.o;have aD:=β8 N.o;have aE:=β9 N.o;have av:=β10 N.o;have aw:=β11 N.o;have ax:=β12 N.o;have ay:=β13 N.o;have ar:act=0∨act=1∨act=2∨act=3∨act=4∨act=5∨act=6∨act=7∨act=8∨ ¬(0<=act/\act<=8):=by omega
 clear ao ak ap;rcases ar with rfl | rfl | rfl | rfl | rfl | rfl | rfl | rfl | rfl | hno
 ·have J:=κ (Gf ab.o b _ aq.o O τ τ);have H:Hid (doR s ⟨0,sub,pub,layer,b,(w1,w2),acc,own,stamp,seq,s0,s1,s2⟩=((s.arrive b).1,(s.arrive b).2,false)):=κ rfl;rw[H.o];clear ae ad O aa Y U
  go_enter func9,ntmps9
  go_upto_region 1 with fail
  (try rw[G])
  clear G
  go_wp2_with (go_at_call 28;(go_call J.o as e af ⟨rfl,d,t2⟩;have I:=κ d;have M:=κ t2;clear d t2))
  go_ret2
  exact⟨k,rfl,rfl,I.o,ac.o.trans M.o⟩
 ·have J:=κ (Hq ab.o ag.o al w1 w2 acc);have H:Hid (doR s ⟨1,sub,pub,layer,b,(w1,w2),acc,own,stamp,seq,s0,s1,s2⟩=((s.pick (w1,w2) acc).1,0,(s.pick (w1,w2) acc).2)):=κ rfl;rw[H.o];clear ae ad O aa Y U
  go_enter func9,ntmps9
  go_upto_region 1 with fail
  (try rw[G])
  clear G
  go_wp2_with (go_at_call 30;(go_call J.o as e af ⟨rfl,d,t2⟩;have I:=κ d;have M:=κ t2;clear d t2))
  go_ret2
  exact⟨k,rfl,rfl,I.o,ac.o.trans M.o⟩
 ·have J:=κ (Hn ab.o ag.o al);have H:Hid (doR s ⟨2,sub,pub,layer,b,(w1,w2),acc,own,stamp,seq,s0,s1,s2⟩=(s.tick.1,s.tick.2,false)):=κ rfl;rw[H.o];clear ae ad O aa Y U
  go_enter func9,ntmps9
  go_upto_region 1 with fail
  (try rw[G])
  clear G
  go_wp2_with (go_at_call 26;(go_call J.o as e af ⟨rfl,d,t2⟩;have I:=κ d;have M:=κ t2;clear d t2))
  go_ret2
  exact⟨k,rfl,rfl,I.o,ac.o.trans M.o⟩
 ·have J:=κ (V0 ab.o ag.o.num.cfg pub s0 s1 s2);have H:Hid (doR s ⟨3,sub,pub,layer,b,(w1,w2),acc,own,stamp,seq,s0,s1,s2⟩=((s.publish pub s0 s1 s2).1,(s.publish pub s0 s1 s2).2,false)):=κ rfl;rw[H.o];clear ae ad O aa Y U
  go_enter func9,ntmps9
  go_upto_region 1 with fail
  (try rw[G])
  clear G
  go_wp2_with (go_at_call 23;(go_call J.o as e af ⟨ai,ah,rfl,d,t2⟩;have I:=κ d;have M:=κ t2;clear d t2))
  go_ret2
  exact⟨ai,ah,rfl,I.o,ac.o.trans M.o⟩
 ·have J:=κ (Hr ab.o ag.o.num.cfg sub own seq stamp Y U);have H:Hid (doR s ⟨4,sub,pub,layer,b,(w1,w2),acc,own,stamp,seq,s0,s1,s2⟩=((s.join sub own seq stamp).1,(s.join sub own seq stamp).2,false)):=κ rfl;rw[H.o];clear ae ad O aa Y U
  go_enter func9,ntmps9
  go_upto_region 1 with fail
  (try rw[G])
  clear G
  go_wp2_with (go_at_call 24;(go_call J.o as e af ⟨ai,ah,rfl,d,t2⟩;have I:=κ d;have M:=κ t2;clear d t2))
  go_ret2
  exact⟨ai,ah,rfl,I.o,ac.o.trans M.o⟩
 ·have J:=κ (XM ab.o (ag.o.subs al) sub pub layer);have H:Hid (doR s ⟨5,sub,pub,layer,b,(w1,w2),acc,own,stamp,seq,s0,s1,s2⟩=((s.subscribe sub pub layer).1,(s.subscribe sub pub layer).2,false)):=κ rfl;rw[H.o];clear ae ad O aa Y U
  go_enter func9,ntmps9
  go_upto_region 1 with fail
  (try rw[G])
  clear G
  go_wp2_with (go_at_call 25;(go_call J.o as e af ⟨rfl,d,t2⟩;have I:=κ d;have M:=κ t2;clear d t2))
  go_ret2
  exact⟨k,rfl,rfl,I.o,ac.o.trans M.o⟩
 ·have J:=κ (Ms ab.o (ag.o.subs al) sub layer);have H:Hid (doR s ⟨6,sub,pub,layer,b,(w1,w2),acc,own,stamp,seq,s0,s1,s2⟩=((s.want sub layer).1,(s.want sub layer).2,false)):=κ rfl;rw[H.o];clear ae ad O aa Y U
  go_enter func9,ntmps9
  go_upto_region 1 with fail
  (try rw[G])
  clear G
  go_wp2_with (go_at_call 40;(go_call J.o as e af ⟨rfl,d,t2⟩;have I:=κ d;have M:=κ t2;clear d t2))
  go_ret2
  exact⟨k,rfl,rfl,I.o,ac.o.trans M.o⟩
 ·have J:=κ (Lh ab.o τ sub);have H:Hid (doR s ⟨7,sub,pub,layer,b,(w1,w2),acc,own,stamp,seq,s0,s1,s2⟩=((s.leave sub).1,(s.leave sub).2,false)):=κ rfl;rw[H.o];clear ae ad O aa Y U
  go_enter func9,ntmps9
  go_upto_region 1 with fail
  (try rw[G])
  clear G
  go_wp2_with (go_at_call 41;(go_call J.o as e af ⟨ai,ah,rfl,d,t2⟩;have I:=κ d;have M:=κ t2;clear d t2))
  go_ret2
  exact⟨ai,ah,rfl,I.o,ac.o.trans M.o⟩
 ·have J:=κ (Ho ab.o);have H:Hid (doR s ⟨8,sub,pub,layer,b,(w1,w2),acc,own,stamp,seq,s0,s1,s2⟩=(s.shut.1,s.shut.2,false)):=κ rfl;rw[H.o];clear ae ad O aa Y U
  go_enter func9,ntmps9
  go_upto_region 1 with fail
  (try rw[G])
  clear G
  go_wp2_with (go_at_call 33;(go_call J.o as e af ⟨rfl,d,t2⟩;have I:=κ d;have M:=κ t2;clear d t2))
  go_ret2
  exact⟨k,rfl,rfl,I.o,ac.o.trans M.o⟩
 ·have H:Hid (doR s ⟨act,sub,pub,layer,b,(w1,w2),acc,own,stamp,seq,s0,s1,s2⟩=(s,0,false)):=κ (by
   unfold doR;simp only
   rw[if_neg τ,if_neg τ,if_neg τ,if_neg τ,if_neg τ,if_neg τ,if_neg τ,if_neg τ,if_neg τ])
  rw[H.o];clear ae ad O aa Y U;have aF:(act==0)=false:=by simp;omega
  have aG:(act==1)=false:=by simp;omega
  have aH:(act==2)=false:=by simp;omega
  have aI:(act==3)=false:=by simp;omega
  have aJ:(act==4)=false:=by simp;omega
  have aK:(act==5)=false:=by simp;omega
  have aL:(act==6)=false:=by simp;omega
  have aM:(act==7)=false:=by simp;omega
  have aN:(act==8)=false:=by simp;omega
  clear hno
  go_enter func9,ntmps9
  go_upto_region 1 with fail
  (try rw[G])
  clear G;go_wp2
  go_ret2
  exact⟨k,rfl,rfl,ab.o,ac.o⟩
end
def uh:qL A22:=λw cs a=> ∃vb,cs=[.int .i64 a.act,.int .i64 a.sub,.int .i64 a.pub,.int .i64 a.layer,vb,.int .i64 a.w.1,.int .i64 a.w.2,.bool a.acc,.int .u32 a.own,.int .u32 a.stamp,.int .u16 a.seq,.int .u32 a.s0,.int .u32 a.s1,.int .u32 a.s2]/\SlI .u8 w vb a.b/\(Byt a.b/\U32 a.own/\U16 a.seq/\ ∀v∈[a.s0,a.s1,a.s2],0<=v/\v<=4294967295)
theorem kj:QQ uh:=λ_ _ _ _ m ⟨vb,d,G,H⟩=>⟨vb,d,G.keep m,H⟩
def LE:qL (Int×Int×Unit):=zf 1 (yW .i64) (zf 1 (yW .i64) Gp)
theorem BC:jC prog 36 LE:=
 jC.struct underlying36 ξ (jH.cons rfl ξ (jC.int underlying3) (jH.cons rfl ξ (jC.int underlying3) jH.nil))
def LG:qL (Int×Int×Int×Int×List Int×(Int×Int×Unit)×Bool×Int×Int×Int×List Int×Unit):=
 zf 1 (yW .i64) (zf 1 (yW .i64) (zf 1 (yW .i64) (zf 1 (yW .i64) (zf 1 (RSl 1 (yW .u8)) (zf 2 LE (zf 1 DS (zf 1 (yW .u32) (zf 1 (yW .u32) (zf 1 (yW .u16) (zf 3 (LK 3 1 (yW .u32)) Gp))))))))))
theorem Cv {w:World} {cs:List Value} {y:Int×Int×Int×Int×List Int×(Int×Int×Unit)×Bool×Int×Int×Int×List Int×Unit} (aj:cs.length=14) (h:LG w cs y): ∃z,uh w cs z:=by
 match cs,aj with
 | [k0,k1,k2,k3,k4,k5,k6,k7,k8,k9,k10,k11,k12,k13],_=>
  obtain⟨⟨N,_⟩,⟨O,_⟩,⟨Y,_⟩,⟨aa,_⟩,⟨ao,ab,an⟩,⟨⟨ac,_⟩,⟨ad,_⟩,_⟩,ae,⟨af,ai⟩,⟨ag,_⟩,⟨U,ah⟩,⟨_,I,J⟩,_⟩:=h;simp[DS] at N O Y aa ab ac ad ae af ag U;have d:=J 0 (by rw[I];omega);have G:=J 1 (by rw[I];omega);have H:=J 2 (by rw[I];omega);obtain⟨d,ak⟩:=d;obtain⟨G,al⟩:=G;obtain⟨H,p2⟩:=H;simp at d G H;obtain⟨am,ap⟩:=an.ints;refine⟨⟨_,_,_,_,_,(_,_),_,_,_,_,_,_,_⟩,ao,by rw[N,O,Y,aa,ab,ac,ad,ae,af,ag,U,d,G,H],am,Byt.of_wf ap,bounds_u32 ai,bounds_u16 ah,λv M=> ?_⟩;simp at M;rcases M with rfl | rfl | rfl
  ·exact bounds_u32 ak
  ·exact bounds_u32 al
  ·exact bounds_u32 p2
theorem Xg:jC prog 41 uh:=λG enc w base N I H cs x d=>by
 obtain⟨y,M⟩:=(jC.struct (R:=LG) underlying41 ξ (jH.cons rfl ξ (jC.int underlying3) (jH.cons rfl ξ (jC.int underlying3) (jH.cons rfl ξ (jC.int underlying3) (jH.cons rfl ξ (jC.int underlying3) (jH.cons rfl ξ (jC.sl underlying34 ξ ζ (jC.int underlying5)) (jH.cons rfl ξ BC (jH.cons rfl ξ (jC.bool underlying4) (jH.cons rfl ξ (jC.int underlying37) (jH.cons rfl ξ (jC.int underlying37) (jH.cons rfl ξ (jC.int underlying38) (jH.cons rfl ξ (jC.arr underlying39 ξ ξ (jC.int underlying37)) jH.nil)))))))))))) G enc w base N I H cs x d;refine Cv ?_ M;obtain⟨_,_,_,_,J,_⟩:=DataW.trod_struct underlying41 d;rw[J]
 kernel_rfl
def KL:qL CfR:=λ_ cs c=>cs=[.int .i64 c.room,.int .i64 c.hold,.int .i64 c.wait,.int .i64 c.space,.int .i64 c.retry,.int .i64 c.most]
def Hj:qL (Int×Int×Unit):=zf 1 (yW .i64) (zf 1 (yW .i64) Gp)
theorem Pi:jC prog 23 Hj:=
 jC.struct underlying23 ξ (jH.cons rfl ξ (jC.int underlying2) (jH.cons rfl ξ (jC.int underlying2) jH.nil))
theorem Xf:jC prog 25 KL:=λU enc w base ac aa Y cs x G=>by
 obtain⟨y,ab⟩:=(jC.struct (R:=zf 1 (yW .i64) (zf 1 (yW .i64) (zf 1 (yW .i64) (zf 2 Hj (zf 1 (yW .i64) Gp))))) underlying25 ξ (jH.cons rfl ξ (jC.int underlying3) (jH.cons rfl ξ (jC.int underlying3) (jH.cons rfl ξ (jC.int underlying2) (jH.cons rfl ξ Pi (jH.cons rfl ξ (jC.int underlying3) jH.nil)))))) U enc w base ac aa Y cs x G;have d:cs.length=6:=by
  obtain⟨_,_,_,_,d,_⟩:=DataW.trod_struct underlying25 G;rw[d]
  kernel_rfl
 match cs,d with
 | [k0,k1,k2,k3,k4,k5],_=>
  obtain⟨⟨H,_⟩,⟨I,_⟩,⟨J,_⟩,⟨⟨M,_⟩,⟨N,_⟩,_⟩,⟨O,_⟩,_⟩:=ab;simp at H I J M N O;exact⟨⟨_,_,_,_,_,_⟩,by rw[H,I,J,M,N,O];rfl⟩
def jv:A22:=⟨0,0,0,0,[],(0,0),false,0,0,0,0,0,0⟩
theorem Yt {w:World} {v:Value} {l:List A22} (h:SlP 14 uh w v l): ∃G cap,v= δ G l.length cap/\(l.length:Int)<=9223372036854775807/\ ∀i,i<l.length-> ∃b I H d,G=some ⟨b,I,none⟩/\b<w.heap.size/\
  (∀w',qa w w'->w'.rangeAt b (I+i* 14) [ι (l.getD i jv).act,ι (l.getD i jv).sub,ι (l.getD i jv).pub,ι (l.getD i jv).layer,δ H (l.getD i jv).b.length d,ι (l.getD i jv).w.1,ι (l.getD i jv).w.2,μ (l.getD i jv).acc,ω (l.getD i jv).own,ω (l.getD i jv).stamp,φ (l.getD i jv).seq,ω (l.getD i jv).s0,ω (l.getD i jv).s1,ω (l.getD i jv).s2])/\
  SlI .u8 w (δ H (l.getD i jv).b.length d) (l.getD i jv).b/\(Byt (l.getD i jv).b/\U32 (l.getD i jv).own/\U16 (l.getD i jv).seq/\ ∀v∈[(l.getD i jv).s0,(l.getD i jv).s1,(l.getD i jv).s2],0<=v/\v<=4294967295):=by
 obtain⟨G,cap,U,Y,aa,ae⟩:=id h;refine⟨G,cap,U,Y,λi hi=> ?_⟩;obtain⟨b,I,cs,e,J,af,ab,vb,rfl,N,ad⟩:=aa i hi;have O:l.getD i jv=l[i]:=by simp[hi]
 rw[O];obtain⟨H,d,rfl,_⟩:=id N;refine⟨b,I,H,d,e,J,λw' m j v M=> ?_,N,ad⟩;have ac:j<14:=(List.getElem?_eq_some_iff.1 M).1;rw[m.cells b _ J,ab j ac];exact M
def yk (l:List A22):Bool:=decide (150<l.length)||l.any λx=>decide (400<x.b.length)
theorem Xj {l:List A22} (h:yk l=false):l.length<=150/\ ∀i,i<l.length->(l.getD i jv).b.length<=400:=by
 unfold yk at h;rw[Bool.or_eq_false_iff] at h;refine⟨by simpa using h.1,λi hi=> ?_⟩;have:=List.any_eq_false.1 h.2 l[i] (List.getElem_mem hi);have d:l.getD i jv=l[i]:=by simp[hi]
 rw[d]
 simpa using this
theorem uS (v:Value) (l:List A22) (w:World) (ae:SlP 14 uh w v l):Calls prog 8 #[v] w λe w'=>e= .returned (μ (yk l))/\qa w w':=by
 obtain⟨ar,cap,rfl,aq,I⟩:=Yt ae;clear ae;by_cases hlen:(l.length:Int)<=150
 ·go_enter func8,ntmps8
  go_wp2
  go_loopw [10] (λi wr=> ∃j:Nat,j<=l.length/\i= ι j/\(∀i,i<j-> ¬400<(l.getD i jv).b.length)/\qa w wr) (λi _=>l.length-(intOf i).toNat)
  case atStart=>exact⟨0,τ,rfl,λi hi=>by omega,qa.refl _⟩
  case round=>
   obtain⟨j,ap,rfl,H,d⟩:=hrel;by_cases hlt:j<l.length
   ·obtain⟨b,ad,ac,ab,rfl,ao,Y,_⟩:=I j hlt;have N:=κ (Y wr d);have an:(j:Int)<(l.length:Int):=by omega
    have af:=κ H;have G:=κ d
    have aj:Hid (400<(l.getD j jv).b.length->yk l=true):=κ (λh=>by
     unfold yk;rw[Bool.or_eq_true]
     exact Or.inr (List.any_eq_true.2 ⟨l.getD j jv,by simp[hlt],by simpa using h⟩))
    generalize J:l.getD j jv=x at *;have ai:=κ J;clear H Y d J I hlen;by_cases am:(400:Int)<(x.b.length:Int)
    ·have M:=κ (aj.o τ)
     go_wp2_with (refine wpList_load_mid rfl 41 (.tmp 12) rfl b (ad+j* 14) rfl [ι x.act,ι x.sub,ι x.pub,ι x.layer,δ ac x.b.length ab,ι x.w.1,ι x.w.2,x.acc,ω x.own,ω x.stamp,φ x.seq,ω x.s0,ω x.s1,ω x.s2] _ N.o underlying41 rfl ξ ?_)
     go_ret;exact⟨by rw[M.o];rfl,G.o.al _⟩
    ·have O: ¬400<x.b.length:=by omega
     have ag:Hid (∀i,i<j+1-> ¬400<(l.getD i jv).b.length):=κ (λi hi=>by
      by_cases e:i<j
      ·exact af.o i e
      ·obtain rfl:i=j:=by omega
       rw[ai.o];exact O)
     clear O
     go_wp2_with (refine wpList_load_mid rfl 41 (.tmp 12) rfl b (ad+j* 14) rfl [ι x.act,ι x.sub,ι x.pub,ι x.layer,δ ac x.b.length ab,ι x.w.1,ι x.w.2,x.acc,ω x.own,ω x.stamp,φ x.seq,ω x.s0,ω x.s1,ω x.s2] _ N.o underlying41 rfl ξ ?_)
     go_roundw
     case rel=>exact⟨j+1,τ,by go_num,ag.o,G.o.al _⟩
     case measure=>simp[intOf];omega
   ·obtain rfl:j=l.length:=by omega
    have an: ¬(l.length:Int)<(l.length:Int):=by omega
    have U:yk l=false:=by
     unfold yk;rw[Bool.or_eq_false_iff];refine⟨by simp;omega,List.any_eq_false.2 λx J=> ?_⟩;obtain⟨i,hi,rfl⟩:=List.mem_iff_getElem.1 J;have:=H i hi;have ak:l.getD i jv=l[i]:=by simp[hi]
     rw[ak] at this
     simpa using this
    have ah:=κ U;have G:=κ d;clear U H I d;go_wp2;go_ret;exact⟨by rw[ah.o];rfl,G.o⟩
 ·have aa:yk l=true:=by
   unfold yk;rw[Bool.or_eq_true];exact Or.inl (by simp;omega)
  have M:=κ aa;have am:(150:Int)<(l.length:Int):=by omega
  clear I aa hlen
  go_enter func8,ntmps8
  go_wp2;go_ret;exact⟨by rw[M.o];rfl,qa.refl _⟩
section
variable {P:Program} {C:World->Prop} {K:Act->World->Prop} {a:Act} {w:World} {d:Option Tmp} {t:TypeId} {ty:TypeId} {ps:String} {af:Array Edge}
theorem Xk (h:C (w.alloc (.map #[] 0))/\K (a.put d (.map (some w.heap.size))) (w.alloc (.map #[] 0))):jn P C {dst:=d,op:= .makeMap t none,type:=ty,pos:=ps,after:=af,guard:=none} a w K:=by
 unfold jn execOp;simp only[Option.map_none,Sem.run_bind,run_makeMap,Result.andThen_ok,Sem.run_pure];exact h
end
section
variable {C:World->Prop} {K:Act->World->Prop} {a:Act} {w:World} {d:Option Tmp} {ty:TypeId} {ps:String} {af:Array Edge}
theorem Pr (h:Calls prog 38 #[] w λe w''=> ∃v,e= .returned v/\C w''/\K (a.put d v) w''):jn prog C {dst:=d,op:= .call {callee:= .value (.func 38),args:= #[],argTypes:= #[]},type:=ty,pos:=ps,after:=af,guard:=none} a w K:=by
 unfold jn;go_simp;exact h
theorem UN (h:Calls prog 39 #[] w λe w''=> ∃v,e= .returned v/\C w''/\K (a.put d v) w''):jn prog C {dst:=d,op:= .call {callee:= .value (.func 39),args:= #[],argTypes:= #[]},type:=ty,pos:=ps,after:=af,guard:=none} a w K:=by
 unfold jn;go_simp;exact h
end
theorem uP (a:Act) (i:Nat) (v u:Value):(a.put (some i) v).put (some i) u=a.put (some i) u:=by
 simp[Act.put]
theorem zN (a:Act) {i j:Nat} (v u:Value) (h:i≠j):(a.put (some i) v).put (some j) u=(a.put (some j) u).put (some i) v:=
 Act.put_comm a v u (λG d e=>h (by injection d with d;injection e with e;omega))
theorem kh (a:Act) (i:Nat) (h:i<a.tmps.size):a.put (some i) (a.tmps.getD i undef)=a:=by
 obtain⟨t,d⟩:=a;have e:t.setIfInBounds i (t.getD i undef)=t:=by
  apply Array.ext
  ·simp
  ·intro j H G;rw[Array.getElem_setIfInBounds];split
   ·rename_i q;subst q;simp[G]
   ·rfl
 show Act.mk (t.setIfInBounds i (t.getD i undef)) d=⟨t,d⟩;rw[e]
structure Xs where
 x42:Value
 x43:Value
 x45:Value
 x47:Value
 x48:Value
 x49:Value
def pA (A:Act) (x:Xs):Act:=(((((A.put (some 42) x.x42).put (some 43) x.x43).put (some 45) x.x45).put (some 47) x.x47).put (some 48) x.x48).put (some 49) x.x49
theorem L8 (A:Act) (x:Xs) (v:Value):(pA A x).put (some 42) v=pA A {x with x42:=v}:=by
 unfold pA;rw[zN (i:=49) (j:=42) _ x.x49 v ζ,zN (i:=48) (j:=42) _ x.x48 v ζ,zN (i:=47) (j:=42) _ x.x47 v ζ,zN (i:=45) (j:=42) _ x.x45 v ζ,zN (i:=43) (j:=42) _ x.x43 v ζ,uP]
theorem LZ (A:Act) (x:Xs) (v:Value):(pA A x).put (some 43) v=pA A {x with x43:=v}:=by
 unfold pA;rw[zN (i:=49) (j:=43) _ x.x49 v ζ,zN (i:=48) (j:=43) _ x.x48 v ζ,zN (i:=47) (j:=43) _ x.x47 v ζ,zN (i:=45) (j:=43) _ x.x45 v ζ,uP]
theorem LY (A:Act) (x:Xs) (v:Value):(pA A x).put (some 45) v=pA A {x with x45:=v}:=by
 unfold pA;rw[zN (i:=49) (j:=45) _ x.x49 v ζ,zN (i:=48) (j:=45) _ x.x48 v ζ,zN (i:=47) (j:=45) _ x.x47 v ζ,uP]
theorem LW (A:Act) (x:Xs) (v:Value):(pA A x).put (some 47) v=pA A {x with x47:=v}:=by
 unfold pA;rw[zN (i:=49) (j:=47) _ x.x49 v ζ,zN (i:=48) (j:=47) _ x.x48 v ζ,uP]
theorem LV (A:Act) (x:Xs) (v:Value):(pA A x).put (some 48) v=pA A {x with x48:=v}:=by
 unfold pA;rw[zN (i:=49) (j:=48) _ x.x49 v ζ,uP]
theorem LU (A:Act) (x:Xs) (v:Value):(pA A x).put (some 49) v=pA A {x with x49:=v}:=by
 unfold pA;rw[uP]
theorem Bu (A:Act) (x:Xs) (h:50<=A.tmps.size):(pA A x).eval (.tmp 42)=x.x42:=by
 unfold pA;simp[Act.put,Act.eval,Array.getElem?_setIfInBounds,(by omega:42<A.tmps.size)]
structure Yk (wB:World) (d0 d3 d5 d6 d7:Bool) (x:Xs) (w:World) (T:Nat->Tg):Prop where
 more:qa wB w
 fresh: ∀b,T b≠ .no->wB.heap.size<=b/\b<w.heap.size
 bk:d0=true-> ∃B b,x.x42= .pointer (some ⟨B,0,none⟩)/\x.x43= .agg #[.pointer (some ⟨B,0,none⟩)]/\T B= .book/\T b= .book/\jy w B b []
 rt:d3=true-> ∃M,x.x45= .map (some M)/\T M= .ret/\jk w M kO Value.bool []
 tb:d5=true-> ∃t a b c,x.x47= .pointer (some ⟨t,0,none⟩)/\T t= .table/\T a= .table/\T b= .table/\T c= .table/\jq w t a b c ⟨[],[],[]⟩
 ls:d6=true-> ∃M,x.x48= .map (some M)/\T M= .lns/\jk w M (Value.int .i64) gj []
 ss:d7=true-> ∃M,x.x49= .map (some M)/\T M= .sts/\jk w M kO gj []
section
variable {wB w w':World} {d0 d3 d5 d6 d7:Bool} {x:Xs} {T:Nat->Tg}
theorem Yk.no (h:Yk wB d0 d3 d5 d6 d7 x w T): ∀b,w.heap.size<=b->T b= .no:=λb d=>by
 cases e:T b<;>first | rfl | (exfalso;have:=(h.fresh b (by rw[e];simp)).2;omega)
theorem Yk.grow (h:Yk wB d0 d3 d5 d6 d7 x w T) (m:qa w w') (t:Tg):Yk wB d0 d3 d5 d6 d7 x w' (jZ T t w w'):=by
 have O:=h.no;have k: ∀{b:Nat} {u:Tg},u≠ .no->T b=u->jZ T t w w' b=u:=λU J=>(jd O U _).2 (Or.inl J)
 refine⟨h.more.trans m,λb J=> ?_,λe=> ?_,λe=> ?_,λe=> ?_,λe=> ?_,λe=> ?_⟩
 ·unfold jZ at J;split at J
  ·rename_i q;exact⟨Nat.le_trans h.more.size q.1,q.2⟩
  ·have:=h.fresh b J;exact⟨this.1,Nat.lt_of_lt_of_le this.2 m.size⟩
 ·obtain⟨B,b,d,G,H,M,N⟩:=h.bk e;exact⟨B,b,d,G,k η H,k η M,N.more m⟩
 ·obtain⟨I,d,G,H⟩:=h.rt e;exact⟨I,d,k η G,H.more m⟩
 ·obtain⟨t,a,b,c,d,G,H,M,N,Y⟩:=h.tb e;exact⟨t,a,b,c,d,k η G,k η H,k η M,k η N,Y.more m⟩
 ·obtain⟨I,d,G,H⟩:=h.ls e;exact⟨I,d,k η G,H.more m⟩
 ·obtain⟨I,d,G,H⟩:=h.ss e;exact⟨I,d,k η G,H.more m⟩
theorem yb (H: ∀b,w.heap.size<=b->T b= .no) {t:Tg} (I:t≠ .no) {b:Nat} (d:w.heap.size<=b) (G:b<w'.heap.size):jZ T t w w' b=t:=(jd H I b).2 (Or.inr ⟨rfl,d,G⟩)
end
theorem vm {o:Oper} {y:Nat->Option Bool} {p q:Prop} (h:Region.wanted o y=true) (d:p):if Region.wanted o y then p else q:=by
 rw[if_pos h];exact d
def wy:Nat->Bool->Bool->Bool->Bool->Bool->Tr
 | 0,_,_,_,_,_=> .op 8 false (.op 9 true (.op 10 false (.op 11 false .done)))
 | n+1,d0,d3,d5,d6,d7=> .br ((if d0 then [] else [0])++(if d3 then [] else [3])++(if d0&& !d5 then [5] else [])++(if d6 then [] else [6])++(if d7 then [] else [7]))
  (λk=>if k=0 then .op 1 false (wy n true d3 d5 d6 d7) else if k=3 then wy n d0 true d5 d6 d7 else if k=5 then wy n d0 d3 true d6 d7 else if k=6 then wy n d0 d3 d5 true d7 else wy n d0 d3 d5 d6 true)
def JP (d0 d3 d5 d6 d7:Bool):Nat:=(if d0 then 0 else 1)+(if d3 then 0 else 1)+(if d5 then 0 else 1)+(if d6 then 0 else 1)+(if d7 then 0 else 1)
section
variable {l:List Oper} {T0:Nat} {Q:Act->World->Prop} {A:Act} {wB:World}
theorem It (ap:50<=A.tmps.size)
  (ad: ∃ty ps af,l[0]? =some {dst:=some 42,op:= .call {callee:= .value (.func 38),args:= #[],argTypes:= #[]},type:=ty,pos:=ps,after:=af,guard:=none})
  (ae: ∃ty ps af,l[1]? =some {dst:=some 43,op:= .build 79 #[(0,.tmp 42)],type:=ty,pos:=ps,after:=af,guard:=none})
  (ag: ∃ty ps af,l[3]? =some {dst:=some 45,op:= .makeMap 80 none,type:=ty,pos:=ps,after:=af,guard:=none})
  (ah: ∃ty ps af,l[5]? =some {dst:=some 47,op:= .call {callee:= .value (.func 39),args:= #[],argTypes:= #[]},type:=ty,pos:=ps,after:=af,guard:=none})
  (ai: ∃ty ps af,l[6]? =some {dst:=some 48,op:= .makeMap 83 none,type:=ty,pos:=ps,after:=af,guard:=none})
  (aj: ∃ty ps af,l[7]? =some {dst:=some 49,op:= .makeMap 84 none,type:=ty,pos:=ps,after:=af,guard:=none})
  (ao: ∀x w T,Yk wB true true true true true x w T->zk prog l.toArray T0 (λw'=> ∃y:qt wB,w'=y.w') Q (.op 8 false (.op 9 true (.op 10 false (.op 11 false .done)))) (pA A x) w):
  ∀(n:Nat) (N H I J M:Bool) (x:Xs) (w:World) (T:Nat->Tg),n=JP N H I J M->Yk wB N H I J M x w T->zk prog l.toArray T0 (λw'=> ∃y:qt wB,w'=y.w') Q (wy n N H I J M) (pA A x) w:=by
 obtain⟨aG,aA,ar,ad⟩:=ad;obtain⟨aH,aB,au,ae⟩:=ae;obtain⟨aI,aC,av,ag⟩:=ag;obtain⟨aJ,aD,aw,ah⟩:=ah;obtain⟨aK,aE,ax,ai⟩:=ai;obtain⟨aL,aF,ay,aj⟩:=aj;intro n
 induction n with
 | zero=>
  intro N H I J M x w T Y O;have e:N=true/\H=true/\I=true/\J=true/\M=true:=by
   cases N<;>cases H<;>cases I<;>cases J<;>cases M<;>simp[JP] at Y ⊢
  obtain⟨rfl,rfl,rfl,rfl,rfl⟩:=e;exact ao x w T O
 | succ n ih=>
  intro N H I J M x w T Y O;have U:=O.no;unfold wy;unfold zk;intro k G;simp only[List.mem_append] at G;rcases G with (((G | G) | G) | G) | G
  ·cases N with
   | true=>simp at G
   | false=>
    simp at G;subst G;simp only[List.getElem?_toArray,ad,Option.getD_some,if_true];refine vm rfl ?_;refine zm (D:=λw'=> ∃y:qt wB,w'=y.w') (λ_ h=>yF h) (Pr ?_);refine(Nv w).mono ?_;rintro e w' ⟨B,b,rfl,ak,al,aa,ab⟩;have d:=O.grow ab .book;refine⟨_,rfl,qk (O.more.trans ab), ?_⟩;rw[L8];show zk _ _ _ _ _ (.op 1 false (wy n true H I J M)) _ _;refine qH ae rfl (qk (O.more.trans ab)) λK aq=> ?_
    refine⟨θ #[γ B],λw2 az=> ?_, ?_⟩
    ·unfold Oper.quietAt execOp;simp only[List.map_toArray,List.map_cons,List.map_nil];have am:=Bu A {x with x42:= γ B} ap;simp only at am;rw[am];go_simp
    ·refine aq _ ?_;rw[LZ];exact ih true H I J M _ w' _ (by cases H<;>cases I<;>cases J<;>cases M<;>simp[JP] at Y ⊢ <;>omega)
      ⟨d.more,d.fresh,λ_=>⟨B,b,rfl,rfl,yb U η ak (qn aa.blk),yb U η al aa.map.lt,aa⟩,d.rt,d.tb,d.ls,d.ss⟩
  ·cases H with
   | true=>simp at G
   | false=>
    simp at G;subst G;simp only[List.getElem?_toArray,ag,Option.getD_some];refine vm rfl ?_;have m:=qa.alloc w (.map #[] 0);have d:=O.grow m .ret;refine zm (D:=λw'=> ∃y:qt wB,w'=y.w') (λ_ h=>yF h) (Xk ⟨qk d.more, ?_⟩);rw[LY];exact ih N true I J M _ _ _ (by cases N<;>cases I<;>cases J<;>cases M<;>simp[JP] at Y ⊢ <;>omega)
     ⟨d.more,d.fresh,d.bk,λ_=>⟨w.heap.size,rfl,yb U η (Nat.le_refl _) η,jk.made w _ _⟩,d.tb,d.ls,d.ss⟩
  ·cases N<;>cases I<;>simp at G
   subst G;simp only[List.getElem?_toArray,ah,Option.getD_some];refine vm rfl ?_;refine zm (D:=λw'=> ∃y:qt wB,w'=y.w') (λ_ h=>yF h) (UN ?_);refine(Mv w).mono ?_;rintro e w' ⟨t,a,b,c,rfl,ak,al,aa,ab,ac,an⟩;have d:=O.grow an .table;refine⟨_,rfl,qk (O.more.trans an), ?_⟩;rw[LW];exact ih true H true J M _ w' _ (by cases H<;>cases J<;>cases M<;>simp[JP] at Y ⊢ <;>omega)
    ⟨d.more,d.fresh,d.bk,d.rt,λ_=>⟨t,a,b,c,rfl,yb U η ak (qn ac.blk),yb U η al ac.mo.lt,yb U η aa ac.ms.lt,yb U η ab ac.mu.lt,ac⟩,d.ls,d.ss⟩
  ·cases J with
   | true=>simp at G
   | false=>
    simp at G;subst G;simp only[List.getElem?_toArray,ai,Option.getD_some];refine vm rfl ?_;have m:=qa.alloc w (.map #[] 0);have d:=O.grow m .lns;refine zm (D:=λw'=> ∃y:qt wB,w'=y.w') (λ_ h=>yF h) (Xk ⟨qk d.more, ?_⟩);rw[LV];exact ih N H I true M _ _ _ (by cases N<;>cases H<;>cases I<;>cases M<;>simp[JP] at Y ⊢ <;>omega)
     ⟨d.more,d.fresh,d.bk,d.rt,d.tb,λ_=>⟨w.heap.size,rfl,yb U η (Nat.le_refl _) η,jk.made w _ _⟩,d.ss⟩
  ·cases M with
   | true=>simp at G
   | false=>
    simp at G;subst G;simp only[List.getElem?_toArray,aj,Option.getD_some];refine vm rfl ?_;have m:=qa.alloc w (.map #[] 0);have d:=O.grow m .sts;refine zm (D:=λw'=> ∃y:qt wB,w'=y.w') (λ_ h=>yF h) (Xk ⟨qk d.more, ?_⟩);rw[LU];exact ih N H I J true _ _ _ (by cases N<;>cases H<;>cases I<;>cases J<;>simp[JP] at Y ⊢ <;>omega)
     ⟨d.more,d.fresh,d.bk,d.rt,d.tb,d.ls,λ_=>⟨w.heap.size,rfl,yb U η (Nat.le_refl _) η,jk.made w _ _⟩⟩
theorem EB (A:Act) (h:50<=A.tmps.size): ∃x,pA A x=A:=by
 refine⟨⟨A.tmps.getD 42 undef,A.tmps.getD 43 undef,A.tmps.getD 45 undef,A.tmps.getD 47 undef,A.tmps.getD 48 undef,A.tmps.getD 49 undef⟩, ?_⟩;unfold pA;simp only;rw[kh A 42 τ,kh A 43 τ,kh A 45 τ,kh A 47 τ,kh A 48 τ,kh A 49 τ]
theorem Pn (d:50<=A.tmps.size)
  (H: ∃ty ps af,l[0]? =some {dst:=some 42,op:= .call {callee:= .value (.func 38),args:= #[],argTypes:= #[]},type:=ty,pos:=ps,after:=af,guard:=none})
  (I: ∃ty ps af,l[1]? =some {dst:=some 43,op:= .build 79 #[(0,.tmp 42)],type:=ty,pos:=ps,after:=af,guard:=none})
  (J: ∃ty ps af,l[3]? =some {dst:=some 45,op:= .makeMap 80 none,type:=ty,pos:=ps,after:=af,guard:=none})
  (M: ∃ty ps af,l[5]? =some {dst:=some 47,op:= .call {callee:= .value (.func 39),args:= #[],argTypes:= #[]},type:=ty,pos:=ps,after:=af,guard:=none})
  (N: ∃ty ps af,l[6]? =some {dst:=some 48,op:= .makeMap 83 none,type:=ty,pos:=ps,after:=af,guard:=none})
  (O: ∃ty ps af,l[7]? =some {dst:=some 49,op:= .makeMap 84 none,type:=ty,pos:=ps,after:=af,guard:=none})
  (w:World) (m:qa wB w)
  (G: ∀x w T,Yk wB true true true true true x w T->zk prog l.toArray T0 (λw'=> ∃y:qt wB,w'=y.w') Q (.op 8 false (.op 9 true (.op 10 false (.op 11 false .done)))) (pA A x) w):
  zk prog l.toArray T0 (λw'=> ∃y:qt wB,w'=y.w') Q (wy 5 false false false false false) A w:=by
 obtain⟨x,e⟩:=EB A d;have:=It (Q:=Q) (T0:=T0) d H I J M N O G 5 false false false false false x w (λ_=> .no) rfl ⟨m,λb U=>absurd rfl U,λe=>(by cases e),λe=>(by cases e),λe=>(by cases e),λe=>(by cases e),λe=>(by cases e)⟩;rw[e] at this;exact this
end
theorem Ba {w I w8 w9:World} {c:CfR} {x:Xs} {T:Nat->Tg} {RQ AQ R:Nat} (ad:qa w I) (G:Yk I true true true true true x w8 T) (aE:w.heap.size<=RQ/\RQ<I.heap.size) (aF:w.heap.size<=AQ/\AQ<I.heap.size)
  (d:zR I RQ AQ c.room.toNat 0 [] 0 0 0 0 (List.replicate c.room.toNat [δ none 0 0])) (M:qa w8 w9) (aD:w8.heap.size<=R/\R<w9.heap.size)
  (aq: ∀B N Y O U,x.x43= θ #[γ B]->x.x45= .map (some N)->x.x47= γ Y->x.x48= .map (some O)->x.x49= .map (some U)->w9.heap[R]? =some (.cells #[γ B,ι c.room,ι c.hold,ι c.wait,ι c.space,ι c.retry,ι c.most,false,.map (some N),ι 0,γ RQ,γ Y,.map (some O),.map (some U),(),(),ι 0,ι 0,ι 0,ι 0,ι 0] 88 (0,0))):
  ∃k,k.R=R/\qI w w9 k (ud c) []:=by
 obtain⟨B,b,aC,af,av,tb,ak⟩:=G.bk rfl;obtain⟨N,ag,aw,al⟩:=G.rt rfl;obtain⟨Y,az,aA,aB,ah,t1,t2,t3,t4,ao⟩:=G.tb rfl;obtain⟨O,ai,ax,am⟩:=G.ls rfl;obtain⟨U,aj,ay,an⟩:=G.ss rfl;have ar:=aq B N Y O U af ag ah ai aj;have aG:=G.more.size;have ap: ∀{q:Nat} {u:Tg},u≠ .no->T q=u->I.heap.size<=q/\q<w8.heap.size:=λac d=>G.fresh _ (by rw[d];exact ac)
 obtain⟨aa,J⟩: ∃aa:Nat->Tg,aa=λq=>if q=RQ∨q=AQ then Tg.queue else if q=R then Tg.room else T q:=⟨_,rfl⟩
 have H: ∀{q:Nat} {u:Tg},u≠ .no->T q=u->aa q=u:=λac d=>by
  have:=ap ac d;rw[J];simp only;rw[if_neg τ,if_neg τ];exact d
 have ae:qa I w9:=G.more.trans M;refine⟨⟨R,N,RQ,AQ,Y,az,aA,aB,B,b,O,U,[],[]⟩,rfl,aa,δ none 0 0,δ none 0 0,⟨λu=> ?_,λq d=> ?_,λq d=>(by cases d),ad.trans ae⟩⟩
 ·cases u with
  | no=>
   intro q d;rw[J];simp only;rw[if_neg τ,if_neg τ];cases e:T q<;>first | rfl | (exfalso;have:=(G.fresh q (by rw[e];simp)).2;omega)
  | junk=>trivial
  | data=>trivial
  | room=>
   refine⟨?_,ar⟩;rw[J];simp only;rw[if_neg τ];simp
  | ret=>exact⟨H η aw,al.more M⟩
  | queue=>
   have au:=d.more ae;refine⟨by rw[J];simp,by rw[J];simp,0,[],0,0,0,0,_,au,trivial⟩
  | table=>exact⟨H η t1,H η t2,H η t3,H η t4,ao.more M⟩
  | book=>exact⟨H η av,H η tb,ak.more M⟩
  | lns=>exact⟨H η ax,am.more M⟩
  | sts=>exact⟨H η ay,an.more M⟩
  | pks=>exact⟨je.nil _ _ _ _ _ _,λg ab=>by cases ab⟩
  | reqs=>exact⟨je.nil _ _ _ _ _ _,λg ab=>by cases ab⟩
  | lane y=>exact⟨λp l h=>(by cases h),rfl⟩
  | str o=>exact⟨λp t h=>(by cases h),rfl⟩
 ·rw[J] at d;simp only at d;have:=ad.size;split at d
  ·rename_i e;rcases e with e | e<;>omega
  ·split at d
   ·omega
   ·have:=(G.fresh q d).1;omega
theorem Nt (c:CfR) (au:xY c=true) (w:World):
  Calls prog 7 #[θ #[ι c.room,ι c.hold,ι c.wait,ι c.space,ι c.retry,ι c.most]] w λe w'=> ∃k,e= .returned (.tuple #[γ k.R,ι 0])/\qI w w' k (ud c) []/\qa w w':=by
 obtain⟨c1,c2,c3,bc⟩:=kF au;obtain⟨W1,M⟩:=ν (w.alloc (.cells #[ι c.room,ι c.hold,ι c.wait,ι c.space,ι c.retry,ι c.most] 25));have O:Hid (qa w W1):=κ (by rw[<-M];exact qa.alloc _ _);have d:Hid (W1.heap[w.heap.size]? =some (.cells #[ι c.room,ι c.hold,ι c.wait,ι c.space,ι c.retry,ι c.most] 25 (0,0))):=κ (by rw[<-M];exact qj w _);have aK:=κ (ZK c.room c.room.toNat τ τ τ W1);have aI:=κ (λw'=>YM c.hold c.wait w' c2);have ae:=κ (λw'=>Qf c.space c.retry w');rw[decide_eq_true c3] at ae;have aW:=β0 d.o;clear c1 c2 c3 au
 go_enter func7,ntmps7
 go_upto_region 1 with fail
 (try rw[M])
 clear M
 go_upto_region 9 with (first | (go_at_call 35;(go_call aK.o as e w2 ⟨rfl,aq,n2⟩;have ad:=κ aq;have aM:=κ n2;have aX:=β1 (qc n2 d.o);have aY:=β2 (qc n2 d.o);clear aq n2)) | (go_at_call 36;(go_call aI.o _ as e bg ⟨rfl,_,aa,_⟩;have U:=κ (aM.o.trans aa);have aN:=κ aa;have aZ:=β3 (qc U.o d.o);have ba:=β4 (qc U.o d.o);clear aa)) | (go_at_call 37;(go_call ae.o _ as e w4 ⟨rfl,ab⟩;have G:=κ (U.o.trans ab);have ag:=κ (aN.o.trans ab);have bb:=β5 (qc G.o d.o);clear ab)))
 have aB: ∀y:qt w4,y.w'.cell? ⟨w.heap.size,0,none⟩=some (ι c.room):=λy=>qb (qc (G.o.trans y.h) d.o) 0 rfl
 have aC: ∀y:qt w4,y.w'.cell? ⟨w.heap.size,1,none⟩=some (ι c.hold):=λy=>qb (qc (G.o.trans y.h) d.o) 1 rfl
 have aD: ∀y:qt w4,y.w'.cell? ⟨w.heap.size,2,none⟩=some (ι c.wait):=λy=>qb (qc (G.o.trans y.h) d.o) 2 rfl
 have aE: ∀y:qt w4,y.w'.cell? ⟨w.heap.size,3,none⟩=some (ι c.space):=λy=>qb (qc (G.o.trans y.h) d.o) 3 rfl
 have aF: ∀y:qt w4,y.w'.cell? ⟨w.heap.size,4,none⟩=some (ι c.retry):=λy=>qb (qc (G.o.trans y.h) d.o) 4 rfl
 have aG: ∀y:qt w4,y.w'.cell? ⟨w.heap.size,5,none⟩=some (ι c.most):=λy=>qb (qc (G.o.trans y.h) d.o) 5 rfl
 refine zB w4 12 (.op 2 false (.op 4 false (wy 5 false false false false false))) ξ ξ ?_
 iterate 2 (refine qH rfl rfl (qk ρ) ?_;intro K I;go_big_quiet_op;go_big_quiet_on)
 clear aB aC aD aE aF aG;refine Pn η ⟨_,_,_,rfl⟩ ⟨_,_,_,rfl⟩ ⟨_,_,_,rfl⟩ ⟨_,_,_,rfl⟩ ⟨_,_,_,rfl⟩ ⟨_,_,_,rfl⟩ _ (qa.drewN w4 1) ?_;intro x w8 T H;obtain⟨B,b,aj,ak,_⟩:=H.bk rfl;obtain⟨af,am,_⟩:=H.rt rfl;obtain⟨aA,bd,be,bf,an,_⟩:=H.tb rfl;obtain⟨ah,ao,_⟩:=H.ls rfl;obtain⟨ai,ap,_⟩:=H.ss rfl;have aH:=κ H;have J:=κ H.more;clear H;obtain⟨x42,x43,x45,x47,x48,x49⟩:=x;simp only at aj ak am an ao ap;subst aj ak am an ao ap;unfold pA;simp only[Act.put];go_simp;refine qH rfl rfl (qk J.o) ?_;intro K I
 go_big_quiet_op
 go_big_quiet_on
 (refine qO rfl rfl ?_;intro K I;unfold jn;go_simp)
 refine⟨qk (J.o.al _),I _ _ ?_⟩;clear I K;obtain⟨w9,N⟩:=ν (w8.alloc (.cells #[γ B,ι c.room,ι c.hold,ι c.wait,ι c.space,ι c.retry,ι c.most,false,.map (some af),ι 0,γ (W1.heap.size+1),γ aA,.map (some ah),.map (some ai),(),(),ι 0,ι 0,ι 0,ι 0,ι 0] 88));have Y:Hid (qa w8 w9):=κ (by rw[<-N];exact qa.alloc _ _);have ac:Hid (w9.heap[w8.heap.size]? =some (.cells #[γ B,ι c.room,ι c.hold,ι c.wait,ι c.space,ι c.retry,ι c.most,false,.map (some af),ι 0,γ (W1.heap.size+1),γ aA,.map (some ah),.map (some ai),(),(),ι 0,ι 0,ι 0,ι 0,ι 0] 88 (0,0))):=κ (by rw[<-N];exact qj w8 _)
 (try rw[N])
 clear N
 iterate 2 (refine qH rfl rfl (qk (J.o.trans Y.o)) ?_;intro K I;go_big_quiet_op;go_big_quiet_on)
 refine zg ?_;have aP:=qn ad.o.ring;have aQ:=ag.o.size;have aR:=O.o.size
 obtain⟨aS,aO,ar⟩:=Ba (c:=c) (RQ:=W1.heap.size+1) (AQ:=W1.heap.size) (R:=w8.heap.size) (O.o.trans G.o) aH.o ⟨τ,τ⟩ ⟨τ,τ⟩ (ad.o.more ag.o) Y.o ⟨Nat.le_refl _,qn ac.o⟩ (λaT aV t' aU S' av aw ax ay az=>by
  simp at av aw ax ay az;subst av aw ax ay az
  exact ac.o)
 have aL:=κ ar;have aJ:=κ (O.o.trans (G.o.trans (J.o.trans Y.o)));clear ar aP aQ aR;go_wp2
 go_ret2
 exact⟨aS,by rw[aO];rfl,aL.o,aJ.o⟩
theorem YL (c:CfR) (N:xY c=false) (w:World):
  Calls prog 7 #[θ #[ι c.room,ι c.hold,ι c.wait,ι c.space,ι c.retry,ι c.most]] w λe w'=>e= .returned (.tuple #[π none,ι 1])/\qa w w':=by
 obtain⟨W1,G⟩:=ν (w.alloc (.cells #[ι c.room,ι c.hold,ι c.wait,ι c.space,ι c.retry,ι c.most] 25));have ab:Hid (qa w W1):=κ (by rw[<-G];exact qa.alloc _ _);have d:Hid (W1.heap[w.heap.size]? =some (.cells #[ι c.room,ι c.hold,ι c.wait,ι c.space,ι c.retry,ι c.most] 25 (0,0))):=κ (by rw[<-G];exact qj w _);have aj:=β0 d.o;by_cases hr:c.room<1∨8<c.room
 ·have J:=κ (BJ c.room hr W1);clear hr N
  go_enter func7,ntmps7
  go_upto_region 1 with fail
  (try rw[G])
  clear G
  go_wp2_with ((go_at_call 35;(go_call J.o as e w2 ⟨rfl,n2⟩;have H:=κ n2;clear n2)))
  go_ret2
  exact⟨rfl,ab.o.trans H.o⟩
 ·have J:=κ (ZK c.room c.room.toNat τ τ τ W1);by_cases hj:gt c.hold c.wait
  ·have aa:=κ (λw'=>YM c.hold c.wait w' hj);have Y:=κ (λw'=>Qf c.space c.retry w');by_cases ha:1<=c.space/\c.space<=c.retry/\c.retry<=1000
   ·rw[decide_eq_true ha] at Y;have ad:c.most<1∨10<c.most:=by
     simp[xY,hj,ha] at N;omega
    rcases ad with ad | ad
    all_goals
     clear hr N hj ha
     go_enter func7,ntmps7
     go_upto_region 1 with fail
     (try rw[G])
     clear G
     go_wp2_with (first | (go_at_call 35;(go_call J.o as e w2 ⟨rfl,M,n2⟩;have H:=κ n2;have ae:=β1 (qc n2 d.o);have af:=β2 (qc n2 d.o);clear M n2)) | (go_at_call 36;(go_call aa.o _ as e ag ⟨rfl,_,O,_⟩;have I:=κ (H.o.trans O);have ah:=β3 (qc I.o d.o);have ai:=β4 (qc I.o d.o);clear O)) | (go_at_call 37;(go_call Y.o _ as e w4 ⟨rfl,U⟩;have ac:=κ (I.o.trans U);have ak:=β5 (qc ac.o d.o);clear U)))
     go_ret2
     exact⟨rfl,ab.o.trans ac.o⟩
   ·rw[decide_eq_false ha] at Y;clear hr N hj ha
    go_enter func7,ntmps7
    go_upto_region 1 with fail
    (try rw[G])
    clear G
    go_wp2_with (first | (go_at_call 35;(go_call J.o as e w2 ⟨rfl,M,n2⟩;have H:=κ n2;have ae:=β1 (qc n2 d.o);have af:=β2 (qc n2 d.o);clear M n2)) | (go_at_call 36;(go_call aa.o _ as e ag ⟨rfl,_,O,_⟩;have I:=κ (H.o.trans O);have ah:=β3 (qc I.o d.o);have ai:=β4 (qc I.o d.o);clear O)) | (go_at_call 37;(go_call Y.o _ as e w4 ⟨rfl,U⟩;have ac:=κ (I.o.trans U);clear U)))
    go_ret2
    exact⟨rfl,ab.o.trans ac.o⟩
  ·have aa:=κ (λw'=>Lq c.hold c.wait w' hj);clear hr N hj
   go_enter func7,ntmps7
   go_upto_region 1 with fail
   (try rw[G])
   clear G
   go_wp2_with (first | (go_at_call 35;(go_call J.o as e w2 ⟨rfl,M,n2⟩;have H:=κ n2;have ae:=β1 (qc n2 d.o);have af:=β2 (qc n2 d.o);clear M n2)) | (go_at_call 36;(go_call aa.o _ as e ag ⟨rfl,rfl⟩)))
   go_ret2
   exact⟨rfl,ab.o.trans H.o⟩
def pkW:Pk:=⟨false,0,5,6,7,[],false,0,[],[16,2]⟩
def pkY:List Int:=[128,0,0,5,0,0,0,6,0,0,0,7,16,2]
theorem awB:pkB pkW=pkY:=by decide
def cfA:CfR:=⟨2,2,3,1,2,1⟩
def aw0:RmS:=ud cfA
def aw1:RmS:=(aw0.publish 1 7 8 9).1
def aw2:RmS:=(aw1.join 4 50 20 300).1
def aw3:RmS:=(aw2.subscribe 4 1 0).1
def aw4:RmS:=aw3.tick.1
def aw5:RmS:=(aw4.arrive pkY).1
def aw6:RmS:=(aw5.arrive [1]).1
def wkA:List Og:=[(0,0),(1,0),(2,4),(3,4),(4,4)]
def awP (s:RmS) (j:Nat):RmS:=(wkA.take j).foldl (λs w=>(s.pick w true).1) s
def aw7:RmS:=awP aw6 5
def aw8:RmS:=aw7.shut.1
def aw9:RmS:=awP aw8 5
theorem aq1:(aw0.publish 1 7 8 9).2=0:=by kernel_rfl
theorem aq2:(aw1.join 4 50 20 300).2=0:=by kernel_rfl
theorem aq3:(aw2.subscribe 4 1 0).2=0:=by kernel_rfl
theorem aq4:(aw3.tick).2=0:=by kernel_rfl
theorem aq5:aw4.reqs=[⟨(1,0),1,[129,206,0,2,0,0,0,0,0,0,0,7]⟩]:=by kernel_rfl
theorem aq6:(aw4.arrive pkY).2=0/\(aw5.arrive [1]).2=0/\aw6.queue.length=2/\aw6.held=0:=by refine⟨?_, ?_, ?_, ?_⟩<;>kernel_rfl
theorem aq7: ∀j<5,(awP aw6 j).may (wkA.getD j (0,0))=true:=by decide+kernel
theorem aq8:qh aw7.book (4,0)=some 1:=by kernel_rfl
theorem aq9:(aw7.ln 4).W=[(0,[128,0,0,20,0,0,1,44,0,0,0,50,16,2])]:=by kernel_rfl
theorem aq10:aw9.ended=true/\aw9.clock=1/\aw9.cnt=⟨1,0,0,0,1⟩:=by refine⟨?_, ?_, ?_⟩<;>kernel_rfl
theorem LD: ∀j<5,(awP aw8 j).may (wkA.getD j (0,0))=true/\(awP aw8 j).ended=false:=by decide+kernel
def RmR (w0 w:World) (R:Nat) (s:RmS) (F:List Nat):Prop:= ∃k:RmK,k.R=R/\qI w0 w k s F
section
variable {w0 w w':World} {R:Nat} {s s':RmS} {F F' Fn:List Nat} {n:Nat}
theorem RmR.on (h:RmR w0 w R s F) (m:qa w w'):RmR w0 w' R s F:=h.elim λk h=>⟨k,h.1,h.2.on m⟩
theorem RmR.sub (h:RmR w0 w R s F) (d: ∀b∈F',b∈F):RmR w0 w R s F':=h.elim λk h=>⟨k,h.1,h.2.sub d⟩
theorem RmR.adds (h:RmR w0 w R s F) (m:qa w w') (d: ∀b∈Fn,w.heap.size<=b/\b<w'.heap.size):RmR w0 w' R s (Fn++F):=h.elim λk h=>⟨k,h.1,h.2.adds m d⟩
theorem RmR.more (h:RmR w0 w R s F):qa w0 w:=h.elim λ_ h=>h.2.more
theorem RmR.stay (h:RmR w0 w R s F) (m:qa w w'):qw F w w':=h.elim λ_ h=>h.2.stay m
theorem RmR.bk (h:RmR w0 w R s F): ∃B b,w.cell? ⟨R,0,none⟩=some (π (some ⟨B,0,none⟩))/\jy w B b s.book:=by
 obtain⟨k,rfl,T,vp,d,h⟩:=h;exact⟨k.B,k.b,qb h.blk 0 rfl,h.bok⟩
theorem RmR.tkeys (h:RmR w0 w R s F):(s.tab.u.map Prod.fst).Nodup:=by
 obtain⟨k,rfl,T,vp,d,h⟩:=h;exact h.tab.mu.keys
theorem RmR.bkeys (h:RmR w0 w R s F):(s.book.map Prod.fst).Nodup:=by
 obtain⟨k,rfl,T,vp,d,h⟩:=h;exact h.bok.map.keys
theorem JN (c:CfR) (d:xY c=true) (w:World):
  Calls prog 7 #[θ #[ι c.room,ι c.hold,ι c.wait,ι c.space,ι c.retry,ι c.most]] w λe w'=> ∃R,e= .returned (.tuple #[γ R,ι 0])/\RmR w w' R (ud c) []/\qa w w':=
 (Nt c d w).mono λ_ _ h=>h.elim λk h=>⟨k.R,h.1,⟨k,rfl,h.2.1⟩,h.2.2⟩
theorem MU (h:RmR w0 w R s F) (G:xY s.cfg=true) (p s0 s1 s2:Int) {a:Int} (H:s.publish p s0 s1 s2=(s',a)):
  Calls prog 23 #[γ R,ι p,θ #[ω s0,ω s1,ω s2]] w λe w'=>e= .returned (ι a)/\RmR w0 w' R s' F/\qw F w w':=by
 obtain⟨k,rfl,h⟩:=h;refine(V0 h G p s0 s1 s2).mono ?_;rintro e w' ⟨k',I,rfl,d,t⟩;rw[H] at d ⊢;exact⟨rfl,⟨k',I,d⟩,t⟩
theorem Me (h:RmR w0 w R s F) (H:xY s.cfg=true) (x d sq st:Int) (N:U16 sq) (M:U32 d) {a:Int} (I:s.join x d sq st=(s',a)):
  Calls prog 24 #[γ R,ι x,ω d,φ sq,ω st] w λe w'=>e= .returned (ι a)/\RmR w0 w' R s' F/\qw F w w':=by
 obtain⟨k,rfl,h⟩:=h;refine(Hr h H x d sq st N M).mono ?_;rintro e w' ⟨k',J,rfl,G,t⟩;rw[I] at G ⊢;exact⟨rfl,⟨k',J,G⟩,t⟩
theorem LQ (h:RmR w0 w R s F) (H:qV n s) (I:n<=1000) (x p m:Int) {a:Int} (G:s.subscribe x p m=(s',a)):
  Calls prog 25 #[γ R,ι x,ι p,ι m] w λe w'=>e= .returned (ι a)/\RmR w0 w' R s' F/\qw F w w':=by
 obtain⟨k,rfl,h⟩:=h;refine(XM h (H.subs I) x p m).mono ?_;rintro e w' ⟨rfl,d,t⟩;rw[G] at d ⊢;exact⟨rfl,⟨k,rfl,d⟩,t⟩
theorem F5 (h:RmR w0 w R s F) (H:qV n s) (I:n<=1000) {a:Int} (G:s.tick=(s',a)):
  Calls prog 26 #[γ R] w λe w'=>e= .returned (ι a)/\RmR w0 w' R s' F/\qw F w w':=by
 obtain⟨k,rfl,h⟩:=h;refine(Hn h H I).mono ?_;rintro e w' ⟨rfl,d,t⟩;rw[G] at d ⊢;exact⟨rfl,⟨k,rfl,d⟩,t⟩
theorem LC (h:RmR w0 w R s F) (b:List Int) (v:Value) (M:SlI .u8 w v b) (G:Byt b) (J:b.length<=1000000) (I:0<=s.cnt.lost/\s.cnt.lost<=1000000000) {a:Int} (H:s.arrive b=(s',a)):
  Calls prog 28 #[γ R,v] w λe w'=>e= .returned (ι a)/\RmR w0 w' R s' F/\qw F w w':=by
 obtain⟨k,rfl,h⟩:=h;refine(Gf h b v M G J I).mono ?_;rintro e w' ⟨rfl,d,t⟩;rw[H] at d ⊢;exact⟨rfl,⟨k,rfl,d⟩,t⟩
theorem LS (h:RmR w0 w R s F) {a:Int} (G:s.shut=(s',a)):
  Calls prog 33 #[γ R] w λe w'=>e= .returned (ι a)/\RmR w0 w' R s' F/\qw F w w':=by
 obtain⟨k,rfl,h⟩:=h;refine(Ho h).mono ?_;rintro e w' ⟨rfl,d,t⟩;rw[G] at d ⊢;exact⟨rfl,⟨k,rfl,d⟩,t⟩
theorem F7 (h:RmR w0 w R s F) (H:qV n s) (I:n<=1000) (w1 w2:Int) (acc:Bool) {a:Bool} (G:s.pick (w1,w2) acc=(s',a)):
  Calls prog 30 #[γ R,θ #[ι w1,ι w2],acc] w λe w'=>e= .returned (μ a)/\RmR w0 w' R s' F/\qw F w w':=by
 obtain⟨k,rfl,h⟩:=h;refine(Hq h H I w1 w2 acc).mono ?_;rintro e w' ⟨rfl,d,t⟩;rw[G] at d ⊢;exact⟨rfl,⟨k,rfl,d⟩,t⟩
theorem Hv (h:RmR w0 w R s F) (G:qV n s) (H:n<=1000) (w1 w2:Int) {a:Bool} (d:s.may (w1,w2)=a):
  Calls prog 17 #[γ R,θ #[ι w1,ι w2]] w λe w'=>e= .returned (μ a)/\qa w w':=by
 obtain⟨k,rfl,T,vp,I,h⟩:=h;rw[<-d];exact LI h (G.rd H).clock w1 w2
theorem Yn (h:RmR w0 w R s F) {a b:Int} (d:(s.queue.length:Int)=a) (G:s.held=b):
  Calls prog 11 #[γ R] w λe w'=>e= .returned (.tuple #[ι a,ι b])/\qa w w':=by
 obtain⟨k,rfl,T,vp,H,h⟩:=h;rw[<-d,<-G];exact Lb h
theorem Ha (h:RmR w0 w R s F) (x:Int) {l:LnS} (d:s.ln x=l) {t:Bool} (G:(qh s.lanes x).isSome=t):Calls prog 20 #[γ R,ι x] w λe w'=>
  e= .returned (.tuple #[θ #[ι l.cur,ι l.tgt],θ #[ι l.A.length,ι l.B.length,ι l.C.length],l.gone,t])/\qa w w':=by
 obtain⟨k,rfl,T,vp,H,h⟩:=h;rw[<-d,<-G];exact MC h x
theorem KY (h:RmR w0 w R s F) (G:s.ret.length<=1000000) {a:Bool} (d:s.ended=a):Calls prog 19 #[γ R] w λe w'=>e= .returned (μ a)/\qa w w':=by
 obtain⟨k,rfl,T,vp,H,h⟩:=h;rw[<-d];exact Li h G
theorem IT (h:RmR w0 w R s F) {a:Int} (d:s.clock=a):Calls prog 34 #[γ R] w λe w'=>e= .returned (ι a)/\qa w w':=by
 obtain⟨k,rfl,h⟩:=h;rw[<-d];exact Lj h
theorem YI (h:RmR w0 w R s F) {c:CnR} (d:s.cnt=c):Calls prog 10 #[γ R] w λe w'=>e= .returned (θ #[ι c.lost,ι c.malf,ι c.strange,ι c.told,ι c.acc])/\qa w w':=by
 obtain⟨k,rfl,h⟩:=h;rw[<-d];exact FF h
theorem Ly (h:RmR w0 w R s F) (G:qV n s) (H:n<=1000) {i:Nat} {a:AcS} (d:s.pks[i]? =some a):
  Calls prog 12 #[γ R,ι (i:Int)] w λe w'=> ∃os oe ol ks ke kl,e= .returned (.tuple #[(Γi a.o.1 a.o.2 a.num a.pk os ks oe ke ol kl),true])/\PkS w' (δ os a.pk.ss.length ks) (δ oe a.pk.ex.length ke) (δ ol a.pk.pl.length kl) a.pk/\qa w w':=by
 obtain⟨k,rfl,T,vp,I,h⟩:=h;obtain⟨hi,e⟩:=List.getElem?_eq_some_iff.1 d;exact FE h (λa d=>(G.num.pkok a d).2.1) (G.rd H).pks hi e
theorem MO (h:RmR w0 w R s F) (x:Int) (d:(s.ln x).W.length<=1000000):Calls prog 32 #[γ R,ι x] w λe w'=>(∃v,e= .returned v/\je 2 (ROn w.heap.size) (λb=>b<w.heap.size) w' w.heap.size 107 v (s.ln x).W)/\qa w w':=by
 obtain⟨k,rfl,T,vp,G,h⟩:=h;exact CA h x d
theorem MT (h:RmR w0 w R s F) {G o2 d:Int} {body:List Int} (I:s.reqs=[⟨(G,o2),d,body⟩]) (H:body.length<=1000000):
  Calls prog 27 #[γ R] w λe w'=> ∃g cap ob kb,e= .returned (δ (some ⟨g,0,none⟩) 1 cap)/\w.heap.size<=g/\g<w'.heap.size/\(∀j v,[ι G,ι o2,ι d,δ ob body.length kb][j]? =some v->w'.cell? ⟨g,j,none⟩=some v)/\
   SlI .u8 w' (δ ob body.length kb) body/\(∀b,(δ ob body.length kb).ownBlock=some b->w.heap.size<=b)/\qa w w':=by
 obtain⟨k,rfl,T,vp,J,h⟩:=h;exact Mw h I H
end
theorem qw.cell {F:List Nat} {w w':World} (h:qw F w w') {b:Nat} (d:b∈F) (i:Nat):w'.cell? ⟨b,i,none⟩=w.cell? ⟨b,i,none⟩:=by
 unfold World.cell?;simp only;rw[h.2 b d]
theorem SlI.stays {F:List Nat} {w w':World} {k:IntKind} {v:Value} {l:List Int} (h:SlI k w v l) (t:qw F w w') (I: ∀b,v.ownBlock=some b->b∈F):SlI k w' v l:=by
 obtain⟨N,cap,rfl,d,G,H⟩:=h;refine⟨N,cap,rfl,d,λi hi=> ?_,H⟩;obtain⟨b,O,rfl,M,J⟩:=G i hi;exact⟨b,O,rfl,Nat.lt_of_lt_of_le M t.1,by rw[t.cell (I b rfl)];exact J⟩
theorem SlI.addr {w:World} {k:IntKind} {G:Option Addr} {n cap:Nat} {l:List Int} (h:SlI k w (δ G n cap) l) (J:0<l.length): ∃b d,G=some ⟨b,d,none⟩/\b<w.heap.size/\n=l.length:=by
 obtain⟨N,M,e,_,H,_⟩:=h;injection e with e1 e2 e3
 subst e1 e2 e3;obtain⟨b,d,rfl,I,_⟩:=H 0 J;exact⟨b,d,rfl,I,rfl⟩
theorem WO (x:Int) (w:World):Calls prog 29 #[ι x] w λe w'=>e= .returned (δ (some ⟨w.heap.size,0,none⟩) 5 5)/\w'.heap[w.heap.size]? =some (.cells #[ι 0,ι 0,ι 1,ι 0,ι 2,ι x,ι 3,ι x,ι 4,ι x] 36 (0,0))/\qa w w':=by
 go_enter func29,ntmps29
 go_wp2;go_ret;exact⟨rfl,qj _ _,qa.alloc _ _⟩
section
variable {P:Program} {t e:TypeId} {q:IntKind}
theorem PM (d:P.underlying e=some (.int q)) (n:Nat) (a b:Int) (w:World):(Op.equalIn (n+1) e (.int q a) (.int q b)).run P w= .ok (decide (a=b)) w:=by
 unfold Op.equalIn;rw[Sem.run_bind,run_underlying d];simp[Result.andThen,Sem.run,pure];rw[Bool.eq_iff_iff];simp
theorem Vt (d: ∀w,(isAgg e).run P w= .ok false w) (cs:Array Value) (i:Nat) (v:Value) (w:World) (h:cs[i]? =some v):(part e cs i).run P w= .ok v w:=by
 unfold part;rw[Sem.run_bind,d];simp[Result.andThen,h,Sem.run,pure]
theorem wV (G:P.underlying e=some (.int q)) (d: ∀w,(isAgg e).run P w= .ok false w) (n:Nat) (la lb:List Int) (w:World): ∀(is:List Nat),(∀i∈is,i<la.length/\i<lb.length)->
  (Op.eqItems (n+1) e 1 (la.map (Value.int q)).toArray (lb.map (Value.int q)).toArray is).run P w= .ok (decide (∀i∈is,la.getD i 0=lb.getD i 0)) w
 | [],_=>by simp[Op.eqItems,Sem.run,pure]
 | i::is,h=>by
  obtain⟨H,I⟩:=h i List.mem_cons_self;have M:=wV G d n la lb w is (λj J=>h j (List.mem_cons_of_mem _ J));unfold Op.eqItems;rw[Sem.run_bind,Vt d _ _ (.int q (la.getD i 0)) w (by simp[H])];simp only[Result.andThen_ok];rw[Sem.run_bind,Vt d _ _ (.int q (lb.getD i 0)) w (by simp[I])];simp only[Result.andThen_ok];rw[Sem.run_bind,PM G];simp only[Result.andThen_ok];by_cases e:la.getD i 0=lb.getD i 0
  ·rw[decide_eq_true e];simp only[Bool.not_true,Bool.false_eq_true,if_false,M]
   congr 1
   rw[Bool.eq_iff_iff];simp only[decide_eq_true_eq,List.forall_mem_cons];exact⟨λh=>⟨e,h⟩,λh=>h.2⟩
  ·rw[decide_eq_false e];simp only[Bool.not_false,if_true];have: ¬ ∀j∈i::is,la.getD j 0=lb.getD j 0:=λh=>e (h i List.mem_cons_self)
   rw[decide_eq_false this];rfl
theorem VJ {n:Nat} {la lb:List Int} (H:la.length=n) (I:lb.length=n):(∀i∈List.range n,la.getD i 0=lb.getD i 0)↔la=lb:=by
 constructor
 ·intro h;refine List.ext_getElem τ λi d G=> ?_
  have:=h i (List.mem_range.2 τ)
  simpa [d,G] using this
 ·rintro rfl i _;rfl
theorem Fz {n:Nat} {i:TypeInfo} (M:P.underlying t=some (.array n e)) (hi:P.info? e=some i) (I:P.cellsOf e=1) (J:P.underlying e=some (.int q)) (d: ∀w,(isAgg e).run P w= .ok false w) (la lb:List Int) (G:la.length=n) (H:lb.length=n) (w:World):
  (binOp .eql t (θ (la.map (Value.int q)).toArray) (θ (lb.map (Value.int q)).toArray)).run P w= .ok (μ (decide (la=lb))) w:=by
 rw[run_eql_struct,show (10000:Nat)=9998+1+1 from rfl,run_equalIn_array w (9998+1) _ _ M hi,I,wV J d 9998 la lb w _ (λi hi=>by have:=List.mem_range.1 hi;omega)];simp only[Result.andThen_ok]
 congr 2
 rw[Bool.eq_iff_iff];simp only[decide_eq_true_eq];exact VJ G H
theorem Fy {n:Nat} {i:TypeInfo} (M:P.underlying t=some (.array n e)) (hi:P.info? e=some i) (I:P.cellsOf e=1) (J:P.underlying e=some (.int q)) (d: ∀w,(isAgg e).run P w= .ok false w) (la lb:List Int) (G:la.length=n) (H:lb.length=n) (w:World):
  (binOp .neq t (θ (la.map (Value.int q)).toArray) (θ (lb.map (Value.int q)).toArray)).run P w= .ok (μ (!decide (la=lb))) w:=by
 rw[run_neq_struct,show (10000:Nat)=9998+1+1 from rfl,run_equalIn_array w (9998+1) _ _ M hi,I,wV J d 9998 la lb w _ (λi hi=>by have:=List.mem_range.1 hi;omega)];simp only[Result.andThen_ok]
 congr 3
 rw[Bool.eq_iff_iff];simp only[decide_eq_true_eq];exact VJ G H
end
end Go.Proofs.YtdgippmmaponfaaGreat
