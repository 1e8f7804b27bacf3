/- Contracts and plain laws. -/
import Derived.Test.YtlmllmonabafjaaGreatDoorMg5
import Derived.WalkMore
import Derived.ScopeJumps
namespace Go.Proofs.YtlmllmonabafjaaGreatDoor
open Go.Value renaming bool->μ,slice->δ,pointer->π,agg->θ
open Go.IntKind renaming i64->ι,u8->υ,u16->φ,u32->ω,i32->χ,u64->ψ
open _root_.Go.Proofs.Tryz
set_option linter.unusedSimpArgs false
set_option maxHeartbeats 8000000
set_option linter.unusedVariables false
open Go.RowKit
set_option maxRecDepth 100000
def vi:Nat->List qR->RdS->List qR×RdS
 | 0,acc,s=>(acc,s)
 | n+1,acc,s=>if (qQ s).2.1=[] then (acc++[(qQ s).1],(qQ s).2) else vi n (acc++[(qQ s).1]) (qQ s).2
def jG (b:List Int):List qR×Int:=
 if 200<b.length then ([],4) else if (vi (b.length+1) [] (b,0)).2.2=0 then ((vi (b.length+1) [] (b,0)).1,0) else ([],(vi (b.length+1) [] (b,0)).2.2)
theorem vL (s:RdS) (x:Int):(wrS s x).1.length<=s.1.length:=by unfold wrS;split<;>simp
theorem uP (s:RdS) (n:Int):(tkS s n).1.length<=s.1.length:=by
 show (tkL s.1 n).length<=_;unfold tkL;simp
theorem ZI (s:RdS):(qQ s).2.1.length<=s.1.length-1:=by
 have d:(zb s).2.1.length<=s.1.length-1:=by
  show (tkS (tkS (tkS s 1) 1) 2).1.length<=_;have d:=uP (tkS (tkS s 1) 1) 2;have G:=uP (tkS s 1) 1;have H:(tkS s 1).1.length=s.1.length-1:=by
   show (tkL s.1 1).length=_;unfold tkL;simp
  omega
 have G:(ug (zb s).1.1 (zb s).2).1.length<=(zb s).2.1.length:=by
  unfold ug;split
  ·exact vL _ _
  ·exact Nat.le_refl _
 have H: ∀f t n s,(vK f t n s).2.1.length<=s.1.length:=by
  intro f t n s;have:=uP s (4* n);unfold vK;split
  ·exact this
  ·simp only;split
   ·exact Nat.le_trans (vL _ _) this
   ·exact this
 exact Nat.le_trans (H _ _ _ _) (Nat.le_trans G d)
structure yF (w0 w:World) (R B0:Nat) (C:Nat->Prop) (b:List Int) (v:Value) (acc:List qR) (s:RdS):Prop where
 rd:qr w R s.1 s.2 C
 row:qV 3 yG (λk=>k=R) w B0 291 v acc
 more:qa w0 w
 len:acc.length+s.1.length<=b.length
 ans: ∃n,s.1.length<n/\vi n acc s=vi (b.length+1) [] (b,0)
 hR:w0.heap.size<=R
 RB:R<B0
 BW:B0<=w.heap.size
 CB: ∀g,C g->g<B0
theorem yF.body {I w w6 w8:World} {R G:Nat} {C:Nat->Prop} {b:List Int} {v v':Value} {acc:List qR} {s:RdS} {o:Obj} (h:yF I w R G C b v acc s)
  (ab:qr w6 R (qQ s).2.1 (qQ s).2.2 C) (J:qg (λb=>b=R) w w6) (ac:qV 3 yG (λk=>k=R) w8 G 291 v' (acc++[(qQ s).1])) (d:(w6.alloc o).grownBy w8 v.ownBlock):
  qr w8 R (qQ s).2.1 (qQ s).2.2 C/\qa I w8/\G<=w8.heap.size:=by
 have H: ∀g,v.ownBlock=some g->G<=g:=λg e=>h.row.ge e
 have aa:qa I (w6.alloc o):=(JE J h.more h.hR).al o;have N:qg (λk=>v.ownBlock=some k) (w6.alloc o) w8:=⟨d.os,d.tape,d.output,d.size,λk U Y=>d.block k U (λe=>Y e.symm)⟩;refine⟨(ab.more (qa.alloc w6 o)).off N (λe=> ?_) (λg O e=> ?_),qg.to_more aa N (λk e=> ?_),Nat.le_trans h.BW (Nat.le_trans J.size (Nat.le_trans (qa.alloc w6 o).size d.size))⟩
 ·have:=H R e;have:=h.RB;omega
 ·have:=H g e;have:=h.CB g O;omega
 ·have:=H k e;have:=h.RB;have:=h.hR;omega
theorem yF.next {H w w8:World} {R d:Nat} {C:Nat->Prop} {b:List Int} {v v':Value} {acc:List qR} {s:RdS} (h:yF H w R d C b v acc s)
  (J:qV 3 yG (λk=>k=R) w8 d 291 v' (acc++[(qQ s).1])) (G:qr w8 R (qQ s).2.1 (qQ s).2.2 C/\qa H w8/\d<=w8.heap.size) (I: ¬(qQ s).2.1=[]):
  yF H w8 R d C b v' (acc++[(qQ s).1]) (qQ s).2:=by
 have N:=ZI s;have O:=List.length_pos_iff.2 I;refine⟨G.1,J,G.2.1, ?_, ?_,h.hR,h.RB,G.2.2,h.CB⟩
 ·have:=h.len;simp;omega
 ·obtain⟨n,U,e⟩:=h.ans;cases n with
  | zero=>omega
  | succ n=>
   refine⟨n,τ, ?_⟩;rw[<-e,vi,if_neg I]
theorem yF.stop {I w:World} {R d:Nat} {C:Nat->Prop} {b:List Int} {v:Value} {acc:List qR} {s:RdS} (h:yF I w R d C b v acc s) (G: ¬200<b.length) (H:(qQ s).2.1=[]):
  jG b=if (qQ s).2.2=0 then (acc++[(qQ s).1],0) else ([],(qQ s).2.2):=by
 obtain⟨n,J,e⟩:=h.ans;cases n with
 | zero=>omega
 | succ n=>
  rw[vi,if_pos H] at e;unfold jG;rw[if_neg G,<-e]
theorem DK {w:World} {R:Nat} {e:Int} {C:Nat->Prop} (h:qr w R [] e C):
  Calls prog 59 #[γ R] w λd w'=>d= .returned (ι e)/\w'=w:=by
 refine(yY h).mono ?_;rintro d w' ⟨rfl,rfl⟩;refine⟨?_,rfl⟩;by_cases x:e=0
 ·rw[if_neg (by simp[x]),if_neg η,x]
 ·rw[if_pos x]
def QV:Value->Nat
 | .slice _ n _=>n
 | _=>0
theorem Kl {J w:World} {R G:Nat} {C:Nat->Prop} {b:List Int} {v vb:Value} {acc:List qR} {s:RdS} (h:yF J w R G C b v acc s) (H: ∀g,vb.ownBlock=some g->w.heap.size<=g) (k:Nat) (I:vb.ownBlock=some k) (d:k=R∨v.ownBlock=some k):False:=by
 have N:=H k I;rcases d with rfl | d
 ·have:=h.RB;have:=h.BW;omega
 ·have:=h.row.lt d;omega
theorem Bv {G w w6:World} {R d:Nat} {C:Nat->Prop} {b:List Int} {v:Value} {acc:List qR} {s:RdS} {o:Obj} (h:yF G w R d C b v acc s) (a:qg (λb=>b=R) w w6) {k:Nat} (H:k=R):k<(w6.alloc o).heap.size:=by
 have:=h.RB;have:=h.BW;have:=a.size;have:=(qa.alloc w6 o).size;omega
theorem UC {G w w6:World} {R d:Nat} {C:Nat->Prop} {b:List Int} {v:Value} {acc:List qR} {s:RdS} {o:Obj} (h:yF G w R d C b v acc s) (a:qg (λb=>b=R) w w6):d<=(w6.alloc o).heap.size:=by
 have:=h.BW;have:=a.size;have:=(qa.alloc w6 o).size;omega
theorem Yf (v:Value) (b:List Int) (w:World) (sl:SlI .u8 w v b) (J:Byt b) (bl:b.length<=1000000):
  Calls prog 240 #[v] w λe w'=> ∃vl,e= .returned (.tuple #[vl,ι (jG b).2])/\SlP 3 yG w' vl (jG b).1/\qa w w':=by
 obtain⟨br,hi,bn,bo,bp⟩:=info_parts (P:=prog) (e:=291) (z:= θ #[υ 0,υ 0,()]) (size:=3) (bytes:=32) ξ;have bg:=κ sl;obtain⟨bt,bh,rfl,_⟩:=sl;by_cases h200:200<b.length
 ·have N:jG b=([],4):=by unfold jG;rw[if_pos h200]
  have aa:=κ N;have bk:(200:Int)<(b.length:Int):=by omega
  clear N
  go_enter func240,ntmps240
  go_wp2
  go_step3
  go_wp2;simp only[Exit.noGoto]
  (refine bodyPost_ret (v:= .tuple #[δ none 0 0,ι 4]) ?rr1 rfl ?_;(case rr1=>(simp[results,results240,go_sem])))
  exact⟨_,by rw[aa.o],by rw[aa.o];exact SlP.nil _ _ _,qa.refl _⟩
 ·have bk: ¬(200:Int)<(b.length:Int):=by omega
  have bu:b.length<=200:=by omega
  go_enter func240,ntmps240
  go_wp2;refine wp_scope_jumps 0 (λa' w'=> ∃R G C am ad ag acc s aI aZ ba u8 bb aJ aK aL aM aN aO aP aQ aR aS aT aU aV aW aX aY,a'={tmps:= #[δ bt b.length bh,aI,(),ι 0,γ R,δ am ad ag,aZ,ba,u8,bb,aJ,aK,aL,aM,aN,aO,aP,aQ,aR,aS,aT,aU,aV,aW,aX,aY],defers:=[]}/\yF w w' R G C b (δ am ad ag) acc s/\ad=acc.length) (λa' _=>300-QV (a'.tmps.getD 5 undef)) rfl ?ja ?jb
  case' jb=>
   rintro a' w' ⟨R,G,C,am,ad,ag,acc,s,aI,aZ,ba,u8,bb,aJ,aK,aL,aM,aN,aO,aP,aQ,aR,aS,aT,aU,aV,aW,aX,aY,rfl,aA,aC⟩;have d:=κ aA;have bf:=κ aC;clear aA aC
  case' ja=>
   go_wp2_with (go_at_call 51;(go_call kr _ b w bg.o J bl as e w1 ⟨R,rfl,aw,ak,bm⟩))
   go_step3
   have d:Hid (yF w w1 R w1.heap.size (λg=>w.heap.size<=g/\g<w1.heap.size) b (δ none 0 0) [] (b,0)):=κ ⟨ak,qV.nil _ _ _ _ _ _,bm,η,⟨b.length+1,η,rfl⟩,aw,by obtain⟨v,bi,_⟩:=ak.blk;exact ql bi,Nat.le_refl _,λg h=>h.2⟩;obtain⟨s,N⟩: ∃s:RdS,s=(b,0):=⟨_,rfl⟩;rw[<-N] at d;obtain⟨acc,ax⟩: ∃acc:List qR,acc=[]:=⟨_,rfl⟩;rw[<-ax] at d;obtain⟨G,au⟩: ∃G,G=w1.heap.size:=⟨_,rfl⟩;obtain⟨C,av⟩: ∃C:Nat->Prop,C=λg=>w.heap.size<=g/\g<w1.heap.size:=⟨_,rfl⟩
   rw[<-av,<-au] at d;clear N ax au av ak aw
  all_goals
   obtain⟨m,aB⟩: ∃m:Bool,decide ((0:Int)<((qQ s).2.1.length:Int))=m:=⟨_,rfl⟩;have U:=κ aB
   go_upto_if 19 with (first | (go_at_call 279;(go_call Wr d.o.rd as e w6 ⟨⟨vb,rfl,aH,aF,ar⟩,aG,ap⟩;have aa:=κ aH;have be:=κ aF;have bd:=κ ar;have bc:=κ aG;have O:=κ ap;obtain⟨aE,aq,rfl,_⟩:=aH;clear ar aG aF ap)) | (at_builtin;refine jj _ rfl (.tmp 12) (.tmp 15) 385 rfl G 291 br (θ #[υ 0,υ 0,()]) 3 32 underlying385 hi bn bo bp rfl ζ _ acc rfl ((d.o.row.step O.o).on (qa.alloc w6 (.cells #[υ (qQ s).1.1,υ (qQ s).1.2.1,δ aE (qQ s).1.2.2.1.length aq] 291))) w6.heap.size [υ (qQ s).1.1,υ (qQ s).1.2.1,δ aE (qQ s).1.2.2.1.length aq] (qQ s).1 rfl rfl (xO rfl) (by simp[Value.oneCell']) (λw' a'=>Kb ((aa.o.keep (qa.alloc _ _)).off (λb J bj=>Kl d.o bd.o b J bj) a') be.o) (λb h=>Bv d.o O.o h) ζ (by have:=d.o.len;omega) (UC d.o O.o) ?_;intro v' w8 ac az J;have af:=κ ac;have H:=κ (d.o.body bc.o O.o ac az);obtain⟨an,al,ah,rfl,aD,bq⟩:=ac.shape;have ae:=κ aD;clear ac az J aD bq) | (go_at_call 57;(go_call zl H.o.1 as e w9 ⟨rfl,rfl⟩)))
   clear aB;cases m with
   | false=>
    have bs:((qQ s).2.1.length:Int)=0:=by have:=of_decide_eq_false U.o;omega
    have aj:(qQ s).2.1=[]:=List.eq_nil_of_length_eq_zero (by have:=of_decide_eq_false U.o;omega);have ab:=κ (d.o.stop h200 aj);have Y:=κ aj;clear aj;obtain⟨ai,ay⟩: ∃ai:Bool,((qQ s).2.2 != 0)=ai:=⟨_,rfl⟩;have ao:=κ ay
    go_upto_if 23 with (go_at_call 59;(go_call DK (R:=R) (e:=(qQ s).2.2) (C:=C) (by (have:=H.o.1;rw[Y.o] at this;exact this)) as e w10 ⟨rfl,rfl⟩))
    clear ay;cases ai with
    | false=>
     have I:Hid ((qQ s).2.2=0):=κ (by simpa using ao.o);go_wp2;simp only[Exit.jump]
     (refine bodyPost_ret (v:= .tuple #[δ an al ah,ι 0]) ?rr2 rfl ?_;(case rr2=>(simp[results,results240,go_sem])))
     exact⟨_,by rw[ab.o,if_pos I.o],by rw[ab.o,if_pos I.o];exact af.o.sl ζ,H.o.2.1⟩
    | true=>
     have I:Hid (¬(qQ s).2.2=0):=κ (by simpa using ao.o);go_wp2;simp only[Exit.jump]
     (refine bodyPost_ret (v:= .tuple #[δ none 0 0,ι (qQ s).2.2]) ?rr3 rfl ?_;(case rr3=>(simp[results,results240,go_sem])))
     exact⟨_,by rw[ab.o,if_neg I.o],by rw[ab.o,if_neg I.o];exact SlP.nil _ _ _,H.o.2.1⟩
   | true=>
    have bs:(0:Int)<((qQ s).2.1.length:Int):=of_decide_eq_true U.o;have Y:Hid (¬(qQ s).2.1=[]):=κ (λe=>by have:=of_decide_eq_true U.o;rw[e] at this;simp at this);go_wp2
    go_step3
    first
     | exact⟨rfl,R,G,C,an,al,ah,_,_,_,_,_,_,_,_,_,_,_,_,_,_,_,_,_,_,_,_,_,_,_,rfl,d.o.next af.o H.o Y.o,ae.o⟩
     | exact⟨rfl,⟨R,G,C,an,al,ah,_,_,_,_,_,_,_,_,_,_,_,_,_,_,_,_,_,_,_,_,_,_,_,rfl,d.o.next af.o H.o Y.o,ae.o⟩,by have:=ae.o;have:=d.o.len;have:=bf.o;simp[QV] at *;omega⟩
theorem ko {l:List Int} {n e:Int} (h:tkE l n e=0):e=0/\n<=l.length:=by
 unfold tkE at h;split at h
 ·cases h
 ·rename_i x;refine⟨h, ?_⟩;rcases Int.lt_or_le (l.length:Int) n with y | y
  ·exact absurd ⟨y,h⟩ x
  ·exact y
theorem Yx (s:RdS): ¬(wrS s 2).2=0:=by
 unfold wrS;split
 ·rename_i h;rcases h with h | h
  ·cases h
  ·exact h
 ·decide
theorem GY {b:List Int} (G:Byt b) (h:(xe b).2=true):(xe b).1.length<b.length/\(b.length%4=0->(xe b).1.length%4=0):=by
 unfold xe at h ⊢;split at h
 ·cases h
 ·rename_i d;rw[if_neg d];simp only at h ⊢;have H:=G (b.length-1);generalize b.getD (b.length-1) 0=n at *;split at h
  ·cases h
  ·rename_i x;rw[if_neg x];have I:=List.length_pos_iff.2 d;simp only[List.length_take];omega
theorem XC (L:List Int) (E:Int) (O:Byt L) (h:(qQ (L,E)).2.2=0):
  E=0/\(qQ (L,E)).1.1<=31/\(qQ (L,E)).1.2.2.1.length%4=0/\(chB (qQ (L,E)).1).length+(qQ (L,E)).2.1.length<=L.length/\((chB (qQ (L,E)).1).length+(qQ (L,E)).2.1.length=L.length->chB (qQ (L,E)).1++(qQ (L,E)).2.1=L):=by
 have J:Byt (tkL L 1):=O.drop _;have H:Byt (tkL (tkL L 1) 1):=J.drop _;have af:Byt (tkL (tkL (tkL L 1) 1) 2):=H.drop _;have al:zb (L,E)=((num (tkB L 1),num (tkB (tkL L 1) 1),num (tkB (tkL (tkL L 1) 1) 2)),(tkL (tkL (tkL L 1) 1) 2,tkE (tkL (tkL L 1) 1) 2 (tkE (tkL L 1) 1 (tkE L 1 E)))):=rfl;have ai:qQ (L,E)=vK (zb (L,E)).1.1 (zb (L,E)).1.2.1 (zb (L,E)).1.2.2 (ug (zb (L,E)).1.1 (zb (L,E)).2):=rfl;rw[ai] at h ⊢;rw[al] at h ⊢;simp only at h ⊢;generalize ah:tkL (tkL (tkL L 1) 1) 2=L3 at *;generalize ag:tkE (tkL (tkL L 1) 1) 2 (tkE (tkL L 1) 1 (tkE L 1 E))=E3 at *;generalize aj:num (tkB L 1)=f at *;generalize ar:num (tkB (tkL L 1) 1)=t at *;generalize U:num (tkB (tkL (tkL L 1) 1) 2)=n at *;have ak:ug f (L3,E3)=(L3,E3)/\128<=f/\f<=191:=by
  by_cases x:f<128∨191<f
  ·exfalso;have e:ug f (L3,E3)=wrS (L3,E3) 2:=by unfold ug;rw[if_pos x]
   rw[e] at h;have Y:=Yx (L3,E3);generalize wrS (L3,E3) 2=s at *;unfold vK at h;split at h
   ·exact Y (ko h).1
   ·simp only at h;split at h
    ·exact Yx _ h
    ·exact Y (ko h).1
  ·exact⟨by unfold ug;rw[if_neg x],τ,τ⟩
 obtain⟨ae,aG,aH⟩:=ak;rw[ae] at h ⊢;have av:tkE L3 (4* n) E3=0:=by
  unfold vK at h;split at h
  ·exact h
  ·simp only at h;split at h
   ·exact absurd h (Yx _)
   ·exact h
 obtain⟨aa,ap⟩:=ko av;rw[<-ag] at aa;obtain⟨ay,ao⟩:=ko aa;obtain⟨ax,an⟩:=ko ay;obtain⟨aw,am⟩:=ko ax;subst aw;obtain⟨az,aC⟩:=uO ζ am;obtain⟨aA,aD⟩:=uO ζ an;obtain⟨ab,ac⟩:=uO ζ ao;have aq:=zv _ 2 (jI H 2) (by rw[ac];decide) ζ;rw[U] at aq;obtain⟨aB,aE⟩:=uO (l:=L3) (n:=4* n) τ ap;have w1:=gZ (jI O 1) 1 aC ζ;have w2:=gZ (jI J 1) 1 aD ζ;have ad:=gZ (jI H 2) 2 ac ζ;rw[aj] at w1;rw[ar] at w2;rw[U] at ad;rw[ah] at ab;have N:L=qx f 1++(qx t 1++(qx n 2++(tkB L3 (4* n)++tkL L3 (4* n)))):=by
  conv=>lhs;rw[az,aA,ab,aB]
  rw[show qx f 1=tkB L 1 from w1,show qx t 1=tkB (tkL L 1) 1 from w2,show qx n 2=tkB (tkL (tkL L 1) 1) 2 from ad]
 have aI:L.length=4+(tkB L3 (4* n)).length+(tkL L3 (4* n)).length:=by
  conv=>lhs;rw[N]
  simp only[List.length_append,qI _ _ (show (0:Int)<=1/\(1:Int)<=8 by decide),qI _ _ (show (0:Int)<=2/\(2:Int)<=8 by decide)];simp;omega
 refine⟨rfl, ?_⟩;unfold vK at h ⊢;by_cases hp:f%64<32
 ·rw[if_pos hp];have G:tkS (L3,E3) (4* n)=(tkL L3 (4* n),tkE L3 (4* n) E3):=rfl;rw[G];simp only;have d:chB (f%32,t,tkB L3 (4* n),())=qx f 1++(qx t 1++(qx n 2++tkB L3 (4* n))):=by
   unfold chB;simp only;rw[show 128+f%32=f by omega,aE,show 4* n/4=n by omega]
  have I:=YT (f%32,t,tkB L3 (4* n),());simp only at I;refine⟨τ,τ,τ,λ_=> ?_⟩;rw[d]
  conv=>rhs;rw[N]
  simp only[List.append_assoc]
 ·rw[if_neg hp] at h ⊢;simp only at h ⊢;have G:tkS (L3,E3) (4* n)=(tkL L3 (4* n),tkE L3 (4* n) E3):=rfl;rw[G] at h ⊢;by_cases d:(xe (tkB L3 (4* n))).2=false∨ ¬(tkL L3 (4* n),tkE L3 (4* n) E3).1=[]
  ·rw[if_pos d] at h;exact absurd h (Yx _)
  ·rw[if_neg d];have au:(xe (tkB L3 (4* n))).2=true:=by
    cases x:(xe (tkB L3 (4* n))).2 with
    | true=>rfl
    | false=>exact absurd (Or.inl x) d
   obtain⟨aJ,aF⟩:=GY (jI af (4* n)) au;have I:=YT (f%32,t,(xe (tkB L3 (4* n))).1,());simp only at I ⊢;refine⟨τ,aF τ,τ,λx=>by omega⟩
theorem jH {s:RdS} (h:Byt s.1) (n:Int):Byt (tkS s n).1:=h.drop _
theorem gC {s:RdS} (h:Byt s.1) (x:Int):Byt (wrS s x).1:=by
 unfold wrS;split
 ·exact h
 ·exact xf
theorem Pq {s:RdS} (h:Byt s.1):Byt (qQ s).2.1:=by
 have G:Byt (zb s).2.1:=jH (jH (jH h 1) 1) 2;have d:Byt (ug (zb s).1.1 (zb s).2).1:=by
  unfold ug;split
  ·exact gC G 2
  ·exact G
 show Byt (vK _ _ _ _).2.1;unfold vK;split
 ·exact jH d _
 ·simp only;split
  ·exact gC (jH d _) 2
  ·exact jH d _
theorem uA (c:qR) (l:List qR):flC (c::l)=chB c++flC l:=rfl
theorem Q6: ∀(n:Nat) (acc:List qR) (L:List Int) (E:Int),Byt L->L.length<n->(vi n acc (L,E)).2.2=0->
  ∃k,(vi n acc (L,E)).1=acc++k/\E=0/\(∀c∈k,c.1<=31/\c.2.2.1.length%4=0)/\(flC k).length<=L.length/\((flC k).length=L.length->flC k=L)
 | 0,_,_,_,_,h,_=>by omega
 | n+1,acc,L,E,hb,hn,h=>by
  have U:=ZI (L,E);rw[vi] at h ⊢;by_cases e:(qQ (L,E)).2.1=[]
  ·rw[if_pos e] at h ⊢;obtain⟨H,I,J,N,G⟩:=XC L E hb h;rw[e] at N G;refine⟨[(qQ (L,E)).1],rfl,H,λc d=> ?_, ?_, ?_⟩
   ·simp at d;subst d;exact⟨I,J⟩
   ·rw[uA];simpa [flC] using N
   ·rw[uA];simpa [flC] using G
  ·rw[if_neg e] at h ⊢;have ad:=List.length_pos_iff.2 e;have O:Byt (qQ (L,E)).2.1:=Pq hb;obtain⟨k,Y,aa,ab,ae,ac⟩:=Q6 n (acc++[(qQ (L,E)).1]) (qQ (L,E)).2.1 (qQ (L,E)).2.2 O (by simp only at U;omega) h;obtain⟨H,I,J,N,G⟩:=XC L E hb aa;refine⟨(qQ (L,E)).1::k,by rw[Y];simp,H,λc d=> ?_, ?_,λx=> ?_⟩
   ·simp at d;rcases d with rfl | d
    ·exact⟨I,J⟩
    ·exact ab c d
   ·rw[uA,List.length_append];omega
   ·rw[uA,List.length_append] at x;rw[uA,ac τ];exact G τ
theorem Ar: ∀(l:List Nat) (x:Nat),x∈l->x<=l.sum
 | y::l,x,h=>by
  simp at h;rcases h with rfl | h
  ·simp
  ·have:=Ar l x h;simp;omega
theorem Q7 {b:List Int} {k:List qR} (I:Byt b) (h:jG b=(k,0)):kg k=(flC k,0)/\(flC k).length<=b.length/\((flC k).length=b.length->flC k=b)/\szC k<=200:=by
 unfold jG at h;split at h
 ·cases h
 ·rename_i aa;split at h
  ·rename_i N;obtain⟨k',O,_,G,U,Y⟩:=Q6 (b.length+1) [] b 0 I τ N;rw[O] at h;obtain rfl:k'=k:=by injection h
   have J:szC k'<=200:=by rw[<-YS];omega
   refine⟨?_,U,Y,J⟩;have H:k'.all jt=true:=by
    rw[List.all_eq_true];intro c d;have ab:4+c.2.2.1.length<=szC k':=by
     unfold szC;exact Ar _ _ (List.mem_map.2 ⟨c,d,rfl⟩)
    rw[zN];exact⟨(G c d).1,(G c d).2,τ⟩
   unfold kg;rw[if_neg (by rw[H];simp),if_neg τ]
  ·rename_i x;exact absurd (congrArg Prod.snd h) x
theorem CF {l:List qR} {x:List Int} (h:kg l=(x,0)):x=flC l/\(∀c∈l,jt c=true)/\szC l<=200:=by
 unfold kg at h;split at h
 ·cases h
 ·rename_i d;split at h
  ·cases h
  ·rename_i H;have G:flC l=x:=by injection h
   refine⟨G.symm, ?_,τ⟩;have:l.all jt=true:=by
    cases y:l.all jt with
    | true=>rfl
    | false=>exact absurd y d
   exact List.all_eq_true.1 this
section
open Go.RowKit Go.ChangeShapes
structure Blk where
 src:Int
 part:Int
 miss:Int
 high:Int
 jit:Int
 last:Int
 dly:Int
def Blk.tup (b:Blk):Int×Int×Int×Int×Int×Int×Int:=(b.src,b.part,b.miss,b.high,b.jit,b.last,b.dly)
theorem Blk.tup_inj {a b:Blk} (h:a.tup=b.tup):a=b:=by
 obtain⟨⟩:=a;obtain⟨⟩:=b;simp only[Blk.tup,Prod.mk.injEq] at h;simp[h]
instance:DecidableEq Blk:=λ_ _=>decidable_of_iff _ ⟨Blk.tup_inj,λh=>by rw[h]⟩
structure Inf where
 sec:Int
 frac:Int
 stamp:Int
 pkts:Int
 octs:Int
def Inf.tup (b:Inf):Int×Int×Int×Int×Int:=(b.sec,b.frac,b.stamp,b.pkts,b.octs)
theorem Inf.tup_inj {a b:Inf} (h:a.tup=b.tup):a=b:=by
 obtain⟨⟩:=a;obtain⟨⟩:=b;simp only[Inf.tup,Prod.mk.injEq] at h;simp[h]
instance:DecidableEq Inf:=λ_ _=>decidable_of_iff _ ⟨Inf.tup_inj,λh=>by rw[h]⟩
structure Rep where
 snd:Bool
 src:Int
 inf:Inf
 bl:List Blk
def Rep.tup (b:Rep):Bool×Int×Inf×List Blk:=(b.snd,b.src,b.inf,b.bl)
theorem Rep.tup_inj {a b:Rep} (h:a.tup=b.tup):a=b:=by
 obtain⟨⟩:=a;obtain⟨⟩:=b;simp only[Rep.tup,Prod.mk.injEq] at h;simp[h]
instance:DecidableEq Rep:=λ_ _=>decidable_of_iff _ ⟨Rep.tup_inj,λh=>by rw[h]⟩
structure QX (b:Blk):Prop where
 src:U32 b.src
 part:0<=b.part/\b.part<=255
 miss: -2147483648<=b.miss/\b.miss<=2147483647
 high:U32 b.high
 jit:U32 b.jit
 last:U32 b.last
 dly:U32 b.dly
structure WK (b:Inf):Prop where
 sec:U32 b.sec
 frac:U32 b.frac
 stamp:U32 b.stamp
 pkts:U32 b.pkts
 octs:U32 b.octs
structure ZC (r:Rep):Prop where
 src:U32 r.src
 inf:WK r.inf
 bl: ∀b∈r.bl,QX b
def Blk.cells (b:Blk):List Value:=[.int .u32 b.src,.int .u8 b.part,.int .i32 b.miss,.int .u32 b.high,.int .u32 b.jit,.int .u32 b.last,.int .u32 b.dly]
def Yu:qJ Blk:=λ_ cs b=>cs=b.cells/\QX b
theorem CD:wC Yu:=λ_ _ _ _ _ h=>h
theorem EW {α:Type} {n:Nat} {R:qJ α} {w:World} {v:Value} {L:List α} (h:SlP n R w v L) {p:α->Prop} (H: ∀cs y,R w cs y->p y): ∀b∈L,p b:=by
 obtain⟨_,_,_,_,d,_⟩:=h;intro b G;obtain⟨i,hi,rfl⟩:=List.mem_iff_getElem.1 G;obtain⟨_,_,_,_,_,_,_,I⟩:=d i hi;exact H _ _ I
def Γm (x:Rep) (a:Option Addr) (b:Nat):Mm:=.o
instance (x:Rep) (a:Option Addr) (b:Nat):CoeDep Mm (Γm x a b) (List Value):=⟨[μ x.snd,ω x.src,ω x.inf.sec,ω x.inf.frac,ω x.inf.stamp,ω x.inf.pkts,ω x.inf.octs,δ a x.bl.length b]⟩
instance (x:Rep) (a:Option Addr) (b:Nat):CoeDep Mm (Γm x a b) (Array Value):=⟨((Γm x a b):List Value).toArray⟩
instance (x:Rep) (a:Option Addr) (b:Nat):CoeDep Mm (Γm x a b) Value:=⟨θ (Γm x a b)⟩
def Γn (s:Bool) (r:Int) (x:Inf) (a:Option Addr) (l:List Blk) (b:Nat):Mm:=.o
instance (s:Bool) (r:Int) (x:Inf) (a:Option Addr) (l:List Blk) (b:Nat):CoeDep Mm (Γn s r x a l b) (List Value):=⟨[μ s,ω r,ω x.sec,ω x.frac,ω x.stamp,ω x.pkts,ω x.octs,δ a l.length b]⟩
instance (s:Bool) (r:Int) (x:Inf) (a:Option Addr) (l:List Blk) (b:Nat):CoeDep Mm (Γn s r x a l b) (Array Value):=⟨((Γn s r x a l b):List Value).toArray⟩
instance (s:Bool) (r:Int) (x:Inf) (a:Option Addr) (l:List Blk) (b:Nat):CoeDep Mm (Γn s r x a l b) Value:=⟨θ (Γn s r x a l b)⟩
end
def Jr:Inf:=⟨0,0,0,0,0⟩
def Qr:Rep:=⟨false,0,Jr,[]⟩
def kI (b:Blk):Bool:=decide (-8388608<=b.miss/\b.miss<=8388607)
def vR (r:Rep):Bool:=(r.snd||decide (r.inf=Jr))&&r.bl.all kI&&decide (r.bl.length<=if r.snd then 7 else 8)
def JU (b:Blk):List Int:=qx b.src 4++(qx b.part 1++(qx (b.miss%4294967296) 3++(qx b.high 4++(qx b.jit 4++(qx b.last 4++qx b.dly 4)))))
def flR (l:List Blk):List Int:=l.flatMap JU
def Yq (i:Inf):List Int:=qx i.sec 4++(qx i.frac 4++(qx i.stamp 4++(qx i.pkts 4++qx i.octs 4)))
def Zy (r:Rep):List Int:=qx r.src 4++(if r.snd then Yq r.inf else [])
def Zc (r:Rep):List Int:=Zy r++flR r.bl
def Qv (r:Rep):qR×Int:=if vR r then (((r.bl.length:Int),(if r.snd then 200 else 201),Zc r,()),0) else ((0,0,[],()),1)
def xQ (s:RdS):Int:=num (tkB s.1 4)
def jv (s:RdS):Inf×RdS:=
 (⟨xQ s,xQ (tkS s 4),xQ (tkS (tkS s 4) 4),xQ (tkS (tkS (tkS s 4) 4) 4),xQ (tkS (tkS (tkS (tkS s 4) 4) 4) 4)⟩,tkS (tkS (tkS (tkS (tkS s 4) 4) 4) 4) 4)
def qM (s:RdS):Blk×RdS:=
 (⟨xQ s,num (tkB (tkS s 4).1 1),sgd (num (tkB (tkS (tkS s 4) 1).1 3)) 24,xQ (tkS (tkS (tkS s 4) 1) 3),xQ (tkS (tkS (tkS (tkS s 4) 1) 3) 4),xQ (tkS (tkS (tkS (tkS (tkS s 4) 1) 3) 4) 4),xQ (tkS (tkS (tkS (tkS (tkS (tkS s 4) 1) 3) 4) 4) 4)⟩,tkS (tkS (tkS (tkS (tkS (tkS (tkS s 4) 1) 3) 4) 4) 4) 4)
def jr:Nat->RdS->List Blk×RdS
 | 0,s=>([],s)
 | n+1,s=>((qM s).1::(jr n (qM s).2).1,(jr n (qM s).2).2)
def wO (s:RdS):Int:=if ¬s.2=0 then s.2 else if 0<s.1.length then 4 else 0
def vg (r:Rep) (s:RdS):Rep×Int:=if wO s=0 then (r,0) else (Qr,wO s)
def qC (c:qR):Rep×Int:=
 if jt c=false then (Qr,1)
 else if c.2.1=200 then vg ⟨true,xQ (c.2.2.1,0),(jv (tkS (c.2.2.1,0) 4)).1,(jr c.1.toNat (jv (tkS (c.2.2.1,0) 4)).2).1⟩ (jr c.1.toNat (jv (tkS (c.2.2.1,0) 4)).2).2
 else if c.2.1=201 then vg ⟨false,xQ (c.2.2.1,0),Jr,(jr c.1.toNat (tkS (c.2.2.1,0) 4)).1⟩ (jr c.1.toNat (tkS (c.2.2.1,0) 4)).2
 else (Qr,5)
theorem Jd {s:RdS} (h:Ju s):(jv s).2=adv s 20:=by
 show tkS (tkS (tkS (tkS (tkS s (4:Nat)) (4:Nat)) (4:Nat)) (4:Nat)) (4:Nat)=_;rw[gE 4 h,xE,xE,xE,xE]
theorem Je {s:RdS} (h:Ju s):(qM s).2=adv s 24:=by
 show tkS (tkS (tkS (tkS (tkS (tkS (tkS s (4:Nat)) (1:Nat)) (3:Nat)) (4:Nat)) (4:Nat)) (4:Nat)) (4:Nat)=_;rw[gE 4 h,xE,xE,xE,xE,xE,xE]
theorem uF: ∀(n:Nat) {s:RdS},Ju s->(jr n s).2=adv s (24* n)
 | 0,s,h=>by rw[Nat.mul_zero,Eb h];rfl
 | n+1,s,h=>by
  show (jr n (qM s).2).2=_;rw[uF n (by rw[Je h];exact vw _ _),Je h,gN]
  congr 1
  omega
theorem uD: ∀(n:Nat) (s:RdS),(jr n s).1.length=n
 | 0,_=>rfl
 | n+1,s=>by
  show ((qM s).1::(jr n (qM s).2).1).length=_;rw[List.length_cons,uD n]
def QU (c:qR):Nat:=4+(if c.2.1=200 then 20 else 0)+24* c.1.toNat
theorem Lk (l:List Int):wO (l,0)=if 0<l.length then 4 else 0:=by unfold wO;rw[if_neg η]
theorem Lj:wO ([],3)=3:=by decide
theorem FX (r:Rep) (s:RdS):(vg r s).2=wO s:=by
 unfold vg;split
 ·rename_i h;exact h.symm
 ·rfl
theorem Pm (c:qR) (H:jt c=true) (d:c.2.1=200∨c.2.1=201):(qC c).2=if c.2.2.1.length<QU c then 3 else if QU c<c.2.2.1.length then 4 else 0:=by
 have I:Ju (c.2.2.1,0):=λh=>absurd rfl h
 have key: ∀(r:Rep) (s:RdS) (k:Nat),s=adv (c.2.2.1,0) k->(vg r s).2=if c.2.2.1.length<k then 3 else if k<c.2.2.1.length then 4 else 0:=by
  rintro r s k rfl;rw[FX];unfold adv;simp only[if_true];by_cases h:k<=c.2.2.1.length
  ·rw[if_pos h,Lk,List.length_drop];by_cases h2:k<c.2.2.1.length
   ·rw[if_pos τ,if_neg τ,if_pos h2]
   ·rw[if_neg τ,if_neg τ,if_neg h2]
  ·rw[if_neg h,Lj,if_pos τ]
 unfold qC;rw[if_neg (by rw[H];simp)];have G:tkS (c.2.2.1,0) 4=adv (c.2.2.1,0) 4:=gE 4 I;rcases d with d | d
 ·rw[if_pos d];refine key _ _ _ ?_;rw[uF _ (by rw[Jd (by rw[G];exact vw _ _)];exact vw _ _),Jd (by rw[G];exact vw _ _),G,gN,gN];unfold QU;rw[if_pos d,Nat.add_assoc]
 ·rw[if_neg (by rw[d];decide),if_pos d];refine key _ _ _ ?_;rw[uF _ (by rw[G];exact vw _ _),G,gN];unfold QU;rw[if_neg (by rw[d];decide),Nat.add_zero]
theorem xa (x:Int) (d:U32 x) (r:List Int):xQ (qx x 4++r,0)=x/\tkS (qx x 4++r,0) 4=(r,0):=by
 obtain⟨G,H⟩:=Xf x 4 ζ r;refine⟨?_,G⟩;unfold xQ;simp only;rw[show tkB (qx x 4++r) 4=qx x 4 from H];exact Xn x 4 d.1 ζ (by have:=d.2;show x<4294967296;omega)
theorem Y6 (i:Inf) (h:WK i) (r:List Int):jv (Yq i++r,0)=(i,(r,0)):=by
 unfold Yq;simp only[List.append_assoc];obtain⟨d,H⟩:=xa i.sec h.sec (qx i.frac 4++(qx i.stamp 4++(qx i.pkts 4++(qx i.octs 4++r))));obtain⟨G,I⟩:=xa i.frac h.frac (qx i.stamp 4++(qx i.pkts 4++(qx i.octs 4++r)));obtain⟨a3,J⟩:=xa i.stamp h.stamp (qx i.pkts 4++(qx i.octs 4++r));obtain⟨a4,N⟩:=xa i.pkts h.pkts (qx i.octs 4++r);obtain⟨a5,O⟩:=xa i.octs h.octs r;unfold jv;simp only[d,H,G,I,a3,J,a4,N,a5,O]
theorem Mw (x:Int) (h: -8388608<=x/\x<=8388607):sgd (x%16777216) 24=x:=by
 have d:two 24=16777216:=by decide
 have G:two (24-1)=8388608:=by decide
 unfold sgd;rw[d,G,if_neg ζ];split<;>omega
theorem Y8 (b:Blk) (h:QX b) (ad:kI b=true) (r:List Int):qM (JU b++r,0)=(b,(r,0)):=by
 have ae: -8388608<=b.miss/\b.miss<=8388607:=by simpa [kI] using ad
 unfold JU;simp only[List.append_assoc];obtain⟨J,U⟩:=xa b.src h.src (qx b.part 1++(qx (b.miss%4294967296) 3++(qx b.high 4++(qx b.jit 4++(qx b.last 4++(qx b.dly 4++r))))));obtain⟨G,d⟩:=Xf b.part 1 ζ (qx (b.miss%4294967296) 3++(qx b.high 4++(qx b.jit 4++(qx b.last 4++(qx b.dly 4++r)))));obtain⟨H,a3⟩:=Xf (b.miss%4294967296) 3 ζ (qx b.high 4++(qx b.jit 4++(qx b.last 4++(qx b.dly 4++r))));obtain⟨a4,Y⟩:=xa b.high h.high (qx b.jit 4++(qx b.last 4++(qx b.dly 4++r)));obtain⟨a5,aa⟩:=xa b.jit h.jit (qx b.last 4++(qx b.dly 4++r));obtain⟨N,ab⟩:=xa b.last h.last (qx b.dly 4++r);obtain⟨O,ac⟩:=xa b.dly h.dly r;have n2:num (qx b.part (1:Nat))=b.part:=Xn _ 1 h.part.1 ζ (by have:=h.part.2;show b.part<256;omega);have I:sgd (num (qx (b.miss%4294967296) (3:Nat))) 24=b.miss:=by
  have e:qx (b.miss%4294967296) (3:Nat)=qx (b.miss%4294967296%16777216) (3:Nat):=(QP _).symm;rw[e,Xn _ 3 τ ζ (by show _<16777216;omega),show b.miss%4294967296%16777216=b.miss%16777216 by omega];exact Mw _ ae
 unfold qM;have G:tkS (qx b.part 1++(qx (b.miss%4294967296) 3++(qx b.high 4++(qx b.jit 4++(qx b.last 4++(qx b.dly 4++r))))),0) 1=(qx (b.miss%4294967296) 3++(qx b.high 4++(qx b.jit 4++(qx b.last 4++(qx b.dly 4++r)))),0):=G;have d:tkB (qx b.part 1++(qx (b.miss%4294967296) 3++(qx b.high 4++(qx b.jit 4++(qx b.last 4++(qx b.dly 4++r)))))) 1=qx b.part 1:=d;have H:tkS (qx (b.miss%4294967296) 3++(qx b.high 4++(qx b.jit 4++(qx b.last 4++(qx b.dly 4++r)))),0) 3=(qx b.high 4++(qx b.jit 4++(qx b.last 4++(qx b.dly 4++r))),0):=H;have a3:tkB (qx (b.miss%4294967296) 3++(qx b.high 4++(qx b.jit 4++(qx b.last 4++(qx b.dly 4++r))))) 3=qx (b.miss%4294967296) 3:=a3;have n2:num (qx b.part 1)=b.part:=n2;have I:sgd (num (qx (b.miss%4294967296) 3)) 24=b.miss:=I;simp only[J,U,d,G,a3,H,a4,Y,a5,aa,N,ab,O,ac,n2,I]
theorem Xr (b:Blk) (l:List Blk):flR (b::l)=JU b++flR l:=rfl
theorem uE: ∀(l:List Blk) (r:List Int),(∀b∈l,QX b/\kI b=true)->jr l.length (flR l++r,0)=(l,(r,0))
 | [],r,_=>rfl
 | b::l,r,h=>by
  have d:=h b η;rw[Xr,List.append_assoc];show ((qM (JU b++(flR l++r),0)).1::(jr l.length (qM (JU b++(flR l++r),0)).2).1,(jr l.length (qM (JU b++(flR l++r),0)).2).2)=_;rw[Y8 b d.1 d.2,uE l r (λc G=>h c (by simp[G]))]
theorem kU (r:Rep):vR r=true↔(r.snd=false->r.inf=Jr)/\(∀b∈r.bl,kI b=true)/\r.bl.length<=if r.snd then 7 else 8:=by
 unfold vR;simp only[Bool.and_eq_true,Bool.or_eq_true,decide_eq_true_eq,List.all_eq_true];constructor
 ·rintro⟨⟨d,G⟩,H⟩;refine⟨λh=> ?_,G,H⟩;rcases d with d | d
  ·rw[h] at d;cases d
  ·exact d
 ·rintro⟨d,G,H⟩;refine⟨⟨?_,G⟩,H⟩;cases hs:r.snd with
  | true=>exact Or.inl rfl
  | false=>exact Or.inr (d hs)
theorem Kd (b:Blk):(JU b).length=24:=by
 unfold JU;simp only[List.length_append,qI _ _ (show (0:Int)<=4/\(4:Int)<=8 by decide),qI _ _ (show (0:Int)<=1/\(1:Int)<=8 by decide),qI _ _ (show (0:Int)<=3/\(3:Int)<=8 by decide)]
 decide
theorem VX (i:Inf):(Yq i).length=20:=by
 unfold Yq;simp only[List.length_append,qI _ _ (show (0:Int)<=4/\(4:Int)<=8 by decide)]
 decide
theorem YR (l:List Blk):(flR l).length=24* l.length:=by
 induction l with
 | nil=>rfl
 | cons b l ih=>rw[Xr,List.length_append,Kd,ih,List.length_cons];omega
theorem BH (r:Rep):(Zc r).length=4+(if r.snd then 20 else 0)+24* r.bl.length:=by
 unfold Zc Zy;rw[List.length_append,List.length_append,YR,qI _ _ ζ];cases r.snd with
 | true=>simp[VX]
 | false=>simp
theorem kQ {r:Rep} (h:vR r=true):Qv r=(((r.bl.length:Int),(if r.snd then 200 else 201),Zc r,()),0):=by unfold Qv;rw[if_pos h]
theorem YY {r:Rep} (h:vR r=true):jt (Qv r).1=true:=by
 obtain⟨_,_,d⟩:=(kU r).1 h;rw[kQ h,zN];have G:=BH r;simp only;cases hs:r.snd with
 | true=>rw[hs] at d G;simp at d G;omega
 | false=>rw[hs] at d G;simp at d G;omega
theorem Y5 {r:Rep} (G:ZC r) (h:vR r=true):qC (Qv r).1=(r,0):=by
 have U:=YY h;obtain⟨N,O,Y⟩:=(kU r).1 h;unfold qC;rw[if_neg (by rw[U];simp),kQ h];obtain⟨s,src,i,bl⟩:=r;simp only at *;have d: ∀b∈bl,QX b/\kI b=true:=λb d=>⟨G.bl b d,O b d⟩
 have J:vg ⟨s,src,i,bl⟩ ([],0)=(⟨s,src,i,bl⟩,0):=rfl;cases s with
 | true=>
  have e:Zc ⟨true,src,i,bl⟩=qx src 4++(Yq i++(flR bl++[])):=by unfold Zc Zy;simp[List.append_assoc]
  rw[e];obtain⟨H,I⟩:=xa src G.src (Yq i++(flR bl++[]));simp only[if_true,H,I,Y6 i G.inf,Int.toNat_natCast,uE bl [] d,J]
 | false=>
  have hi:i=Jr:=N rfl;subst hi;have e:Zc ⟨false,src,Jr,bl⟩=qx src 4++(flR bl++[]):=by unfold Zc Zy;simp[List.append_assoc]
  rw[e];obtain⟨H,I⟩:=xa src G.src (flR bl++[]);simp only[H,I,Int.toNat_natCast,uE bl [] d];exact J
abbrev U8 (n:Int):Prop:=0<=n/\n<=255
def ahd (a b:Int):Int:=(b-a+32768)%65536-32768
def tb (m:Int) (k:Nat):Bool:=m.toNat.testBit k
def prN (p:Int×Int):List Int:=p.1::((List.range 16).filter (tb p.2)).map λk:Nat=>(p.1+k+1)%65536
def prJ (l:List (Int×Int)) (n:Int):Prop:= ¬l=[]/\1<=ahd (l.getLastD (0,0)).1 n/\ahd (l.getLastD (0,0)).1 n<=16
instance (l:List (Int×Int)) (n:Int):Decidable (prJ l n):=by unfold prJ;infer_instance
theorem Gb (p:Int×Int):1<=(prN p).length/\(prN p).length<=17:=by
 unfold prN;rw[List.length_cons,List.length_map];have:=List.length_filter_le (tb p.2) (List.range 16);rw[List.length_range] at this;omega
theorem Ky {l:List Int} (h:l≠[]):l.getLastD 0=l.getD (l.length-1) 0:=by
 rw[List.getLastD_eq_getLast?,List.getLast?_eq_getElem?,List.getD_eq_getElem?_getD]
structure Msg where
 kind:Int
 snd:Int
 med:Int
 asks:List (Int×Int)
 lost:List Int
def Msg.tup (b:Msg):Int×Int×Int×List (Int×Int)×List Int:=(b.kind,b.snd,b.med,b.asks,b.lost)
theorem Msg.tup_inj {a b:Msg} (h:a.tup=b.tup):a=b:=by
 obtain⟨⟩:=a;obtain⟨⟩:=b;simp only[Msg.tup,Prod.mk.injEq] at h;simp[h]
instance:DecidableEq Msg:=λ_ _=>decidable_of_iff _ ⟨Msg.tup_inj,λh=>by rw[h]⟩
structure ZE (m:Msg):Prop where
 snd:U32 m.snd
 med:U32 m.med
 asks: ∀a∈m.asks,U32 a.1/\U8 a.2
 lost: ∀x∈m.lost,U16 x
def JS:Msg:=⟨0,0,0,[],[]⟩
theorem gJ:ZE JS:=⟨ζ,ζ,(λa h=>by cases h),(λa h=>by cases h)⟩
def Zz (k:Int):Int×Int:=if k=1 then (206,1) else if k=2 then (206,4) else (205,1)
def zx (c:qR):Int:=if c.2.1=206/\c.1=1 then 1 else if c.2.1=206/\c.1=4 then 2 else if c.2.1=205/\c.1=1 then 3 else 0
def wv (s:RdS):(Int×Int)×RdS:=((xQ s,num (tkB (tkS s 4).1 1)),tkS (tkS (tkS s 4) 1) 3)
def jk:Nat->List (Int×Int)->RdS->List (Int×Int)×RdS
 | 0,acc,s=>(acc,s)
 | n+1,acc,s=>if s.1=[] then (acc,s) else jk n (acc++[(wv s).1]) (wv s).2
def prS (s:RdS):(Int×Int)×RdS:=((num (tkB s.1 2),num (tkB (tkS s 2).1 2)),tkS (tkS s 2) 2)
def gp (acc:List Int) (p:Int×Int) (s:RdS):RdS:=if ¬acc=[]/\ ¬0<ahd (acc.getLastD 0) p.1 then wrS s 2 else s
def qY:Nat->List Int->RdS->List Int×RdS
 | 0,acc,s=>(acc,s)
 | n+1,acc,s=>if s.1=[] then (acc,s) else qY n (acc++prN (prS s).1) (gp acc (prS s).1 (prS s).2)
def zy (b:Int) (s:RdS):RdS:=if ¬b=0∨s.1.length=0∨ ¬s.1.length%8=0 then wrS s 2 else s
def xM (s:RdS):RdS:=if s.1.length=0 then wrS s 2 else s
def kh (m:Msg) (s:RdS):Msg×Int:=if wO s=0 then (m,0) else (JS,wO s)
def vG (k a b:Int) (s:RdS):Msg×Int:=
 if k=2 then kh ⟨2,a,b,(jk s.1.length [] (zy b s)).1,[]⟩ (jk s.1.length [] (zy b s)).2
 else if k=3 then kh ⟨3,a,b,[],(qY s.1.length [] (xM s)).1⟩ (qY s.1.length [] (xM s)).2
 else kh ⟨k,a,b,[],[]⟩ s
def qG (c:qR):Msg×Int:=
 if jt c=false then (JS,1)
 else if zx c=0 then (JS,5)
 else vG (zx c) (xQ (c.2.2.1,0)) (xQ (tkS (c.2.2.1,0) 4)) (tkS (tkS (c.2.2.1,0) 4) 4)
theorem zE (n:Nat) (acc:List (Int×Int)) (e:Int):jk n acc ([],e)=(acc,([],e)):=by
 cases n with
 | zero=>rfl
 | succ n=>unfold jk;rw[if_pos rfl]
theorem wG (n:Nat) (acc:List Int) (e:Int):qY n acc ([],e)=(acc,([],e)):=by
 cases n with
 | zero=>rfl
 | succ n=>unfold qY;rw[if_pos rfl]
theorem Gg {s:RdS} (h:Byt s.1):U16 (num (tkB s.1 2)):=by
 have:=zv (tkB s.1 2) 2 (jI h 2) (zf s.1 2 ζ) ζ;exact⟨this.1,τ⟩
theorem IM {s:RdS} (h:Byt s.1):U8 (num (tkB s.1 1)):=by
 have:=zv (tkB s.1 1) 1 (jI h 1) (zf s.1 1 ζ) ζ;exact⟨this.1,τ⟩
theorem JG {s:RdS} (h:Byt s.1):U32 (xQ s):=by
 have:=zv (tkB s.1 4) 4 (jI h 4) (zf s.1 4 ζ) ζ;exact⟨this.1,by show num (tkB s.1 4)<=4294967295;omega⟩
theorem Gu {s:RdS} (h:Byt s.1):U32 (wv s).1.1/\U8 (wv s).1.2/\Byt (wv s).2.1:=⟨JG h,IM (jH h 4),jH (jH (jH h 4) 1) 3⟩
theorem An {s:RdS} (h:Byt s.1):U16 (prS s).1.1/\U16 (prS s).1.2/\Byt (prS s).2.1:=⟨Gg h,Gg (jH h 2),jH (jH h 2) 2⟩
theorem Cs {acc:List Int} {p:Int×Int} {s:RdS} (h:Byt s.1):Byt (gp acc p s).1:=by
 unfold gp;split
 ·exact gC h 2
 ·exact h
theorem JF {p:Int×Int} (h:U16 p.1): ∀x∈prN p,U16 x:=by
 intro x d;unfold prN at d;rcases List.mem_cons.1 d with rfl | d
 ·exact h
 ·obtain⟨k,_,rfl⟩:=List.mem_map.1 d;constructor<;>omega
theorem Qh: ∀(n:Nat) (acc:List (Int×Int)) (s:RdS),Byt s.1->(∀a∈acc,U32 a.1/\U8 a.2)-> ∀a∈(jk n acc s).1,U32 a.1/\U8 a.2
 | 0,_,_,_,h=>h
 | n+1,acc,s,hb,h=>by
  unfold jk;split
  ·exact h
  ·obtain⟨G,H,a3⟩:=Gu hb;refine Qh n _ _ a3 λa d=> ?_
   rcases List.mem_append.1 d with d | d
   ·exact h a d
   ·rw[List.mem_singleton] at d;subst d;exact⟨G,H⟩
theorem Qg: ∀(n:Nat) (acc:List Int) (s:RdS),Byt s.1->(∀a∈acc,U16 a)-> ∀a∈(qY n acc s).1,U16 a
 | 0,_,_,_,h=>h
 | n+1,acc,s,hb,h=>by
  unfold qY;split
  ·exact h
  ·obtain⟨G,H,a3⟩:=An hb;refine Qg n _ _ (Cs a3) λa d=> ?_
   rcases List.mem_append.1 d with d | d
   ·exact h a d
   ·exact JF G a d
theorem QO {m:Msg} {s:RdS} (h:ZE m):ZE (kh m s).1:=by
 unfold kh;split
 ·exact h
 ·exact gJ
theorem Dz {b:Int} {s:RdS} (h:Byt s.1):Byt (zy b s).1:=by
 unfold zy;split
 ·exact gC h 2
 ·exact h
theorem PO {s:RdS} (h:Byt s.1):Byt (xM s).1:=by
 unfold xM;split
 ·exact gC h 2
 ·exact h
theorem BE {k a b:Int} {s:RdS} (I:Byt s.1) (G:U32 a) (H:U32 b):ZE (vG k a b s).1:=by
 unfold vG;split
 ·exact QO ⟨G,H,Qh _ _ _ (Dz I) (λx d=>by cases d),(λx d=>by cases d)⟩
 ·split
  ·exact QO ⟨G,H,(λx d=>by cases d),Qg _ _ _ (PO I) (λx d=>by cases d)⟩
  ·exact QO ⟨G,H,(λx d=>by cases d),(λx d=>by cases d)⟩
theorem BN {c:qR} (G:xh c):ZE (qG c).1:=by
 have d:Byt ((c.2.2.1,0):RdS).1:=G.byt;unfold qG;split
 ·exact gJ
 ·split
  ·exact gJ
  ·exact BE (jH (jH d 4) 4) (JG d) (JG (jH d 4))
theorem U0 {c:qR} (h: ¬zx c=0):Zz (zx c)=(c.2.1,c.1)/\(zx c=1∨zx c=2∨zx c=3):=by
 unfold zx at h ⊢;unfold Zz;split
 ·rename_i e;exact⟨by rw[e.1,e.2];rfl,η⟩
 ·split
  ·rename_i e;exact⟨by rw[e.1,e.2];rfl,η⟩
  ·split
   ·rename_i e;exact⟨by rw[e.1,e.2];rfl,η⟩
   ·rename_i d G H;rw[if_neg d,if_neg G,if_neg H] at h;exact absurd rfl h
def Γp (x:Msg) (a:Option Addr) (b:Nat) (c:Option Addr) (d:Nat):Mm:=.o
instance (x:Msg) (a:Option Addr) (b:Nat) (c:Option Addr) (d:Nat):CoeDep Mm (Γp x a b c d) (List Value):=⟨[ι x.kind,ω x.snd,ω x.med,δ a x.asks.length b,δ c x.lost.length d]⟩
instance (x:Msg) (a:Option Addr) (b:Nat) (c:Option Addr) (d:Nat):CoeDep Mm (Γp x a b c d) (Array Value):=⟨((Γp x a b c d):List Value).toArray⟩
instance (x:Msg) (a:Option Addr) (b:Nat) (c:Option Addr) (d:Nat):CoeDep Mm (Γp x a b c d) Value:=⟨θ (Γp x a b c d)⟩
theorem U4 {L:List Int} (N:Byt L) (h:20<=L.length): ∃i r,L=Yq i++r/\WK i/\Byt r:=by
 obtain⟨ad,ai,rfl,U,d⟩:=xu N τ;rw[List.length_append,qI _ _ ζ] at h;obtain⟨ae,aj,rfl,Y,G⟩:=xu d (by simp at h;omega);rw[List.length_append,qI _ _ ζ] at h;obtain⟨af,ak,rfl,aa,H⟩:=xu G (by simp at h;omega);rw[List.length_append,qI _ _ ζ] at h;obtain⟨ag,al,rfl,ab,I⟩:=xu H (by simp at h;omega);rw[List.length_append,qI _ _ ζ] at h;obtain⟨ah,O,rfl,ac,J⟩:=xu I (by simp at h;omega);exact⟨⟨ad,ae,af,ag,ah⟩,O,by unfold Yq;simp only[List.append_assoc],⟨U,Y,aa,ab,ac⟩,J⟩
theorem Wg {L:List Int} (af:Byt L) (h:24<=L.length): ∃b r,L=JU b++r/\QX b/\kI b=true/\Byt r:=by
 obtain⟨ap,ax,rfl,ak,J⟩:=xu af τ;rw[List.length_append,qI _ _ ζ] at h;obtain⟨I,ay,rfl,ai,G,N⟩:=wW 1 ζ J (by simp at h;omega);rw[List.length_append,qI _ _ ζ] at h;obtain⟨d,az,rfl,aw,H,O⟩:=wW 3 ζ N (by simp at h;omega);rw[List.length_append,qI _ _ ζ] at h;obtain⟨aq,aA,rfl,al,U⟩:=xu O (by simp at h;omega);rw[List.length_append,qI _ _ ζ] at h;obtain⟨ar,aB,rfl,am,Y⟩:=xu U (by simp at h;omega);rw[List.length_append,qI _ _ ζ] at h;obtain⟨au,aC,rfl,an,aa⟩:=xu Y (by simp at h;omega);rw[List.length_append,qI _ _ ζ] at h;obtain⟨av,aj,rfl,ao,ab⟩:=xu aa (by simp at h;omega);have G:I<256:=G;have H:d<16777216:=H;have ah:=KY d 24 ζ ζ;have ag:=EX d 24 ζ ζ;have ac:two 24=16777216:=by decide
 have ad:two (24-1)=8388608:=by decide
 rw[ad] at ah;rw[ac] at ag;have ae:qx (sgd d 24%4294967296) 3=qx d 3:=by
  rw[<-QP,<-QP d]
  congr 1
  omega
 refine⟨⟨ap,I,sgd d 24,aq,ar,au,av⟩,aj, ?_,⟨ak,⟨ai,by simp only;omega⟩,⟨by simp only;omega,by simp only;omega⟩,al,am,an,ao⟩, ?_,ab⟩
 ·unfold JU;simp only[List.append_assoc,ae];rfl
 ·unfold kI;simp only[decide_eq_true_eq];omega
theorem wZ: ∀(n:Nat) {L:List Int},Byt L->24* n<=L.length-> ∃l r,l.length=n/\L=flR l++r/\(∀b∈l,QX b/\kI b=true)/\Byt r
 | 0,L,hb,_=>⟨[],L,rfl,rfl,(λb h=>by cases h),hb⟩
 | n+1,L,hb,h=>by
  obtain⟨b,r,rfl,N,O,J⟩:=Wg hb τ;rw[List.length_append,Kd] at h;obtain⟨l,U,G,rfl,H,I⟩:=wZ n J τ;refine⟨b::l,U,by rw[List.length_cons,G],by rw[Xr,List.append_assoc],λc d=> ?_,I⟩;simp at d;rcases d with rfl | d
  ·exact⟨N,O⟩
  ·exact H c d
theorem Gs:WK Jr:=⟨ζ,ζ,ζ,ζ,ζ⟩
theorem Zo {c:qR} (ah:xh c) (h:(qC c).2=0): ∃r,ZC r/\vR r=true/\Qv r=(c,0):=by
 have aa:jt c=true:=by
  cases x:jt c with
  | true=>rfl
  | false=>unfold qC at h;rw[if_pos x] at h;cases h
 have ab:c.2.1=200∨c.2.1=201:=by
  by_cases h1:c.2.1=200
  ·exact Or.inl h1
  ·by_cases h2:c.2.1=201
   ·exact Or.inr h2
   ·unfold qC at h;rw[if_neg (by rw[aa];simp),if_neg h1,if_neg h2] at h;cases h
 have J:=Pm c aa ab;rw[h] at J;have G:c.2.2.1.length=QU c:=by
  by_cases h1:c.2.2.1.length<QU c
  ·rw[if_pos h1] at J;cases J
  ·by_cases h2:QU c<c.2.2.1.length
   ·rw[if_neg h1,if_pos h2] at J;cases J
   ·omega
 obtain⟨al,am,H⟩:=(zN c).1 aa;obtain⟨k,t,B,⟨⟩⟩:=c;obtain⟨⟨ai,aj⟩,_,d⟩:=ah;simp only at G al am H ai aj d ab;unfold QU at G;simp only at G;obtain⟨O,ao,rfl,ae,ad⟩:=xu d τ;rw[List.length_append,qI _ _ ζ] at G H;have ag:(4:Int).toNat=4:=rfl;rw[ag] at G H;rcases ab with rfl | rfl
 ·rw[if_pos rfl] at G;obtain⟨i,ap,rfl,an,af⟩:=U4 ad τ;rw[List.length_append,VX] at G H;obtain⟨l,ac,ak,rfl,N,_⟩:=wZ k.toNat af τ;rw[List.length_append,YR] at G H;have Y:ac=[]:=List.eq_nil_of_length_eq_zero τ;subst Y;have I:vR ⟨true,O,i,l⟩=true:=(kU _).2 ⟨(λh=>by cases h),λb d=>(N b d).2,by simp;omega⟩;refine⟨⟨true,O,i,l⟩,⟨ae,an,λb d=>(N b d).1⟩,I, ?_⟩;rw[kQ I];have U:((l.length:Int))=k:=by omega
  simp only[U,if_true]
  congr 4
  unfold Zc Zy;simp
 ·rw[if_neg ζ] at G;obtain⟨l,ac,ak,rfl,N,_⟩:=wZ k.toNat ad τ;rw[List.length_append,YR] at G H;have Y:ac=[]:=List.eq_nil_of_length_eq_zero τ;subst Y;have I:vR ⟨false,O,Jr,l⟩=true:=(kU _).2 ⟨λh=>rfl,λb d=>(N b d).2,by simp;omega⟩;refine⟨⟨false,O,Jr,l⟩,⟨ae,Gs,λb d=>(N b d).1⟩,I, ?_⟩;rw[kQ I];have U:((l.length:Int))=k:=by omega
  simp only[U];unfold Zc Zy;simp
theorem YZ {c:qR} {r:Rep} (J:xh c) (h:qC c=(r,0)):Qv r=(c,0)/\ZC r/\vR r=true:=by
 obtain⟨N,d,G,H⟩:=Zo J (by rw[h]);have I:=Y5 d G;rw[H,h] at I;obtain rfl:r=N:=by injection I
 exact⟨H,d,G⟩
structure Itm where
 kind:Int
 rep:Rep
 msg:Msg
 oth:qR
instance:DecidableEq Itm:=λa b=>decidable_of_iff (a.kind=b.kind/\a.rep=b.rep/\a.msg=b.msg/\(a.oth.1=b.oth.1/\a.oth.2.1=b.oth.2.1/\a.oth.2.2.1=b.oth.2.2.1)) (by
 obtain⟨ka,ra,ma,o1,o2,o3,⟨⟩⟩:=a;obtain⟨kb,rb,mb,p1,p2,p3,⟨⟩⟩:=b
 simp)
structure WJ (x:Itm):Prop where
 rep:ZC x.rep
 msg:ZE x.msg
 oth:xh x.oth
def GC:qR:=(0,0,[],())
def wN:Itm:=⟨0,Qr,JS,GC⟩
def vm:List Int->Int
 | []=>0
 | e::l=>if e=0 then vm l else e
def qs (c:qR):Itm×Int:=
 if c.2.1=200∨c.2.1=201 then (⟨1,(qC c).1,JS,GC⟩,(qC c).2)
 else if (qG c).2=5 then (⟨3,Qr,JS,c⟩,0) else (⟨2,Qr,(qG c).1,GC⟩,(qG c).2)
def zi (b:List Int):List Itm×Int:=
 if (jG b).2=0 then (if vm ((jG b).1.map λc=>(qs c).2)=0 then ((jG b).1.map λc=>(qs c).1,0) else ([],vm ((jG b).1.map λc=>(qs c).2))) else ([],(jG b).2)
theorem WY:ZC Qr:=⟨ζ,by constructor<;>decide,(λb h=>by cases h)⟩
theorem Gf:xh GC:=⟨ζ,ζ,Byt.of_all (l:=[]) rfl⟩
def Γo (x:Itm) (a:Option Addr) (b:Nat) (c:Option Addr) (d:Nat) (e:Option Addr) (f:Nat) (g:Option Addr) (h:Nat):Mm:=.o
instance (x:Itm) (a:Option Addr) (b:Nat) (c:Option Addr) (d:Nat) (e:Option Addr) (f:Nat) (g:Option Addr) (h:Nat):CoeDep Mm (Γo x a b c d e f g h) (List Value):=⟨[ι x.kind,μ x.rep.snd,ω x.rep.src,ω x.rep.inf.sec,ω x.rep.inf.frac,ω x.rep.inf.stamp,ω x.rep.inf.pkts,ω x.rep.inf.octs,δ a x.rep.bl.length b,ι x.msg.kind,ω x.msg.snd,ω x.msg.med,δ c x.msg.asks.length d,δ e x.msg.lost.length f,υ x.oth.1,υ x.oth.2.1,δ g x.oth.2.2.1.length h]⟩
instance (x:Itm) (a:Option Addr) (b:Nat) (c:Option Addr) (d:Nat) (e:Option Addr) (f:Nat) (g:Option Addr) (h:Nat):CoeDep Mm (Γo x a b c d e f g h) (Array Value):=⟨((Γo x a b c d e f g h):List Value).toArray⟩
instance (x:Itm) (a:Option Addr) (b:Nat) (c:Option Addr) (d:Nat) (e:Option Addr) (f:Nat) (g:Option Addr) (h:Nat):CoeDep Mm (Γo x a b c d e f g h) Value:=⟨θ (Γo x a b c d e f g h)⟩
def Vl:qJ (Int×Int):=λ_ cs a=>cs=[.int .u32 a.1,.int .u8 a.2]/\U32 a.1/\U8 a.2
theorem CE:wC Vl:=λ_ _ _ _ _ h=>h
theorem Ba (q:Int):IntKind.i16.wrap q=(q+32768)%65536-32768:=by
 simp only[IntKind.wrap,IntKind.bits,IntKind.signed];simp;split<;>omega
theorem Ea (a b:Int):wrap64 (IntKind.i16.wrap (IntKind.u16.wrap (b-a)))=ahd a b:=by
 rw[Ba,IntKind.wrap_u16];unfold ahd wrap64;omega
theorem DA (a b:Int) (w:World) (d:U16 a) (G:U16 b):
  Calls prog 282 #[φ a,φ b] w λe w'=>e= .returned (ι (ahd a b))/\w=w':=by
 obtain⟨a0,H⟩:=d;obtain⟨I,J⟩:=G
 go_enter func282,ntmps282
 go_wp2;go_ret;refine⟨xU ?_,rfl⟩;exact Ea a b
theorem Yn (a b:Int) (w:World) (d:U16 a) (G:U16 b):
  Calls prog 244 #[φ a,φ b] w λe w'=>e= .returned (ι (ahd a b))/\w=w':=by
 go_enter func244,ntmps244
 go_wp2_with (go_at_call 282;(go_call DA a b _ d G as e w1 ⟨rfl,rfl⟩))
 go_ret;exact⟨rfl,rfl⟩
theorem DM (a b:Int) (w:World) (d:U16 a) (G:U16 b):
  Calls prog 329 #[φ a,φ b] w λe w'=>e= .returned (μ (decide (0<ahd a b)))/\w=w':=by
 go_enter func329,ntmps329
 go_wp2_with (go_at_call 244;(go_call Yn a b _ d G as e w1 ⟨rfl,rfl⟩))
 go_ret;exact⟨rfl,rfl⟩
theorem Xw (k:Int) (w:World):
  Calls prog 318 #[ι k] w λe w'=>e= .returned (.tuple #[υ (Zz k).1,υ (Zz k).2])/\w=w':=by
 by_cases h1:k=1
 ·subst h1
  go_enter func318,ntmps318
  go_wp2
  go_ret2
  exact⟨rfl,rfl⟩
 by_cases h2:k=2
 ·subst h2
  go_enter func318,ntmps318
  go_wp2
  go_ret2
  exact⟨rfl,rfl⟩
 have d:Zz k=(205,1):=by unfold Zz;rw[if_neg h1,if_neg h2]
 have G:=κ d;have H:(k==1)=false:=by simpa using h1
 have I:(k==2)=false:=by simpa using h2
 clear d h1 h2
 go_enter func318,ntmps318
 go_wp2
 go_ret2
 exact⟨by rw[G.o];rfl,rfl⟩
theorem CK {l:List Int} {i:Nat} (h:i<l.length):l.getD i 0∈l:=by
 rw[List.getD_eq_getElem?_getD,List.getElem?_eq_getElem h];exact List.getElem_mem h
theorem Ch {w:World} {n base e size d:Nat} {cs:Array Value} (H:n=w.heap.size) (G:base<=n) (J:d<=1000000) (I:cs.size=d* size):(w.alloc (.cells cs e)).ownsRow base e size (δ (some ⟨n,0,none⟩) d d) d cs.toList:=by
 subst H;exact World.ownsRow_lit w cs d G (by unfold maxLen;omega) I
theorem F4 {m:Int} (h:U16 m) (k:Nat):bits .and .u16 (m/2 ^ k) 1=if tb m k then 1 else 0:=by
 obtain⟨G,H⟩:=h;obtain⟨d,rfl⟩:=Int.eq_ofNat_of_zero_le G;have I:d/2 ^ k<=d:=Nat.div_le_self _ _;have e:((d:Int)/2 ^ k)=((d/2 ^ k:Nat):Int):=by simp
 rw[e,show (1:Int)=((1:Nat):Int) from rfl,u16_and_nat (d/2 ^ k) 1 τ ζ];unfold tb;rw[Int.toNat_natCast,Nat.testBit_eq_decide_div_mod_eq,Nat.and_one_is_mod];rcases Nat.mod_two_eq_zero_or_one (d/2 ^ k) with h | h<;>simp[h]
def Qs (p:Int×Int) (j:Nat):List Int:=p.1::((List.range j).filter (tb p.2)).map λk:Nat=>(p.1+k+1)%65536
theorem II (p:Int×Int):Qs p 0=[p.1]:=rfl
theorem Pw (p:Int×Int) (j:Nat):Qs p (j+1)=Qs p j++(if tb p.2 j then [(p.1+j+1)%65536] else []):=by
 unfold Qs;rw[List.range_succ,List.filter_append,List.map_append];by_cases h:tb p.2 j=true
 ·simp[h]
 ·simp[h]
theorem Cd (p:Int×Int) (j:Nat) (h:j<=16):(Qs p j).length<=17:=by
 unfold Qs;rw[List.length_cons,List.length_map];have:=List.length_filter_le (tb p.2) (List.range j);rw[List.length_range] at this;omega
theorem QS (p:Int×Int) (w:World) (ag:U16 p.1) (U:U16 p.2):
  Calls prog 330 #[θ #[φ p.1,φ p.2]] w λe w'=> ∃v,e= .returned v/\w'.ownsRow w.heap.size 39 1 v (prN p).length ((prN p).map (Value.int .u16))/\qa w w':=by
 obtain⟨q,m⟩:=p;simp only at ag U;obtain⟨ao,hi,ak,am,an⟩:=info_parts (P:=prog) (e:=39) (z:= φ 0) (size:=1) (bytes:=2) ξ
 go_enter func330,ntmps330
 go_wp2
 go_loopw [3,8] (λv O wr=> ∃j:Nat,j<=16/\O= ι j/\wr.ownsRow (w.heap.size+1) 39 1 v (Qs (q,m) j).length ((Qs (q,m) j).map (Value.int .u16))/\qa (w.alloc (.cells #[φ q,φ m] 483)) wr) (λ_ O _=>16-(intOf O).toNat)
 case atStart=>
  refine⟨0,τ,rfl, ?_,qa.alloc _ _⟩;rw[II];exact Ch (cs:= #[φ q]) η (Nat.le_refl _) ζ rfl
 case round=>
  obtain⟨j,ai,rfl,ac,G⟩:=hrel;have ap:=G.new 0 (v:= φ q) rfl;have aq:=G.new 1 (v:= φ m) rfl;have af:=κ ((qa.alloc w (.cells #[φ q,φ m] 483)).trans G);have J:=κ G;have H:=κ ac;have av:=Cd (q,m) j ai;by_cases hlt:j<16
  ·have ar:(j:Int)<16:=by omega
   have d:=F4 U j;have I:=κ (Pw (q,m) j);by_cases ht:tb m j=true
   ·rw[if_pos ht] at d;have ah:(bits .and .u16 (m/2 ^ j) 1==1)=true:=by rw[d];rfl
    obtain⟨n,aa⟩:=ν ((q+j+1)%65536);have au:IntKind.u16.wrap (IntKind.u16.wrap (q+(j:Int))+1)=n:=by rw[IntKind.wrap_u16,IntKind.wrap_u16];omega
    have N:Hid (Qs (q,m) (j+1)=Qs (q,m) j++[n]):=κ (by rw[I.o];simp only;rw[if_pos ht,aa]);clear d ht aa I G;generalize Qs (q,m) j=L at *;clear ac
    go_wp2_with (at_builtin;refine qK _ rfl (.tmp 17) (.tmp 24) 281 rfl (w.heap.size+1) 39 ao (φ 0) 2 underlying281 hi ak am an rfl _ .u16 L rfl (jy H.o (qa.alloc _ _)) _ [n] rfl (SlI.lit .u16 wr [n] 39 _ 1 _ rfl rfl rfl η) (by simp only[List.length_cons,List.length_nil];omega) ζ (Nat.le_trans η (J.o.al _).size) ?_;intro v5 w5 ab Y _;have ae:=κ ab;have ad:=κ ((J.o.al (.cells #[φ n] 39)).grown Y (J.o.al (.cells #[φ n] 39)).size (λz aj=>by have:=jD H.o aj;simpa using this));clear ab Y)
    go_roundw
    case rel=>exact⟨j+1,τ,by go_num,by rw[N.o];exact ae.o,ad.o⟩
    case measure=>simp[intOf];omega
   ·rw[if_neg ht] at d;have ah:(bits .and .u16 (m/2 ^ j) 1==1)=false:=by rw[d];rfl
    have N:Hid (Qs (q,m) (j+1)=Qs (q,m) j):=κ (by rw[I.o];simp only;rw[if_neg ht,List.append_nil]);clear d ht I;go_wp2;go_roundw
    case rel=>exact⟨j+1,τ,by go_num,by rw[N.o];exact H.o,J.o⟩
    case measure=>simp[intOf];omega
  ·obtain rfl:j=16:=by omega
   go_wp2;go_ret;exact⟨_,rfl,kA H.o (Nat.le_succ _),af.o⟩
theorem Pg {w:World} {base e size n:Nat} {v:Value} {xs:List Value} (h:w.ownsRow base e size v n xs): ∃oa cap,v= δ oa n cap/\(n:Int)<=9223372036854775807:=by
 rcases h.2 with ⟨rfl,d⟩ | ⟨g,cap,cur,rfl,_,_,H,G,_⟩
 ·exact⟨none,0,by rw[d],τ⟩
 ·exact⟨_,cap,rfl,by unfold maxLen at G;omega⟩
theorem BC {w:World} {base e size n:Nat} {v:Value} {xs:List Value} (h:w.ownsRow base e size v n xs) (J:0<n): ∃g cap,v= δ (some ⟨g,0,none⟩) n cap/\base<=g/\g<w.heap.size/\(n:Int)<=9223372036854775807:=by
 rcases h.2 with ⟨rfl,I⟩ | ⟨g,cap,cur,rfl,d,G,N,H,_⟩
 ·omega
 ·exact⟨g,cap,rfl,d,lt_of_block G,by unfold maxLen at H;omega⟩
theorem FK {n t:Int} {b:List Int} (h:t=206/\n=1):zx (n,t,b,())=1:=by unfold zx;rw[if_pos h]
theorem FJ {n t:Int} {b:List Int} (h:t=206/\n=4):zx (n,t,b,())=2:=by unfold zx;rw[if_neg (by simp only;omega),if_pos h]
theorem FI {n t:Int} {b:List Int} (h:t=205/\n=1):zx (n,t,b,())=3:=by unfold zx;rw[if_neg (by simp only;omega),if_neg (by simp only;omega),if_pos h]
theorem FL {n t:Int} {b:List Int} (d: ¬(t=206/\n=1)) (G: ¬(t=206/\n=4)) (H: ¬(t=205/\n=1)):zx (n,t,b,())=0:=by unfold zx;rw[if_neg d,if_neg G,if_neg H]
theorem Ul (w:World):Calls prog 318 #[ι 1] w λe w'=>e= .returned (.tuple #[υ 206,υ 1])/\w=w':=Xw 1 w
theorem Uk (w:World):Calls prog 318 #[ι 2] w λe w'=>e= .returned (.tuple #[υ 206,υ 4])/\w=w':=Xw 2 w
theorem Uj (w:World):Calls prog 318 #[ι 3] w λe w'=>e= .returned (.tuple #[υ 205,υ 1])/\w=w':=Xw 3 w
theorem eqB {a b:Int} (h:a=b):(a==b)=true:=by simpa using h
theorem neB {a b:Int} (h: ¬a=b):(a==b)=false:=by simpa using h
theorem XQ (n t:Int) (B:List Int) (I:Option Addr) (G:Nat) (w:World):
  Calls prog 306 #[θ #[υ n,υ t,δ I B.length G]] w λe w'=>e= .returned (ι (zx (n,t,B,())))/\qa w w':=by
 go_enter func306,ntmps306
 go_wp2
 go_loopw [9] (λad wr=> ∃j:Nat,j<=3/\ad= ι j/\(1<=j-> ¬(t=206/\n=1))/\(2<=j-> ¬(t=206/\n=4))/\(3<=j-> ¬(t=205/\n=1))/\qa ((w.alloc (.cells #[υ n,υ t,δ I B.length G] 291)).alloc (.cells #[ι 1,ι 2,ι 3] 3)) wr) (λad _=>3-(intOf ad).toNat)
 case atStart=>exact⟨0,τ,rfl,(λh=>by omega),(λh=>by omega),(λh=>by omega),qa.refl _⟩
 case round=>
  obtain⟨j,ak,rfl,ae,af,ag,H⟩:=hrel;have U:=κ ae;have ac:=κ af;have ah:=κ ag;clear ae af ag;have ab:=κ (((qa.alloc w (.cells #[υ n,υ t,δ I B.length G] 291)).al (.cells #[ι 1,ι 2,ι 3] 3)).trans H);have ai:=β0 (qc H (qq (qk w (.cells #[υ n,υ t,δ I B.length G] 291)) (.cells #[ι 1,ι 2,ι 3] 3)));have aj:=β1 (qc H (qq (qk w (.cells #[υ n,υ t,δ I B.length G] 291)) (.cells #[ι 1,ι 2,ι 3] 3)));have am:=β0 (qc H (qB (w:=w.alloc (.cells #[υ n,υ t,δ I B.length G] 291)) (o:=(.cells #[ι 1,ι 2,ι 3] 3)) (n:=w.heap.size+1) η));have an:=β1 (qc H (qB (w:=w.alloc (.cells #[υ n,υ t,δ I B.length G] 291)) (o:=(.cells #[ι 1,ι 2,ι 3] 3)) (n:=w.heap.size+1) η));have ao:=β2 (qc H (qB (w:=w.alloc (.cells #[υ n,υ t,δ I B.length G] 291)) (o:=(.cells #[ι 1,ι 2,ι 3] 3)) (n:=w.heap.size+1) η));have O:=κ H;clear H;by_cases e0:j=0
  ·subst e0;by_cases ht:t=206
   ·have aa:=eqB ht;by_cases hn:n=1
    ·have Y:=eqB hn;have N:=κ (FK (b:=B) ⟨ht,hn⟩);clear ht hn
     go_wp2_with (go_at_call 318;(go_call Ul _ as e J ⟨rfl,rfl⟩))
     go_ret;exact⟨by rw[N.o];rfl,ab.o⟩
    ·have Y:=neB hn;have d:=κ hn;clear ht hn
     go_wp2_with (go_at_call 318;(go_call Ul _ as e J ⟨rfl,rfl⟩))
     go_roundw
     case rel=>exact⟨1,τ,by first | rfl | go_num,(λ_=>(λh=>d.o h.2)),(λh=>by omega),(λh=>by omega),O.o⟩
     case measure=>simp[intOf]
   ·have aa:=neB ht;have d:=κ ht;clear ht
    go_wp2_with (go_at_call 318;(go_call Ul _ as e J ⟨rfl,rfl⟩))
    go_roundw
    case rel=>exact⟨1,τ,by first | rfl | go_num,(λ_=>(λh=>d.o h.1)),(λh=>by omega),(λh=>by omega),O.o⟩
    case measure=>simp[intOf]
  by_cases e1:j=1
  ·subst e1;clear e0;by_cases ht:t=206
   ·have aa:=eqB ht;by_cases hn:n=4
    ·have Y:=eqB hn;have N:=κ (FJ (b:=B) ⟨ht,hn⟩);clear ht hn
     go_wp2_with (go_at_call 318;(go_call Uk _ as e J ⟨rfl,rfl⟩))
     go_ret;exact⟨by rw[N.o];rfl,ab.o⟩
    ·have Y:=neB hn;have d:=κ hn;clear ht hn
     go_wp2_with (go_at_call 318;(go_call Uk _ as e J ⟨rfl,rfl⟩))
     go_roundw
     case rel=>exact⟨2,τ,by first | rfl | go_num,(λ_=>U.o τ),(λ_=>(λh=>d.o h.2)),(λh=>by omega),O.o⟩
     case measure=>simp[intOf]
   ·have aa:=neB ht;have d:=κ ht;clear ht
    go_wp2_with (go_at_call 318;(go_call Uk _ as e J ⟨rfl,rfl⟩))
    go_roundw
    case rel=>exact⟨2,τ,by first | rfl | go_num,(λ_=>U.o τ),(λ_=>(λh=>d.o h.1)),(λh=>by omega),O.o⟩
    case measure=>simp[intOf]
  by_cases e2:j=2
  ·subst e2;clear e0 e1;by_cases ht:t=205
   ·have aa:=eqB ht;by_cases hn:n=1
    ·have Y:=eqB hn;have N:=κ (FI (b:=B) ⟨ht,hn⟩);clear ht hn
     go_wp2_with (go_at_call 318;(go_call Uj _ as e J ⟨rfl,rfl⟩))
     go_ret;exact⟨by rw[N.o];rfl,ab.o⟩
    ·have Y:=neB hn;have d:=κ hn;clear ht hn
     go_wp2_with (go_at_call 318;(go_call Uj _ as e J ⟨rfl,rfl⟩))
     go_roundw
     case rel=>exact⟨3,τ,by first | rfl | go_num,(λ_=>U.o τ),(λ_=>ac.o τ),(λ_=>(λh=>d.o h.2)),O.o⟩
     case measure=>simp[intOf]
   ·have aa:=neB ht;have d:=κ ht;clear ht
    go_wp2_with (go_at_call 318;(go_call Uj _ as e J ⟨rfl,rfl⟩))
    go_roundw
    case rel=>exact⟨3,τ,by first | rfl | go_num,(λ_=>U.o τ),(λ_=>ac.o τ),(λ_=>(λh=>d.o h.1)),O.o⟩
    case measure=>simp[intOf]
  ·obtain rfl:j=3:=by omega
   have N:=κ (FL (b:=B) (U.o τ) (ac.o τ) (ah.o τ));clear e0 e1 e2;go_wp2;go_ret;exact⟨by rw[N.o];rfl,ab.o⟩
structure DY (w:World) (va vl:Value) (m:Msg):Prop where
 asks:SlP 2 Vl w va m.asks
 lost:SlI .u16 w vl m.lost
def jS (w:World) (v:Value):Prop:= ∀g,v.ownBlock=some g->w.heap.size<=g
theorem jS.nil (w:World):jS w (δ none 0 0):=λg h=>by cases h
theorem Iu (x:Int):(qx x 4).length=4:=qI x 4 ζ
theorem Mc (x:Int):(qx x 1).length=1:=qI x 1 ζ
theorem XG {S:Nat->Prop} {w w':World} {base e size n:Nat} {v:Value} {xs:List Value} (h:w.ownsRow base e size v n xs) (m:qg S w w') (H: ∀b,v.ownBlock=some b-> ¬S b):w'.ownsRow base e size v n xs:=by
 obtain⟨d,G⟩:=h;refine⟨d, ?_⟩;rcases G with h | ⟨g,cap,cur,e1,hb,hg,rest⟩
 ·exact Or.inl h
 ·exact Or.inr ⟨g,cap,cur,e1,hb,m.blk hg (H g (by rw[e1];rfl)),rest⟩
theorem WT {w:World} {b:Nat} {t:TypeId} {a0 H I:Value} (h:w.heap[b]? =some (.cells #[a0,H,I] t (0,0))) (v0 d G:Value):(((w.setCell ⟨b,0,none⟩ v0).setCell ⟨b,1,none⟩ d).setCell ⟨b,2,none⟩ G).heap[b]? =some (.cells #[v0,d,G] t (0,0)):=
 qA (qo (qo (qo h 0 v0) 1 d) 2 G) rfl
theorem qa.st3 {w w':World} (h:qa w w') (b:Nat) (d:w.heap.size<=b) (v0 G H:Value):qa w (((w'.setCell ⟨b,0,none⟩ v0).setCell ⟨b,1,none⟩ G).setCell ⟨b,2,none⟩ H):=
 ((h.st (p:=⟨b,0,none⟩) d v0).st (p:=⟨b,1,none⟩) d G).st (p:=⟨b,2,none⟩) d H
theorem Dy {w:World} {I:Option Addr} {n c:Nat} {l:List (Int×Int)} (h:SlP 2 Vl w (δ I n c) l) (i:Nat) (hi:i<l.length): ∃b d,I=some ⟨b,d,none⟩/\b<w.heap.size/\
  (∀x,qa w x->x.cell? ⟨b,d+i* 2,none⟩=some (ω (l.getD i (0,0)).1)/\x.cell? ⟨b,d+i* 2+1,none⟩=some (υ (l.getD i (0,0)).2))/\U32 (l.getD i (0,0)).1/\U8 (l.getD i (0,0)).2:=by
 obtain⟨ab,Y,e,_,N,_⟩:=h;cases e;obtain⟨b,d,cs,e,G,aa,H,rfl,O,U⟩:=N i hi;have J:l.getD i (0,0)=l[i]:=by rw[List.getD_eq_getElem?_getD,List.getElem?_eq_getElem hi];rfl
 rw[J];refine⟨b,d,e,G,λx m=>⟨?_, ?_⟩,O,U⟩
 ·rw[m.cells b _ G];exact H 0 ζ
 ·rw[m.cells b _ G];exact H 1 ζ
theorem Mb (x:Int):(qx x 2).length=2:=qI x 2 ζ
structure AkJ (w0 w:World) (R:Nat) (C:Nat->Prop) (v:Value) (acc:List (Int×Int)) (s:RdS):Prop where
 rd:qr w R s.1 s.2 C
 row:qV 2 Vl (λb=>b=R) w w0.heap.size 421 v acc
 away:qg (λb=>b=R) w0 w
 hC: ∀g,C g->g<w0.heap.size
 hR:R<w0.heap.size
section
variable {w0 w w':World} {R:Nat} {C:Nat->Prop} {v v':Value} {acc acc':List (Int×Int)} {s s':RdS}
theorem AkJ.read (h:AkJ w0 w R C v acc s) (r:qr w' R s'.1 s'.2 C) (a:qg (λb=>b=R) w w'):AkJ w0 w' R C v acc s':=⟨r,h.row.step a,h.away.trans a,h.hC,h.hR⟩
theorem AkJ.on (h:AkJ w0 w R C v acc s) (m:qa w w'):AkJ w0 w' R C v acc s:=⟨h.rd.more m,h.row.on m,h.away.more m,h.hC,h.hR⟩
theorem AkJ.put (h:AkJ w0 w R C v acc s) (O:qV 2 Vl (λb=>b=R) w' w0.heap.size 421 v' acc') (d:w.grownBy w' v.ownBlock):AkJ w0 w' R C v' acc' s:=by
 have I: ∀g,v.ownBlock=some g->w0.heap.size<=g:=λg e=>h.row.ge e
 have H:=h.away.size;have a:qg (λb=>v.ownBlock=some b) w w':=⟨d.os,d.tape,d.output,d.size,λk G H=>d.block k G (λe=>H e.symm)⟩;refine⟨h.rd.off a (λe=>by have:=I R e;have:=h.hR;omega) (λg J e=>by have:=I g e;have:=h.hC g J;omega),O, ?_,h.hC,h.hR⟩
 exact⟨a.os.trans h.away.os,a.tape.trans h.away.tape,a.output.trans h.away.output,Nat.le_trans H a.size,λk G N=>by
  rw[a.block k (Nat.lt_of_lt_of_le G H) (λe=>by have:=I k e;omega)]
  exact h.away.block k G N⟩
end
theorem yl {n:Nat} {acc:List (Int×Int)} {s:RdS} (h: ¬s.1=[]):jk (n+1) acc s=jk n (acc++[(wv s).1]) (wv s).2:=by
 show (if s.1=[] then _ else _)=_;rw[if_neg h]
theorem Xu {s:RdS} (h: ¬s.1=[]):(wv s).2.1.length+1<=s.1.length:=by
 have d:=List.length_pos_iff.2 h;have e:(wv s).2.1=((s.1.drop 4).drop 1).drop 3:=rfl;rw[e,List.length_drop,List.length_drop,List.length_drop];omega
theorem VS {s:RdS} (h: ¬s.1=[]):(0:Int)<(s.1.length:Int):=by
 have:=List.length_pos_iff.2 h;omega
theorem Vf {w:World} {R:Nat} {s0:RdS} {N:Nat->Prop} (h:qr w R s0.1 s0.2 N) (hR:R<w.heap.size):
  Calls prog 307 #[γ R] w λe w'=> ∃v',e= .returned v'/\AkJ w w' R (λg=>N g/\g<w.heap.size) v' (jk s0.1.length [] s0).1 (jk s0.1.length [] s0).2:=by
 obtain⟨aN,hi,aI,aJ,aK⟩:=info_parts (P:=prog) (e:=421) (z:= θ #[ω 0,υ 0]) (size:=2) (bytes:=8) ξ;obtain⟨C,aa⟩: ∃C:Nat->Prop,C=λg=>N g/\g<w.heap.size:=⟨_,rfl⟩
 have aw:Hid (AkJ w w R C (δ none 0 0) [] s0):=κ (by rw[aa];exact⟨h.old,qV.nil _ _ _ _ _ _,qg.refl _ _,λg h=>h.2,hR⟩);rw[<-aa];have aT:=h.small;clear aa h
 go_enter func307,ntmps307
 go_wp2
 go_loopw [3] (λv wr=> ∃acc s n,AkJ w wr R C v acc s/\s.1.length<=n/\jk n acc s=jk s0.1.length [] s0/\acc.length+s.1.length<=s0.1.length) (λv _=>s0.1.length-QV v)
 case atStart=>exact⟨[],s0,s0.1.length,aw.o,Nat.le_refl _,rfl,η⟩
 case round=>
  obtain⟨acc,s,n,ab,aR,I,aQ⟩:=hrel;have H:=κ ab;have aj:=κ I;obtain⟨aX,aV,aP,rfl,ap,aM⟩:=ab.row.shape;have az:=κ ap;clear ab I ap aM;by_cases hs:s.1=[]
  ·have I:=aj.o;obtain⟨l,e⟩:=s;simp only at hs;subst hs;rw[zE] at I;have ax:=κ I;clear I
   go_wp2_with (go_at_call 57;(go_call zl H.o.rd as e w9 ⟨rfl,rfl⟩))
   go_ret;exact⟨_,rfl,by rw[<-ax.o];exact H.o⟩
  ·have aS:=VS hs;have al:=Xu hs;have ae:=H.o.rd.byt;have an:=κ (Gu ae);obtain⟨n,rfl⟩: ∃k,n=k+1:=⟨n-1,by have:=List.length_pos_iff.2 hs;omega⟩;have ay:Hid (jk n (acc++[(wv s).1]) (wv s).2=jk s0.1.length [] s0):=κ (by rw[<-yl hs];exact aj.o);have ai:=κ al;obtain⟨d,ac⟩: ∃X,num (tkB s.1 4)=X:=⟨_,rfl⟩;obtain⟨G,ad⟩: ∃X,num (tkB (tkS s 4).1 1)=X:=⟨_,rfl⟩;have aC:=κ ac;have aD:=κ ad;have O:Hid ((wv s).1=(d,G)):=κ (by rw[<-ac,<-ad];rfl);clear ae hs al ac ad
   go_wp2_with (first | (go_at_call 57;(go_call zl H.o.rd as e w9 ⟨rfl,rfl⟩)) | (go_at_call 54;(go_call jz H.o.rd as e w2 ⟨rfl,aq,ak⟩;rw[aC.o];have U:=κ (H.o.read (s':=tkS s 4) aq ak);clear aq ak)) | (go_at_call 52;(go_call jP U.o.rd as e au ⟨rfl,ag,a3⟩;rw[aD.o];have aB:=κ ((U.o.read (s':=tkS (tkS s 4) 1) ag a3).away.size);have Y:=κ ((U.o.read (s':=tkS (tkS s 4) 1) ag a3).on (qa.alloc au (.cells #[ω d,υ G] 421)));have av:=κ (qk au (.cells #[ω d,υ G] 421));clear ag a3)) | (go_at_call 328;(go_call Jm Y.o.rd as e w4 ⟨rfl,ar,a4⟩;have aE:=κ (Y.o.read (s':=(wv s).2) ar a4);have ah:=κ (a4.blk av.o (λe=>by have:=Y.o.hR;have:=aB.o;omega));clear ar a4;have aG:=β0 ah.o;have aH:=β1 ah.o;have J:=κ (aE.o.on (qa.alloc w4 (.cells #[ω d,υ G] 421))))) | (at_builtin;refine jj _ rfl (.tmp 15) (.tmp 17) 280 rfl w.heap.size 421 aN (θ #[ω 0,υ 0]) 2 8 underlying280 hi aI aJ aK rfl ζ _ acc rfl J.o.row w4.heap.size [ω d,υ G] (d,G) rfl rfl (xO rfl) (by simp[Value.oneCell']) (λ_ _=>⟨rfl,by have:=an.o.1;rw[O.o] at this;exact this,by have:=an.o.2.1;rw[O.o] at this;exact this⟩) (λb ae=>by have:=J.o.hR;have:=J.o.away.size;omega) ζ τ J.o.away.size ?_;intro aY w6 af am _;have aF:=κ (J.o.put af am);obtain⟨aW,aU,aO,rfl,ao,aL⟩:=af.shape;have aA:=κ ao;clear af am ao aL aG aH))
   go_roundw
   case rel=>exact⟨acc++[(d,G)],(wv s).2,n,aF.o,by have:=ai.o;omega,by have:=ay.o;rw[O.o] at this;exact this,by have:=ai.o;simp only[List.length_append,List.length_cons,List.length_nil];omega⟩
   case measure=>have:=aA.o;have:=az.o;simp[QV] at *;omega
structure LoJ (w0 w:World) (R:Nat) (C:Nat->Prop) (v:Value) (acc:List Int) (s:RdS):Prop where
 rd:qr w R s.1 s.2 C
 row:w.ownsRow w0.heap.size 39 1 v acc.length (acc.map (Value.int .u16))
 away:qg (λb=>b=R) w0 w
 hC: ∀g,C g->g<w0.heap.size
 hR:R<w0.heap.size
section
variable {w0 w w':World} {R:Nat} {C:Nat->Prop} {v v':Value} {acc acc':List Int} {s s':RdS}
theorem LoJ.read (h:LoJ w0 w R C v acc s) (r:qr w' R s'.1 s'.2 C) (a:qg (λb=>b=R) w w'):LoJ w0 w' R C v acc s':=⟨r,XG h.row a (λb d e=>by have:=jD h.row d;have:=h.hR;omega),h.away.trans a,h.hC,h.hR⟩
theorem LoJ.on (h:LoJ w0 w R C v acc s) (m:qa w w'):LoJ w0 w' R C v acc s:=⟨h.rd.more m,jy h.row m,h.away.more m,h.hC,h.hR⟩
theorem LoJ.put (h:LoJ w0 w R C v acc s) (O:w'.ownsRow w0.heap.size 39 1 v' acc'.length (acc'.map (Value.int .u16))) (d:w.grownBy w' v.ownBlock):LoJ w0 w' R C v' acc' s:=by
 have I: ∀g,v.ownBlock=some g->w0.heap.size<=g:=λg e=>jD h.row e
 have H:=h.away.size;have a:qg (λb=>v.ownBlock=some b) w w':=⟨d.os,d.tape,d.output,d.size,λk G H=>d.block k G (λe=>H e.symm)⟩;refine⟨h.rd.off a (λe=>by have:=I R e;have:=h.hR;omega) (λg J e=>by have:=I g e;have:=h.hC g J;omega),O, ?_,h.hC,h.hR⟩
 exact⟨a.os.trans h.away.os,a.tape.trans h.away.tape,a.output.trans h.away.output,Nat.le_trans H a.size,λk G N=>by
  rw[a.block k (Nat.lt_of_lt_of_le G H) (λe=>by have:=I k e;omega)]
  exact h.away.block k G N⟩
end
theorem uL {n:Nat} {acc:List Int} {s:RdS} (h: ¬s.1=[]):qY (n+1) acc s=qY n (acc++prN (prS s).1) (gp acc (prS s).1 (prS s).2):=by
 show (if s.1=[] then _ else _)=_;rw[if_neg h]
theorem VL (acc:List Int) (p:Int×Int) (s:RdS):(gp acc p s).1.length<=s.1.length:=by
 unfold gp;split
 ·exact vL s 2
 ·exact Nat.le_refl _
theorem WZ {s:RdS} (h: ¬s.1=[]):(prS s).2.1.length+1<=s.1.length:=by
 have d:=List.length_pos_iff.2 h;have e:(prS s).2.1=(s.1.drop 2).drop 2:=rfl;rw[e,List.length_drop,List.length_drop];omega
theorem yi {w:World} {R:Nat} {l:List Int} {e:Int} {C:Nat->Prop} (h:qr w R l e C):
  Calls prog 57 #[γ R] w λd w'=>d= .returned (ι l.length)/\w=w':=(zl h).mono λ_ _ ⟨a,b⟩=>⟨a,b.symm⟩
theorem XA {w:World} {base e g k c:Nat} {acc:List Int} (h:w.ownsRow base e 1 (δ (some ⟨g,0,none⟩) (k+1) c) acc.length (acc.map (Value.int .u16))) (d:acc.length=k+1):w.cell? ⟨g,k,none⟩=some (φ (acc.getD k 0)):=by
 rw[d] at h;rw[h.cellAt k τ,List.getElem?_map,List.getD_eq_getElem?_getD,List.getElem?_eq_getElem τ];rfl
theorem Cc (p:Int×Int):1<=(prN p).length/\(prN p).length<=17:=Gb p
theorem Ve {w:World} {R:Nat} {s0:RdS} {aM:Nat->Prop} (h:qr w R s0.1 s0.2 aM) (hR:R<w.heap.size):
  Calls prog 308 #[γ R] w λe w'=> ∃v',e= .returned v'/\LoJ w w' R (λg=>aM g/\g<w.heap.size) v' (qY s0.1.length [] (xM s0)).1 (qY s0.1.length [] (xM s0)).2:=by
 obtain⟨bd,hi,ba,bb,bc⟩:=info_parts (P:=prog) (e:=39) (z:= φ 0) (size:=1) (bytes:=2) ξ;obtain⟨C,aH⟩: ∃C:Nat->Prop,C=λg=>aM g/\g<w.heap.size:=⟨_,rfl⟩
 have bp:qr w R s0.1 s0.2 C:=by rw[aH];exact h.old
 have bi:Hid (∀g,C g->g<w.heap.size):=κ (by rw[aH];exact λg h=>h.2);rw[<-aH];have bU:=h.small;have aU:=κ bp;clear aH h bp;have bl:=κ (λw' (r:qr w' R s0.1 s0.2 C)=>zn (s:=s0) r 2)
 go_enter func308,ntmps308
 go_upto_if 7 with (go_at_call 57;(go_call yi aU.o as e w9 ⟨rfl,rfl⟩))
 go_cut [] from 7 to 9 (λbL=>LoJ w bL R C (δ none 0 0) [] (xM s0))
 case first=>
  by_cases hs:s0.1.length=0
  ·have bs:((s0.1.length:Int)==0)=true:=eqB τ;have an:xM s0=wrS s0 2:=by unfold xM;rw[if_pos hs]
   have aO:=κ an;clear an hs
   go_wp2_with (first | (go_at_call 55;(go_call bl.o _ aU.o as e H ⟨rfl,J,a3⟩;have U:Hid (LoJ w H R C (δ none 0 0) [] (xM s0)):=κ (by rw[aO.o];exact⟨J,World.ownsRow_nil _ _ _ _,a3,bi.o,hR⟩);clear J a3)))
   go_meet;exact U.o
  ·have bs:((s0.1.length:Int)==0)=false:=neB τ;have an:xM s0=s0:=by unfold xM;rw[if_neg hs]
   have aO:=κ an;clear an hs;go_wp2;go_meet;rw[aO.o];exact⟨aU.o,World.ownsRow_nil _ _ _ _,qg.refl _ _,bi.o,hR⟩
 case rest=>
 have bH:=κ hcut;clear hcut bl;have an:(xM s0).1.length<=s0.1.length:=by
  unfold xM;split
  ·exact vL _ _
  ·exact Nat.le_refl _
 go_wp2_with fail
 go_loopw [3] (λv wr=> ∃acc s n,LoJ w wr R C v acc s/\s.1.length<=n/\qY n acc s=qY s0.1.length [] (xM s0)/\acc.length+17* s.1.length<=17* s0.1.length/\(∀x∈acc,U16 x)) (λv _=>17* s0.1.length-QV v)
 case atStart=>exact⟨[],xM s0,s0.1.length,bH.o,an,rfl,by simp;omega,λx ao=>by cases ao⟩
 case round=>
  obtain⟨acc,s,n,aX,bT,aq,bS,bt⟩:=hrel;have aE:=κ bt;clear bt;have N:=κ aX;have bj:=κ aq;obtain⟨bV,bK,bN,rfl,aC,bJ⟩:=qU aX.row;have bF:=κ aC;clear aX aq bJ;by_cases hs:s.1=[]
  ·have aq:=bj.o;obtain⟨l,e⟩:=s;simp only at hs;subst hs;rw[wG] at aq;have bE:=κ aq;clear aq aC
   go_wp2_with (go_at_call 57;(go_call yi N.o.rd as e w9 ⟨rfl,rfl⟩))
   go_ret;exact⟨_,rfl,by rw[<-bE.o];exact N.o⟩
  ·have bs:=VS hs;have aI:=WZ hs;have br:=N.o.rd.byt;obtain⟨be,bf,-⟩:=An br;obtain⟨n,rfl⟩: ∃k,n=k+1:=⟨n-1,by have:=List.length_pos_iff.2 hs;omega⟩;have aD:Hid (qY n (acc++prN (prS s).1) (gp acc (prS s).1 (prS s).2)=qY s0.1.length [] (xM s0)):=κ (by rw[<-uL hs];exact bj.o);have aN:=κ aI;have aJ:=VL acc (prS s).1 (prS s).2;obtain⟨d,aY⟩: ∃X,num (tkB s.1 2)=X:=⟨_,rfl⟩;obtain⟨G,aZ⟩: ∃X,num (tkB (tkS s 2).1 2)=X:=⟨_,rfl⟩;have aR:=κ aY;have aS:=κ aZ;have bq:(prS s).1=(d,G):=by rw[<-aY,<-aZ];rfl
   rw[bq] at aD aJ be bf;have am:=κ be;have aV:=κ bf;have O:=κ (Cc (d,G));clear br hs aY aZ bq be bf;have bG:=κ (λw' (r:qr w' R (prS s).2.1 (prS s).2.2 C)=>zn (s:=(prS s).2) r 2);by_cases ha:acc=[]
   ·subst ha;have e:gp [] (d,G) (prS s).2=(prS s).2:=by unfold gp;rw[if_neg (λh=>h.1 rfl)]
    have av:Hid (qY n ([]++prN (d,G)) (prS s).2=qY s0.1.length [] (xM s0)):=κ (by rw[<-e];exact aD.o);have ae:Hid ((prS s).2.1.length+1<=s.1.length):=aN;obtain rfl:bK=0:=aC;clear e aJ aI
    go_wp2_with (first | (go_at_call 57;(go_call yi N.o.rd as e w9 ⟨rfl,rfl⟩)) | (go_at_call 53;((with_reducible refine(xm N.o.rd).mono ?_);rintro e w2 ⟨rfl,ak,af⟩;rw[aR.o];have Y:=κ (N.o.read (s':=tkS s 2) ak af);clear ak af)) | (go_at_call 53;((with_reducible refine(xm Y.o.rd).mono ?_);rintro e H ⟨rfl,J,a3⟩;rw[aS.o];have U:=κ ((Y.o.read (s':=(prS s).2) J a3).on (qa.alloc H (.cells #[φ d,φ G] 483)));have aQ:=κ ((Y.o.read (s':=(prS s).2) J a3).away.size);have ad:=κ (qk H (.cells #[φ d,φ G] 483));clear J a3)))
    generalize az:H.alloc (.cells #[φ d,φ G] 483)=x3 at *;clear az;generalize H.heap.size=P3 at *;have aj:=λ(x:qp x3)=>β0 (qc x.h ad.o)
    refine qz x3 (qa.refl _) ξ ξ ?_
    repeat (go_big_quiet_step (fail))
    refine wpQuiet_nil ?_;intro _ aA;obtain⟨I,rfl⟩:=aA;have al:=κ (U.o.on I.h);have aF:=aj I;have aG:I.w'.cell? ⟨P3,1,none⟩=some (φ G):=qb (qc I.h ad.o) 1 rfl;clear aj U
    go_wp2_with (first | (go_at_call 330;(go_call QS (d,G) _ am.o aV.o as e w6 ⟨bB,rfl,ac,ai⟩;have aa:=κ (al.o.on ai);have S6:=κ (SlI.of_owns ac (by have:=O.o.2;omega));obtain⟨bz,bw,bo,rfl,aB,-⟩:=qU ac;clear ac ai aB)) | (at_builtin;refine qK _ rfl (.tmp 35) (.tmp 37) 281 rfl w.heap.size 39 bd (φ 0) 2 underlying281 hi ba bb bc rfl _ .u16 [] rfl aa.o.row _ (prN (d,G)) rfl S6.o (by have:=O.o.2;simp only[List.length_nil] at *;omega) ζ aa.o.away.size ?_;intro bC bD ab ag _;have ay:=κ (aa.o.put ab ag);obtain⟨bx,bv,bn,rfl,ah,-⟩:=qU ab;have ax:=κ ah;clear ab ag ah))
    go_roundw
    case rel=>exact⟨[]++prN (d,G),(prS s).2,n,ay.o,by have:=ae.o;omega,av.o,by have:=ae.o;have:=O.o.2;rw[List.length_append];simp only[List.length_nil] at *;omega,λx ao=>(List.mem_append.1 ao).elim (aE.o x) (JF am.o x)⟩
    case measure=>have:=ax.o;have:=bF.o;have:=O.o.1;simp[QV,List.length_append] at *;omega
   ·obtain⟨k,ar⟩: ∃k,acc.length=k+1:=⟨acc.length-1,by have:=List.length_pos_iff.2 ha;omega⟩;have au:=Ky ha;rw[ar,Nat.add_sub_cancel] at au;have aK:=aE.o _ (CK (l:=acc) (i:=k) τ);have ap:=κ ar;rw[ar] at aC;subst aC;obtain⟨g,bM,bu,bO,bP,-⟩:=BC N.o.row τ;rw[ar] at bu;cases bu;obtain⟨y,aL⟩:=ν (acc.getD k 0);rw[aL] at aK au;have bm:=κ aL;have bk:=κ (λw=>DM y d w aK am.o);have bQ:(0:Int)<(k:Int)+1:=by omega
    have bR:(k:Int)<=9223372036854775807:=by omega
    by_cases hd:0<ahd y d
    ·have e:gp acc (d,G) (prS s).2=(prS s).2:=by unfold gp;rw[if_neg (λh=>h.2 (by rw[au];exact hd))]
     have av:Hid (qY n (acc++prN (d,G)) (prS s).2=qY s0.1.length [] (xM s0)):=κ (by rw[<-e];exact aD.o);have ae:Hid ((prS s).2.1.length+1<=s.1.length):=aN;have bI:decide (0<ahd y d)=true:=decide_eq_true hd;clear e aJ aI hd ha ar au aK aL
     go_wp2_with (first | (go_at_call 57;(go_call yi N.o.rd as e w9 ⟨rfl,rfl⟩)) | (go_at_call 53;((with_reducible refine(xm N.o.rd).mono ?_);rintro e w2 ⟨rfl,ak,af⟩;rw[aR.o];have Y:=κ (N.o.read (s':=tkS s 2) ak af);clear ak af)) | (go_at_call 53;((with_reducible refine(xm Y.o.rd).mono ?_);rintro e H ⟨rfl,J,a3⟩;rw[aS.o];have U:=κ ((Y.o.read (s':=(prS s).2) J a3).on (qa.alloc H (.cells #[φ d,φ G] 483)));have aQ:=κ ((Y.o.read (s':=(prS s).2) J a3).away.size);have ad:=κ (qk H (.cells #[φ d,φ G] 483));clear J a3)))
     generalize az:H.alloc (.cells #[φ d,φ G] 483)=x3 at *;clear az
     have aw:Hid (∀x:qp x3,x.w'.cell? ⟨g,k,none⟩=some (φ y)):=κ (λx=>by
      have aW:=XA (jy U.o.row x.h) ap.o
      rw[aW,bm.o])
     have aP:=aw.o;generalize H.heap.size=P3 at *;have aj:=λ(x:qp x3)=>β0 (qc x.h ad.o)
     refine qz x3 (qa.refl _) ξ ξ ?_
     repeat (go_big_quiet_step ((go_at_call 329;with_reducible exact kF ((bk.o _).mono λ_ _ ⟨e,h⟩=>⟨e,h.symm⟩))))
     refine wpQuiet_nil ?_;intro _ aA;obtain⟨I,rfl⟩:=aA;have al:=κ (U.o.on I.h);have aF:=aj I;have aG:I.w'.cell? ⟨P3,1,none⟩=some (φ G):=qb (qc I.h ad.o) 1 rfl;have bh:=κ (qc I.h ad.o);clear aj U aP aw;have aT:=al
     go_wp2_with (first | (go_at_call 330;(go_call QS (d,G) _ am.o aV.o as e w6 ⟨bB,rfl,ac,ai⟩;have aa:=κ (aT.o.on ai);have S6:=κ (SlI.of_owns ac (by have:=O.o.2;omega));obtain⟨bz,bw,bo,rfl,aB,-⟩:=qU ac;clear ac ai aB)) | (at_builtin;refine qK _ rfl (.tmp 35) (.tmp 37) 281 rfl w.heap.size 39 bd (φ 0) 2 underlying281 hi ba bb bc rfl _ .u16 acc rfl aa.o.row _ (prN (d,G)) rfl S6.o (by have:=O.o.2;have:=ap.o;omega) ζ aa.o.away.size ?_;intro bC bD ab ag _;have ay:=κ (aa.o.put ab ag);obtain⟨bx,bv,bn,rfl,ah,-⟩:=qU ab;have ax:=κ ah;clear ab ag ah))
     go_roundw
     case rel=>exact⟨acc++prN (d,G),(prS s).2,n,ay.o,by have:=ae.o;omega,av.o,by have:=ae.o;have:=O.o.2;rw[List.length_append];omega,λx ao=>(List.mem_append.1 ao).elim (aE.o x) (JF am.o x)⟩
     case measure=>have:=ax.o;have:=ap.o;have:=O.o.1;simp[QV,List.length_append] at *;omega
    ·have e:gp acc (d,G) (prS s).2=wrS (prS s).2 2:=by unfold gp;rw[if_pos ⟨ha,by rw[au];exact hd⟩]
     have av:Hid (qY n (acc++prN (d,G)) (wrS (prS s).2 2)=qY s0.1.length [] (xM s0)):=κ (by rw[<-e];exact aD.o);have ae:Hid ((wrS (prS s).2 2).1.length+1<=s.1.length):=κ (by have:=aN.o;have:=vL (prS s).2 2;omega);have bI:decide (0<ahd y d)=false:=decide_eq_false hd;clear e aJ aI hd ha ar au aK aL
     go_wp2_with (first | (go_at_call 57;(go_call yi N.o.rd as e w9 ⟨rfl,rfl⟩)) | (go_at_call 53;((with_reducible refine(xm N.o.rd).mono ?_);rintro e w2 ⟨rfl,ak,af⟩;rw[aR.o];have Y:=κ (N.o.read (s':=tkS s 2) ak af);clear ak af)) | (go_at_call 53;((with_reducible refine(xm Y.o.rd).mono ?_);rintro e H ⟨rfl,J,a3⟩;rw[aS.o];have U:=κ ((Y.o.read (s':=(prS s).2) J a3).on (qa.alloc H (.cells #[φ d,φ G] 483)));have aQ:=κ ((Y.o.read (s':=(prS s).2) J a3).away.size);have ad:=κ (qk H (.cells #[φ d,φ G] 483));clear J a3)))
     generalize az:H.alloc (.cells #[φ d,φ G] 483)=x3 at *;clear az
     have aw:Hid (∀x:qp x3,x.w'.cell? ⟨g,k,none⟩=some (φ y)):=κ (λx=>by
      have aW:=XA (jy U.o.row x.h) ap.o
      rw[aW,bm.o])
     have aP:=aw.o;generalize H.heap.size=P3 at *;have aj:=λ(x:qp x3)=>β0 (qc x.h ad.o)
     refine qz x3 (qa.refl _) ξ ξ ?_
     repeat (go_big_quiet_step ((go_at_call 329;with_reducible exact kF ((bk.o _).mono λ_ _ ⟨e,h⟩=>⟨e,h.symm⟩))))
     refine wpQuiet_nil ?_;intro _ aA;obtain⟨I,rfl⟩:=aA;have al:=κ (U.o.on I.h);have aF:=aj I;have aG:I.w'.cell? ⟨P3,1,none⟩=some (φ G):=qb (qc I.h ad.o) 1 rfl;have bh:=κ (qc I.h ad.o);clear aj U aP aw
     go_wp2_with (first | (go_at_call 55;(go_call bG.o _ al.o.rd as e w5 ⟨rfl,bA,a5⟩;have aT:=κ (al.o.read (s':=wrS (prS s).2 2) bA a5);have bg:=κ (a5.blk bh.o (λe=>by have:=al.o.hR;have:=aQ.o;omega));clear bA a5 aF aG;have aF:=β0 bg.o;have aG:=β1 bg.o)) | (go_at_call 330;(go_call QS (d,G) _ am.o aV.o as e w6 ⟨bB,rfl,ac,ai⟩;have aa:=κ (aT.o.on ai);have S6:=κ (SlI.of_owns ac (by have:=O.o.2;omega));obtain⟨bz,bw,bo,rfl,aB,-⟩:=qU ac;clear ac ai aB)) | (at_builtin;refine qK _ rfl (.tmp 35) (.tmp 37) 281 rfl w.heap.size 39 bd (φ 0) 2 underlying281 hi ba bb bc rfl _ .u16 acc rfl aa.o.row _ (prN (d,G)) rfl S6.o (by have:=O.o.2;have:=ap.o;omega) ζ aa.o.away.size ?_;intro bC bD ab ag _;have ay:=κ (aa.o.put ab ag);obtain⟨bx,bv,bn,rfl,ah,-⟩:=qU ab;have ax:=κ ah;clear ab ag ah))
     go_roundw
     case rel=>exact⟨acc++prN (d,G),(wrS (prS s).2 2),n,ay.o,by have:=ae.o;omega,av.o,by have:=ae.o;have:=O.o.2;rw[List.length_append];omega,λx ao=>(List.mem_append.1 ao).elim (aE.o x) (JF am.o x)⟩
     case measure=>have:=ax.o;have:=ap.o;have:=O.o.1;simp[QV,List.length_append] at *;omega
theorem MJ {w:World} {base e:Nat} {v:Value} {xs:List Value} {n:Nat} (h:w.ownsRow base e 1 v n xs):(n:Int)<=9223372036854775807:=by
 rcases h.2 with ⟨_,G⟩ | ⟨g,cap,cur,_,_,_,H,d,_⟩
 ·omega
 ·unfold maxLen at d;omega
structure RdB (w0 w:World) (R:Nat) (l:List Int) (e:Int) (C:Nat->Prop) (B1 B2:Nat) (z cs:Array Value) (T:Nat):Prop where
 rd:qr w R l e (λg=>C g/\g<w0.heap.size)
 away:qg (λb=>b=R) w0 w
 b1:w.heap[B1]? =some (.cells z T (0,0))
 b2:w.heap[B2]? =some (.cells cs T (0,0))
 n1:w0.heap.size<=B1
 n2:B1<B2
 hR:R<w0.heap.size
theorem RdB.new {w:World} {R:Nat} {l:List Int} {e:Int} {C:Nat->Prop} (z:Array Value) (T:Nat) (h:qr w R l e C):RdB w ((w.alloc (.cells z T)).alloc (.cells z T)) R l e C w.heap.size (w.heap.size+1) z z T:=
 ⟨(h.old.more (qa.alloc _ _)).more (qa.alloc _ _),qg.of_more ((qa.alloc _ _).al _),qq (qk w _) _,qB η,Nat.le_refl _,Nat.lt_succ_self _,by obtain⟨v,d,_⟩:=h.blk;exact ql d⟩
theorem RdB.step {d w w':World} {R:Nat} {l l':List Int} {e I:Int} {C:Nat->Prop} {G H:Nat} {z cs:Array Value} {T:Nat} (h:RdB d w R l e C G H z cs T) (r:qr w' R l' I (λg=>C g/\g<d.heap.size)) (a:qg (λb=>b=R) w w'):RdB d w' R l' I C G H z cs T:=
 ⟨r,h.away.trans a,a.blk h.b1 (by have:=h.n1;have:=h.hR;omega),a.blk h.b2 (by have:=h.n1;have:=h.n2;have:=h.hR;omega),h.n1,h.n2,h.hR⟩
theorem Kf {d w:World} {R B:Nat} (h:qg (λb=>b=R) d w) (I:d.heap.size<=B) (o:Nat) (v:Value):qg (λb=>b=R) d (w.setCell ⟨B,o,none⟩ v):=by
 have a:qg (λb=>b=B) w (w.setCell ⟨B,o,none⟩ v):=(qg.refl (λb=>b=B) w).set (p:=⟨B,o,none⟩) rfl v;exact⟨a.os.trans h.os,a.tape.trans h.tape,a.output.trans h.output,Nat.le_trans h.size a.size,λk G H=>by rw[a.block k (Nat.lt_of_lt_of_le G h.size) τ];exact h.block k G H⟩
theorem RdB.store {H w:World} {R:Nat} {l:List Int} {e:Int} {C:Nat->Prop} {G d:Nat} {z cs:Array Value} {T:Nat} (h:RdB H w R l e C G d z cs T) (i:Nat) (v:Value):RdB H (w.setCell ⟨d,i,none⟩ v) R l e C G d z (cs.setIfInBounds i v) T:=by
 have I:=h.n1;have J:=h.n2;have N:=h.hR;have a:qg (λb=>b=d) w (w.setCell ⟨d,i,none⟩ v):=(qg.refl (λb=>b=d) w).set (p:=⟨d,i,none⟩) rfl v;exact⟨h.rd.off a τ (λg O e=>by omega),Kf h.away τ i v,a.blk h.b1 τ,qo h.b2 i v,h.n1,h.n2,h.hR⟩
theorem RdB.fill {H w:World} {R:Nat} {l:List Int} {e:Int} {C:Nat->Prop} {d G:Nat} {z cs:Array Value} {T:Nat} (h:RdB H w R l e C d G z cs T) (i:Nat) (v:Value):RdB H (w.setCell ⟨d,i,none⟩ v) R l e C d G (z.setIfInBounds i v) cs T:=by
 have I:=h.n1;have J:=h.n2;have N:=h.hR;have a:qg (λb=>b=d) w (w.setCell ⟨d,i,none⟩ v):=(qg.refl (λb=>b=d) w).set (p:=⟨d,i,none⟩) rfl v;exact⟨h.rd.off a τ (λg O e=>by omega),Kf h.away τ i v,qo h.b1 i v,a.blk h.b2 τ,h.n1,h.n2,h.hR⟩
theorem kz {s:RdS} (h:Byt s.1):U32 (xQ s):=by
 have:=zv (tkB s.1 4) 4 (jI h 4) (zf s.1 4 ζ) ζ;unfold xQ;exact⟨this.1,τ⟩
theorem AZ (q:Int):IntKind.i32.wrap q=(q+2147483648)%4294967296-2147483648:=by
 unfold IntKind.wrap;simp[IntKind.bits,IntKind.signed]
 try omega
theorem KE {w:World} {R:Nat} {s:RdS} {C:Nat->Prop} (h:qr w R s.1 s.2 C):
  Calls prog 304 #[γ R] w λe w'=>e= .returned (θ #[ω (jv s).1.sec,ω (jv s).1.frac,ω (jv s).1.stamp,ω (jv s).1.pkts,ω (jv s).1.octs])/\qr w' R (jv s).2.1 (jv s).2.2 C/\qg (λb=>b=R) w w':=by
 obtain⟨L,E⟩:=s;simp only at h;have O:=RdB.new #[ω 0,ω 0,ω 0,ω 0,ω 0] 286 h;have ac:=h.byt;have ag:jv (L,E)=(⟨num (tkB L 4),num (tkB (tkL L 4) 4),num (tkB (tkL (tkL L 4) 4) 4),num (tkB (tkL (tkL (tkL L 4) 4) 4) 4),num (tkB (tkL (tkL (tkL (tkL L 4) 4) 4) 4) 4)⟩,((tkL (tkL (tkL (tkL (tkL L 4) 4) 4) 4) 4),(tkE (tkL (tkL (tkL (tkL L 4) 4) 4) 4) 4 (tkE (tkL (tkL (tkL L 4) 4) 4) 4 (tkE (tkL (tkL L 4) 4) 4 (tkE (tkL L 4) 4 (tkE L 4 E))))))):=rfl;have N:=κ ag;clear ag;have ad:Byt (tkL L 4):=ac.drop _;generalize aC:num (tkB L 4)=n0 at *;generalize ap:tkE L 4 E=E1 at *;generalize aw:tkL L 4=L1 at *;have ae:Byt (tkL L1 4):=ad.drop _;generalize aD:num (tkB L1 4)=n1 at *;generalize aq:tkE L1 4 E1=E2 at *;generalize ax:tkL L1 4=L2 at *;have af:Byt (tkL L2 4):=ae.drop _;generalize aE:num (tkB L2 4)=n2 at *;generalize ar:tkE L2 4 E2=E3 at *;generalize ay:tkL L2 4=L3 at *;have aB:Byt (tkL L3 4):=af.drop _;generalize aF:num (tkB L3 4)=n3 at *;generalize au:tkE L3 4 E3=E4 at *;generalize az:tkL L3 4=L4 at *;generalize aG:num (tkB L4 4)=n4 at *;generalize av:tkE L4 4 E4=E5 at *;generalize aA:tkL L4 4=L5 at *;clear ac ad ae af aB
 go_enter func304,ntmps304
 go_wp2_with first | (go_at_call 54;((with_reducible refine(jz O.rd).mono ?_);rintro e w10 ⟨rfl,aH,a0⟩;have G:=O.step aH a0;rw[aw,ap] at G;rw[aC];have U:=G.store 0 (ω n0);have aM:=β0 G.b2;have aR:=qd G.b2 0)) | (go_at_call 54;((with_reducible refine(jz U.rd).mono ?_);rintro e aW ⟨rfl,aI,ai⟩;have H:=U.step aI ai;rw[ax,aq] at H;rw[aD];have Y:=H.store 1 (ω n1);have c1:=β1 H.b2;have aS:=qd H.b2 1)) | (go_at_call 54;((with_reducible refine(jz Y.rd).mono ?_);rintro e aX ⟨rfl,aJ,aj⟩;have I:=Y.step aJ aj;rw[ay,ar] at I;rw[aE];have aa:=I.store 2 (ω n2);have c2:=β2 I.b2;have aT:=qd I.b2 2)) | (go_at_call 54;((with_reducible refine(jz aa.rd).mono ?_);rintro e aY ⟨rfl,aK,a3⟩;have J:=aa.step aK a3;rw[az,au] at J;rw[aF];have ab:=J.store 3 (ω n3);have c3:=β3 J.b2;have aU:=qd J.b2 3)) | (go_at_call 54;((with_reducible refine(jz ab.rd).mono ?_);rintro e aZ ⟨rfl,aL,a4⟩;have d:=ab.step aL a4;rw[aA,av] at d;rw[aG];have ah:=d.store 4 (ω n4);have c4:=β4 d.b2;have aV:=qd d.b2 4;have aN:=β0 d.b2;have aO:=β1 d.b2;have aP:=β2 d.b2;have aQ:=β3 d.b2;have ak:=β0 d.b1;have z0:=qd d.b1 0;have al:=β1 d.b1;have ba:=qd d.b1 1;have am:=β2 d.b1;have bb:=qd d.b1 2;have an:=β3 d.b1;have z3:=qd d.b1 3;have ao:=β4 d.b1;have z4:=qd d.b1 4))
 (refine bodyPost_ret (v:= θ #[ω n0,ω n1,ω n2,ω n3,ω n4]) ?rr1 rfl ?_;(case rr1=>(simp[results,results304,go_sem,ak,al,am,an,ao])))
 have Z:=(((((ah.fill 0 (ω n0)).fill 1 (ω n1)).fill 2 (ω n2)).fill 3 (ω n3)).fill 4 (ω n4));exact⟨by rw[N.o],by rw[N.o];exact Z.rd.mono λg h=>h.1,Z.away⟩
theorem KH {w:World} {R:Nat} {s:RdS} {C:Nat->Prop} (h:qr w R s.1 s.2 C):
  Calls prog 305 #[γ R] w λe w'=>e= .returned (θ #[ω (qM s).1.src,υ (qM s).1.part,χ (qM s).1.miss,ω (qM s).1.high,ω (qM s).1.jit,ω (qM s).1.last,ω (qM s).1.dly])/\qr w' R (qM s).2.1 (qM s).2.2 C/\qg (λb=>b=R) w w':=by
 obtain⟨L,E⟩:=s;simp only at h;have aa:=RdB.new Γe 473 h;have ah:=h.byt;have an:qM (L,E)=(⟨num (tkB L 4),num (tkB (tkL L 4) 1),sgd (num (tkB (tkL (tkL L 4) 1) 3)) 24,num (tkB (tkL (tkL (tkL L 4) 1) 3) 4),num (tkB (tkL (tkL (tkL (tkL L 4) 1) 3) 4) 4),num (tkB (tkL (tkL (tkL (tkL (tkL L 4) 1) 3) 4) 4) 4),num (tkB (tkL (tkL (tkL (tkL (tkL (tkL L 4) 1) 3) 4) 4) 4) 4)⟩,((tkL (tkL (tkL (tkL (tkL (tkL (tkL L 4) 1) 3) 4) 4) 4) 4),(tkE (tkL (tkL (tkL (tkL (tkL (tkL L 4) 1) 3) 4) 4) 4) 4 (tkE (tkL (tkL (tkL (tkL (tkL L 4) 1) 3) 4) 4) 4 (tkE (tkL (tkL (tkL (tkL L 4) 1) 3) 4) 4 (tkE (tkL (tkL (tkL L 4) 1) 3) 4 (tkE (tkL (tkL L 4) 1) 3 (tkE (tkL L 4) 1 (tkE L 4 E))))))))):=rfl;have Y:=κ an;clear an;have ai:Byt (tkL L 4):=ah.drop _;generalize aR:num (tkB L 4)=n0 at *;generalize aC:tkE L 4 E=E1 at *;generalize aJ:tkL L 4=L1 at *;have U:Byt (tkL L1 1):=ai.drop _;generalize aS:num (tkB L1 1)=n1 at *;generalize aD:tkE L1 1 E1=E2 at *;generalize aK:tkL L1 1=L2 at *;have am:=zv (tkB L2 3) 3 (jI U 3) (zf L2 3 ζ) ζ;have aj:Byt (tkL L2 3):=U.drop _;generalize aT:num (tkB L2 3)=n2 at *;generalize aE:tkE L2 3 E2=E3 at *;generalize aL:tkL L2 3=L3 at *;have ba:U64 n2:=by
  unfold U64;omega
 have bz:IntKind.u64.wrap n2=n2:=by
  exact Int.emod_eq_of_lt am.1 (by show n2<18446744073709551616;omega)
 have ao:=KY n2 24 ζ ζ;have aZ:(sgd n2 24+2147483648)%4294967296-2147483648=sgd n2 24:=by
  have e:two (24-1)=8388608:=by decide
  rw[e] at ao;omega
 generalize aY:sgd n2 24=q at *;have bx:IntKind.i32.wrap q=q:=(AZ q).trans aZ;have ak:Byt (tkL L3 4):=aj.drop _;generalize aU:num (tkB L3 4)=n3 at *;generalize aF:tkE L3 4 E3=E4 at *;generalize aM:tkL L3 4=L4 at *;have al:Byt (tkL L4 4):=ak.drop _;generalize aV:num (tkB L4 4)=n4 at *;generalize aG:tkE L4 4 E4=E5 at *;generalize aN:tkL L4 4=L5 at *;have aQ:Byt (tkL L5 4):=al.drop _;generalize aW:num (tkB L5 4)=n5 at *;generalize aH:tkE L5 4 E5=E6 at *;generalize aO:tkL L5 4=L6 at *;generalize aX:num (tkB L6 4)=n6 at *;generalize aI:tkE L6 4 E6=E7 at *;generalize aP:tkL L6 4=L7 at *;clear ah ai U aj ak al aQ ao am
 go_enter func305,ntmps305
 go_wp2_with first | (go_at_call 54;((with_reducible refine(jz aa.rd).mono ?_);rintro e w10 ⟨rfl,bb,a0⟩;have G:=aa.step bb a0;rw[aJ,aC] at G;rw[aR];have ab:=G.store 0 (ω n0);have bi:=β0 G.b2;have bq:=qd G.b2 0)) | (go_at_call 52;(go_call jP ab.rd as e bA ⟨rfl,bc,aq⟩;have H:=ab.step bc aq;rw[aK,aD] at H;rw[aS];have ac:=H.store 1 (υ n1);have c1:=β1 H.b2;have br:=qd H.b2 1)) | (go_at_call 328;(go_call Jm ac.rd as e bB ⟨rfl,bd,ar⟩;have I:=ac.step bd ar;rw[aL,aE] at I;rw[aT];have ad:=I.store 2 (χ q);have c2:=β2 I.b2;have bs:=qd I.b2 2)) | (go_at_call 327;(go_call Wm n2 24 ba ζ _ as e bG ⟨rfl,rfl⟩;rw[aY])) | (go_at_call 54;((with_reducible refine(jz ad.rd).mono ?_);rintro e bC ⟨rfl,be,a3⟩;have J:=ad.step be a3;rw[aM,aF] at J;rw[aU];have ae:=J.store 3 (ω n3);have c3:=β3 J.b2;have bt:=qd J.b2 3)) | (go_at_call 54;((with_reducible refine(jz ae.rd).mono ?_);rintro e bD ⟨rfl,bf,a4⟩;have N:=ae.step bf a4;rw[aN,aG] at N;rw[aV];have af:=N.store 4 (ω n4);have c4:=β4 N.b2;have bu:=qd N.b2 4)) | (go_at_call 54;((with_reducible refine(jz af.rd).mono ?_);rintro e bE ⟨rfl,bg,a5⟩;have O:=af.step bg a5;rw[aO,aH] at O;rw[aW];have ag:=O.store 5 (ω n5);have c5:=β5 O.b2;have bv:=qd O.b2 5)) | (go_at_call 54;((with_reducible refine(jz ag.rd).mono ?_);rintro e bF ⟨rfl,bh,au⟩;have d:=ag.step bh au;rw[aP,aI] at d;rw[aX];have ap:=d.store 6 (ω n6);have bj:=β6 d.b2;have bw:=qd d.b2 6;have bk:=β0 d.b2;have bl:=β1 d.b2;have bm:=β2 d.b2;have bn:=β3 d.b2;have bo:=β4 d.b2;have bp:=β5 d.b2;have av:=β0 d.b1;have z0:=qd d.b1 0;have aw:=β1 d.b1;have bH:=qd d.b1 1;have ax:=β2 d.b1;have bI:=qd d.b1 2;have ay:=β3 d.b1;have z3:=qd d.b1 3;have az:=β4 d.b1;have z4:=qd d.b1 4;have aA:=β5 d.b1;have z5:=qd d.b1 5;have aB:=β6 d.b1;have bJ:=qd d.b1 6))
 (refine bodyPost_ret (v:= θ #[ω n0,υ n1,χ q,ω n3,ω n4,ω n5,ω n6]) ?rr2 rfl ?_;(case rr2=>(simp[results,results305,go_sem,av,aw,ax,ay,az,aA,aB])))
 have Z:=(((((((ap.fill 0 (ω n0)).fill 1 (υ n1)).fill 2 (χ q)).fill 3 (ω n3)).fill 4 (ω n4)).fill 5 (ω n5)).fill 6 (ω n6));exact⟨by rw[Y.o],by rw[Y.o];exact Z.rd.mono λg h=>h.1,Z.away⟩
end Go.Proofs.YtlmllmonabafjaaGreatDoor
