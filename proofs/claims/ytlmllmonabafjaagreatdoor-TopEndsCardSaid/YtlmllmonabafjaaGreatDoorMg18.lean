/- Contracts of the functions that the law reaches, and plain laws; no conditions but those written at each. -/
import Derived.Test.YtlmllmonabafjaaGreatDoorMg17
namespace Go.Proofs.YtlmllmonabafjaaGreatDoor
open Go.Value renaming bool->μ,slice->δ,pointer->π,agg->θ
open Go.IntKind renaming i64->ι,u8->υ,u16->φ,u32->ω,i32->χ,u64->ψ
set_option linter.unusedSimpArgs false
set_option maxHeartbeats 8000000
set_option linter.unusedVariables false
open Go.RowKit
set_option maxRecDepth 100000
section
variable {K V:Type} [DecidableEq K]
theorem qF (m:List (K×V)) (k x:K) (v:V):qh (qx m k v) x=if x=k then some v else qh m x:=by
 induction m with
 | nil=>simp[qx,qh]
 | cons p m ih=>
  obtain⟨a,u⟩:=p;unfold qx;by_cases e:k=a
  ·subst e;rw[if_pos rfl];by_cases e2:x=k<;>simp[qh,e2]
  ·rw[if_neg e];by_cases e2:x=a
   ·subst e2;have: ¬x=k:=λh=>e h.symm
    simp[qh,this]
   ·simp only[qh,if_neg e2];exact ih
theorem xD (m:List (K×V)) (k:K) (v:V):qh (qx m k v) k=some v:=by rw[qF,if_pos rfl]
theorem vF (m:List (K×V)) {k x:K} (v:V) (h:x≠k):qh (qx m k v) x=qh m x:=by rw[qF,if_neg h]
theorem uR (m:List (K×V)) (k x:K):qh (Yh m k) x=if x=k then none else qh m x:=by
 induction m with
 | nil=>simp[Yh,qh]
 | cons p m ih=>
  obtain⟨a,u⟩:=p;unfold Yh at ih ⊢;rw[List.filter_cons];by_cases e:a=k
  ·subst e;rw[if_neg η,ih];by_cases e2:x=a<;>simp[qh,e2]
  ·rw[if_pos (by simp[e])];by_cases e2:x=a
   ·subst e2;simp[qh,e]
   ·simp only[qh,if_neg e2];exact ih
theorem gD {m:List (K×V)} (d:(m.map Prod.fst).Nodup) (k x:K):qh (yK m k) x=if x=k then none else qh m x:=by
 induction m with
 | nil=>simp[yK,qh]
 | cons p m ih=>
  obtain⟨a,u⟩:=p;rw[List.map_cons,List.nodup_cons] at d;unfold yK;by_cases e:k=a
  ·subst e;rw[if_pos rfl];by_cases e2:x=k
   ·subst e2;rw[if_pos rfl];have:=d.1;clear ih;have key: ∀(m:List (K×V)),x∉m.map Prod.fst->qh m x=none:=by
     intro m
     induction m with
     | nil=>intro _;rfl
     | cons q m ih=>
      intro h;rw[List.map_cons,List.mem_cons,not_or] at h;obtain⟨b,z⟩:=q;simp only[qh,if_neg h.1];exact ih h.2
    exact key m this
   ·simp[qh,e2]
  ·rw[if_neg e];by_cases e2:x=a
   ·subst e2;have: ¬x=k:=λh=>e h.symm
    simp[qh,this]
   ·simp only[qh,if_neg e2];exact ih d.2
end
def qw (F:List Nat) (w w':World):Prop:=w.heap.size<=w'.heap.size/\ ∀b∈F,w'.heap[b]? =w.heap[b]?
section
variable {T T':Nat->Tg} {w0 w w':World} {k k':RmK} {vp vr vp' vr':Value} {s s':RmS} {F F' Fn:List Nat} {t:Tg}
theorem qw.refl (F:List Nat) (w:World):qw F w w:=⟨Nat.le_refl _,λ_ _=>rfl⟩
theorem qw.trans {w'':World} (h:qw F w w') (k:qw F w' w''):qw F w w'':=⟨Nat.le_trans h.1 k.1,λb d=>(k.2 b d).trans (h.2 b d)⟩
theorem qw.sub (h:qw F w w') (G: ∀b∈F',b∈F):qw F' w w':=⟨h.1,λb d=>h.2 b (G b d)⟩
theorem qw.blk {b:Nat} {o:Obj} (h:qw F w w') (d:b∈F) (k:w.heap[b]? =some o):w'.heap[b]? =some o:=by rw[h.2 b d];exact k
theorem RmX.own (h:RmX T w0 w k vp vr s F) (G:t≠ .no/\t≠ .data) (a:qg (λb=>T b=t) w w') (Y:k'.Holds (jZ T t w w') w' vp' vr' s' t)
  (rest: ∀u,u≠t->u≠ .no->k.Holds (jZ T t w w') w' vp vr s u->k'.Holds (jZ T t w w') w' vp' vr' s' u):RmX (jZ T t w w') w0 w' k' vp' vr' s' F/\qw F w w':=by
 have I:=h.fresh;have U: ∀b,T b=t->w0.heap.size<=b:=λb d=>h.ge b (by rw[d];exact G.1)
 refine⟨⟨λu=> ?_,λb d=> ?_,λb d=> ?_,a.to_more h.more U⟩,a.size,λb d=>a.block b (h.law b d).2.2 (λe=>G.1 (by rw[<-e];exact(h.law b d).1))⟩
 ·by_cases e:u=t
  ·subst e;exact Y
  ·by_cases en:u= .no
   ·subst en;exact Q9 I a.size
   ·refine rest u e en (Holds.frame (h.all u) a (λb d=>⟨λH=>e (H.symm.trans d),λH=>G.2 (d.symm.trans H)⟩) (λb=>jF I en e b) (λb d=> ?_) en);exact(jF I η (Ne.symm G.2) b).2 d
 ·unfold jZ at d;split at d
  ·have:=h.more.size;omega
  ·exact h.ge b d
 ·obtain⟨J,N,O⟩:=h.law b d;refine⟨?_,N,Nat.lt_of_lt_of_le O a.size⟩;unfold jZ;rw[if_neg τ];exact J
theorem RmX.mut (h:RmX T w0 w k vp vr s F) (a:qg (λb=>b∈F) w w'):RmX T w0 w' k vp vr s F:=by
 refine⟨λu=> ?_,h.ge,λb d=>⟨(h.law b d).1,(h.law b d).2.1,Nat.lt_of_lt_of_le (h.law b d).2.2 a.size⟩,a.to_more h.more (λb d=>(h.law b d).2.1)⟩;by_cases en:u= .no
 ·subst en;exact λb d=>h.fresh b (Nat.le_trans a.size d)
 ·exact Holds.frame (h.all u) a (λb d=>⟨λe=>en (by rw[<-e];exact(h.law b d).1),λe=>by rw[(h.law b d).1] at e;cases e⟩) (λb=>Iff.rfl) (λb d=>d) en
theorem RmX.on (h:RmX T w0 w k vp vr s F) (m:qa w w'):RmX T w0 w' k vp vr s F:=h.mut (qg.of_more m)
theorem RmX.sub (h:RmX T w0 w k vp vr s F) (G: ∀b∈F',b∈F):RmX T w0 w k vp vr s F':=⟨h.all,h.ge,λb d=>h.law b (G b d),h.more⟩
theorem RmX.adds (h:RmX T w0 w k vp vr s F) (m:qa w w') (G: ∀b∈Fn,w.heap.size<=b/\b<w'.heap.size):RmX T w0 w' k vp vr s (Fn++F):=by
 have d:=h.on m;refine⟨d.all,d.ge,λb H=> ?_,d.more⟩;rcases List.mem_append.1 H with e | e
 ·exact⟨h.fresh b (G b e).1,Nat.le_trans h.more.size (G b e).1,(G b e).2⟩
 ·exact d.law b e
theorem RmX.data (h:RmX T w0 w k vp vr s F) (X:Nat->Prop) (G: ∀b,X b->T b= .no/\w0.heap.size<=b/\b<w.heap.size/\b∉F): ∃T',RmX T' w0 w k vp vr s F/\(∀b,X b->T' b= .data)/\ ∀b,¬X b->T' b=T b:=by
 classical
 have e: ∀u,u≠ .no->u≠ .data-> ∀b,(if X b then Tg.data else T b)=u↔T b=u:=λu H I b=>by
  by_cases d:X b
  ·rw[if_pos d,(G b d).1];exact⟨λx=>absurd x.symm I,λx=>absurd x.symm H⟩
  ·rw[if_neg d]
 have N: ∀b,T b= .data->(if X b then Tg.data else T b)= .data:=λb d=>by
  split
  ·rfl
  ·exact d
 refine⟨λb=>if X b then .data else T b,⟨λu=> ?_,λb d=> ?_,λb d=> ?_,h.more⟩,λb d=>if_pos d,λb d=>if_neg d⟩
 ·by_cases en:u= .no
  ·subst en;intro b d;show (if X b then Tg.data else T b)= .no;rw[if_neg (λx=>by have:=(G b x).2.2.1;omega)];exact h.fresh b d
  ·by_cases ed:u= .data
   ·subst ed;trivial
   ·exact Holds.frame (h.all u) (qg.refl (λ_=>False) w) (λb d=>d.elim) (e u en ed) N en
 ·by_cases hx:X b
  ·exact(G b hx).2.1
  ·rw[if_neg hx] at d;exact h.ge b d
 ·obtain⟨H,I,J⟩:=h.law b d;refine⟨?_,I,J⟩;show (if X b then Tg.data else T b)= .no;rw[if_neg (λx=>(G b x).2.2.2 d)];exact H
theorem qI.on (h:qI w0 w k s F) (m:qa w w'):qI w0 w' k s F:=by
 obtain⟨T,vp,d,x⟩:=h;exact⟨T,vp,d,x.on m⟩
theorem qI.sub (h:qI w0 w k s F) (d: ∀b∈F',b∈F):qI w0 w k s F':=by
 obtain⟨T,vp,G,x⟩:=h;exact⟨T,vp,G,x.sub d⟩
theorem qI.adds (h:qI w0 w k s F) (m:qa w w') (d: ∀b∈Fn,w.heap.size<=b/\b<w'.heap.size):qI w0 w' k s (Fn++F):=by
 obtain⟨T,vp,G,x⟩:=h;exact⟨T,vp,G,x.adds m d⟩
theorem qI.more (h:qI w0 w k s F):qa w0 w:=h.elim λ_ h=>h.elim λ_ h=>h.elim λ_ h=>h.more
theorem qI.law (h:qI w0 w k s F): ∀b∈F,w0.heap.size<=b/\b<w.heap.size:=h.elim λ_ h=>h.elim λ_ h=>h.elim λ_ h b d=>(h.law b d).2
theorem qI.stay (h:qI w0 w k s F) (m:qa w w'):qw F w w':=⟨m.size,λb d=>m.block b (h.law b d).2⟩
end
theorem DM {K V:Type} [DecidableEq K] {m:List (K×V)} (d:(m.map Prod.fst).Nodup) {k:K} {f:V}:qh m k=some f↔(k,f)∈m:=by
 induction m with
 | nil=>simp[qh]
 | cons p m ih=>
  obtain⟨a,v⟩:=p;rw[List.map_cons,List.nodup_cons] at d;simp only[qh];by_cases e:k=a
  ·subst e;rw[if_pos rfl];constructor
   ·intro h;injection h with h
    subst h;simp
   ·intro h;rcases List.mem_cons.1 h with h | h
    ·injection h with _ h
     rw[h]
    ·exact absurd (List.mem_map.2 ⟨(k,f),h,rfl⟩) d.1
  ·rw[if_neg e,ih d.2];constructor
   ·intro h;exact List.mem_cons_of_mem _ h
   ·intro h;rcases List.mem_cons.1 h with h | h
    ·injection h with h _
     exact absurd h e
    ·exact h
theorem WL (d:Sb->Bool) (u:List (Int×Sb)) (x:Int):x∈prR d u↔x∈subIds/\ ∃sb,qh u x=some sb/\d sb=true:=by
 unfold prR;rw[List.mem_filter];cases h:qh u x with
 | none=>simp[h]
 | some sb=>simp[h]
theorem GD:subIds.Pairwise (· < ·):=by decide
theorem Ur (x:Int):x∈subIds↔0<=x/\x<6:=by
 unfold subIds;constructor
 ·intro h;simp at h;omega
 ·intro h;simp;omega
theorem Ik (d:Sb->Bool) (u:List (Int×Sb)):(prR d u).Pairwise (· < ·):=List.Pairwise.sublist List.filter_sublist GD
theorem Vl {u:List (Int×Sb)} (G:(u.map Prod.fst).Nodup) (I: ∀x,(qh u x).isSome=true->0<=x/\x<6) (d:Sb->Bool):uo d u=prR d u:=by
 have aa:(yU d u).Nodup:=by
  have:yU d u=(u.filter λq=>d q.2).map Prod.fst:=by
   unfold yU;clear G I
   induction u with
   | nil=>rfl
   | cons q l ih=>
    by_cases e:d q.2=true<;>simp[e,ih]
  rw[this];exact List.Nodup.sublist ((List.filter_sublist).map _) G
 have Y: ∀x,x∈yU d u↔x∈prR d u:=λx=>by
  rw[WL,Ur];unfold yU;rw[List.mem_filterMap];constructor
  ·rintro⟨⟨a,H⟩,U,h⟩;by_cases e:d H=true
   ·simp only[e,if_true] at h;cases h;have:=(DM G).2 U;exact⟨I _ (by rw[this];rfl),H,this,e⟩
   ·simp[e] at h
  ·rintro⟨_,H,N,O⟩;exact⟨(x,H),(DM G).1 N,by simp[O]⟩
 have J:=Ik d u;have ab:(prR d u).Nodup:=J.imp λ{a b} h e=>by omega
 have ac:(yU d u).Perm (prR d u):=(List.perm_ext_iff_of_nodup aa ab).2 Y;unfold uo;rw[gL ac,Zh (J.imp λ{a b} h=>by omega)]
section
open _root_.Go.Proofs.Tryz
theorem ZX (a b:Og) (w:World):(Op.equal 37 (kO a) (kO b)).run prog w= .ok (decide (a=b)) w:=by
 have J:prog.stoodInHeld 37=false:=by kernel_rfl
 obtain⟨d,G⟩:=a;obtain⟨H,I⟩:=b;unfold Op.equal kO;rw[show Op.maxDepth=9999+1 from rfl,run_equalIn_agg w 9999 37 _ _ ξ J];simp[go_sem];by_cases e1:d=H<;>by_cases e2:G=I<;>simp[e1,e2]
theorem KX:yz prog 37 kO:=
 yz.of_ask underlying37 (λa b=>by simp[Instr.sameNow]) ZX (λb k w=>by
  rw[show (10000:Nat)=9999+1 from rfl];unfold Instr.checkKey kO
  simp[run_underlying underlying37,go_sem,Ga underlying3 9999 ζ]) (λk=>by simp[Instr.sameBits,kO])
theorem Gv (w:World):(zeroValue 4).run prog w= .ok (μ false) w:=by kernel_rfl
theorem Uf (w:World):(zeroValue 140).run prog w= .ok (π none) w:=by kernel_rfl
theorem Gs (w:World):(zeroValue 177).run prog w= .ok (π none) w:=by kernel_rfl
def Gh (o:Option Nat):Value:= .pointer (o.map λn=>⟨n,0,none⟩)
theorem xq {w:World} {b:Nat} {L:List (Int×Nat)} (h:jk w b (Value.int .i64) gj L) (x:Int) (c:Bool):
  (Instr.lookup 90 (.map (some b)) (ι x) c).run prog w= .ok (if c then .tuple #[Gh (qh L x),μ (qh L x).isSome] else Gh (qh L x)) w:=by
 rw[h.look kE underlying90 (Uf w) x c];cases qh L x<;>cases c<;>rfl
theorem ya {w:World} {b:Nat} {L:List (Og×Nat)} (h:jk w b kO gj L) (o:Og) (c:Bool):
  (Instr.lookup 91 (.map (some b)) (θ #[ι o.1,ι o.2]) c).run prog w= .ok (if c then .tuple #[Gh (qh L o),μ (qh L o).isSome] else Gh (qh L o)) w:=by
 have:=h.look Yr underlying91 (Gs w) o c;unfold kO at this;rw[this];cases qh L o<;>cases c<;>rfl
theorem VH {w:World} {b:Nat} {L:List (Og×Bool)} (h:jk w b kO μ L) (o:Og):
  (Instr.lookup 87 (.map (some b)) (θ #[ι o.1,ι o.2]) false).run prog w= .ok (μ ((qh L o).getD false)) w:=by
 have:=h.look KX underlying87 (Gv w) o false;unfold kO at this;rw[this];cases qh L o<;>rfl
section
variable {w:World} {B b:Nat} {m:Bk}
theorem Ht (h:jy w B b m) (sub id:Int):
  Calls prog 20 #[θ #[γ B],ι sub,ι id] w λe w'=>e= .returned (.tuple #[ι ((qh m (sub,id)).getD 0),μ (qh m (sub,id)).isSome])/\qa w w':=by
 have G:=κ h;clear h
 go_enter func20,ntmps20
 go_wp2_with (go_at_call 61;(go_call MK (G.o.more (qa.alloc w (.cells #[γ B] 86))) (sub,id) as e w1 ⟨rfl,d⟩;have H:=κ d;clear d))
 go_ret2
 exact⟨rfl,(qa.alloc _ _).trans H.o⟩
theorem Hs (h:jy w B b m) (sub id:Int):
  Calls prog 135 #[θ #[γ B],ι sub,ι id] w λe w'=>e= .returned (μ (decide (qh m (sub,id)=some 0)))/\qa w w':=by
 have J:=κ h;clear h;have e:decide (qh m (sub,id)=some 0)=((qh m (sub,id)).isSome&&((qh m (sub,id)).getD 0==0)):=by cases qh m (sub,id) with | none=>simp | some x=>(by_cases hx:x=0<;>simp[hx])
 rw[e];generalize O:qh m (sub,id)=g at *;have N:=κ O;clear O;obtain⟨f,I⟩:=ν (g.getD 0);obtain⟨i,hi⟩:=ν (g.isSome);have G:=κ (Ht (J.o.more (qa.alloc w (.cells #[γ B] 86))) sub id);rw[N.o,I,hi] at G;rw[I,hi];clear e I hi N J
 go_enter func135,ntmps135
 cases i with
 | true=>
  go_wp2_with (go_at_call 20;(go_call G.o as e w1 ⟨rfl,d⟩;have H:=κ d;clear d))
  go_ret;exact⟨rfl,(qa.alloc _ _).trans H.o⟩
 | false=>
  go_wp2_with (go_at_call 20;(go_call G.o as e w1 ⟨rfl,d⟩;have H:=κ d;clear d))
  go_ret;exact⟨rfl,(qa.alloc _ _).trans H.o⟩
theorem gI (h:jy w B b m) (sub id f:Int):
  Calls prog 122 #[θ #[γ B],ι sub,ι id,ι f] w λe w'=>e= .returned (.tuple #[])/\jy w' B b (jp m sub id f)/\qg (λx=>x=b) w w':=by
 have I:=κ h;have O:qa w (w.alloc (.cells #[γ B] 86)):=qa.alloc _ _;have Y:=κ (qj w (.cells #[γ B] 86));have H:=κ (Hs (I.o.more O) sub id);clear h O;unfold jp;by_cases ho:qh m (sub,id)=some 0
 ·rw[if_pos ho];rw[decide_eq_true ho] at H;clear ho
  go_enter func122,ntmps122
  go_wp2_with (first | (go_at_call 135;(go_call H.o as e w1 ⟨rfl,d⟩;have G:Hid (qa w w1):=κ ((qa.alloc _ _).trans d);have ab:w1.cell? ⟨w.heap.size,0,none⟩=some (π (some ⟨B,0,none⟩)):=qb (qc d Y.o) 0 rfl;clear d)) | (go_at_call 177;(go_call F0 (I.o.more G.o) (sub,id) f as e w2 ⟨rfl,N,J⟩;have aa:=κ N;have U:=κ J;clear N J)))
  (refine bodyPost_end (v:= .tuple #[]) ?re1 rfl ?_;(case re1=>simp[results,results122,go_sem]))
  exact⟨rfl,aa.o,(qg.of_more G.o).trans U.o⟩
 ·rw[if_neg ho];rw[decide_eq_false ho] at H;clear ho
  go_enter func122,ntmps122
  go_wp2_with (go_at_call 135;(go_call H.o as e w1 ⟨rfl,d⟩;have G:Hid (qa w w1):=κ ((qa.alloc _ _).trans d);clear d))
  (refine bodyPost_end (v:= .tuple #[]) ?re2 rfl ?_;(case re2=>simp[results,results122,go_sem]))
  exact⟨rfl,I.o.more G.o,qg.of_more G.o⟩
end
end
section
open _root_.Go.Proofs.Tryz
def RO:qL Og:=λ_ cs o=>cs=[.int .i64 o.1,.int .i64 o.2]
theorem OE:QQ RO:=λ_ _ _ _ _ h=>h
theorem Ph {i j:Nat} (hi:i<3) (d:j<3):orgs.take (3* i+(j+1))=orgs.take (3* i+j)++[((i:Int),(j:Int))]:=by
 have hi:i=0∨i=1∨i=2:=by omega
 have d:j=0∨j=1∨j=2:=by omega
 rcases hi with rfl | rfl | rfl<;>rcases d with rfl | rfl | rfl<;>rfl
theorem By (n:Nat) (p:Og->Bool):((orgs.take n).filter p).length<=9:=Nat.le_trans (List.length_filter_le _ _) (by rw[List.length_take];show min n 9<=9;omega)
def Yp (SA:List (Og×Nat)):List Og:=orgs.filter λo=>(qh SA o).isSome
theorem KC {w:World} {R ad:Nat} {SA:List (Og×Nat)} (ai:R<w.heap.size) (aj:w.cell? ⟨R,13,none⟩=some (.map (some ad))) (am:jk w ad kO gj SA):
  Calls prog 64 #[γ R] w λe w'=> ∃v,e= .returned v/\je 2 RO (λ_=>False) w' w.heap.size 58 v (Yp SA)/\qa w w':=by
 obtain⟨aM,hi,aH,aI,aJ⟩:=info_parts (P:=prog) (e:=58) (z:= θ #[ι 0,ι 0]) (size:=2) (bytes:=16) ξ;have ax:=κ am;have ar:=κ aj;have ay:=κ ai;clear am aj ai;obtain⟨p,an⟩: ∃p:Og->Bool,Hid (p=λo=>(qh SA o).isSome):=⟨_,κ rfl⟩;have e0:Yp SA=(orgs.take 9).filter p:=by rw[an.o];rfl
 rw[e0];have aw:=κ (λn=>By n p);clear e0
 go_enter func64,ntmps64
 go_wp2
 go_loopw [3,9] (λu H wr=> ∃i:Nat,i<=3/\H= ι i/\(∃N J I,u= δ N J I)/\je 2 RO (λ_=>False) wr w.heap.size 58 u ((orgs.take (3* i)).filter p)/\qa w wr) (λ_ H _=>3-(intOf H).toNat)
 case atStart=>exact⟨0,τ,rfl,⟨_,_,_,rfl⟩,je.nil _ _ _ _ _ _,qa.refl _⟩
 case round=>
  obtain⟨i,aR,rfl,⟨N,J,I,rfl⟩,Y,U⟩:=hrel;have G:=κ Y;have d:=κ U;clear Y U;by_cases hlt:i<3
  ·have aE:(i:Int)<3:=by omega
   obtain⟨aq,rfl⟩: ∃aq:World,aq=wr:=⟨_,rfl⟩;go_wp2
   go_loopw [3,12] (λu H wr=> ∃j:Nat,j<=3/\H= ι j/\(∃N J I,u= δ N J I)/\je 2 RO (λ_=>False) wr w.heap.size 58 u ((orgs.take (3* i+j)).filter p)/\qa w wr) (λ_ H _=>3-(intOf H).toNat)
   case atStart=>exact⟨0,τ,rfl,⟨_,_,_,rfl⟩,G.o,d.o⟩
   case round=>
    clear G d;obtain⟨j,aS,rfl,⟨N,J,I,rfl⟩,Y,U⟩:=hrel;have G:=κ Y;have d:=κ U;clear Y U;by_cases hltj:j<3
    ·have aF:(j:Int)<3:=by omega
     have ap:=Ph hlt hltj;have au:Hid (∀b,(δ N J I).ownBlock=some b->w.heap.size<=b):=κ (λb h=>G.o.ge h);have av:=κ (aw.o (3* i+j));obtain⟨W1,ab⟩:=ν (wr.alloc (.cells #[ι (i:Int),ι (j:Int)] 58));have O:Hid (qa wr W1):=κ (by rw[<-ab];exact qa.alloc _ _);have af:Hid (W1.heap[wr.heap.size]? =some (.cells #[ι (i:Int),ι (j:Int)] 58 (0,0))):=κ (by rw[<-ab];exact qj wr _);have aC:W1.cell? ⟨R,13,none⟩=some (.map (some ad)):=by rw[(d.o.trans O.o).cells _ _ ay.o];exact ar.o
     have q: ∀n,_:=λn=>ya (ax.o.more ((d.o.trans O.o).dr n)) ((i:Int),(j:Int)) true
     simp only[if_true] at q;have ao:p ((i:Int),(j:Int))=(qh SA ((i:Int),(j:Int))).isSome:=by rw[an.o]
     have ah:=κ ap;generalize qh SA ((i:Int),(j:Int))=g at *;clear ap;have aO:=β0 af.o;have aP:=β1 af.o;have ag:=κ ao;clear ao
     go_upto_region 9 with fail
     (try rw[ab])
     clear ab;refine wp_region_quiet_lit ξ ξ ?_
     repeat (go_big_quiet_step (fail))
     refine wpQuiet_nil ?_;intro _ aG;obtain⟨nq,rfl⟩:=aG;have aa:Hid (qa w (W1.drewN nq)):=κ ((d.o.trans O.o).dr _);have aA:=κ ((G.o.on O.o).on ((qa.drewN W1 nq).al (.cells #[ι (i:Int),ι (j:Int)] 58)));clear q aC;cases g with
     | none=>
      have ac:Hid ((orgs.take (3* i+(j+1))).filter p=(orgs.take (3* i+j)).filter p):=κ (by rw[ah.o,List.filter_append,List.filter_cons,if_neg (by rw[ag.o];simp)];simp);have az:=κ ((G.o.on O.o).on (qa.drewN W1 nq));go_wp2;go_roundw
      case rel=>exact⟨j+1,τ,by go_num,⟨_,_,_,rfl⟩,by rw[ac.o];exact az.o,aa.o⟩
      case measure=>simp[intOf];omega
     | some g=>
      have ac:Hid ((orgs.take (3* i+(j+1))).filter p=(orgs.take (3* i+j)).filter p++[((i:Int),(j:Int))]):=κ (by rw[ah.o,List.filter_append,List.filter_cons,if_pos (by rw[ag.o];rfl)];simp);have aT:=av.o
      go_wp2_with (at_builtin;(refine jN (R:=RO) (D:=λ_=>False) _ rfl (.tmp 28) (.tmp 30) 171 rfl w.heap.size 58 aM (θ #[ι 0,ι 0]) 2 16 underlying171 hi aH aI aJ rfl ζ _ ((orgs.take (3* i+j)).filter p) rfl aA.o W1.heap.size [ι (i:Int),ι (j:Int)] ((i:Int),(j:Int)) rfl rfl (zS η) (by simp[Value.oneCell']) (λw' _=>rfl) (λb h=>h.elim) ζ τ (aa.o.al _).size ?_;intro v' w8 ae ak aD;have aN:Hid (qa w w8):=κ (Below.grown (aa.o.al _) ak (aa.o.al _).size au.o);obtain⟨aV,aU,aQ,rfl,aK,aL⟩:=ae.shape;have aB:=κ ae;clear ae ak aD aK aL))
      go_roundw
      case rel=>exact⟨j+1,τ,by go_num,⟨_,_,_,rfl⟩,by rw[ac.o];exact aB.o,aN.o⟩
      case measure=>simp[intOf];omega
    ·obtain rfl:j=3:=by omega
     have aF: ¬((3:Nat):Int)<3:=by omega
     go_wp2;go_roundw
     case rel=>exact⟨i+1,τ,by go_num,⟨_,_,_,rfl⟩,by rw[Nat.mul_add];exact G.o,d.o⟩
     case measure=>simp[intOf];omega
  ·obtain rfl:i=3:=by omega
   have aE: ¬((3:Nat):Int)<3:=by omega
   go_wp2;go_ret;exact⟨_,rfl,G.o,d.o⟩
end
section
open _root_.Go.Proofs.Tryz
theorem FS (n:Int) (w:World):Calls prog 245 #[ι n] w λe w'=>e= .returned (φ (n%65536))/\w=w':=by
 go_enter func245,ntmps245
 go_wp2;go_ret;exact⟨rfl,rfl⟩
theorem Wa (n:Int) (d:U16 n) (w:World):Calls prog 191 #[φ n] w λe w'=>e= .returned (ι (65536+n))/\w=w':=by
 obtain⟨G,H⟩:=d
 go_enter func191,ntmps191
 go_wp2;go_ret;exact⟨rfl,rfl⟩
theorem IZ (a b:Int): -32768<=ahd a b/\ahd a b<=32767:=by unfold ahd;omega
theorem Wm (d n:Int) (J:xz d) (H:U16 n) (w:World):Calls prog 192 #[ι d,φ n] w λe w'=>e= .returned (ι (KH d n))/\w=w':=by
 obtain⟨N,O⟩:=J;have U:=IZ (d%65536) n;have G:U16 (d%65536):=by unfold U16;omega
 unfold KH;have I:=κ (λw=>Yd (d%65536) n w G H);clear G H;generalize ahd (d%65536) n=a at *
 go_enter func192,ntmps192
 go_wp2_with (first | (go_at_call 245;(go_call FS d _ as e w1 ⟨rfl,rfl⟩)) | (go_at_call 244;(go_call I.o _ as e w2 ⟨rfl,rfl⟩)))
 go_ret;exact⟨rfl,rfl⟩
theorem vK (c t:Int) (w:World):Calls prog 38 #[θ #[ι c,ι t]] w λe w'=>e= .returned (μ (!decide (c=t)))/\qa w w':=by
 go_enter func38,ntmps38
 go_wp2;go_ret;exact⟨by congr 1,qa.alloc _ _⟩
theorem Qf (sp d:Int) (w:World):Calls prog 42 #[θ #[ι sp,ι d]] w λe w'=>e= .returned (μ (decide (1<=sp/\sp<=d/\d<=1000)))/\qa w w':=by
 have e:decide (1<=sp/\sp<=d/\d<=1000)=(decide (1<=sp)&&(decide (sp<=d)&&decide (d<=1000))):=by by_cases h1:1<=sp<;>by_cases h2:sp<=d<;>by_cases h3:d<=1000<;>simp[h1,h2,h3]
 rw[e];clear e;by_cases h1:1<=sp
 ·by_cases h2:sp<=d
  ·go_enter func42,ntmps42
   go_wp2;go_ret;exact⟨by simp[h1,h2],qa.alloc _ _⟩
  ·go_enter func42,ntmps42
   go_wp2;go_ret;exact⟨by simp[h1];omega,qa.alloc _ _⟩
 ·go_enter func42,ntmps42
  go_wp2;go_ret;exact⟨by simp;omega,qa.alloc _ _⟩
theorem FY (sp d G:Int) (ah:1<=sp) (ai:sp<=d) (aj:d<=1000) (ak:0<=G) (al:G<=1000000) (w:World):
  Calls prog 141 #[θ #[ι sp,ι d],ι G] w λe w'=>e= .returned (ι (Yg sp d G))/\qa w w':=by
 go_enter func141,ntmps141
 go_wp2
 go_step3
 go_wp2
 go_step3
 go_wp2
 go_loopw [5,6] (λg O wr=> ∃(k:Nat) (H:Int),O= ι (k+1)/\g= ι H/\0<=H/\H<=2000/\(k:Int)<=1000000/\Zc d ((G-1).toNat-k) H=Zc d (G-1).toNat sp/\(k=0∨(k:Int)<=G-1)/\wr=w.alloc (.cells #[ι sp,ι d] 23)) (λ_ O _=>(G-1).toNat+1-(intOf O).toNat)
 case atStart=>exact⟨0,sp,rfl,rfl,τ,τ,τ,rfl,Or.inl rfl,rfl⟩
 case round=>
  obtain⟨k,H,rfl,rfl,af,ag,am,aa,ab,rfl⟩:=hrel;have ac:=κ (qj w (.cells #[ι sp,ι d] 23));have N:=κ aa;have ad:=κ ab;clear aa ab;have ae:=β1 ac.o;by_cases hlt:(k:Int)+1<G
  ·obtain⟨n,J⟩: ∃n,(G-1).toNat-k=n+1:=⟨(G-1).toNat-k-1,τ⟩;by_cases hb1:H<1
   ·have I:Hid (Yg sp d G=if H<=d then H else d):=κ (by unfold Yg;rw[<-N.o,J];unfold Zc;rw[if_pos (Or.inl hb1)]);clear J;go_wp2
    (try rw[Exit.noGoto_ret])
    go_ret;exact⟨by rw[I.o];first | rfl | (congr 2;try omega) | skip,qa.alloc _ _⟩
   ·by_cases hb2:d<=H
    ·have I:Hid (Yg sp d G=if H<=d then H else d):=κ (by unfold Yg;rw[<-N.o,J];unfold Zc;rw[if_pos (Or.inr hb2)]);clear J;go_wp2
     (try rw[Exit.noGoto_ret])
     go_ret;exact⟨by rw[I.o];first | rfl | (congr 2;try omega) | skip,qa.alloc _ _⟩
    ·have Y:Zc d n (2* H)=Zc d (G-1).toNat sp:=by rw[<-N.o,J];conv=>rhs;unfold Zc;rw[if_neg τ]
     have I:=κ Y;have U:=κ J;clear Y J;go_wp2;go_roundw
     case rel=>exact⟨k+1,H* 2,by go_num,rfl,τ,τ,τ,by rw[show (G-1).toNat-(k+1)=n by have:=U.o;omega,Int.mul_comm];exact I.o,Or.inr τ,trivial⟩
     case measure=>have:=U.o;simp[intOf];omega
  ·have I:Hid (Yg sp d G=if H<=d then H else d):=κ (by unfold Yg;rw[<-N.o,show (G-1).toNat-k=0 by have:=ad.o;omega];rfl);go_wp2
   (try rw[Exit.noGoto_ret])
   go_ret;exact⟨by rw[I.o];first | rfl | (congr 2;try omega) | skip,qa.alloc _ _⟩
theorem Cy (sp G:Int) (a:Gr) (d:Bool) (H:Int) (aV:1<=sp) (aW:sp<=G) (aX:G<=1000) (aK:0<=a.tries) (aL:a.tries<=1000000) (ba:xz a.last) (bb:xz H) (w:World):
  Calls prog 84 #[θ #[ι sp,ι G],θ #[μ a.wanted,a.any,ι a.last,ι a.tries],d,ι H] w λe w'=>
   e= .returned (.tuple #[θ #[μ (vU sp G a d H).1.wanted,μ (vU sp G a d H).1.any,ι (vU sp G a d H).1.last,ι (vU sp G a d H).1.tries],μ (vU sp G a d H).2])/\qa w w':=by
 obtain⟨O,I,al,ah⟩:=a;obtain⟨bd,be⟩:=ba;obtain⟨br,bs⟩:=bb;simp only at aK aL bd be ⊢;obtain⟨T,ao⟩:=ν (uq ⟨O,I,al,ah⟩ d);have aY:0<=T/\T<=1000000:=by rw[<-ao];unfold uq;split<;>first | exact⟨aK,aL⟩ | exact⟨τ,τ⟩
 obtain⟨t0,t1⟩:=aY;have av:=κ ao;obtain⟨c,ay⟩:=ν (Hc sp G ⟨O,I,al,ah⟩ d H);have aO:=κ ay;obtain⟨y,aB⟩:=ν (vU sp G ⟨O,I,al,ah⟩ d H);have aG:Hid (y=if c then (⟨d,I,al,T⟩,false) else (⟨d,true,H,T+1⟩,true)):=κ (by rw[<-aB,<-ay,<-ao];rfl);obtain⟨q,aJ⟩:=ν ((!d|| !O));have au:=κ aJ;obtain⟨g,az⟩:=ν (Yg sp G T);have aQ:=κ az;have ar:=κ (λw=>FY sp G T aV aW aX t0 t1 w);rw[az] at ar;rw[aB];clear ao ay aJ aB az
 go_enter func84,ntmps84
 go_upto_region 1 with fail
 obtain⟨ai,af⟩:=ν ((((w.alloc (.cells #[ι sp,ι G] 23)).alloc (.cells #[μ O,I,ι al,ι ah] 174)).alloc (.cells #[μ false,false,ι 0,ι 0] 174)));have J:Hid (ai.heap[w.heap.size+1]? =some (.cells #[μ O,I,ι al,ι ah] 174 (0,0))):=κ (by rw[<-af];exact qs (qC η) _);have ac:Hid (ai.heap[w.heap.size]? =some (.cells #[ι sp,ι G] 23 (0,0))):=κ (by rw[<-af];exact qs (qs (qj w _) _) _);have ad:Hid (ai.heap[w.heap.size+1+1]? =some (.cells #[μ false,false,ι 0,ι 0] 174 (0,0))):=κ (by rw[<-af];exact qC η);have ae:Hid (qa w ai):=κ (by rw[<-af];exact((qa.alloc _ _).al _).al _);rw[af];clear af;have aj:w.heap.size<=w.heap.size+1:=by omega
 have U:w.heap.size<=w.heap.size+1+1:=by omega
 have aN:w.heap.size≠w.heap.size+1:=by omega
 have ak:w.heap.size+1+1≠w.heap.size+1:=by omega
 have an:=β0 J.o
 go_cut [16] from 10 to 16 (λv Y=>v= μ q/\Y=ai)
 case first=>
  cases d<;>cases O<;>(go_wp2;go_meet;exact⟨by rw[<-au.o];rfl,rfl⟩)
 case rest=>
 obtain⟨rfl,aS⟩:=hcut;subst aS
 go_upto_if 16 with fail
 go_cut [] from 17 to 17 (λY=>Y.heap[w.heap.size+1]? =some (.cells #[μ O,I,ι al,ι T] 174 (0,0))/\Y.heap[w.heap.size]? =some (.cells #[ι sp,ι G] 23 (0,0))/\Y.heap[w.heap.size+1+1]? =some (.cells #[μ false,false,ι 0,ι 0] 174 (0,0))/\qa w Y)
 case first=>
  have aU:=qd J.o 3;have c3:=β3 J.o;cases q with
  | true=>
   have aA:Hid (0=T):=κ (by rw[<-av.o];unfold uq;rw[if_neg (by have:=au.o;cases d<;>cases O<;>simp_all)]);go_wp2;go_meet;exact⟨qB (qp J.o 3 _) (by rw[<-aA.o];rfl),qo ac.o _ _ aN,qo ad.o _ _ ak,ae.o.st (p:=⟨w.heap.size+1,3,none⟩) aj _⟩
  | false=>
   have aA:Hid (ah=T):=κ (by rw[<-av.o];unfold uq;rw[if_pos (by have:=au.o;cases d<;>cases O<;>simp_all)]);go_wp2;go_meet;exact⟨by rw[<-aA.o];exact J.o,ac.o,ad.o,ae.o⟩
 case rest=>
 obtain⟨ax,aH,aI,aM⟩:=hcut;have aT:=qd ax 0;have aq:=κ ax;have aC:=κ aH;have aD:=κ aI;have aF:=κ aM;clear J ac ad ae an ax aH aI aM;have an:=β0 aq.o
 go_upto_region 4 with fail
 obtain⟨ab,ag⟩:=ν (wc.setCell ⟨w.heap.size+1,0,none⟩ (μ d));have J:Hid (ab.heap[w.heap.size+1]? =some (.cells #[μ d,I,ι al,ι T] 174 (0,0))):=κ (by rw[<-ag];exact qB (qp aq.o 0 _) rfl);have ac:Hid (ab.heap[w.heap.size]? =some (.cells #[ι sp,ι G] 23 (0,0))):=κ (by rw[<-ag];exact qo aC.o _ _ aN);have ad:Hid (ab.heap[w.heap.size+1+1]? =some (.cells #[μ false,false,ι 0,ι 0] 174 (0,0))):=κ (by rw[<-ag];exact qo aD.o _ _ ak);have ae:Hid (qa w ab):=κ (by rw[<-ag];exact aF.o.st (p:=⟨w.heap.size+1,0,none⟩) aj _);rw[ag];clear ag aq aC aD aF an aT
 go_cut [36] from 20 to 36 (λv Y=>v= μ c/\qa ab Y)
 case first=>
  have am:=λ(x:qt ab)=>qc x.h J.o
  have bg:=λx=>β1 (am x);have bh:=λx=>β2 (am x);have bi:=λx=>β3 (am x);clear am
  have aw:=λ(x:qt ab)=>qc x.h ac.o
  have bj:=λx=>β0 (aw x);have bk:=λx=>β1 (aw x);clear aw
  obtain⟨aR,aZ⟩:=ν (decide (H-al<g));have aP:Hid ((!d||(I&&aR))=c):=κ (by rw[<-aO.o,<-aZ,<-aQ.o,<-av.o];rfl)
  cases d<;>cases I<;>(
   refine qD _ (qa.refl _) ξ ξ ?_
   repeat (go_big_quiet_step ((go_at_call 141;exact j6 (ar.o _))))
   refine wpQuiet_nil ?_;intro _ bc;obtain⟨bf,rfl⟩:=bc;go_wp2;go_meet
   exact⟨by rw[<-aP.o];rfl,bf.h⟩)
 case rest=>
 obtain⟨rfl,ap⟩:=hcut;have aa:=κ (qc ap J.o);have N:=κ (qc ap ad.o);have aE:=κ (ae.o.trans ap);clear J ac ad ae ap ar;have an:=β0 aa.o;have c1:=β1 aa.o;have bl:=qd aa.o 1;have c2:=β2 aa.o;have bm:=qd aa.o 2;have c3:=β3 aa.o;have aU:=qd aa.o 3;have z0:=β0 N.o;have bn:=qd N.o 0;have bt:=β1 N.o;have bo:=qd N.o 1;have bu:=β2 N.o;have bp:=qd N.o 2;have z3:=β3 N.o;have bq:=qd N.o 3;cases c with
 | true=>
  obtain rfl:y=(⟨d,I,al,T⟩,false):=aG.o;go_wp2;refine bodyPost_ret (v:= .tuple #[θ #[μ d,I,ι al,ι T],false]) (yo results84 _ _ (w.heap.size+1+1) 174 #[μ d,I,ι al,ι T] _ _ rfl rfl (qB (qp (qp (qp (qp N.o 0 _) 1 _) 2 _) 3 _) rfl) underlying174 rfl ξ) rfl ?_;exact⟨rfl,((((aE.o.st (p:=⟨w.heap.size+1+1,0,none⟩) U _).st (p:=⟨w.heap.size+1+1,1,none⟩) U _).st (p:=⟨w.heap.size+1+1,2,none⟩) U _).st (p:=⟨w.heap.size+1+1,3,none⟩) U _)⟩
 | false=>
  obtain rfl:y=(⟨d,true,H,T+1⟩,true):=aG.o;go_wp2;refine bodyPost_ret (v:= .tuple #[θ #[μ d,true,ι H,ι (T+1)],true]) (yo results84 _ _ (w.heap.size+1+1) 174 #[μ d,true,ι H,ι (T+1)] _ _ rfl rfl (qB (qp (qp (qp (qp (qo (qo (qo N.o ⟨w.heap.size+1,1,none⟩ _ ak) ⟨w.heap.size+1,2,none⟩ _ ak) ⟨w.heap.size+1,3,none⟩ _ ak) 0 _) 1 _) 2 _) 3 _) rfl) underlying174 rfl ξ) rfl ?_;exact⟨rfl,(((((((aE.o.st (p:=⟨w.heap.size+1,1,none⟩) aj _).st (p:=⟨w.heap.size+1,2,none⟩) aj _).st (p:=⟨w.heap.size+1,3,none⟩) aj _).st (p:=⟨w.heap.size+1+1,0,none⟩) U _).st (p:=⟨w.heap.size+1+1,1,none⟩) U _).st (p:=⟨w.heap.size+1+1,2,none⟩) U _).st (p:=⟨w.heap.size+1+1,3,none⟩) U _)⟩
end
section
open _root_.Go.Proofs.Tryz
theorem KJ.on {d:Nat->Prop} {w w':World} {p G:Nat} {v:Value} {t:zu} (h:KJ d w p G v t) (m:qa w w'):KJ d w' p G v t:=
 ⟨qc m h.blk,h.buf.on m,h.ok,λb H=>Nat.lt_of_lt_of_le (h.sub b H) m.size,h.np,h.nb,h.ne,h.nv⟩
section
variable {T:Nat->Tg} {w0 w w':World} {k:RmK} {vp vr:Value} {s:RmS} {F:List Nat}
theorem RmX.strAt (h:RmX T w0 w k vp vr s F) {o:Og} {t:zu} (I:qh s.strs o=some t): ∃p d v,qh k.SA o=some p/\KJ (λb=>T b= .str o) w p d v t:=by
 obtain⟨J,G⟩:=h.all (.str o);rw[I] at G;obtain⟨p,H⟩:=Option.isSome_iff_exists.1 G;obtain⟨d,v,x⟩:=J p t H I;exact⟨p,d,v,H,x⟩
theorem RmX.laneAt (h:RmX T w0 w k vp vr s F) {x:Int} {l:LnS} (G:qh s.lanes x=some l): ∃p,qh k.LA x=some p/\zw (λb=>T b= .lane x) w p l:=by
 obtain⟨I,d⟩:=h.all (.lane x);rw[G] at d;obtain⟨p,H⟩:=Option.isSome_iff_exists.1 d;exact⟨p,H,I p l H G⟩
theorem RmX.laneNo (h:RmX T w0 w k vp vr s F) {x:Int} (G:qh s.lanes x=none):qh k.LA x=none:=by
 obtain⟨H,d⟩:=h.all (.lane x);rw[G] at d;cases hp:qh k.LA x with
 | none=>rfl
 | some p=>rw[hp] at d;cases d
theorem RmX.origins (h:RmX T w0 w k vp vr s F):Yp k.SA=s.origins:=by
 unfold Yp RmS.origins
 congr 1
 funext o
 exact(h.all (.str o)).2
theorem RmX.blk (h:RmX T w0 w k vp vr s F):w.heap[k.R]? =some (.cells (zH k vp vr s) 95 (0,0)):=(h.all .room).2
theorem RmX.tab (h:RmX T w0 w k vp vr s F):jq w k.tb k.ta k.tc k.td s.tab:=by
 obtain⟨_,_,_,_,x⟩:=h.all .table;exact x
theorem RmX.bok (h:RmX T w0 w k vp vr s F):jy w k.B k.b s.book:=by
 obtain⟨_,_,x⟩:=h.all .book;exact x
theorem RmX.que (h:RmX T w0 w k vp vr s F):RgR 1 229 35 RBy (λb=>T b≠ .data) w k.RQ k.AQ s.cfg.room.toNat s.queue:=by
 obtain⟨_,_,x⟩:=h.all .queue;exact x
theorem RmX.lnm (h:RmX T w0 w k vp vr s F):jk w k.ML (Value.int .i64) gj k.LA:=(h.all .lns).2
theorem RmX.stm (h:RmX T w0 w k vp vr s F):jk w k.MS kO gj k.SA:=(h.all .sts).2
theorem RmX.retm (h:RmX T w0 w k vp vr s F):jk w k.M1 kO μ s.ret:=(h.all .ret).2
theorem RmX.lt (h:RmX T w0 w k vp vr s F):k.R<w.heap.size:=qn h.blk
theorem RmX.orgsRow (h:RmX T w0 w k vp vr s F):Calls prog 64 #[γ k.R] w λe w'=> ∃v,e= .returned v/\je 2 RO (λ_=>False) w' w.heap.size 58 v s.origins/\qa w w':=by
 rw[<-h.origins];exact KC h.lt (qb h.blk 13 rfl) (h.all .sts).2
theorem yB {s:RmS} {o:Og} (h:o∈s.origins): ∃t,qh s.strs o=some t:=by
 unfold RmS.origins at h;exact Option.isSome_iff_exists.1 (List.mem_filter.1 h).2
theorem KT {w:World} {v:Value} {L:List Og} {base:Nat} (h:je 2 RO (λ_=>False) w base 58 v L): ∃oa cap,v= δ oa L.length cap/\L.length<=maxLen/\ ∀i (hi:i<L.length),∃b,oa=some ⟨b,0,none⟩/\base<=b/\b<w.heap.size/\w.cell? ⟨b,i* 2,none⟩=some (ι L[i].1)/\w.cell? ⟨b,i* 2+1,none⟩=some (ι L[i].2):=by
 obtain⟨⟨xs,d,r⟩,_⟩:=h;rcases id d.2 with ⟨rfl,H⟩ | ⟨b,cap,cur,rfl,I,J,N,O,_⟩
 ·exact⟨none,0,by rw[H],by rw[H];exact Nat.zero_le _,λi hi=>by omega⟩
 ·refine⟨_,cap,rfl,τ,λi hi=>⟨b,rfl,I,lt_of_block J, ?_, ?_⟩⟩
  ·have e:(xs.drop (i* 2)).take 2=[ι L[i].1,ι L[i].2]:=(r i hi).read;have e0:=congrArg (λl:List Value=>l[0]?) e;simp at e0;rw[d.cellAt _ τ];exact e0
  ·have e:(xs.drop (i* 2)).take 2=[ι L[i].1,ι L[i].2]:=(r i hi).read;have G:=congrArg (λl:List Value=>l[1]?) e;simp at G;rw[d.cellAt _ τ];exact G
def RmS.readyO (s:RmS):Og:=s.ready.getD (0,0)
theorem ZW {α:Type} (p:α->Bool): ∀(l:List α) (j:Nat) (hj:j<l.length),(∀i (hi:i<l.length),i<j->p l[i]=false)->p l[j]=true->l.find? p=some l[j]
 | [],j,hj,_,_=>by simp at hj
 | a::l,0,_,_,h=>by simp at h;simp[h]
 | a::l,j+1,hj,h1,h2=>by
  have d:=h1 0 η τ;simp at d;simp only[List.find?_cons,d];exact ZW p l j (by simpa using hj) (λi hi G=>by have:=h1 (i+1) (by simpa using hi) τ;simpa using this) (by simpa using h2)
theorem PJ {α:Type} (p:α->Bool) (l:List α) (h: ∀i (hi:i<l.length),p l[i]=false):l.find? p=none:=by
 rw[List.find?_eq_none];intro x d;obtain⟨i,hi,rfl⟩:=List.mem_iff_getElem.1 d;simp[h i hi]
theorem Al (h:RmX T w0 w k vp vr s F) (aw:xz s.clock):
  Calls prog 73 #[γ k.R] w λe w'=>e= .returned (.tuple #[θ #[ι s.readyO.1,ι s.readyO.2],s.ready.isSome])/\qa w w':=by
 have O:=κ h;have aF:=κ aw;clear h aw
 go_enter func73,ntmps73
 go_wp2_with (go_at_call 64;(go_call (O.o.on (qa.alloc w (.cells #[ι 0,ι 0] 58))).orgsRow as e w1 ⟨v,rfl,aC,ai⟩;obtain⟨ba,cap,rfl,aP,aB⟩:=KT aC;have aH:=κ aB;have ao:Hid (qa w w1):=κ ((qa.alloc _ _).trans ai);have aa:Hid (w1.heap[w.heap.size]? =some (.cells #[ι 0,ι 0] 58 (0,0))):=κ (qc ai (qj w _));clear aC ai aB))
 unfold maxLen at aP
 go_loopw [9] (λah wr=> ∃j:Nat,j<=s.origins.length/\ah= ι j/\(∀i (hi:i<s.origins.length),i<j->s.readyAt s.origins[i]=false)/\qa w1 wr) (λah _=>s.origins.length-(intOf ah).toNat)
 case atStart=>exact⟨0,τ,rfl,λi hi h=>by omega,qa.refl _⟩
 case round=>
  obtain⟨j,aZ,rfl,ax,av⟩:=hrel;have ac:=κ ax;have G:=κ av;clear ax av;by_cases hlt:j<s.origins.length
  ·have aO:(j:Int)<(s.origins.length:Int):=by omega
   obtain⟨b,rfl,aX,ar,U,c1⟩:=aH.o j hlt;have U:wr.cell? ⟨b,j* 2,none⟩=some (ι (s.origins[j]).1):=by rw[G.o.cells _ _ ar];exact U
   have c1:wr.cell? ⟨b,j* 2+1,none⟩=some (ι (s.origins[j]).2):=by rw[G.o.cells _ _ ar];exact c1
   obtain⟨t,ag⟩:=yB (List.getElem_mem hlt);have am:=κ (λI=>ZW s.readyAt s.origins j hlt ac.o I);have aA:s.readyAt s.origins[j]=xa t.buf s.clock:=by unfold RmS.readyAt;rw[ag]
   have ad:=κ aA;clear aA;obtain⟨p,aq,v,az,Y⟩:=O.o.strAt ag;have an:Hid (∀o,o=s.origins[j]->(∀I:xa t.buf s.clock=true,s.ready=some o)):=κ (λo e I=>by rw[e];exact am.o (by rw[ad.o];exact I))
   have aJ:Hid (xa t.buf s.clock=false-> ∀i (hi:i<s.origins.length),i<j+1->s.readyAt s.origins[i]=false):=κ (λI i hi h=>by
    by_cases e:i<j
    ·exact ac.o i hi e
    ·obtain rfl:i=j:=by omega
     rw[ad.o];exact I)
   generalize s.origins[j]=o at *;obtain⟨H,o2⟩:=o;simp only at U c1;have aG:=κ (an.o (H,o2) rfl);obtain⟨W1,N⟩:=ν (wr.alloc (.cells #[ι H,ι o2] 58));have J:Hid (qa w W1):=κ (by rw[<-N];exact(ao.o.trans G.o).al _);have ap:Hid (qa w1 W1):=κ (by rw[<-N];exact G.o.al _);have aD:Hid (W1.heap[wr.heap.size]? =some (.cells #[ι H,ι o2] 58 (0,0))):=κ (by rw[<-N];exact qj wr _);have ae:=λ(x:qt W1)=>qc x.h aD.o
   have aV:=λx=>β0 (ae x);have aW:=λx=>β1 (ae x);clear ae
   have af:=λ(x:qt W1)=>qc (J.o.trans x.h) O.o.blk
   have aR:=λx=>β13 (af x);have aS:=λx=>β9 (af x);clear af
   have aU:=λ(x:qt W1)=>β0 (qc (J.o.trans x.h) Y.blk)
   have aT: ∀x:qt W1,(Instr.lookup 91 (.map (some k.MS)) (θ #[ι H,ι o2]) false).run prog x.w'= .ok (γ p) x.w':=λx=>by
    have:=ya ((O.o.all .sts).2.more (J.o.trans x.h)) (H,o2) false;rw[az] at this;exact this
   have ak: ∀x:qt W1,Calls prog 119 #[γ aq,ι s.clock] x.w' λe w'=>e= .returned (μ (xa t.buf s.clock))/\qa x.w' w':=λx=>Z7 t.buf Y.ok aq v s.clock aF.o x.w' (Y.buf.on (J.o.trans x.h))
   generalize xa t.buf s.clock=rd at *;have aE:=κ ak;clear ak Y az ag am ad an
   go_upto_region 4 with fail
   (try rw[N])
   clear N U c1;refine qD _ (qa.refl _) ξ ξ ?_
   repeat (go_big_quiet_step ((go_at_call 119;exact j6 (aE.o _))))
   refine wpQuiet_nil ?_;intro _ aQ;obtain⟨aj,rfl⟩:=aQ;cases rd with
   | true=>
    have au:=aG.o rfl;have aY:w.heap.size≠wr.heap.size:=by have:=G.o.size;have:=qn aa.o;omega
    have d:=κ (qc (ap.o.trans aj.h) aa.o);have aK:=qd d.o 0;have aL:=qd d.o 1;have aM:=β0 d.o;have aN:=β1 d.o;have ab:=κ au;clear au;go_wp2
    (refine bodyPost_ret (v:= .tuple #[θ #[ι H,ι o2],true]) (yo results73 _ _ (w.heap.size) 58 #[ι H,ι o2] _ _ rfl rfl (qB (qp (qp d.o 0 _) 1 _) rfl) underlying58 rfl ξ) rfl ?_)
    refine⟨?_,(J.o.trans aj.h).st (Nat.le_refl _) _ |>.st (Nat.le_refl _) _⟩;unfold RmS.readyO;rw[ab.o];rfl
   | false=>
    have aI:=κ (aJ.o rfl);go_wp2;go_roundw
    case rel=>exact⟨j+1,τ,by go_num,aI.o,ap.o.trans aj.h⟩
    case measure=>simp[intOf];omega
  ·obtain rfl:j=s.origins.length:=by omega
   have aO: ¬(s.origins.length:Int)<(s.origins.length:Int):=by omega
   have ay:s.ready=none:=PJ s.readyAt s.origins (λi hi=>ac.o i hi hi);have ab:=κ ay;have d:=κ (qc G.o aa.o);have aK:=qd d.o 0;have aL:=qd d.o 1;have aM:=β0 d.o;have aN:=β1 d.o;clear ay;go_wp2
   (refine bodyPost_ret (v:= .tuple #[θ #[ι 0,ι 0],false]) (yo results73 _ _ (w.heap.size) 58 #[ι 0,ι 0] _ _ rfl rfl (qB (qp (qp d.o 0 _) 1 _) rfl) underlying58 rfl ξ) rfl ?_)
   refine⟨?_,(ao.o.trans G.o).st (Nat.le_refl _) _ |>.st (Nat.le_refl _) _⟩;unfold RmS.readyO;rw[ab.o];rfl
end
end
section
open _root_.Go.Proofs.Tryz
structure zc (s:RmS):Prop where
 keys: ∀x,(qh s.tab.u x).isSome=true->0<=x/\x<6
 lane: ∀x,(qh s.tab.u x).isSome=(qh s.lanes x).isSome
 few:s.tab.u.length<=1000000
theorem Hk {w:World} {T a b c:Nat} {t:TS} (h:jq w T a b c t) (v0:Int) (H: ∀x,(qh t.u x).isSome=true->0<=x/\x<6) (I:t.u.length<=1000000):
  Calls prog 142 #[γ T,ι v0] w λe w'=>(∃v,e= .returned v/\SlI .i64 w' v (prR (j8 v0) t.u)/\ ∀q,v.ownBlock=some q->w.heap.size<=q)/\qa w w':=by
 rw[<-Vl h.mu.keys H]
 go_enter func142,ntmps142
 go_wp2_with (go_at_call 203;(go_call Dm (h.more (qa.alloc w (.cells #[ι v0] 3))) v0 (qj w _) I as e w2 ⟨⟨v,rfl,s,d⟩,m⟩;have S:=κ s;have M:=κ m;have G:=κ d;clear s m d))
 go_ret;exact⟨⟨_,rfl,S.o,λq d=>Nat.le_trans (qa.alloc _ _).size (G.o q d)⟩,(qa.alloc _ _).trans M.o⟩
theorem FO {w:World} {T a b c:Nat} {t:TS} (h:jq w T a b c t) (v0:Int) (H: ∀x,(qh t.u x).isSome=true->0<=x/\x<6) (I:t.u.length<=1000000):
  Calls prog 190 #[γ T,ω v0] w λe w'=>(∃v,e= .returned v/\SlI .i64 w' v (prR (zV v0) t.u)/\ ∀q,v.ownBlock=some q->w.heap.size<=q)/\qa w w':=by
 rw[<-Vl h.mu.keys H]
 go_enter func190,ntmps190
 go_wp2_with (go_at_call 203;(go_call Ku (h.more (qa.alloc w (.cells #[ω v0] 38))) v0 (qj w _) I as e w2 ⟨⟨v,rfl,s,d⟩,m⟩;have S:=κ s;have M:=κ m;have G:=κ d;clear s m d))
 go_ret;exact⟨⟨_,rfl,S.o,λq d=>Nat.le_trans (qa.alloc _ _).size (G.o q d)⟩,(qa.alloc _ _).trans M.o⟩
section
variable {T:Nat->Tg} {w0 w w':World} {k:RmK} {vp vr:Value} {s:RmS} {F:List Nat}
theorem Vq (J:zc s) {H:Sb->Bool} {x:Int} (h:x∈prR H s.tab.u): ∃d l,qh s.tab.u x=some d/\qh s.lanes x=some l:=by
 obtain⟨_,d,G,_⟩:=(WL H s.tab.u x).1 h;have:=J.lane x;rw[G] at this;obtain⟨l,I⟩:=Option.isSome_iff_exists.1 this.symm;exact⟨d,l,G,I⟩
def kH (s:RmS) (n:Int) (x:Int):Bool:=match qh s.lanes x with
 | some l=>wO l n
 | none=>false
theorem Ax (s:RmS) (o:Og) {t:zu} (d:qh s.strs o=some t):s.wants o=(t.askedOf||(prR (j8 o.1) s.tab.u).any (kH s o.2)):=by
 unfold RmS.wants;rw[d];rfl
theorem FA (h:RmX T w0 w k vp vr s F) (bg:zc s) (aa o2:Int) {t:zu} (an:qh s.strs (aa,o2)=some t):
  Calls prog 85 #[γ k.R,θ #[ι aa,ι o2]] w λe w'=>e= .returned (μ (s.wants (aa,o2)))/\qa w w':=by
 have ag:=κ h;obtain⟨p,bG,v,bd,ad⟩:=h.strAt an;rw[Ax s (aa,o2) an];have aw:=κ bg;obtain⟨W1,aq⟩:=ν (w.alloc (.cells #[ι aa,ι o2] 58));have ac:Hid (qa w W1):=κ (by rw[<-aq];exact qa.alloc _ _);have ar:Hid (W1.heap[w.heap.size]? =some (.cells #[ι aa,ι o2] 58 (0,0))):=κ (by rw[<-aq];exact qj w _);have ay:=λ(x:qt W1)=>qc x.h ar.o
 have aV:=λx=>β0 (ay x);have bp:=λx=>β1 (ay x);clear ay
 have az:=λ(x:qt W1)=>qc (ac.o.trans x.h) ag.o.blk
 have bn:=λx=>β13 (az x);have aT:=λx=>β11 (az x);clear az
 have aU:=λ(x:qt W1)=>β7 (qc (ac.o.trans x.h) ad.blk)
 have bo: ∀x:qt W1,(Instr.lookup 91 (.map (some k.MS)) (θ #[ι aa,ι o2]) false).run prog x.w'= .ok (γ p) x.w':=λx=>by
  have:=ya (ag.o.stm.more (ac.o.trans x.h)) (aa,o2) false;rw[bd] at this;exact this
 clear bd ad an h bg;obtain⟨bv,aY⟩:=ν (t.askedOf);rw[aY] at aU ⊢;clear aY
 go_enter func85,ntmps85
 go_upto_region 1 with fail
 (try rw[aq])
 clear aq;refine qD _ (qa.refl _) ξ ξ ?_
 repeat (go_big_quiet_step (fail))
 refine wpQuiet_nil ?_;intro _ bB;obtain⟨aS,rfl⟩:=bB;cases bv with
 | true=>
  go_wp2;go_ret;exact⟨rfl,ac.o.trans aS.h⟩
 | false=>
  go_upto_region 3 with fail
  obtain⟨W2,aF⟩:=ν (aS.w');have ah:Hid (qa W1 W2):=κ (by rw[<-aF];exact aS.h)
  (try rw[aF])
  clear aF aU bo bn;have bq: ∀x:qt W2,x.w'.cell? ⟨w.heap.size,0,none⟩=some (ι aa):=λx=>aV ⟨_,ah.o.trans x.h⟩
  have br: ∀x:qt W2,x.w'.cell? ⟨k.R,11,none⟩=some (π (some ⟨k.tb,0,none⟩)):=λx=>aT ⟨_,ah.o.trans x.h⟩
  clear aV bp aT;refine zC W2 9 [(0,false),(1,false),(2,false),(3,false),(4,false),(5,false),(8,false),(6,true),(7,false)] ξ ξ ?_
  refine Qq7 ?_
  (refine Ql ?_;intro K aE)
  go_call Hk (ag.o.tab.more ((ac.o.trans ah.o).dr 1)) aa aw.o.keys aw.o.few as e bm ⟨⟨v3,rfl,bF,bC⟩,bk⟩;have ak:Hid (qa W2 bm):=κ ((qa.drewN _ 1).trans bk);obtain⟨bK,cap,rfl,bA,bf,_⟩:=bF;have aX:=κ bf;clear bk bC bf;refine⟨_,rfl,qk ak.o,aE _ _ ?_⟩;clear aE K
  iterate 1 (refine qE rfl rfl (qk ak.o) ?_;intro K aE;go_big_quiet_op;go_big_quiet_on)
  refine qA ?_;clear bq br;have bu:=κ (ac.o.trans (ah.o.trans ak.o));have ao:=κ (qc (ah.o.trans ak.o) ar.o);clear ac ah ak ar;obtain⟨L,am⟩:=ν (prR (j8 aa) s.tab.u);have bt:Hid (∀x∈L,∃l,qh s.lanes x=some l):=κ (λx ad=>by rw[<-am] at ad;obtain⟨_,l,_,h⟩:=Vq aw.o ad;exact⟨l,h⟩);have aW:=κ am;rw[am] at aX bA;simp only[am];clear am;go_wp2
  go_loopw [27] (λaQ wr=> ∃j:Nat,j<=L.length/\aQ= ι j/\(∀i (hi:i<L.length),i<j->kH s o2 L[i]=false)/\qa bm wr) (λaQ _=>L.length-(intOf aQ).toNat)
  case atStart=>exact⟨0,τ,rfl,λi hi h=>by omega,qa.refl _⟩
  case round=>
   obtain⟨j,bI,rfl,bc,aM⟩:=hrel;have av:=κ bc;have U:=κ (bu.o.trans aM);have ab:=κ aM;clear bc aM;by_cases hlt:j<L.length
   ·have bz:(j:Int)<(L.length:Int):=by omega
    obtain⟨b,bD,rfl,bw,aG⟩:=aX.o j hlt;have aG:wr.cell? ⟨b,bD+j,none⟩=some (ι (L.getD j 0)):=by rw[ab.o.cells _ _ bw];exact aG
    have ba:L.getD j 0=L[j]:=by simp[hlt]
    obtain⟨l,aH⟩:=bt.o L[j] (List.getElem_mem hlt);have aP:kH s o2 L[j]=wO l o2:=by unfold kH;rw[aH]
    have ae:Hid (wO l o2=false-> ∀i (hi:i<L.length),i<j+1->kH s o2 L[i]=false):=κ (λbx i hi h=>by
     by_cases e:i<j
     ·exact av.o i hi e
     ·obtain rfl:i=j:=by omega
      rw[aP];exact bx)
    have ax:Hid (wO l o2=true->L.any (kH s o2)=true):=κ (λan=>List.any_eq_true.2 ⟨L[j],List.getElem_mem hlt,by rw[aP];exact an⟩);obtain⟨p2,be,bb⟩:=ag.o.laneAt aH;have au:=κ bb;rw[ba] at aG;have q:=xq (ag.o.lnm.more U.o) L[j] false;rw[be] at q;generalize L[j]=x at *;have bH:=β12 (qc U.o ag.o.blk);clear ba aP aH bb be av;obtain⟨bj,aL⟩:=ν (l.wanted);obtain⟨bi,aJ⟩:=ν (l.gone);obtain⟨H,aI⟩:=ν (l.cur);obtain⟨d,aK⟩:=ν (l.tgt);have bh:wO l o2=(bj&&(!bi&&(!decide (H=d)&&decide (d=o2)))):=by unfold wO;rw[aL,aJ,aI,aK]
    have af:=κ (λw m=>Xb (au.o.on (w':=w) m));have aj:=κ (λw m=>JB (au.o.on (w':=w) m));rw[aL,aI,aK] at af;rw[aJ] at aj;rw[bh] at ae ax;clear aL aJ aI aK bh au;have aZ:((Gh (some p2)):Value)= γ p2:=rfl;simp only[aZ,Bool.false_eq_true,if_false] at q;clear aZ;cases bj with
    | false=>
     go_wp2_with (go_at_call 67;(go_call af.o _ U.o as e w5 ⟨rfl,O⟩;have I:=κ O;clear O))
     go_roundw
     case rel=>exact⟨j+1,τ,by go_num,ae.o rfl,(ab.o.trans I.o).al _⟩
     case measure=>simp[intOf];omega
    | true=>
     cases bi with
     | true=>
      go_wp2_with (first | (go_at_call 67;(go_call af.o _ U.o as e w5 ⟨rfl,O⟩;have I:=κ O;clear O)) | (go_at_call 69;(go_call aj.o _ ((U.o.trans I.o).al (.cells #[ι H,ι d] 103)) as e w6 ⟨rfl,N⟩;have Y:=κ N;have J:=κ (qc N (qj w5 (.cells #[ι H,ι d] 103)));have aB:=β0 J.o;have aC:=β1 J.o;clear N)) | (go_at_call 38;(go_call vK H d w6 as e aR ⟨rfl,G⟩;rw[ap.o];have ai:=κ G;have aD:=β1 (qc G J.o);have aA:=β1 (qc (ab.o.trans (((I.o.al (.cells #[ι H,ι d] 103)).trans Y.o).trans G)) ao.o);clear G)))
      go_roundw
      case rel=>exact⟨j+1,τ,by go_num,ae.o rfl,((ab.o.trans I.o).al _).trans Y.o⟩
      case measure=>simp[intOf];omega
     | false=>
      obtain⟨bE,aN⟩:=ν ((!decide (H=d)));obtain⟨bl,aO⟩:=ν (decide (d=o2));have bJ:(d==o2)=bl:=by rw[<-aO];rfl
      rw[aN,aO] at ae ax;have ap:=κ aN;clear aN aO;cases bE with
      | false=>
       go_wp2_with (first | (go_at_call 67;(go_call af.o _ U.o as e w5 ⟨rfl,O⟩;have I:=κ O;clear O)) | (go_at_call 69;(go_call aj.o _ ((U.o.trans I.o).al (.cells #[ι H,ι d] 103)) as e w6 ⟨rfl,N⟩;have Y:=κ N;have J:=κ (qc N (qj w5 (.cells #[ι H,ι d] 103)));have aB:=β0 J.o;have aC:=β1 J.o;clear N)) | (go_at_call 38;(go_call vK H d w6 as e aR ⟨rfl,G⟩;rw[ap.o];have ai:=κ G;have aD:=β1 (qc G J.o);have aA:=β1 (qc (ab.o.trans (((I.o.al (.cells #[ι H,ι d] 103)).trans Y.o).trans G)) ao.o);clear G)))
       go_roundw
       case rel=>exact⟨j+1,τ,by go_num,ae.o rfl,(((ab.o.trans I.o).al _).trans Y.o).trans ai.o⟩
       case measure=>simp[intOf];omega
      | true=>
       cases bl with
       | false=>
        go_wp2_with (first | (go_at_call 67;(go_call af.o _ U.o as e w5 ⟨rfl,O⟩;have I:=κ O;clear O)) | (go_at_call 69;(go_call aj.o _ ((U.o.trans I.o).al (.cells #[ι H,ι d] 103)) as e w6 ⟨rfl,N⟩;have Y:=κ N;have J:=κ (qc N (qj w5 (.cells #[ι H,ι d] 103)));have aB:=β0 J.o;have aC:=β1 J.o;clear N)) | (go_at_call 38;(go_call vK H d w6 as e aR ⟨rfl,G⟩;rw[ap.o];have ai:=κ G;have aD:=β1 (qc G J.o);have aA:=β1 (qc (ab.o.trans (((I.o.al (.cells #[ι H,ι d] 103)).trans Y.o).trans G)) ao.o);clear G)))
        go_roundw
        case rel=>exact⟨j+1,τ,by go_num,ae.o rfl,(((ab.o.trans I.o).al _).trans Y.o).trans ai.o⟩
        case measure=>simp[intOf];omega
       | true=>
        go_wp2_with (first | (go_at_call 67;(go_call af.o _ U.o as e w5 ⟨rfl,O⟩;have I:=κ O;clear O)) | (go_at_call 69;(go_call aj.o _ ((U.o.trans I.o).al (.cells #[ι H,ι d] 103)) as e w6 ⟨rfl,N⟩;have Y:=κ N;have J:=κ (qc N (qj w5 (.cells #[ι H,ι d] 103)));have aB:=β0 J.o;have aC:=β1 J.o;clear N)) | (go_at_call 38;(go_call vK H d w6 as e aR ⟨rfl,G⟩;rw[ap.o];have ai:=κ G;have aD:=β1 (qc G J.o);have aA:=β1 (qc (ab.o.trans (((I.o.al (.cells #[ι H,ι d] 103)).trans Y.o).trans G)) ao.o);clear G)))
        go_ret;exact⟨by rw[aW.o,ax.o rfl];rfl,(((U.o.trans I.o).al _).trans Y.o).trans ai.o⟩
   ·obtain rfl:j=L.length:=by omega
    have bz: ¬(L.length:Int)<(L.length:Int):=by omega
    have bs:Hid (L.any (kH s o2)=false):=κ (by
     rw[List.any_eq_false];intro x ad;obtain⟨i,hi,rfl⟩:=List.mem_iff_getElem.1 ad;rw[av.o i hi hi]
     decide)
    go_wp2;go_ret;exact⟨by rw[aW.o,bs.o];rfl,U.o⟩
end
end
section
variable {T:Nat->Tg} {w0 w w':World} {k:RmK} {vp vr:Value} {s:RmS} {F:List Nat}
theorem RmX.at (h:RmX T w0 w k vp vr s F):qI w0 w k s F:=⟨T,vp,vr,h⟩
theorem RmX.self (h:RmX T w0 w k vp vr s F) (a:qg (λb=>b=k.R) w w') {s':RmS} (G:w'.heap[k.R]? =some (.cells (zH k vp vr s') 95 (0,0)))
  (rest: ∀u,u≠ .room->u≠ .no->k.Holds (jZ T .room w w') w' vp vr s u->k.Holds (jZ T .room w w') w' vp vr s' u):qI w0 w' k s' F/\qw F w w':=by
 obtain⟨d,_⟩:=h.all .room;have I:=h.fresh;obtain⟨x,y⟩:=h.own (t:= .room) (k':=k) (vp':=vp) (vr':=vr) (s':=s') ⟨η,η⟩ (a.mono λb H=>by rw[H];exact d) ⟨(jd I η _).2 (Or.inl d),G⟩ rest;exact⟨x.at,y⟩
theorem RmX.book (h:RmX T w0 w k vp vr s F) {m:Bk} (b:jy w' k.B k.b m) (a:qg (λx=>x=k.b) w w'):qI w0 w' k {s with book:=m} F/\qw F w w':=by
 obtain⟨H,d,_⟩:=h.all .book;have G:=h.fresh;obtain⟨x,y⟩:=h.own (t:= .book) (k':=k) (vp':=vp) (vr':=vr) (s':={s with book:=m}) ⟨η,η⟩ (a.mono λb I=>by rw[I];exact d) ⟨(jd G η _).2 (Or.inl H),(jd G η _).2 (Or.inl d),b⟩ (λu J N x=>by cases u<;>first | exact x | exact absurd rfl J);exact⟨x.at,y⟩
theorem RmX.table (h:RmX T w0 w k vp vr s F) {t:TS} (b:jq w' k.tb k.ta k.tc k.td t) (a:qg (λx=>x=k.ta∨x=k.tc∨x=k.td) w w'):qI w0 w' k {s with tab:=t} F/\qw F w w':=by
 obtain⟨G,H,I,J,_⟩:=h.all .table;have d:=h.fresh;obtain⟨x,y⟩:=h.own (t:= .table) (k':=k) (vp':=vp) (vr':=vr) (s':={s with tab:=t}) ⟨η,η⟩ (a.mono λb N=>by rcases N with rfl | rfl | rfl<;>assumption)
  ⟨(jd d η _).2 (Or.inl G),(jd d η _).2 (Or.inl H),(jd d η _).2 (Or.inl I),(jd d η _).2 (Or.inl J),b⟩ (λu O U x=>by cases u<;>first | exact x | exact absurd rfl O)
 exact⟨x.at,y⟩
theorem RmX.retMap (h:RmX T w0 w k vp vr s F) {m:List (Og×Bool)} (b:jk w' k.M1 kO μ m) (a:qg (λx=>x=k.M1) w w'):qI w0 w' k {s with ret:=m} F/\qw F w w':=by
 obtain⟨d,_⟩:=h.all .ret;have H:=h.fresh;obtain⟨x,y⟩:=h.own (t:= .ret) (k':=k) (vp':=vp) (vr':=vr) (s':={s with ret:=m}) ⟨η,η⟩ (a.mono λb G=>by rw[G];exact d) ⟨(jd H η _).2 (Or.inl d),b⟩ (λu I J x=>by cases u<;>first | exact x | exact absurd rfl I);exact⟨x.at,y⟩
theorem RmX.ring (h:RmX T w0 w k vp vr s F) {q:List (List Int)} (a:qg (RgB k.RQ k.AQ) w w') (b: ∀D:Nat->Prop,(∀b,D b->T b≠ .data∨w.heap.size<=b)->RgR 1 229 35 RBy D w' k.RQ k.AQ s.cfg.room.toNat q):qI w0 w' k {s with queue:=q} F/\qw F w w':=by
 obtain⟨H,I,_⟩:=h.all .queue;have G:=h.fresh;obtain⟨x,y⟩:=h.own (t:= .queue) (k':=k) (vp':=vp) (vr':=vr) (s':={s with queue:=q}) ⟨η,η⟩ (a.mono λb d=>by rcases d with rfl | rfl<;>assumption)
  ⟨(jd G η _).2 (Or.inl H),(jd G η _).2 (Or.inl I),b _ (λb d=>Or.inl (λe=>d ((jF G η η b).2 e)))⟩ (λu J N x=>by cases u<;>first | exact x | exact absurd rfl J)
 exact⟨x.at,y⟩
theorem RmX.lanePut (h:RmX T w0 w k vp vr s F) {x:Int} {l l':LnS} {p:Nat} (U:qh s.lanes x=some l) (I:qh k.LA x=some p) (b:zw (xf (λb=>T b= .lane x) w w') w' p l') (a:qg (λb=>T b= .lane x) w w'):
  qI w0 w' k {s with lanes:=qx s.lanes x l'} F/\qw F w w':=by
 have J:=h.fresh;obtain⟨y,z⟩:=h.own (t:= .lane x) (k':=k) (vp':=vp) (vr':=vr) (s':={s with lanes:=qx s.lanes x l'}) ⟨η,η⟩ a
  ⟨λab aa G d=>by
   rw[I] at G;rw[xD] at d;injection G with G
   injection d with d
   subst G d;rw[wW J η]
   exact b,by rw[I,xD];rfl⟩
  (λu N Y y=>by
   cases u<;>first | exact y | skip
   rename_i O;have H:O≠x:=λe=>N (by rw[e])
   exact⟨λp l G d=>y.1 p l G (by rw[vF _ _ H] at d;exact d),by rw[vF _ _ H];exact y.2⟩)
 exact⟨y.at,z⟩
theorem RmX.strPut (h:RmX T w0 w k vp vr s F) {o:Og} {t t':zu} {p:Nat} (Y:qh s.strs o=some t) (I:qh k.SA o=some p) (b:Hl (xf (λb=>T b= .str o) w w') w' p t') (a:qg (λb=>T b= .str o) w w'):
  qI w0 w' k {s with strs:=qx s.strs o t'} F/\qw F w w':=by
 have J:=h.fresh;obtain⟨y,z⟩:=h.own (t:= .str o) (k':=k) (vp':=vp) (vr':=vr) (s':={s with strs:=qx s.strs o t'}) ⟨η,η⟩ a
  ⟨λab aa G d=>by
   rw[I] at G;rw[xD] at d;injection G with G
   injection d with d
   subst G d;rw[wW J η]
   exact b,by rw[I,xD];rfl⟩
  (λu N U y=>by
   cases u<;>first | exact y | skip
   rename_i O;have H:O≠o:=λe=>N (by rw[e])
   exact⟨λp l G d=>y.1 p l G (by rw[vF _ _ H] at d;exact d),by rw[vF _ _ H];exact y.2⟩)
 exact⟨y.at,z⟩
theorem RmX.strSet (h:RmX T w0 w k vp vr s F) {o:Og} {t t':zu} {p H:Nat} {v:Value} (J:qh s.strs o=some t) (I:qh k.SA o=some p) (x:KJ (λb=>T b= .str o) w p H v t) (a:qg (λb=>b=p) w w')
  (blk:w'.heap[p]? =some (.cells (gK H t') 176 (0,0))) (e:t'.buf=t.buf):qI w0 w' k {s with strs:=qx s.strs o t'} F/\qw F w w':=by
 refine h.strPut J I ⟨H,v,blk, ?_,by rw[e];exact x.ok,λb d=> ?_,Or.inl x.np,Or.inl x.nb,x.ne,λg G=>⟨Or.inl (x.nv g G).1,(x.nv g G).2⟩⟩ (a.mono λb d=>by rw[d];exact x.np)
 ·rw[e];exact⟨a.blk x.buf.blk (Ne.symm x.ne),x.buf.row.away a (λg G=>(x.nv g G).2)⟩
 ·rcases d with d | d
  ·exact Nat.lt_of_lt_of_le (x.sub b d) a.size
  ·exact d.2
theorem RmX.strBuf (h:RmX T w0 w k vp vr s F) {o:Og} {t:zu} {b:Jb} {p H:Nat} {v v':Value} (U:qh s.strs o=some t) (N:qh k.SA o=some p) (x:KJ (λb=>T b= .str o) w p H v t) (st:PS w w' H v v' b) (Y:JOK b):
  qI w0 w' k {s with strs:=qx s.strs o {t with buf:=b}} F/\qw F w w':=by
 have a:qg (λb=>T b= .str o) w w':=st.away.mono λg d=>by
  rcases d with rfl | d
  ·exact x.nb
  ·exact(x.nv g d).1
 have O: ¬(p=H∨v.ownBlock=some p):=by
  rintro(e | e)
  ·exact x.ne e
  ·exact(x.nv p e).2 rfl
 refine h.strPut U N ⟨H,v',st.away.blk x.blk O,st.buf,Y,λb G=> ?_,Or.inl x.np,Or.inl x.nb,x.ne,λg d=> ?_⟩ a
 ·rcases G with G | G
  ·exact Nat.lt_of_lt_of_le (x.sub b G) a.size
  ·exact G.2
 ·have J:g<w'.heap.size:=by
   rcases st.buf.row.2 with ⟨e,_⟩ | ⟨ab,cap,cur,e,_,I,_⟩
   ·rw[e] at d;cases d
   ·rw[e] at d;injection d with d
    have:=lt_of_block I;simp only at d;omega
  rcases st.own with e | ⟨g',e,hge⟩
  ·rw[e] at d;exact⟨Or.inl (x.nv g d).1,(x.nv g d).2⟩
  ·rw[e] at d;injection d with d
   subst d;exact⟨Or.inr ⟨hge,J⟩,λaa=>by have:=lt_of_block x.blk;omega⟩
end
section
open _root_.Go.Proofs.Tryz
section
variable {w0 w w':World} {k:RmK} {s:RmS} {F:List Nat}
theorem FG (h:qI w0 w k s F) (N sub:Int) (acc:Bool) {l:LnS} (aj:qh s.lanes sub=some l):
  Calls prog 81 #[γ k.R,θ #[ι N,ι sub],acc] w λe w'=>e= .returned (.tuple #[])/\qI w0 w' k (s.choose sub) F/\qw F w w':=by
 have ad:=κ (h.stay (qa.alloc w (.cells #[ι N,ι sub] 37)));have aq:=h.adds (qa.alloc w (.cells #[ι N,ι sub] 37)) (Fn:=[w.heap.size]) (λb d=>by simp at d;subst d;simp);have ab:=κ (qj w (.cells #[ι N,ι sub] 37));obtain⟨W1,ai⟩:=ν (w.alloc (.cells #[ι N,ι sub] 37));rw[ai] at aq ab ad;obtain⟨T,vp,aR,H⟩:=aq;have U:=κ H;obtain⟨p,av,au⟩:=H.laneAt aj;have aE:=κ au;have an:=κ av;have ac:=κ aj;have aJ: ¬T k.R= .lane sub:=by rw[(H.all .room).1];simp
 have aI: ¬T k.ML= .lane sub:=by rw[(H.all .lns).1];simp
 have aH: ¬T w.heap.size= .lane sub:=by rw[(H.law w.heap.size η).1];simp
 have az:=λ(x:qz (λb=>T b= .lane sub) W1)=>β12 (x.h.blk U.o.blk aJ)
 have aB:=λ(x:qz (λb=>T b= .lane sub) W1)=>β1 (x.h.blk ab.o aH)
 have aA: ∀x:qz (λb=>T b= .lane sub) W1,(Instr.lookup 90 (.map (some k.ML)) (ι sub) false).run prog x.w'= .ok (γ p) x.w':=λx=>by
  have:=xq (U.o.lnm.away x.h aI) sub false;rw[an.o] at this;exact this
 have am:=κ (λw (m:qa W1 w)=>Df (aE.o.on m));obtain⟨ax,id,J,ok,ah⟩: ∃ax id J ok,jf l=(ax,id,J,ok):=⟨_,_,_,_,rfl⟩;rw[ah] at am;have ao:=κ ah;clear h H aj av au ah
 go_enter func81,ntmps81
 go_upto_region 1 with fail
 (try rw[ai])
 clear ai;refine QN (λb=>T b= .lane sub) W1 15 15 [7] ?_
 refine Qs7 ?_
 (refine Ql ?_;intro K G)
 go_call am.o _ (qa.drewN _ 1) as e w2 ⟨rfl,aw,af⟩;obtain⟨ag,t2⟩:=(U.o.on (qa.drewN W1 1)).lanePut ac.o an.o aw af;have al:=κ ag;have ae:Hid (qw ([w.heap.size]++F) W1 w2):=κ ((ag |> λ_=>(U.o.at.stay (qa.drewN W1 1))).trans t2);have ak:Hid (qg (λb=>T b= .lane sub) W1 w2):=κ (((qg.refl _ _).drewN 1).trans af);clear aw af ag t2;refine⟨_,rfl,qi ak.o,G _ _ ?_⟩;clear G K
 iterate 7 (refine qE rfl rfl (qi ak.o) ?_;intro K G;go_big_quiet_op;go_big_quiet_on)
 refine qA ?_;clear az aB aA;have aD:=κ (ae.o.blk η ab.o);obtain⟨c,aa⟩:=ν ((ok&& !decide (J=0)));have O:=κ aa
 go_upto_region 2 with fail
 go_cut [25] from 21 (λv aM=>v= μ c/\aM=w2)
 case first=>
  cases ok with
  | false=>
   clear aa;go_wp2;go_meet;exact⟨by rw[<-O.o];rfl,rfl⟩
  | true=>
   clear aa;go_wp2;go_meet;exact⟨by rw[<-O.o];by_cases e:J=0<;>simp[e],rfl⟩
 case rest=>
 obtain⟨rfl,aG⟩:=hcut;obtain rfl:=aG.symm;clear aa;cases c with
 | false=>
  go_wp2
  (refine bodyPost_end (v:= .tuple #[]) ?re1 rfl ?_;(case re1=>simp[results,results81,go_sem]))
  exact⟨rfl,by unfold RmS.choose;rw[ac.o];simp only[ao.o];rw[O.o];exact al.o.sub (λb d=>List.mem_append_right _ d),ad.o.trans (ae.o.sub (λb d=>List.mem_append_right _ d))⟩
 | true=>
  obtain⟨aP,aQ,aS,I⟩:=al.o;have Y:=κ I;have aK:k.R≠k.b:=λe=>by
   obtain⟨_,d,_⟩:=I.all .book;rw[<-e,(I.all .room).1] at d;cases d
  have aL:w.heap.size≠k.b:=λe=>by
   obtain⟨_,d,_⟩:=I.all .book;rw[<-e,(I.law w.heap.size η).1] at d;cases d
  have aN:=λ(x:qz (λb=>b=k.b) w2)=>β0 (x.h.blk Y.o.blk aK)
  have aO:=λ(x:qz (λb=>b=k.b) w2)=>β1 (x.h.blk aD.o aL)
  clear I
  go_upto_region 3 with fail
  refine QN (λb=>b=k.b) w2 9 9 [8] ?_
  refine Qs8 ?_
  (refine Ql ?_;intro K G)
  go_call gI (Y.o.on (qa.drewN w2 1)).bok sub id J as e w4 ⟨rfl,ap,a4⟩;obtain⟨ar,t4⟩:=(Y.o.on (qa.drewN w2 1)).book ap a4;have aC:=κ ar;have aF:Hid (qw ([w.heap.size]++F) w2 w4):=κ ((Y.o.at.stay (qa.drewN w2 1)).trans t4);have ay:Hid (qg (λb=>b=k.b) w2 w4):=κ (((qg.refl _ _).drewN 1).trans a4);clear ap a4 ar t4;refine⟨_,rfl,qi ay.o,G _ _ ?_⟩;clear G K;refine qA ?_;go_wp2
  (refine bodyPost_end (v:= .tuple #[]) ?re2 rfl ?_;(case re2=>simp[results,results81,go_sem]))
  exact⟨rfl,by unfold RmS.choose;rw[ac.o];simp only[ao.o];rw[O.o];exact aC.o.sub (λb d=>List.mem_append_right _ d),ad.o.trans ((ae.o.trans aF.o).sub (λb d=>List.mem_append_right _ d))⟩
theorem CE (h:qI w0 w k s F) (J sub:Int) (acc:Bool) {l:LnS} (aj:qh s.lanes sub=some l):
  Calls prog 82 #[γ k.R,θ #[ι J,ι sub],acc] w λe w'=>e= .returned (.tuple #[])/\qI w0 w' k (s.rewrite sub) F/\qw F w w':=by
 have ac:=κ (h.stay (qa.alloc w (.cells #[ι J,ι sub] 37)));have aq:=h.adds (qa.alloc w (.cells #[ι J,ι sub] 37)) (Fn:=[w.heap.size]) (λb d=>by simp at d;subst d;simp);have aa:=κ (qj w (.cells #[ι J,ι sub] 37));obtain⟨W1,ai⟩:=ν (w.alloc (.cells #[ι J,ι sub] 37));rw[ai] at aq aa ac;obtain⟨T,vp,aR,H⟩:=aq;have O:=κ H;obtain⟨p,av,au⟩:=H.laneAt aj;have aE:=κ au;have an:=κ av;have ab:=κ aj;have aJ: ¬T k.R= .lane sub:=by rw[(H.all .room).1];simp
 have aI: ¬T k.ML= .lane sub:=by rw[(H.all .lns).1];simp
 have aH: ¬T w.heap.size= .lane sub:=by rw[(H.law w.heap.size η).1];simp
 have az:=λ(x:qz (λb=>T b= .lane sub) W1)=>β12 (x.h.blk O.o.blk aJ)
 have aB:=λ(x:qz (λb=>T b= .lane sub) W1)=>β1 (x.h.blk aa.o aH)
 have aA: ∀x:qz (λb=>T b= .lane sub) W1,(Instr.lookup 90 (.map (some k.ML)) (ι sub) false).run prog x.w'= .ok (γ p) x.w':=λx=>by
  have:=xq (O.o.lnm.away x.h aI) sub false;rw[an.o] at this;exact this
 have am:=κ (λw (m:qa W1 w)=>Uv (aE.o.on m));obtain⟨ax,id,af,ok,ah⟩: ∃ax id af ok,qY l=(ax,id,af,ok):=⟨_,_,_,_,rfl⟩;rw[ah] at am;have ao:=κ ah;clear h H aj av au ah
 go_enter func82,ntmps82
 go_upto_region 1 with fail
 (try rw[ai])
 clear ai;refine QN (λb=>T b= .lane sub) W1 15 15 [7] ?_
 refine Qs7 ?_
 (refine Ql ?_;intro K G)
 go_call am.o _ (qa.drewN _ 1) as e w2 ⟨rfl,aw,ae⟩;obtain⟨ag,t2⟩:=(O.o.on (qa.drewN W1 1)).lanePut ab.o an.o aw ae;have al:=κ ag;have ad:Hid (qw ([w.heap.size]++F) W1 w2):=κ ((ag |> λ_=>(O.o.at.stay (qa.drewN W1 1))).trans t2);have ak:Hid (qg (λb=>T b= .lane sub) W1 w2):=κ (((qg.refl _ _).drewN 1).trans ae);clear aw ae ag t2;refine⟨_,rfl,qi ak.o,G _ _ ?_⟩;clear G K
 iterate 7 (refine qE rfl rfl (qi ak.o) ?_;intro K G;go_big_quiet_op;go_big_quiet_on)
 refine qA ?_;clear az aB aA;have aD:=κ (ad.o.blk η aa.o);obtain⟨c,Y⟩:=ν ((ok&&af));have N:=κ Y
 go_upto_region 2 with fail
 go_cut [24] from 21 (λv aM=>v= μ c/\aM=w2)
 case first=>
  cases ok with
  | false=>
   clear Y;go_wp2;go_meet;exact⟨by rw[<-N.o];rfl,rfl⟩
  | true=>
   clear Y;go_wp2;go_meet;exact⟨by rw[<-N.o];rfl,rfl⟩
 case rest=>
 obtain⟨rfl,aG⟩:=hcut;obtain rfl:=aG.symm;clear Y;cases c with
 | false=>
  go_wp2
  (refine bodyPost_end (v:= .tuple #[]) ?re3 rfl ?_;(case re3=>simp[results,results82,go_sem]))
  exact⟨rfl,by unfold RmS.rewrite;rw[ab.o];simp only[ao.o];rw[N.o];exact al.o.sub (λb d=>List.mem_append_right _ d),ac.o.trans (ad.o.sub (λb d=>List.mem_append_right _ d))⟩
 | true=>
  obtain⟨aP,aQ,aS,I⟩:=al.o;have U:=κ I;have aK:k.R≠k.b:=λe=>by
   obtain⟨_,d,_⟩:=I.all .book;rw[<-e,(I.all .room).1] at d;cases d
  have aL:w.heap.size≠k.b:=λe=>by
   obtain⟨_,d,_⟩:=I.all .book;rw[<-e,(I.law w.heap.size η).1] at d;cases d
  have aN:=λ(x:qz (λb=>b=k.b) w2)=>β0 (x.h.blk U.o.blk aK)
  have aO:=λ(x:qz (λb=>b=k.b) w2)=>β1 (x.h.blk aD.o aL)
  clear I
  go_upto_region 3 with fail
  refine QN (λb=>b=k.b) w2 8 8 [7] ?_
  refine Qs7 ?_
  (refine Ql ?_;intro K G)
  go_call gI (U.o.on (qa.drewN w2 1)).bok sub id 6 as e w4 ⟨rfl,ap,a4⟩;obtain⟨ar,t4⟩:=(U.o.on (qa.drewN w2 1)).book ap a4;have aC:=κ ar;have aF:Hid (qw ([w.heap.size]++F) w2 w4):=κ ((U.o.at.stay (qa.drewN w2 1)).trans t4);have ay:Hid (qg (λb=>b=k.b) w2 w4):=κ (((qg.refl _ _).drewN 1).trans a4);clear ap a4 ar t4;refine⟨_,rfl,qi ay.o,G _ _ ?_⟩;clear G K;refine qA ?_;go_wp2
  (refine bodyPost_end (v:= .tuple #[]) ?re4 rfl ?_;(case re4=>simp[results,results82,go_sem]))
  exact⟨rfl,by unfold RmS.rewrite;rw[ab.o];simp only[ao.o];rw[N.o];exact aC.o.sub (λb d=>List.mem_append_right _ d),ac.o.trans ((ad.o.trans aF.o).sub (λb d=>List.mem_append_right _ d))⟩
end
end
end Go.Proofs.YtlmllmonabafjaaGreatDoor
