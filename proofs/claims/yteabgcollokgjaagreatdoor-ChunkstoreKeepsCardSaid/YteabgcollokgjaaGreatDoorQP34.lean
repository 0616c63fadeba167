/- Q -/
import Derived.Test.YteabgcollokgjaaGreatDoorQP33
set_option linter.unusedSimpArgs false
set_option linter.unusedVariables false
set_option maxRecDepth 100000
set_option maxHeartbeats 32000000
open Go.Lib (hid)
open List renaming getD_eq_getElem?_getD → zA,length_append → zB,length_take → zC,getElem?_eq_getElem → zD,getElem_mem → zE,getElem?_take_of_lt → zF
open Nat renaming zero_le → zG
namespace Go.Proofs.YteabgcollokgjaaGreatDoor
section
open Go.RowKit Go.MapKept Go.ChangeMaps Go.Shelf Go.Sort
attribute [local go_sem] wext_cell
structure BS where
 d:BD
 bs:List UInt8
def bs0:BS:=⟨⟨none,0,0⟩,[]⟩
def encB (e:BS):List Value:=[.slice e.d.A e.d.len e.d.cap]
theorem encB_len (e:BS):(encB e).length=1:=rfl
def blOb (A:Option Addr) (T:List BS):Ob where
 own:=fun _=>False
 rd:=fun i=>(0<T.length/\A=some ⟨i,0,none⟩)∨∃ e∈T,blk e.d=some i
 holds:=fun w=>RowV w 34 1 A T.length (T.flatMap encB)/\∀ e∈T,RB w e.d e.bs
 stable:=fun w w' h hs hk=>by
  refine ⟨h.1.same (fun i hn e=>hk i (.inr (.inl ⟨hn,e⟩))),fun e he=>?_⟩;have hc:Ch w w' (fun i=>¬ blk e.d=some i) []:=⟨hs.1,hs.2.1,hs.2.2.1,hs.2.2.2,fun i _ hn _=>hk i (.inr (.inr ⟨e,he,Classical.not_not.1 hn⟩)),by simp⟩;exact (h.2 e he).ch hc (fun g hg hn=>hn hg) (by simp)
theorem blOb_lt {w:World} {A:Option Addr} {T:List BS} (h:(blOb A T).holds w) {i:Nat} (hi:(blOb A T).rd i):i<w.heap.size:=by
 rcases hi with ⟨hn,e⟩ | ⟨e,he,ea⟩
 · exact h.1.lt hn e
 exact (h.2 e he).lt ea
theorem blOb_at {w:World} {A:Option Addr} {T:List BS} (h:(blOb A T).holds w) {j:Nat} (hj:j<T.length) {e:BS} (he:T.getD j bs0=e):∃ g,A=some ⟨g,0,none⟩/\g<w.heap.size/\w.cell? ⟨g,j,none⟩=some (.slice e.d.A e.d.len e.d.cap)/\RB w e.d e.bs:=by
 obtain ⟨g,e1,hlt,hc⟩:=h.1.at (by omega);refine ⟨g,e1,hlt,?_,h.2 e ?_⟩
 · have:=flat_at encB_len bs0 T j 0 hj (by omega);rw [he] at this;rw [hc j (by omega)];simpa [encB] using this
 rw [<- he,zA,zD hj];exact zE hj
def DistB (T:List BS):Prop:=∀ j k,j<T.length->k<j->fpOf (T.getD j bs0).bs=fpOf (T.getD k bs0).bs->(T.getD j bs0).bs=(T.getD k bs0).bs
abbrev DistP (T:List BS) (w:World) (e:Ending) (w':World):Prop:=∃ v:Bool,e= .returned (.bool v)/\(v=true->DistB T)/\Below w.heap.size w w'
theorem Distinct_any {w:World} {A:Option Addr} {T:List BS} (h:(blOb A T).holds w) (c:Nat) (hl:T.length<=100000) (hb:∀ e∈T,e.bs.length<=1000000):Calls Tryz.prog 57 #[.slice A T.length c] w (DistP T w):=by
 have S0:=hid (SW.start (o:=blOb A T) h (fun _ h=>h) (fun _ h'=>blOb_lt h h'));have HB:=hid hb;clear h hb;go_enter Tryz.func57,Tryz.ntmps57;go_wp2_with fail
 go_loopw [3,4] (fun s3 s4 wr=>∃ (j:Nat) (D:Option Addr) (cap:Nat),j<=T.length/\s4= .int .i64 (j:Int)/\s3= .slice D ((T.take j).map fun e=>fpOf e.bs).length cap/\DistB (T.take j)/\SW w.heap.size w [rowOb 31 2 (.slice D ((T.take j).map fun e=>fpOf e.bs).length cap) ((T.take j).map fun e=>fpOf e.bs).length (((T.take j).map fun e=>fpOf e.bs).flatMap encID),blOb A T] wr) (fun _ s4 _=>T.length-(intOf s4).toNat)
 case atStart=>exact ⟨0,none,0,zG _,rfl,rfl,(fun j k hj=>by simp at hj),S0.out.newRow 31 2⟩
 obtain ⟨j,D,cap,hj,rfl,rfl,hd,hs⟩:=hrel;have HD:=hid hd;have S1:=hid hs;clear hd hs S0;by_cases hlt:j<T.length
 · obtain ⟨e,he⟩:∃ e,T.getD j bs0=e:=⟨_,rfl⟩;obtain ⟨g,hA,hgl,a0,hrb⟩:=blOb_at (S1.out.get 1 (o:=blOb A T) rfl) hlt he
   have hel:e.bs.length<=1000000:=by
    refine HB.out e ?_;rw [<- he,zA,zD hlt];exact zE hlt
   have hdl:e.d.len=e.bs.length:=hrb.1.symm;rw [hdl] at a0;have HOF:=hid (rOf_any e.d.A e.d.cap e.bs wr hrb.rs (by omega));obtain ⟨i,HI⟩:∃ i,Hid (fpOf e.bs=i):=⟨_,rfl⟩;rw [HI.out] at HOF
   have hts:T.take (j+1)=T.take j++[e]:=by
    rw [List.take_succ_eq_append_getElem hlt, <- he,zA,zD hlt];rfl
   have HTS:Hid ((T.take (j+1)).map (fun e=>fpOf e.bs)=(T.take j).map (fun e=>fpOf e.bs)++[i]):=by rw [Hid,hts,List.map_append, <- HI.out];rfl
   have hFl:((T.take j).map fun e=>fpOf e.bs).length=j:=by rw [List.length_map,zC];omega
   have HF:Hid (∀ k,k<j->((T.take j).map fun e=>fpOf e.bs).getD k id0=fpOf (T.getD k bs0).bs):=fun k hk=>by
    have hk2:k<T.length:=by omega
    rw [zA,List.getElem?_map,zF hk,zA,zD hk2];rfl
   generalize ((T.take j).map fun e=>fpOf e.bs)=F at S1 HTS hFl HF |-; have HE:=hid he;obtain ⟨i1,gi,gz0,gz1,gz2⟩:=info_parts info31;rw [hA];have HFl:=hid hFl;clear hts he hrb hFl hdl;go_wp2_with (first | (go_at_call 94;(with_reducible refine HOF.out.mono ?_);refine halt_ ?_) | (at_builtin;refine halt_ ?_))
   rintro e2 w2 ⟨rfl,hb2⟩;have S2:=hid (S1.out.on hb2);clear hb2 HOF S1;go_wp2_with (at_builtin;(refine wpList_rowS (t:=38) (e:=31) (size:=2) (bytes:=16) (i:=i1) (S2.out.alloc _) 0 rfl (by rfl) (.tmp 12) (.tmp 18) (by rfl) Tryz.underlying38 gi gz0 gz1 gz2 rfl (by omega) (by rfl) ⟨w2.heap.size,0,none⟩ 1 [.int .u64 i.1,.int .i64 i.2] (by rfl) rfl (two_new w2 _ _ 31 _ rfl) (encID_one i) (by unfold maxLen;have:=HFl.out;omega) (by have:=HFl.out;omega) ?_);refine halt_ ?_)
   intro v4 w4 s4;have hFl:=HFl.out;obtain ⟨g4,c4,rfl⟩:=own_some (s4.get 0 rfl) (by omega);obtain ⟨G,HG⟩:∃ G,Hid (F++[i]=G):=⟨_,rfl⟩;have hGl:G.length=j+1:=by rw [<- HG.out,zB,hFl];rfl
   have S4:Hid (SW w.heap.size w [rowOb 31 2 (.slice (some ⟨g4,0,none⟩) G.length c4) G.length (G.flatMap encID),blOb (some ⟨g,0,none⟩) T] w4):=by
    rw [Hid, <- HG.out,List.flatMap_append,zB];exact s4
   have HGk:Hid (∀ k,k<j->G.getD k id0=fpOf (T.getD k bs0).bs):=fun k hk=>by
    rw [<- HG.out,zA,List.getElem?_append_left (by omega), <- zA];exact HF.out k hk
   have HGj:Hid (G.getD j id0=i):=by
    rw [Hid, <- HG.out,zA,List.getElem?_append_right (by omega),hFl,Nat.sub_self];rfl
   rw [HG.out] at HTS;have e4:F.length+1=G.length:=by rw [hGl,hFl]
   rw [e4];have HGl:=hid hGl;clear s4 S2 a0 HF HG e4 hFl hGl;go_wp2_with fail
   rename World=>wq;go_loopw [5] (fun s5 wr=>∃ k:Nat,k<=j/\s5= .int .i64 (k:Int)/\(∀ m,m<k->fpOf e.bs=fpOf (T.getD m bs0).bs->e.bs=(T.getD m bs0).bs)/\SW w.heap.size w [rowOb 31 2 (.slice (some ⟨g4,0,none⟩) G.length c4) G.length (G.flatMap encID),blOb (some ⟨g,0,none⟩) T] wr) (fun s5 _=>j-(intOf s5).toNat)
   case atStart=>exact ⟨0,zG _,rfl,(fun m hm=>by omega),S4.out⟩
   obtain ⟨k,hk,rfl,hin,hs⟩:=hrel;have HIN:=hid hin;have S5:=hid hs;clear hin hs S4;by_cases hkj:k<j
   · obtain ⟨f,hf⟩:∃ f,T.getD k bs0=f:=⟨_,rfl⟩;obtain ⟨g',hA',hgl',b0,hrbk⟩:=blOb_at (S5.out.get 1 (o:=blOb (some ⟨g,0,none⟩) T) rfl) (by omega) hf;obtain ⟨g'',hA'',_,b1,hrbj⟩:=blOb_at (S5.out.get 1 (o:=blOb (some ⟨g,0,none⟩) T) rfl) hlt HE.out;injection hA' with hA';injection hA' with hA';subst hA';injection hA'' with hA'';injection hA'' with hA'';subst hA'';obtain ⟨_,hrow,hrl,_⟩:=own_rowI (S5.out.get 0 (o:=rowOb 31 2 (.slice (some ⟨g4,0,none⟩) G.length c4) G.length (G.flatMap encID)) rfl);obtain ⟨p0,p1,_,_⟩:=hrow.cells (j:=j) (by have:=HGl.out;omega) HGj.out;obtain ⟨q,hq⟩:∃ q,fpOf f.bs=q:=⟨_,rfl⟩;have hGk:=HGk.out k hkj;rw [hf,hq] at hGk;obtain ⟨q0,q1,_,_⟩:=hrow.cells (j:=k) (by have:=HGl.out;omega) hGk;have heq:=fun W=>eql31 i q W;have hjG:j<G.length:=by have:=HGl.out;omega
     have hkG:k<G.length:=by have:=HGl.out;omega
     have hkT:k<T.length:=by omega
     have v1:=fun q:Ext wr=>conv_rb (hrbj.on (wext_below q));have v2:=fun q:Ext wr=>conv_rb (hrbk.on (wext_below q));have HFK:=hid hf;have HQ:=hid hq;clear hrow hf hq hGk hA hrbk hrbj;by_cases e1:i=q
     · rw [decide_eq_true e1] at heq;clear e1;by_cases e2:e.bs=f.bs
       · rw [<- e2] at v2;have E2:=hid e2;clear e2;go_upto_region 9 with fail
         refine wp_region_ext (by kernel_rfl) (by kernel_rfl) ?_;repeat (go_big_quiet_step (fail))
         refine wpQuiet_nil ?_;intro w9 hb9;go_wp2_with fail
         go_roundw
         case rel=>
          refine ⟨k+1,by omega,by go_num,fun m hm he=>?_,S5.out.on hb9⟩;by_cases e3:m=k
          · subst e3;rw [HFK.out];exact E2.out
          exact HIN.out m (by omega) he
         simp [intOf];omega
       have hne:(e.bs==f.bs)=false:=beq_eq_false_iff_ne.2 e2;go_upto_region 9 with fail
       refine wp_region_ext (by kernel_rfl) (by kernel_rfl) ?_;repeat (go_big_quiet_step (fail))
       refine wpQuiet_nil ?_;intro w9 hb9;go_wp2_with fail
       go_ret;exact ⟨false,rfl,(fun h=>by cases h),(S5.out.on hb9).2⟩
     rw [decide_eq_false e1] at heq;have E1:=hid e1;clear e1;go_upto_region 9 with fail
     refine wp_region_ext (by kernel_rfl) (by kernel_rfl) ?_;repeat (go_big_quiet_step (fail))
     refine wpQuiet_nil ?_;intro w9 hb9;go_wp2_with fail
     go_roundw
     case rel=>
      refine ⟨k+1,by omega,by go_num,fun m hm he=>?_,S5.out.on hb9⟩;by_cases e2:m=k
      · subst e2;rw [HFK.out,HQ.out,HI.out] at he;exact absurd he E1.out
      exact HIN.out m (by omega) he
     simp [intOf];omega
   obtain rfl:k=j:=by omega
   go_wp2_with fail
   go_roundw
   case rel=>
    refine ⟨k+1,some ⟨g4,0,none⟩,c4,by omega,by go_num,?_,?_,?_⟩
    · rw [HTS.out]
    · have hlt':=hlt
      have ht:∀ m,m<=k->(T.take (k+1)).getD m bs0=T.getD m bs0:=fun m hm=>by
       rw [zA,zF (by omega), <- zA]
      intro a m ha hm hf;rw [zC] at ha;rw [ht a (by omega),ht m (by omega)] at hf |-; by_cases e1:a=k
      · subst e1;rw [HE.out] at hf |-; exact HIN.out m hm hf
      have ht2:∀ m,m<k->(T.take k).getD m bs0=T.getD m bs0:=fun m hm=>by
       rw [zA,zF hm, <- zA]
      have:=HD.out a m (by rw [zC];omega) hm;rw [ht2 a (by omega),ht2 m (by omega)] at this;exact this hf
    rw [HTS.out];exact S5.out
   simp [intOf];omega
 obtain rfl:j=T.length:=by omega
 rw [List.take_length] at HD;go_wp2_with fail
 go_ret;exact ⟨true,rfl,fun _=>HD.out,S1.out.2⟩
theorem SW.rowBl {b:Nat} {w0 w:World} {A:Option Addr} {c:Nat} {T:List BS} {t:List Ob} (h:SW b w0 (rowOb 34 1 (.slice A T.length c) T.length (T.flatMap encB)::t) w) (hb:∀ e∈T,RB w e.d e.bs):RowV w 34 1 A T.length (T.flatMap encB):=
 (RowV.of_own (h.get 0 (o:=rowOb 34 1 (.slice A T.length c) T.length (T.flatMap encB)) rfl)).1
theorem info34:(Tryz.prog.info? 34).map (fun i=>(i.zero,i.size,i.bytes))=some (some (.slice none 0 0),1,24):=by kernel_rfl
def bufsOb (T:List BS):Ob where
 own:=fun _=>False
 rd:=fun i=>∃ e∈T,blk e.d=some i
 holds:=fun w=>∀ e∈T,RB w e.d e.bs
 stable:=fun w w' h hs hk e he=>by
  have hc:Ch w w' (fun i=>¬ blk e.d=some i) []:=⟨hs.1,hs.2.1,hs.2.2.1,hs.2.2.2,fun i _ hn _=>hk i (.inr ⟨e,he,Classical.not_not.1 hn⟩),by simp⟩;exact (h e he).ch hc (fun g hg hn=>hn hg) (by simp)
end
section
open Go.RowKit Go.MapKept Go.ChangeMaps Go.Shelf Go.Sort
section
variable {b:Nat} {w0 w w':World} {l:List Ob}
theorem SW.fuseB {d:BD} {bs:List UInt8} {T:List BS} (h:SW b w0 (bufOb d bs::bufsOb T::l) w):SW b w0 (bufsOb (T++[(⟨d,bs⟩:BS)])::l) w:=
 SW.fuse (pre:=[bufOb d bs,bufsOb T]) h (fun e he=>by
  rcases List.mem_append.1 he with he | he
  · exact (h.get 1 (o:=bufsOb T) rfl) e he
  · rw [List.mem_singleton.1 he];exact h.get 0 (o:=bufOb d bs) rfl) (fun _ h=>h) (fun i hi=>by
  obtain ⟨e,he,hb⟩:=hi;rcases List.mem_append.1 he with he | he
  · exact ⟨bufsOb T,by simp,.inr ⟨e,he,hb⟩⟩
  rw [List.mem_singleton.1 he] at hb;exact ⟨bufOb d bs,by simp,.inl hb⟩)
theorem SW.noBufs (h:SW b w0 l w):SW b w0 (bufsOb []::l) w:=SW.fuse (pre:=[]) h (fun e he=>by cases he) (fun _ h=>h) (fun i hi=>by
 obtain ⟨e,he,_⟩:=hi;cases he)
theorem SW.fuseL {A:Option Addr} {c:Nat} {T:List BS} (h:SW b w0 (rowOb 34 1 (.slice A T.length c) T.length (T.flatMap encB)::bufsOb T::l) w):SW b w0 (blOb A T::l) w:=by
 have hb:∀ e∈T,RB w e.d e.bs:=h.get 1 (o:=bufsOb T) rfl;refine SW.fuse (pre:=[rowOb 34 1 (.slice A T.length c) T.length (T.flatMap encB),bufsOb T]) h ⟨h.rowBl hb,hb⟩ (fun _ h=>h) (fun i hi=>?_);rcases hi with ⟨hp,e⟩ | ⟨e,he,hb⟩
 · refine ⟨_,List.mem_cons_self .., .inl ?_⟩;show (Value.slice A T.length c).ownBlock=some i;rw [e];rfl
 exact ⟨bufsOb T,by simp,.inr ⟨e,he,hb⟩⟩
theorem Short_any (w:World):Calls Tryz.prog 32 #[] w (fun e w'=>∃ v:Bool,e= .returned (.bool v)/\Below w.heap.size w w'):=by
 go_enter Tryz.func32,Tryz.ntmps32;go_wp2_with fail
 go_loopw [1,2] (fun s1 s2 wr=>∃ (n:Nat) (T:List BS) (A:Option Addr) (cap:Nat),1<=n/\n<=5/\s2= .int .i64 (n:Int)/\s1= .slice A T.length cap/\T.length<=16*(n-1)/\(∀ e∈T,e.bs.length<=4)/\SW w.heap.size w (rowOb 34 1 (.slice A T.length cap) T.length (T.flatMap encB)::bufsOb T::[]) wr) (fun _ s2 _=>5-(intOf s2).toNat)
 case atStart=>exact ⟨1,[],none,0,by omega,by omega,rfl,rfl,zG _,(fun e he=>by cases he),(SW.noBufs (SW.refl (Sep.nil w (Nat.le_refl _)))).newRow 34 1⟩
 obtain ⟨n,T,A,cap,hn1,hn2,rfl,rfl,hT,hb4,hs⟩:=hrel;have S1:=hid hs;have HB:=hid hb4;clear hs hb4;by_cases hlt:n<=4
 · obtain ⟨M,hM,hM16⟩:∃ M:Nat,wrap64 (2^n)=(M:Int)/\M<=16:=by
    have:n=1∨n=2∨n=3∨n=4:=by omega
    rcases this with rfl | rfl | rfl | rfl
    · exact ⟨2,by decide+kernel,by omega⟩
    · exact ⟨4,by decide+kernel,by omega⟩
    · exact ⟨8,by decide+kernel,by omega⟩
    exact ⟨16,by decide+kernel,by omega⟩
   have hn0:(0:Int)<=(n:Int):=by omega
   have hd4:decide ((n:Int)<=4)=true:=decide_eq_true (by omega);go_wp2_with fail
   rename World=>wa;go_loopw [1,3] (fun s1 s3 wr=>∃ (v:Nat) (T:List BS) (A:Option Addr) (cap:Nat),v<=M/\s3= .int .i64 (v:Int)/\s1= .slice A T.length cap/\T.length<=16*(n-1)+v/\(∀ e∈T,e.bs.length<=4)/\SW w.heap.size w (rowOb 34 1 (.slice A T.length cap) T.length (T.flatMap encB)::bufsOb T::[]) wr) (fun _ s3 _=>M-(intOf s3).toNat)
   case atStart=>exact ⟨0,T,A,cap,zG _,rfl,rfl,hT,HB.out,S1.out⟩
   obtain ⟨v,T,A,cap,hv,rfl,rfl,hT,hb4,hs⟩:=hrel;have S1:=hid hs;have HB:=hid hb4;clear hs hb4;by_cases hlt2:v<M
   · have hl2:¬ (wrap64 (2^n)<=(v:Int)):=by omega
     go_wp2_with fail
     rename World=>wb;go_loopw [4,5] (fun s4 s5 wr=>∃ (i:Nat) (d:BD) (bs:List UInt8),i<=n/\s5= .int .i64 (i:Int)/\s4= .slice d.A d.len d.cap/\bs.length=i/\SW w.heap.size w (bufOb d bs::rowOb 34 1 (.slice A T.length cap) T.length (T.flatMap encB)::bufsOb T::[]) wr) (fun _ s5 _=>n-(intOf s5).toNat)
     case atStart=>exact ⟨0,⟨none,0,0⟩,[],zG _,rfl,rfl,rfl,S1.out.newBuf⟩
     obtain ⟨i,d,bs,hi,rfl,rfl,hbl,hs⟩:=hrel;have S2:=hid hs;have HBL:=hid hbl;clear hs S1 hbl;by_cases hlt3:i<n
     · have hi0:(0:Int)<=(i:Int):=by omega
       go_wp2_with (at_builtin;refine halt_ ?_)
       obtain ⟨yb,hyb⟩:∃ yb:UInt8,((yb.toNat:Nat):Int)=bits BinOp.and IntKind.i64 ((v:Int) / 2^i) 1 % 256:=⟨UInt8.ofNat (bits BinOp.and IntKind.i64 ((v:Int) / 2^i) 1 % 256).toNat,by rw [UInt8.toNat_ofNat'];omega⟩;rw [<- hyb];clear hyb;have hrb:RB wr d bs:=S2.out.get 0 (o:=bufOb d bs) rfl;have SB1:Hid (SB (wr.alloc (.cells #[.int .u8 ((yb.toNat:Nat):Int)] 5)) (some ⟨wr.heap.size,0,none⟩) [yb]):=sb_const wr _ rfl [yb] (0,0);refine wpList_append_bytes rfl _ _ rfl d bs rfl (hrb.on (bel1 _ _)) (some ⟨wr.heap.size,0,none⟩) 1 [yb] rfl SB1.out (by rw [HBL.out];simp only [List.length_cons,List.length_nil];omega) ?_;intro d2 w2 hl2 happ;have S3:Hid (SW w.heap.size w [bufOb d2 (bs++[yb]),rowOb 34 1 (.slice A T.length cap) T.length (T.flatMap encB),bufsOb T] w2):=(S2.out.alloc (.cells #[.int .u8 ((yb.toNat:Nat):Int)] 5)).appB 0 rfl happ;have HBL2:Hid ((bs++[yb]).length=i+1):=by rw [Hid,zB,HBL.out];rfl
       generalize bs++[yb]=bs2 at S3 HBL2;clear happ hl2 hrb SB1 S2;go_wp2_with fail
       go_roundw
       case rel=>exact ⟨i+1,d2,bs2,by omega,by go_num,rfl,HBL2.out,S3.out⟩
       simp [intOf];omega
     obtain rfl:i=n:=by omega
     obtain ⟨i1,gi,gz0,gz1,gz2⟩:=info_parts info34;go_wp2_with (at_builtin;(refine wpList_rowS (t:=86) (e:=34) (size:=1) (bytes:=24) (i:=i1) (S2.out.alloc _) 1 rfl (by rfl) (.tmp 29) (.tmp 31) (by rfl) Tryz.underlying86 gi gz0 gz1 gz2 rfl (by omega) (by rfl) ⟨wr.heap.size,0,none⟩ 1 [.slice d.A d.len d.cap] (by rfl) rfl (fun j u hu=>by rw [lit_add,Nat.zero_add,new_cell wr 34 #[.slice d.A d.len d.cap] _ rfl j];simpa using hu) (by intro u hu;rw [List.mem_singleton.1 hu];rfl) (by unfold maxLen;omega) (by omega) ?_);refine halt_ ?_)
     intro v4 w4 s4;obtain ⟨g4,c4,rfl⟩:=own_some (s4.get 1 rfl) (by omega)
     have s5:SW w.heap.size w (bufOb d bs::rowOb 34 1 (.slice (some ⟨g4,0,none⟩) (T++[(⟨d,bs⟩:BS)]).length c4) (T++[(⟨d,bs⟩:BS)]).length ((T++[(⟨d,bs⟩:BS)]).flatMap encB)::bufsOb T::[]) w4:=by
      rw [List.flatMap_append,zB];exact s4
     have S5:=hid (SW.front (pre:=[_,_]) ((SW.front (pre:=[_,_,_]) s5 [0,2,1] (n:=3) rfl (by decide)).fuseB) [1,0] (n:=2) rfl (by decide))
     have HB5:Hid (∀ e∈T++[(⟨d,bs⟩:BS)],e.bs.length<=4):=fun e he=>by
      rcases List.mem_append.1 he with he | he
      · exact HB.out e he
      rw [List.mem_singleton.1 he];show bs.length<=4;rw [HBL.out];omega
     have hTl:(T++[(⟨d,bs⟩:BS)]).length=T.length+1:=by rw [zB];rfl
     have e4:T.length+1=(T++[(⟨d,bs⟩:BS)]).length:=hTl.symm;rw [e4];generalize T++[(⟨d,bs⟩:BS)]=T2 at S5 HB5 hTl;clear s4 s5 S2 e4;go_wp2_with fail
     go_roundw
     case rel=>exact ⟨v+1,T2,some ⟨g4,0,none⟩,c4,by omega,by go_num,rfl,by omega,HB5.out,S5.out⟩
     simp [intOf];omega
   have hl2:wrap64 (2^n)<=(v:Int):=by omega
   obtain rfl:v=M:=by omega
   go_wp2_with fail
   go_roundw
   case rel=>exact ⟨n+1,T,A,cap,by omega,by omega,by go_num,rfl,by omega,HB.out,S1.out⟩
   simp [intOf];omega
 have hd4:decide ((n:Int)<=4)=false:=decide_eq_false (by omega);have HL:=hid S1.out.fuseL;have HD:=hid (Distinct_any (HL.out.get 0 (o:=blOb A T) rfl) cap (by omega) (fun e he=>by have:=HB.out e he;omega));go_wp2_with (go_at_call 57;(with_reducible refine HD.out.mono ?_);refine halt_ ?_)
 rintro e w2 ⟨v,rfl,_,hb⟩;have B2:=hid (HL.out.on hb).2;clear hb HD HL S1;go_wp2_with fail
 go_ret;exact ⟨v,rfl,B2.out⟩
end
theorem RTX.remL {r r':R3} {P:List (List UInt8)} (h:RTX r P) {ids:List ID} (he:r'.E=remE r.E ids):RTX r' (P.filter fun t=> !decide (fpOf t∈ids)):=by
 refine ⟨?_,fun i=>?_,fun e hm=>?_⟩
 · rw [he];exact List.Pairwise.sublist List.filter_sublist h.sort
 · show i∈r'.E.map (·.id)↔_;rw [he];have hh:=h.has i;simp only [remE,List.mem_map,List.mem_filter,R3.ids] at hh |-; constructor
   · rintro ⟨e,⟨h1,h2⟩,rfl⟩;obtain ⟨t,ht,e2⟩:=hh.1 ⟨e,h1,rfl⟩;exact ⟨t,⟨ht,by rw [e2];exact h2⟩,e2⟩
   rintro ⟨t,⟨h1,h2⟩,rfl⟩;obtain ⟨e,he,e2⟩:=hh.2 ⟨t,h1,rfl⟩;exact ⟨e,⟨he,by rw [e2];exact h2⟩,e2⟩
 rw [he] at hm;exact h.val e (List.mem_filter.1 hm).1
end
section
open Go.RowKit Go.MapKept Go.ChangeMaps Go.Shelf Go.Sort
attribute [local go_sem] wext_cell
def Syn (w:World):Prop:=∃ ev,w.cell? ⟨0,0,none⟩=some ev/\(ev= .nilIface∨∃ te pe,ev= .iface te pe)
theorem Syn.on {b:Nat} {w w':World} (h:Syn w) (h0:0<b) (hb:Below b w w'):Syn w':=by
 obtain ⟨ev,h1,h2⟩:=h;exact ⟨ev,(hb.cell (p:=⟨0,0,none⟩) h0).trans h1,h2⟩
def Alien (nm m:ByteArray):Prop:=m=freshN nm∨(Lib.hasPrefix m.data.toList (nm++⟨#[46]⟩:ByteArray).data.toList=false/\m.size<=18)
theorem pre_new (nm:ByteArray) (w:World):Calls Tryz.prog 131 #[.string (freshN nm),.string (nm++⟨#[46]⟩)] w (fun e w'=>e= .returned (.tuple #[.string ⟨#[110,101,119]⟩,.bool true])/\w=w'):=by
 have hf:(freshN nm).data.toList=(nm++⟨#[46]⟩:ByteArray).data.toList++[110,101,119]:=by
  unfold freshN;rw [ByteArray.data_append,Array.toList_append,ByteArray.data_append,Array.toList_append,List.append_assoc];rfl
 have h1:Lib.hasPrefix (freshN nm).data.toList (nm++⟨#[46]⟩:ByteArray).data.toList=true:=by
  unfold Lib.hasPrefix;rw [hf];exact List.isPrefixOf_iff_prefix.2 (List.prefix_append _ _)
 have h2:Lib.trimPrefix (freshN nm).data.toList (nm++⟨#[46]⟩:ByteArray).data.toList=[110,101,119]:=by
  unfold Lib.trimPrefix;rw [if_pos h1,hf,List.drop_left]
 have h:=Tryz.strings_CutPrefix (freshN nm) (nm++⟨#[46]⟩) w;rw [h1,h2] at h;exact h.mono (fun e w' h=>⟨h.1,h.2.symm⟩)
theorem pre_no {nm m:ByteArray} (h1:Lib.hasPrefix m.data.toList (nm++⟨#[46]⟩:ByteArray).data.toList=false) (w:World):Calls Tryz.prog 131 #[.string m,.string (nm++⟨#[46]⟩)] w (fun e w'=>e= .returned (.tuple #[.string m,.bool false])/\w=w'):=by
 have h2:Lib.trimPrefix m.data.toList (nm++⟨#[46]⟩:ByteArray).data.toList=m.data.toList:=by
  unfold Lib.trimPrefix;rw [if_neg (by rw [h1];simp)]
 have h:=Tryz.strings_CutPrefix m (nm++⟨#[46]⟩) w;rw [h1,h2] at h;exact h.mono (fun e w' h=>⟨h.1,h.2.symm⟩)
theorem atoiNew:Lib.atoi [110,101,119]=none:=by kernel_rfl
theorem atoi_bad (m:ByteArray) (hl:m.size<=18) (ha:Lib.atoi m.data.toList=none) (w:World) (hS:Syn w):Calls Tryz.prog 132 #[.string m] w (fun e w'=>∃ N,e= .returned (.tuple #[.int .i64 0,.iface 297 (.pointer (some ⟨N,0,none⟩))])/\Below w.heap.size w w'):=by
 obtain ⟨ev,hv,hev⟩:=hS;refine (Any.strconv_Atoi_err Tryz.atoiC m hl ha ev w hv hev).mono ?_;rintro e w' ⟨N,rfl, -, -, hb⟩;exact ⟨N,rfl,hb⟩
theorem atoi_all (m:ByteArray) (hl:m.size<=18) (w:World) (hS:Syn w):Calls Tryz.prog 132 #[.string m] w (fun e w'=>∃ n v,e= .returned (.tuple #[.int .i64 n,v])/\Below w.heap.size w w'):=by
 cases ha:Lib.atoi m.data.toList with
 | none=>
  refine (atoi_bad m hl ha w hS).mono ?_;rintro e w' ⟨N,rfl,hb⟩;exact ⟨_,_,rfl,hb⟩
 | some v=>
  refine (Any.strconv_Atoi Tryz.atoiC.toM.ton172 m v hl ha w).mono ?_;rintro e w' ⟨rfl,t,rfl⟩;exact ⟨_,_,rfl,Lib.bytesWorld_below _ _ _⟩
def NumR (w1:World) (nm:ByteArray) (ns:List ByteArray) (j:Nat) (v:Value) (wr:World):Prop:=
 (fileN nm ∉ ns.take j/\v= .slice none 0 0/\Below w1.heap.size w1 wr)∨
 (fileN nm∈ns.take j/\∃ g c,v= .slice (some ⟨g,0,none⟩) 1 c/\SW w1.heap.size w1 [rowOb 3 1 v 1 [.int .i64 1]] wr)
section
variable {w1 wr w':World} {nm:ByteArray} {ns:List ByteArray} {j:Nat} {v:Value}
theorem NumR.below (h:NumR w1 nm ns j v wr):Below w1.heap.size w1 wr:=by
 rcases h with ⟨_,_,h⟩ | ⟨_,_,_,_,h⟩
 · exact h
 exact h.2
theorem takeN_at (hj:j<ns.length):ns.take (j+1)=ns.take j++[ns.getD j ByteArray.empty]:=by
 rw [List.take_add_one,zD hj,zA,zD hj];rfl
theorem NumR.alien (h:NumR w1 nm ns j v wr) (hj:j<ns.length) (hne:ns.getD j ByteArray.empty≠fileN nm) (hb:Below wr.heap.size wr w'):NumR w1 nm ns (j+1) v w':=by
 rcases h with ⟨h1,h2,h3⟩ | ⟨h1,g,c,h2,h3⟩
 · refine .inl ⟨fun hm=>?_,h2,h3.trans (hb.mono h3.size)⟩;rw [takeN_at hj] at hm;rcases List.mem_append.1 hm with hm | hm
   · exact h1 hm
   exact hne (List.mem_singleton.1 hm).symm
 refine .inr ⟨?_,g,c,h2,h3.on hb⟩;rw [takeN_at hj];exact List.mem_append_left _ h1
theorem NumR.slice (h:NumR w1 nm ns j v wr):∃ A n c,v= .slice A n c:=by
 rcases h with ⟨_,h2,_⟩ | ⟨_,g,c,h2,_⟩
 · exact ⟨_,_,_,h2⟩
 exact ⟨_,_,_,h2⟩
theorem NumR.own (h:NumR w1 nm ns j v wr) (hj:j<ns.length) (hn:ns.Nodup) (he:ns.getD j ByteArray.empty=fileN nm):v= .slice none 0 0/\Below w1.heap.size w1 wr:=by
 rcases h with ⟨_,h2,h3⟩ | ⟨h1,_⟩
 · exact ⟨h2,h3⟩
 exfalso
 have hs:(ns.take (j+1)).Nodup:=hn.sublist (List.take_sublist _ _);rw [takeN_at hj,List.nodup_append] at hs;exact hs.2.2 _ h1 _ (List.mem_singleton.2 rfl) he.symm
theorem NumR.fin (h:NumR w1 nm ns j v wr) (hj:ns.take j=ns):(fileN nm ∉ ns/\v= .slice none 0 0/\Below w1.heap.size w1 wr)∨(fileN nm∈ns/\∃ g c,v= .slice (some ⟨g,0,none⟩) 1 c/\SW w1.heap.size w1 [rowOb 3 1 v 1 [.int .i64 1]] wr):=by
 unfold NumR at h;rw [hj] at h;exact h
end
theorem SW.joinW {b:Nat} {w0 w w':World} {l l':List Ob} (h:SW b w0 l w) (h':SW w.heap.size w l' w') (hr:∀ o∈l',∀ i,o.rd i->w.heap.size<=i):SW b w0 (l'++l) w':=⟨h.1.join h'.2 h'.1 hr,h.2.trans (h'.2.mono h.1.base)⟩
theorem file_pre (nm:ByteArray):Lib.hasPrefix (fileN nm).data.toList (nm++⟨#[46]⟩:ByteArray).data.toList=true:=by
 unfold Lib.hasPrefix fileN;rw [ByteArray.data_append,Array.toList_append];exact List.isPrefixOf_iff_prefix.2 (List.prefix_append _ _)
theorem Alien.ne {nm m:ByteArray} (h:Alien nm m):m≠fileN nm:=by
 rintro rfl;rcases h with h | ⟨h,_⟩
 · have:=congrArg ByteArray.size h;unfold fileN freshN at this;rw [ByteArray.size_append,ByteArray.size_append,ByteArray.size_append] at this;have e1:(⟨#[46]⟩:ByteArray).size=1:=rfl;have e2:(⟨#[49]⟩:ByteArray).size=1:=rfl;have e3:(⟨#[46,110,101,119]⟩:ByteArray).size=4:=rfl;omega
 rw [file_pre] at h;cases h
section
variable {b:Nat} {w:World} {l:List Ob} {x:SR}
abbrev SR.with1 (x:SR) (fb sb:Nat) (bs:List UInt8):SR:={ x with C:=(scanF bs bs.length 0 [] [] true).1,F:=some ⟨fb,sb,bs.length,(scanF bs bs.length 0 [] [] true).2.2,(scanF bs bs.length 0 [] [] true).2.1⟩ }
def LoadP (b:Nat) (w:World) (x:SR) (bs:List UInt8) (l:List Ob) (e:Ending) (w':World):Prop:=
 e= .returned (.int .i64 0)/\(((x.s.now (fileN x.nm)).isSome=false/\SW b w (x.obs l) w')∨((x.s.now (fileN x.nm)).isSome=true/\∃ fb sb,SW b w ((x.with1 fb sb bs).obs l) w'))
theorem load_gen {bs:List UInt8} (h:Sto b w x l) (hb0:0<b) (hS:Syn w) (hF:x.F=none) (hC:x.C=[]) (hnm:x.nm.size<=1000) (hN:∀ m,(x.s.now m).isSome=true->m=fileN x.nm∨Alien x.nm m) (hR:(x.s.now (fileN x.nm)).isSome=true->readE x.s (fileN x.nm)=0/\readB x.s (fileN x.nm)=bs):
 Calls Tryz.prog 83 #[vPtr x.ps] w (LoadP b w x bs l):=by
 have HN:=hid (Names_any x.p x.r x.s w h.sdv);have k0:w.cell? ⟨x.ps,0,none⟩=some (vPtr x.p):=h.scell.cell 0;have S0:Hid (SW b w (x.obs l) w):=SW.refl h;have HNM:=hid hN;have HRD:=hid hR;have HSY:=hid hS;have HB0:=hid hb0
 have HLN:Hid (∀ ns,Listed x.s.now ns->ns.length<=256):=fun ns hl=>by
  obtain ⟨_,c,hc,hc2⟩:=h.sdv.ok.now;have:ns.length=c:=Cnt.uniq ⟨ns,hl.nodup,hl.mem,rfl⟩ hc2;omega
 have HF:=hid hF;have HCC:=hid hC;have HFN:=hid (fun (W:World) (hW:SW b w (x.obs l) W)=>fileName_any x.ps x.nm W ((hW.cell 1 rfl).cell 1) hnm);clear h hN hR hS hF hC hb0;go_enter Tryz.func83,Tryz.ntmps83;go_wp2_with (go_at_call 37;(with_reducible refine HN.out.mono ?_);refine halt_ ?_)
 rintro e w1 ⟨A,c,ns,rfl,hls,hrd,hb1⟩;have S1:=hid (S0.out.on hb1);have HLS:=hid hls;have HRDS:=hid hrd;obtain ⟨n,Hn⟩:∃ n,Hid (ns.length=n):=⟨_,rfl⟩;have hn:n<=256:=by rw [<- Hn.out];exact HLN.out ns hls
 have HSY1:=hid (HSY.out.on HB0.out (hb1.mono S0.out.1.base));rw [Hn.out];clear hls hrd hb1 HN k0 S0 HLN HSY;go_wp2_with fail
 go_loopw [3,20] (fun s3 s20 wr=>∃ j:Nat,s20= .int .i64 (j:Int)/\j<=n/\NumR w1 x.nm ns j s3 wr) (fun _ s20 _=>n-(intOf s20).toNat)
 case atStart=>exact ⟨0,rfl,zG _,.inl ⟨by simp,rfl,Below.refl _ _⟩⟩
 obtain ⟨j,rfl,hj,hnr⟩:=hrel;have NR:=hid hnr;by_cases hjl:j<n
 · have hjn:j<ns.length:=by rw [Hn.out];exact hjl
   obtain ⟨b1,rfl,hb1lt,hrd1⟩:=HRDS.out (by omega);obtain ⟨m,Hm⟩:∃ m,Hid (ns.getD j ByteArray.empty=m):=⟨_,rfl⟩
   have n0:wr.cell? ⟨b1,j,none⟩=some (.string m):=by
    rw [<- Hm.out];exact (hnr.below.cell (p:=⟨b1,j,none⟩) hb1lt).trans (hrd1 j hjn)
   have hmem:m∈ns:=by
    rw [<- Hm.out,zA,zD hjn];exact zE hjn
   have hmm:=hid (HNM.out m ((HLS.out.mem m).1 hmem));have SR1:=hid (S1.out.on hnr.below);have p1:wr.cell? ⟨x.ps,1,none⟩=some (.string x.nm):=(SR1.out.cell 1 rfl).cell 1;have HSYr:=hid (HSY1.out.on HB0.out (hnr.below.mono S1.out.1.base));have ha1:=fun W=>add_str x.nm ⟨#[46]⟩ W (by show x.nm.size+1<=_;omega);clear hmem hrd1 hb1lt;rcases hmm.out with he | ha
   · subst he;have HEQ:Hid (ns.getD j ByteArray.empty=fileN x.nm):=Hm;obtain ⟨A0,n0',c0,hv⟩:=hnr.slice;subst hv;have hown:=hnr.own hjn HLS.out.nodup HEQ.out;have HV0:=hid hown.1
     have Hn0:Hid (n0'=0):=by
      have:=hown.1;injection this
     have HB:=hid hown.2;clear hnr hmm hown;have HCP:=hid (cutPre x.nm);have HAT:=hid atoi1;go_wp2_with (first | (go_at_call 131;(with_reducible refine (HCP.out _).mono ?_);rintro e w2 ⟨rfl,rfl⟩) | (go_at_call 132;refine halt_ ?_))
     refine hid ((HAT.out wr).mono ?_);rintro e w3 ⟨rfl,hb3⟩;have S3:=hid (SR1.out.on hb3);have HB3:=hid (HB.out.trans (hb3.mono HB.out.size));clear hb3 HAT HCP SR1 p1 n0 ha1 HB;go_wp2_with (first | (go_at_call 101;(with_reducible refine (HFN.out _ S3.out).mono ?_);refine halt_ ?_))
     rintro e w4 ⟨rfl,q4,hw4⟩
     have S4:Hid (SW w1.heap.size w1 [rowOb 3 1 (.slice A0 n0' c0) n0' []] w4):=by
      rw [Hid,HV0.out,Hn0.out];exact ((SW.refl (Sep.nil w1 (Nat.le_refl _))).on (HB3.out.trans ((after_drew0 hw4).mono HB3.out.size))).newRow 3 1
     have hn0:n0'<=0:=by rw [Hn0.out];omega
     clear hw4 S3 HB3;obtain ⟨i1,gi,gz0,gz1,gz2⟩:=info_parts info3;go_wp2_with (at_builtin;(refine wpList_rowS (t:=47) (e:=3) (size:=1) (bytes:=8) (i:=i1) (S4.out.alloc _) 0 rfl (by rfl) (.tmp 55) (.tmp 57) (by rfl) Tryz.underlying47 gi gz0 gz1 gz2 rfl (by omega) (by rfl) ⟨w4.heap.size,0,none⟩ 1 [.int .i64 1] (by rfl) rfl (one_at (cell_new w4 3 _)) (by intro u hu;simp at hu;rw [hu];rfl) (by unfold maxLen;omega) (by omega) ?_);refine halt_ ?_)
     intro v5 w5 s5
     have S5:Hid (SW w1.heap.size w1 [rowOb 3 1 v5 1 [.int .i64 1]] w5):=by
      have:=s5;rw [Hn0.out] at this;exact this
     clear s5 S4 hn0 HV0 Hn0;obtain ⟨g5,c5,rfl⟩:=own_some (S5.out.get 0 rfl) (by omega);have NR2:Hid (NumR w1 x.nm ns (j+1) (.slice (some ⟨g5,0,none⟩) 1 c5) w5):=.inr ⟨by rw [takeN_at hjn,HEQ.out];simp,g5,c5,rfl,S5.out⟩;clear S5 NR;go_wp2_with fail
     go_roundw
     case rel=>exact ⟨j+1,by go_num,by omega,NR2.out⟩
     simp [intOf];omega
   have HNE:Hid (ns.getD j ByteArray.empty≠fileN x.nm):=by rw [Hid,Hm.out];exact ha.ne
   obtain ⟨A0,n0',c0,hv⟩:=hnr.slice;subst hv;clear hnr hmm;rcases ha with rfl | ⟨hpre,hsz⟩
   · have HCP:=hid (pre_new x.nm);have HAT:=hid (fun (W:World) (hW:Syn W)=>atoi_bad ⟨#[110,101,119]⟩ (by show 3<=18;omega) atoiNew W hW);go_wp2_with (first | (go_at_call 131;(with_reducible refine (HCP.out _).mono ?_);rintro e w2 ⟨rfl,rfl⟩) | (go_at_call 132;refine halt_ ?_))
     refine hid ((HAT.out wr HSYr.out).mono ?_);rintro e w3 ⟨N,rfl,hb3⟩;have NR2:=hid (NR.out.alien hjn HNE.out hb3);clear hb3 HAT HCP SR1 p1 n0 ha1 NR;go_wp2_with fail
     go_roundw
     case rel=>exact ⟨j+1,by go_num,by omega,NR2.out⟩
     simp [intOf];omega
   have HCP:=hid (pre_no hpre);have HAT:=hid (atoi_all m hsz);go_wp2_with (first | (go_at_call 131;(with_reducible refine (HCP.out _).mono ?_);rintro e w2 ⟨rfl,rfl⟩) | (go_at_call 132;refine halt_ ?_))
   refine hid ((HAT.out wr HSYr.out).mono ?_);rintro e w3 ⟨N,v,rfl,hb3⟩;have NR2:=hid (NR.out.alien hjn HNE.out hb3);clear hb3 HAT HCP SR1 p1 n0 ha1 NR;go_wp2_with fail
   go_roundw
   case rel=>exact ⟨j+1,by go_num,by omega,NR2.out⟩
   simp [intOf];omega
 have hjn:ns.take j=ns:=by rw [List.take_of_length_le];rw [Hn.out];omega
 have HM:=hid (HLS.out.mem (fileN x.nm));have HNR:=hid (hnr.fin hjn);clear hnr NR hjn;rcases HNR.out with ⟨hno,rfl,hbl⟩ | ⟨hyes,g5,c5,rfl,s5⟩
 · have HNO:Hid ((x.s.now (fileN x.nm)).isSome=false):=by
    rw [Hid,Bool.eq_false_iff];exact fun e=>hno (HM.out.2 e)
   have SF:=hid (S1.out.on hbl);clear hno hbl HNR HM;go_wp2_with (go_at_call 133;(with_reducible refine (Tryz.slices_Sort_int_none none 0 _).mono ?_);rintro e w2 ⟨rfl,rfl⟩)
   refine wp_loop_rounds 1 ?_;rw [rounds_succ];go_wp2_with fail
   go_ret;exact ⟨rfl,.inl ⟨HNO.out,SF.out⟩⟩
 have HYES:=hid (HM.out.1 hyes);obtain ⟨hE0,hB0⟩:=HRD.out HYES.out;have HE:=hid hE0;have HB:=hid hB0;have S5:Hid (SW b w (rowOb 3 1 (.slice (some ⟨g5,0,none⟩) 1 c5) 1 [.int .i64 1]::x.obs l) wr):=S1.out.joinW s5 (fun o ho i hi=>by rw [List.mem_singleton.1 ho] at hi;exact hi.elim)
 have hbl:Hid (bs.length<=4194304):=by
  have:=readB_len S1.out.1.sdv.ok (fileN x.nm);rw [hB0] at this;exact this
 clear hE0 hB0 s5 hyes HM HNR S1 HRD;have HSO:=hid (sort1 S5.out 0 rfl);go_wp2_with (first | (go_at_call 133;(with_reducible refine HSO.out.mono ?_);refine halt_ ?_))
 rintro e w6 ⟨rfl,s6⟩;have S6:=hid s6;clear s6 HSO S5
 have r0:w6.cell? ⟨g5,0,none⟩=some (.int .i64 1):=by
  obtain ⟨g',c',e,h1, -⟩:=own_one (S6.out.get 0 (o:=rowOb 3 1 (.slice (some ⟨g5,0,none⟩) 1 c5) 1 [.int .i64 1]) rfl);injection e with e1 e2 e3;injection e1 with e1;injection e1 with e1;rw [e1];exact h1
 go_wp2_with fail
 refine wp_loop_rounds 2 ?_;rw [rounds_succ];have q0:w6.cell? ⟨x.ps,0,none⟩=some (vPtr x.p):=(S6.out.cell 2 rfl).cell 0;have hpl:x.ps<w6.heap.size:=(S6.out.cell 2 rfl).lt;go_upto_region 14 with fail
 have S6d:=hid S6.out.tail.drew;clear S6 r0
 have HRE:Hid (∀ W5,SW b w (x.obs l) W5->Calls Tryz.prog 38 #[vPtr x.p,.string (fileN x.nm)] W5 (fun e w'=>∃ A n c,e= .returned (.tuple #[.slice A n c,.int .i64 0])/\n=bs.length/\bs.length<=c/\SW b w (rsOb A bs::x.obs l) w')):=fun W5 h5=>(Read_any x.p x.r x.s (fileN x.nm) W5 h5.1.sdv (file_ok hnm)).mono (by
  rintro e w8 ⟨⟨A8,n8,c8⟩,rfl,hr8,hd8,hb8⟩;rw [HE.out];rw [HB.out] at hr8;exact ⟨A8,n8,c8,rfl,hr8.1.symm,hr8.1 ▸ hr8.2.1,(h5.newBytes hb8 hr8 hd8).bufRs⟩)
 go_region_held (fun w'=>w'.cell? ⟨x.ps,0,none⟩=some (vPtr x.p))
  (first | go_keep | exact K5.out | exact K6.out)
  (first
    | (go_at_call 101;(with_reducible refine (HFN.out _ S6d.out).mono ?_);rintro e w7 ⟨rfl,q7,hw7⟩;have S7:=hid (S6d.out.on (after_drew0 hw7));have K5:Hid (w7.cell? ⟨x.ps,0,none⟩=some (vPtr x.p)):=(S7.out.cell 1 rfl).cell 0;clear hw7)
    | (go_at_call 38;(with_reducible refine (HRE.out w7 S7.out).mono ?_);rintro e w8 ⟨A8,n8,c8,rfl,hn8,hc8,s8⟩;have S8:=hid s8;have HN8:=hid hn8;have K6:Hid (w8.cell? ⟨x.ps,0,none⟩=some (vPtr x.p)):=(S8.out.cell 2 rfl).cell 0;clear s8 hn8))
 have hn8:=HN8.out;subst hn8;clear HN8;have S9:Hid (SW b w (x.obs (rsOb A8 bs::l)) w8):=S8.out.behind;have HLF:=hid (loadFile_any A8 bs S9.out HF.out HCC.out c8 hbl.out hc8 hnm HE.out HB.out);clear S8 S9 K6 K5 HRE HFN q0 hpl S7 S6d;go_wp2_with (go_at_call 134;(with_reducible refine HLF.out.mono ?_);rintro e w9 ⟨rfl,fb,sb,s9⟩;have S10:=hid s9;clear s9 HLF)
 rw [rounds_succ];go_wp2_with fail
 go_ret;exact ⟨rfl,.inr ⟨HYES.out,fb,sb,S10.out.sub (by simp [SR.obs])⟩⟩
end
end
end Go.Proofs.YteabgcollokgjaaGreatDoor
